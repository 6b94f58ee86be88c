/- Frame: FrameForged walked. -/
import Derived.Test.YthoikljmokkchaaDoorFrWE
import Derived.Test.YthoikljmokkchaaDoorFrHist
import Derived.Test.YthoikljmokkchaaDoorFrManyX
import Derived.Test.YthoikljmokkchaaDoorFrRd
import Derived.Test.YthoikljmokkchaaDoorFrSM
import Derived.Deep.DrawnRows
import Derived.StillTailTactics
import Derived.BigQuiet
namespace Go.Proofs.YthoikljmokkchaaDoor
open Go.RowKit
attribute [local go_sem ↓] Go.wp_at_zero Go.wp_at_succ
def lVa : Op := Op.load 35 (.tmp 63)
theorem lVa_eq : Op.load 35 (.tmp 63) = lVa := rfl
attribute [local go_sem] lVa
def ForgS (w : World) (l : List Nat) (s p : Nat) (g c n k : Nat) (wr : World) : Prop := ∃ y : List Nat, y.length = n ∧ (∀ c ∈ y, c < 256) ∧ Cr.num y = Cr.num l ^^^ (p % 2 ^ k) * 2 ^ s ∧ Own (fun k => w.heap.size ≤ k) wr 5 1 (.slice (some ⟨g, 0, none⟩) n c) n (u8s y) ∧ Keeps (fun b => w.heap.size ≤ b) w wr
theorem u32_tdivJ (p k : Nat) (hp : p < 4294967296) : ((p / 2 ^ k : Nat) : Int) / 2 % 4294967296 = ((p / 2 ^ (k + 1) : Nat) : Int) := by
  rw [Nat.pow_succ, ← Nat.div_div_eq_div_mul]
  have : p / 2 ^ k ≤ p := Nat.div_le_self _ _
  generalize p / 2 ^ k = q at *
  omega
theorem own_bitJ {w : World} {S : Nat → Prop} {g c n : Nat} {y : List Nat} (m : Nat) (hm : m / 8 < n) (hl : y.length = n) (h : Own S w 5 1 (.slice (some ⟨g, 0, none⟩) n c) n (u8s y)) :
    w.cell? ⟨g, m / 8, none⟩ = some (.int .u8 (y.getD (m / 8) 0 : Nat)) ∧ w.frozen? ⟨g, m / 8, none⟩ = false ∧ Own S (w.setCell ⟨g, m / 8, none⟩ (.int .u8 (y.getD (m / 8) 0 ^^^ 2 ^ (m % 8) : Nat))) 5 1 (.slice (some ⟨g, 0, none⟩) n c) n (u8s (Cr.flipped y m)) ∧ S g := by
  refine ⟨?_, h.1.frozenAt _, ?_, h.2 g rfl⟩
  · rw [h.1.cellAt (m / 8) (by omega)]
    have := u8s_getD y (m / 8) (by omega)
    rw [← this, List.getD, List.getElem?_eq_getElem (by simp; omega)]; rfl
  · have e : u8s (Cr.flipped y m) = (u8s y).set (m / 8) (.int .u8 (y.getD (m / 8) 0 ^^^ 2 ^ (m % 8) : Nat)) := by simp [Cr.flipped, u8s, List.map_set]
    rw [e]
    exact ⟨(h.1.stored _ _).1, h.2⟩
theorem forg_same {l y : List Nat} {q p : Nat} (hl : ∀ c ∈ l, c < 256) (hy : ∀ c ∈ y, c < 256) (hlen : y.length = l.length) (hn : Cr.num y = Cr.num l ^^^ q * 2 ^ p) (h0 : q = 0) : y = l :=
  Cr.num_inj hy hl hlen (by rw [hn, h0, Nat.zero_mul, Nat.xor_zero])
theorem encF_bytes {f : Fr} (h : f.ok) : ∀ c ∈ covL f ++ Wi.enc f.t, c < 256 := fun c hc => by
  rcases List.mem_append.1 hc with hc | hc
  · exact covL_lt h c hc
  · exact Wi.enc_lt _ _ hc
theorem forg_bad {f : Fr} (h : f.ok) {y : List Nat} {q p : Nat} (hy : ∀ c ∈ y, c < 256) (hlen : y.length = (encF f).length) (hq : q < 4294967296) (hp : p ≤ 8 * (encF f).length) (hn : Cr.num y = Cr.num (encF f) ^^^ q * 2 ^ p) (h0 : q ≠ 0) : (Cr.opened y).2 = 8 := by
  unfold encF at hlen hp hn
  have := Cr.opened_burst (encF_bytes h) hy (by rw [hlen, Cr.seal_len]) p q hq (by rw [← Cr.seal_len]; exact hp) hn
  rwa [if_neg h0] at this
theorem forg_good {f : Fr} (h : f.ok) {y : List Nat} {q p : Nat} (hy : ∀ c ∈ y, c < 256) (hlen : y.length = (encF f).length) (hq : q < 4294967296) (hp : p ≤ 8 * (encF f).length) (hn : Cr.num y = Cr.num (encF f) ^^^ q * 2 ^ p) (h0 : q = 0) : (Cr.opened y).2 = 0 := by
  unfold encF at hlen hp hn
  have := Cr.opened_burst (encF_bytes h) hy (by rw [hlen, Cr.seal_len]) p q hq (by rw [← Cr.seal_len]; exact hp) hn
  rwa [if_pos h0] at this
theorem decM_bad {y : List Nat} (h : (Cr.opened y).2 = 8) : (decM y).2 = 8 := by unfold decM; rw [if_neg (by rw [h]; decide), h]
theorem decM_good {f : Fr} (h : f.ok) (h0 : 0 ≤ f.k) (h1 : f.b.length ≤ 512) {y : List Nat} (e : y = encF f) : (decM y).2 = 0 := by rw [e, dec_enc h, if_neg (by omega), if_neg (by omega)]
theorem own_someJ {S : Nat → Prop} {w : World} {e : TypeId} {size n c : Nat} {a : Option Addr} {xs : List Value} (h : Own S w e size (.slice a n c) n xs) (hn : 0 < n) : ∃ g, a = some ⟨g, 0, none⟩ := by
  rcases h.1.2 with ⟨_, h0⟩ | ⟨g, cap, cur, h, _⟩
  · omega
  · exact ⟨g, by injection h with h _⟩
set_option maxRecDepth 100000 in
set_option maxHeartbeats 8000000 in
theorem forged_any (key : Nat) (l : List AC) (v : Value) (tag : Nat) (at_ : Int) (pb : Nat) (w : World) (hN : Cr.Nib w) (hkey : key < 18446744073709551616) (hv : Acs (fun b => b < w.heap.size) w v l) (hx : ∀ x ∈ l, AcOk x) (htag : tag < 18446744073709551616) (ha0 : -9223372036854775808 ≤ at_) (ha1 : at_ ≤ 9223372036854775807) (hpb : pb < 4294967296) :
    Calls Tryd.prog 12 #[.int .u64 (key : Int), v, .int .u64 (tag : Int), .int .i64 at_, .int .u32 (pb : Int)] w fun e w' => e = .returned (.bool true) ∧ Keeps (fun _ => False) w w' := by
  have HN : Hd (NibR w) := hid hN
  have HX := hid hx; have HKY := hid hkey; have HTG := hid htag; have HPB := hid hpb
  obtain ⟨va, vc, rfl, hvc, hvm⟩ := hv.form
  have HV := hid hv
  have hpos := NibR.pos (hN : NibR w)
  clear hN hx hv hkey htag hpb
  obtain ⟨L, hL⟩ : ∃ L, l.length = L := ⟨_, rfl⟩
  have HL := hid hL
  rw [hL] at HV hvc ⊢
  clear hL
  go_enter Tryd.func12, Tryd.ntmps12
  go_wp2_with fail
  refine (begin_any key _).mono ?_
  rintro e U1 ⟨p, rfl, hw0, hk0⟩
  have HW0 := hid hw0; have HK0 := hid hk0
  clear hw0 hk0
  go_wp2_with fail
  go_loopw [12] (fun iv wr => ∃ i : Nat, iv = .int .i64 (i : Int) ∧ i ≤ L ∧ i ≤ 40 ∧ Hd (WRx (fun b => w.heap.size ≤ b) (fun _ => True) wr p (hist key l i)) ∧ Hd (Keeps (fun b => w.heap.size ≤ b) w wr)) (fun iv _ => 40 - (intOf iv).toNat)
  case atStart => exact ⟨0, rfl, Nat.zero_le _, Nat.zero_le _, HW0, hid (HK0.out.mono (fun _ _ h => h.elim))⟩
  case round =>
    obtain ⟨V, rfl⟩ : ∃ V, V = wr := ⟨_, rfl⟩
    obtain ⟨i, rfl, hi1, hi2, HW, HK⟩ := hrel
    clear HW0 HK0
    have q0 : (0 : Int) ≤ i := by omega
    have HGO : Hd (i = L ∨ i = 40 → ∃ m, WInv key m i ∧ WOk m i ∧ WRx (fun b => w.heap.size ≤ b) (fun _ => True) V p m) := hid (fun _ => ⟨_, (hist_ok HKY.out HX.out i (by omega) (by rw [HL.out]; omega)).1, (hist_ok HKY.out HX.out i (by omega) (by rw [HL.out]; omega)).2, HW.out⟩)
    by_cases hgo : i < L ∧ i < 40
    · obtain ⟨hlt, hlt2⟩ := hgo
      have q1 : (i : Int) < L := by omega
      have q2 : (i : Int) < 40 := by omega
      have hil : i < l.length := by rw [HL.out]; exact hlt
      obtain ⟨x, hxi⟩ : ∃ x, l[i]? = some x := ⟨_, List.getElem?_eq_getElem hil⟩
      have HXI := hid hxi
      have HXO := hid (HX.out x (List.mem_of_getElem? hxi))
      have HVV := hid (HV.out.keep HK.out (fun b h1 h2 h3 => by omega))
      obtain ⟨vb, vo, eva, hvb, hvb2, hcx⟩ := acs_cells HVV.out (by omega)
      subst eva
      obtain ⟨c0, c1, c2, ad, cd, c3, hsx⟩ := hcx i x hxi
      have HSX := hid hsx
      clear hcx hsx hxi hil
      obtain ⟨xl, hxl⟩ : ∃ n, x.b.length = n := ⟨_, rfl⟩
      have HXL := hid hxl
      rw [hxl] at HSX c3
      clear hxl
      have HAC : Hd (Calls Tryd.prog 31 #[.pointer (some ⟨p, 0, none⟩), .agg #[.int .i64 x.kd, .int .i64 x.n, .int .i64 x.m, .slice ad xl cd]] V fun e w' => e = .returned (.tuple #[]) ∧ WRx (fun b => w.heap.size ≤ b) (fun _ => True) w' p (hist key l (i + 1)) ∧ Keeps (fun b => w.heap.size ≤ b) V w') := hid (by
        have g := hist_ok HKY.out HX.out i (by omega) (by rw [HL.out]; omega)
        have zk := HK.out.size
        have h := act_any key (hist key l i) i p x ad cd (fun b => w.heap.size ≤ b) (fun _ => True) _ V HW.out (fun b hb => ⟨by omega, trivial⟩) HXO.out (by rw [HXL.out]; exact HSX.out) g.1 g.2 (by omega)
        rw [← hist_next HXI.out, HXL.out] at h
        exact h)
      go_wp2_with fail
      refine HAC.out.mono ?_
      rintro e V2 ⟨rfl, hw2, hk2⟩
      have HK2 := hid (HK.out.trans hk2); have HW2 := hid hw2
      clear c0 c1 c2 c3 HAC HW HK hk2 hw2 HVV HGO
      go_wp2
      go_roundw
      case rel => exact ⟨i + 1, by go_num, by omega, by omega, HW2, HK2⟩
      case measure => simp [intOf]; omega
    · obtain ⟨M, hM1, hM2, hM3⟩ := HGO.out (by omega)
      have HM1 := hid (winv_mono hM1 hi2); have HM2 := hid (hM2.mono hi2); have HM3 := hid hM3
      clear hM1 hM2 hM3 HW HGO
      go_upto_region 3 with fail
      go_cut [40] from 33 to 40 (fun u40 wx => u40 = .bool false ∧ V = wx)
      case first =>
        by_cases hlt : i < L
        · have q1 : (i : Int) < L := by omega
          have q2 : ¬ ((i : Int) < 40) := by omega
          go_wp2_with fail
          go_meet
          exact ⟨rfl, rfl⟩
        · have q1 : ¬ ((i : Int) < L) := by omega
          go_wp2_with fail
          go_meet
          exact ⟨rfl, rfl⟩
      case rest =>
      obtain ⟨rfl, rfl⟩ := hcut
      clear hgo
      obtain ⟨sa, sc, aa, ac, fa, fc, ra, rc, ga, gc, hw⟩ := HM3.out
      have HW := hid hw
      have HML := hid (WR.lt hw)
      clear hw
      have zV := HK.out.size
      have HI := HM1; have HO := HM2
      have hnx0 := HI.out.r.n0; have hnx1 := HI.out.r.n1; have hac0 := HI.out.a0; have hac1 := HI.out.a1; have hbn := HI.out.bn; have hki0 := HI.out.r.kd.1; have hki1 := HI.out.r.ki; have hli := HI.out.li; have hl0 := HI.out.l.1
      have hfsl : M.r.fs.length ≤ 15 := HO.out.r.len
      have hfq : Hd (∀ y ∈ M.r.fs, M.r.nx < y.q ∧ y.q ≤ M.r.nx + 15) := hid (fun y hy => by have h := HI.out.r.fs y hy; exact ⟨h.1, h.2.1⟩)
      have HFX : Hd (∀ y ∈ M.r.fs, ∀ c ∈ y.b, c < 256) := hid (fun y hy => (HO.out.r.f y hy).2.2.1.b)
      have HLOK : Hd (M.s.l.ok) := hid (HO.out.lok HI.out (by omega))
      have hcf : confL M.s.l M.r.l.i = M.s.l := conf_same hki1
      have hak : ackN M.s.a M.r.nx (M.s.bs.length + 1) = M.r.nx := by unfold ackN; omega
      obtain ⟨hv, hhv⟩ : ∃ h, havI M.r.nx M.r.fs = h := ⟨_, rfl⟩
      have HHV := hid hhv
      clear hhv
      obtain ⟨F, hF⟩ : ∃ F, forgF M = F := ⟨_, rfl⟩
      have HFF := hid hF
      have HEM0 := hid (by have h := forg_emit HI.out; rw [forg_s HI.out] at h; exact h)
      have HFO : Hd (F.ok) := hid (by rw [← hF]; have hm : (M.s.bs ++ [[120]]).getD M.r.nx.toNat [] ∈ M.s.bs ++ [[120]] := getD_mem [] (by rw [List.length_append]; simp only [List.length_singleton]; omega); exact signF_okx HLOK.out (by show _ ≤ M.r.nx; omega) (by show M.r.nx ≤ _; omega) (by rcases List.mem_append.1 hm with h | h; exact HO.out.b _ h; (rw [List.mem_singleton.1 h]; intro c hc; rw [List.mem_singleton.1 hc]; omega)) (forg_len HI.out))
      have HFL5 : Hd (F.b.length ≤ 512) := hid (by rw [← hF]; exact forg_len HI.out)
      have HFK : Hd (0 ≤ F.k) := hid (by rw [← hF]; exact hl0)
      have HFR : Hd (tag ≠ F.t → recvM M.r ⟨F.q, F.k, F.u, F.b, tag⟩ = (M.r, [], 8)) := hid (fun h => by rw [← hF] at h ⊢; exact forg_recv HI.out (by omega) h)
      have HGO2 : Hd ((⟨F.q, F.k, F.u, F.b, tag⟩ : Fr).ok) := hid ⟨HFO.out.q0, HFO.out.q1, HFO.out.k0, HFO.out.k1, HFO.out.b, HTG.out, HFO.out.n⟩
      rw [hF] at HEM0
      clear hF
      have hm1 := WR.lt HW.out p (.inl rfl)
      have HBP := hid HW.out.blk
      have HSB : Hd (Bds (fun b => b ≠ p) V (.slice sa M.s.bs.length sc) M.s.bs) := hid (HW.out.sb.mono (fun b _ h e => h.2 (.inl e)))
      have HAH : Hd (Frs (fun b => b ≠ p) V (.slice aa M.r.fs.length ac) M.r.fs) := hid (HW.out.ah.mono (fun b _ h e => h.2 (.inl e)))
      have hpk : w.heap.size ≤ p := HW.out.k p (.inl rfl)
      have HRO := hid HO.out.r
      have HBL := hid HI.out.bl
      have HBB := hid HO.out.b
      clear HM1 HM2 HM3 HW HI HO HML
      obtain ⟨⟨bs, a, ⟨k2, i2⟩⟩, ⟨nx, fs, lk, ⟨rk, ri⟩⟩, FSq, RP, GT⟩ := M
      simp only [] at HBP HSB HAH hnx0 hnx1 hac0 hac1 hbn hki0 hki1 hli hl0 hfsl hfq HLOK hcf hak HHV HFR HFX HRO HBL HBB HEM0
      obtain ⟨sn, hsn⟩ : ∃ n, bs.length = n := ⟨_, rfl⟩
      have N_sn := hid hsn
      rw [hsn] at HBP HSB hbn hnx1 hak
      clear hsn
      obtain ⟨fn, hfn⟩ : ∃ n, fs.length = n := ⟨_, rfl⟩
      have N_fn := hid hfn
      rw [hfn] at HBP HAH hfsl
      clear hfn
      obtain ⟨f2n, hf2n⟩ : ∃ n, FSq.length = n := ⟨_, rfl⟩
      have N_f2n := hid hf2n
      rw [hf2n] at HBP
      clear hf2n
      obtain ⟨rpn, hrpn⟩ : ∃ n, RP.length = n := ⟨_, rfl⟩
      have N_rpn := hid hrpn
      rw [hrpn] at HBP
      clear hrpn
      obtain ⟨gn, hgn⟩ : ∃ n, GT.length = n := ⟨_, rfl⟩
      have N_gn := hid hgn
      rw [hgn] at HBP
      clear hgn
      have HKW : Hd (Keeps (fun _ => False) w V) := hid (HK.out.mono (fun b h1 h2 => by omega))
      clear HK
      have o_HBP_0 : V.cell? ⟨p, 0, none⟩ = some ((.slice sa sn sc)) := blk_cell HBP.out 0
      have o_HBP_1 : V.cell? ⟨p, 1, none⟩ = some ((.int .i64 a)) := blk_cell HBP.out 1
      have o_HBP_2 : V.cell? ⟨p, 2, none⟩ = some ((.int .u64 (k2 : Int))) := blk_cell HBP.out 2
      have o_HBP_3 : V.cell? ⟨p, 3, none⟩ = some ((.int .i64 i2)) := blk_cell HBP.out 3
      have v1 : (convert 22 22 (.slice (some ⟨V.heap.size, 0, none⟩) 1 1)).run Tryd.prog (V.alloc (.cells #[.int .u8 120] 5)) = .ok (.slice (some ⟨V.heap.size, 0, none⟩) 1 1) (V.alloc (.cells #[.int .u8 120] 5 (1, 2))) := Cr.conv_lit V _ 1 1
      have HQ : Hd (Calls Tryd.prog 32 #[.agg #[.slice sa sn sc, .int .i64 a, .int .u64 (k2 : Int), .int .i64 i2], .slice (some ⟨V.heap.size, 0, none⟩) 1 1] (V.alloc (.cells #[.int .u8 120] 5 (1, 2))) fun e w' => ∃ qb qd, e = .returned (.tuple #[.agg #[.slice qb (sn + 1) qd, .int .i64 a, .int .u64 (k2 : Int), .int .i64 i2], .int .i64 0]) ∧ Bds (fun b => V.heap.size ≤ b) w' (.slice qb (sn + 1) qd) (bs ++ [[120]]) ∧ Keeps (fun _ => False) V w') := hid (by have h := Queue_ok bs sa sc a k2 i2 [120] _ (fun _ => True) (some ⟨V.heap.size, 0, none⟩) 1 (V.alloc (.cells #[.int .u8 120] 5 (1, 2))) (by rw [N_sn.out]; exact HSB.out.keep (keeps_alloc (fun _ => False) _ _) (fun _ _ _ h => h)) (by rw [N_sn.out]; omega) HBL.out (by decide) (Cr.lit_slm V [120] (1, 2) (by decide)); rw [N_sn.out] at h; exact h.mono (fun e w' ⟨a2, c2, h1, h2, h3⟩ => ⟨a2, c2, h1, h2.mono (fun b _ h => by have h' := h; simp at h'; omega), (keeps_alloc (fun _ => False) V _).trans h3⟩))
      go_wp2_with fail
      refine HQ.out.mono ?_
      clear v1 HQ
      rintro e V1 ⟨qa, qc, rfl, hbd, hk⟩
      clear o_HBP_0 o_HBP_1 o_HBP_2 o_HBP_3
      have HQB := hid hbd
      clear hbd
      clear HSB
      have HBP' : Hd (Blk V1 p #[(.slice sa sn sc), (.int .i64 a), (.int .u64 (k2 : Int)), (.int .i64 i2), (.int .i64 nx), (.slice aa fn ac), (.bool lk), (.int .u64 (rk : Int)), (.int .i64 ri), (.slice fa f2n fc), (.slice ra rpn rc), (.slice ga gn gc)] 60) := hid (blk_keep HBP.out hk (fun h => h))
      have HAH' : Hd (Frs (fun b => b ≠ p) V1 (.slice aa fn ac) fs) := hid (HAH.out.keep hk (fun _ _ _ h => h))
      clear HBP HAH
      have HBP := HBP'
      clear HBP'
      have HAH := HAH'
      clear HAH'
      have HK : Hd (Keeps (fun _ => False) V V1) := hid hk
      have z_V1 := hk.size
      clear hk
      go_upto_region 7 with fail
      generalize hW : World.alloc V1 _ = W41
      have KS : Hd (Keeps (fun _ => False) V1 W41) := hid (by rw [← hW]; exact (Keeps.alloc (Keeps.refl (fun _ => False) V1) _))
      have HBP' : Hd (Blk W41 p #[(.slice sa sn sc), (.int .i64 a), (.int .u64 (k2 : Int)), (.int .i64 i2), (.int .i64 nx), (.slice aa fn ac), (.bool lk), (.int .u64 (rk : Int)), (.int .i64 ri), (.slice fa f2n fc), (.slice ra rpn rc), (.slice ga gn gc)] 60) := hid (by rw [← hW]; exact (blk_alloc HBP.out _))
      have HAH' : Hd (Frs (fun b => b ≠ p) W41 (.slice aa fn ac) fs) := hid (HAH.out.keep KS.out (fun _ _ _ h => h))
      have HQB' : Hd (Bds (fun b => V.heap.size ≤ b) W41 (.slice qa (sn + 1) qc) (bs ++ [[120]])) := hid (HQB.out.keep KS.out (fun _ _ _ h => h))
      have BS : Hd (Blk W41 V1.heap.size #[(.slice qa (sn + 1) qc), (.int .i64 a), (.int .u64 (k2 : Int)), (.int .i64 i2)] 57) := hid (by rw [← hW]; exact (blk_new _ _ _))
      clear HBP HAH HQB
      have HBP := HBP'
      clear HBP'
      have HAH := HAH'
      clear HAH'
      have HQB := HQB'
      clear HQB'
      have HK' : Hd (Keeps (fun _ => False) V W41) := hid (HK.out.trans KS.out)
      clear HK
      have HK := HK'
      clear HK'
      have z_W41 : V1.heap.size + 1 ≤ W41.heap.size := by rw [← hW]; simp
      clear hW KS
      generalize hb_BS : V1.heap.size = b_S at *
      have ltS := blk_lt BS.out
      have neSP : b_S ≠ p := by omega
      have zK := HK.out.size
      have HST : Hd (∀ X, Keeps (fun _ => False) W41 X → Calls Tryd.prog 28 #[.agg #[.int .i64 nx, .slice aa fn ac, .bool lk, .int .u64 (rk : Int), .int .i64 ri]] X fun e w' => e = .returned (.agg #[.int .i64 nx, .int .i64 hv, .int .i64 ri, .bool lk]) ∧ Keeps (fun _ => False) X w') := hid (fun X hx => by have h := State_any fs aa ac nx lk ⟨rk, ri⟩ _ X (by rw [N_fn.out]; exact HAH.out.keep hx (fun _ _ _ h => h)) (by rw [N_fn.out]; omega) hnx0 (by omega) (fun y hy => by have h := hfq.out y hy; exact ⟨h.1, by have := h.2; omega⟩); rw [HHV.out, N_fn.out] at h; exact h)
      have HCF : Hd (∀ X, Keeps (fun _ => False) W41 X → Calls Tryd.prog 44 #[.agg #[.slice qa (sn + 1) qc, .int .i64 a, .int .u64 (k2 : Int), .int .i64 i2], .agg #[.int .i64 nx, .int .i64 hv, .int .i64 ri, .bool lk]] X fun e w' => ∃ qb qd, e = .returned (.agg #[.slice qb (sn + 1) qd, .int .i64 nx, .int .u64 (k2 : Int), .int .i64 i2]) ∧ Bds (fun b => X.heap.size ≤ b) w' (.slice qb (sn + 1) qd) (bs ++ [[120]]) ∧ Keeps (fun _ => False) X w') := hid (fun X hx => by have h := Confirm_any (bs ++ [[120]]) qa qc a ⟨k2, i2⟩ nx hv ri lk _ X (by rw [List.length_append, N_sn.out]; exact HQB.out.keep hx (fun _ _ _ h => h)) (by rw [List.length_append, N_sn.out]; simp; omega) (fun x hx => by rcases List.mem_append.1 hx with h | h; exact HBL.out x h; (rw [List.mem_singleton.1 h]; decide)) HLOK.out (by omega); unfold ConfR at h; rw [hcf, List.length_append, N_sn.out, List.length_singleton, hak] at h; exact h)
      go_cut [] from 59 to 68 (fun wx => ∃ (qb : Option Addr) (qd : Nat), Hd (Blk wx p #[(.slice qb (sn + 1) qd), (.int .i64 nx), (.int .u64 (k2 : Int)), (.int .i64 i2), (.int .i64 nx), (.slice aa fn ac), (.bool lk), (.int .u64 (rk : Int)), (.int .i64 ri), (.slice fa f2n fc), (.slice ra rpn rc), (.slice ga gn gc)] 60) ∧ Hd (Bds (fun b => W41.heap.size ≤ b) wx (.slice qb (sn + 1) qd) (bs ++ [[120]])) ∧ Hd (Keeps (fun b => b = p) W41 wx))
      case first =>
        have KC : Hd (Keeps (fun _ => False) W41 W41) := hid (Keeps.refl _ _)
        have HSS : Hd (∀ w', Keeps (fun b => b = p) W41 w' → (w'.cell? ⟨b_S, 0, none⟩ = some ((.slice qa (sn + 1) qc)) ∧ w'.cell? ⟨b_S, 1, none⟩ = some ((.int .i64 a)) ∧ w'.cell? ⟨b_S, 2, none⟩ = some ((.int .u64 (k2 : Int))) ∧ w'.cell? ⟨b_S, 3, none⟩ = some ((.int .i64 i2)))) := hid (fun w' hk => ⟨blk_cell (blk_keep BS.out hk neSP) 0, blk_cell (blk_keep BS.out hk neSP) 1, blk_cell (blk_keep BS.out hk neSP) 2, blk_cell (blk_keep BS.out hk neSP) 3⟩)
        have o_HBP_0 : W41.cell? ⟨p, 0, none⟩ = some ((.slice sa sn sc)) := blk_cell HBP.out 0
        have o_HBP_1 : W41.cell? ⟨p, 1, none⟩ = some ((.int .i64 a)) := blk_cell HBP.out 1
        have o_HBP_2 : W41.cell? ⟨p, 2, none⟩ = some ((.int .u64 (k2 : Int))) := blk_cell HBP.out 2
        have o_HBP_3 : W41.cell? ⟨p, 3, none⟩ = some ((.int .i64 i2)) := blk_cell HBP.out 3
        have o_HBP_4 : W41.cell? ⟨p, 4, none⟩ = some ((.int .i64 nx)) := blk_cell HBP.out 4
        have o_HBP_5 : W41.cell? ⟨p, 5, none⟩ = some ((.slice aa fn ac)) := blk_cell HBP.out 5
        have o_HBP_6 : W41.cell? ⟨p, 6, none⟩ = some ((.bool lk)) := blk_cell HBP.out 6
        have o_HBP_7 : W41.cell? ⟨p, 7, none⟩ = some ((.int .u64 (rk : Int))) := blk_cell HBP.out 7
        have o_HBP_8 : W41.cell? ⟨p, 8, none⟩ = some ((.int .i64 ri)) := blk_cell HBP.out 8
        have f_HBP_0 : W41.frozen? ⟨p, 0, none⟩ = false := blk_free HBP.out 0
        have f_HBP_1 : W41.frozen? ⟨p, 1, none⟩ = false := blk_free HBP.out 1
        have f_HBP_2 : W41.frozen? ⟨p, 2, none⟩ = false := blk_free HBP.out 2
        have f_HBP_3 : W41.frozen? ⟨p, 3, none⟩ = false := blk_free HBP.out 3
        have f_HBP_4 : W41.frozen? ⟨p, 4, none⟩ = false := blk_free HBP.out 4
        have f_HBP_5 : W41.frozen? ⟨p, 5, none⟩ = false := blk_free HBP.out 5
        have f_HBP_6 : W41.frozen? ⟨p, 6, none⟩ = false := blk_free HBP.out 6
        have f_HBP_7 : W41.frozen? ⟨p, 7, none⟩ = false := blk_free HBP.out 7
        have f_HBP_8 : W41.frozen? ⟨p, 8, none⟩ = false := blk_free HBP.out 8
        rw [lVa_eq]
        go_region_held (fun w' => w'.cell? ⟨b_S, 0, none⟩ = some ((.slice qa (sn + 1) qc)) ∧ w'.cell? ⟨b_S, 1, none⟩ = some ((.int .i64 a)) ∧ w'.cell? ⟨b_S, 2, none⟩ = some ((.int .u64 (k2 : Int))) ∧ w'.cell? ⟨b_S, 3, none⟩ = some ((.int .i64 i2))) ((refine HSS.out _ ?_; (repeat (first | (with_reducible exact KC.out.mono (fun _ _ h => h.elim)) | (with_reducible exact Keeps.refl _ _) | (with_reducible apply Keeps.drewN) | (with_reducible apply Keeps.drew) | (with_reducible refine Keeps.setCell (S := fun b => b = p) ?_ (.inl rfl) _))); done))
          (first
          | (go_at_call 28; (refine (HST.out _ (by repeat (first | (with_reducible exact KC.out) | (with_reducible exact Keeps.refl _ _) | (with_reducible apply Keeps.drewN) | (with_reducible apply Keeps.drew) | (with_reducible apply Keeps.alloc)))).mono ?_); rintro e wy0 ⟨rfl, hk⟩; have KC2 : Hd (Keeps (fun _ => False) W41 wy0) := hid (Keeps.trans (S := fun _ => False) (by repeat (first | (with_reducible exact KC.out) | (with_reducible exact Keeps.refl _ _) | (with_reducible apply Keeps.drewN) | (with_reducible apply Keeps.drew) | (with_reducible apply Keeps.alloc))) hk); replace KC := KC2; clear KC2; replace hk := hid hk; have cz0 : wy0.cell? ⟨p, 0, none⟩ = some (.slice sa sn sc) := blk_cell (blk_keep HBP.out KC.out (fun h => h)) 0; have fz0 : wy0.frozen? ⟨p, 0, none⟩ = false := blk_free (blk_keep HBP.out KC.out (fun h => h)) 0; have cz1 : wy0.cell? ⟨p, 1, none⟩ = some (.int .i64 a) := blk_cell (blk_keep HBP.out KC.out (fun h => h)) 1; have fz1 : wy0.frozen? ⟨p, 1, none⟩ = false := blk_free (blk_keep HBP.out KC.out (fun h => h)) 1; have cz2 : wy0.cell? ⟨p, 2, none⟩ = some (.int .u64 (k2 : Int)) := blk_cell (blk_keep HBP.out KC.out (fun h => h)) 2; have fz2 : wy0.frozen? ⟨p, 2, none⟩ = false := blk_free (blk_keep HBP.out KC.out (fun h => h)) 2; have cz3 : wy0.cell? ⟨p, 3, none⟩ = some (.int .i64 i2) := blk_cell (blk_keep HBP.out KC.out (fun h => h)) 3; have fz3 : wy0.frozen? ⟨p, 3, none⟩ = false := blk_free (blk_keep HBP.out KC.out (fun h => h)) 3; have cz4 : wy0.cell? ⟨p, 4, none⟩ = some (.int .i64 nx) := blk_cell (blk_keep HBP.out KC.out (fun h => h)) 4; have fz4 : wy0.frozen? ⟨p, 4, none⟩ = false := blk_free (blk_keep HBP.out KC.out (fun h => h)) 4; have cz5 : wy0.cell? ⟨p, 5, none⟩ = some (.slice aa fn ac) := blk_cell (blk_keep HBP.out KC.out (fun h => h)) 5; have fz5 : wy0.frozen? ⟨p, 5, none⟩ = false := blk_free (blk_keep HBP.out KC.out (fun h => h)) 5; have cz6 : wy0.cell? ⟨p, 6, none⟩ = some (.bool lk) := blk_cell (blk_keep HBP.out KC.out (fun h => h)) 6; have fz6 : wy0.frozen? ⟨p, 6, none⟩ = false := blk_free (blk_keep HBP.out KC.out (fun h => h)) 6; have cz7 : wy0.cell? ⟨p, 7, none⟩ = some (.int .u64 (rk : Int)) := blk_cell (blk_keep HBP.out KC.out (fun h => h)) 7; have fz7 : wy0.frozen? ⟨p, 7, none⟩ = false := blk_free (blk_keep HBP.out KC.out (fun h => h)) 7; have cz8 : wy0.cell? ⟨p, 8, none⟩ = some (.int .i64 ri) := blk_cell (blk_keep HBP.out KC.out (fun h => h)) 8; have fz8 : wy0.frozen? ⟨p, 8, none⟩ = false := blk_free (blk_keep HBP.out KC.out (fun h => h)) 8)
          | (go_at_call 44; (refine (HCF.out _ (by repeat (first | (with_reducible exact KC.out) | (with_reducible exact Keeps.refl _ _) | (with_reducible apply Keeps.drewN) | (with_reducible apply Keeps.drew) | (with_reducible apply Keeps.alloc)))).mono ?_); rintro e wy1 ⟨qb, qd, rfl, hbd, hk⟩; have HBD := hid ((bds_after hbd (n := W41.heap.size) (by first | exact Nat.le_refl _ | (simp; done) | (simp; omega) | (have := KC.out.size; (try simp); omega) | fail)) _ (Keeps.refl _ _)); clear hbd; have KC2 : Hd (Keeps (fun _ => False) W41 wy1) := hid (Keeps.trans (S := fun _ => False) (by repeat (first | (with_reducible exact KC.out) | (with_reducible exact Keeps.refl _ _) | (with_reducible apply Keeps.drewN) | (with_reducible apply Keeps.drew) | (with_reducible apply Keeps.alloc))) hk); replace KC := KC2; clear KC2; replace hk := hid hk; have cz0 : wy1.cell? ⟨p, 0, none⟩ = some (.slice sa sn sc) := blk_cell (blk_keep HBP.out KC.out (fun h => h)) 0; have fz0 : wy1.frozen? ⟨p, 0, none⟩ = false := blk_free (blk_keep HBP.out KC.out (fun h => h)) 0; have cz1 : wy1.cell? ⟨p, 1, none⟩ = some (.int .i64 a) := blk_cell (blk_keep HBP.out KC.out (fun h => h)) 1; have fz1 : wy1.frozen? ⟨p, 1, none⟩ = false := blk_free (blk_keep HBP.out KC.out (fun h => h)) 1; have cz2 : wy1.cell? ⟨p, 2, none⟩ = some (.int .u64 (k2 : Int)) := blk_cell (blk_keep HBP.out KC.out (fun h => h)) 2; have fz2 : wy1.frozen? ⟨p, 2, none⟩ = false := blk_free (blk_keep HBP.out KC.out (fun h => h)) 2; have cz3 : wy1.cell? ⟨p, 3, none⟩ = some (.int .i64 i2) := blk_cell (blk_keep HBP.out KC.out (fun h => h)) 3; have fz3 : wy1.frozen? ⟨p, 3, none⟩ = false := blk_free (blk_keep HBP.out KC.out (fun h => h)) 3; have cz4 : wy1.cell? ⟨p, 4, none⟩ = some (.int .i64 nx) := blk_cell (blk_keep HBP.out KC.out (fun h => h)) 4; have fz4 : wy1.frozen? ⟨p, 4, none⟩ = false := blk_free (blk_keep HBP.out KC.out (fun h => h)) 4; have cz5 : wy1.cell? ⟨p, 5, none⟩ = some (.slice aa fn ac) := blk_cell (blk_keep HBP.out KC.out (fun h => h)) 5; have fz5 : wy1.frozen? ⟨p, 5, none⟩ = false := blk_free (blk_keep HBP.out KC.out (fun h => h)) 5; have cz6 : wy1.cell? ⟨p, 6, none⟩ = some (.bool lk) := blk_cell (blk_keep HBP.out KC.out (fun h => h)) 6; have fz6 : wy1.frozen? ⟨p, 6, none⟩ = false := blk_free (blk_keep HBP.out KC.out (fun h => h)) 6; have cz7 : wy1.cell? ⟨p, 7, none⟩ = some (.int .u64 (rk : Int)) := blk_cell (blk_keep HBP.out KC.out (fun h => h)) 7; have fz7 : wy1.frozen? ⟨p, 7, none⟩ = false := blk_free (blk_keep HBP.out KC.out (fun h => h)) 7; have cz8 : wy1.cell? ⟨p, 8, none⟩ = some (.int .i64 ri) := blk_cell (blk_keep HBP.out KC.out (fun h => h)) 8; have fz8 : wy1.frozen? ⟨p, 8, none⟩ = false := blk_free (blk_keep HBP.out KC.out (fun h => h)) 8))
        all_goals
          go_wp2_with fail
          go_meet
          have k9 := keep4' wy1 p 0 1 2 3 (.slice qb (sn + 1) qd) (.int .i64 nx) (.int .u64 (k2 : Int)) (.int .i64 i2)
          exact ⟨qb, qd, hid (blk_set (blk_set (blk_set (blk_set (blk_keep HBP.out KC.out (fun h => h)) 0 _) 1 _) 2 _) 3 _), hid (HBD.out.keep k9 (fun b _ h1 h2 => by omega)), hid ((KC.out.mono (fun _ _ h => h.elim)).trans' k9 (fun _ _ h => h))⟩
      case rest =>
      obtain ⟨qb, qd, HB9, HD9, HK9⟩ := hcut
      generalize wc = W42 at *
      have z_W42 := HK9.out.size
      have HAH9 : Hd (Frs (fun b => b ≠ p) W42 (.slice aa fn ac) fs) := hid (HAH.out.keep HK9.out (fun b _ h1 h2 => h1 h2))
      have HBD : Hd (Bds (fun b => b ≠ p) W42 (.slice qb (sn + 1) qd) (bs ++ [[120]])) := hid (HD9.out.mono (fun b _ h => by show b ≠ p; omega))
      have HKB : Hd (Keeps (fun _ => False) w W42) := hid ((HKW.out.trans HK.out).trans' HK9.out (fun i hi h => by omega))
      clear HST HCF HQB BS HBP HAH HD9 HK9 HK HKW
      have HBP := HB9; have HAH := HAH9; have HK := HKB
      clear HB9 HAH9 HKB
      obtain ⟨fl, hfl⟩ : ∃ n, F.b.length = n := ⟨_, rfl⟩
      have HFL := hid hfl
      clear hfl
      obtain ⟨⟨k4, i4⟩, hL4⟩ : ∃ L, nextL ⟨k2, i2⟩ = L := ⟨_, rfl⟩
      rw [hL4] at HEM0
      clear hL4
      have HEM : Hd (∀ X, Keeps (fun _ => False) W42 X → Calls Tryd.prog 39 #[.agg #[.slice qb (sn + 1) qd, .int .i64 nx, .int .u64 (k2 : Int), .int .i64 i2], .int .i64 nx] X fun e w' => ∃ af cf a4 c4, e = .returned (.tuple #[.agg #[.int .i64 F.q, .int .i64 F.k, .bool F.u, .slice af fl cf, .int .u64 (F.t : Int)], .agg #[.slice a4 (sn + 1) c4, .int .i64 nx, .int .u64 (k4 : Int), .int .i64 i4], .int .i64 0]) ∧ Sl (fun b => X.heap.size ≤ b) w' (.slice af fl cf) (u8s F.b) ∧ Bds (fun b => X.heap.size ≤ b) w' (.slice a4 (sn + 1) c4) (bs ++ [[120]]) ∧ Keeps (fun _ => False) X w') := hid (fun X hx => by have h := Emit_all ⟨bs ++ [[120]], nx, ⟨k2, i2⟩⟩ qb qd nx _ X (by simp only [List.length_append, List.length_singleton, N_sn.out]; exact HBD.out.keep hx (fun _ _ _ h => h)) (by simp only [List.length_append, List.length_singleton, N_sn.out]; omega) (fun y hy => by rcases List.mem_append.1 hy with h | h; exact ⟨HBL.out y h, HBB.out y h⟩; (rw [List.mem_singleton.1 h]; exact ⟨by decide, fun c hc => by rw [List.mem_singleton.1 hc]; omega⟩)) HLOK.out hnx0 (by simp only []; omega); unfold EmitAll at h; rw [HEM0.out] at h; simp only [List.length_append, List.length_singleton, N_sn.out, HFL.out] at h; exact h)
      go_upto_region 8 with fail
      go_cut [17, 15, 16] from 69 to 82 (fun u17 u15 u16 wx => ∃ (af : Option Addr) (cf : Nat) (a4 : Option Addr) (c4 : Nat), u17 = .int .i64 0 ∧ ∃ bF, u15 = .pointer (some ⟨bF, 0, none⟩) ∧ ∃ bS, u16 = .pointer (some ⟨bS, 0, none⟩) ∧ W42.heap.size ≤ bF ∧ W42.heap.size ≤ bS ∧ Hd (Blk wx bF #[(.int .i64 F.q), (.int .i64 F.k), (.bool F.u), (.slice af fl cf), (.int .u64 (F.t : Int))] 25) ∧ Hd (Sl (fun b => W42.heap.size ≤ b) wx (.slice af fl cf) (u8s F.b)) ∧ Hd (Keeps (fun _ => False) W42 wx))
      case first =>
        refine wp_two (C := emCfg [9, 10, 11, 12, 14, 15, 16, 17] 79 69 80 81 15 16 [.pointer (some ⟨p, 0, none⟩), .pointer (some ⟨p, 0, none⟩), .pointer (some ⟨p, 0, none⟩), .agg #[.slice qb (sn + 1) qd, .int .i64 nx, .int .u64 (k2 : Int), .int .i64 i2], .pointer (some ⟨p, 0, none⟩), .pointer (some ⟨p, 0, none⟩), .pointer (some ⟨p, 0, none⟩), .pointer (some ⟨p, 1, none⟩), .int .i64 nx, undef, undef, undef, undef, .int .i64 0, undef, undef, undef, undef, .int .i64 0] [.int .i64 0] F ⟨bs ++ [[120]], nx, ⟨k4, i4⟩⟩) (by kernel_rfl) ?H ?HV 9 rfl ?HC ?HE
        case H => exact ⟨by kernel_rfl, uniqB_spec (by kernel_rfl), underB_spec (by kernel_rfl), ⟨_, rfl, rfl⟩, ⟨_, rfl, rfl, rfl, rfl, waitsB_spec (by kernel_rfl)⟩, ⟨_, rfl, rfl, rfl, rfl, waitsB_spec (by kernel_rfl)⟩, ⟨_, rfl, rfl, rfl, rfl, waitsB_spec (by kernel_rfl)⟩, ⟨_, rfl, rfl, rfl, rfl⟩, ⟨_, rfl, rfl, rfl, rfl⟩, ⟨_, rfl, rfl, rfl, rfl, waitsB_spec (by kernel_rfl), waitsB_spec (by kernel_rfl)⟩, ⟨_, rfl, rfl, rfl, rfl, waitsB_spec (by kernel_rfl), waitsB_spec (by kernel_rfl)⟩, emVal (by kernel_rfl), emAll (by kernel_rfl), ⟨rfl, rfl, rfl, rfl, rfl, rfl, rfl, rfl⟩, emNd (by decide), emSem _ _ _ _ _ _ _ _ _ _ _⟩
        case HV =>
          intro iq o hv hi aq w' hk hd
          match iq, hv, hi with
          | 0, _, hi =>
            have hi1 := hi
            simp only [List.getElem?_cons_succ, List.getElem?_cons_zero, Option.some.injEq] at hi1
            subst hi1
            have e0 : aq.eval (.tmp 11) = .pointer (some ⟨p, 0, none⟩) := (hd.out (by kernel_rfl)).trans rfl
            exact wpOp_ranL hi rfl (v := .pointer (some ⟨p, 0, none⟩)) (w' := w') (by simp only [execOp, e0]; rfl) ⟨rfl, Keeps.refl _ _⟩
          | 1, _, hi =>
            have hi1 := hi
            simp only [List.getElem?_cons_succ, List.getElem?_cons_zero, Option.some.injEq] at hi1
            subst hi1
            have e0 : aq.eval (.tmp 70) = .pointer (some ⟨p, 0, none⟩) := hd.val (j := 0) (by kernel_rfl) rfl rfl rfl
            exact wpOp_ranL hi rfl (v := .pointer (some ⟨p, 0, none⟩)) (w' := w') (by simp only [execOp, e0]; rfl) ⟨rfl, Keeps.refl _ _⟩
          | 2, _, hi =>
            have hi1 := hi
            simp only [List.getElem?_cons_succ, List.getElem?_cons_zero, Option.some.injEq] at hi1
            subst hi1
            have e0 : aq.eval (.tmp 71) = .pointer (some ⟨p, 0, none⟩) := hd.val (j := 1) (by kernel_rfl) rfl rfl rfl
            exact wpOp_ranL hi rfl (v := .pointer (some ⟨p, 0, none⟩)) (w' := w') (by simp only [execOp, e0]; go_simp) ⟨rfl, Keeps.refl _ _⟩
          | 3, _, hi =>
            have hi1 := hi
            simp only [List.getElem?_cons_succ, List.getElem?_cons_zero, Option.some.injEq] at hi1
            subst hi1
            have e0 : aq.eval (.tmp 72) = .pointer (some ⟨p, 0, none⟩) := hd.val (j := 2) (by kernel_rfl) rfl rfl rfl
            have c0 := keep_cell hk (fun h => h) (blk_cell HBP.out 0)
            have c1 := keep_cell hk (fun h => h) (blk_cell HBP.out 1)
            have c2 := keep_cell hk (fun h => h) (blk_cell HBP.out 2)
            have c3 := keep_cell hk (fun h => h) (blk_cell HBP.out 3)
            exact wpOp_ranL hi rfl (v := .agg #[.slice qb (sn + 1) qd, .int .i64 nx, .int .u64 (k2 : Int), .int .i64 i2]) (w' := w') (by simp only [execOp, e0]; go_simp) ⟨rfl, Keeps.refl _ _⟩
          | 4, _, hi =>
            have hi1 := hi
            simp only [List.getElem?_cons_succ, List.getElem?_cons_zero, Option.some.injEq] at hi1
            subst hi1
            have e0 : aq.eval (.tmp 11) = .pointer (some ⟨p, 0, none⟩) := (hd.out (by kernel_rfl)).trans rfl
            exact wpOp_ranL hi rfl (v := .pointer (some ⟨p, 0, none⟩)) (w' := w') (by simp only [execOp, e0]; rfl) ⟨rfl, Keeps.refl _ _⟩
          | 5, _, hi =>
            have hi1 := hi
            simp only [List.getElem?_cons_succ, List.getElem?_cons_zero, Option.some.injEq] at hi1
            subst hi1
            have e0 : aq.eval (.tmp 74) = .pointer (some ⟨p, 0, none⟩) := hd.val (j := 4) (by kernel_rfl) rfl rfl rfl
            exact wpOp_ranL hi rfl (v := .pointer (some ⟨p, 0, none⟩)) (w' := w') (by simp only [execOp, e0]; rfl) ⟨rfl, Keeps.refl _ _⟩
          | 6, _, hi =>
            have hi1 := hi
            simp only [List.getElem?_cons_succ, List.getElem?_cons_zero, Option.some.injEq] at hi1
            subst hi1
            have e0 : aq.eval (.tmp 75) = .pointer (some ⟨p, 0, none⟩) := hd.val (j := 5) (by kernel_rfl) rfl rfl rfl
            exact wpOp_ranL hi rfl (v := .pointer (some ⟨p, 0, none⟩)) (w' := w') (by simp only [execOp, e0]; go_simp) ⟨rfl, Keeps.refl _ _⟩
          | 7, _, hi =>
            have hi1 := hi
            simp only [List.getElem?_cons_succ, List.getElem?_cons_zero, Option.some.injEq] at hi1
            subst hi1
            have e0 : aq.eval (.tmp 76) = .pointer (some ⟨p, 0, none⟩) := hd.val (j := 6) (by kernel_rfl) rfl rfl rfl
            exact wpOp_ranL hi rfl (v := .pointer (some ⟨p, 1, none⟩)) (w' := w') (by simp only [execOp, e0]; go_simp) ⟨rfl, Keeps.refl _ _⟩
          | 8, _, hi =>
            have hi1 := hi
            simp only [List.getElem?_cons_succ, List.getElem?_cons_zero, Option.some.injEq] at hi1
            subst hi1
            have e0 : aq.eval (.tmp 77) = .pointer (some ⟨p, 1, none⟩) := hd.val (j := 7) (by kernel_rfl) rfl rfl rfl
            have c0 := keep_cell hk (fun h => h) (blk_cell HBP.out 1)
            exact wpOp_ranL hi rfl (v := .int .i64 nx) (w' := w') (by simp only [execOp, e0]; go_simp) ⟨rfl, Keeps.refl _ _⟩
          | 9, hv, _ => cases hv
          | 10, hv, _ => cases hv
          | 11, hv, _ => cases hv
          | 12, hv, _ => cases hv
          | 13, _, hi =>
            have hi1 := hi
            simp only [List.getElem?_cons_succ, List.getElem?_cons_zero, Option.some.injEq] at hi1
            subst hi1
            obtain ⟨x0, y0, e0⟩ : ∃ x y, aq.eval (.tmp 69) = .tuple #[x, y, .int .i64 0] := hd.tup (show waitsB _ 10 = true by kernel_rfl)
            exact wpOp_ranL hi rfl (v := .int .i64 0) (w' := w') (by simp only [execOp, e0]; rfl) ⟨rfl, Keeps.refl _ _⟩
          | 14, hv, _ => cases hv
          | 15, hv, _ => cases hv
          | 16, hv, _ => cases hv
          | 17, hv, _ => cases hv
          | 18, _, hi =>
            have hi1 := hi
            simp only [List.getElem?_cons_succ, List.getElem?_cons_zero, Option.some.injEq] at hi1
            subst hi1
            have e0 : aq.eval (.tmp 82) = .int .i64 0 := hd.val (j := 13) (by kernel_rfl) rfl rfl rfl
            exact wpOp_ranL hi rfl (v := .int .i64 0) (w' := w') (by simp only [execOp, e0]; rfl) ⟨rfl, Keeps.refl _ _⟩
          | n + 19, _, hi => simp at hi
        case HC =>
          intro o hi aq w' hk hd
          have hi1 := hi
          simp only [List.getElem?_cons_succ, List.getElem?_cons_zero, Option.some.injEq] at hi1
          subst hi1
          have e0 : aq.eval (.tmp 73) = .agg #[.slice qb (sn + 1) qd, .int .i64 nx, .int .u64 (k2 : Int), .int .i64 i2] := hd.val (j := 3) (by kernel_rfl) rfl rfl rfl
          have e1 : aq.eval (.tmp 78) = .int .i64 nx := hd.val (j := 8) (by kernel_rfl) rfl rfl rfl
          exact wpOp_callL hi rfl (f := 39) (args := #[.agg #[.slice qb (sn + 1) qd, .int .i64 nx, .int .u64 (k2 : Int), .int .i64 i2], .int .i64 nx]) (by simp only [execOp_call_go, List.map_toArray, List.map_cons, List.map_nil, e0, e1]; rfl) ((HEM.out _ hk).mono (fun e w2 ⟨a1, c1, a4, c4, he, hsl, hbd, hk2⟩ => ⟨_, he, _, _, rfl, hk2, a1, c1, a4, c4, by rw [HFL.out], by simp only [List.length_append, List.length_singleton, N_sn.out], by rw [HFL.out]; exact hsl, by simp only [List.length_append, List.length_singleton, N_sn.out]; exact hbd⟩))
        case HE =>
          intro L aq w' gF gS xx yy hL hT
          have em := act_mix (bs := [true, true, true, true, true, true, true, true, true, true, true, true, true, true, true, false, false, false, true, true, true, true, true, true, true, true, true, true, true, true, true, true, true, true, true, true, true, true, true, true, true, true, true, true, true, true, true, true, true, true, true, true, true, true, true, true, true, true, true, true, true, true, true, true, true, true, true, true, true, false, false, false, false, false, false, false, false, false, false, false, false, false, false, true, true, true, true, true, true, true, true, true, true, true, true, true, true, true, true, true, true, true, true, true, true, true, true, true, true, true, true, true, true, true, true, true, true, true, true, true, true, true, true, true, true, true, true, true, true, true, true, true, true, true, true, true, true, true, true, true, true, true, true, true, true, true, true, true, true, true, true, true, true, true, true, true, true, true, true, true, true, true, true, true, true, true, true, true, true, true, true, true, true, true, true, true, true, true, true, true, true, true, true, true, true, true, true, true, true, true, true, true, true, true]) hT.sz hT.df hT.fr rfl (by kernel_rfl)
          have hF := hT.f (hL 14 (by decide))
          have hS := hT.s (hL 15 (by decide))
          have hC := hT.c (hL 9 (by decide))
          have kW := hT.kp
          have eF := hF.1
          have eS := hS.1
          obtain ⟨gF0, csF, -, bF, sF⟩ := hF.2
          obtain ⟨gS0, csS, -, bS, sS⟩ := hS.2
          have sF := sF (hL 16 (by decide))
          have sS := sS (hL 17 (by decide))
          subst sF sS
          have k17 : aq.tmps.getD 17 undef = .int .i64 0 := hT.v 18 _ 17 rfl (hL 18 (by decide)) rfl rfl
          change aq.tmps.getD 15 undef = _ at eF
          change aq.tmps.getD 16 undef = _ at eS
          have hR := hC.2
          clear hF hS hC hT hL
          simp only [mix, eF, eS, k17] at em
          clear eF eS k17
          generalize aq.tmps.getD 70 undef = q70 at em
          generalize aq.tmps.getD 71 undef = q71 at em
          generalize aq.tmps.getD 72 undef = q72 at em
          generalize aq.tmps.getD 73 undef = q73 at em
          generalize aq.tmps.getD 74 undef = q74 at em
          generalize aq.tmps.getD 75 undef = q75 at em
          generalize aq.tmps.getD 76 undef = q76 at em
          generalize aq.tmps.getD 77 undef = q77 at em
          generalize aq.tmps.getD 78 undef = q78 at em
          generalize aq.tmps.getD 79 undef = q79 at em
          generalize aq.tmps.getD 69 undef = q69 at em
          generalize aq.tmps.getD 80 undef = q80 at em
          generalize aq.tmps.getD 81 undef = q81 at em
          generalize aq.tmps.getD 82 undef = q82 at em
          subst em
          simp only [Exit.then]
          go_wp2_with fail
          go_meet
          obtain ⟨a1, c1, a4, c4, rfl, rfl, hs9, hb9⟩ := hR
          exact ⟨a1, c1, a4, c4, rfl, gF, rfl, gS, rfl, gF0, gS0, hid (by rw [← HFL.out]; exact bF), hid (by rw [← HFL.out]; exact hs9.mono (fun b _ h => h.1)), hid kW⟩
      case rest =>
      obtain ⟨af, cf, a4, c4, rfl, b_F, rfl, b_S2, rfl, hb_F, hb_S2, B_F, HSF, hk⟩ := hcut
      replace hk := hk.out
      generalize wc = W43 at *
      clear HBD
      have HBP' : Hd (Blk W43 p #[(.slice qb (sn + 1) qd), (.int .i64 nx), (.int .u64 (k2 : Int)), (.int .i64 i2), (.int .i64 nx), (.slice aa fn ac), (.bool lk), (.int .u64 (rk : Int)), (.int .i64 ri), (.slice fa f2n fc), (.slice ra rpn rc), (.slice ga gn gc)] 60) := hid (blk_keep HBP.out hk (fun h => h))
      have HAH' : Hd (Frs (fun b => b ≠ p) W43 (.slice aa fn ac) fs) := hid (HAH.out.keep hk (fun _ _ _ h => h))
      clear HBP HAH
      have HBP := HBP'
      clear HBP'
      have HAH := HAH'
      clear HAH'
      have HK' : Hd (Keeps (fun _ => False) w W43) := hid (HK.out.trans hk)
      clear HK
      have HK := HK'
      clear HK'
      have z_W43 := hk.size
      clear hk
      clear HEM HEM0
      have ltF := blk_lt B_F.out
      have o_B_F_0 : W43.cell? ⟨b_F, 0, none⟩ = some ((.int .i64 F.q)) := blk_cell B_F.out 0
      have o_B_F_1 : W43.cell? ⟨b_F, 1, none⟩ = some ((.int .i64 F.k)) := blk_cell B_F.out 1
      have o_B_F_2 : W43.cell? ⟨b_F, 2, none⟩ = some ((.bool F.u)) := blk_cell B_F.out 2
      have o_B_F_3 : W43.cell? ⟨b_F, 3, none⟩ = some ((.slice af fl cf)) := blk_cell B_F.out 3
      have o_B_F_4 : W43.cell? ⟨b_F, 4, none⟩ = some ((.int .u64 (F.t : Int))) := blk_cell B_F.out 4
      go_upto_region 13 with fail
      clear o_B_F_0 o_B_F_1 o_B_F_2 o_B_F_3 o_B_F_4
      generalize hW : World.alloc W43 _ = W44
      have KS : Hd (Keeps (fun _ => False) W43 W44) := hid (by rw [← hW]; exact (Keeps.alloc (Keeps.refl (fun _ => False) W43) _))
      have HBP' : Hd (Blk W44 p #[(.slice qb (sn + 1) qd), (.int .i64 nx), (.int .u64 (k2 : Int)), (.int .i64 i2), (.int .i64 nx), (.slice aa fn ac), (.bool lk), (.int .u64 (rk : Int)), (.int .i64 ri), (.slice fa f2n fc), (.slice ra rpn rc), (.slice ga gn gc)] 60) := hid (by rw [← hW]; exact (blk_alloc HBP.out _))
      have HAH' : Hd (Frs (fun b => b ≠ p) W44 (.slice aa fn ac) fs) := hid (HAH.out.keep KS.out (fun _ _ _ h => h))
      have B_F' : Hd (Blk W44 b_F #[(.int .i64 F.q), (.int .i64 F.k), (.bool F.u), (.slice af fl cf), (.int .u64 (F.t : Int))] 25) := hid (by rw [← hW]; exact (blk_alloc B_F.out _))
      have HSF' : Hd (Sl (fun b => W42.heap.size ≤ b) W44 (.slice af fl cf) (u8s F.b)) := hid (HSF.out.keep KS.out (fun _ _ _ h => h))
      have BG : Hd (Blk W44 W43.heap.size #[(.int .i64 F.q), (.int .i64 F.k), (.bool F.u), (.slice af fl cf), (.int .u64 (tag : Int))] 25) := hid (by rw [← hW]; exact (blk_new _ _ _))
      clear HBP HAH B_F HSF
      have HBP := HBP'
      clear HBP'
      have HAH := HAH'
      clear HAH'
      have B_F := B_F'
      clear B_F'
      have HSF := HSF'
      clear HSF'
      have HK' : Hd (Keeps (fun _ => False) w W44) := hid (HK.out.trans KS.out)
      clear HK
      have HK := HK'
      clear HK'
      have z_W44 : W43.heap.size + 1 ≤ W44.heap.size := by rw [← hW]; simp
      clear hW KS
      generalize hb_BG : W43.heap.size = b_G at *
      obtain ⟨⟨⟨nx3, fs3, lk3, ⟨rk3, ri3⟩⟩, bd3, er3⟩, hRR⟩ : ∃ R, recvM ⟨nx, fs, lk, ⟨rk, ri⟩⟩ ⟨F.q, F.k, F.u, F.b, tag⟩ = R := ⟨_, rfl⟩
      have HRR := hid hRR
      clear hRR
      obtain ⟨fn3, hfn3⟩ : ∃ n, fs3.length = n := ⟨_, rfl⟩
      have N_fn3 := hid hfn3
      clear hfn3
      obtain ⟨bn3, hbn3⟩ : ∃ n, bd3.length = n := ⟨_, rfl⟩
      have N_bn3 := hid hbn3
      clear hbn3
      have HRP : Hd (∀ X, Keeps (fun _ => False) W44 X → Calls Tryd.prog 24 #[.agg #[.int .i64 nx, .slice aa fn ac, .bool lk, .int .u64 (rk : Int), .int .i64 ri], .agg #[(.int .i64 F.q), (.int .i64 F.k), (.bool F.u), (.slice af fl cf), (.int .u64 (tag : Int))]] X fun e w' => ∃ a2 c2 a3 c3, e = .returned (.tuple #[.agg #[.int .i64 nx3, .slice a2 fn3 c2, .bool lk3, .int .u64 (rk3 : Int), .int .i64 ri3], .slice a3 bn3 c3, .int .i64 er3]) ∧ Frs (fun b => b < W44.heap.size ∨ X.heap.size ≤ b) w' (.slice a2 fn3 c2) fs3 ∧ Keeps (fun _ => False) X w') := hid (fun X hx => by
        have h := Receive_any nx fs aa ac lk ⟨rk, ri⟩ ⟨F.q, F.k, F.u, F.b, tag⟩ (fun b => b < W44.heap.size) af cf X (by rw [N_fn.out]; exact (HAH.out.mono (K' := fun b => b < W44.heap.size) (fun b hb _ => hb)).keep hx (fun _ _ _ h => h)) (fun b h => Nat.lt_of_lt_of_le h hx.size) (by rw [HFL.out]; exact (HSF.out.keep hx (fun _ _ _ h => h)).mono (fun _ _ _ => trivial)) _ HRO.out (by omega) HGO2.out
        rw [HRR.out] at h
        unfold RecvR at h
        simp only [N_fn3.out, N_bn3.out, N_fn.out, HFL.out] at h
        exact h.mono (fun e w' ⟨b1, b2, b3, b4, g1, g2, g3, g4⟩ => ⟨b1, b2, b3, b4, g1, g2, g4⟩))
      go_cut [21, 20, 19] from 88 to 97 (fun u21 u20 u19 wx => ∃ (a5 : Option Addr) (c5 : Nat) (a6 : Option Addr) (c6 : Nat), u21 = .int .i64 er3 ∧ u20 = .slice a6 bn3 c6 ∧ ∃ bN, u19 = .pointer (some ⟨bN, 0, none⟩) ∧ W44.heap.size ≤ bN ∧ Hd (Blk wx bN #[(.int .i64 nx3), (.slice a5 fn3 c5), (.bool lk3), (.int .u64 (rk3 : Int)), (.int .i64 ri3)] 35) ∧ Hd (Frs (fun _ => True) wx (.slice a5 fn3 c5) fs3) ∧ Hd (Keeps (fun _ => False) W44 wx))
      case first =>
        refine wp_many (C := mkMC 5 [5, 6, 7, 8, 9, 11, 12, 13] [(10, 35, #[(.int .i64 0), (.slice none 0 0), (.bool false), (.int .u64 0), (.int .i64 0)])] [(11, 10, 7)] [(fun _ => .pointer (some ⟨p, 0, none⟩)), (fun _ => .pointer (some ⟨p, 0, none⟩)), (fun _ => .pointer (some ⟨p, 4, none⟩)), (fun _ => .agg #[.int .i64 nx, .slice aa fn ac, .bool lk, .int .u64 (rk : Int), .int .i64 ri]), (fun _ => .agg #[(.int .i64 F.q), (.int .i64 F.k), (.bool F.u), (.slice af fl cf), (.int .u64 (tag : Int))]), (fun r => r), (fun r => r), (fun r => tupAt r 0), (fun r => tupAt r 1), (fun r => tupAt r 2), (fun _ => undef), (fun _ => undef), (fun r => tupAt r 1), (fun r => tupAt r 2)] (fun _ r => rcF r) (rcR nx3 fs3 lk3 rk3 ri3 bn3 er3)) (by kernel_rfl) ?H ?HV 5 rfl ?HC ?HE
        case H =>
          refine { back := by kernel_rfl, dst := uniqB_spec (by kernel_rfl), szd := underB_spec (by kernel_rfl), val := valB_spec3 (f := mkV [(10, 35, #[(.int .i64 0), (.slice none 0 0), (.bool false), (.int .u64 0), (.int .i64 0)])] [(11, 10, 7)]) (by kernel_rfl), alo := ?_, sto := ?_, stc := ?_, all := allB3_spec (f := mkV [(10, 35, #[(.int .i64 0), (.slice none 0 0), (.bool false), (.int .u64 0), (.int .i64 0)])] [(11, 10, 7)]) (g := mkA [(10, 35, #[(.int .i64 0), (.slice none 0 0), (.bool false), (.int .u64 0), (.int .i64 0)])]) (h := mkS [(11, 10, 7)]) (by kernel_rfl), nva := ?_, nvs := ?_, one := ?_, civ := rfl, nd := ?_, cd := rfl, dd := ?_, sem := rcSem _ _ _ _ _ _ _ _ _ _ _ _ _ rfl }
          · intro j o h0 ha
            have h1 : 10 = j := by simpa [mkMC] using ha
            subst h1
            all_goals
              have h2 := h0
              simp only [List.getElem?_cons_succ, List.getElem?_cons_zero, Option.some.injEq] at h2
              subst h2
              exact ⟨⟨_, rfl⟩, rfl, rfl⟩
          · intro s o h0 ha
            have h1 : 11 = s := by simpa [mkMC] using ha
            subst h1
            all_goals
              have h2 := h0
              simp only [List.getElem?_cons_succ, List.getElem?_cons_zero, Option.some.injEq] at h2
              subst h2
              exact ⟨_, _, _, _, rfl, rfl, rfl, rfl, rfl, rfl, rfl, waitsB_spec (by kernel_rfl), waitsB_spec (by kernel_rfl)⟩
          · intro s ha
            have h1 : 11 = s := by simpa [mkMC] using ha
            subst h1
            all_goals exact ⟨rfl, rfl, rfl, rfl⟩
          · intro s ha
            have h1 : 10 = s := by simpa [mkMC] using ha
            subst h1
            all_goals exact ⟨rfl, rfl, rfl⟩
          · intro s ha
            have h1 : 11 = s := by simpa [mkMC] using ha
            subst h1
            all_goals exact ⟨rfl, rfl⟩
          · intro s t ha hb hst
            have h1 : 11 = s := by simpa [mkMC] using ha
            subst h1
            all_goals (have h2 : 11 = t := by simpa [mkMC] using hb)
            exact h2
          · intro i r r' hv hD
            match i, hD with
            | 0, _ => rfl
            | 1, _ => rfl
            | 2, _ => rfl
            | 3, _ => rfl
            | 4, _ => rfl
            | 5, h => exact absurd h (by simp [mkMC])
            | 6, h => exact absurd h (by simp [mkMC])
            | 7, h => exact absurd h (by simp [mkMC])
            | 8, h => exact absurd h (by simp [mkMC])
            | 9, h => exact absurd h (by simp [mkMC])
            | 10, _ => rfl
            | 11, h => exact absurd h (by simp [mkMC])
            | 12, h => exact absurd h (by simp [mkMC])
            | 13, h => exact absurd h (by simp [mkMC])
            | n + 14, _ => rfl
          · intro i o h0 hD hne
            match i, h0, hD, hne with
            | 0, _, hD, _ => exact absurd hD (by simp [mkMC])
            | 1, _, hD, _ => exact absurd hD (by simp [mkMC])
            | 2, _, hD, _ => exact absurd hD (by simp [mkMC])
            | 3, _, hD, _ => exact absurd hD (by simp [mkMC])
            | 4, _, hD, _ => exact absurd hD (by simp [mkMC])
            | 5, _, _, hne => exact absurd rfl hne
            | 6, h0, _, _ =>
              simp only [List.getElem?_cons_succ, List.getElem?_cons_zero, Option.some.injEq] at h0
              subst h0
              exact ⟨5, waitsB_spec (by kernel_rfl), rfl⟩
            | 7, h0, _, _ =>
              simp only [List.getElem?_cons_succ, List.getElem?_cons_zero, Option.some.injEq] at h0
              subst h0
              exact ⟨6, waitsB_spec (by kernel_rfl), rfl⟩
            | 8, h0, _, _ =>
              simp only [List.getElem?_cons_succ, List.getElem?_cons_zero, Option.some.injEq] at h0
              subst h0
              exact ⟨6, waitsB_spec (by kernel_rfl), rfl⟩
            | 9, h0, _, _ =>
              simp only [List.getElem?_cons_succ, List.getElem?_cons_zero, Option.some.injEq] at h0
              subst h0
              exact ⟨6, waitsB_spec (by kernel_rfl), rfl⟩
            | 10, _, hD, _ => exact absurd hD (by simp [mkMC])
            | 11, h0, _, _ =>
              simp only [List.getElem?_cons_succ, List.getElem?_cons_zero, Option.some.injEq] at h0
              subst h0
              exact ⟨7, waitsB_spec (by kernel_rfl), rfl⟩
            | 12, h0, _, _ =>
              simp only [List.getElem?_cons_succ, List.getElem?_cons_zero, Option.some.injEq] at h0
              subst h0
              exact ⟨8, waitsB_spec (by kernel_rfl), rfl⟩
            | 13, h0, _, _ =>
              simp only [List.getElem?_cons_succ, List.getElem?_cons_zero, Option.some.injEq] at h0
              subst h0
              exact ⟨9, waitsB_spec (by kernel_rfl), rfl⟩
            | n + 14, h0, _, _ => simp at h0
        case HV =>
          intro iq o hv hne hi aq w' r hk hd hR
          match iq, hv, hne, hi, hR with
          | 0, _, _, hi, hR =>
            have hi1 := hi
            simp only [List.getElem?_cons_succ, List.getElem?_cons_zero, Option.some.injEq] at hi1
            subst hi1
            have e0 : aq.eval (.tmp 11) = .pointer (some ⟨p, 0, none⟩) := (hd.out (by kernel_rfl)).trans rfl
            exact wpOp_ranL hi rfl (v := .pointer (some ⟨p, 0, none⟩)) (w' := w') (by simp only [execOp, e0]; rfl) ⟨rfl, Keeps.refl _ _⟩
          | 1, _, _, hi, hR =>
            have hi1 := hi
            simp only [List.getElem?_cons_succ, List.getElem?_cons_zero, Option.some.injEq] at hi1
            subst hi1
            have e0 : aq.eval (.tmp 89) = .pointer (some ⟨p, 0, none⟩) := hd.val (j := 0) (by kernel_rfl) rfl rfl rfl
            exact wpOp_ranL hi rfl (v := .pointer (some ⟨p, 0, none⟩)) (w' := w') (by simp only [execOp, e0]; rfl) ⟨rfl, Keeps.refl _ _⟩
          | 2, _, _, hi, hR =>
            have hi1 := hi
            simp only [List.getElem?_cons_succ, List.getElem?_cons_zero, Option.some.injEq] at hi1
            subst hi1
            have e0 : aq.eval (.tmp 90) = .pointer (some ⟨p, 0, none⟩) := hd.val (j := 1) (by kernel_rfl) rfl rfl rfl
            exact wpOp_ranL hi rfl (v := .pointer (some ⟨p, 4, none⟩)) (w' := w') (by simp only [execOp, e0]; go_simp) ⟨rfl, Keeps.refl _ _⟩
          | 3, _, _, hi, hR =>
            have hi1 := hi
            simp only [List.getElem?_cons_succ, List.getElem?_cons_zero, Option.some.injEq] at hi1
            subst hi1
            have e0 : aq.eval (.tmp 91) = .pointer (some ⟨p, 4, none⟩) := hd.val (j := 2) (by kernel_rfl) rfl rfl rfl
            have c0 := keep_cell hk (fun h => h) (blk_cell HBP.out 4)
            have c1 := keep_cell hk (fun h => h) (blk_cell HBP.out 5)
            have c2 := keep_cell hk (fun h => h) (blk_cell HBP.out 6)
            have c3 := keep_cell hk (fun h => h) (blk_cell HBP.out 7)
            have c4 := keep_cell hk (fun h => h) (blk_cell HBP.out 8)
            exact wpOp_ranL hi rfl (v := .agg #[.int .i64 nx, .slice aa fn ac, .bool lk, .int .u64 (rk : Int), .int .i64 ri]) (w' := w') (by simp only [execOp, e0]; go_simp) ⟨rfl, Keeps.refl _ _⟩
          | 4, _, _, hi, hR =>
            have hi1 := hi
            simp only [List.getElem?_cons_succ, List.getElem?_cons_zero, Option.some.injEq] at hi1
            subst hi1
            have e0 : aq.eval (.tmp 18) = .pointer (some ⟨b_G, 0, none⟩) := (hd.out (by kernel_rfl)).trans rfl
            have c0 := keep_cell hk (fun h => h) (blk_cell BG.out 0)
            have c1 := keep_cell hk (fun h => h) (blk_cell BG.out 1)
            have c2 := keep_cell hk (fun h => h) (blk_cell BG.out 2)
            have c3 := keep_cell hk (fun h => h) (blk_cell BG.out 3)
            have c4 := keep_cell hk (fun h => h) (blk_cell BG.out 4)
            exact wpOp_ranL hi rfl (v := .agg #[(.int .i64 F.q), (.int .i64 F.k), (.bool F.u), (.slice af fl cf), (.int .u64 (tag : Int))]) (w' := w') (by simp only [execOp, e0]; go_simp) ⟨rfl, Keeps.refl _ _⟩
          | 5, _, hne, _, _ => exact absurd rfl hne
          | 6, _, _, hi, hR =>
            have hi1 := hi
            simp only [List.getElem?_cons_succ, List.getElem?_cons_zero, Option.some.injEq] at hi1
            subst hi1
            obtain ⟨K, a5, c5, a6, c6, rfl, hfr⟩ := hR rfl
            have e0 : aq.eval (.tmp 94) = .tuple #[.agg #[(.int .i64 nx3), (.slice a5 fs3.length c5), (.bool lk3), (.int .u64 (rk3 : Int)), (.int .i64 ri3)], .slice a6 bn3 c6, .int .i64 er3] := hd.val (j := 5) (by kernel_rfl) rfl rfl rfl
            exact wpOp_ranL hi rfl (v := .tuple #[.agg #[(.int .i64 nx3), (.slice a5 fs3.length c5), (.bool lk3), (.int .u64 (rk3 : Int)), (.int .i64 ri3)], .slice a6 bn3 c6, .int .i64 er3]) (w' := w') (by simp only [execOp, e0]; rfl) ⟨rfl, Keeps.refl _ _⟩
          | 7, _, _, hi, hR =>
            have hi1 := hi
            simp only [List.getElem?_cons_succ, List.getElem?_cons_zero, Option.some.injEq] at hi1
            subst hi1
            obtain ⟨K, a5, c5, a6, c6, rfl, hfr⟩ := hR rfl
            have e0 : aq.eval (.tmp 88) = .tuple #[.agg #[(.int .i64 nx3), (.slice a5 fs3.length c5), (.bool lk3), (.int .u64 (rk3 : Int)), (.int .i64 ri3)], .slice a6 bn3 c6, .int .i64 er3] := hd.val (j := 6) (by kernel_rfl) rfl rfl rfl
            exact wpOp_ranL hi rfl (v := .agg #[(.int .i64 nx3), (.slice a5 fs3.length c5), (.bool lk3), (.int .u64 (rk3 : Int)), (.int .i64 ri3)]) (w' := w') (by simp only [execOp, e0]; rfl) ⟨rfl, Keeps.refl _ _⟩
          | 8, _, _, hi, hR =>
            have hi1 := hi
            simp only [List.getElem?_cons_succ, List.getElem?_cons_zero, Option.some.injEq] at hi1
            subst hi1
            obtain ⟨K, a5, c5, a6, c6, rfl, hfr⟩ := hR rfl
            have e0 : aq.eval (.tmp 88) = .tuple #[.agg #[(.int .i64 nx3), (.slice a5 fs3.length c5), (.bool lk3), (.int .u64 (rk3 : Int)), (.int .i64 ri3)], .slice a6 bn3 c6, .int .i64 er3] := hd.val (j := 6) (by kernel_rfl) rfl rfl rfl
            exact wpOp_ranL hi rfl (v := .slice a6 bn3 c6) (w' := w') (by simp only [execOp, e0]; rfl) ⟨rfl, Keeps.refl _ _⟩
          | 9, _, _, hi, hR =>
            have hi1 := hi
            simp only [List.getElem?_cons_succ, List.getElem?_cons_zero, Option.some.injEq] at hi1
            subst hi1
            obtain ⟨K, a5, c5, a6, c6, rfl, hfr⟩ := hR rfl
            have e0 : aq.eval (.tmp 88) = .tuple #[.agg #[(.int .i64 nx3), (.slice a5 fs3.length c5), (.bool lk3), (.int .u64 (rk3 : Int)), (.int .i64 ri3)], .slice a6 bn3 c6, .int .i64 er3] := hd.val (j := 6) (by kernel_rfl) rfl rfl rfl
            exact wpOp_ranL hi rfl (v := .int .i64 er3) (w' := w') (by simp only [execOp, e0]; rfl) ⟨rfl, Keeps.refl _ _⟩
          | 10, hv, _, _, _ => cases hv
          | 11, hv, _, _, _ => cases hv
          | 12, _, _, hi, hR =>
            have hi1 := hi
            simp only [List.getElem?_cons_succ, List.getElem?_cons_zero, Option.some.injEq] at hi1
            subst hi1
            obtain ⟨K, a5, c5, a6, c6, rfl, hfr⟩ := hR rfl
            have e0 : aq.eval (.tmp 96) = .slice a6 bn3 c6 := hd.val (j := 8) (by kernel_rfl) rfl rfl rfl
            exact wpOp_ranL hi rfl (v := .slice a6 bn3 c6) (w' := w') (by simp only [execOp, e0]; rfl) ⟨rfl, Keeps.refl _ _⟩
          | 13, _, _, hi, hR =>
            have hi1 := hi
            simp only [List.getElem?_cons_succ, List.getElem?_cons_zero, Option.some.injEq] at hi1
            subst hi1
            obtain ⟨K, a5, c5, a6, c6, rfl, hfr⟩ := hR rfl
            have e0 : aq.eval (.tmp 97) = .int .i64 er3 := hd.val (j := 9) (by kernel_rfl) rfl rfl rfl
            exact wpOp_ranL hi rfl (v := .int .i64 er3) (w' := w') (by simp only [execOp, e0]; rfl) ⟨rfl, Keeps.refl _ _⟩
          | n + 14, _, _, hi, _ => simp at hi
        case HC =>
          intro o hi aq w' r hk hd
          have hi1 := hi
          simp only [List.getElem?_cons_succ, List.getElem?_cons_zero, Option.some.injEq] at hi1
          subst hi1
          have e0 : aq.eval (.tmp 92) = .agg #[.int .i64 nx, .slice aa fn ac, .bool lk, .int .u64 (rk : Int), .int .i64 ri] := hd.val (j := 3) (by kernel_rfl) rfl rfl rfl
          have e1 : aq.eval (.tmp 93) = .agg #[(.int .i64 F.q), (.int .i64 F.k), (.bool F.u), (.slice af fl cf), (.int .u64 (tag : Int))] := hd.val (j := 4) (by kernel_rfl) rfl rfl rfl
          exact wpOp_callL hi rfl (f := 24) (args := #[.agg #[.int .i64 nx, .slice aa fn ac, .bool lk, .int .u64 (rk : Int), .int .i64 ri], .agg #[(.int .i64 F.q), (.int .i64 F.k), (.bool F.u), (.slice af fl cf), (.int .u64 (tag : Int))]]) (by simp only [execOp_call_go, List.map_toArray, List.map_cons, List.map_nil, e0, e1]; rfl) ((HRP.out _ hk).mono (fun e w2 ⟨a2, c2, a3, c3, he, hfr, hk2⟩ => ⟨_, he, _, rfl, hk2, a2, c2, a3, c3, by rw [N_fn3.out], by rw [N_fn3.out]; exact hfr⟩))
        case HE =>
          intro L aq w' gg r hL hT
          have em := act_mix (bs := [true, true, true, true, true, true, true, true, true, true, true, true, true, true, true, true, true, true, true, false, false, false, true, true, true, true, true, true, true, true, true, true, true, true, true, true, true, true, true, true, true, true, true, true, true, true, true, true, true, true, true, true, true, true, true, true, true, true, true, true, true, true, true, true, true, true, true, true, true, true, true, true, true, true, true, true, true, true, true, true, true, true, true, true, true, true, true, true, false, false, false, false, false, false, false, false, false, false, true, true, true, true, true, true, true, true, true, true, true, true, true, true, true, true, true, true, true, true, true, true, true, true, true, true, true, true, true, true, true, true, true, true, true, true, true, true, true, true, true, true, true, true, true, true, true, true, true, true, true, true, true, true, true, true, true, true, true, true, true, true, true, true, true, true, true, true, true, true, true, true, true, true, true, true, true, true, true, true, true, true, true, true, true, true, true, true, true, true, true, true, true, true, true, true]) hT.sz hT.df hT.fr rfl (by kernel_rfl)
          have hR := hT.c (hL 5 (by decide))
          obtain ⟨a5, c5, a6, c6, rfl, hfr⟩ := hR
          have kW := hT.kp
          obtain ⟨eA10, zA10, cs10, -, bA10, sA10⟩ := hT.al 10 rfl (hL 10 (by decide)) _ 19 rfl rfl
          have sA10 := sA10 11 rfl (hL 11 (by decide)) rfl
          subst sA10
          change aq.tmps.getD 19 undef = _ at eA10
          generalize gg 10 = g10 at *
          have k20 : aq.tmps.getD 20 undef = .slice a6 bn3 c6 := hT.v 12 _ 20 rfl (hL 12 (by decide)) rfl rfl
          have k21 : aq.tmps.getD 21 undef = .int .i64 er3 := hT.v 13 _ 21 rfl (hL 13 (by decide)) rfl rfl
          clear hT hL
          simp only [mix, eA10, k20, k21] at em
          clear eA10 k20 k21
          generalize aq.tmps.getD 89 undef = q89 at em
          generalize aq.tmps.getD 90 undef = q90 at em
          generalize aq.tmps.getD 91 undef = q91 at em
          generalize aq.tmps.getD 92 undef = q92 at em
          generalize aq.tmps.getD 93 undef = q93 at em
          generalize aq.tmps.getD 94 undef = q94 at em
          generalize aq.tmps.getD 88 undef = q88 at em
          generalize aq.tmps.getD 95 undef = q95 at em
          generalize aq.tmps.getD 96 undef = q96 at em
          generalize aq.tmps.getD 97 undef = q97 at em
          subst em
          simp only [Exit.then]
          go_wp2_with fail
          go_meet
          exact ⟨a5, c5, a6, c6, rfl, rfl, g10, rfl, zA10, hid (by rw [← N_fn3.out]; exact bA10), hid (by rw [← N_fn3.out]; exact hfr.mono (fun _ _ _ => trivial)), hid kW⟩
      case rest =>
      obtain ⟨a5, c5, a6, c6, rfl, rfl, b_R, rfl, hb_R, B_R, HFS3, hk⟩ := hcut
      replace hk := hk.out
      generalize wc = W45 at *
      have HBP' : Hd (Blk W45 p #[(.slice qb (sn + 1) qd), (.int .i64 nx), (.int .u64 (k2 : Int)), (.int .i64 i2), (.int .i64 nx), (.slice aa fn ac), (.bool lk), (.int .u64 (rk : Int)), (.int .i64 ri), (.slice fa f2n fc), (.slice ra rpn rc), (.slice ga gn gc)] 60) := hid (blk_keep HBP.out hk (fun h => h))
      have HAH' : Hd (Frs (fun b => b ≠ p) W45 (.slice aa fn ac) fs) := hid (HAH.out.keep hk (fun _ _ _ h => h))
      have B_F' : Hd (Blk W45 b_F #[(.int .i64 F.q), (.int .i64 F.k), (.bool F.u), (.slice af fl cf), (.int .u64 (F.t : Int))] 25) := hid (blk_keep B_F.out hk (fun h => h))
      have HSF' : Hd (Sl (fun b => W42.heap.size ≤ b) W45 (.slice af fl cf) (u8s F.b)) := hid (HSF.out.keep hk (fun _ _ _ h => h))
      have BG' : Hd (Blk W45 b_G #[(.int .i64 F.q), (.int .i64 F.k), (.bool F.u), (.slice af fl cf), (.int .u64 (tag : Int))] 25) := hid (blk_keep BG.out hk (fun h => h))
      clear HBP HAH B_F HSF BG
      have HBP := HBP'
      clear HBP'
      have HAH := HAH'
      clear HAH'
      have B_F := B_F'
      clear B_F'
      have HSF := HSF'
      clear HSF'
      have BG := BG'
      clear BG'
      have HK' : Hd (Keeps (fun _ => False) w W45) := hid (HK.out.trans hk)
      clear HK
      have HK := HK'
      clear HK'
      have z_W45 := hk.size
      clear hk
      clear HRP BG
      go_upto_region 14 with fail
      go_cut [119] from 98 to 119 (fun u119 wx => u119 = .bool false ∧ Hd (Keeps (fun _ => False) W45 wx))
      case first =>
        have KC : Hd (Keeps (fun _ => False) W45 W45) := hid (Keeps.refl _ _)
        by_cases ht : tag = F.t
        · have HSS : Hd (∀ w', Keeps (fun _ => False) W45 w' → (w'.cell? ⟨p, 4, none⟩ = some ((.int .i64 nx)) ∧ w'.cell? ⟨p, 5, none⟩ = some ((.slice aa fn ac)) ∧ w'.cell? ⟨p, 6, none⟩ = some ((.bool lk)) ∧ w'.cell? ⟨p, 7, none⟩ = some ((.int .u64 (rk : Int))) ∧ w'.cell? ⟨p, 8, none⟩ = some ((.int .i64 ri)) ∧ w'.cell? ⟨b_R, 0, none⟩ = some ((.int .i64 nx3)) ∧ w'.cell? ⟨b_R, 1, none⟩ = some ((.slice a5 fn3 c5)) ∧ w'.cell? ⟨b_R, 2, none⟩ = some ((.bool lk3)) ∧ w'.cell? ⟨b_R, 3, none⟩ = some ((.int .u64 (rk3 : Int))) ∧ w'.cell? ⟨b_R, 4, none⟩ = some ((.int .i64 ri3)) ∧ w'.cell? ⟨b_F, 4, none⟩ = some ((.int .u64 (F.t : Int))))) := hid (fun w' hk => ⟨blk_cell (blk_keep HBP.out hk (fun h => h)) 4, blk_cell (blk_keep HBP.out hk (fun h => h)) 5, blk_cell (blk_keep HBP.out hk (fun h => h)) 6, blk_cell (blk_keep HBP.out hk (fun h => h)) 7, blk_cell (blk_keep HBP.out hk (fun h => h)) 8, blk_cell (blk_keep B_R.out hk (fun h => h)) 0, blk_cell (blk_keep B_R.out hk (fun h => h)) 1, blk_cell (blk_keep B_R.out hk (fun h => h)) 2, blk_cell (blk_keep B_R.out hk (fun h => h)) 3, blk_cell (blk_keep B_R.out hk (fun h => h)) 4, blk_cell (blk_keep B_F.out hk (fun h => h)) 4⟩)
          have hn1 : ((tag : Int) != (F.t : Int)) = false := by rw [ht]; simp
          have hn2 : ((tag : Int) == (F.t : Int)) = true := by rw [ht]; simp
          have hn3 : (tag != F.t) = false := by rw [ht]; simp
          have hn4 : (tag == F.t) = true := by rw [ht]; simp
          have hn5 : decide (tag = F.t) = true := by rw [ht]; simp
          have hn6 : (!(tag == F.t)) = false := by rw [ht]; simp
          clear ht
          obtain ⟨s0, s1, s2, s3, s4, s5, s6, s7, s8, s9, s10⟩ := HSS.out _ KC.out
          go_quiet (fail)
          go_wp2_with fail
          go_meet
          exact ⟨rfl, hid (by repeat (first | (with_reducible exact KC.out) | (with_reducible exact Keeps.refl _ _) | (with_reducible apply Keeps.drewN) | (with_reducible apply Keeps.drew)))⟩
        · have h9 := (HFR.out ht).symm.trans HRR.out
          simp only [Prod.mk.injEq, Rv.mk.injEq, Ld.mk.injEq] at h9
          obtain ⟨⟨rfl, rfl, rfl, rfl, rfl⟩, rfl, rfl⟩ := h9
          obtain rfl : fn = fn3 := N_fn.out.symm.trans N_fn3.out
          obtain rfl : bn3 = 0 := N_bn3.out.symm
          have HSS : Hd (∀ w', Keeps (fun _ => False) W45 w' → (w'.cell? ⟨p, 4, none⟩ = some ((.int .i64 nx)) ∧ w'.cell? ⟨p, 5, none⟩ = some ((.slice aa fn ac)) ∧ w'.cell? ⟨p, 6, none⟩ = some ((.bool lk)) ∧ w'.cell? ⟨p, 7, none⟩ = some ((.int .u64 (rk : Int))) ∧ w'.cell? ⟨p, 8, none⟩ = some ((.int .i64 ri)) ∧ w'.cell? ⟨b_R, 0, none⟩ = some ((.int .i64 nx)) ∧ w'.cell? ⟨b_R, 1, none⟩ = some ((.slice a5 fn c5)) ∧ w'.cell? ⟨b_R, 2, none⟩ = some ((.bool lk)) ∧ w'.cell? ⟨b_R, 3, none⟩ = some ((.int .u64 (rk : Int))) ∧ w'.cell? ⟨b_R, 4, none⟩ = some ((.int .i64 ri)) ∧ w'.cell? ⟨b_F, 4, none⟩ = some ((.int .u64 (F.t : Int))))) := hid (fun w' hk => ⟨blk_cell (blk_keep HBP.out hk (fun h => h)) 4, blk_cell (blk_keep HBP.out hk (fun h => h)) 5, blk_cell (blk_keep HBP.out hk (fun h => h)) 6, blk_cell (blk_keep HBP.out hk (fun h => h)) 7, blk_cell (blk_keep HBP.out hk (fun h => h)) 8, blk_cell (blk_keep B_R.out hk (fun h => h)) 0, blk_cell (blk_keep B_R.out hk (fun h => h)) 1, blk_cell (blk_keep B_R.out hk (fun h => h)) 2, blk_cell (blk_keep B_R.out hk (fun h => h)) 3, blk_cell (blk_keep B_R.out hk (fun h => h)) 4, blk_cell (blk_keep B_F.out hk (fun h => h)) 4⟩)
          have hn1 : ((tag : Int) != (F.t : Int)) = true := by simp; exact fun e => ht (by omega)
          have hn2 : ((tag : Int) == (F.t : Int)) = false := by simp; exact fun e => ht (by omega)
          have hn3 : (tag != F.t) = true := by simp [ht]
          have hn4 : (tag == F.t) = false := by simp [ht]
          have hn5 : decide (tag = F.t) = false := by simp [ht]
          have hn6 : (!(tag == F.t)) = true := by simp [ht]
          have HSR : Hd (∀ X, Keeps (fun _ => False) W45 X → Calls Tryd.prog 26 #[.agg #[(.int .i64 nx), (.slice a5 fn c5), (.bool lk), (.int .u64 (rk : Int)), (.int .i64 ri)], .agg #[.int .i64 nx, .slice aa fn ac, .bool lk, .int .u64 (rk : Int), .int .i64 ri]] X fun e w' => e = .returned (.bool true) ∧ Keeps (fun _ => False) X w') := hid (fun X hx => by have h := SameReceiver_true nx fs lk ⟨rk, ri⟩ a5 aa c5 ac _ _ X (by rw [N_fn.out]; exact HFS3.out.keep hx (fun _ _ _ h => h)) (by rw [N_fn.out]; exact HAH.out.keep hx (fun _ _ _ h => h)) HFX.out (by rw [N_fn.out]; omega); rw [N_fn.out] at h; exact h)
          go_region_held (fun w' => w'.cell? ⟨p, 4, none⟩ = some ((.int .i64 nx)) ∧ w'.cell? ⟨p, 5, none⟩ = some ((.slice aa fn ac)) ∧ w'.cell? ⟨p, 6, none⟩ = some ((.bool lk)) ∧ w'.cell? ⟨p, 7, none⟩ = some ((.int .u64 (rk : Int))) ∧ w'.cell? ⟨p, 8, none⟩ = some ((.int .i64 ri)) ∧ w'.cell? ⟨b_R, 0, none⟩ = some ((.int .i64 nx)) ∧ w'.cell? ⟨b_R, 1, none⟩ = some ((.slice a5 fn c5)) ∧ w'.cell? ⟨b_R, 2, none⟩ = some ((.bool lk)) ∧ w'.cell? ⟨b_R, 3, none⟩ = some ((.int .u64 (rk : Int))) ∧ w'.cell? ⟨b_R, 4, none⟩ = some ((.int .i64 ri)) ∧ w'.cell? ⟨b_F, 4, none⟩ = some ((.int .u64 (F.t : Int)))) (exact HSS.out _ (by repeat (first | (with_reducible exact KC.out) | (with_reducible exact Keeps.refl _ _) | (with_reducible apply Keeps.drewN) | (with_reducible apply Keeps.drew))))
            (first | (go_at_call 26; (refine (HSR.out _ (by repeat (first | (with_reducible exact KC.out) | (with_reducible exact Keeps.refl _ _) | (with_reducible apply Keeps.drewN) | (with_reducible apply Keeps.drew)))).mono ?_); rintro e y1 ⟨rfl, hk⟩; have KC2 : Hd (Keeps (fun _ => False) W45 y1) := hid (Keeps.trans (S := fun _ => False) (by repeat (first | (with_reducible exact KC.out) | (with_reducible exact Keeps.refl _ _) | (with_reducible apply Keeps.drewN) | (with_reducible apply Keeps.drew))) hk); replace KC := KC2; clear KC2 hk))
          all_goals
            go_wp2_with fail
            go_meet
            exact ⟨rfl, hid (by repeat (first | (with_reducible exact KC.out) | (with_reducible exact Keeps.refl _ _) | (with_reducible apply Keeps.drewN) | (with_reducible apply Keeps.drew)))⟩
      case rest =>
      obtain ⟨rfl, hk⟩ := hcut
      replace hk := hk.out
      generalize wc = W46 at *
      clear HBP HAH B_R HFS3 HRR HFR
      have B_F' : Hd (Blk W46 b_F #[(.int .i64 F.q), (.int .i64 F.k), (.bool F.u), (.slice af fl cf), (.int .u64 (F.t : Int))] 25) := hid (blk_keep B_F.out hk (fun h => h))
      have HSF' : Hd (Sl (fun b => W42.heap.size ≤ b) W46 (.slice af fl cf) (u8s F.b)) := hid (HSF.out.keep hk (fun _ _ _ h => h))
      clear B_F HSF
      have B_F := B_F'
      clear B_F'
      have HSF := HSF'
      clear HSF'
      have HK' : Hd (Keeps (fun _ => False) w W46) := hid (HK.out.trans hk)
      clear HK
      have HK := HK'
      clear HK'
      have z_W46 := hk.size
      clear hk
      have o_B_F_0 : W46.cell? ⟨b_F, 0, none⟩ = some ((.int .i64 F.q)) := blk_cell B_F.out 0
      have o_B_F_1 : W46.cell? ⟨b_F, 1, none⟩ = some ((.int .i64 F.k)) := blk_cell B_F.out 1
      have o_B_F_2 : W46.cell? ⟨b_F, 2, none⟩ = some ((.bool F.u)) := blk_cell B_F.out 2
      have o_B_F_3 : W46.cell? ⟨b_F, 3, none⟩ = some ((.slice af fl cf)) := blk_cell B_F.out 3
      have o_B_F_4 : W46.cell? ⟨b_F, 4, none⟩ = some ((.int .u64 (F.t : Int))) := blk_cell B_F.out 4
      have HN1 : Hd (NibR W46) := hid (HN.out.keep HK.out (fun _ _ _ h => h))
      obtain ⟨n, hn⟩ : ∃ n, (encF F).length = n := ⟨_, rfl⟩
      have HNL := hid hn
      have hn4 : 4 ≤ n := by rw [← hn]; unfold encF; rw [Cr.seal_len]; omega
      clear hn
      have hnb : n ≤ 1000 := by rw [← HNL.out]; have h1 := covL_len HFO.out; have h2 : (Wi.enc F.t).length ≤ 10 := Wi.enc_len10 (by have := HFO.out.t; omega); have h3 := HFL5.out; unfold encF; rw [Cr.seal_len, List.length_append]; omega
      have HEB : Hd (∀ c ∈ encF F, c < 256) := hid (encF_lt2 HFO.out)
      have HEC : Hd (Calls Tryd.prog 16 #[.agg #[.int .i64 F.q, .int .i64 F.k, .bool F.u, .slice af fl cf, .int .u64 (F.t : Int)]] W46 fun e w' => ∃ g cb, e = .returned (.slice (some ⟨g, 0, none⟩) n cb) ∧ Own (fun k => W46.heap.size ≤ k) w' 5 1 (.slice (some ⟨g, 0, none⟩) n cb) n (u8s (encF F)) ∧ Keeps (fun _ => False) W46 w') := hid (by
        have h := Encode_any F (fun b => W42.heap.size ≤ b) af cf W46 HN1.out HFO.out (by rw [HFL.out]; exact HSF.out)
        rw [HFL.out] at h
        refine h.mono (fun e w' ⟨a, m, c, he, hm, ho, hk⟩ => ?_)
        rw [u8s_length, HNL.out] at hm
        subst hm
        obtain ⟨g, rfl⟩ := own_someJ ho (by omega)
        exact ⟨g, c, he, ho, hk⟩)
      go_wp2_with fail
      refine HEC.out.mono ?_
      rintro e W50 ⟨g, cb, rfl, hown, hk⟩
      clear o_B_F_0 o_B_F_1 o_B_F_2 o_B_F_3 o_B_F_4
      have HK1 : Hd (Keeps (fun b => w.heap.size ≤ b) w W50) := hid ((HK.out.trans hk).mono (fun _ _ h => h.elim))
      have HOW : Hd (Own (fun k => w.heap.size ≤ k) W50 5 1 (.slice (some ⟨g, 0, none⟩) n cb) n (u8s (encF F))) := hid (hown.mono (fun b _ h => by have := HK.out.size; omega))
      clear hown hk HEC HN1 HK HSF B_F
      have h0i : ((n : Int) == 0) = false := by simp; omega
      have hb := around_b at_ (show (1 : Int) ≤ 8 * n by omega)
      have hw8 : IntKind.i64.wrap (8 * (n : Int)) = 8 * (n : Int) := IntWalk.i64_in _ (by omega)
      go_wp2_with fail
      refine (Around_any at_ (8 * (n : Int)) _ ha0 ha1 (by omega) (by omega)).mono ?_
      rintro e wx ⟨rfl, rfl⟩
      obtain ⟨s, hs⟩ : ∃ s : Nat, around at_ (8 * (n : Int)) = s := ⟨(around at_ (8 * n)).toNat, by omega⟩
      rw [hs] at hb ⊢
      have hs8 : s < 8 * n := by omega
      clear hb hs
      go_wp2_with fail
      go_loopw [4, 24, 25] (fun b9 c9 iv wr => ∃ k : Nat, b9 = .int .u32 ((pb / 2 ^ k : Nat) : Int) ∧ c9 = .bool (!decide (pb % 2 ^ k = 0)) ∧ iv = .int .i64 k ∧ k ≤ 32 ∧ s + k ≤ 8 * n ∧ Hd (ForgS w (encF F) s pb g cb n k wr)) (fun _ _ iv _ => 32 - (intOf iv).toNat)
      case atStart => exact ⟨0, by simp, by simp [Nat.mod_one], rfl, by omega, by omega, hid ⟨encF F, HNL.out, HEB.out, by simp [Nat.mod_one], HOW.out, HK1.out⟩⟩
      case round =>
        clear HK1 HOW
        obtain ⟨k, rfl, rfl, rfl, hk, hik, PS⟩ := hrel
        by_cases hgo : k < 32 ∧ s + k < 8 * n
        · obtain ⟨hk2, hik2⟩ := hgo
          obtain ⟨m, hm'⟩ : ∃ m : Nat, m = s + k := ⟨_, rfl⟩
          have EM := hid (show (s : Int) + (k : Int) = (m : Int) by omega)
          have HM' := hid hm'
          have hm8 : m / 8 < n := by omega
          clear hm'
          have HNXT := hid (u32_tdivJ pb k HPB.out)
          by_cases hb : pb / 2 ^ k % 2 = 1
          · have HB := hid hb
            have hb1 : (((pb / 2 ^ k : Nat) : Int).tmod 2 == 1) = true := by
              have : ((pb / 2 ^ k : Nat) : Int).tmod 2 = ((pb / 2 ^ k % 2 : Nat) : Int) := rfl
              rw [this, hb]; rfl
            have hb2 : (((pb / 2 ^ k : Nat) : Int) % 2 == 1) = true := by
              have : ((pb / 2 ^ k : Nat) : Int) % 2 = ((pb / 2 ^ k % 2 : Nat) : Int) := rfl
              rw [this, hb]; rfl
            clear hb
            generalize hpk : pb / 2 ^ k = pk at *
            have HPK := hid hpk
            clear hpk
            obtain ⟨y, y1, y2, y3, y4, y5⟩ := PS.out
            obtain ⟨b1, b2, b3, b4⟩ := own_bitJ m hm8 y1 y4
            have YL := hid y1; have YB := hid y2; have YN := hid y3; have YK := hid y5
            have HST := hid b3
            have hgb : w.heap.size ≤ g := b4
            have HG := hid (Cr.getD_lt y2 (m / 8)); have HPW := hid (Cr.pow8_lt m)
            clear y1 y2 y3 y4 y5 b3 b4 PS
            generalize y.getD (m / 8) 0 = c at *
            have hx : bits BinOp.xor IntKind.u8 (c : Int) (2 ^ (m % 8) % 256) = ((c ^^^ 2 ^ (m % 8) : Nat) : Int) := by
              have h1 := u8_xor_nat c (2 ^ (m % 8)) HG.out HPW.out
              have h2 : ((2 : Int) ^ (m % 8) % 256) = ((2 ^ (m % 8) : Nat) : Int) := by
                have hp : 2 ^ (m % 8) < 256 := HPW.out
                rw [show ((2 : Int) ^ (m % 8)) = ((2 ^ (m % 8) : Nat) : Int) by simp]
                generalize 2 ^ (m % 8) = m at hp ⊢
                omega
              rw [h2]; exact h1
            have HX := hid hx; clear hx
            go_upto_region 26 with fail
            try simp only [EM.out]
            have w1' : IntKind.i64.wrap ((m : Int) / 8) = ((m / 8 : Nat) : Int) := by rw [IntWalk.i64_in _ (by omega)]; rfl
            have w2' : IntKind.i64.wrap ((m : Int) % 8) = ((m % 8 : Nat) : Int) := by rw [IntWalk.i64_in _ (by omega)]; rfl
            have w3' : (m : Int) / 8 < (n : Int) := by omega
            have w4' : (0 : Int) ≤ (m : Int) / 8 := by omega
            have w5' : ((m : Int) / 8).toNat = m / 8 := by omega
            have b1' : wr.drew.cell? ⟨g, m / 8, none⟩ = some (.int .u8 (c : Nat)) := b1
            have w9' : (m : Int).tmod 8 = (m : Int) % 8 := Int.tmod_eq_emod_of_nonneg (by omega)
            have w6' : (0 : Int) ≤ (m : Int) % 8 := by omega
            have w7' : ((m : Int) % 8).toNat = m % 8 := by omega
            have w8' : ¬ ((m : Int) % 8 < 0) := by omega
            go_still_tail 13, (by kernel_rfl)
            change wpList _ _ _ _ _ wr.drew
            have b1' : wr.drew.cell? ⟨g, m / 8, none⟩ = some (.int .u8 (c : Nat)) := b1
            have b2' : wr.drew.frozen? ⟨g, m / 8, none⟩ = false := b2
            go_wp2
            try rw [HX.out]
            go_roundw
            case rel =>
              refine ⟨k + 1, by rw [HNXT.out], by rw [decide_eq_false (Cr.bit_pos pb k (by rw [HPK.out]; exact HB.out))]; rfl, by go_num, by omega, by omega, hid ⟨Cr.flipped y m, by rw [Cr.flipped_len]; exact YL.out, Cr.flipped_lt YB.out _, ?_, HST.out, YK.out.drew.setCell (.inl hgb) _⟩⟩
              rw [Cr.num_flipped _ _ (by rw [YL.out]; omega), YN.out, Nat.xor_assoc, HM'.out, Cr.bit_set pb k s (by rw [HPK.out]; exact HB.out)]
            case measure => simp [intOf]; omega
          · have HB := hid hb
            have hb1 : (((pb / 2 ^ k : Nat) : Int).tmod 2 == 1) = false := by
              have : ((pb / 2 ^ k : Nat) : Int).tmod 2 = ((pb / 2 ^ k % 2 : Nat) : Int) := rfl
              rw [this, show pb / 2 ^ k % 2 = 0 by omega]; rfl
            have hb2 : (((pb / 2 ^ k : Nat) : Int) % 2 == 1) = false := by
              have : ((pb / 2 ^ k : Nat) : Int) % 2 = ((pb / 2 ^ k % 2 : Nat) : Int) := rfl
              rw [this, show pb / 2 ^ k % 2 = 0 by omega]; rfl
            clear hb
            generalize hpk : pb / 2 ^ k = pk at *
            have HPK := hid hpk
            clear hpk
            go_wp2
            go_roundw
            case rel =>
              refine ⟨k + 1, by rw [HNXT.out], by rw [Cr.bit_clear pb k (by rw [HPK.out]; exact HB.out)], by go_num, by omega, by omega, hid (by rw [ForgS, Cr.bit_clear pb k (by rw [HPK.out]; exact HB.out)]; exact PS.out)⟩
            case measure => simp [intOf]; omega
        · obtain ⟨y, y1, y2, y3, y4, y5⟩ := PS.out
          have HB1 : Hd (Keeps (fun b => w.heap.size ≤ b) w wr) := hid y5
          have HSL : Hd (Sl (fun _ => True) wr (.slice (some ⟨g, 0, none⟩) n cb) (u8s y)) := hid (row_sl (y4.row.mono (fun _ _ _ => trivial)) (by rw [u8s_length]; exact y1))
          have HYB := hid y2
          have HYN := hid y1
          obtain ⟨q, hq⟩ : ∃ q, pb % 2 ^ k = q := ⟨_, rfl⟩
          have hql : q < 4294967296 := by rw [← hq]; exact Nat.lt_of_le_of_lt (Nat.mod_le _ _) HPB.out
          rw [hq] at y3 ⊢
          have HY3 := hid y3
          generalize hbi : pb / 2 ^ k = pk at *
          clear y1 y2 y3 y4 y5 hq hbi PS
          have hz : NibR wr := HN.out.keep HB1.out (fun b h1 h2 h3 => by omega)
          have HNW := hid hz
          clear hz
          obtain ⟨dv, hdv⟩ : ∃ dv : Int, dv = if q = 0 then 0 else 8 := ⟨_, rfl⟩
          have HD1 : Hd ((decM y).2 = dv) := hid (by
            rw [hdv]
            by_cases h0 : q = 0
            · rw [if_pos h0]; exact decM_good HFO.out HFK.out HFL5.out (forg_same HEB.out HYB.out (by rw [HYN.out, HNL.out]) HY3.out h0)
            · rw [if_neg h0]; exact decM_bad (forg_bad HFO.out HYB.out (by rw [HYN.out, HNL.out]) hql (by rw [HNL.out]; omega) HY3.out h0))
          have HD2 : Hd ((Cr.opened y).2 = dv) := hid (by
            rw [hdv]
            by_cases h0 : q = 0
            · rw [if_pos h0]; exact forg_good HFO.out HYB.out (by rw [HYN.out, HNL.out]) hql (by rw [HNL.out]; omega) HY3.out h0
            · rw [if_neg h0]; exact forg_bad HFO.out HYB.out (by rw [HYN.out, HNL.out]) hql (by rw [HNL.out]; omega) HY3.out h0)
          have HDE : Hd (Calls Tryd.prog 52 #[.slice (some ⟨g, 0, none⟩) n cb] wr fun e w' => ∃ q k u a m c t, e = .returned (.tuple #[.agg #[.int .i64 q, .int .i64 k, .bool u, .slice a m c, .int .u64 ((t : Nat) : Int)], .int .i64 dv]) ∧ Keeps (fun _ => False) wr w') := hid (by
            have h := Decode_any y (fun _ => True) _ wr HNW.out HSL.out HYB.out (by rw [HYN.out]; omega)
            unfold DecR at h
            rw [HD1.out] at h
            exact h.mono (fun e w' ⟨a, c, he, _, hk⟩ => ⟨_, _, _, a, _, c, _, he, hk⟩))
          have HOP : Hd (∀ X, Keeps (fun _ => False) wr X → Calls Tryd.prog 56 #[.slice (some ⟨g, 0, none⟩) n cb] X fun e w' => ∃ a m c, e = .returned (.tuple #[.slice a m c, .int .i64 dv]) ∧ Keeps (fun _ => False) X w') := hid (fun X hx => by
            have h := Cr.Open_any (fun _ => True) _ y X (HNW.out.keep hx (fun _ _ _ h => h)) (HSL.out.keep hx (fun _ _ _ h => h)) HYB.out (by rw [HYN.out]; omega)
            unfold Cr.OpenRet at h
            rw [HD2.out] at h
            exact h.mono (fun e w' ⟨a, m, c, he, _, _, hk⟩ => ⟨a, m, c, he, hk⟩))
          clear HD1 HD2 HSL HYB HYN HY3
          have hgo2 : 32 ≤ k ∨ (k < 32 ∧ 8 * n ≤ s + k) := by omega
          clear hgo
          by_cases h0 : q = 0
          · subst h0
            simp only [if_true] at hdv
            subst hdv
            rcases hgo2 with hg2 | ⟨hg2, hg3⟩
            all_goals
              go_wp2_with fail
              refine HDE.out.mono ?_
              rintro e X1 ⟨q1, q2, q3, q4, q5, q6, q7, rfl, hk1⟩
              have HX1 := hid hk1; clear hk1
              go_wp2_with fail
              refine (HOP.out _ (by repeat (first | (with_reducible exact HX1.out) | (with_reducible apply Keeps.drewN) | (with_reducible apply Keeps.drew) | (with_reducible apply Keeps.alloc)))).mono ?_
              rintro e X2 ⟨q8, q9, q10, rfl, hk2⟩
              have HX2 : Hd (Keeps (fun _ => False) wr X2) := hid (Keeps.trans (S := fun _ => False) (by repeat (first | (with_reducible exact HX1.out) | (with_reducible apply Keeps.drewN) | (with_reducible apply Keeps.drew) | (with_reducible apply Keeps.alloc))) hk2)
              clear hk2
              go_wp2_with fail
              refine (lives_any _ (HNW.out.keep HX2.out (fun _ _ _ h => h))).mono ?_
              rintro e X3 ⟨rfl, hk3⟩
              go_wp2
              go_ret
              exact ⟨rfl, (HB1.out.trans' (HX2.out.trans hk3) (fun _ _ h => h.elim)).mono (fun b h1 h2 => by omega)⟩
          · have hd0 : decide (q = 0) = false := decide_eq_false h0
            rw [if_neg h0] at hdv
            subst hdv
            simp only [hd0]
            clear h0
            rcases hgo2 with hg2 | ⟨hg2, hg3⟩
            all_goals
              go_wp2_with fail
              refine HDE.out.mono ?_
              rintro e X1 ⟨q1, q2, q3, q4, q5, q6, q7, rfl, hk1⟩
              have HX1 := hid hk1; clear hk1
              go_wp2_with fail
              refine (HOP.out _ (by repeat (first | (with_reducible exact HX1.out) | (with_reducible apply Keeps.drewN) | (with_reducible apply Keeps.drew) | (with_reducible apply Keeps.alloc)))).mono ?_
              rintro e X2 ⟨q8, q9, q10, rfl, hk2⟩
              have HX2 : Hd (Keeps (fun _ => False) wr X2) := hid (Keeps.trans (S := fun _ => False) (by repeat (first | (with_reducible exact HX1.out) | (with_reducible apply Keeps.drewN) | (with_reducible apply Keeps.drew) | (with_reducible apply Keeps.alloc))) hk2)
              clear hk2
              go_wp2_with fail
              refine (lives_any _ (HNW.out.keep HX2.out (fun _ _ _ h => h))).mono ?_
              rintro e X3 ⟨rfl, hk3⟩
              go_wp2
              go_ret
              exact ⟨rfl, (HB1.out.trans' (HX2.out.trans hk3) (fun _ _ h => h.elim)).mono (fun b h1 h2 => by omega)⟩
end Go.Proofs.YthoikljmokkchaaDoor
