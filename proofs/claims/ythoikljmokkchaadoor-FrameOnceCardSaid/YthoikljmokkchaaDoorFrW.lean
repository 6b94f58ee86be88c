/- Frame: a frame that moved the ladder is refused when it arrives again. -/
import Derived.Test.YthoikljmokkchaaDoorFrZ
import Derived.Test.YthoikljmokkchaaDoorFrSM
import Derived.Test.YthoikljmokkchaaDoorFrV
import Derived.Test.YthoikljmokkchaaDoorFrPD
import Derived.Test.YthoikljmokkchaaDoorFrTwo2
import Derived.Test.YthoikljmokkchaaDoorFrMany
import Derived.Deep.DrawnRows
namespace Go.Proofs.YthoikljmokkchaaDoor
open Go.RowKit
attribute [local go_sem ↓] Go.wp_at_zero Go.wp_at_succ
theorem frp_lt {KD : Nat → Prop} {B : Nat} {w : World} {v : Value} {l : List Fr} (h : FrP KD B w v l) : ∀ b, v.ownBlock = some b → b < w.heap.size := fun b hb => by
  obtain ⟨xs, hO, _⟩ := h
  rcases hO.1.2 with ⟨h, _⟩ | ⟨g, cap, cur, h, _, h3, _⟩
  · rw [h] at hb; simp [Value.ownBlock] at hb
  · rw [h] at hb; injection hb with hb; subst hb; exact (Array.getElem?_eq_some_iff.1 h3).1
theorem src_blk {V : World} {g : Nat} {cs : Array Value} {T : TypeId} (h : Blk V g cs T) (n size : Nat) (hl : cs.size = n * size) (hm : n ≤ maxLen) : Row (fun _ => True) V size (.slice (some ⟨g, 0, none⟩) n n) n cs.toList :=
  ⟨by simpa using hl, .inr ⟨_, n, rfl, Nat.le_refl _, hm, fun _ => ⟨g, 0, rfl, trivial, blk_lt h, fun j hj => by
    rw [Nat.zero_add, blk_cell h j]
    have : j < cs.size := by omega
    simp [List.getD, this]⟩⟩⟩
theorem sgnF_ok {l : Ld} {x : AC} (hl : l.ok) (hi : l.i ≤ 1000000) (hx : AcOk x) (hb : x.b.length ≤ 140737488351232) : (sgnF l x).ok := by
  have hr := around_b x.m (show (1 : Int) ≤ 3 by omega)
  have h := advL_ok hl (n := (around x.m 3).toNat) (by omega)
  refine signF_ok ⟨hx.n.1, hx.n.2, ?_, ?_, hx.b, by show 0 < _; omega, hb⟩ h
  · have := h.i0; show _ ≤ (advL l _).i; omega
  · have := h.i1; show (advL l _).i ≤ _; omega
theorem sgnL_ok {l : Ld} {x : AC} (hl : l.ok) (hi : l.i ≤ 1000000) : (sgnL l x).ok ∧ (sgnL l x).i ≤ l.i + 3 := by
  have hr := around_b x.m (show (1 : Int) ≤ 3 by omega)
  have h := advL_ok hl (n := (around x.m 3).toNat) (by omega)
  have h0 := hl.i0
  exact ⟨⟨stepN_lt _, by show 0 ≤ l.i + _ + 1; omega, by show l.i + _ + 1 ≤ _; omega⟩, by show l.i + _ + 1 ≤ _; omega⟩
theorem blk_ne5 {X : World} {a b : Nat} {cs ds : Array Value} {T U : TypeId} (h : Blk X a cs T) (g : Blk X b ds U) (hs : cs.size ≠ ds.size) : a ≠ b := fun e => by
  subst e
  unfold Blk at h g
  rw [h] at g
  injection g with g
  injection g with g1
  exact hs (by rw [g1])
theorem frs_after2 {X w' : World} {m n : Nat} {v : Value} {l : List Fr} (h : Frs (fun b => b < m ∨ X.heap.size ≤ b) w' v l) (hn : m ≤ X.heap.size) : ∀ Y, Keeps (fun b => m ≤ b ∧ b < X.heap.size) w' Y → Frs (fun b => b < m ∨ m ≤ b) Y v l := fun Y hk =>
  (h.keep hk (fun b _ h1 h2 => by omega)).mono (fun b _ h => by omega)
/-- the receiver's frames stand apart from the list of the past -/
def ROut (w W : World) (v : Value) (b : Nat) : Prop := (b < w.heap.size ∨ W.heap.size ≤ b) ∧ v.ownBlock ≠ some b
set_option maxRecDepth 100000 in
set_option maxHeartbeats 20000000 in
theorem once_any (key : Nat) (l : List AC) (v : Value) (w : World) (hN : Cr.Nib w) (hkey : key < 18446744073709551616) (hv : Acs (fun b => b < w.heap.size) w v l) (hx : ∀ x ∈ l, AcOk x) (hb : ∀ x ∈ l, x.b.length ≤ 140737488351232) :
    Calls Tryd.prog 5 #[.int .u64 (key : Int), v] w fun e w' => e = .returned (.bool true) ∧ Keeps (fun _ => False) w w' := by
  have HN : Hd (NibR w) := hid hN
  have hpos := NibR.pos (hN : NibR w)
  have HX := hid hx; have HB := hid hb
  obtain ⟨va, vc, rfl, hvc, hvm⟩ := hv.form
  have HV := hid hv
  obtain ⟨i0, zz, hi, hz0, hz1, hz2, hz3⟩ := fr_parts
  clear hN hx hb hv
  obtain ⟨L, hL⟩ : ∃ L, l.length = L := ⟨_, rfl⟩
  have HL := hid hL
  rw [hL] at HV hvc ⊢
  clear hL
  go_enter Tryd.func5, Tryd.ntmps5
  have HN0 := HN; have HV0 := HV
  go_wp2_with fail
  refine (NewReceiver_any key _).mono ?_
  rintro e U1 ⟨rfl, hk⟩
  have HN' : Hd (NibR U1) := hid (HN.out.keep hk (fun _ _ _ h => h))
  have HV' : Hd (Acs (fun b => b < w.heap.size) U1 (.slice va L vc) l) := hid (HV.out.keep hk (fun _ _ _ h => h))
  clear HN HV
  have HN := HN'
  clear HN'
  have HV := HV'
  clear HV'
  have HK : Hd (Keeps (fun _ => False) w U1) := hid hk
  have z_U1 := hk.size
  clear hk
  go_upto_region 2 with fail
  generalize hW : World.alloc U1 _ = W1
  have KS : Hd (Keeps (fun _ => False) U1 W1) := hid (by rw [← hW]; exact (Keeps.alloc (Keeps.refl (fun _ => False) U1) _))
  have HN' : Hd (NibR W1) := hid (HN.out.keep KS.out (fun _ _ _ h => h))
  have HV' : Hd (Acs (fun b => b < w.heap.size) W1 (.slice va L vc) l) := hid (HV.out.keep KS.out (fun _ _ _ h => h))
  have BR : Hd (Blk W1 U1.heap.size #[(.int .i64 0), (.slice none 0 0), (.bool false), (.int .u64 (key : Int)), (.int .i64 0)] 35) := hid (by rw [← hW]; exact (blk_new _ _ _))
  clear HN HV
  have HN := HN'
  clear HN'
  have HV := HV'
  clear HV'
  have HK' : Hd (Keeps (fun _ => False) w W1) := hid (HK.out.trans KS.out)
  clear HK
  have HK := HK'
  clear HK'
  have z_W1 : U1.heap.size + 1 ≤ W1.heap.size := by rw [← hW]; simp
  clear hW KS
  generalize hb_BR : U1.heap.size = b_BR at *
  go_wp2_with fail
  refine (LNew_any key _).mono ?_
  rintro e U2 ⟨rfl, hk⟩
  have HN' : Hd (NibR U2) := hid (HN.out.keep hk (fun _ _ _ h => h))
  have HV' : Hd (Acs (fun b => b < w.heap.size) U2 (.slice va L vc) l) := hid (HV.out.keep hk (fun _ _ _ h => h))
  have BR' : Hd (Blk U2 b_BR #[(.int .i64 0), (.slice none 0 0), (.bool false), (.int .u64 (key : Int)), (.int .i64 0)] 35) := hid (blk_keep BR.out hk (fun h => h))
  clear HN HV BR
  have HN := HN'
  clear HN'
  have HV := HV'
  clear HV'
  have BR := BR'
  clear BR'
  have HK' : Hd (Keeps (fun _ => False) w U2) := hid (HK.out.trans hk)
  clear HK
  have HK := HK'
  clear HK'
  have z_U2 := hk.size
  clear hk
  go_upto_region 3 with fail
  generalize hW : World.alloc U2 _ = W2
  have KS : Hd (Keeps (fun _ => False) U2 W2) := hid (by rw [← hW]; exact (Keeps.alloc (Keeps.refl (fun _ => False) U2) _))
  have HN' : Hd (NibR W2) := hid (HN.out.keep KS.out (fun _ _ _ h => h))
  have HV' : Hd (Acs (fun b => b < w.heap.size) W2 (.slice va L vc) l) := hid (HV.out.keep KS.out (fun _ _ _ h => h))
  have BR' : Hd (Blk W2 b_BR #[(.int .i64 0), (.slice none 0 0), (.bool false), (.int .u64 (key : Int)), (.int .i64 0)] 35) := hid (by rw [← hW]; exact (blk_alloc BR.out _))
  have BL : Hd (Blk W2 U2.heap.size #[(.int .u64 (key : Int)), (.int .i64 0)] 33) := hid (by rw [← hW]; exact (blk_new _ _ _))
  clear HN HV BR
  have HN := HN'
  clear HN'
  have HV := HV'
  clear HV'
  have BR := BR'
  clear BR'
  have HK' : Hd (Keeps (fun _ => False) w W2) := hid (HK.out.trans KS.out)
  clear HK
  have HK := HK'
  clear HK'
  have z_W2 : U2.heap.size + 1 ≤ W2.heap.size := by rw [← hW]; simp
  clear hW KS
  generalize hb_BL : U2.heap.size = b_BL at *
  have ltR := blk_lt BR.out
  have ltL := blk_lt BL.out
  have neRL : b_BR ≠ b_BL := blk_ne5 BR.out BL.out (by simp)
  have geR : w.heap.size ≤ b_BR := by omega
  have geL : w.heap.size ≤ b_BL := by omega
  have zK := HK.out.size
  go_wp2_with fail
  go_loopw [7, 8] (fun sv iv wr => ∃ (i : Nat) (r : Rv) (ks : Ld) (past : List Fr) (a5 : Option Addr) (c5 : Nat) (a7 : Option Addr) (c7 : Nat), sv = .slice a7 past.length c7 ∧ iv = .int .i64 (i : Int) ∧ i ≤ L ∧ i ≤ 20 ∧ past.length ≤ i ∧ Hd (Blk wr b_BR #[.int .i64 r.nx, .slice a5 r.fs.length c5, .bool r.lk, .int .u64 (r.l.k : Int), .int .i64 r.l.i] 35) ∧ Hd (Blk wr b_BL #[.int .u64 (ks.k : Int), .int .i64 ks.i] 33) ∧ Hd (Frs (ROut w W2 (.slice a7 past.length c7)) wr (.slice a5 r.fs.length c5) r.fs) ∧ Hd (FrP (fun b => b < w.heap.size) W2.heap.size wr (.slice a7 past.length c7) past) ∧ Hd (r.ok (5000 * (i : Int))) ∧ Hd (ks.ok ∧ ks.i ≤ 3 * (i : Int)) ∧ Hd (∀ p ∈ past, p.k < r.l.i ∧ p.b.length ≤ 512 ∧ p.ok) ∧ W2.heap.size ≤ wr.heap.size ∧ Hd (Keeps (fun _ => False) w wr)) (fun _ iv _ => 20 - (intOf iv).toNat)
  case atStart => exact ⟨0, ⟨0, [], false, ⟨key, 0⟩⟩, ⟨key, 0⟩, [], none, 0, none, 0, rfl, rfl, Nat.zero_le _, Nat.zero_le _, Nat.le_refl _, BR, BL, hid (Frs.nil _ _), hid (FrP.nil _ _ _), hid ⟨by simp, by simp, by simp, List.Pairwise.nil, hkey, by simp, by simp⟩, hid ⟨⟨hkey, by simp, by simp⟩, by simp⟩, hid (by simp), Nat.le_refl _, HK⟩
  case round =>
    obtain ⟨V, rfl⟩ : ∃ V, V = wr := ⟨_, rfl⟩
    obtain ⟨i, r, ks, past, a5, c5, a7, c7, rfl, rfl, hi1, hi2, hpi, HBR, HBL, HFS, HPA, HOK, HKS, HPK, zV, HKV⟩ := hrel
    clear BR BL HN HV HK
    have HK := HKV
    clear HKV
    have HN : Hd (NibR V) := hid (HN0.out.keep HK.out (fun _ _ _ h => h))
    have HV : Hd (Acs (fun b => b < w.heap.size) V (.slice va L vc) l) := hid (HV0.out.keep HK.out (fun _ _ _ h => h))
    obtain ⟨nx, fs, lk, ⟨rk, ri⟩⟩ := r
    obtain ⟨k2, i2⟩ := ks
    simp only [] at HBR HBL HFS HOK HKS HPK
    obtain ⟨pn, hpn⟩ : ∃ n, past.length = n := ⟨_, rfl⟩
    have HPN := hid hpn
    rw [hpn] at hpi HFS HPA ⊢
    clear hpn
    obtain ⟨fn, hfn⟩ : ∃ n, fs.length = n := ⟨_, rfl⟩
    have HFN := hid hfn
    rw [hfn] at HBR HFS
    clear hfn
    by_cases hlt : i < L
    · have q1 : (i : Int) < L := by omega
      by_cases hlt2 : i < 20
      · have q2 : (i : Int) < 20 := by omega
        have q0 : (0 : Int) ≤ i := by omega
        have hil : i < l.length := by rw [HL.out]; exact hlt
        obtain ⟨x, hxi⟩ : ∃ x, l[i]? = some x := ⟨_, List.getElem?_eq_getElem hil⟩
        have hxm := List.mem_of_getElem? hxi
        have HXO := hid (HX.out x hxm)
        have HXB := hid (HB.out x hxm)
        obtain ⟨vb, vo, eva, hvb, hvb2, hcx⟩ := acs_cells HV.out (by omega)
        subst eva
        obtain ⟨c0, c1, c2, ad, cd, c3, hsx⟩ := hcx i x hxi
        clear hcx hxm
        have HC0 := hid c0; have HC1 := hid c1; have HC2 := hid c2; have HC3 := hid c3
        clear c0 c1 c2 c3
        have HSX := hid (hsx.mono (K' := fun b => b < w.heap.size) (fun _ _ h => h))
        clear hsx
        obtain ⟨m, hm⟩ : ∃ m, x.b.length = m := ⟨_, rfl⟩
        have HM := hid hm
        rw [hm] at HC3 HSX
        clear hm
        obtain ⟨F, hF⟩ : ∃ F, sgnF ⟨k2, i2⟩ x = F := ⟨_, rfl⟩
        obtain ⟨L2, hL2⟩ : ∃ F, sgnL ⟨k2, i2⟩ x = F := ⟨_, rfl⟩
        have hki : i2 ≤ 1000000 := by have := HKS.out.2; omega
        have HFO : Hd F.ok := hid (by rw [← hF]; exact sgnF_ok HKS.out.1 hki HXO.out HXB.out)
        have HLO : Hd (L2.ok ∧ L2.i ≤ 3 * ((i + 1 : Nat) : Int)) := hid (by rw [← hL2]; have h := sgnL_ok (x := x) HKS.out.1 hki; have h4 : i2 ≤ 3 * (i : Int) := HKS.out.2; have h3 : (sgnL ⟨k2, i2⟩ x).i ≤ i2 + 3 := h.2; exact ⟨h.1, by push_cast; omega⟩)
        have HFB : Hd (F.b = x.b) := hid (by rw [← hF]; rfl)
        have HFM : Hd (F.b.length = m) := hid (by rw [HFB.out]; exact HM.out)
        have HCS : Hd (∀ X, Keeps (fun _ => False) V X → Calls Tryd.prog 23 #[.agg #[.int .u64 (k2 : Int), .int .i64 i2], .agg #[.int .i64 x.kd, .int .i64 x.n, .int .i64 x.m, .slice ad m cd]] X fun e w' => e = .returned (.tuple #[.agg #[.int .i64 F.q, .int .i64 F.k, .bool F.u, .slice ad m cd, .int .u64 (F.t : Int)], .agg #[.int .u64 (L2.k : Int), .int .i64 L2.i]]) ∧ Keeps (fun _ => False) X w') := hid (fun X hx => by have h := signed_any ⟨k2, i2⟩ x _ ad cd X HKS.out.1 hki HXO.out HXB.out (by rw [HM.out]; exact HSX.out.keep hx (fun _ _ _ h => h)); rw [hF, hL2, HM.out] at h; exact h.mono (fun e w' h => by unfold SgnR at h; rw [HFM.out] at h; exact h))
        clear hF hL2 hki
        have ltBR := blk_lt HBR.out
        have ltBL := blk_lt HBL.out
        go_upto_region 7 with fail
        go_cut [9, 10] from 32 to 40 (fun u9 u10 wx => ∃ bF, u9 = .pointer (some ⟨bF, 0, none⟩) ∧ ∃ bM, u10 = .pointer (some ⟨bM, 0, none⟩) ∧ V.heap.size ≤ bF ∧ V.heap.size ≤ bM ∧ Hd (Blk wx bF #[(.int .i64 F.q), (.int .i64 F.k), (.bool F.u), (.slice ad m cd), (.int .u64 (F.t : Int))] 25) ∧ Hd (Blk wx bM #[(.int .u64 (L2.k : Int)), (.int .i64 L2.i)] 33) ∧ Hd (Keeps (fun _ => False) V wx))
        case first =>
          refine wp_two (C := vlCfg [5, 6, 7, 8, 9, 10, 11, 12] 38 32 39 40 9 10 [.agg #[.int .u64 (k2 : Int), .int .i64 i2], .slice (some ⟨vb, vo, none⟩) L vc, .int .i64 (i : Int), .pointer (some ⟨vb, vo + i * 4, none⟩), .agg #[.int .i64 x.kd, .int .i64 x.n, .int .i64 x.m, .slice ad m cd], undef, undef, undef, undef, undef, undef, undef, undef] [] 25 33 #[(.int .i64 0), (.int .i64 0), (.bool false), (.slice none 0 0), (.int .u64 0)] #[(.int .u64 0), (.int .i64 0)] #[(.int .i64 F.q), (.int .i64 F.k), (.bool F.u), (.slice ad m cd), (.int .u64 (F.t : Int))] #[(.int .u64 (L2.k : Int)), (.int .i64 L2.i)]) (by kernel_rfl) ?H ?HV 5 rfl ?HC ?HE
          case H => exact ⟨by kernel_rfl, uniqB_spec (by kernel_rfl), underB_spec (by kernel_rfl), ⟨_, rfl, rfl⟩, ⟨_, rfl, rfl, rfl, rfl, waitsB_spec (by kernel_rfl)⟩, ⟨_, rfl, rfl, rfl, rfl, waitsB_spec (by kernel_rfl)⟩, ⟨_, rfl, rfl, rfl, rfl, waitsB_spec (by kernel_rfl)⟩, ⟨_, rfl, rfl, rfl, rfl⟩, ⟨_, rfl, rfl, rfl, rfl⟩, ⟨_, rfl, rfl, rfl, rfl, waitsB_spec (by kernel_rfl), waitsB_spec (by kernel_rfl)⟩, ⟨_, rfl, rfl, rfl, rfl, waitsB_spec (by kernel_rfl), waitsB_spec (by kernel_rfl)⟩, vlVal (by kernel_rfl), vlAll (by kernel_rfl), ⟨rfl, rfl, rfl, rfl, rfl, rfl, rfl, rfl⟩, vlNd (by decide), flSem _ _ _ _ _ _ _ _ _ _ _ _ _ _ _ _ _ _⟩
          case HV =>
            intro iq o hv hi aq w' hk hd
            match iq, hv, hi with
            | 0, _, hi =>
              have hi1 := hi
              simp only [List.getElem?_cons_succ, List.getElem?_cons_zero, Option.some.injEq] at hi1
              subst hi1
              have e0 : aq.eval (.tmp 6) = .pointer (some ⟨b_BL, 0, none⟩) := (hd.out (by kernel_rfl)).trans rfl
              have c0 := keep_cell hk (fun h => h) (blk_cell HBL.out 0)
              have c1 := keep_cell hk (fun h => h) (blk_cell HBL.out 1)
              exact wpOp_ranL hi rfl (v := .agg #[.int .u64 (k2 : Int), .int .i64 i2]) (w' := w') (by simp only [execOp, e0]; go_simp) ⟨rfl, Keeps.refl _ _⟩
            | 1, _, hi =>
              have hi1 := hi
              simp only [List.getElem?_cons_succ, List.getElem?_cons_zero, Option.some.injEq] at hi1
              subst hi1
              have e0 : aq.eval (.tmp 1) = .slice (some ⟨vb, vo, none⟩) L vc := (hd.out (by kernel_rfl)).trans rfl
              exact wpOp_ranL hi rfl (v := .slice (some ⟨vb, vo, none⟩) L vc) (w' := w') (by simp only [execOp, e0]; rfl) ⟨rfl, Keeps.refl _ _⟩
            | 2, _, hi =>
              have hi1 := hi
              simp only [List.getElem?_cons_succ, List.getElem?_cons_zero, Option.some.injEq] at hi1
              subst hi1
              have e0 : aq.eval (.tmp 8) = .int .i64 (i : Int) := (hd.out (by kernel_rfl)).trans rfl
              exact wpOp_ranL hi rfl (v := .int .i64 (i : Int)) (w' := w') (by simp only [execOp, e0]; rfl) ⟨rfl, Keeps.refl _ _⟩
            | 3, _, hi =>
              have hi1 := hi
              simp only [List.getElem?_cons_succ, List.getElem?_cons_zero, Option.some.injEq] at hi1
              subst hi1
              have e0 : aq.eval (.tmp 34) = .slice (some ⟨vb, vo, none⟩) L vc := hd.val (j := 1) (by kernel_rfl) rfl rfl rfl
              have e1 : aq.eval (.tmp 35) = .int .i64 (i : Int) := hd.val (j := 2) (by kernel_rfl) rfl rfl rfl
              exact wpOp_ranL hi rfl (v := .pointer (some ⟨vb, vo + i * 4, none⟩)) (w' := w') (by simp only [execOp, e0, e1]; go_simp) ⟨rfl, Keeps.refl _ _⟩
            | 4, _, hi =>
              have hi1 := hi
              simp only [List.getElem?_cons_succ, List.getElem?_cons_zero, Option.some.injEq] at hi1
              subst hi1
              have e0 : aq.eval (.tmp 36) = .pointer (some ⟨vb, vo + i * 4, none⟩) := hd.val (j := 3) (by kernel_rfl) rfl rfl rfl
              have c0 := keep_cell hk (fun h => h) HC0.out
              have c1 := keep_cell hk (fun h => h) HC1.out
              have c2 := keep_cell hk (fun h => h) HC2.out
              have c3 := keep_cell hk (fun h => h) HC3.out
              exact wpOp_ranL hi rfl (v := .agg #[.int .i64 x.kd, .int .i64 x.n, .int .i64 x.m, .slice ad m cd]) (w' := w') (by simp only [execOp, e0]; go_simp) ⟨rfl, Keeps.refl _ _⟩
            | 5, hv, _ => cases hv
            | 6, hv, _ => cases hv
            | 7, hv, _ => cases hv
            | 8, hv, _ => cases hv
            | 9, hv, _ => cases hv
            | 10, hv, _ => cases hv
            | 11, hv, _ => cases hv
            | 12, hv, _ => cases hv
            | n + 13, _, hi => simp at hi
          case HC =>
            intro o hi aq w' hk hd
            have hi1 := hi
            simp only [List.getElem?_cons_succ, List.getElem?_cons_zero, Option.some.injEq] at hi1
            subst hi1
            have e0 : aq.eval (.tmp 33) = .agg #[.int .u64 (k2 : Int), .int .i64 i2] := hd.val (j := 0) (by kernel_rfl) rfl rfl rfl
            have e1 : aq.eval (.tmp 37) = .agg #[.int .i64 x.kd, .int .i64 x.n, .int .i64 x.m, .slice ad m cd] := hd.val (j := 4) (by kernel_rfl) rfl rfl rfl
            exact wpOp_callL hi rfl (f := 23) (args := #[.agg #[.int .u64 (k2 : Int), .int .i64 i2], .agg #[.int .i64 x.kd, .int .i64 x.n, .int .i64 x.m, .slice ad m cd]]) (by simp only [execOp_call_go, List.map_toArray, List.map_cons, List.map_nil, e0, e1]; rfl) ((HCS.out _ hk).mono (fun e w2 ⟨he, hk2⟩ => ⟨_, he, _, _, rfl, hk2, rfl, rfl⟩))
          case HE =>
            intro L aq w' gF gS xx yy hL hT
            have em := act_mix (bs := [true, true, true, true, true, true, true, true, true, false, false, true, true, true, true, true, true, true, true, true, true, true, true, true, true, true, true, true, true, true, true, true, false, false, false, false, false, false, false, false, false, true, true, true, true, true, true, true, true, true, true, true, true, true, true, true, true, true, true, true, true, true, true, true, true, true, true, true, true, true, true, true, true, true, true, true, true, true, true, true, true, true, true, true, true, true, true, true, true, true, true, true, true, true]) hT.sz hT.df hT.fr rfl (by kernel_rfl)
            have hF := hT.f (hL 9 (by decide))
            have hS := hT.s (hL 10 (by decide))
            have hC := hT.c (hL 5 (by decide))
            have kW := hT.kp
            have eF := hF.1
            have eS := hS.1
            obtain ⟨gF0, csF, -, bF, sF⟩ := hF.2
            obtain ⟨gS0, csS, -, bS, sS⟩ := hS.2
            have sF := sF (hL 11 (by decide))
            have sS := sS (hL 12 (by decide))
            subst sF sS
            change aq.tmps.getD 9 undef = _ at eF
            change aq.tmps.getD 10 undef = _ at eS
            have hR := hC.2
            clear hF hS hC hT hL
            simp only [mix, eF, eS] at em
            clear eF eS
            generalize aq.tmps.getD 33 undef = q33 at em
            generalize aq.tmps.getD 34 undef = q34 at em
            generalize aq.tmps.getD 35 undef = q35 at em
            generalize aq.tmps.getD 36 undef = q36 at em
            generalize aq.tmps.getD 37 undef = q37 at em
            generalize aq.tmps.getD 38 undef = q38 at em
            generalize aq.tmps.getD 32 undef = q32 at em
            generalize aq.tmps.getD 39 undef = q39 at em
            generalize aq.tmps.getD 40 undef = q40 at em
            subst em
            simp only [Exit.then]
            go_wp2_with fail
            go_meet
            obtain ⟨rfl, rfl⟩ := hR
            exact ⟨gF, rfl, gS, rfl, gF0, gS0, hid bF, hid bS, hid kW⟩
        case rest =>
          obtain ⟨b_F, rfl, b_M, rfl, hb_F, hb_M, B_F, B_M, hk⟩ := hcut
          replace hk := hk.out
          generalize wc = W21 at *
          have HBR' : Hd (Blk W21 b_BR #[(.int .i64 nx), (.slice a5 fn c5), (.bool lk), (.int .u64 (rk : Int)), (.int .i64 ri)] 35) := hid (blk_keep HBR.out hk (fun h => h))
          have HBL' : Hd (Blk W21 b_BL #[(.int .u64 (k2 : Int)), (.int .i64 i2)] 33) := hid (blk_keep HBL.out hk (fun h => h))
          have HN' : Hd (NibR W21) := hid (HN.out.keep hk (fun _ _ _ h => h))
          have HV' : Hd (Acs (fun b => b < w.heap.size) W21 (.slice (some ⟨vb, vo, none⟩) L vc) l) := hid (HV.out.keep hk (fun _ _ _ h => h))
          have HFS' : Hd (Frs (ROut w W2 (.slice a7 pn c7)) W21 (.slice a5 fn c5) fs) := hid (HFS.out.keep hk (fun _ _ _ h => h))
          have HPA' : Hd (FrP (fun b => b < w.heap.size) W2.heap.size W21 (.slice a7 pn c7) past) := hid (HPA.out.keep hk (fun _ _ _ h => h))
          have HSX' : Hd (Sl (fun b => b < w.heap.size) W21 (.slice ad m cd) (u8s x.b)) := hid (HSX.out.keep hk (fun _ _ _ h => h))
          clear HBR HBL HN HV HFS HPA HSX
          have HBR := HBR'
          clear HBR'
          have HBL := HBL'
          clear HBL'
          have HN := HN'
          clear HN'
          have HV := HV'
          clear HV'
          have HFS := HFS'
          clear HFS'
          have HPA := HPA'
          clear HPA'
          have HSX := HSX'
          clear HSX'
          have HK' : Hd (Keeps (fun _ => False) w W21) := hid (HK.out.trans hk)
          clear HK
          have HK := HK'
          clear HK'
          have z_W21 := hk.size
          clear hk
          have lt_F := blk_lt B_F.out
          have lt_M := blk_lt B_M.out
          have neFM : b_F ≠ b_M := blk_ne5 B_F.out B_M.out (by simp)
          clear HC0 HC1 HC2 HC3 HCS
          have o_B_M_0 : W21.cell? ⟨b_M, 0, none⟩ = some ((.int .u64 (L2.k : Int))) := blk_cell B_M.out 0
          have o_B_M_1 : W21.cell? ⟨b_M, 1, none⟩ = some ((.int .i64 L2.i)) := blk_cell B_M.out 1
          have o_HBL_0 : W21.cell? ⟨b_BL, 0, none⟩ = some ((.int .u64 (k2 : Int))) := blk_cell HBL.out 0
          have o_HBL_1 : W21.cell? ⟨b_BL, 1, none⟩ = some ((.int .i64 i2)) := blk_cell HBL.out 1
          have f_B_M_0 : W21.frozen? ⟨b_M, 0, none⟩ = false := blk_free B_M.out 0
          have f_B_M_1 : W21.frozen? ⟨b_M, 1, none⟩ = false := blk_free B_M.out 1
          have f_HBL_0 : W21.frozen? ⟨b_BL, 0, none⟩ = false := blk_free HBL.out 0
          have f_HBL_1 : W21.frozen? ⟨b_BL, 1, none⟩ = false := blk_free HBL.out 1
          go_upto_region 9 with fail
          clear o_B_M_0 o_B_M_1 o_HBL_0 o_HBL_1 f_B_M_0 f_B_M_1 f_HBL_0 f_HBL_1
          generalize hW : World.setCell (World.setCell W21 _ _) _ _ = W22
          have KS : Hd (Keeps (fun b => b = b_BL) W21 W22) := hid (by rw [← hW]; exact (Keeps.setCell (S := fun b => b = b_BL) (p := ⟨b_BL, 1, none⟩) (Keeps.setCell (S := fun b => b = b_BL) (p := ⟨b_BL, 0, none⟩) (Keeps.refl (fun b => b = b_BL) W21) (.inl rfl) _) (.inl rfl) _))
          have HBR' : Hd (Blk W22 b_BR #[(.int .i64 nx), (.slice a5 fn c5), (.bool lk), (.int .u64 (rk : Int)), (.int .i64 ri)] 35) := hid (by rw [← hW]; exact (blk_other (blk_other HBR.out (by omega) _ _) (by omega) _ _))
          have HBL' : Hd (Blk W22 b_BL #[(.int .u64 (L2.k : Int)), (.int .i64 L2.i)] 33) := hid (by rw [← hW]; exact (blk_set (blk_set HBL.out 0 _) 1 _))
          have HN' : Hd (NibR W22) := hid (HN.out.keep KS.out (fun b h1 h2 h3 => by omega))
          have HV' : Hd (Acs (fun b => b < w.heap.size) W22 (.slice (some ⟨vb, vo, none⟩) L vc) l) := hid (HV.out.keep KS.out (fun b h1 h2 h3 => by omega))
          have HFS' : Hd (Frs (ROut w W2 (.slice a7 pn c7)) W22 (.slice a5 fn c5) fs) := hid (HFS.out.keep KS.out (fun b h1 h2 h3 => by rcases h2.1 with h | h <;> omega))
          have HPA' : Hd (FrP (fun b => b < w.heap.size) W2.heap.size W22 (.slice a7 pn c7) past) := hid (HPA.out.keep KS.out (fun b h1 h2 h3 => by rcases h2 with h | h <;> omega))
          have HSX' : Hd (Sl (fun b => b < w.heap.size) W22 (.slice ad m cd) (u8s x.b)) := hid (HSX.out.keep KS.out (fun b h1 h2 h3 => by omega))
          have B_F' : Hd (Blk W22 b_F #[(.int .i64 F.q), (.int .i64 F.k), (.bool F.u), (.slice ad m cd), (.int .u64 (F.t : Int))] 25) := hid (by rw [← hW]; exact (blk_other (blk_other B_F.out (by omega) _ _) (by omega) _ _))
          have B_M' : Hd (Blk W22 b_M #[(.int .u64 (L2.k : Int)), (.int .i64 L2.i)] 33) := hid (by rw [← hW]; exact (blk_other (blk_other B_M.out (by omega) _ _) (by omega) _ _))
          clear HBR HBL HN HV HFS HPA HSX B_F B_M
          have HBR := HBR'
          clear HBR'
          have HBL := HBL'
          clear HBL'
          have HN := HN'
          clear HN'
          have HV := HV'
          clear HV'
          have HFS := HFS'
          clear HFS'
          have HPA := HPA'
          clear HPA'
          have HSX := HSX'
          clear HSX'
          have B_F := B_F'
          clear B_F'
          have B_M := B_M'
          clear B_M'
          have HK' : Hd (Keeps (fun _ => False) w W22) := hid (HK.out.trans' KS.out (fun i hi h => by omega))
          clear HK
          have HK := HK'
          clear HK'
          have z_W22 : W21.heap.size + 0 ≤ W22.heap.size := by rw [← hW]; simp
          clear hW KS
          have HRC : Hd (∀ X, Frs (ROut w W2 (.slice a7 pn c7)) X (.slice a5 fn c5) fs → Sl (fun b => b < w.heap.size) X (.slice ad m cd) (u8s x.b) → Calls Tryd.prog 24 #[.agg #[.int .i64 nx, .slice a5 fn c5, .bool lk, .int .u64 (rk : Int), .int .i64 ri], .agg #[.int .i64 F.q, .int .i64 F.k, .bool F.u, .slice ad m cd, .int .u64 (F.t : Int)]] X fun e w' => RecvR X (fun b => ROut w W2 (.slice a7 pn c7) b ∧ b < X.heap.size) (recvM ⟨nx, fs, lk, ⟨rk, ri⟩⟩ F) e w') := hid (fun X hf hs => by have h := Receive_any nx fs a5 c5 lk ⟨rk, ri⟩ F (fun b => ROut w W2 (.slice a7 pn c7) b ∧ b < X.heap.size) ad cd X (by rw [HFN.out]; exact hf.mono (fun b hb h => ⟨h, hb⟩)) (fun b h => h.2) (by rw [HFM.out, HFB.out]; exact hs.mono (fun _ _ _ => trivial)) _ HOK.out (by omega) HFO.out; rw [HFN.out, HFM.out] at h; exact h)
          obtain ⟨R, hR⟩ : ∃ R, recvM ⟨nx, fs, lk, ⟨rk, ri⟩⟩ F = R := ⟨_, rfl⟩
          have HR1 : Hd (R.1.ok (5000 * ((i + 1 : Nat) : Int))) := hid (by have h := recvM_ok HOK.out (by omega) HFO.out; rw [hR] at h; rw [show 5000 * ((i + 1 : Nat) : Int) = 5000 * (i : Int) + 5000 by push_cast; omega]; exact h)
          have HR2 : Hd (R.2.2 ≠ 2 → R.2.2 ≠ 8 → R.2.2 ≠ 30 → F.b.length ≤ 512 ∧ F.k < R.1.l.i) := hid (by rw [← hR]; exact fun h1 h2 h3 => recvM_moved h1 h2 h3)
          have HR3 : Hd (ri ≤ R.1.l.i) := hid (by rw [← hR]; exact recvM_li ⟨nx, fs, lk, ⟨rk, ri⟩⟩ F)
          rw [hR] at HRC
          clear hR
          obtain ⟨⟨nx2, fs2, lk2, ⟨rk2, ri2⟩⟩, bds, er⟩ := R
          simp only [] at HR1 HR2 HR3
          unfold RecvR at HRC
          simp only [] at HRC
          obtain ⟨fn2, hfn2⟩ : ∃ n, fs2.length = n := ⟨_, rfl⟩
          have HFN2 := hid hfn2
          rw [hfn2] at HRC
          clear hfn2
          have HPK2 : Hd (∀ p ∈ past, p.k < ri2 ∧ p.b.length ≤ 512 ∧ p.ok) := hid (fun p hp => by have h := HPK.out p hp; have h3 := HR3.out; exact ⟨by have h4 : p.k < ri := h.1; have h5 : ri ≤ ri2 := h3; omega, h.2⟩)
          clear HPK HOK HKS
          have o_HBR_0 : W22.cell? ⟨b_BR, 0, none⟩ = some ((.int .i64 nx)) := blk_cell HBR.out 0
          have o_HBR_1 : W22.cell? ⟨b_BR, 1, none⟩ = some ((.slice a5 fn c5)) := blk_cell HBR.out 1
          have o_HBR_2 : W22.cell? ⟨b_BR, 2, none⟩ = some ((.bool lk)) := blk_cell HBR.out 2
          have o_HBR_3 : W22.cell? ⟨b_BR, 3, none⟩ = some ((.int .u64 (rk : Int))) := blk_cell HBR.out 3
          have o_HBR_4 : W22.cell? ⟨b_BR, 4, none⟩ = some ((.int .i64 ri)) := blk_cell HBR.out 4
          have o_B_F_0 : W22.cell? ⟨b_F, 0, none⟩ = some ((.int .i64 F.q)) := blk_cell B_F.out 0
          have o_B_F_1 : W22.cell? ⟨b_F, 1, none⟩ = some ((.int .i64 F.k)) := blk_cell B_F.out 1
          have o_B_F_2 : W22.cell? ⟨b_F, 2, none⟩ = some ((.bool F.u)) := blk_cell B_F.out 2
          have o_B_F_3 : W22.cell? ⟨b_F, 3, none⟩ = some ((.slice ad m cd)) := blk_cell B_F.out 3
          have o_B_F_4 : W22.cell? ⟨b_F, 4, none⟩ = some ((.int .u64 (F.t : Int))) := blk_cell B_F.out 4
          have ltP := frp_lt HPA.out
          go_wp2_with fail
          refine (HRC.out _ HFS.out HSX.out).mono ?_
          rintro e V2 ⟨a6, c6, a8, c8, rfl, hfr, -, hk⟩
          clear HRC
          clear HFS
          clear o_HBR_0 o_HBR_1 o_HBR_2 o_HBR_3 o_HBR_4 o_B_F_0 o_B_F_1 o_B_F_2 o_B_F_3 o_B_F_4
          have HBR' : Hd (Blk V2 b_BR #[(.int .i64 nx), (.slice a5 fn c5), (.bool lk), (.int .u64 (rk : Int)), (.int .i64 ri)] 35) := hid (blk_keep HBR.out hk (fun h => h))
          have HBL' : Hd (Blk V2 b_BL #[(.int .u64 (L2.k : Int)), (.int .i64 L2.i)] 33) := hid (blk_keep HBL.out hk (fun h => h))
          have HN' : Hd (NibR V2) := hid (HN.out.keep hk (fun _ _ _ h => h))
          have HV' : Hd (Acs (fun b => b < w.heap.size) V2 (.slice (some ⟨vb, vo, none⟩) L vc) l) := hid (HV.out.keep hk (fun _ _ _ h => h))
          have HPA' : Hd (FrP (fun b => b < w.heap.size) W2.heap.size V2 (.slice a7 pn c7) past) := hid (HPA.out.keep hk (fun _ _ _ h => h))
          have HSX' : Hd (Sl (fun b => b < w.heap.size) V2 (.slice ad m cd) (u8s x.b)) := hid (HSX.out.keep hk (fun _ _ _ h => h))
          have B_F' : Hd (Blk V2 b_F #[(.int .i64 F.q), (.int .i64 F.k), (.bool F.u), (.slice ad m cd), (.int .u64 (F.t : Int))] 25) := hid (blk_keep B_F.out hk (fun h => h))
          have B_M' : Hd (Blk V2 b_M #[(.int .u64 (L2.k : Int)), (.int .i64 L2.i)] 33) := hid (blk_keep B_M.out hk (fun h => h))
          clear HBR HBL HN HV HPA HSX B_F B_M
          have HBR := HBR'
          clear HBR'
          have HBL := HBL'
          clear HBL'
          have HN := HN'
          clear HN'
          have HV := HV'
          clear HV'
          have HPA := HPA'
          clear HPA'
          have HSX := HSX'
          clear HSX'
          have B_F := B_F'
          clear B_F'
          have B_M := B_M'
          clear B_M'
          have HK' : Hd (Keeps (fun _ => False) w V2) := hid (HK.out.trans hk)
          clear HK
          have HK := HK'
          clear HK'
          have z_V2 := hk.size
          clear hk
          have HFS : Hd (Frs (ROut w W2 (.slice a7 pn c7)) V2 (.slice a6 fn2 c6) fs2) := hid (hfr.mono (fun b hb h => by rcases h with h | h; exact h.1; exact ⟨.inr (by omega), fun e => by have := ltP _ e; omega⟩))
          clear hfr ltP
          have ga0 : ∀ o, (World.alloc V2 o).cell? ⟨b_BR, 0, none⟩ = some ((.int .i64 nx)) := fun o => keep_cell (keeps_alloc (fun _ => False) _ o) (fun h => h) (blk_cell HBR.out 0)
          have gf0 : ∀ o, (World.alloc V2 o).frozen? ⟨b_BR, 0, none⟩ = false := fun o => keep_free (keeps_alloc (fun _ => False) _ o) (fun h => h) (blk_cell HBR.out 0) (blk_free HBR.out 0)
          have ga1 : ∀ o, (World.alloc V2 o).cell? ⟨b_BR, 1, none⟩ = some ((.slice a5 fn c5)) := fun o => keep_cell (keeps_alloc (fun _ => False) _ o) (fun h => h) (blk_cell HBR.out 1)
          have gf1 : ∀ o, (World.alloc V2 o).frozen? ⟨b_BR, 1, none⟩ = false := fun o => keep_free (keeps_alloc (fun _ => False) _ o) (fun h => h) (blk_cell HBR.out 1) (blk_free HBR.out 1)
          have ga2 : ∀ o, (World.alloc V2 o).cell? ⟨b_BR, 2, none⟩ = some ((.bool lk)) := fun o => keep_cell (keeps_alloc (fun _ => False) _ o) (fun h => h) (blk_cell HBR.out 2)
          have gf2 : ∀ o, (World.alloc V2 o).frozen? ⟨b_BR, 2, none⟩ = false := fun o => keep_free (keeps_alloc (fun _ => False) _ o) (fun h => h) (blk_cell HBR.out 2) (blk_free HBR.out 2)
          have ga3 : ∀ o, (World.alloc V2 o).cell? ⟨b_BR, 3, none⟩ = some ((.int .u64 (rk : Int))) := fun o => keep_cell (keeps_alloc (fun _ => False) _ o) (fun h => h) (blk_cell HBR.out 3)
          have gf3 : ∀ o, (World.alloc V2 o).frozen? ⟨b_BR, 3, none⟩ = false := fun o => keep_free (keeps_alloc (fun _ => False) _ o) (fun h => h) (blk_cell HBR.out 3) (blk_free HBR.out 3)
          have ga4 : ∀ o, (World.alloc V2 o).cell? ⟨b_BR, 4, none⟩ = some ((.int .i64 ri)) := fun o => keep_cell (keeps_alloc (fun _ => False) _ o) (fun h => h) (blk_cell HBR.out 4)
          have gf4 : ∀ o, (World.alloc V2 o).frozen? ⟨b_BR, 4, none⟩ = false := fun o => keep_free (keeps_alloc (fun _ => False) _ o) (fun h => h) (blk_cell HBR.out 4) (blk_free HBR.out 4)
          go_upto_region 11 with fail
          clear ga0 gf0 ga1 gf1 ga2 gf2 ga3 gf3 ga4 gf4
          generalize hW : World.setCell (World.setCell (World.setCell (World.setCell (World.setCell (World.alloc V2 _) _ _) _ _) _ _) _ _) _ _ = W23
          have KS : Hd (Keeps (fun b => b = b_BR) V2 W23) := hid (by rw [← hW]; exact (Keeps.setCell (S := fun b => b = b_BR) (p := ⟨b_BR, 4, none⟩) (Keeps.setCell (S := fun b => b = b_BR) (p := ⟨b_BR, 3, none⟩) (Keeps.setCell (S := fun b => b = b_BR) (p := ⟨b_BR, 2, none⟩) (Keeps.setCell (S := fun b => b = b_BR) (p := ⟨b_BR, 1, none⟩) (Keeps.setCell (S := fun b => b = b_BR) (p := ⟨b_BR, 0, none⟩) (Keeps.alloc (Keeps.refl (fun b => b = b_BR) V2) _) (.inl rfl) _) (.inl rfl) _) (.inl rfl) _) (.inl rfl) _) (.inl rfl) _))
          have HBR' : Hd (Blk W23 b_BR #[(.int .i64 nx2), (.slice a6 fn2 c6), (.bool lk2), (.int .u64 (rk2 : Int)), (.int .i64 ri2)] 35) := hid (by rw [← hW]; exact (blk_set (blk_set (blk_set (blk_set (blk_set (blk_alloc HBR.out _) 0 _) 1 _) 2 _) 3 _) 4 _))
          have HBL' : Hd (Blk W23 b_BL #[(.int .u64 (L2.k : Int)), (.int .i64 L2.i)] 33) := hid (by rw [← hW]; exact (blk_other (blk_other (blk_other (blk_other (blk_other (blk_alloc HBL.out _) (by omega) _ _) (by omega) _ _) (by omega) _ _) (by omega) _ _) (by omega) _ _))
          have HN' : Hd (NibR W23) := hid (HN.out.keep KS.out (fun b h1 h2 h3 => by omega))
          have HV' : Hd (Acs (fun b => b < w.heap.size) W23 (.slice (some ⟨vb, vo, none⟩) L vc) l) := hid (HV.out.keep KS.out (fun b h1 h2 h3 => by omega))
          have HPA' : Hd (FrP (fun b => b < w.heap.size) W2.heap.size W23 (.slice a7 pn c7) past) := hid (HPA.out.keep KS.out (fun b h1 h2 h3 => by rcases h2 with h | h <;> omega))
          have HSX' : Hd (Sl (fun b => b < w.heap.size) W23 (.slice ad m cd) (u8s x.b)) := hid (HSX.out.keep KS.out (fun b h1 h2 h3 => by omega))
          have B_F' : Hd (Blk W23 b_F #[(.int .i64 F.q), (.int .i64 F.k), (.bool F.u), (.slice ad m cd), (.int .u64 (F.t : Int))] 25) := hid (by rw [← hW]; exact (blk_other (blk_other (blk_other (blk_other (blk_other (blk_alloc B_F.out _) (by omega) _ _) (by omega) _ _) (by omega) _ _) (by omega) _ _) (by omega) _ _))
          have B_M' : Hd (Blk W23 b_M #[(.int .u64 (L2.k : Int)), (.int .i64 L2.i)] 33) := hid (by rw [← hW]; exact (blk_other (blk_other (blk_other (blk_other (blk_other (blk_alloc B_M.out _) (by omega) _ _) (by omega) _ _) (by omega) _ _) (by omega) _ _) (by omega) _ _))
          have HFS' : Hd (Frs (ROut w W2 (.slice a7 pn c7)) W23 (.slice a6 fn2 c6) fs2) := hid (HFS.out.keep KS.out (fun b h1 h2 h3 => by rcases h2.1 with h | h <;> omega))
          clear HBR HBL HN HV HPA HSX B_F B_M HFS
          have HBR := HBR'
          clear HBR'
          have HBL := HBL'
          clear HBL'
          have HN := HN'
          clear HN'
          have HV := HV'
          clear HV'
          have HPA := HPA'
          clear HPA'
          have HSX := HSX'
          clear HSX'
          have B_F := B_F'
          clear B_F'
          have B_M := B_M'
          clear B_M'
          have HFS := HFS'
          clear HFS'
          have HK' : Hd (Keeps (fun _ => False) w W23) := hid (HK.out.trans' KS.out (fun i hi h => by omega))
          clear HK
          have HK := HK'
          clear HK'
          have z_W23 : V2.heap.size + 1 ≤ W23.heap.size := by rw [← hW]; simp
          clear hW KS
          have geP : ∀ b, (Value.slice a7 pn c7).ownBlock = some b → W2.heap.size ≤ b := HPA.out.choose_spec.2.1
          have ltP := frp_lt HPA.out
          obtain ⟨bb, hbb⟩ : ∃ b, decide (er ≠ 2 ∧ er ≠ 30 ∧ er ≠ 8) = b := ⟨_, rfl⟩
          have HBB := hid hbb
          clear hbb
          go_cut [59] from 50 to 59 (fun u59 wx => u59 = .bool bb ∧ W23 = wx)
          case first =>
            by_cases h2 : er = 2
            · have eb : bb = false := by rw [← HBB.out]; simp [h2]
              subst h2
              subst eb
              go_wp2_with fail
              go_meet
              exact ⟨rfl, rfl⟩
            by_cases h30 : er = 30
            · have eb : bb = false := by rw [← HBB.out]; simp [h30]
              subst h30
              subst eb
              go_wp2_with fail
              go_meet
              exact ⟨rfl, rfl⟩
            by_cases h8 : er = 8
            · have eb : bb = false := by rw [← HBB.out]; simp [h8]
              subst h8
              subst eb
              go_wp2_with fail
              go_meet
              exact ⟨rfl, rfl⟩
            have eb : bb = true := by rw [← HBB.out]; simp [h2, h30, h8]
            subst eb
            have e2 : (er == 2) = false := by simp [h2]
            have e30 : (er == 30) = false := by simp [h30]
            have e8 : (er == 8) = false := by simp [h8]
            have ebv : (er != 2 && er != 30 && er != 8) = true := by simp [h2, h30, h8]
            go_wp2_with fail
            go_meet
            first | exact ⟨congrArg Value.bool ebv, rfl⟩ | exact ⟨rfl, rfl⟩
          case rest =>
          obtain ⟨rfl, rfl⟩ := hcut
          go_upto_if 59 with (fail)
          skip
          go_cut [7] from 60 to 63 (fun u7 wx => ∃ (p2 : List Fr) (n2 : Nat) (a : Option Addr) (c : Nat), u7 = .slice a n2 c ∧ Hd (p2.length = n2) ∧ n2 ≤ i + 1 ∧ Hd (∀ q ∈ p2, q.k < ri2 ∧ q.b.length ≤ 512 ∧ q.ok) ∧ Hd (Frs (ROut w W2 (.slice a n2 c)) wx (.slice a6 fn2 c6) fs2) ∧ Hd (FrP (fun b => b < w.heap.size) W2.heap.size wx (.slice a n2 c) p2) ∧ Hd (Keeps (fun b => (Value.slice a7 pn c7).ownBlock = some b) W23 wx))
          case first =>
            cases bb with
            | false =>
              go_wp2_with fail
              go_meet
              exact ⟨past, pn, a7, c7, rfl, HPN, by omega, HPK2, HFS, HPA, hid (Keeps.refl _ _)⟩
            | true =>
              have hne : er ≠ 2 ∧ er ≠ 30 ∧ er ≠ 8 := of_decide_eq_true HBB.out
              have hmv := HR2.out hne.1 hne.2.2 hne.2.1
              have o_B_F_0 : W23.cell? ⟨b_F, 0, none⟩ = some ((.int .i64 F.q)) := blk_cell B_F.out 0
              have o_B_F_1 : W23.cell? ⟨b_F, 1, none⟩ = some ((.int .i64 F.k)) := blk_cell B_F.out 1
              have o_B_F_2 : W23.cell? ⟨b_F, 2, none⟩ = some ((.bool F.u)) := blk_cell B_F.out 2
              have o_B_F_3 : W23.cell? ⟨b_F, 3, none⟩ = some ((.slice ad m cd)) := blk_cell B_F.out 3
              have o_B_F_4 : W23.cell? ⟨b_F, 4, none⟩ = some ((.int .u64 (F.t : Int))) := blk_cell B_F.out 4
              obtain ⟨xs, hO, hge, hc⟩ := HPA.out
              have HO := hid hO; have HC := hid hc; have HGE := hid hge
              clear hO hc hge
              rw [HPN.out] at HO
              go_wp2_with (at_builtin; refine wpList_append_row rfl _ _ 31 rfl 25 i0 zz 5 56 Tryd.underlying31 hi hz0 hz1 hz2 hz3 (by decide) _ (fun _ => True) _ _ _ _ rfl (HO.out.alloc _) 1 _ rfl (src_blk (blk_new _ _ 25) 1 5 rfl (by decide)) (by intro u hu; simp at hu; rcases hu with rfl | rfl | rfl | rfl | rfl <;> rfl) ?h1 ?h2 ?_)
              case h1 => simp [maxLen]; omega
              case h2 => omega
              intro a1 cap1 w2 hown' hgrow; try intro _
              have H5 := hid hown'; have H6 := hid hgrow
              clear hown' hgrow
              go_wp2_with fail
              go_meet
              have ka := keeps_alloc (fun _ => False) W23 (.cells #[(.int .i64 F.q), (.int .i64 F.k), (.bool F.u), (.slice ad m cd), (.int .u64 (F.t : Int))] 25)
              have hnew : ∀ b, (Value.slice a1 (pn + 1) cap1).ownBlock = some b → (Value.slice a7 pn c7).ownBlock = some b ∨ W23.heap.size ≤ b := fun b hb => by have h := H5.out.2 b hb; rcases h with h | h; exact .inl h; exact .inr (by have h' := h; (try simp at h'); omega)
              refine ⟨past ++ [F], pn + 1, a1, cap1, rfl, hid (by rw [List.length_append, HPN.out]; rfl), by omega, hid (fun q hq => ?_), hid ?_, hid ?_, hid ?_⟩
              · rcases List.mem_append.1 hq with hq | hq
                · exact HPK2.out q hq
                · rw [List.mem_singleton.1 hq]; exact ⟨hmv.2, hmv.1, HFO.out⟩
              · have h1 : Frs (fun b => (b < w.heap.size ∨ W2.heap.size ≤ b) ∧ (Value.slice a7 pn c7).ownBlock ≠ some b ∧ (Value.slice a1 (pn + 1) cap1).ownBlock ≠ some b) W23 (.slice a6 fn2 c6) fs2 := HFS.out.mono (fun b hb h => ⟨h.1, h.2, fun e => by rcases hnew b e with e1 | e1; exact h.2 e1; omega⟩)
                exact ((h1.keep ka (fun _ _ _ h => h)).keep H6.out (fun b _ h1 h2 => h1.2.1 h2)).mono (fun b _ h => ⟨h.1, h.2.2⟩)
              · have hs : FrL (fun b => b < w.heap.size ∧ (Value.slice a7 pn c7).ownBlock ≠ some b) (W23.alloc (.cells #[(.int .i64 F.q), (.int .i64 F.k), (.bool F.u), (.slice ad m cd), (.int .u64 (F.t : Int))] 25)) [(.int .i64 F.q), (.int .i64 F.k), (.bool F.u), (.slice ad m cd), (.int .u64 (F.t : Int))] [F] := by
                  have h := FrL.one (x := F) (a := ad) (c := cd) (K := fun b => b < w.heap.size ∧ (Value.slice a7 pn c7).ownBlock ≠ some b) (w := W23.alloc (.cells #[(.int .i64 F.q), (.int .i64 F.k), (.bool F.u), (.slice ad m cd), (.int .u64 (F.t : Int))] 25)) (by rw [HFM.out, HFB.out]; exact (HSX.out.keep ka (fun _ _ _ h => h)).mono (fun b _ h => ⟨h, fun e => by have := HGE.out b e; omega⟩))
                  rw [HFM.out] at h; exact h
                have h := frp_append (v := .slice a7 pn c7) (v7 := .slice a1 (pn + 1) cap1) HGE.out HC.out ka hs (by simp; omega) (by rw [HPN.out]; first | exact H5.out | (simp only [World.size_alloc, List.length_singleton]; exact H5.out) | simpa using H5.out) H6.out
                exact h
              · exact (ka.mono (fun _ _ h => h.elim)).trans H6.out
          case rest =>
          obtain ⟨p2, n2, a9, c9, rfl, HPN2, hn2, HPK, HFS9, HPA9, HK9⟩ := hcut
          generalize wc = W9 at *
          have z9 := HK9.out.size
          have hgeP : ∀ b, (Value.slice a7 pn c7).ownBlock = some b → W2.heap.size ≤ b := by obtain ⟨xs, -, h, -⟩ := HPA.out; exact h
          have HBR9 := hid (blk_keep HBR.out HK9.out (fun h => by have := hgeP _ h; omega))
          have HBL9 := hid (blk_keep HBL.out HK9.out (fun h => by have := hgeP _ h; omega))
          have HN9 := hid (HN.out.keep HK9.out (fun b h1 h2 h3 => by have := hgeP _ h3; omega))
          have HKK9 : Hd (Keeps (fun _ => False) w W9) := hid (HK.out.trans' HK9.out (fun b hb h => by have := hgeP _ h; omega))
          have HFN2' := HFN2
          have hpk := HPK
          skip
          go_wp2_with fail
          go_loopw [14] (fun kv wr => ∃ k : Nat, kv = .int .i64 (k : Int) ∧ k ≤ n2 ∧ Hd (Keeps (fun _ => False) W9 wr)) (fun kv _ => n2 - (intOf kv).toNat)
          case atStart => exact ⟨0, rfl, Nat.zero_le _, hid (Keeps.refl _ _)⟩
          case round =>
            obtain ⟨V3, rfl⟩ : ∃ V3, V3 = wr := ⟨_, rfl⟩
            obtain ⟨k, rfl, hk1, HKL⟩ := hrel
            have zk := HKL.out.size
            have k0 : (0 : Int) ≤ k := by omega
            by_cases hkt : k < n2
            · have k1 : (k : Int) < n2 := by omega
              obtain ⟨q, hq⟩ : ∃ q, p2[k]? = some q := ⟨p2[k]'(by rw [HPN2.out]; exact hkt), List.getElem?_eq_getElem _⟩
              have HPQ := hid (HPK.out q (List.mem_of_getElem? hq))
              have HPA3 := hid (HPA9.out.keep HKL.out (fun _ _ _ h => h))
              have HFS3 : Hd (Frs (fun b => b < V3.heap.size) V3 (.slice a6 fn2 c6) fs2) := hid ((HFS9.out.keep HKL.out (fun _ _ _ h => h)).mono (fun b hb _ => hb))
              have HBR3 := hid (blk_keep HBR9.out HKL.out (fun h => h))
              have HBL3 := hid (blk_keep HBL9.out HKL.out (fun h => h))
              obtain ⟨bx, ox, ea, -, hbx, hcx⟩ := frs_cells HPA3.out.sgs (by rw [HPN2.out]; omega)
              subst ea
              obtain ⟨x0, x1, x2, x4, adq, cdq, x3, hsq⟩ := hcx k q hq
              clear hcx hq
              have HX0 := hid x0; have HX1 := hid x1; have HX2 := hid x2; have HX3 := hid x3; have HX4 := hid x4; have HSQ := hid hsq
              clear x0 x1 x2 x3 x4 hsq
              obtain ⟨ql, hql⟩ : ∃ n, q.b.length = n := ⟨_, rfl⟩
              have HQL := hid hql
              rw [hql] at HX3 HSQ
              clear hql
              have HRP : Hd (∀ X, Keeps (fun _ => False) V3 X → Calls Tryd.prog 24 #[.agg #[.int .i64 nx2, .slice a6 fn2 c6, .bool lk2, .int .u64 (rk2 : Int), .int .i64 ri2], .agg #[.int .i64 q.q, .int .i64 q.k, .bool q.u, .slice adq ql cdq, .int .u64 (q.t : Int)]] X fun e w' => ∃ a2 c2 a3 c3, e = .returned (.tuple #[.agg #[.int .i64 nx2, .slice a2 fn2 c2, .bool lk2, .int .u64 (rk2 : Int), .int .i64 ri2], .slice a3 0 c3, .int .i64 30]) ∧ Frs (fun b => b < V3.heap.size ∨ X.heap.size ≤ b) w' (.slice a2 fn2 c2) fs2 ∧ Keeps (fun _ => False) X w') := hid (fun X hx => by
                have h := Receive_any nx2 fs2 a6 c6 lk2 ⟨rk2, ri2⟩ q (fun b => b < V3.heap.size) adq cdq X (by rw [HFN2.out]; exact HFS3.out.keep hx (fun _ _ _ h => h)) (fun b h => Nat.lt_of_lt_of_le h hx.size) (by rw [HQL.out]; exact (HSQ.out.keep hx (fun _ _ _ h => h)).mono (fun _ _ _ => trivial)) _ HR1.out (by omega) HPQ.out.2.2
                rw [recvM_again (by show q.k < ri2; exact HPQ.out.1) HPQ.out.2.1] at h
                unfold RecvR at h
                simp only [HFN2.out, HQL.out, List.length_nil] at h
                exact h.mono (fun e w' ⟨b1, b2, b3, b4, g1, g2, g3, g4⟩ => ⟨b1, b2, b3, b4, g1, g2, g4⟩))
              go_upto_region 16 with fail
              go_cut [17, 16, 15] from 70 to 79 (fun u17 u16 u15 wx => ∃ (a2 : Option Addr) (c2 : Nat) (a3 : Option Addr) (c3 : Nat), u17 = .int .i64 30 ∧ u16 = .slice a3 0 c3 ∧ ∃ bN, u15 = .pointer (some ⟨bN, 0, none⟩) ∧ V3.heap.size ≤ bN ∧ Hd (Blk wx bN #[(.int .i64 nx2), (.slice a2 fn2 c2), (.bool lk2), (.int .u64 (rk2 : Int)), (.int .i64 ri2)] 35) ∧ Hd (Frs (fun _ => True) wx (.slice a2 fn2 c2) fs2) ∧ Hd (Keeps (fun _ => False) V3 wx))
              case first =>
                refine wp_many (C := mkMC 5 [5, 6, 7, 8, 9, 11, 12, 13] [(10, 35, #[(.int .i64 0), (.slice none 0 0), (.bool false), (.int .u64 0), (.int .i64 0)])] [(11, 10, 7)] [(fun _ => .agg #[(.int .i64 nx2), (.slice a6 fn2 c6), (.bool lk2), (.int .u64 (rk2 : Int)), (.int .i64 ri2)]), (fun _ => .slice (some ⟨bx, ox, none⟩) n2 c9), (fun _ => .int .i64 (k : Int)), (fun _ => .pointer (some ⟨bx, ox + k * 5, none⟩)), (fun _ => .agg #[.int .i64 q.q, .int .i64 q.k, .bool q.u, .slice adq ql cdq, .int .u64 (q.t : Int)]), (fun r => r), (fun r => r), (fun r => tupAt r 0), (fun r => tupAt r 1), (fun r => tupAt r 2), (fun _ => undef), (fun _ => undef), (fun r => tupAt r 1), (fun r => tupAt r 2)] (fun _ r => rcF r) (rcR nx2 fs2 lk2 rk2 ri2 0 30)) (by kernel_rfl) ?H ?HV 5 rfl ?HC ?HE
                case H =>
                  refine { back := by kernel_rfl, dst := uniqB_spec (by kernel_rfl), szd := underB_spec (by kernel_rfl), val := valB_spec3 (f := mkV [(10, 35, #[(.int .i64 0), (.slice none 0 0), (.bool false), (.int .u64 0), (.int .i64 0)])] [(11, 10, 7)]) (by kernel_rfl), alo := ?_, sto := ?_, stc := ?_, all := allB3_spec (f := mkV [(10, 35, #[(.int .i64 0), (.slice none 0 0), (.bool false), (.int .u64 0), (.int .i64 0)])] [(11, 10, 7)]) (g := mkA [(10, 35, #[(.int .i64 0), (.slice none 0 0), (.bool false), (.int .u64 0), (.int .i64 0)])]) (h := mkS [(11, 10, 7)]) (by kernel_rfl), nva := ?_, nvs := ?_, one := ?_, civ := rfl, nd := ?_, cd := rfl, dd := ?_, sem := rcSem _ _ _ _ _ _ _ _ _ _ _ _ _ rfl }
                  · intro j o h0 ha
                    have h1 : 10 = j := by simpa [mkMC] using ha
                    subst h1
                    all_goals
                      have h2 := h0
                      simp only [List.getElem?_cons_succ, List.getElem?_cons_zero, Option.some.injEq] at h2
                      subst h2
                      exact ⟨⟨_, rfl⟩, rfl, rfl⟩
                  · intro s o h0 ha
                    have h1 : 11 = s := by simpa [mkMC] using ha
                    subst h1
                    all_goals
                      have h2 := h0
                      simp only [List.getElem?_cons_succ, List.getElem?_cons_zero, Option.some.injEq] at h2
                      subst h2
                      exact ⟨_, _, _, _, rfl, rfl, rfl, rfl, rfl, rfl, rfl, waitsB_spec (by kernel_rfl), waitsB_spec (by kernel_rfl)⟩
                  · intro s ha
                    have h1 : 11 = s := by simpa [mkMC] using ha
                    subst h1
                    all_goals exact ⟨rfl, rfl, rfl, rfl⟩
                  · intro s ha
                    have h1 : 10 = s := by simpa [mkMC] using ha
                    subst h1
                    all_goals exact ⟨rfl, rfl, rfl⟩
                  · intro s ha
                    have h1 : 11 = s := by simpa [mkMC] using ha
                    subst h1
                    all_goals exact ⟨rfl, rfl⟩
                  · intro s t ha hb hst
                    have h1 : 11 = s := by simpa [mkMC] using ha
                    subst h1
                    all_goals (have h2 : 11 = t := by simpa [mkMC] using hb)
                    exact h2
                  · intro i r r' hv hD
                    match i, hD with
                    | 0, _ => rfl
                    | 1, _ => rfl
                    | 2, _ => rfl
                    | 3, _ => rfl
                    | 4, _ => rfl
                    | 5, h => exact absurd h (by simp [mkMC])
                    | 6, h => exact absurd h (by simp [mkMC])
                    | 7, h => exact absurd h (by simp [mkMC])
                    | 8, h => exact absurd h (by simp [mkMC])
                    | 9, h => exact absurd h (by simp [mkMC])
                    | 10, _ => rfl
                    | 11, h => exact absurd h (by simp [mkMC])
                    | 12, h => exact absurd h (by simp [mkMC])
                    | 13, h => exact absurd h (by simp [mkMC])
                    | n + 14, _ => rfl
                  · intro i o h0 hD hne
                    match i, h0, hD, hne with
                    | 0, _, hD, _ => exact absurd hD (by simp [mkMC])
                    | 1, _, hD, _ => exact absurd hD (by simp [mkMC])
                    | 2, _, hD, _ => exact absurd hD (by simp [mkMC])
                    | 3, _, hD, _ => exact absurd hD (by simp [mkMC])
                    | 4, _, hD, _ => exact absurd hD (by simp [mkMC])
                    | 5, _, _, hne => exact absurd rfl hne
                    | 6, h0, _, _ =>
                      simp only [List.getElem?_cons_succ, List.getElem?_cons_zero, Option.some.injEq] at h0
                      subst h0
                      exact ⟨5, waitsB_spec (by kernel_rfl), rfl⟩
                    | 7, h0, _, _ =>
                      simp only [List.getElem?_cons_succ, List.getElem?_cons_zero, Option.some.injEq] at h0
                      subst h0
                      exact ⟨6, waitsB_spec (by kernel_rfl), rfl⟩
                    | 8, h0, _, _ =>
                      simp only [List.getElem?_cons_succ, List.getElem?_cons_zero, Option.some.injEq] at h0
                      subst h0
                      exact ⟨6, waitsB_spec (by kernel_rfl), rfl⟩
                    | 9, h0, _, _ =>
                      simp only [List.getElem?_cons_succ, List.getElem?_cons_zero, Option.some.injEq] at h0
                      subst h0
                      exact ⟨6, waitsB_spec (by kernel_rfl), rfl⟩
                    | 10, _, hD, _ => exact absurd hD (by simp [mkMC])
                    | 11, h0, _, _ =>
                      simp only [List.getElem?_cons_succ, List.getElem?_cons_zero, Option.some.injEq] at h0
                      subst h0
                      exact ⟨7, waitsB_spec (by kernel_rfl), rfl⟩
                    | 12, h0, _, _ =>
                      simp only [List.getElem?_cons_succ, List.getElem?_cons_zero, Option.some.injEq] at h0
                      subst h0
                      exact ⟨8, waitsB_spec (by kernel_rfl), rfl⟩
                    | 13, h0, _, _ =>
                      simp only [List.getElem?_cons_succ, List.getElem?_cons_zero, Option.some.injEq] at h0
                      subst h0
                      exact ⟨9, waitsB_spec (by kernel_rfl), rfl⟩
                    | n + 14, h0, _, _ => simp at h0
                case HV =>
                  intro iq o hv hne hi aq w' r hk hd hR
                  match iq, hv, hne, hi, hR with
                  | 0, _, _, hi, hR =>
                    have hi1 := hi
                    simp only [List.getElem?_cons_succ, List.getElem?_cons_zero, Option.some.injEq] at hi1
                    subst hi1
                    have e0 : aq.eval (.tmp 5) = .pointer (some ⟨b_BR, 0, none⟩) := (hd.out (by kernel_rfl)).trans rfl
                    have c0 := keep_cell hk (fun h => h) (blk_cell HBR3.out 0)
                    have c1 := keep_cell hk (fun h => h) (blk_cell HBR3.out 1)
                    have c2 := keep_cell hk (fun h => h) (blk_cell HBR3.out 2)
                    have c3 := keep_cell hk (fun h => h) (blk_cell HBR3.out 3)
                    have c4 := keep_cell hk (fun h => h) (blk_cell HBR3.out 4)
                    exact wpOp_ranL hi rfl (v := .agg #[(.int .i64 nx2), (.slice a6 fn2 c6), (.bool lk2), (.int .u64 (rk2 : Int)), (.int .i64 ri2)]) (w' := w') (by simp only [execOp, e0]; go_simp) ⟨rfl, Keeps.refl _ _⟩
                  | 1, _, _, hi, hR =>
                    have hi1 := hi
                    simp only [List.getElem?_cons_succ, List.getElem?_cons_zero, Option.some.injEq] at hi1
                    subst hi1
                    have e0 : aq.eval (.tmp 7) = .slice (some ⟨bx, ox, none⟩) n2 c9 := (hd.out (by kernel_rfl)).trans rfl
                    exact wpOp_ranL hi rfl (v := .slice (some ⟨bx, ox, none⟩) n2 c9) (w' := w') (by simp only [execOp, e0]; rfl) ⟨rfl, Keeps.refl _ _⟩
                  | 2, _, _, hi, hR =>
                    have hi1 := hi
                    simp only [List.getElem?_cons_succ, List.getElem?_cons_zero, Option.some.injEq] at hi1
                    subst hi1
                    have e0 : aq.eval (.tmp 14) = .int .i64 (k : Int) := (hd.out (by kernel_rfl)).trans rfl
                    exact wpOp_ranL hi rfl (v := .int .i64 (k : Int)) (w' := w') (by simp only [execOp, e0]; rfl) ⟨rfl, Keeps.refl _ _⟩
                  | 3, _, _, hi, hR =>
                    have hi1 := hi
                    simp only [List.getElem?_cons_succ, List.getElem?_cons_zero, Option.some.injEq] at hi1
                    subst hi1
                    have e0 : aq.eval (.tmp 72) = .slice (some ⟨bx, ox, none⟩) n2 c9 := hd.val (j := 1) (by kernel_rfl) rfl rfl rfl
                    have e1 : aq.eval (.tmp 73) = .int .i64 (k : Int) := hd.val (j := 2) (by kernel_rfl) rfl rfl rfl
                    exact wpOp_ranL hi rfl (v := .pointer (some ⟨bx, ox + k * 5, none⟩)) (w' := w') (by simp only [execOp, e0, e1]; go_simp) ⟨rfl, Keeps.refl _ _⟩
                  | 4, _, _, hi, hR =>
                    have hi1 := hi
                    simp only [List.getElem?_cons_succ, List.getElem?_cons_zero, Option.some.injEq] at hi1
                    subst hi1
                    have e0 : aq.eval (.tmp 74) = .pointer (some ⟨bx, ox + k * 5, none⟩) := hd.val (j := 3) (by kernel_rfl) rfl rfl rfl
                    have c0 := keep_cell hk (fun h => h) HX0.out
                    have c1 := keep_cell hk (fun h => h) HX1.out
                    have c2 := keep_cell hk (fun h => h) HX2.out
                    have c3 := keep_cell hk (fun h => h) HX3.out
                    have c4 := keep_cell hk (fun h => h) HX4.out
                    exact wpOp_ranL hi rfl (v := .agg #[.int .i64 q.q, .int .i64 q.k, .bool q.u, .slice adq ql cdq, .int .u64 (q.t : Int)]) (w' := w') (by simp only [execOp, e0]; go_simp) ⟨rfl, Keeps.refl _ _⟩
                  | 5, _, hne, _, _ => exact absurd rfl hne
                  | 6, _, _, hi, hR =>
                    have hi1 := hi
                    simp only [List.getElem?_cons_succ, List.getElem?_cons_zero, Option.some.injEq] at hi1
                    subst hi1
                    obtain ⟨K, a2, c2, a3, c3, rfl, hfr⟩ := hR rfl
                    have e0 : aq.eval (.tmp 76) = .tuple #[.agg #[(.int .i64 nx2), (.slice a2 fs2.length c2), (.bool lk2), (.int .u64 (rk2 : Int)), (.int .i64 ri2)], .slice a3 0 c3, .int .i64 30] := hd.val (j := 5) (by kernel_rfl) rfl rfl rfl
                    exact wpOp_ranL hi rfl (v := .tuple #[.agg #[(.int .i64 nx2), (.slice a2 fs2.length c2), (.bool lk2), (.int .u64 (rk2 : Int)), (.int .i64 ri2)], .slice a3 0 c3, .int .i64 30]) (w' := w') (by simp only [execOp, e0]; rfl) ⟨rfl, Keeps.refl _ _⟩
                  | 7, _, _, hi, hR =>
                    have hi1 := hi
                    simp only [List.getElem?_cons_succ, List.getElem?_cons_zero, Option.some.injEq] at hi1
                    subst hi1
                    obtain ⟨K, a2, c2, a3, c3, rfl, hfr⟩ := hR rfl
                    have e0 : aq.eval (.tmp 70) = .tuple #[.agg #[(.int .i64 nx2), (.slice a2 fs2.length c2), (.bool lk2), (.int .u64 (rk2 : Int)), (.int .i64 ri2)], .slice a3 0 c3, .int .i64 30] := hd.val (j := 6) (by kernel_rfl) rfl rfl rfl
                    exact wpOp_ranL hi rfl (v := .agg #[(.int .i64 nx2), (.slice a2 fs2.length c2), (.bool lk2), (.int .u64 (rk2 : Int)), (.int .i64 ri2)]) (w' := w') (by simp only [execOp, e0]; rfl) ⟨rfl, Keeps.refl _ _⟩
                  | 8, _, _, hi, hR =>
                    have hi1 := hi
                    simp only [List.getElem?_cons_succ, List.getElem?_cons_zero, Option.some.injEq] at hi1
                    subst hi1
                    obtain ⟨K, a2, c2, a3, c3, rfl, hfr⟩ := hR rfl
                    have e0 : aq.eval (.tmp 70) = .tuple #[.agg #[(.int .i64 nx2), (.slice a2 fs2.length c2), (.bool lk2), (.int .u64 (rk2 : Int)), (.int .i64 ri2)], .slice a3 0 c3, .int .i64 30] := hd.val (j := 6) (by kernel_rfl) rfl rfl rfl
                    exact wpOp_ranL hi rfl (v := .slice a3 0 c3) (w' := w') (by simp only [execOp, e0]; rfl) ⟨rfl, Keeps.refl _ _⟩
                  | 9, _, _, hi, hR =>
                    have hi1 := hi
                    simp only [List.getElem?_cons_succ, List.getElem?_cons_zero, Option.some.injEq] at hi1
                    subst hi1
                    obtain ⟨K, a2, c2, a3, c3, rfl, hfr⟩ := hR rfl
                    have e0 : aq.eval (.tmp 70) = .tuple #[.agg #[(.int .i64 nx2), (.slice a2 fs2.length c2), (.bool lk2), (.int .u64 (rk2 : Int)), (.int .i64 ri2)], .slice a3 0 c3, .int .i64 30] := hd.val (j := 6) (by kernel_rfl) rfl rfl rfl
                    exact wpOp_ranL hi rfl (v := .int .i64 30) (w' := w') (by simp only [execOp, e0]; rfl) ⟨rfl, Keeps.refl _ _⟩
                  | 10, hv, _, _, _ => cases hv
                  | 11, hv, _, _, _ => cases hv
                  | 12, _, _, hi, hR =>
                    have hi1 := hi
                    simp only [List.getElem?_cons_succ, List.getElem?_cons_zero, Option.some.injEq] at hi1
                    subst hi1
                    obtain ⟨K, a2, c2, a3, c3, rfl, hfr⟩ := hR rfl
                    have e0 : aq.eval (.tmp 78) = .slice a3 0 c3 := hd.val (j := 8) (by kernel_rfl) rfl rfl rfl
                    exact wpOp_ranL hi rfl (v := .slice a3 0 c3) (w' := w') (by simp only [execOp, e0]; rfl) ⟨rfl, Keeps.refl _ _⟩
                  | 13, _, _, hi, hR =>
                    have hi1 := hi
                    simp only [List.getElem?_cons_succ, List.getElem?_cons_zero, Option.some.injEq] at hi1
                    subst hi1
                    obtain ⟨K, a2, c2, a3, c3, rfl, hfr⟩ := hR rfl
                    have e0 : aq.eval (.tmp 79) = .int .i64 30 := hd.val (j := 9) (by kernel_rfl) rfl rfl rfl
                    exact wpOp_ranL hi rfl (v := .int .i64 30) (w' := w') (by simp only [execOp, e0]; rfl) ⟨rfl, Keeps.refl _ _⟩
                  | n + 14, _, _, hi, _ => simp at hi
                case HC =>
                  intro o hi aq w' r hk hd
                  have hi1 := hi
                  simp only [List.getElem?_cons_succ, List.getElem?_cons_zero, Option.some.injEq] at hi1
                  subst hi1
                  have e0 : aq.eval (.tmp 71) = .agg #[(.int .i64 nx2), (.slice a6 fn2 c6), (.bool lk2), (.int .u64 (rk2 : Int)), (.int .i64 ri2)] := hd.val (j := 0) (by kernel_rfl) rfl rfl rfl
                  have e1 : aq.eval (.tmp 75) = .agg #[.int .i64 q.q, .int .i64 q.k, .bool q.u, .slice adq ql cdq, .int .u64 (q.t : Int)] := hd.val (j := 4) (by kernel_rfl) rfl rfl rfl
                  exact wpOp_callL hi rfl (f := 24) (args := #[.agg #[(.int .i64 nx2), (.slice a6 fn2 c6), (.bool lk2), (.int .u64 (rk2 : Int)), (.int .i64 ri2)], .agg #[.int .i64 q.q, .int .i64 q.k, .bool q.u, .slice adq ql cdq, .int .u64 (q.t : Int)]]) (by simp only [execOp_call_go, List.map_toArray, List.map_cons, List.map_nil, e0, e1]; rfl) ((HRP.out _ hk).mono (fun e w2 ⟨a2, c2, a3, c3, he, hfr, hk2⟩ => ⟨_, he, _, rfl, hk2, a2, c2, a3, c3, by rw [HFN2.out], by rw [HFN2.out]; exact hfr⟩))
                case HE =>
                  intro L aq w' gg r hL hT
                  have em := act_mix (bs := [true, true, true, true, true, true, true, true, true, true, true, true, true, true, true, false, false, false, true, true, true, true, true, true, true, true, true, true, true, true, true, true, true, true, true, true, true, true, true, true, true, true, true, true, true, true, true, true, true, true, true, true, true, true, true, true, true, true, true, true, true, true, true, true, true, true, true, true, true, true, false, false, false, false, false, false, false, false, false, false, true, true, true, true, true, true, true, true, true, true, true, true, true, true]) hT.sz hT.df hT.fr rfl (by kernel_rfl)
                  have hR := hT.c (hL 5 (by decide))
                  obtain ⟨a2, c2, a3, c3, rfl, hfr⟩ := hR
                  have kW := hT.kp
                  obtain ⟨eA10, zA10, cs10, -, bA10, sA10⟩ := hT.al 10 rfl (hL 10 (by decide)) _ 15 rfl rfl
                  have sA10 := sA10 11 rfl (hL 11 (by decide)) rfl
                  subst sA10
                  change aq.tmps.getD 15 undef = _ at eA10
                  generalize gg 10 = g10 at *
                  have k16 : aq.tmps.getD 16 undef = .slice a3 0 c3 := hT.v 12 _ 16 rfl (hL 12 (by decide)) rfl rfl
                  have k17 : aq.tmps.getD 17 undef = .int .i64 30 := hT.v 13 _ 17 rfl (hL 13 (by decide)) rfl rfl
                  clear hT hL
                  simp only [mix, eA10, k16, k17] at em
                  clear eA10 k16 k17
                  generalize aq.tmps.getD 71 undef = q71 at em
                  generalize aq.tmps.getD 72 undef = q72 at em
                  generalize aq.tmps.getD 73 undef = q73 at em
                  generalize aq.tmps.getD 74 undef = q74 at em
                  generalize aq.tmps.getD 75 undef = q75 at em
                  generalize aq.tmps.getD 76 undef = q76 at em
                  generalize aq.tmps.getD 70 undef = q70 at em
                  generalize aq.tmps.getD 77 undef = q77 at em
                  generalize aq.tmps.getD 78 undef = q78 at em
                  generalize aq.tmps.getD 79 undef = q79 at em
                  subst em
                  simp only [Exit.then]
                  go_wp2_with fail
                  go_meet
                  exact ⟨a2, c2, a3, c3, rfl, rfl, g10, rfl, zA10, hid (by rw [← HFN2.out]; exact bA10), hid (by rw [← HFN2.out]; exact hfr.mono (fun _ _ _ => trivial)), hid kW⟩
              case rest =>
                obtain ⟨a2, c2, a3, c3, rfl, rfl, b_N, rfl, hb_N, B_N, M_0, hk⟩ := hcut
                replace hk := hk.out
                generalize wc = W61 at *
                have HBR3' : Hd (Blk W61 b_BR #[(.int .i64 nx2), (.slice a6 fn2 c6), (.bool lk2), (.int .u64 (rk2 : Int)), (.int .i64 ri2)] 35) := hid (blk_keep HBR3.out hk (fun h => h))
                have HFS3' : Hd (Frs (fun b => b < V3.heap.size) W61 (.slice a6 fn2 c6) fs2) := hid (HFS3.out.keep hk (fun _ _ _ h => h))
                clear HBR3 HFS3
                have HBR3 := HBR3'
                clear HBR3'
                have HFS3 := HFS3'
                clear HFS3'
                clear HK
                have HK : Hd (Keeps (fun _ => False) V3 W61) := hid hk
                have z_W61 := hk.size
                clear hk
                clear HRP HX0 HX1 HX2 HX3 HX4
                have o_HBR3_0 : W61.cell? ⟨b_BR, 0, none⟩ = some ((.int .i64 nx2)) := blk_cell HBR3.out 0
                have o_HBR3_1 : W61.cell? ⟨b_BR, 1, none⟩ = some ((.slice a6 fn2 c6)) := blk_cell HBR3.out 1
                have o_HBR3_2 : W61.cell? ⟨b_BR, 2, none⟩ = some ((.bool lk2)) := blk_cell HBR3.out 2
                have o_HBR3_3 : W61.cell? ⟨b_BR, 3, none⟩ = some ((.int .u64 (rk2 : Int))) := blk_cell HBR3.out 3
                have o_HBR3_4 : W61.cell? ⟨b_BR, 4, none⟩ = some ((.int .i64 ri2)) := blk_cell HBR3.out 4
                have o_B_N_0 : W61.cell? ⟨b_N, 0, none⟩ = some ((.int .i64 nx2)) := blk_cell B_N.out 0
                have o_B_N_1 : W61.cell? ⟨b_N, 1, none⟩ = some ((.slice a2 fn2 c2)) := blk_cell B_N.out 1
                have o_B_N_2 : W61.cell? ⟨b_N, 2, none⟩ = some ((.bool lk2)) := blk_cell B_N.out 2
                have o_B_N_3 : W61.cell? ⟨b_N, 3, none⟩ = some ((.int .u64 (rk2 : Int))) := blk_cell B_N.out 3
                have o_B_N_4 : W61.cell? ⟨b_N, 4, none⟩ = some ((.int .i64 ri2)) := blk_cell B_N.out 4
                have HSR : Hd (Calls Tryd.prog 26 #[.agg #[(.int .i64 nx2), (.slice a2 fn2 c2), (.bool lk2), (.int .u64 (rk2 : Int)), (.int .i64 ri2)], .agg #[(.int .i64 nx2), (.slice a6 fn2 c6), (.bool lk2), (.int .u64 (rk2 : Int)), (.int .i64 ri2)]] W61 fun e w' => e = .returned (.bool true) ∧ Keeps (fun _ => False) W61 w') := hid (by have h := SameReceiver_true nx2 fs2 lk2 ⟨rk2, ri2⟩ a2 a6 c2 c6 _ _ W61 (by rw [HFN2.out]; exact M_0.out) (by rw [HFN2.out]; exact HFS3.out) (fun x hx => (HR1.out.f x hx).2.2.1.b) (by have h := HR1.out.len; exact Nat.le_trans h (by decide)); rw [HFN2.out] at h; exact h)
                go_wp2_with fail
                refine HSR.out.mono ?_
                rintro e w8 ⟨rfl, hk8⟩
                have HK8 := hid hk8
                clear hk8
                have HKF8 := hid (HKL.out.trans (HK.out.trans HK8.out))
                clear o_HBR3_0 o_HBR3_1 o_HBR3_2 o_HBR3_3 o_HBR3_4 o_B_N_0 o_B_N_1 o_B_N_2 o_B_N_3 o_B_N_4
                go_wp2
                go_roundw
                case rel => exact ⟨k + 1, by go_num, by omega, HKF8⟩
                case measure => simp [intOf]; omega
            · have k1 : ¬ ((k : Int) < n2) := by omega
              go_wp2
              go_roundw
              case rel =>
                refine ⟨i + 1, ⟨nx2, fs2, lk2, ⟨rk2, ri2⟩⟩, L2, p2, a6, c6, a9, c9, by rw [HPN2.out], by go_num, by omega, by omega, by rw [HPN2.out]; exact hn2, ?_, hid (blk_keep HBL9.out HKL.out (fun h => h)), ?_, ?_, HR1, HLO, HPK, ?_, hid (HKK9.out.trans HKL.out)⟩
                · simp only [HFN2.out]; exact hid (blk_keep HBR9.out HKL.out (fun h => h))
                · simp only [HFN2.out, HPN2.out]; exact hid (HFS9.out.keep HKL.out (fun _ _ _ h => h))
                · rw [HPN2.out]; exact hid (HPA9.out.keep HKL.out (fun _ _ _ h => h))
                · omega
              case measure => simp [intOf]; omega
      · have q2 : ¬ ((i : Int) < 20) := by omega
        go_wp2_with fail
        refine (lives_any _ HN.out).mono ?_
        rintro e w9 ⟨rfl, hk⟩
        go_wp2
        go_ret
        exact ⟨rfl, HK.out.trans hk⟩
    · have q1 : ¬ ((i : Int) < L) := by omega
      go_wp2_with fail
      refine (lives_any _ HN.out).mono ?_
      rintro e w9 ⟨rfl, hk⟩
      go_wp2
      go_ret
      exact ⟨rfl, HK.out.trans hk⟩
end Go.Proofs.YthoikljmokkchaaDoor
