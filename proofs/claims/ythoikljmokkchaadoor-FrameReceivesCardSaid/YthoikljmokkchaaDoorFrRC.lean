/- Frame: FrameReceives walked. -/
import Derived.Test.YthoikljmokkchaaDoorFrRB
import Derived.Test.YthoikljmokkchaaDoorFrW
import Derived.Test.YthoikljmokkchaaDoorFrSem
import Derived.Deep.DrawnRows
namespace Go.Proofs.YthoikljmokkchaaDoor
open Go.RowKit
attribute [local go_sem ↓] Go.wp_at_zero Go.wp_at_succ
def lRa : Op := Op.load 33 (.tmp 7)
theorem lRa_eq : Op.load 33 (.tmp 7) = lRa := rfl
attribute [local go_sem] lRa
theorem recvM_bytes {r : Rv} {B : Int} (h : r.ok B) {f : Fr} (hf : f.ok) : (∀ b ∈ (recvM r f).2.1, ∀ c ∈ b, c < 256) ∧ (recvM r f).2.1.length ≤ 16 := by
  have hl := h.len
  have key : ∀ l : Ld, (∀ b ∈ (delivM r l f.b).2.1, ∀ c ∈ b, c < 256) ∧ (delivM r l f.b).2.1.length ≤ 16 := fun l => by
    refine ⟨fun b hb => ?_, ?_⟩
    · rcases List.mem_cons.1 hb with rfl | hb
      · exact hf.b
      · obtain ⟨y, hy, rfl⟩ := List.mem_map.1 hb
        exact (h.f y (List.mem_of_mem_take hy)).2.2.1.b
    · show (f.b :: _).length ≤ 16
      rw [List.length_cons, List.length_map, List.length_take]; omega
  have none : ∀ (x : Rv) (e : Int), (∀ b ∈ (x, ([] : List (List Nat)), e).2.1, ∀ c ∈ b, c < 256) ∧ (x, ([] : List (List Nat)), e).2.1.length ≤ 16 := fun x e => ⟨fun b hb => (by cases hb), Nat.zero_le _⟩
  unfold recvM
  split
  · exact none _ _
  · split
    · exact none _ _
    · unfold recv2
      split
      · split <;> exact none _ _
      · split
        · exact none _ _
        · split
          · exact key _
          · split
            · exact none _ _
            · split <;> exact none _ _
theorem fr0_ok {x : AC} (hx : AcOk x) (hb : x.b.length ≤ 140737488351232) {u : Bool} {t : Nat} (ht : t < 18446744073709551616) : (⟨x.n, x.m, u, x.b, t⟩ : Fr).ok := ⟨hx.n.1, hx.n.2, hx.m.1, hx.m.2, hx.b, ht, by show x.b.length ≤ _; omega⟩
theorem u64_wrap (n : Int) : IntKind.u64.wrap n = (((n % 18446744073709551616).toNat : Nat) : Int) ∧ (n % 18446744073709551616).toNat < 18446744073709551616 := by
  refine ⟨?_, by omega⟩
  show n % 18446744073709551616 = _
  omega
def ROV (w W V : World) (v : Value) (b : Nat) : Prop := ROut w W v b ∧ b < V.heap.size
theorem frp_out {KD : Nat → Prop} {B : Nat} {S : Nat → Prop} {w w' : World} {v : Value} {l : List Fr} (h : FrP KD B w v l) (hk : Keeps S w w') (h1 : ∀ b, v.ownBlock = some b → ¬ S b) (h2 : ∀ b, KD b → ¬ S b) : FrP KD B w' v l := by
  obtain ⟨xs, g1, g2, g3⟩ := h
  exact ⟨xs, g1.keep hk (fun b _ hh => h1 b hh), g2, g3.keep hk (fun b _ hh => h2 b hh.1)⟩
theorem frp_cells {KD : Nat → Prop} {B : Nat} {w : World} {a : Option Addr} {n c : Nat} {l : List Fr} (h : FrP KD B w (.slice a n c) l) (hl : 0 < l.length) :
    ∃ b o, a = some ⟨b, o, none⟩ ∧ B ≤ b ∧ b < w.heap.size ∧ ∀ k x, l[k]? = some x → w.cell? ⟨b, o + k * 5, none⟩ = some (.int .i64 x.q) ∧ w.cell? ⟨b, o + k * 5 + 1, none⟩ = some (.int .i64 x.k) ∧ w.cell? ⟨b, o + k * 5 + 2, none⟩ = some (.bool x.u) ∧ w.cell? ⟨b, o + k * 5 + 4, none⟩ = some (.int .u64 (x.t : Int)) ∧
      ∃ ad cd, w.cell? ⟨b, o + k * 5 + 3, none⟩ = some (.slice ad x.b.length cd) ∧ Sl KD w (.slice ad x.b.length cd) (u8s x.b) := by
  obtain ⟨xs, hrow, hge, hc⟩ := h
  obtain ⟨a', c', e, _, _, hel⟩ := hrow.row.form
  injection e with e1 e2 e3
  subst e1
  obtain ⟨b, o, ea, hK, hb, hcell⟩ := hel hl
  refine ⟨b, o, ea, hge b hK, hb, fun k x hx => ?_⟩
  have hk : k < l.length := (List.getElem?_eq_some_iff.1 hx).1
  obtain ⟨t0, t1, t2, t3, t4⟩ := hc.2 k x hx
  have key : ∀ j, j < 5 → w.cell? ⟨b, o + k * 5 + j, none⟩ = some (xs.getD (k * 5 + j) undef) := fun j hj => by rw [Nat.add_assoc]; exact hcell (k * 5 + j) (by omega)
  obtain ⟨ad, cd, e4, _⟩ := t4.bytes
  have e4' : xs.getD (k * 5 + 3) undef = .slice ad x.b.length cd := e4
  have h4 : Sl KD w (.slice ad x.b.length cd) (u8s x.b) := by have h := t4.mono (K' := KD) (fun _ _ h => h.1); simp only [e4'] at h; exact h
  exact ⟨(key 0 (by omega)).trans (congrArg some t0), (key 1 (by omega)).trans (congrArg some t1), (key 2 (by omega)).trans (congrArg some t2), (key 4 (by omega)).trans (congrArg some t3), ad, cd, (key 3 (by omega)).trans (congrArg some e4'), h4⟩
set_option maxRecDepth 100000 in
set_option maxHeartbeats 20000000 in
theorem receives_any (key : Nat) (l : List AC) (v : Value) (w : World) (hN : Cr.Nib w) (hkey : key < 18446744073709551616) (hv : Acs (fun b => b < w.heap.size) w v l) (hx : ∀ x ∈ l, AcOk x) (hb : ∀ x ∈ l, x.b.length ≤ 140737488351232) :
    Calls Tryd.prog 4 #[.int .u64 (key : Int), v] w fun e w' => e = .returned (.bool true) ∧ Keeps (fun _ => False) w w' := by
  have HN0 : Hd (NibR w) := hid hN
  have hpos := NibR.pos (hN : NibR w)
  have HX := hid hx; have HB := hid hb
  obtain ⟨va, vc, rfl, hvc, hvm⟩ := hv.form
  have HV0 := hid hv
  obtain ⟨i0, zz, hi, hz0, hz1, hz2, hz3⟩ := fr_parts
  clear hN hx hb hv
  obtain ⟨L, hL⟩ : ∃ L, l.length = L := ⟨_, rfl⟩
  have HL := hid hL
  rw [hL] at HV0 hvc ⊢
  clear hL
  go_enter Tryd.func4, Tryd.ntmps4
  go_wp2_with fail
  refine (NewReceiver_any key _).mono ?_
  rintro e U1 ⟨rfl, hk⟩
  have HK : Hd (Keeps (fun _ => False) w U1) := hid hk
  have z_U1 := hk.size
  clear hk
  go_upto_region 2 with fail
  generalize hW : World.alloc U1 _ = W1
  have KS : Hd (Keeps (fun _ => False) U1 W1) := hid (by rw [← hW]; exact (Keeps.alloc (Keeps.refl (fun _ => False) U1) _))
  have BR : Hd (Blk W1 U1.heap.size #[(.int .i64 0), (.slice none 0 0), (.bool false), (.int .u64 (key : Int)), (.int .i64 0)] 35) := hid (by rw [← hW]; exact (blk_new _ _ _))
  have HK' : Hd (Keeps (fun _ => False) w W1) := hid (HK.out.trans KS.out)
  clear HK
  have HK := HK'
  clear HK'
  have z_W1 : U1.heap.size + 1 ≤ W1.heap.size := by rw [← hW]; simp
  clear hW KS
  generalize hb_BR : U1.heap.size = b_R at *
  have lt0_BR := blk_lt BR.out
  go_wp2_with fail
  refine (RNewReceiver_any key _).mono ?_
  rintro e U2 ⟨rfl, hk⟩
  have BR' : Hd (Blk U2 b_R #[(.int .i64 0), (.slice none 0 0), (.bool false), (.int .u64 (key : Int)), (.int .i64 0)] 35) := hid (blk_keep BR.out hk (fun h => h))
  clear BR
  have BR := BR'
  clear BR'
  have HK' : Hd (Keeps (fun _ => False) w U2) := hid (HK.out.trans hk)
  clear HK
  have HK := HK'
  clear HK'
  have z_U2 := hk.size
  clear hk
  go_upto_region 3 with fail
  generalize hW : World.alloc U2 _ = W2
  have KS : Hd (Keeps (fun _ => False) U2 W2) := hid (by rw [← hW]; exact (Keeps.alloc (Keeps.refl (fun _ => False) U2) _))
  have BR' : Hd (Blk W2 b_R #[(.int .i64 0), (.slice none 0 0), (.bool false), (.int .u64 (key : Int)), (.int .i64 0)] 35) := hid (by rw [← hW]; exact (blk_alloc BR.out _))
  have BQ : Hd (Blk W2 U2.heap.size #[(.int .i64 0), (.slice none 0 0), (.bool false), (.int .u64 (key : Int)), (.int .i64 0)] 35) := hid (by rw [← hW]; exact (blk_new _ _ _))
  clear BR
  have BR := BR'
  clear BR'
  have HK' : Hd (Keeps (fun _ => False) w W2) := hid (HK.out.trans KS.out)
  clear HK
  have HK := HK'
  clear HK'
  have z_W2 : U2.heap.size + 1 ≤ W2.heap.size := by rw [← hW]; simp
  clear hW KS
  generalize hb_BQ : U2.heap.size = b_Q at *
  have lt0_BQ := blk_lt BQ.out
  go_wp2_with fail
  refine (LNew_any key _).mono ?_
  rintro e U3 ⟨rfl, hk⟩
  have BR' : Hd (Blk U3 b_R #[(.int .i64 0), (.slice none 0 0), (.bool false), (.int .u64 (key : Int)), (.int .i64 0)] 35) := hid (blk_keep BR.out hk (fun h => h))
  have BQ' : Hd (Blk U3 b_Q #[(.int .i64 0), (.slice none 0 0), (.bool false), (.int .u64 (key : Int)), (.int .i64 0)] 35) := hid (blk_keep BQ.out hk (fun h => h))
  clear BR BQ
  have BR := BR'
  clear BR'
  have BQ := BQ'
  clear BQ'
  have HK' : Hd (Keeps (fun _ => False) w U3) := hid (HK.out.trans hk)
  clear HK
  have HK := HK'
  clear HK'
  have z_U3 := hk.size
  clear hk
  go_upto_region 4 with fail
  generalize hW : World.alloc U3 _ = W3
  have KS : Hd (Keeps (fun _ => False) U3 W3) := hid (by rw [← hW]; exact (Keeps.alloc (Keeps.refl (fun _ => False) U3) _))
  have BR' : Hd (Blk W3 b_R #[(.int .i64 0), (.slice none 0 0), (.bool false), (.int .u64 (key : Int)), (.int .i64 0)] 35) := hid (by rw [← hW]; exact (blk_alloc BR.out _))
  have BQ' : Hd (Blk W3 b_Q #[(.int .i64 0), (.slice none 0 0), (.bool false), (.int .u64 (key : Int)), (.int .i64 0)] 35) := hid (by rw [← hW]; exact (blk_alloc BQ.out _))
  have BL : Hd (Blk W3 U3.heap.size #[(.int .u64 (key : Int)), (.int .i64 0)] 33) := hid (by rw [← hW]; exact (blk_new _ _ _))
  clear BR BQ
  have BR := BR'
  clear BR'
  have BQ := BQ'
  clear BQ'
  have HK' : Hd (Keeps (fun _ => False) w W3) := hid (HK.out.trans KS.out)
  clear HK
  have HK := HK'
  clear HK'
  have z_W3 : U3.heap.size + 1 ≤ W3.heap.size := by rw [← hW]; simp
  clear hW KS
  generalize hb_BL : U3.heap.size = b_L at *
  have lt0_BL := blk_lt BL.out
  have ltR := blk_lt BR.out
  have ltQ := blk_lt BQ.out
  have ltL := blk_lt BL.out
  have geR : w.heap.size ≤ b_R := by omega
  have geQ : w.heap.size ≤ b_Q := by omega
  have geL : w.heap.size ≤ b_L := by omega
  have neRQ : b_R ≠ b_Q := by omega
  have neRL : b_R ≠ b_L := by omega
  have neQL : b_Q ≠ b_L := by omega
  have zK := HK.out.size
  go_wp2_with fail
  go_loopw [8, 9] (fun sv iv wr => ∃ (i : Nat) (r : Rv) (ks : Ld) (past : List Fr) (a5 : Option Addr) (c5 : Nat) (a6 : Option Addr) (c6 : Nat) (a7 : Option Addr) (c7 : Nat), sv = .slice a7 past.length c7 ∧ iv = .int .i64 (i : Int) ∧ i ≤ L ∧ i ≤ 50 ∧ past.length ≤ i ∧ Hd (Blk wr b_R #[.int .i64 r.nx, .slice a5 r.fs.length c5, .bool r.lk, .int .u64 (r.l.k : Int), .int .i64 r.l.i] 35) ∧ Hd (Blk wr b_Q #[.int .i64 r.nx, .slice a6 r.fs.length c6, .bool r.lk, .int .u64 (r.l.k : Int), .int .i64 r.l.i] 35) ∧ Hd (Blk wr b_L #[.int .u64 (ks.k : Int), .int .i64 ks.i] 33) ∧ Hd (Frs (ROut w W3 (.slice a7 past.length c7)) wr (.slice a5 r.fs.length c5) r.fs) ∧ Hd (Frs (ROut w W3 (.slice a7 past.length c7)) wr (.slice a6 r.fs.length c6) r.fs) ∧ Hd (FrP (fun b => b < w.heap.size) W3.heap.size wr (.slice a7 past.length c7) past) ∧ Hd (r.ok (5000 * (i : Int))) ∧ Hd (ks.ok ∧ ks.i ≤ 3 * (i : Int)) ∧ Hd (∀ p ∈ past, p.ok) ∧ W3.heap.size ≤ wr.heap.size ∧ Hd (Keeps (fun _ => False) w wr)) (fun _ iv _ => 50 - (intOf iv).toNat)
  case atStart => exact ⟨0, ⟨0, [], false, ⟨key, 0⟩⟩, ⟨key, 0⟩, [], none, 0, none, 0, none, 0, rfl, rfl, Nat.zero_le _, Nat.zero_le _, Nat.le_refl _, BR, BQ, BL, hid (Frs.nil _ _), hid (Frs.nil _ _), hid (FrP.nil _ _ _), hid ⟨by simp, by simp, by simp, List.Pairwise.nil, hkey, by simp, by simp⟩, hid ⟨⟨hkey, by simp, by simp⟩, by simp⟩, hid (by simp), Nat.le_refl _, HK⟩
  case round =>
    obtain ⟨V, rfl⟩ : ∃ V, V = wr := ⟨_, rfl⟩
    obtain ⟨i, r, ks, past, a5, c5, a6, c6, a7, c7, rfl, rfl, hi1, hi2, hpi, HBR, HBQ, HBL, HFS, HGS, HPA, HOK, HKS, HPK, hsV, HKV⟩ := hrel
    clear BR BQ BL
    have HK9 := HK
    clear HK
    have HK := HKV
    clear HKV
    obtain ⟨nx, fs, lk, ⟨rk, ri⟩⟩ := r
    obtain ⟨k2, i2⟩ := ks
    simp only [] at HBR HBQ HBL HFS HGS HOK HKS HPK
    obtain ⟨pn, hpn⟩ : ∃ n, past.length = n := ⟨_, rfl⟩
    have HPN := hid hpn
    rw [hpn] at hpi HFS HGS HPA ⊢
    clear hpn
    obtain ⟨fn, hfn⟩ : ∃ n, fs.length = n := ⟨_, rfl⟩
    have HFN := hid hfn
    rw [hfn] at HBR HBQ HFS HGS
    clear hfn
    have zR := blk_lt HBR.out
    have zQ := blk_lt HBQ.out
    have zL := blk_lt HBL.out
    have zV := HK.out.size
    have q0 : (0 : Int) ≤ i := by omega
    have hgeP : ∀ b, (Value.slice a7 pn c7).ownBlock = some b → W3.heap.size ≤ b ∧ b < V.heap.size := fun b hb => ⟨by obtain ⟨xs, -, h, -⟩ := HPA.out; exact h b hb, frp_lt HPA.out b hb⟩
    by_cases hgo : i < L ∧ i < 50
    · obtain ⟨hlt, hlt2⟩ := hgo
      have q1 : (i : Int) < L := by omega
      have q2 : (i : Int) < 50 := by omega
      have hil : i < l.length := by rw [HL.out]; exact hlt
      obtain ⟨x, hxi⟩ : ∃ x, l[i]? = some x := ⟨_, List.getElem?_eq_getElem hil⟩
      have hxm := List.mem_of_getElem? hxi
      have HXO := hid (HX.out x hxm)
      have HXB := hid (HB.out x hxm)
      obtain ⟨vb, vo, eva, hvb, hvb2, hcx⟩ := acs_cells HV0.out (by omega)
      subst eva
      obtain ⟨c0, c1, c2, ad, cd, c3, hsx⟩ := hcx i x hxi
      have HC0 := hid c0; have HC1 := hid c1; have HC2 := hid c2; have HC3 := hid c3
      have HSX := hid hsx
      clear hcx hxm hxi hil c0 c1 c2 c3 hsx
      obtain ⟨m, hm⟩ : ∃ m, x.b.length = m := ⟨_, rfl⟩
      have HM := hid hm
      rw [hm] at HC3 HSX
      clear hm
      obtain ⟨kk, hkk⟩ : ∃ k, around x.kd 8 = k := ⟨_, rfl⟩
      have HKK := hid hkk
      have hkb := around_b x.kd (show (1 : Int) ≤ 8 by omega)
      rw [hkk] at hkb
      clear hkk
      obtain ⟨tn, htn⟩ : ∃ t, (x.n % 18446744073709551616).toNat = t := ⟨_, rfl⟩
      have hwt : IntKind.u64.wrap x.n = (tn : Int) := by rw [← htn]; exact (u64_wrap x.n).1
      have htl : tn < 18446744073709551616 := by rw [← htn]; exact (u64_wrap x.n).2
      clear htn
      obtain ⟨ub, hub⟩ : ∃ b, decide (x.kd < 0) = b := ⟨_, rfl⟩
      have HFS' : Hd (Frs (ROV w W3 V (.slice a7 pn c7)) V (.slice a5 fn c5) fs) := hid (HFS.out.mono (fun b hb h => ⟨h, hb⟩))
      clear HFS
      have HFS := HFS'
      clear HFS'
      have HGS' : Hd (Frs (ROV w W3 V (.slice a7 pn c7)) V (.slice a6 fn c6) fs) := hid (HGS.out.mono (fun b hb h => ⟨h, hb⟩))
      clear HGS
      have HGS := HGS'
      clear HGS'
      go_upto_region 8 with fail
      go_cut [10] from 34 to 61 (fun u10 wx => ∃ bF, u10 = .pointer (some ⟨bF, 0, none⟩) ∧ V.heap.size ≤ bF ∧ Hd (Blk wx bF #[(.int .i64 x.n), (.int .i64 x.m), (.bool ub), (.slice ad m cd), (.int .u64 (tn : Int))] 25) ∧ Hd (Keeps (fun _ => False) V wx))
      case first =>
        refine wp_many (C := mkMC 26 [26, 27, 29] [(28, 25, #[(.int .i64 0), (.int .i64 0), (.bool false), (.slice none 0 0), (.int .u64 0)])] [(29, 28, 27)] [(fun _ => .slice (some ⟨vb, vo, none⟩) L vc), (fun _ => .int .i64 (i : Int)), (fun _ => .pointer (some ⟨vb, vo + i * 4, none⟩)), (fun _ => .pointer (some ⟨vb, vo + i * 4 + 1, none⟩)), (fun _ => .int .i64 x.n), (fun _ => .slice (some ⟨vb, vo, none⟩) L vc), (fun _ => .int .i64 (i : Int)), (fun _ => .pointer (some ⟨vb, vo + i * 4, none⟩)), (fun _ => .pointer (some ⟨vb, vo + i * 4 + 2, none⟩)), (fun _ => .int .i64 x.m), (fun _ => .slice (some ⟨vb, vo, none⟩) L vc), (fun _ => .int .i64 (i : Int)), (fun _ => .pointer (some ⟨vb, vo + i * 4, none⟩)), (fun _ => .pointer (some ⟨vb, vo + i * 4, none⟩)), (fun _ => .int .i64 x.kd), (fun _ => .bool ub), (fun _ => .slice (some ⟨vb, vo, none⟩) L vc), (fun _ => .int .i64 (i : Int)), (fun _ => .pointer (some ⟨vb, vo + i * 4, none⟩)), (fun _ => .pointer (some ⟨vb, vo + i * 4 + 3, none⟩)), (fun _ => .slice ad m cd), (fun _ => .slice (some ⟨vb, vo, none⟩) L vc), (fun _ => .int .i64 (i : Int)), (fun _ => .pointer (some ⟨vb, vo + i * 4, none⟩)), (fun _ => .pointer (some ⟨vb, vo + i * 4 + 1, none⟩)), (fun _ => .int .i64 x.n), (fun r => r), (fun r => .agg #[(.int .i64 x.n), (.int .i64 x.m), (.bool ub), (.slice ad m cd), (.int .u64 (tn : Int))]), (fun _ => undef), (fun _ => undef)] (fun _ _ => #[(.int .i64 x.n), (.int .i64 x.m), (.bool ub), (.slice ad m cd), (.int .u64 (tn : Int))]) (knR (.int .u64 (tn : Int)))) (by kernel_rfl) ?H ?HV 26 rfl ?HC ?HE
        case H =>
          refine { back := by kernel_rfl, dst := uniqB_spec (by kernel_rfl), szd := underB_spec (by kernel_rfl), val := valB_spec3 (f := mkV [(28, 25, #[(.int .i64 0), (.int .i64 0), (.bool false), (.slice none 0 0), (.int .u64 0)])] [(29, 28, 27)]) (by kernel_rfl), alo := ?_, sto := ?_, stc := ?_, all := allB3_spec (f := mkV [(28, 25, #[(.int .i64 0), (.int .i64 0), (.bool false), (.slice none 0 0), (.int .u64 0)])] [(29, 28, 27)]) (g := mkA [(28, 25, #[(.int .i64 0), (.int .i64 0), (.bool false), (.slice none 0 0), (.int .u64 0)])]) (h := mkS [(29, 28, 27)]) (by kernel_rfl), nva := ?_, nvs := ?_, one := ?_, civ := rfl, nd := ?_, cd := rfl, dd := ?_, sem := kfSem _ _ _ _ _ _ _ _ _ _ _ _ _ _ rfl }
          · intro j o h0 ha
            have h1 : 28 = j := by simpa [mkMC] using ha
            subst h1
            all_goals
              have h2 := h0
              simp only [List.getElem?_cons_succ, List.getElem?_cons_zero, Option.some.injEq] at h2
              subst h2
              exact ⟨⟨_, rfl⟩, rfl, rfl⟩
          · intro s o h0 ha
            have h1 : 29 = s := by simpa [mkMC] using ha
            subst h1
            all_goals
              have h2 := h0
              simp only [List.getElem?_cons_succ, List.getElem?_cons_zero, Option.some.injEq] at h2
              subst h2
              exact ⟨_, _, _, _, rfl, rfl, rfl, rfl, rfl, rfl, rfl, waitsB_spec (by kernel_rfl), waitsB_spec (by kernel_rfl)⟩
          · intro s ha
            have h1 : 29 = s := by simpa [mkMC] using ha
            subst h1
            all_goals exact ⟨rfl, rfl, rfl, rfl⟩
          · intro s ha
            have h1 : 28 = s := by simpa [mkMC] using ha
            subst h1
            all_goals exact ⟨rfl, rfl, rfl⟩
          · intro s ha
            have h1 : 29 = s := by simpa [mkMC] using ha
            subst h1
            all_goals exact ⟨rfl, rfl⟩
          · intro s t ha hb hst
            have h1 : 29 = s := by simpa [mkMC] using ha
            subst h1
            all_goals (have h2 : 29 = t := by simpa [mkMC] using hb)
            exact h2
          · intro i r r' hv hD
            match i, hD with
            | 0, _ => rfl
            | 1, _ => rfl
            | 2, _ => rfl
            | 3, _ => rfl
            | 4, _ => rfl
            | 5, _ => rfl
            | 6, _ => rfl
            | 7, _ => rfl
            | 8, _ => rfl
            | 9, _ => rfl
            | 10, _ => rfl
            | 11, _ => rfl
            | 12, _ => rfl
            | 13, _ => rfl
            | 14, _ => rfl
            | 15, _ => rfl
            | 16, _ => rfl
            | 17, _ => rfl
            | 18, _ => rfl
            | 19, _ => rfl
            | 20, _ => rfl
            | 21, _ => rfl
            | 22, _ => rfl
            | 23, _ => rfl
            | 24, _ => rfl
            | 25, _ => rfl
            | 26, h => exact absurd h (by simp [mkMC])
            | 27, h => exact absurd h (by simp [mkMC])
            | 28, _ => rfl
            | 29, h => exact absurd h (by simp [mkMC])
            | n + 30, _ => rfl
          · intro i o h0 hD hne
            match i, h0, hD, hne with
            | 0, _, hD, _ => exact absurd hD (by simp [mkMC])
            | 1, _, hD, _ => exact absurd hD (by simp [mkMC])
            | 2, _, hD, _ => exact absurd hD (by simp [mkMC])
            | 3, _, hD, _ => exact absurd hD (by simp [mkMC])
            | 4, _, hD, _ => exact absurd hD (by simp [mkMC])
            | 5, _, hD, _ => exact absurd hD (by simp [mkMC])
            | 6, _, hD, _ => exact absurd hD (by simp [mkMC])
            | 7, _, hD, _ => exact absurd hD (by simp [mkMC])
            | 8, _, hD, _ => exact absurd hD (by simp [mkMC])
            | 9, _, hD, _ => exact absurd hD (by simp [mkMC])
            | 10, _, hD, _ => exact absurd hD (by simp [mkMC])
            | 11, _, hD, _ => exact absurd hD (by simp [mkMC])
            | 12, _, hD, _ => exact absurd hD (by simp [mkMC])
            | 13, _, hD, _ => exact absurd hD (by simp [mkMC])
            | 14, _, hD, _ => exact absurd hD (by simp [mkMC])
            | 15, _, hD, _ => exact absurd hD (by simp [mkMC])
            | 16, _, hD, _ => exact absurd hD (by simp [mkMC])
            | 17, _, hD, _ => exact absurd hD (by simp [mkMC])
            | 18, _, hD, _ => exact absurd hD (by simp [mkMC])
            | 19, _, hD, _ => exact absurd hD (by simp [mkMC])
            | 20, _, hD, _ => exact absurd hD (by simp [mkMC])
            | 21, _, hD, _ => exact absurd hD (by simp [mkMC])
            | 22, _, hD, _ => exact absurd hD (by simp [mkMC])
            | 23, _, hD, _ => exact absurd hD (by simp [mkMC])
            | 24, _, hD, _ => exact absurd hD (by simp [mkMC])
            | 25, _, hD, _ => exact absurd hD (by simp [mkMC])
            | 26, _, _, hne => exact absurd rfl hne
            | 27, h0, _, _ =>
              simp only [List.getElem?_cons_succ, List.getElem?_cons_zero, Option.some.injEq] at h0
              subst h0
              exact ⟨26, waitsB_spec (by kernel_rfl), rfl⟩
            | 28, _, hD, _ => exact absurd hD (by simp [mkMC])
            | 29, h0, _, _ =>
              simp only [List.getElem?_cons_succ, List.getElem?_cons_zero, Option.some.injEq] at h0
              subst h0
              exact ⟨27, waitsB_spec (by kernel_rfl), rfl⟩
            | n + 30, h0, _, _ => simp at h0
        case HV =>
          intro iq o hv hne hi aq w' r hk hd hR
          match iq, hv, hne, hi, hR with
          | 0, _, _, hi, hR =>
            have hi1 := hi
            simp only [List.getElem?_cons_succ, List.getElem?_cons_zero, Option.some.injEq] at hi1
            subst hi1
            have e0 : aq.eval (.tmp 1) = .slice (some ⟨vb, vo, none⟩) L vc := (hd.out (by kernel_rfl)).trans rfl
            exact wpOp_ranL hi rfl (v := .slice (some ⟨vb, vo, none⟩) L vc) (w' := w') (by simp only [execOp, e0]; rfl) ⟨rfl, Keeps.refl _ _⟩
          | 1, _, _, hi, hR =>
            have hi1 := hi
            simp only [List.getElem?_cons_succ, List.getElem?_cons_zero, Option.some.injEq] at hi1
            subst hi1
            have e0 : aq.eval (.tmp 9) = .int .i64 (i : Int) := (hd.out (by kernel_rfl)).trans rfl
            exact wpOp_ranL hi rfl (v := .int .i64 (i : Int)) (w' := w') (by simp only [execOp, e0]; rfl) ⟨rfl, Keeps.refl _ _⟩
          | 2, _, _, hi, hR =>
            have hi1 := hi
            simp only [List.getElem?_cons_succ, List.getElem?_cons_zero, Option.some.injEq] at hi1
            subst hi1
            have e0 : aq.eval (.tmp 34) = .slice (some ⟨vb, vo, none⟩) L vc := hd.val (j := 0) (by kernel_rfl) rfl rfl rfl
            have e1 : aq.eval (.tmp 35) = .int .i64 (i : Int) := hd.val (j := 1) (by kernel_rfl) rfl rfl rfl
            exact wpOp_ranL hi rfl (v := .pointer (some ⟨vb, vo + i * 4, none⟩)) (w' := w') (by simp only [execOp, e0, e1]; go_simp) ⟨rfl, Keeps.refl _ _⟩
          | 3, _, _, hi, hR =>
            have hi1 := hi
            simp only [List.getElem?_cons_succ, List.getElem?_cons_zero, Option.some.injEq] at hi1
            subst hi1
            have e0 : aq.eval (.tmp 36) = .pointer (some ⟨vb, vo + i * 4, none⟩) := hd.val (j := 2) (by kernel_rfl) rfl rfl rfl
            exact wpOp_ranL hi rfl (v := .pointer (some ⟨vb, vo + i * 4 + 1, none⟩)) (w' := w') (by simp only [execOp, e0]; go_simp) ⟨rfl, Keeps.refl _ _⟩
          | 4, _, _, hi, hR =>
            have hi1 := hi
            simp only [List.getElem?_cons_succ, List.getElem?_cons_zero, Option.some.injEq] at hi1
            subst hi1
            have e0 : aq.eval (.tmp 37) = .pointer (some ⟨vb, vo + i * 4 + 1, none⟩) := hd.val (j := 3) (by kernel_rfl) rfl rfl rfl
            have c0 := keep_cell (HK.out.trans hk) (fun h => h) HC1.out
            exact wpOp_ranL hi rfl (v := .int .i64 x.n) (w' := w') (by simp only [execOp, e0]; go_simp) ⟨rfl, Keeps.refl _ _⟩
          | 5, _, _, hi, hR =>
            have hi1 := hi
            simp only [List.getElem?_cons_succ, List.getElem?_cons_zero, Option.some.injEq] at hi1
            subst hi1
            have e0 : aq.eval (.tmp 1) = .slice (some ⟨vb, vo, none⟩) L vc := (hd.out (by kernel_rfl)).trans rfl
            exact wpOp_ranL hi rfl (v := .slice (some ⟨vb, vo, none⟩) L vc) (w' := w') (by simp only [execOp, e0]; rfl) ⟨rfl, Keeps.refl _ _⟩
          | 6, _, _, hi, hR =>
            have hi1 := hi
            simp only [List.getElem?_cons_succ, List.getElem?_cons_zero, Option.some.injEq] at hi1
            subst hi1
            have e0 : aq.eval (.tmp 9) = .int .i64 (i : Int) := (hd.out (by kernel_rfl)).trans rfl
            exact wpOp_ranL hi rfl (v := .int .i64 (i : Int)) (w' := w') (by simp only [execOp, e0]; rfl) ⟨rfl, Keeps.refl _ _⟩
          | 7, _, _, hi, hR =>
            have hi1 := hi
            simp only [List.getElem?_cons_succ, List.getElem?_cons_zero, Option.some.injEq] at hi1
            subst hi1
            have e0 : aq.eval (.tmp 39) = .slice (some ⟨vb, vo, none⟩) L vc := hd.val (j := 5) (by kernel_rfl) rfl rfl rfl
            have e1 : aq.eval (.tmp 40) = .int .i64 (i : Int) := hd.val (j := 6) (by kernel_rfl) rfl rfl rfl
            exact wpOp_ranL hi rfl (v := .pointer (some ⟨vb, vo + i * 4, none⟩)) (w' := w') (by simp only [execOp, e0, e1]; go_simp) ⟨rfl, Keeps.refl _ _⟩
          | 8, _, _, hi, hR =>
            have hi1 := hi
            simp only [List.getElem?_cons_succ, List.getElem?_cons_zero, Option.some.injEq] at hi1
            subst hi1
            have e0 : aq.eval (.tmp 41) = .pointer (some ⟨vb, vo + i * 4, none⟩) := hd.val (j := 7) (by kernel_rfl) rfl rfl rfl
            exact wpOp_ranL hi rfl (v := .pointer (some ⟨vb, vo + i * 4 + 2, none⟩)) (w' := w') (by simp only [execOp, e0]; go_simp) ⟨rfl, Keeps.refl _ _⟩
          | 9, _, _, hi, hR =>
            have hi1 := hi
            simp only [List.getElem?_cons_succ, List.getElem?_cons_zero, Option.some.injEq] at hi1
            subst hi1
            have e0 : aq.eval (.tmp 42) = .pointer (some ⟨vb, vo + i * 4 + 2, none⟩) := hd.val (j := 8) (by kernel_rfl) rfl rfl rfl
            have c0 := keep_cell (HK.out.trans hk) (fun h => h) HC2.out
            exact wpOp_ranL hi rfl (v := .int .i64 x.m) (w' := w') (by simp only [execOp, e0]; go_simp) ⟨rfl, Keeps.refl _ _⟩
          | 10, _, _, hi, hR =>
            have hi1 := hi
            simp only [List.getElem?_cons_succ, List.getElem?_cons_zero, Option.some.injEq] at hi1
            subst hi1
            have e0 : aq.eval (.tmp 1) = .slice (some ⟨vb, vo, none⟩) L vc := (hd.out (by kernel_rfl)).trans rfl
            exact wpOp_ranL hi rfl (v := .slice (some ⟨vb, vo, none⟩) L vc) (w' := w') (by simp only [execOp, e0]; rfl) ⟨rfl, Keeps.refl _ _⟩
          | 11, _, _, hi, hR =>
            have hi1 := hi
            simp only [List.getElem?_cons_succ, List.getElem?_cons_zero, Option.some.injEq] at hi1
            subst hi1
            have e0 : aq.eval (.tmp 9) = .int .i64 (i : Int) := (hd.out (by kernel_rfl)).trans rfl
            exact wpOp_ranL hi rfl (v := .int .i64 (i : Int)) (w' := w') (by simp only [execOp, e0]; rfl) ⟨rfl, Keeps.refl _ _⟩
          | 12, _, _, hi, hR =>
            have hi1 := hi
            simp only [List.getElem?_cons_succ, List.getElem?_cons_zero, Option.some.injEq] at hi1
            subst hi1
            have e0 : aq.eval (.tmp 44) = .slice (some ⟨vb, vo, none⟩) L vc := hd.val (j := 10) (by kernel_rfl) rfl rfl rfl
            have e1 : aq.eval (.tmp 45) = .int .i64 (i : Int) := hd.val (j := 11) (by kernel_rfl) rfl rfl rfl
            exact wpOp_ranL hi rfl (v := .pointer (some ⟨vb, vo + i * 4, none⟩)) (w' := w') (by simp only [execOp, e0, e1]; go_simp) ⟨rfl, Keeps.refl _ _⟩
          | 13, _, _, hi, hR =>
            have hi1 := hi
            simp only [List.getElem?_cons_succ, List.getElem?_cons_zero, Option.some.injEq] at hi1
            subst hi1
            have e0 : aq.eval (.tmp 46) = .pointer (some ⟨vb, vo + i * 4, none⟩) := hd.val (j := 12) (by kernel_rfl) rfl rfl rfl
            exact wpOp_ranL hi rfl (v := .pointer (some ⟨vb, vo + i * 4, none⟩)) (w' := w') (by simp only [execOp, e0]; go_simp) ⟨rfl, Keeps.refl _ _⟩
          | 14, _, _, hi, hR =>
            have hi1 := hi
            simp only [List.getElem?_cons_succ, List.getElem?_cons_zero, Option.some.injEq] at hi1
            subst hi1
            have e0 : aq.eval (.tmp 47) = .pointer (some ⟨vb, vo + i * 4, none⟩) := hd.val (j := 13) (by kernel_rfl) rfl rfl rfl
            have c0 := keep_cell (HK.out.trans hk) (fun h => h) HC0.out
            exact wpOp_ranL hi rfl (v := .int .i64 x.kd) (w' := w') (by simp only [execOp, e0]; go_simp) ⟨rfl, Keeps.refl _ _⟩
          | 15, _, _, hi, hR =>
            have hi1 := hi
            simp only [List.getElem?_cons_succ, List.getElem?_cons_zero, Option.some.injEq] at hi1
            subst hi1
            have e0 : aq.eval (.tmp 48) = .int .i64 x.kd := hd.val (j := 14) (by kernel_rfl) rfl rfl rfl
            exact wpOp_ranL hi rfl (v := .bool ub) (w' := w') (by simp only [execOp, e0]; go_simp) ⟨rfl, Keeps.refl _ _⟩
          | 16, _, _, hi, hR =>
            have hi1 := hi
            simp only [List.getElem?_cons_succ, List.getElem?_cons_zero, Option.some.injEq] at hi1
            subst hi1
            have e0 : aq.eval (.tmp 1) = .slice (some ⟨vb, vo, none⟩) L vc := (hd.out (by kernel_rfl)).trans rfl
            exact wpOp_ranL hi rfl (v := .slice (some ⟨vb, vo, none⟩) L vc) (w' := w') (by simp only [execOp, e0]; rfl) ⟨rfl, Keeps.refl _ _⟩
          | 17, _, _, hi, hR =>
            have hi1 := hi
            simp only [List.getElem?_cons_succ, List.getElem?_cons_zero, Option.some.injEq] at hi1
            subst hi1
            have e0 : aq.eval (.tmp 9) = .int .i64 (i : Int) := (hd.out (by kernel_rfl)).trans rfl
            exact wpOp_ranL hi rfl (v := .int .i64 (i : Int)) (w' := w') (by simp only [execOp, e0]; rfl) ⟨rfl, Keeps.refl _ _⟩
          | 18, _, _, hi, hR =>
            have hi1 := hi
            simp only [List.getElem?_cons_succ, List.getElem?_cons_zero, Option.some.injEq] at hi1
            subst hi1
            have e0 : aq.eval (.tmp 50) = .slice (some ⟨vb, vo, none⟩) L vc := hd.val (j := 16) (by kernel_rfl) rfl rfl rfl
            have e1 : aq.eval (.tmp 51) = .int .i64 (i : Int) := hd.val (j := 17) (by kernel_rfl) rfl rfl rfl
            exact wpOp_ranL hi rfl (v := .pointer (some ⟨vb, vo + i * 4, none⟩)) (w' := w') (by simp only [execOp, e0, e1]; go_simp) ⟨rfl, Keeps.refl _ _⟩
          | 19, _, _, hi, hR =>
            have hi1 := hi
            simp only [List.getElem?_cons_succ, List.getElem?_cons_zero, Option.some.injEq] at hi1
            subst hi1
            have e0 : aq.eval (.tmp 52) = .pointer (some ⟨vb, vo + i * 4, none⟩) := hd.val (j := 18) (by kernel_rfl) rfl rfl rfl
            exact wpOp_ranL hi rfl (v := .pointer (some ⟨vb, vo + i * 4 + 3, none⟩)) (w' := w') (by simp only [execOp, e0]; go_simp) ⟨rfl, Keeps.refl _ _⟩
          | 20, _, _, hi, hR =>
            have hi1 := hi
            simp only [List.getElem?_cons_succ, List.getElem?_cons_zero, Option.some.injEq] at hi1
            subst hi1
            have e0 : aq.eval (.tmp 53) = .pointer (some ⟨vb, vo + i * 4 + 3, none⟩) := hd.val (j := 19) (by kernel_rfl) rfl rfl rfl
            have c0 := keep_cell (HK.out.trans hk) (fun h => h) HC3.out
            exact wpOp_ranL hi rfl (v := .slice ad m cd) (w' := w') (by simp only [execOp, e0]; go_simp) ⟨rfl, Keeps.refl _ _⟩
          | 21, _, _, hi, hR =>
            have hi1 := hi
            simp only [List.getElem?_cons_succ, List.getElem?_cons_zero, Option.some.injEq] at hi1
            subst hi1
            have e0 : aq.eval (.tmp 1) = .slice (some ⟨vb, vo, none⟩) L vc := (hd.out (by kernel_rfl)).trans rfl
            exact wpOp_ranL hi rfl (v := .slice (some ⟨vb, vo, none⟩) L vc) (w' := w') (by simp only [execOp, e0]; rfl) ⟨rfl, Keeps.refl _ _⟩
          | 22, _, _, hi, hR =>
            have hi1 := hi
            simp only [List.getElem?_cons_succ, List.getElem?_cons_zero, Option.some.injEq] at hi1
            subst hi1
            have e0 : aq.eval (.tmp 9) = .int .i64 (i : Int) := (hd.out (by kernel_rfl)).trans rfl
            exact wpOp_ranL hi rfl (v := .int .i64 (i : Int)) (w' := w') (by simp only [execOp, e0]; rfl) ⟨rfl, Keeps.refl _ _⟩
          | 23, _, _, hi, hR =>
            have hi1 := hi
            simp only [List.getElem?_cons_succ, List.getElem?_cons_zero, Option.some.injEq] at hi1
            subst hi1
            have e0 : aq.eval (.tmp 55) = .slice (some ⟨vb, vo, none⟩) L vc := hd.val (j := 21) (by kernel_rfl) rfl rfl rfl
            have e1 : aq.eval (.tmp 56) = .int .i64 (i : Int) := hd.val (j := 22) (by kernel_rfl) rfl rfl rfl
            exact wpOp_ranL hi rfl (v := .pointer (some ⟨vb, vo + i * 4, none⟩)) (w' := w') (by simp only [execOp, e0, e1]; go_simp) ⟨rfl, Keeps.refl _ _⟩
          | 24, _, _, hi, hR =>
            have hi1 := hi
            simp only [List.getElem?_cons_succ, List.getElem?_cons_zero, Option.some.injEq] at hi1
            subst hi1
            have e0 : aq.eval (.tmp 57) = .pointer (some ⟨vb, vo + i * 4, none⟩) := hd.val (j := 23) (by kernel_rfl) rfl rfl rfl
            exact wpOp_ranL hi rfl (v := .pointer (some ⟨vb, vo + i * 4 + 1, none⟩)) (w' := w') (by simp only [execOp, e0]; go_simp) ⟨rfl, Keeps.refl _ _⟩
          | 25, _, _, hi, hR =>
            have hi1 := hi
            simp only [List.getElem?_cons_succ, List.getElem?_cons_zero, Option.some.injEq] at hi1
            subst hi1
            have e0 : aq.eval (.tmp 58) = .pointer (some ⟨vb, vo + i * 4 + 1, none⟩) := hd.val (j := 24) (by kernel_rfl) rfl rfl rfl
            have c0 := keep_cell (HK.out.trans hk) (fun h => h) HC1.out
            exact wpOp_ranL hi rfl (v := .int .i64 x.n) (w' := w') (by simp only [execOp, e0]; go_simp) ⟨rfl, Keeps.refl _ _⟩
          | 26, _, hne, _, _ => exact absurd rfl hne
          | 27, _, _, hi, hR =>
            have hi1 := hi
            simp only [List.getElem?_cons_succ, List.getElem?_cons_zero, Option.some.injEq] at hi1
            subst hi1
            obtain ⟨K, rfl⟩ := hR rfl
            have e0 : aq.eval (.tmp 38) = .int .i64 x.n := hd.val (j := 4) (by kernel_rfl) rfl rfl rfl
            have e1 : aq.eval (.tmp 43) = .int .i64 x.m := hd.val (j := 9) (by kernel_rfl) rfl rfl rfl
            have e2 : aq.eval (.tmp 49) = .bool ub := hd.val (j := 15) (by kernel_rfl) rfl rfl rfl
            have e3 : aq.eval (.tmp 54) = .slice ad m cd := hd.val (j := 20) (by kernel_rfl) rfl rfl rfl
            have e4 : aq.eval (.tmp 60) = .int .u64 (tn : Int) := hd.val (j := 26) (by kernel_rfl) rfl rfl rfl
            exact wpOp_ranL hi rfl (v := .agg #[(.int .i64 x.n), (.int .i64 x.m), (.bool ub), (.slice ad m cd), (.int .u64 (tn : Int))]) (w' := w') (by simp only [execOp, List.map_toArray, List.map_cons, List.map_nil, e0, e1, e2, e3, e4]; go_simp) ⟨rfl, Keeps.refl _ _⟩
          | 28, hv, _, _, _ => cases hv
          | 29, hv, _, _, _ => cases hv
          | n + 30, _, _, hi, _ => simp at hi
        case HC =>
          intro o hi aq w' r hk hd
          have hi1 := hi
          simp only [List.getElem?_cons_succ, List.getElem?_cons_zero, Option.some.injEq] at hi1
          subst hi1
          have e0 : aq.eval (.tmp 59) = .int .i64 x.n := hd.val (j := 25) (by kernel_rfl) rfl rfl rfl
          exact wpOp_ranL hi rfl (v := .int .u64 (tn : Int)) (w' := w') (by simp only [execOp, e0]; go_simp) ⟨_, rfl, Keeps.refl _ _, rfl⟩
        case HE =>
          intro L aq w' gg r hL hT
          have em := act_mix (bs := [true, true, true, true, true, true, true, true, true, true, false, true, true, true, true, true, true, true, true, true, true, true, true, true, true, true, true, true, true, true, true, true, true, true, false, false, false, false, false, false, false, false, false, false, false, false, false, false, false, false, false, false, false, false, false, false, false, false, false, false, false, false, true, true, true, true, true, true, true, true, true, true, true, true, true, true, true, true, true, true, true, true, true, true, true, true, true, true, true, true, true, true, true, true, true, true, true, true, true, true, true, true, true, true, true, true, true, true, true, true, true, true, true, true, true, true, true, true, true, true, true, true, true, true, true, true, true, true, true, true, true, true, true, true, true, true, true, true, true, true]) hT.sz hT.df hT.fr rfl (by kernel_rfl)
          have hR := hT.c (hL 26 (by decide))
          obtain rfl := hR
          have kW := hT.kp
          obtain ⟨eA28, zA28, cs28, -, bA28, sA28⟩ := hT.al 28 rfl (hL 28 (by decide)) _ 10 rfl rfl
          have sA28 := sA28 29 rfl (hL 29 (by decide)) rfl
          subst sA28
          change aq.tmps.getD 10 undef = _ at eA28
          generalize gg 28 = g28 at *
          clear hT hL
          simp only [mix, eA28] at em
          clear eA28
          generalize aq.tmps.getD 34 undef = q34 at em
          generalize aq.tmps.getD 35 undef = q35 at em
          generalize aq.tmps.getD 36 undef = q36 at em
          generalize aq.tmps.getD 37 undef = q37 at em
          generalize aq.tmps.getD 38 undef = q38 at em
          generalize aq.tmps.getD 39 undef = q39 at em
          generalize aq.tmps.getD 40 undef = q40 at em
          generalize aq.tmps.getD 41 undef = q41 at em
          generalize aq.tmps.getD 42 undef = q42 at em
          generalize aq.tmps.getD 43 undef = q43 at em
          generalize aq.tmps.getD 44 undef = q44 at em
          generalize aq.tmps.getD 45 undef = q45 at em
          generalize aq.tmps.getD 46 undef = q46 at em
          generalize aq.tmps.getD 47 undef = q47 at em
          generalize aq.tmps.getD 48 undef = q48 at em
          generalize aq.tmps.getD 49 undef = q49 at em
          generalize aq.tmps.getD 50 undef = q50 at em
          generalize aq.tmps.getD 51 undef = q51 at em
          generalize aq.tmps.getD 52 undef = q52 at em
          generalize aq.tmps.getD 53 undef = q53 at em
          generalize aq.tmps.getD 54 undef = q54 at em
          generalize aq.tmps.getD 55 undef = q55 at em
          generalize aq.tmps.getD 56 undef = q56 at em
          generalize aq.tmps.getD 57 undef = q57 at em
          generalize aq.tmps.getD 58 undef = q58 at em
          generalize aq.tmps.getD 59 undef = q59 at em
          generalize aq.tmps.getD 60 undef = q60 at em
          generalize aq.tmps.getD 61 undef = q61 at em
          subst em
          simp only [Exit.then]
          go_wp2_with fail
          go_meet
          exact ⟨g28, rfl, zA28, hid bA28, hid kW⟩
      case rest =>
      obtain ⟨b_F, rfl, hb_F, B_F, hk⟩ := hcut
      replace hk := hk.out
      generalize wc = W21 at *
      have HBR' : Hd (Blk W21 b_R #[(.int .i64 nx), (.slice a5 fn c5), (.bool lk), (.int .u64 (rk : Int)), (.int .i64 ri)] 35) := hid (blk_keep HBR.out hk (fun h => h))
      have HBQ' : Hd (Blk W21 b_Q #[(.int .i64 nx), (.slice a6 fn c6), (.bool lk), (.int .u64 (rk : Int)), (.int .i64 ri)] 35) := hid (blk_keep HBQ.out hk (fun h => h))
      have HBL' : Hd (Blk W21 b_L #[(.int .u64 (k2 : Int)), (.int .i64 i2)] 33) := hid (blk_keep HBL.out hk (fun h => h))
      have HFS' : Hd (Frs (ROV w W3 V (.slice a7 pn c7)) W21 (.slice a5 fn c5) fs) := hid (HFS.out.keep hk (fun _ _ _ h => h))
      have HGS' : Hd (Frs (ROV w W3 V (.slice a7 pn c7)) W21 (.slice a6 fn c6) fs) := hid (HGS.out.keep hk (fun _ _ _ h => h))
      have HPA' : Hd (FrP (fun b => b < w.heap.size) W3.heap.size W21 (.slice a7 pn c7) past) := hid (HPA.out.keep hk (fun _ _ _ h => h))
      clear HBR HBQ HBL HFS HGS HPA
      have HBR := HBR'
      clear HBR'
      have HBQ := HBQ'
      clear HBQ'
      have HBL := HBL'
      clear HBL'
      have HFS := HFS'
      clear HFS'
      have HGS := HGS'
      clear HGS'
      have HPA := HPA'
      clear HPA'
      have HK' : Hd (Keeps (fun _ => False) w W21) := hid (HK.out.trans hk)
      clear HK
      have HK := HK'
      clear HK'
      have z_W21 := hk.size
      clear hk
      have ltF := blk_lt B_F.out
      have neFP : (Value.slice a7 pn c7).ownBlock ≠ some b_F := fun e => by have := (hgeP b_F e).2; omega
      have HF0 : Hd ((⟨x.n, x.m, ub, x.b, tn⟩ : Fr).ok) := hid (fr0_ok HXO.out HXB.out htl)
      clear hwt hub
      have ca : W21.cell? ⟨vb, vo + i * 4, none⟩ = some (.int .i64 x.kd) := keep_cell HK.out (fun h => h) HC0.out
      go_wp2_with fail
      refine (Around_any x.kd 8 _ HXO.out.kd.1 HXO.out.kd.2 (by decide) (by decide)).mono ?_
      rw [HKK.out]
      rintro e wx ⟨rfl, rfl⟩
      clear ca
      have hki : i2 ≤ 1000000 := by have := HKS.out.2; omega
      obtain ⟨F2, hF2⟩ : ∃ F, sgnF ⟨k2, i2⟩ x = F := ⟨_, rfl⟩
      obtain ⟨L2, hL2⟩ : ∃ F, sgnL ⟨k2, i2⟩ x = F := ⟨_, rfl⟩
      have HFO2 : Hd F2.ok := hid (by rw [← hF2]; exact sgnF_ok HKS.out.1 hki HXO.out HXB.out)
      have HLO2 : Hd (L2.ok ∧ L2.i ≤ 3 * ((i + 1 : Nat) : Int)) := hid (by rw [← hL2]; have h := sgnL_ok (x := x) HKS.out.1 hki; have h4 : i2 ≤ 3 * (i : Int) := HKS.out.2; have h3 : (sgnL ⟨k2, i2⟩ x).i ≤ i2 + 3 := h.2; exact ⟨h.1, by push_cast; omega⟩)
      have HFB2 : Hd (F2.b = x.b) := hid (by rw [← hF2]; rfl)
      have HFM2 : Hd (F2.b.length = m) := hid (by rw [HFB2.out]; exact HM.out)
      have HCS : Hd (∀ X, Keeps (fun _ => False) W21 X → Calls Tryd.prog 23 #[.agg #[.int .u64 (k2 : Int), .int .i64 i2], .agg #[.int .i64 x.kd, .int .i64 x.n, .int .i64 x.m, .slice ad m cd]] X fun e w' => e = .returned (.tuple #[.agg #[.int .i64 F2.q, .int .i64 F2.k, .bool F2.u, .slice ad m cd, .int .u64 (F2.t : Int)], .agg #[.int .u64 (L2.k : Int), .int .i64 L2.i]]) ∧ Keeps (fun _ => False) X w') := hid (fun X hx => by have h := signed_any ⟨k2, i2⟩ x _ ad cd X HKS.out.1 hki HXO.out HXB.out (by rw [HM.out]; exact HSX.out.keep (HK.out.trans hx) (fun _ _ _ h => h)); rw [hF2, hL2, HM.out] at h; exact h.mono (fun e w' h => by unfold SgnR at h; rw [HFM2.out] at h; exact h))
      clear hF2 hL2 hki
      obtain ⟨sb, hsb⟩ : ∃ b, decide (kk < 6) = b := ⟨_, rfl⟩
      go_upto_if 69 with (fail)
      clear hsb
      go_cut [] from 70 to 78 (fun wx => ∃ (F : Fr) (ks : Ld) (fa : Option Addr) (fcp : Nat), Hd (Blk wx b_F #[.int .i64 F.q, .int .i64 F.k, .bool F.u, .slice fa F.b.length fcp, .int .u64 (F.t : Int)] 25) ∧ Hd (Blk wx b_L #[.int .u64 (ks.k : Int), .int .i64 ks.i] 33) ∧ Hd F.ok ∧ Hd (ks.ok ∧ ks.i ≤ 3 * ((i + 1 : Nat) : Int)) ∧ Hd (Sl (fun b => b < w.heap.size) wx (.slice fa F.b.length fcp) (u8s F.b)) ∧ Hd (Keeps (fun b => b = b_F ∨ b = b_L) W21 wx))
      case first =>
        cases sb
        · go_wp2_with fail
          go_meet
          refine ⟨⟨x.n, x.m, ub, x.b, tn⟩, ⟨k2, i2⟩, ad, cd, hid ?_, HBL, HF0, hid ⟨HKS.out.1, by have h4 : i2 ≤ 3 * (i : Int) := HKS.out.2; show i2 ≤ 3 * ((i + 1 : Nat) : Int); push_cast; omega⟩, hid ?_, hid (Keeps.refl _ _)⟩
          · show Blk _ b_F #[.int .i64 x.n, .int .i64 x.m, .bool ub, .slice ad x.b.length cd, .int .u64 (tn : Int)] _; rw [HM.out]; exact B_F.out
          · show Sl _ _ (.slice ad x.b.length cd) (u8s x.b); rw [HM.out]; exact HSX.out.keep HK.out (fun _ _ _ h => h)
        · go_upto_region 11 with fail
          have KC : Hd (Keeps (fun _ => False) W21 W21) := hid (Keeps.refl _ _)
          have HSS : Hd (∀ w', Keeps (fun b => b = b_F ∨ b = b_L) W21 w' → (w'.cell? ⟨vb, vo + i * 4, none⟩ = some (.int .i64 x.kd) ∧ w'.cell? ⟨vb, vo + i * 4 + 1, none⟩ = some (.int .i64 x.n) ∧ w'.cell? ⟨vb, vo + i * 4 + 2, none⟩ = some (.int .i64 x.m) ∧ w'.cell? ⟨vb, vo + i * 4 + 3, none⟩ = some (.slice ad m cd))) := hid (fun w' hk => ⟨keep_cell (HK.out.trans' hk (fun b h1 h2 => by omega)) (fun h => h) HC0.out, keep_cell (HK.out.trans' hk (fun b h1 h2 => by omega)) (fun h => h) HC1.out, keep_cell (HK.out.trans' hk (fun b h1 h2 => by omega)) (fun h => h) HC2.out, keep_cell (HK.out.trans' hk (fun b h1 h2 => by omega)) (fun h => h) HC3.out⟩)
          have o_HBL_0 : W21.cell? ⟨b_L, 0, none⟩ = some ((.int .u64 (k2 : Int))) := blk_cell HBL.out 0
          have o_HBL_1 : W21.cell? ⟨b_L, 1, none⟩ = some ((.int .i64 i2)) := blk_cell HBL.out 1
          have o_B_F_0 : W21.cell? ⟨b_F, 0, none⟩ = some ((.int .i64 x.n)) := blk_cell B_F.out 0
          have o_B_F_1 : W21.cell? ⟨b_F, 1, none⟩ = some ((.int .i64 x.m)) := blk_cell B_F.out 1
          have o_B_F_2 : W21.cell? ⟨b_F, 2, none⟩ = some ((.bool ub)) := blk_cell B_F.out 2
          have o_B_F_3 : W21.cell? ⟨b_F, 3, none⟩ = some ((.slice ad m cd)) := blk_cell B_F.out 3
          have o_B_F_4 : W21.cell? ⟨b_F, 4, none⟩ = some ((.int .u64 (tn : Int))) := blk_cell B_F.out 4
          have f_HBL_0 : W21.frozen? ⟨b_L, 0, none⟩ = false := blk_free HBL.out 0
          have f_HBL_1 : W21.frozen? ⟨b_L, 1, none⟩ = false := blk_free HBL.out 1
          have f_B_F_0 : W21.frozen? ⟨b_F, 0, none⟩ = false := blk_free B_F.out 0
          have f_B_F_1 : W21.frozen? ⟨b_F, 1, none⟩ = false := blk_free B_F.out 1
          have f_B_F_2 : W21.frozen? ⟨b_F, 2, none⟩ = false := blk_free B_F.out 2
          have f_B_F_3 : W21.frozen? ⟨b_F, 3, none⟩ = false := blk_free B_F.out 3
          have f_B_F_4 : W21.frozen? ⟨b_F, 4, none⟩ = false := blk_free B_F.out 4
          rw [lRa_eq]
          have hnFL : b_F ≠ b_L := by omega
          go_region_held (fun w' => w'.cell? ⟨vb, vo + i * 4, none⟩ = some (.int .i64 x.kd) ∧ w'.cell? ⟨vb, vo + i * 4 + 1, none⟩ = some (.int .i64 x.n) ∧ w'.cell? ⟨vb, vo + i * 4 + 2, none⟩ = some (.int .i64 x.m) ∧ w'.cell? ⟨vb, vo + i * 4 + 3, none⟩ = some (.slice ad m cd)) ((refine HSS.out _ ?_; (repeat (first | (with_reducible exact KC.out.mono (fun _ _ h => h.elim)) | (with_reducible exact Keeps.refl _ _) | (with_reducible apply Keeps.drewN) | (with_reducible apply Keeps.drew) | (with_reducible refine Keeps.setCell (S := fun b => b = b_F ∨ b = b_L) ?_ (.inl (.inl rfl)) _) | (with_reducible refine Keeps.setCell (S := fun b => b = b_F ∨ b = b_L) ?_ (.inl (.inr rfl)) _))); done))
            (first
            | (go_at_call 23; (refine (HCS.out _ (by repeat (first | (with_reducible exact KC.out) | (with_reducible exact Keeps.refl _ _) | (with_reducible apply Keeps.drewN) | (with_reducible apply Keeps.drew) | (with_reducible apply Keeps.alloc)))).mono ?_); rintro e wy0 ⟨rfl, hk⟩; have KC2 : Hd (Keeps (fun _ => False) W21 wy0) := hid (Keeps.trans (S := fun _ => False) (by repeat (first | (with_reducible exact KC.out) | (with_reducible exact Keeps.refl _ _) | (with_reducible apply Keeps.drewN) | (with_reducible apply Keeps.drew) | (with_reducible apply Keeps.alloc))) hk); replace KC := KC2; clear KC2; replace hk := hid hk; have c_HBL_0 := blk_cell (blk_keep HBL.out KC.out (fun h => h)) 0; have y_HBL_0 := blk_free (blk_keep HBL.out KC.out (fun h => h)) 0; have c_HBL_1 := blk_cell (blk_keep HBL.out KC.out (fun h => h)) 1; have y_HBL_1 := blk_free (blk_keep HBL.out KC.out (fun h => h)) 1; have c_B_F_0 := blk_cell (blk_keep B_F.out KC.out (fun h => h)) 0; have y_B_F_0 := blk_free (blk_keep B_F.out KC.out (fun h => h)) 0; have c_B_F_1 := blk_cell (blk_keep B_F.out KC.out (fun h => h)) 1; have y_B_F_1 := blk_free (blk_keep B_F.out KC.out (fun h => h)) 1; have c_B_F_2 := blk_cell (blk_keep B_F.out KC.out (fun h => h)) 2; have y_B_F_2 := blk_free (blk_keep B_F.out KC.out (fun h => h)) 2; have c_B_F_3 := blk_cell (blk_keep B_F.out KC.out (fun h => h)) 3; have y_B_F_3 := blk_free (blk_keep B_F.out KC.out (fun h => h)) 3; have c_B_F_4 := blk_cell (blk_keep B_F.out KC.out (fun h => h)) 4; have y_B_F_4 := blk_free (blk_keep B_F.out KC.out (fun h => h)) 4))
          all_goals
            go_wp2_with fail
            go_meet
            skip
            refine ⟨F2, L2, ad, cd, hid ?_, hid ?_, HFO2, HLO2, hid ?_, hid ?_⟩
            · rw [HFM2.out]; exact (by repeat (first | (with_reducible refine blkset5 (c0 := .int .i64 x.n) (c1 := .int .i64 x.m) (c2 := .bool ub) (c3 := .slice ad m cd) (c4 := .int .u64 (tn : Int)) ?_) | (with_reducible refine blk_other ?_ (by omega) _ _) | (with_reducible exact blk_keep B_F.out KC.out (fun h => h))))
            · exact (by repeat (first | (with_reducible refine blkset2 (c0 := .int .u64 (k2 : Int)) (c1 := .int .i64 i2) ?_) | (with_reducible refine blk_other ?_ (by omega) _ _) | (with_reducible exact blk_keep HBL.out KC.out (fun h => h))))
            · rw [HFM2.out, HFB2.out]; exact HSX.out.keep (HK.out.trans' (by repeat (first | (with_reducible exact KC.out.mono (fun _ _ h => h.elim)) | (with_reducible exact Keeps.refl _ _) | (with_reducible apply Keeps.drewN) | (with_reducible apply Keeps.drew) | (with_reducible refine Keeps.setCell (S := fun b => b = b_F ∨ b = b_L) ?_ (.inl (.inl rfl)) _) | (with_reducible refine Keeps.setCell (S := fun b => b = b_F ∨ b = b_L) ?_ (.inl (.inr rfl)) _)) : Keeps (fun b => b = b_F ∨ b = b_L) W21 _) (fun b h1 h2 => by omega)) (fun _ _ _ h => h)
            · repeat (first | (with_reducible exact KC.out.mono (fun _ _ h => h.elim)) | (with_reducible exact Keeps.refl _ _) | (with_reducible apply Keeps.drewN) | (with_reducible apply Keeps.drew) | (with_reducible refine Keeps.setCell (S := fun b => b = b_F ∨ b = b_L) ?_ (.inl (.inl rfl)) _) | (with_reducible refine Keeps.setCell (S := fun b => b = b_F ∨ b = b_L) ?_ (.inl (.inr rfl)) _))
      case rest =>
      obtain ⟨F1, ks1, fa1, fc1, N_F, N_L, HFO1, HKS1, HSF1, HK9⟩ := hcut
      obtain ⟨k3, i3⟩ := ks1
      obtain ⟨f1, hf1⟩ : ∃ n, F1.b.length = n := ⟨_, rfl⟩
      have HF1 := hid hf1
      rw [hf1] at N_F HSF1
      clear hf1
      generalize wc = W22 at *
      have HBR' : Hd (Blk W22 b_R #[(.int .i64 nx), (.slice a5 fn c5), (.bool lk), (.int .u64 (rk : Int)), (.int .i64 ri)] 35) := hid (blk_keep HBR.out HK9.out (fun h => by omega))
      have HBQ' : Hd (Blk W22 b_Q #[(.int .i64 nx), (.slice a6 fn c6), (.bool lk), (.int .u64 (rk : Int)), (.int .i64 ri)] 35) := hid (blk_keep HBQ.out HK9.out (fun h => by omega))
      have HFS' : Hd (Frs (ROV w W3 V (.slice a7 pn c7)) W22 (.slice a5 fn c5) fs) := hid (HFS.out.keep HK9.out (fun b _ h1 h2 => by have h3 := h1.2; rcases h1.1.1 with h | h <;> omega))
      have HGS' : Hd (Frs (ROV w W3 V (.slice a7 pn c7)) W22 (.slice a6 fn c6) fs) := hid (HGS.out.keep HK9.out (fun b _ h1 h2 => by have h3 := h1.2; rcases h1.1.1 with h | h <;> omega))
      have HPA' : Hd (FrP (fun b => b < w.heap.size) W3.heap.size W22 (.slice a7 pn c7) past) := hid (frp_out HPA.out HK9.out (fun b hb h2 => by have h3 := hgeP b hb; rcases h2 with h2 | h2; exact neFP (by rw [← h2]; exact hb); omega) (fun b hb h2 => by have h3 : b < w.heap.size := hb; rcases h2 with h2 | h2 <;> omega))
      clear HBR HBQ HFS HGS HPA
      have HBR := HBR'
      clear HBR'
      have HBQ := HBQ'
      clear HBQ'
      have HFS := HFS'
      clear HFS'
      have HGS := HGS'
      clear HGS'
      have HPA := HPA'
      clear HPA'
      have z9 := HK9.out.size
      have HK' : Hd (Keeps (fun _ => False) w W22) := hid (HK.out.trans' HK9.out (fun b hb h => by rcases h with h | h <;> omega))
      clear HK
      have HK := HK'
      clear HK' HK9 B_F HBL HKS HF0 HCS HFO2 HLO2 HFB2 HFM2
      have B_F := N_F
      clear N_F
      have HBL := N_L
      clear N_L
      have HKS := HKS1
      clear HKS1
      obtain ⟨sb2, hsb2⟩ : ∃ b, decide (kk = 6 ∧ 0 < pn) = b := ⟨_, rfl⟩
      have HSB := hid hsb2
      clear hsb2
      go_upto_region 12 with fail
      go_cut [85] from 79 to 85 (fun u85 wx => u85 = .bool sb2 ∧ W22 = wx)
      case first =>
        by_cases h6 : kk = 6
        · have e6 : (kk == 6) = true := by simp [h6]
          have h7 := hid h6
          clear h6
          by_cases hp : 0 < pn
          · have eb : sb2 = true := by rw [← HSB.out]; simp [h7.out, hp]
            subst eb
            have q7 : (0 : Int) < pn := by omega
            go_wp2_with fail
            go_meet
            first | exact ⟨rfl, rfl⟩ | (simp; done)
          · have eb : sb2 = false := by rw [← HSB.out]; simp; intro _; omega
            subst eb
            have q7 : ¬ ((0 : Int) < pn) := by omega
            go_wp2_with fail
            go_meet
            first | exact ⟨rfl, rfl⟩ | (simp; done)
        · have eb : sb2 = false := by rw [← HSB.out]; simp [h6]
          subst eb
          have e6 : (kk == 6) = false := by simp [h6]
          go_wp2_with fail
          go_meet
          first | exact ⟨rfl, rfl⟩ | (simp; done)
      case rest =>
      obtain ⟨rfl, rfl⟩ := hcut
      go_upto_if 85 with (fail)
      go_cut [] from 86 to 96 (fun wx => ∃ (F : Fr) (fa : Option Addr) (fcp : Nat), Hd (Blk wx b_F #[.int .i64 F.q, .int .i64 F.k, .bool F.u, .slice fa F.b.length fcp, .int .u64 (F.t : Int)] 25) ∧ Hd F.ok ∧ Hd (Sl (fun b => b < w.heap.size) wx (.slice fa F.b.length fcp) (u8s F.b)) ∧ Hd (Keeps (fun b => b = b_F) W22 wx))
      case first =>
        cases sb2
        · go_wp2_with fail
          go_meet
          refine ⟨F1, fa1, fc1, hid ?_, HFO1, hid ?_, hid (Keeps.refl _ _)⟩
          · rw [HF1.out]; exact B_F.out
          · rw [HF1.out]; exact HSF1.out
        · have hc6 := of_decide_eq_true HSB.out
          have hpn0 : 0 < pn := hc6.2
          clear hc6
          obtain ⟨bp, op, ea, hbp, hbp2, hcp⟩ := frp_cells HPA.out (by rw [HPN.out]; exact hpn0)
          subst ea
          have hab := around_b x.n (show (1 : Int) ≤ pn by omega)
          obtain ⟨jn, hjn⟩ : ∃ j : Nat, around x.n pn = (j : Int) := ⟨(around x.n pn).toNat, by omega⟩
          have HJN := hid hjn
          rw [hjn] at hab
          clear hjn
          have hj0 : (jn : Int) < pn := hab.2
          have hj1 : (0 : Int) ≤ jn := hab.1
          clear hab
          obtain ⟨P, hP⟩ : ∃ q, past[jn]? = some q := ⟨past[jn]'(by rw [HPN.out]; omega), List.getElem?_eq_getElem _⟩
          have HPP := hid (HPK.out P (List.mem_of_getElem? hP))
          obtain ⟨y0, y1, y2, y4, adq, cdq, y3, hsq⟩ := hcp jn P hP
          clear hcp hP
          have HSQ := hid hsq
          clear hsq
          obtain ⟨ql, hql⟩ : ∃ n, P.b.length = n := ⟨_, rfl⟩
          have HQL := hid hql
          rw [hql] at y3 HSQ
          clear hql
          have ca : W22.cell? ⟨vb, vo + i * 4 + 1, none⟩ = some (.int .i64 x.n) := keep_cell HK.out (fun h => h) HC1.out
          have o_B_F_0 : W22.cell? ⟨b_F, 0, none⟩ = some ((.int .i64 F1.q)) := blk_cell B_F.out 0
          have o_B_F_1 : W22.cell? ⟨b_F, 1, none⟩ = some ((.int .i64 F1.k)) := blk_cell B_F.out 1
          have o_B_F_2 : W22.cell? ⟨b_F, 2, none⟩ = some ((.bool F1.u)) := blk_cell B_F.out 2
          have o_B_F_3 : W22.cell? ⟨b_F, 3, none⟩ = some ((.slice fa1 f1 fc1)) := blk_cell B_F.out 3
          have o_B_F_4 : W22.cell? ⟨b_F, 4, none⟩ = some ((.int .u64 (F1.t : Int))) := blk_cell B_F.out 4
          have f_B_F_0 : W22.frozen? ⟨b_F, 0, none⟩ = false := blk_free B_F.out 0
          have f_B_F_1 : W22.frozen? ⟨b_F, 1, none⟩ = false := blk_free B_F.out 1
          have f_B_F_2 : W22.frozen? ⟨b_F, 2, none⟩ = false := blk_free B_F.out 2
          have f_B_F_3 : W22.frozen? ⟨b_F, 3, none⟩ = false := blk_free B_F.out 3
          have f_B_F_4 : W22.frozen? ⟨b_F, 4, none⟩ = false := blk_free B_F.out 4
          go_wp2_with fail
          refine (Around_any x.n pn _ HXO.out.n.1 HXO.out.n.2 (by omega) (by omega)).mono ?_
          rw [HJN.out]
          rintro e wx ⟨rfl, rfl⟩
          go_wp2_with fail
          go_meet
          refine ⟨P, adq, cdq, hid ?_, HPP, hid ?_, hid ?_⟩
          · rw [HQL.out]; exact blkset5 (c0 := (.int .i64 F1.q)) (c1 := (.int .i64 F1.k)) (c2 := (.bool F1.u)) (c3 := (.slice fa1 f1 fc1)) (c4 := (.int .u64 (F1.t : Int))) B_F.out
          · rw [HQL.out]; exact HSQ.out.keep (S := fun b => b = b_F) (by repeat (first | (with_reducible exact Keeps.refl _ _) | (refine Keeps.setCell (S := fun b => b = b_F) ?_ (.inl rfl) _))) (fun b _ h1 h2 => by have h3 : b < w.heap.size := h1; omega)
          · repeat (first | (with_reducible exact Keeps.refl _ _) | (refine Keeps.setCell (S := fun b => b = b_F) ?_ (.inl rfl) _))
      case rest =>
      obtain ⟨F, fa, fcp, N_F, HFO, HSF, HK9⟩ := hcut
      obtain ⟨fm, hfm⟩ : ∃ n, F.b.length = n := ⟨_, rfl⟩
      have HFM := hid hfm
      rw [hfm] at N_F HSF
      clear hfm
      generalize wc = W23 at *
      have HBR' : Hd (Blk W23 b_R #[(.int .i64 nx), (.slice a5 fn c5), (.bool lk), (.int .u64 (rk : Int)), (.int .i64 ri)] 35) := hid (blk_keep HBR.out HK9.out (fun h => by omega))
      have HBQ' : Hd (Blk W23 b_Q #[(.int .i64 nx), (.slice a6 fn c6), (.bool lk), (.int .u64 (rk : Int)), (.int .i64 ri)] 35) := hid (blk_keep HBQ.out HK9.out (fun h => by omega))
      have HBL' : Hd (Blk W23 b_L #[(.int .u64 (k3 : Int)), (.int .i64 i3)] 33) := hid (blk_keep HBL.out HK9.out (fun h => by omega))
      have HFS' : Hd (Frs (ROV w W3 V (.slice a7 pn c7)) W23 (.slice a5 fn c5) fs) := hid (HFS.out.keep HK9.out (fun b _ h1 h2 => by have h3 := h1.2; rcases h1.1.1 with h | h <;> omega))
      have HGS' : Hd (Frs (ROV w W3 V (.slice a7 pn c7)) W23 (.slice a6 fn c6) fs) := hid (HGS.out.keep HK9.out (fun b _ h1 h2 => by have h3 := h1.2; rcases h1.1.1 with h | h <;> omega))
      have HPA' : Hd (FrP (fun b => b < w.heap.size) W3.heap.size W23 (.slice a7 pn c7) past) := hid (frp_out HPA.out HK9.out (fun b hb h2 => neFP (by rw [← (show b = b_F from h2)]; exact hb)) (fun b hb h2 => by have h3 : b < w.heap.size := hb; have h4 : b = b_F := h2; omega))
      clear HBR HBQ HBL HFS HGS HPA
      have HBR := HBR'
      clear HBR'
      have HBQ := HBQ'
      clear HBQ'
      have HBL := HBL'
      clear HBL'
      have HFS := HFS'
      clear HFS'
      have HGS := HGS'
      clear HGS'
      have HPA := HPA'
      clear HPA'
      have z10 := HK9.out.size
      have HK' : Hd (Keeps (fun _ => False) w W23) := hid (HK.out.trans' HK9.out (fun b hb h => by have h4 : b = b_F := h; omega))
      clear HK
      have HK := HK'
      clear HK' HK9 B_F HSF1 HFO1 HF1 HSB
      have B_F := N_F
      clear N_F
      go_upto_region 14 with fail
      go_cut [8] from 97 to 100 (fun u8 wx => ∃ (p2 : List Fr) (a : Option Addr) (c : Nat), u8 = .slice a (pn + 1) c ∧ Hd (p2.length = pn + 1) ∧ Hd (∀ q ∈ p2, q.ok) ∧ Hd (Frs (ROV w W3 V (.slice a (pn + 1) c)) wx (.slice a5 fn c5) fs) ∧ Hd (Frs (ROV w W3 V (.slice a (pn + 1) c)) wx (.slice a6 fn c6) fs) ∧ Hd (FrP (fun b => b < w.heap.size) W3.heap.size wx (.slice a (pn + 1) c) p2) ∧ Hd (Keeps (fun b => (Value.slice a7 pn c7).ownBlock = some b) W23 wx))
      case first =>
        have o_B_F_0 : W23.cell? ⟨b_F, 0, none⟩ = some ((.int .i64 F.q)) := blk_cell B_F.out 0
        have o_B_F_1 : W23.cell? ⟨b_F, 1, none⟩ = some ((.int .i64 F.k)) := blk_cell B_F.out 1
        have o_B_F_2 : W23.cell? ⟨b_F, 2, none⟩ = some ((.bool F.u)) := blk_cell B_F.out 2
        have o_B_F_3 : W23.cell? ⟨b_F, 3, none⟩ = some ((.slice fa fm fcp)) := blk_cell B_F.out 3
        have o_B_F_4 : W23.cell? ⟨b_F, 4, none⟩ = some ((.int .u64 (F.t : Int))) := blk_cell B_F.out 4
        obtain ⟨xs, hO, hge, hc⟩ := HPA.out
        have HO := hid hO; have HC := hid hc; have HGE := hid hge
        clear hO hc hge
        rw [HPN.out] at HO
        go_wp2_with (at_builtin; refine wpList_append_row rfl _ _ 31 rfl 25 i0 zz 5 56 Tryd.underlying31 hi hz0 hz1 hz2 hz3 (by decide) _ (fun _ => True) _ _ _ _ rfl (HO.out.alloc _) 1 _ rfl (src_blk (blk_new _ _ 25) 1 5 rfl (by decide)) (by intro u hu; simp at hu; rcases hu with rfl | rfl | rfl | rfl | rfl <;> rfl) ?h1 ?h2 ?_)
        case h1 => simp [maxLen]; omega
        case h2 => omega
        intro a1 cap1 w2 hown' hgrow; try intro _
        have H5 := hid hown'; have H6 := hid hgrow
        clear hown' hgrow
        go_wp2_with fail
        go_meet
        have ka := keeps_alloc (fun _ => False) W23 (.cells #[(.int .i64 F.q), (.int .i64 F.k), (.bool F.u), (.slice fa fm fcp), (.int .u64 (F.t : Int))] 25)
        have hnew : ∀ b, (Value.slice a1 (pn + 1) cap1).ownBlock = some b → (Value.slice a7 pn c7).ownBlock = some b ∨ W23.heap.size ≤ b := fun b hb => by have h := H5.out.2 b hb; rcases h with h | h; exact .inl h; exact .inr (by have h' := h; (try simp at h'); omega)
        refine ⟨past ++ [F], a1, cap1, rfl, hid (by rw [List.length_append, HPN.out]; rfl), hid (fun q hq => ?_), hid ?_, hid ?_, hid ?_, hid ?_⟩
        · rcases List.mem_append.1 hq with hq | hq
          · exact HPK.out q hq
          · rw [List.mem_singleton.1 hq]; exact HFO.out
        · exact ((HFS.out.keep ka (fun _ _ _ h => h)).keep H6.out (fun b _ h1 h2 => h1.1.2 h2)).mono (fun b hb h => ⟨⟨h.1.1, fun e => by rcases hnew b e with e1 | e1; exact h.1.2 e1; (have h3 := h.2; omega)⟩, h.2⟩)
        · exact ((HGS.out.keep ka (fun _ _ _ h => h)).keep H6.out (fun b _ h1 h2 => h1.1.2 h2)).mono (fun b hb h => ⟨⟨h.1.1, fun e => by rcases hnew b e with e1 | e1; exact h.1.2 e1; (have h3 := h.2; omega)⟩, h.2⟩)
        · have hs : FrL (fun b => b < w.heap.size ∧ (Value.slice a7 pn c7).ownBlock ≠ some b) (W23.alloc (.cells #[(.int .i64 F.q), (.int .i64 F.k), (.bool F.u), (.slice fa fm fcp), (.int .u64 (F.t : Int))] 25)) [(.int .i64 F.q), (.int .i64 F.k), (.bool F.u), (.slice fa fm fcp), (.int .u64 (F.t : Int))] [F] := by
            have h := FrL.one (x := F) (a := fa) (c := fcp) (K := fun b => b < w.heap.size ∧ (Value.slice a7 pn c7).ownBlock ≠ some b) (w := (W23.alloc (.cells #[(.int .i64 F.q), (.int .i64 F.k), (.bool F.u), (.slice fa fm fcp), (.int .u64 (F.t : Int))] 25))) (by rw [HFM.out]; exact (HSF.out.keep ka (fun _ _ _ h => h)).mono (fun b _ h => ⟨h, fun e => by have := HGE.out b e; omega⟩))
            rw [HFM.out] at h; exact h
          have h := frp_append (v := .slice a7 pn c7) (v7 := .slice a1 (pn + 1) cap1) HGE.out HC.out ka hs (by simp; omega) (by rw [HPN.out]; first | exact H5.out | (simp only [World.size_alloc, List.length_singleton]; exact H5.out) | simpa using H5.out) H6.out
          exact h
        · exact (ka.mono (fun _ _ h => h.elim)).trans H6.out
      case rest =>
      obtain ⟨p2, a9, c9, rfl, HPN2, HPK2, N_FS, N_GS, N_PA, HK9⟩ := hcut
      generalize wc = W24 at *
      have HBR' : Hd (Blk W24 b_R #[(.int .i64 nx), (.slice a5 fn c5), (.bool lk), (.int .u64 (rk : Int)), (.int .i64 ri)] 35) := hid (blk_keep HBR.out HK9.out (fun h => by have := (hgeP _ h).1; omega))
      have HBQ' : Hd (Blk W24 b_Q #[(.int .i64 nx), (.slice a6 fn c6), (.bool lk), (.int .u64 (rk : Int)), (.int .i64 ri)] 35) := hid (blk_keep HBQ.out HK9.out (fun h => by have := (hgeP _ h).1; omega))
      have HBL' : Hd (Blk W24 b_L #[(.int .u64 (k3 : Int)), (.int .i64 i3)] 33) := hid (blk_keep HBL.out HK9.out (fun h => by have := (hgeP _ h).1; omega))
      clear HBR HBQ HBL
      have HBR := HBR'
      clear HBR'
      have HBQ := HBQ'
      clear HBQ'
      have HBL := HBL'
      clear HBL'
      have B_F' : Hd (Blk W24 b_F #[(.int .i64 F.q), (.int .i64 F.k), (.bool F.u), (.slice fa fm fcp), (.int .u64 (F.t : Int))] 25) := hid (blk_keep B_F.out HK9.out (fun h => neFP h))
      clear B_F
      have B_F := B_F'
      clear B_F'
      have HSF' : Hd (Sl (fun b => b < w.heap.size) W24 (.slice fa fm fcp) (u8s F.b)) := hid (HSF.out.keep HK9.out (fun b _ h1 h2 => by have h3 : b < w.heap.size := h1; have := (hgeP _ h2).1; omega))
      clear HSF
      have HSF := HSF'
      clear HSF'
      have z11 := HK9.out.size
      have HK' : Hd (Keeps (fun _ => False) w W24) := hid (HK.out.trans' HK9.out (fun b hb h => by have := (hgeP b h).1; omega))
      clear HK
      have HK := HK'
      clear HK' HK9 HFS HGS HPA HPN HPK neFP hgeP
      have HFS := N_FS
      have HGS := N_GS
      have HPA := N_PA
      clear N_FS N_GS N_PA
      have ltP := frp_lt HPA.out
      have HRC : Hd (Calls Tryd.prog 24 #[.agg #[.int .i64 nx, .slice a5 fn c5, .bool lk, .int .u64 (rk : Int), .int .i64 ri], .agg #[.int .i64 F.q, .int .i64 F.k, .bool F.u, .slice fa fm fcp, .int .u64 (F.t : Int)]] W24 fun e w' => RecvR W24 (ROV w W3 V (.slice a9 (pn + 1) c9)) (recvM ⟨nx, fs, lk, ⟨rk, ri⟩⟩ F) e w') := hid (by have h := Receive_any nx fs a5 c5 lk ⟨rk, ri⟩ F (ROV w W3 V (.slice a9 (pn + 1) c9)) fa fcp W24 (by rw [HFN.out]; exact HFS.out) (fun b h => by have h3 := h.2; omega) (by rw [HFM.out]; exact HSF.out.mono (fun _ _ _ => trivial)) _ HOK.out (by omega) HFO.out; rw [HFN.out, HFM.out] at h; exact h)
      have HRD : Hd (∀ Y, Frs (ROV w W3 V (.slice a9 (pn + 1) c9)) Y (.slice a6 fn c6) fs → Sl (fun b => b < w.heap.size) Y (.slice fa fm fcp) (u8s F.b) → Calls Tryd.prog 25 #[.agg #[.int .i64 nx, .slice a6 fn c6, .bool lk, .int .u64 (rk : Int), .int .i64 ri], .agg #[.int .i64 F.q, .int .i64 F.k, .bool F.u, .slice fa fm fcp, .int .u64 (F.t : Int)]] Y fun e w' => RR Y (fun b => (ROV w W3 V (.slice a9 (pn + 1) c9)) b ∨ b < w.heap.size) (recvM ⟨nx, fs, lk, ⟨rk, ri⟩⟩ F) e w') := hid (fun Y hf hs => by have h := RReceive_any nx fs a6 c6 lk ⟨rk, ri⟩ F (fun b => (ROV w W3 V (.slice a9 (pn + 1) c9)) b ∨ b < w.heap.size) fa fcp Y (by rw [HFN.out]; exact hf.mono (fun _ _ h => .inl h)) (by rw [HFM.out]; exact hs.mono (fun _ _ h => .inr h)) _ HOK.out (by omega) HFO.out; rw [HFN.out, HFM.out] at h; exact h)
      obtain ⟨R, hR⟩ : ∃ R, (recvM ⟨nx, fs, lk, ⟨rk, ri⟩⟩ F) = R := ⟨_, rfl⟩
      have HR1 : Hd (R.1.ok (5000 * ((i + 1 : Nat) : Int))) := hid (by have h := recvM_ok HOK.out (by omega) HFO.out; rw [hR] at h; rw [show 5000 * ((i + 1 : Nat) : Int) = 5000 * (i : Int) + 5000 by push_cast; omega]; exact h)
      have HR2 : Hd ((∀ b ∈ R.2.1, ∀ c ∈ b, c < 256) ∧ R.2.1.length ≤ 16) := hid (by rw [← hR]; exact recvM_bytes HOK.out HFO.out)
      rw [hR] at HRC HRD
      clear hR
      obtain ⟨⟨nx2, fs2, lk2, ⟨rk2, ri2⟩⟩, bds, er⟩ := R
      simp only [] at HR1 HR2
      unfold RecvR at HRC
      unfold RR at HRD
      simp only [] at HRC HRD
      obtain ⟨fn2, hfn2⟩ : ∃ n, fs2.length = n := ⟨_, rfl⟩
      have HFN2 := hid hfn2
      rw [hfn2] at HRC HRD
      clear hfn2
      obtain ⟨bn, hbn⟩ : ∃ n, bds.length = n := ⟨_, rfl⟩
      have HBN := hid hbn
      rw [hbn] at HRC HRD HR2
      clear hbn HOK HFN HFM HFO
      have o_HBR_0 : W24.cell? ⟨b_R, 0, none⟩ = some ((.int .i64 nx)) := blk_cell HBR.out 0
      have o_HBR_1 : W24.cell? ⟨b_R, 1, none⟩ = some ((.slice a5 fn c5)) := blk_cell HBR.out 1
      have o_HBR_2 : W24.cell? ⟨b_R, 2, none⟩ = some ((.bool lk)) := blk_cell HBR.out 2
      have o_HBR_3 : W24.cell? ⟨b_R, 3, none⟩ = some ((.int .u64 (rk : Int))) := blk_cell HBR.out 3
      have o_HBR_4 : W24.cell? ⟨b_R, 4, none⟩ = some ((.int .i64 ri)) := blk_cell HBR.out 4
      have o_B_F_0 : W24.cell? ⟨b_F, 0, none⟩ = some ((.int .i64 F.q)) := blk_cell B_F.out 0
      have o_B_F_1 : W24.cell? ⟨b_F, 1, none⟩ = some ((.int .i64 F.k)) := blk_cell B_F.out 1
      have o_B_F_2 : W24.cell? ⟨b_F, 2, none⟩ = some ((.bool F.u)) := blk_cell B_F.out 2
      have o_B_F_3 : W24.cell? ⟨b_F, 3, none⟩ = some ((.slice fa fm fcp)) := blk_cell B_F.out 3
      have o_B_F_4 : W24.cell? ⟨b_F, 4, none⟩ = some ((.int .u64 (F.t : Int))) := blk_cell B_F.out 4
      go_wp2_with fail
      refine HRC.out.mono ?_
      rintro e V2 ⟨a8, c8, a10, c10, rfl, hfr, hbd, hk⟩
      clear HRC HFS
      have HFR := hid hfr
      have HBD' := hid hbd
      clear hfr hbd
      clear o_HBR_0 o_HBR_1 o_HBR_2 o_HBR_3 o_HBR_4 o_B_F_0 o_B_F_1 o_B_F_2 o_B_F_3 o_B_F_4
      have HBR' : Hd (Blk V2 b_R #[(.int .i64 nx), (.slice a5 fn c5), (.bool lk), (.int .u64 (rk : Int)), (.int .i64 ri)] 35) := hid (blk_keep HBR.out hk (fun h => h))
      have HBQ' : Hd (Blk V2 b_Q #[(.int .i64 nx), (.slice a6 fn c6), (.bool lk), (.int .u64 (rk : Int)), (.int .i64 ri)] 35) := hid (blk_keep HBQ.out hk (fun h => h))
      have HBL' : Hd (Blk V2 b_L #[(.int .u64 (k3 : Int)), (.int .i64 i3)] 33) := hid (blk_keep HBL.out hk (fun h => h))
      have B_F' : Hd (Blk V2 b_F #[(.int .i64 F.q), (.int .i64 F.k), (.bool F.u), (.slice fa fm fcp), (.int .u64 (F.t : Int))] 25) := hid (blk_keep B_F.out hk (fun h => h))
      have HSF' : Hd (Sl (fun b => b < w.heap.size) V2 (.slice fa fm fcp) (u8s F.b)) := hid (HSF.out.keep hk (fun _ _ _ h => h))
      have HGS' : Hd (Frs (ROV w W3 V (.slice a9 (pn + 1) c9)) V2 (.slice a6 fn c6) fs) := hid (HGS.out.keep hk (fun _ _ _ h => h))
      have HPA' : Hd (FrP (fun b => b < w.heap.size) W3.heap.size V2 (.slice a9 (pn + 1) c9) p2) := hid (HPA.out.keep hk (fun _ _ _ h => h))
      clear HBR HBQ HBL B_F HSF HGS HPA
      have HBR := HBR'
      clear HBR'
      have HBQ := HBQ'
      clear HBQ'
      have HBL := HBL'
      clear HBL'
      have B_F := B_F'
      clear B_F'
      have HSF := HSF'
      clear HSF'
      have HGS := HGS'
      clear HGS'
      have HPA := HPA'
      clear HPA'
      have HK' : Hd (Keeps (fun _ => False) w V2) := hid (HK.out.trans hk)
      clear HK
      have HK := HK'
      clear HK'
      have z_V2 := hk.size
      clear hk
      have HFS : Hd (Frs (ROut w W3 (.slice a9 (pn + 1) c9)) V2 (.slice a8 fn2 c8) fs2) := hid (HFR.out.mono (fun b hb h => by rcases h with h | h; exact h.1; exact ⟨.inr (by omega), fun e => by have := ltP _ e; omega⟩))
      have HBD : Hd (Bds (fun _ => True) V2 (.slice a10 bn c10) bds) := hid (HBD'.out.mono (fun _ _ _ => trivial))
      clear HFR HBD'
      go_upto_region 16 with fail
      generalize hW : World.alloc V2 _ = W25
      have KS : Hd (Keeps (fun _ => False) V2 W25) := hid (by rw [← hW]; exact (Keeps.alloc (Keeps.refl (fun _ => False) V2) _))
      have HBR' : Hd (Blk W25 b_R #[(.int .i64 nx), (.slice a5 fn c5), (.bool lk), (.int .u64 (rk : Int)), (.int .i64 ri)] 35) := hid (by rw [← hW]; exact (blk_alloc HBR.out _))
      have HBQ' : Hd (Blk W25 b_Q #[(.int .i64 nx), (.slice a6 fn c6), (.bool lk), (.int .u64 (rk : Int)), (.int .i64 ri)] 35) := hid (by rw [← hW]; exact (blk_alloc HBQ.out _))
      have HBL' : Hd (Blk W25 b_L #[(.int .u64 (k3 : Int)), (.int .i64 i3)] 33) := hid (by rw [← hW]; exact (blk_alloc HBL.out _))
      have B_F' : Hd (Blk W25 b_F #[(.int .i64 F.q), (.int .i64 F.k), (.bool F.u), (.slice fa fm fcp), (.int .u64 (F.t : Int))] 25) := hid (by rw [← hW]; exact (blk_alloc B_F.out _))
      have HSF' : Hd (Sl (fun b => b < w.heap.size) W25 (.slice fa fm fcp) (u8s F.b)) := hid (HSF.out.keep KS.out (fun _ _ _ h => h))
      have HGS' : Hd (Frs (ROV w W3 V (.slice a9 (pn + 1) c9)) W25 (.slice a6 fn c6) fs) := hid (HGS.out.keep KS.out (fun _ _ _ h => h))
      have HPA' : Hd (FrP (fun b => b < w.heap.size) W3.heap.size W25 (.slice a9 (pn + 1) c9) p2) := hid (HPA.out.keep KS.out (fun _ _ _ h => h))
      have HFS' : Hd (Frs (ROut w W3 (.slice a9 (pn + 1) c9)) W25 (.slice a8 fn2 c8) fs2) := hid (HFS.out.keep KS.out (fun _ _ _ h => h))
      have HBD' : Hd (Bds (fun _ => True) W25 (.slice a10 bn c10) bds) := hid (HBD.out.keep KS.out (fun _ _ _ h => h))
      have B_C : Hd (Blk W25 V2.heap.size #[(.int .i64 nx2), (.slice a8 fn2 c8), (.bool lk2), (.int .u64 (rk2 : Int)), (.int .i64 ri2)] 35) := hid (by rw [← hW]; exact (blk_new _ _ _))
      clear HBR HBQ HBL B_F HSF HGS HPA HFS HBD
      have HBR := HBR'
      clear HBR'
      have HBQ := HBQ'
      clear HBQ'
      have HBL := HBL'
      clear HBL'
      have B_F := B_F'
      clear B_F'
      have HSF := HSF'
      clear HSF'
      have HGS := HGS'
      clear HGS'
      have HPA := HPA'
      clear HPA'
      have HFS := HFS'
      clear HFS'
      have HBD := HBD'
      clear HBD'
      have HK' : Hd (Keeps (fun _ => False) w W25) := hid (HK.out.trans KS.out)
      clear HK
      have HK := HK'
      clear HK'
      have z_W25 : V2.heap.size + 1 ≤ W25.heap.size := by rw [← hW]; simp
      clear hW KS
      generalize hb_C : V2.heap.size = b_C at *
      have lt_C := blk_lt B_C.out
      have o_HBQ_0 : W25.cell? ⟨b_Q, 0, none⟩ = some ((.int .i64 nx)) := blk_cell HBQ.out 0
      have o_HBQ_1 : W25.cell? ⟨b_Q, 1, none⟩ = some ((.slice a6 fn c6)) := blk_cell HBQ.out 1
      have o_HBQ_2 : W25.cell? ⟨b_Q, 2, none⟩ = some ((.bool lk)) := blk_cell HBQ.out 2
      have o_HBQ_3 : W25.cell? ⟨b_Q, 3, none⟩ = some ((.int .u64 (rk : Int))) := blk_cell HBQ.out 3
      have o_HBQ_4 : W25.cell? ⟨b_Q, 4, none⟩ = some ((.int .i64 ri)) := blk_cell HBQ.out 4
      have o_B_F_0 : W25.cell? ⟨b_F, 0, none⟩ = some ((.int .i64 F.q)) := blk_cell B_F.out 0
      have o_B_F_1 : W25.cell? ⟨b_F, 1, none⟩ = some ((.int .i64 F.k)) := blk_cell B_F.out 1
      have o_B_F_2 : W25.cell? ⟨b_F, 2, none⟩ = some ((.bool F.u)) := blk_cell B_F.out 2
      have o_B_F_3 : W25.cell? ⟨b_F, 3, none⟩ = some ((.slice fa fm fcp)) := blk_cell B_F.out 3
      have o_B_F_4 : W25.cell? ⟨b_F, 4, none⟩ = some ((.int .u64 (F.t : Int))) := blk_cell B_F.out 4
      go_wp2_with fail
      refine (HRD.out _ HGS.out HSF.out).mono ?_
      rintro e V3 ⟨a11, c11, a12, c12, rfl, hfr, hbd, hk⟩
      clear HRD HGS
      have HFR := hid hfr
      have HBD' := hid hbd
      clear hfr hbd
      clear o_HBQ_0 o_HBQ_1 o_HBQ_2 o_HBQ_3 o_HBQ_4 o_B_F_0 o_B_F_1 o_B_F_2 o_B_F_3 o_B_F_4
      have HBR' : Hd (Blk V3 b_R #[(.int .i64 nx), (.slice a5 fn c5), (.bool lk), (.int .u64 (rk : Int)), (.int .i64 ri)] 35) := hid (blk_keep HBR.out hk (fun h => h))
      have HBQ' : Hd (Blk V3 b_Q #[(.int .i64 nx), (.slice a6 fn c6), (.bool lk), (.int .u64 (rk : Int)), (.int .i64 ri)] 35) := hid (blk_keep HBQ.out hk (fun h => h))
      have HBL' : Hd (Blk V3 b_L #[(.int .u64 (k3 : Int)), (.int .i64 i3)] 33) := hid (blk_keep HBL.out hk (fun h => h))
      have B_F' : Hd (Blk V3 b_F #[(.int .i64 F.q), (.int .i64 F.k), (.bool F.u), (.slice fa fm fcp), (.int .u64 (F.t : Int))] 25) := hid (blk_keep B_F.out hk (fun h => h))
      have HSF' : Hd (Sl (fun b => b < w.heap.size) V3 (.slice fa fm fcp) (u8s F.b)) := hid (HSF.out.keep hk (fun _ _ _ h => h))
      have HPA' : Hd (FrP (fun b => b < w.heap.size) W3.heap.size V3 (.slice a9 (pn + 1) c9) p2) := hid (HPA.out.keep hk (fun _ _ _ h => h))
      have HFS' : Hd (Frs (ROut w W3 (.slice a9 (pn + 1) c9)) V3 (.slice a8 fn2 c8) fs2) := hid (HFS.out.keep hk (fun _ _ _ h => h))
      have HBD' : Hd (Bds (fun _ => True) V3 (.slice a10 bn c10) bds) := hid (HBD.out.keep hk (fun _ _ _ h => h))
      have B_C' : Hd (Blk V3 b_C #[(.int .i64 nx2), (.slice a8 fn2 c8), (.bool lk2), (.int .u64 (rk2 : Int)), (.int .i64 ri2)] 35) := hid (blk_keep B_C.out hk (fun h => h))
      clear HBR HBQ HBL B_F HSF HPA HFS HBD B_C
      have HBR := HBR'
      clear HBR'
      have HBQ := HBQ'
      clear HBQ'
      have HBL := HBL'
      clear HBL'
      have B_F := B_F'
      clear B_F'
      have HSF := HSF'
      clear HSF'
      have HPA := HPA'
      clear HPA'
      have HFS := HFS'
      clear HFS'
      have HBD := HBD'
      clear HBD'
      have B_C := B_C'
      clear B_C'
      have HK' : Hd (Keeps (fun _ => False) w V3) := hid (HK.out.trans hk)
      clear HK
      have HK := HK'
      clear HK'
      have z_V3 := hk.size
      clear hk
      have HGS : Hd (Frs (ROut w W3 (.slice a9 (pn + 1) c9)) V3 (.slice a11 fn2 c11) fs2) := hid (HFR.out.mono (fun b hb h => by rcases h with (h | h) | h; exact h.1; exact ⟨.inl h, fun e => by have h3 := HPA.out; obtain ⟨_, -, h4, -⟩ := h3; have := h4 b e; omega⟩; exact ⟨.inr (by omega), fun e => by have := ltP _ e; omega⟩))
      have HBE : Hd (Bds (fun _ => True) V3 (.slice a12 bn c12) bds) := hid (HBD'.out.mono (fun _ _ _ => trivial))
      clear HFR HBD'
      go_upto_region 17 with fail
      generalize hW : World.alloc V3 _ = W26
      have KS : Hd (Keeps (fun _ => False) V3 W26) := hid (by rw [← hW]; exact (Keeps.alloc (Keeps.refl (fun _ => False) V3) _))
      have HBR' : Hd (Blk W26 b_R #[(.int .i64 nx), (.slice a5 fn c5), (.bool lk), (.int .u64 (rk : Int)), (.int .i64 ri)] 35) := hid (by rw [← hW]; exact (blk_alloc HBR.out _))
      have HBQ' : Hd (Blk W26 b_Q #[(.int .i64 nx), (.slice a6 fn c6), (.bool lk), (.int .u64 (rk : Int)), (.int .i64 ri)] 35) := hid (by rw [← hW]; exact (blk_alloc HBQ.out _))
      have HBL' : Hd (Blk W26 b_L #[(.int .u64 (k3 : Int)), (.int .i64 i3)] 33) := hid (by rw [← hW]; exact (blk_alloc HBL.out _))
      have B_F' : Hd (Blk W26 b_F #[(.int .i64 F.q), (.int .i64 F.k), (.bool F.u), (.slice fa fm fcp), (.int .u64 (F.t : Int))] 25) := hid (by rw [← hW]; exact (blk_alloc B_F.out _))
      have HSF' : Hd (Sl (fun b => b < w.heap.size) W26 (.slice fa fm fcp) (u8s F.b)) := hid (HSF.out.keep KS.out (fun _ _ _ h => h))
      have HPA' : Hd (FrP (fun b => b < w.heap.size) W3.heap.size W26 (.slice a9 (pn + 1) c9) p2) := hid (HPA.out.keep KS.out (fun _ _ _ h => h))
      have HFS' : Hd (Frs (ROut w W3 (.slice a9 (pn + 1) c9)) W26 (.slice a8 fn2 c8) fs2) := hid (HFS.out.keep KS.out (fun _ _ _ h => h))
      have HBD' : Hd (Bds (fun _ => True) W26 (.slice a10 bn c10) bds) := hid (HBD.out.keep KS.out (fun _ _ _ h => h))
      have B_C' : Hd (Blk W26 b_C #[(.int .i64 nx2), (.slice a8 fn2 c8), (.bool lk2), (.int .u64 (rk2 : Int)), (.int .i64 ri2)] 35) := hid (by rw [← hW]; exact (blk_alloc B_C.out _))
      have HGS' : Hd (Frs (ROut w W3 (.slice a9 (pn + 1) c9)) W26 (.slice a11 fn2 c11) fs2) := hid (HGS.out.keep KS.out (fun _ _ _ h => h))
      have HBE' : Hd (Bds (fun _ => True) W26 (.slice a12 bn c12) bds) := hid (HBE.out.keep KS.out (fun _ _ _ h => h))
      have B_D : Hd (Blk W26 V3.heap.size #[(.int .i64 nx2), (.slice a11 fn2 c11), (.bool lk2), (.int .u64 (rk2 : Int)), (.int .i64 ri2)] 35) := hid (by rw [← hW]; exact (blk_new _ _ _))
      clear HBR HBQ HBL B_F HSF HPA HFS HBD B_C HGS HBE
      have HBR := HBR'
      clear HBR'
      have HBQ := HBQ'
      clear HBQ'
      have HBL := HBL'
      clear HBL'
      have B_F := B_F'
      clear B_F'
      have HSF := HSF'
      clear HSF'
      have HPA := HPA'
      clear HPA'
      have HFS := HFS'
      clear HFS'
      have HBD := HBD'
      clear HBD'
      have B_C := B_C'
      clear B_C'
      have HGS := HGS'
      clear HGS'
      have HBE := HBE'
      clear HBE'
      have HK' : Hd (Keeps (fun _ => False) w W26) := hid (HK.out.trans KS.out)
      clear HK
      have HK := HK'
      clear HK'
      have z_W26 : V3.heap.size + 1 ≤ W26.heap.size := by rw [← hW]; simp
      clear hW KS
      generalize hb_D : V3.heap.size = b_D at *
      have lt_D := blk_lt B_D.out
      obtain ⟨hv, hhv⟩ : ∃ h, havI nx2 fs2 = h := ⟨_, rfl⟩
      have hn2 : nx2 ≤ 1000000000 := by have h : nx2 ≤ 5000 * ((i + 1 : Nat) : Int) := HR1.out.n1; push_cast at h; omega
      have HSR : Hd (∀ X, Keeps (fun _ => False) W26 X → Calls Tryd.prog 26 #[.agg #[(.int .i64 nx2), (.slice a8 fn2 c8), (.bool lk2), (.int .u64 (rk2 : Int)), (.int .i64 ri2)], .agg #[(.int .i64 nx2), (.slice a11 fn2 c11), (.bool lk2), (.int .u64 (rk2 : Int)), (.int .i64 ri2)]] X fun e w' => e = .returned (.bool true) ∧ Keeps (fun _ => False) X w') := hid (fun X hx => by have h := SameReceiver_true nx2 fs2 lk2 ⟨rk2, ri2⟩ a8 a11 c8 c11 _ _ X (by rw [HFN2.out]; exact HFS.out.keep hx (fun _ _ _ h => h)) (by rw [HFN2.out]; exact HGS.out.keep hx (fun _ _ _ h => h)) (fun x hx => (HR1.out.f x hx).2.2.1.b) (by have h := HR1.out.len; exact Nat.le_trans h (by decide)); rw [HFN2.out] at h; exact h)
      have HSBd : Hd (∀ X, Keeps (fun _ => False) W26 X → Calls Tryd.prog 27 #[.slice a10 bn c10, .slice a12 bn c12] X fun e w' => e = .returned (.bool true) ∧ Keeps (fun _ => False) X w') := hid (fun X hx => by have h := SameBodies_any _ _ _ _ bds bds X (HBD.out.keep hx (fun _ _ _ h => h)) (HBE.out.keep hx (fun _ _ _ h => h)) HR2.out.1 HR2.out.1 (by rw [HBN.out]; have := HR2.out.2; omega); rw [decide_eq_true (show bds = bds from rfl)] at h; exact h)
      have HST : Hd (∀ X, Keeps (fun _ => False) W26 X → Calls Tryd.prog 28 #[.agg #[(.int .i64 nx2), (.slice a8 fn2 c8), (.bool lk2), (.int .u64 (rk2 : Int)), (.int .i64 ri2)]] X fun e w' => e = .returned (.agg #[.int .i64 nx2, .int .i64 hv, .int .i64 ri2, .bool lk2]) ∧ Keeps (fun _ => False) X w') := hid (fun X hx => by have h := State_any fs2 a8 c8 nx2 lk2 ⟨rk2, ri2⟩ _ X (by rw [HFN2.out]; exact HFS.out.keep hx (fun _ _ _ h => h)) (Nat.le_trans HR1.out.len (by decide)) HR1.out.n0 hn2 (fun x hx => by have h := HR1.out.f x hx; have h1 : nx2 < x.q := h.1; have h2 : x.q ≤ nx2 + 15 := h.2.1; omega); rw [HFN2.out, hhv] at h; exact h)
      have HSU : Hd (∀ X, Keeps (fun _ => False) W26 X → Calls Tryd.prog 29 #[.agg #[(.int .i64 nx2), (.slice a11 fn2 c11), (.bool lk2), (.int .u64 (rk2 : Int)), (.int .i64 ri2)]] X fun e w' => e = .returned (.agg #[.int .i64 nx2, .int .i64 hv, .int .i64 ri2, .bool lk2]) ∧ Keeps (fun _ => False) X w') := hid (fun X hx => by have h := RState_any fs2 a11 c11 nx2 lk2 ⟨rk2, ri2⟩ _ X (by rw [HFN2.out]; exact HGS.out.keep hx (fun _ _ _ h => h)) (Nat.le_trans HR1.out.len (by decide)) HR1.out.n0 hn2 (fun x hx => by have h := HR1.out.f x hx; exact ⟨h.1, h.2.1⟩) HR1.out.s; rw [HFN2.out, hhv] at h; exact h)
      clear hhv hn2
      have ene : (er != er) = false := by simp
      have ene2 : (er == er) = true := by simp
      go_upto_region 17 with fail
      go_cut [136] from 115 to 136 (fun u136 wx => u136 = .bool false ∧ Hd (Keeps (fun _ => False) W26 wx))
      case first =>
        have KC : Hd (Keeps (fun _ => False) W26 W26) := hid (Keeps.refl _ _)
        have HSS : Hd (∀ w', Keeps (fun _ => False) W26 w' → (w'.cell? ⟨b_C, 0, none⟩ = some ((.int .i64 nx2)) ∧ w'.cell? ⟨b_C, 1, none⟩ = some ((.slice a8 fn2 c8)) ∧ w'.cell? ⟨b_C, 2, none⟩ = some ((.bool lk2)) ∧ w'.cell? ⟨b_C, 3, none⟩ = some ((.int .u64 (rk2 : Int))) ∧ w'.cell? ⟨b_C, 4, none⟩ = some ((.int .i64 ri2)) ∧ w'.cell? ⟨b_D, 0, none⟩ = some ((.int .i64 nx2)) ∧ w'.cell? ⟨b_D, 1, none⟩ = some ((.slice a11 fn2 c11)) ∧ w'.cell? ⟨b_D, 2, none⟩ = some ((.bool lk2)) ∧ w'.cell? ⟨b_D, 3, none⟩ = some ((.int .u64 (rk2 : Int))) ∧ w'.cell? ⟨b_D, 4, none⟩ = some ((.int .i64 ri2)))) := hid (fun w' hk => ⟨blk_cell (blk_keep B_C.out hk (fun h => h)) 0, blk_cell (blk_keep B_C.out hk (fun h => h)) 1, blk_cell (blk_keep B_C.out hk (fun h => h)) 2, blk_cell (blk_keep B_C.out hk (fun h => h)) 3, blk_cell (blk_keep B_C.out hk (fun h => h)) 4, blk_cell (blk_keep B_D.out hk (fun h => h)) 0, blk_cell (blk_keep B_D.out hk (fun h => h)) 1, blk_cell (blk_keep B_D.out hk (fun h => h)) 2, blk_cell (blk_keep B_D.out hk (fun h => h)) 3, blk_cell (blk_keep B_D.out hk (fun h => h)) 4⟩)
        go_region_held (fun w' => w'.cell? ⟨b_C, 0, none⟩ = some ((.int .i64 nx2)) ∧ w'.cell? ⟨b_C, 1, none⟩ = some ((.slice a8 fn2 c8)) ∧ w'.cell? ⟨b_C, 2, none⟩ = some ((.bool lk2)) ∧ w'.cell? ⟨b_C, 3, none⟩ = some ((.int .u64 (rk2 : Int))) ∧ w'.cell? ⟨b_C, 4, none⟩ = some ((.int .i64 ri2)) ∧ w'.cell? ⟨b_D, 0, none⟩ = some ((.int .i64 nx2)) ∧ w'.cell? ⟨b_D, 1, none⟩ = some ((.slice a11 fn2 c11)) ∧ w'.cell? ⟨b_D, 2, none⟩ = some ((.bool lk2)) ∧ w'.cell? ⟨b_D, 3, none⟩ = some ((.int .u64 (rk2 : Int))) ∧ w'.cell? ⟨b_D, 4, none⟩ = some ((.int .i64 ri2))) (exact HSS.out _ (by repeat (first | (with_reducible exact KC.out) | (with_reducible exact Keeps.refl _ _) | (with_reducible apply Keeps.drewN) | (with_reducible apply Keeps.drew) | (with_reducible apply Keeps.alloc))))
          (first
          | (go_at_call 26; (refine (HSR.out _ (by repeat (first | (with_reducible exact KC.out) | (with_reducible exact Keeps.refl _ _) | (with_reducible apply Keeps.drewN) | (with_reducible apply Keeps.drew) | (with_reducible apply Keeps.alloc)))).mono ?_); rintro e wy0 ⟨rfl, hk⟩; have KC2 : Hd (Keeps (fun _ => False) W26 wy0) := hid (Keeps.trans (S := fun _ => False) (by repeat (first | (with_reducible exact KC.out) | (with_reducible exact Keeps.refl _ _) | (with_reducible apply Keeps.drewN) | (with_reducible apply Keeps.drew) | (with_reducible apply Keeps.alloc))) hk); replace KC := KC2; clear KC2; replace hk := hid hk)
          | (go_at_call 27; (refine (HSBd.out _ (by repeat (first | (with_reducible exact KC.out) | (with_reducible exact Keeps.refl _ _) | (with_reducible apply Keeps.drewN) | (with_reducible apply Keeps.drew) | (with_reducible apply Keeps.alloc)))).mono ?_); rintro e wy1 ⟨rfl, hk⟩; have KC2 : Hd (Keeps (fun _ => False) W26 wy1) := hid (Keeps.trans (S := fun _ => False) (by repeat (first | (with_reducible exact KC.out) | (with_reducible exact Keeps.refl _ _) | (with_reducible apply Keeps.drewN) | (with_reducible apply Keeps.drew) | (with_reducible apply Keeps.alloc))) hk); replace KC := KC2; clear KC2; replace hk := hid hk)
          | (go_at_call 28; (refine (HST.out _ (by repeat (first | (with_reducible exact KC.out) | (with_reducible exact Keeps.refl _ _) | (with_reducible apply Keeps.drewN) | (with_reducible apply Keeps.drew) | (with_reducible apply Keeps.alloc)))).mono ?_); rintro e wy2 ⟨rfl, hk⟩; have KC2 : Hd (Keeps (fun _ => False) W26 wy2) := hid (Keeps.trans (S := fun _ => False) (by repeat (first | (with_reducible exact KC.out) | (with_reducible exact Keeps.refl _ _) | (with_reducible apply Keeps.drewN) | (with_reducible apply Keeps.drew) | (with_reducible apply Keeps.alloc))) hk); replace KC := KC2; clear KC2; replace hk := hid hk)
          | (go_at_call 29; (refine (HSU.out _ (by repeat (first | (with_reducible exact KC.out) | (with_reducible exact Keeps.refl _ _) | (with_reducible apply Keeps.drewN) | (with_reducible apply Keeps.drew) | (with_reducible apply Keeps.alloc)))).mono ?_); rintro e wy3 ⟨rfl, hk⟩; have KC2 : Hd (Keeps (fun _ => False) W26 wy3) := hid (Keeps.trans (S := fun _ => False) (by repeat (first | (with_reducible exact KC.out) | (with_reducible exact Keeps.refl _ _) | (with_reducible apply Keeps.drewN) | (with_reducible apply Keeps.drew) | (with_reducible apply Keeps.alloc))) hk); replace KC := KC2; clear KC2; replace hk := hid hk))
        all_goals
          go_wp2_with fail
          go_meet
          exact ⟨rfl, hid (by repeat (first | (with_reducible exact KC.out) | (with_reducible exact Keeps.refl _ _) | (with_reducible apply Keeps.drewN) | (with_reducible apply Keeps.drew) | (with_reducible apply Keeps.alloc)))⟩
      case rest =>
        obtain ⟨rfl, hk⟩ := hcut
        replace hk := hk.out
        generalize wc = W27 at *
        have HBR' : Hd (Blk W27 b_R #[(.int .i64 nx), (.slice a5 fn c5), (.bool lk), (.int .u64 (rk : Int)), (.int .i64 ri)] 35) := hid (blk_keep HBR.out hk (fun h => h))
        have HBQ' : Hd (Blk W27 b_Q #[(.int .i64 nx), (.slice a6 fn c6), (.bool lk), (.int .u64 (rk : Int)), (.int .i64 ri)] 35) := hid (blk_keep HBQ.out hk (fun h => h))
        have HBL' : Hd (Blk W27 b_L #[(.int .u64 (k3 : Int)), (.int .i64 i3)] 33) := hid (blk_keep HBL.out hk (fun h => h))
        have B_F' : Hd (Blk W27 b_F #[(.int .i64 F.q), (.int .i64 F.k), (.bool F.u), (.slice fa fm fcp), (.int .u64 (F.t : Int))] 25) := hid (blk_keep B_F.out hk (fun h => h))
        have HSF' : Hd (Sl (fun b => b < w.heap.size) W27 (.slice fa fm fcp) (u8s F.b)) := hid (HSF.out.keep hk (fun _ _ _ h => h))
        have HPA' : Hd (FrP (fun b => b < w.heap.size) W3.heap.size W27 (.slice a9 (pn + 1) c9) p2) := hid (HPA.out.keep hk (fun _ _ _ h => h))
        have HFS' : Hd (Frs (ROut w W3 (.slice a9 (pn + 1) c9)) W27 (.slice a8 fn2 c8) fs2) := hid (HFS.out.keep hk (fun _ _ _ h => h))
        have HBD' : Hd (Bds (fun _ => True) W27 (.slice a10 bn c10) bds) := hid (HBD.out.keep hk (fun _ _ _ h => h))
        have B_C' : Hd (Blk W27 b_C #[(.int .i64 nx2), (.slice a8 fn2 c8), (.bool lk2), (.int .u64 (rk2 : Int)), (.int .i64 ri2)] 35) := hid (blk_keep B_C.out hk (fun h => h))
        have HGS' : Hd (Frs (ROut w W3 (.slice a9 (pn + 1) c9)) W27 (.slice a11 fn2 c11) fs2) := hid (HGS.out.keep hk (fun _ _ _ h => h))
        have HBE' : Hd (Bds (fun _ => True) W27 (.slice a12 bn c12) bds) := hid (HBE.out.keep hk (fun _ _ _ h => h))
        have B_D' : Hd (Blk W27 b_D #[(.int .i64 nx2), (.slice a11 fn2 c11), (.bool lk2), (.int .u64 (rk2 : Int)), (.int .i64 ri2)] 35) := hid (blk_keep B_D.out hk (fun h => h))
        clear HBR HBQ HBL B_F HSF HPA HFS HBD B_C HGS HBE B_D
        have HBR := HBR'
        clear HBR'
        have HBQ := HBQ'
        clear HBQ'
        have HBL := HBL'
        clear HBL'
        have B_F := B_F'
        clear B_F'
        have HSF := HSF'
        clear HSF'
        have HPA := HPA'
        clear HPA'
        have HFS := HFS'
        clear HFS'
        have HBD := HBD'
        clear HBD'
        have B_C := B_C'
        clear B_C'
        have HGS := HGS'
        clear HGS'
        have HBE := HBE'
        clear HBE'
        have B_D := B_D'
        clear B_D'
        have HK' : Hd (Keeps (fun _ => False) w W27) := hid (HK.out.trans hk)
        clear HK
        have HK := HK'
        clear HK'
        have z_W27 := hk.size
        clear hk
        clear HSR HSBd HST HSU
        clear HBD HBE
        have ltC9 := blk_lt B_C.out
        have ltD9 := blk_lt B_D.out
        have o_B_C_0 : W27.cell? ⟨b_C, 0, none⟩ = some ((.int .i64 nx2)) := blk_cell B_C.out 0
        have o_B_C_1 : W27.cell? ⟨b_C, 1, none⟩ = some ((.slice a8 fn2 c8)) := blk_cell B_C.out 1
        have o_B_C_2 : W27.cell? ⟨b_C, 2, none⟩ = some ((.bool lk2)) := blk_cell B_C.out 2
        have o_B_C_3 : W27.cell? ⟨b_C, 3, none⟩ = some ((.int .u64 (rk2 : Int))) := blk_cell B_C.out 3
        have o_B_C_4 : W27.cell? ⟨b_C, 4, none⟩ = some ((.int .i64 ri2)) := blk_cell B_C.out 4
        have o_B_D_0 : W27.cell? ⟨b_D, 0, none⟩ = some ((.int .i64 nx2)) := blk_cell B_D.out 0
        have o_B_D_1 : W27.cell? ⟨b_D, 1, none⟩ = some ((.slice a11 fn2 c11)) := blk_cell B_D.out 1
        have o_B_D_2 : W27.cell? ⟨b_D, 2, none⟩ = some ((.bool lk2)) := blk_cell B_D.out 2
        have o_B_D_3 : W27.cell? ⟨b_D, 3, none⟩ = some ((.int .u64 (rk2 : Int))) := blk_cell B_D.out 3
        have o_B_D_4 : W27.cell? ⟨b_D, 4, none⟩ = some ((.int .i64 ri2)) := blk_cell B_D.out 4
        have o_HBR_0 : W27.cell? ⟨b_R, 0, none⟩ = some ((.int .i64 nx)) := blk_cell HBR.out 0
        have o_HBR_1 : W27.cell? ⟨b_R, 1, none⟩ = some ((.slice a5 fn c5)) := blk_cell HBR.out 1
        have o_HBR_2 : W27.cell? ⟨b_R, 2, none⟩ = some ((.bool lk)) := blk_cell HBR.out 2
        have o_HBR_3 : W27.cell? ⟨b_R, 3, none⟩ = some ((.int .u64 (rk : Int))) := blk_cell HBR.out 3
        have o_HBR_4 : W27.cell? ⟨b_R, 4, none⟩ = some ((.int .i64 ri)) := blk_cell HBR.out 4
        have o_HBQ_0 : W27.cell? ⟨b_Q, 0, none⟩ = some ((.int .i64 nx)) := blk_cell HBQ.out 0
        have o_HBQ_1 : W27.cell? ⟨b_Q, 1, none⟩ = some ((.slice a6 fn c6)) := blk_cell HBQ.out 1
        have o_HBQ_2 : W27.cell? ⟨b_Q, 2, none⟩ = some ((.bool lk)) := blk_cell HBQ.out 2
        have o_HBQ_3 : W27.cell? ⟨b_Q, 3, none⟩ = some ((.int .u64 (rk : Int))) := blk_cell HBQ.out 3
        have o_HBQ_4 : W27.cell? ⟨b_Q, 4, none⟩ = some ((.int .i64 ri)) := blk_cell HBQ.out 4
        have f_HBR_0 : W27.frozen? ⟨b_R, 0, none⟩ = false := blk_free HBR.out 0
        have f_HBR_1 : W27.frozen? ⟨b_R, 1, none⟩ = false := blk_free HBR.out 1
        have f_HBR_2 : W27.frozen? ⟨b_R, 2, none⟩ = false := blk_free HBR.out 2
        have f_HBR_3 : W27.frozen? ⟨b_R, 3, none⟩ = false := blk_free HBR.out 3
        have f_HBR_4 : W27.frozen? ⟨b_R, 4, none⟩ = false := blk_free HBR.out 4
        have f_HBQ_0 : W27.frozen? ⟨b_Q, 0, none⟩ = false := blk_free HBQ.out 0
        have f_HBQ_1 : W27.frozen? ⟨b_Q, 1, none⟩ = false := blk_free HBQ.out 1
        have f_HBQ_2 : W27.frozen? ⟨b_Q, 2, none⟩ = false := blk_free HBQ.out 2
        have f_HBQ_3 : W27.frozen? ⟨b_Q, 3, none⟩ = false := blk_free HBQ.out 3
        have f_HBQ_4 : W27.frozen? ⟨b_Q, 4, none⟩ = false := blk_free HBQ.out 4
        go_upto_region 7 with fail
        clear o_B_C_0 o_B_C_1 o_B_C_2 o_B_C_3 o_B_C_4 o_B_D_0 o_B_D_1 o_B_D_2 o_B_D_3 o_B_D_4 o_HBR_0 o_HBR_1 o_HBR_2 o_HBR_3 o_HBR_4 o_HBQ_0 o_HBQ_1 o_HBQ_2 o_HBQ_3 o_HBQ_4 f_HBR_0 f_HBR_1 f_HBR_2 f_HBR_3 f_HBR_4 f_HBQ_0 f_HBQ_1 f_HBQ_2 f_HBQ_3 f_HBQ_4
        generalize hW : World.setCell (World.setCell (World.setCell (World.setCell (World.setCell (World.setCell (World.setCell (World.setCell (World.setCell (World.setCell W27 _ _) _ _) _ _) _ _) _ _) _ _) _ _) _ _) _ _) _ _ = W28
        have KS : Hd (Keeps (fun b => b = b_Q ∨ b = b_R) W27 W28) := hid (by rw [← hW]; exact (Keeps.setCell (S := fun b => b = b_Q ∨ b = b_R) (p := ⟨b_Q, 4, none⟩) (Keeps.setCell (S := fun b => b = b_Q ∨ b = b_R) (p := ⟨b_Q, 3, none⟩) (Keeps.setCell (S := fun b => b = b_Q ∨ b = b_R) (p := ⟨b_Q, 2, none⟩) (Keeps.setCell (S := fun b => b = b_Q ∨ b = b_R) (p := ⟨b_Q, 1, none⟩) (Keeps.setCell (S := fun b => b = b_Q ∨ b = b_R) (p := ⟨b_Q, 0, none⟩) (Keeps.setCell (S := fun b => b = b_Q ∨ b = b_R) (p := ⟨b_R, 4, none⟩) (Keeps.setCell (S := fun b => b = b_Q ∨ b = b_R) (p := ⟨b_R, 3, none⟩) (Keeps.setCell (S := fun b => b = b_Q ∨ b = b_R) (p := ⟨b_R, 2, none⟩) (Keeps.setCell (S := fun b => b = b_Q ∨ b = b_R) (p := ⟨b_R, 1, none⟩) (Keeps.setCell (S := fun b => b = b_Q ∨ b = b_R) (p := ⟨b_R, 0, none⟩) (Keeps.refl (fun b => b = b_Q ∨ b = b_R) W27) (.inl (.inr rfl)) _) (.inl (.inr rfl)) _) (.inl (.inr rfl)) _) (.inl (.inr rfl)) _) (.inl (.inr rfl)) _) (.inl (.inl rfl)) _) (.inl (.inl rfl)) _) (.inl (.inl rfl)) _) (.inl (.inl rfl)) _) (.inl (.inl rfl)) _))
        have HBR' : Hd (Blk W28 b_R #[(.int .i64 nx2), (.slice a8 fn2 c8), (.bool lk2), (.int .u64 (rk2 : Int)), (.int .i64 ri2)] 35) := hid (by rw [← hW]; exact (blk_other (blk_other (blk_other (blk_other (blk_other (blk_set (blk_set (blk_set (blk_set (blk_set HBR.out 0 _) 1 _) 2 _) 3 _) 4 _) (by omega) _ _) (by omega) _ _) (by omega) _ _) (by omega) _ _) (by omega) _ _))
        have HBQ' : Hd (Blk W28 b_Q #[(.int .i64 nx2), (.slice a11 fn2 c11), (.bool lk2), (.int .u64 (rk2 : Int)), (.int .i64 ri2)] 35) := hid (by rw [← hW]; exact (blk_set (blk_set (blk_set (blk_set (blk_set (blk_other (blk_other (blk_other (blk_other (blk_other HBQ.out (by omega) _ _) (by omega) _ _) (by omega) _ _) (by omega) _ _) (by omega) _ _) 0 _) 1 _) 2 _) 3 _) 4 _))
        have HBL' : Hd (Blk W28 b_L #[(.int .u64 (k3 : Int)), (.int .i64 i3)] 33) := hid (by rw [← hW]; exact (blk_other (blk_other (blk_other (blk_other (blk_other (blk_other (blk_other (blk_other (blk_other (blk_other HBL.out (by omega) _ _) (by omega) _ _) (by omega) _ _) (by omega) _ _) (by omega) _ _) (by omega) _ _) (by omega) _ _) (by omega) _ _) (by omega) _ _) (by omega) _ _))
        have B_F' : Hd (Blk W28 b_F #[(.int .i64 F.q), (.int .i64 F.k), (.bool F.u), (.slice fa fm fcp), (.int .u64 (F.t : Int))] 25) := hid (by rw [← hW]; exact (blk_other (blk_other (blk_other (blk_other (blk_other (blk_other (blk_other (blk_other (blk_other (blk_other B_F.out (by omega) _ _) (by omega) _ _) (by omega) _ _) (by omega) _ _) (by omega) _ _) (by omega) _ _) (by omega) _ _) (by omega) _ _) (by omega) _ _) (by omega) _ _))
        have HPA' : Hd (FrP (fun b => b < w.heap.size) W3.heap.size W28 (.slice a9 (pn + 1) c9) p2) := hid (HPA.out.keep KS.out (fun b _ h1 h2 => by rcases h1 with h | h <;> omega))
        have HFS' : Hd (Frs (ROut w W3 (.slice a9 (pn + 1) c9)) W28 (.slice a8 fn2 c8) fs2) := hid (HFS.out.keep KS.out (fun b _ h1 h2 => by rcases h1.1 with h | h <;> omega))
        have B_C' : Hd (Blk W28 b_C #[(.int .i64 nx2), (.slice a8 fn2 c8), (.bool lk2), (.int .u64 (rk2 : Int)), (.int .i64 ri2)] 35) := hid (by rw [← hW]; exact (blk_other (blk_other (blk_other (blk_other (blk_other (blk_other (blk_other (blk_other (blk_other (blk_other B_C.out (by omega) _ _) (by omega) _ _) (by omega) _ _) (by omega) _ _) (by omega) _ _) (by omega) _ _) (by omega) _ _) (by omega) _ _) (by omega) _ _) (by omega) _ _))
        have HGS' : Hd (Frs (ROut w W3 (.slice a9 (pn + 1) c9)) W28 (.slice a11 fn2 c11) fs2) := hid (HGS.out.keep KS.out (fun b _ h1 h2 => by rcases h1.1 with h | h <;> omega))
        have B_D' : Hd (Blk W28 b_D #[(.int .i64 nx2), (.slice a11 fn2 c11), (.bool lk2), (.int .u64 (rk2 : Int)), (.int .i64 ri2)] 35) := hid (by rw [← hW]; exact (blk_other (blk_other (blk_other (blk_other (blk_other (blk_other (blk_other (blk_other (blk_other (blk_other B_D.out (by omega) _ _) (by omega) _ _) (by omega) _ _) (by omega) _ _) (by omega) _ _) (by omega) _ _) (by omega) _ _) (by omega) _ _) (by omega) _ _) (by omega) _ _))
        clear HBR HBQ HBL B_F HPA HFS B_C HGS B_D
        have HBR := HBR'
        clear HBR'
        have HBQ := HBQ'
        clear HBQ'
        have HBL := HBL'
        clear HBL'
        have B_F := B_F'
        clear B_F'
        have HPA := HPA'
        clear HPA'
        have HFS := HFS'
        clear HFS'
        have B_C := B_C'
        clear B_C'
        have HGS := HGS'
        clear HGS'
        have B_D := B_D'
        clear B_D'
        have HK' : Hd (Keeps (fun _ => False) w W28) := hid (HK.out.trans' KS.out (fun i hi h => by omega))
        clear HK
        have HK := HK'
        clear HK'
        have z_W28 : W27.heap.size + 0 ≤ W28.heap.size := by rw [← hW]; simp
        clear hW KS
        go_wp2
        go_roundw
        case rel =>
          refine ⟨i + 1, ⟨nx2, fs2, lk2, ⟨rk2, ri2⟩⟩, ⟨k3, i3⟩, p2, a8, c8, a11, c11, a9, c9, by rw [HPN2.out], by go_num, by omega, by omega, by rw [HPN2.out]; omega, ?_, ?_, HBL, ?_, ?_, ?_, HR1, HKS, HPK2, by omega, HK⟩
          · simp only [HFN2.out]; exact HBR
          · simp only [HFN2.out]; exact HBQ
          · simp only [HFN2.out, HPN2.out]; exact HFS
          · simp only [HFN2.out, HPN2.out]; exact HGS
          · rw [HPN2.out]; exact HPA
        case measure => simp [intOf]; omega
    · clear HBR HBQ HBL HFS HGS HPA HOK HKS HPK
      by_cases hlt : i < L
      · have q1 : (i : Int) < L := by omega
        have q2 : ¬ ((i : Int) < 50) := by omega
        go_wp2_with fail
        refine (lives_any _ (HN0.out.keep HK.out (fun _ _ _ h => h))).mono ?_
        rintro e w9 ⟨rfl, hk⟩
        go_wp2
        go_ret
        exact ⟨rfl, HK.out.trans hk⟩
      · have q1 : ¬ ((i : Int) < L) := by omega
        go_wp2_with fail
        refine (lives_any _ (HN0.out.keep HK.out (fun _ _ _ h => h))).mono ?_
        rintro e w9 ⟨rfl, hk⟩
        go_wp2
        go_ret
        exact ⟨rfl, HK.out.trans hk⟩
end Go.Proofs.YthoikljmokkchaaDoor
