/- Frame: Decode of the program. -/
import Derived.Test.YthoikljmokkchaaDoorFrMid
import Derived.Test.YthoikljmokkchaaDoorWireRef
import Derived.Test.YthoikljmokkchaaDoorCrcAll
import Derived.Deep.DrawnRows
namespace Go.Proofs.YthoikljmokkchaaDoor
open Go.RowKit
attribute [local go_sem ↓] Go.wp_at_zero Go.wp_at_succ
def chk (ok : Bool) (s : Wi.St) : Wi.St := if ok then s else Wi.sFail s 5
def d1 (b : List Nat) : Wi.St × Nat := Wi.sU (0, b)
def d2 (b : List Nat) : Wi.St := chk (decide ((d1 b).2 < 256)) (d1 b).1
def d3 (b : List Nat) : Wi.St × Int := Wi.sI (d2 b)
def d4 (b : List Nat) : Wi.St := chk (decide (0 ≤ (d3 b).2)) (d3 b).1
def d5 (b : List Nat) : Wi.St × Nat := Wi.sU (d4 b)
def d6 (b : List Nat) : Wi.St := chk (decide ((d5 b).2 ≤ 1)) (d5 b).1
def d7 (b : List Nat) : Wi.St × List Nat := Wi.sB 512 (d6 b)
def d8 (b : List Nat) : Wi.St × Nat := Wi.sU (d7 b).1
def d9 (b : List Nat) : Int := Wi.sEnd (d8 b).1
def nilF : Fr := ⟨0, 0, false, [], 0⟩
def decB (b : List Nat) : Fr × Int := if d9 b = 0 then (⟨((d1 b).2 : Nat), (d3 b).2, decide ((d5 b).2 = 1), (d7 b).2, (d8 b).2⟩, 0) else (nilF, d9 b)
def decM (b : List Nat) : Fr × Int := if (Cr.opened b).2 = 0 then decB (Cr.opened b).1 else (nilF, (Cr.opened b).2)
def DecR (w : World) (m : Fr × Int) (e : Ending) (w' : World) : Prop := ∃ a c, e = .returned (.tuple #[.agg #[.int .i64 m.1.q, .int .i64 m.1.k, .bool m.1.u, .slice a m.1.b.length c, .int .u64 (m.1.t : Int)], .int .i64 m.2]) ∧ Sl (fun b => w.heap.size ≤ b) w' (.slice a m.1.b.length c) (u8s m.1.b) ∧ Keeps (fun _ => False) w w'
def RdP (K : Nat → Prop) (p : Nat) (s : Wi.St) (w : World) : Prop := Wi.Rd K w p s
theorem RdP.lt {K : Nat → Prop} {p : Nat} {s : Wi.St} {w : World} (h : RdP K p s w) : p < w.heap.size := by
  obtain ⟨_, _, _, _, _, _, _, _, _, _, h, _⟩ := h; exact h
theorem RdP.keep {K S : Nat → Prop} {p : Nat} {s : Wi.St} {w w' : World} (h : RdP K p s w) (hk : Keeps S w w') (hd : ∀ b, b < w.heap.size → (b = p ∨ K b) → ¬ S b) : RdP K p s w' :=
  Wi.Rd.keep h hk (hd p h.lt (.inl rfl)) (fun b hb hK => hd b hb (.inr hK))
set_option maxRecDepth 100000 in
set_option maxHeartbeats 1000000 in
theorem Dec1_any (ok : Bool) (pv p : Nat) (s : Wi.St) (K : Nat → Prop) (w : World) (hv : w.cell? ⟨pv, 0, none⟩ = some (.pointer (some ⟨p, 0, none⟩))) (h : RdP K p s w) :
    Calls Tryd.prog 82 #[.bool ok, .pointer (some ⟨pv, 0, none⟩)] w fun e w' => e = .returned (.tuple #[]) ∧ RdP K p (chk ok s) w' ∧ Keeps (fun k => k = p) w w' := by
  have HR := hid h
  clear h
  cases ok
  · go_enter Tryd.func82, Tryd.ntmps82
    go_wp2_with fail
    refine (Wi.RFail_any K p s 5 _ HR.out).mono ?_
    rintro e w1 ⟨rfl, h1, h2⟩
    have H1 := hid h1; have H2 := hid h2
    clear h1 h2
    go_wp2
    go_end0
    exact ⟨rfl, H1.out, H2.out⟩
  · go_enter Tryd.func82, Tryd.ntmps82
    go_wp2
    go_end0
    exact ⟨rfl, HR.out, Keeps.refl _ _⟩
theorem sEnd_zero {s : Wi.St} (h : Wi.sEnd s = 0) : s.1 = 0 := by
  unfold Wi.sEnd at h
  split at h
  · omega
  · exact h
theorem sU_zero {s : Wi.St} (h : (Wi.sU s).1.1 = 0) : s.1 = 0 := by
  unfold Wi.sU at h
  split at h
  · assumption
  · exact h
theorem sSize_zero {m : Int} {s : Wi.St} (h : (Wi.sSize m s).1.1 = 0) : s.1 = 0 := by
  by_cases h1 : (Wi.sU s).1.1 = 0
  · exact sU_zero h1
  · unfold Wi.sSize at h
    rw [if_neg h1] at h
    exact absurd h h1
theorem sB_zero {m : Int} {s : Wi.St} (h : (Wi.sB m s).1.1 = 0) : s.1 = 0 := by
  by_cases h1 : (Wi.sSize m s).1.1 = 0
  · exact sSize_zero h1
  · unfold Wi.sB at h
    rw [if_neg h1] at h
    exact absurd h h1
theorem chk_zero {ok : Bool} {s : Wi.St} (h : (chk ok s).1 = 0) : s.1 = 0 ∧ ok = true := by
  unfold chk at h
  cases ok
  · simp only [Bool.false_eq_true, if_false] at h
    unfold Wi.sFail at h
    split at h
    · exact absurd h (by show ¬ ((5 : Int) = 0); decide)
    · exact absurd h (by assumption)
  · exact ⟨h, rfl⟩
theorem dec_small {b : List Nat} {u : Nat} (h : d9 b = 0 ∧ (d1 b).2 = u) : u < 256 := by
  obtain ⟨h, rfl⟩ := h
  have h8 := sU_zero (sEnd_zero h)
  have h6 := sB_zero h8
  have h5 := chk_zero h6
  have h4 := sU_zero h5.1
  have h3 := chk_zero h4
  have h2 := sU_zero (s := d2 b) h3.1
  have h1 := chk_zero h2
  exact of_decide_eq_true h1.2
theorem decR_mk {w w' : World} {m : Fr × Int} {e : Ending} {q k er : Int} {u : Bool} {b : List Nat} {t n c : Nat} {a : Option Addr} (M : m = (⟨q, k, u, b, t⟩, er)) (hn : b.length = n)
    (he : e = .returned (.tuple #[.agg #[.int .i64 q, .int .i64 k, .bool u, .slice a n c, .int .u64 (t : Int)], .int .i64 er])) (hs : Sl (fun b => w.heap.size ≤ b) w' (.slice a n c) (u8s b)) (hk : Keeps (fun _ => False) w w') : DecR w m e w' := by
  subst M hn; exact ⟨a, c, he, hs, hk⟩
set_option maxRecDepth 100000 in
set_option maxHeartbeats 8000000 in
theorem Decode_any (l : List Nat) (K : Nat → Prop) (v : Value) (w : World) (hN : Cr.Nib w) (hv : Sl K w v (u8s l)) (hl : ∀ c ∈ l, c < 256) (hm : l.length ≤ 140737488354000) :
    Calls Tryd.prog 52 #[v] w fun e w' => DecR w (decM l) e w' := by
  have HX := hid (hv.mono (K' := fun b => b < w.heap.size) (fun b h _ => h))
  have HLT := hid hl; have HLM := hid hm
  have HN : Hd (NibR w) := hid hN
  have hpos := NibR.pos (hN : NibR w)
  clear hv hl hm hN
  obtain ⟨⟨ob, oe⟩, ho⟩ : ∃ x, Cr.opened l = x := ⟨_, rfl⟩
  have HOP := hid ho
  have HOL : Hd (∀ c ∈ ob, c < 256) := hid (fun c hc => by
    have h : c ∈ (Cr.opened l).1 := by rw [ho]; exact hc
    unfold Cr.opened at h
    split at h
    · cases h
    · split at h
      · exact HLT.out c (List.mem_of_mem_take h)
      · cases h)
  have HOM : Hd (ob.length ≤ 140737488351000 ∨ ob.length ≤ l.length - 4) := hid (.inr (by
    have h : ob = (Cr.opened l).1 := by rw [ho]
    rw [h]
    unfold Cr.opened
    split
    · exact Nat.zero_le _
    · split
      · rw [List.length_take]; omega
      · exact Nat.zero_le _))
  have HMM : Hd (decM l = if oe = 0 then decB ob else (nilF, oe)) := hid (by unfold decM; rw [ho])
  obtain ⟨MM, hMM⟩ : ∃ MM, decM l = MM := ⟨_, rfl⟩
  rw [hMM] at HMM ⊢
  clear ho hMM
  go_enter Tryd.func52, Tryd.ntmps52
  go_upto_region 1 with fail
  generalize hW : World.alloc w _ = W1
  have KS : Hd (Keeps (fun _ => False) w W1) := hid (by rw [← hW]; exact (Keeps.alloc (Keeps.refl (fun _ => False) w) _))
  have HN' : Hd (NibR W1) := hid (HN.out.keep KS.out (fun _ _ _ h => h))
  have HX' : Hd (Sl (fun b => b < w.heap.size) W1 v (u8s l)) := hid (HX.out.keep KS.out (fun _ _ _ h => h))
  have BR : Hd (Blk W1 w.heap.size #[(.int .i64 0), (.int .i64 0), (.bool false), (.slice none 0 0), (.int .u64 0)] 25) := hid (by rw [← hW]; exact (blk_new _ _ _))
  clear HN HX
  have HN := HN'
  clear HN'
  have HX := HX'
  clear HX'
  have HK : Hd (Keeps (fun _ => False) w W1) := hid KS.out
  have z_W1 : w.heap.size + 1 ≤ W1.heap.size := by rw [← hW]; simp
  clear hW KS
  go_wp2_with fail
  refine (Cr.Open_any _ _ l _ HN.out HX.out HLT.out HLM.out).mono ?_
  unfold Cr.OpenRet
  rw [HOP.out]
  simp only []
  rintro e W2 ⟨ao, no, co, rfl, hno, hoo, hk⟩
  have HOO := hid hoo; have HNO := hid hno
  clear hoo hno
  have HN' : Hd (NibR W2) := hid (HN.out.keep hk (fun _ _ _ h => h))
  have HX' : Hd (Sl (fun b => b < w.heap.size) W2 v (u8s l)) := hid (HX.out.keep hk (fun _ _ _ h => h))
  have BR' : Hd (Blk W2 w.heap.size #[(.int .i64 0), (.int .i64 0), (.bool false), (.slice none 0 0), (.int .u64 0)] 25) := hid (blk_keep BR.out hk (fun h => h))
  clear HN HX BR
  have HN := HN'
  clear HN'
  have HX := HX'
  clear HX'
  have BR := BR'
  clear BR'
  have HK' : Hd (Keeps (fun _ => False) w W2) := hid (HK.out.trans hk)
  clear HK
  have HK := HK'
  clear HK'
  have z_W2 := hk.size
  clear hk
  clear HX
  have HOO' : Hd (Own (fun k => w.heap.size < k) W2 5 1 (.slice ao no co) no (u8s ob)) := hid (HOO.out.mono (fun b _ h => by omega))
  clear HOO
  have HOO := HOO'
  clear HOO'
  by_cases her : oe = 0
  · subst her
    have HM2 : Hd (MM = decB ob) := hid (HMM.out.trans (if_pos rfl))
    clear HMM
    go_wp2_with fail
    refine (Wi.NewReader_any _ _ ob _ (row_sl HOO.out.row (by rw [u8s_length]; exact HNO.out.symm)) (by have := HOM.out; have := HLM.out; omega) HOL.out).mono ?_
    rintro e W3 ⟨p, rfl, hrd, hpl, hk⟩
    have HRD : Hd (RdP (fun k => W2.heap.size ≤ k ∧ k < p) p (0, ob) _) := hid hrd
    clear hrd
    have HN' : Hd (NibR W3) := hid (HN.out.keep hk (fun _ _ _ h => h))
    have BR' : Hd (Blk W3 w.heap.size #[(.int .i64 0), (.int .i64 0), (.bool false), (.slice none 0 0), (.int .u64 0)] 25) := hid (blk_keep BR.out hk (fun h => h))
    have HOO' : Hd (Own (fun k => w.heap.size < k) W3 5 1 (.slice ao no co) no (u8s ob)) := hid (HOO.out.keep hk (fun _ _ _ h => h))
    clear HN BR HOO
    have HN := HN'
    clear HN'
    have BR := BR'
    clear BR'
    have HOO := HOO'
    clear HOO'
    have HK' : Hd (Keeps (fun _ => False) w W3) := hid (HK.out.trans hk)
    clear HK
    have HK := HK'
    clear HK'
    have z_W3 := hk.size
    clear hk
    clear HOO
    have zlw : w.heap.size < W2.heap.size := by omega
    have lp0 := HRD.out.lt
    go_upto_region 5 with fail
    generalize hW : World.alloc W3 _ = W4
    have KS : Hd (Keeps (fun _ => False) W3 W4) := hid (by rw [← hW]; exact (Keeps.alloc (Keeps.refl (fun _ => False) W3) _))
    have HN' : Hd (NibR W4) := hid (HN.out.keep KS.out (fun _ _ _ h => h))
    have BR' : Hd (Blk W4 w.heap.size #[(.int .i64 0), (.int .i64 0), (.bool false), (.slice none 0 0), (.int .u64 0)] 25) := hid (by rw [← hW]; exact (blk_alloc BR.out _))
    have HRD' : Hd (RdP (fun k => W2.heap.size ≤ k ∧ k < p) p (0, ob) W4) := hid (HRD.out.keep KS.out (fun _ _ _ h => h))
    have BP : Hd (Blk W4 W3.heap.size #[(.pointer (some ⟨p, 0, none⟩))] 110) := hid (by rw [← hW]; exact (blk_new _ _ _))
    clear HN BR HRD
    have HN := HN'
    clear HN'
    have BR := BR'
    clear BR'
    have HRD := HRD'
    clear HRD'
    have HK' : Hd (Keeps (fun _ => False) w W4) := hid (HK.out.trans KS.out)
    clear HK
    have HK := HK'
    clear HK'
    have z_W4 : W3.heap.size + 1 ≤ W4.heap.size := by rw [← hW]; simp
    clear hW KS
    generalize hb_BP : W3.heap.size = b_BP at *
    have ltp : p < b_BP ∧ w.heap.size < p := by omega
    obtain ⟨⟨s1, u⟩, h1⟩ : ∃ x, d1 ob = x := ⟨_, rfl⟩
    obtain ⟨o1, ho1⟩ : ∃ o, decide (u < 256) = o := ⟨_, rfl⟩
    obtain ⟨s2, h2⟩ : ∃ x, d2 ob = x := ⟨_, rfl⟩
    have e2 : chk o1 s1 = s2 := by rw [← h2]; unfold d2; rw [h1, ← ho1]
    obtain ⟨⟨s3, kk⟩, h3⟩ : ∃ x, d3 ob = x := ⟨_, rfl⟩
    obtain ⟨o2, ho2⟩ : ∃ o, decide (0 ≤ kk) = o := ⟨_, rfl⟩
    obtain ⟨s4, h4⟩ : ∃ x, d4 ob = x := ⟨_, rfl⟩
    have e4 : chk o2 s3 = s4 := by rw [← h4]; unfold d4; rw [h3, ← ho2]
    obtain ⟨⟨s5, un⟩, h5⟩ : ∃ x, d5 ob = x := ⟨_, rfl⟩
    obtain ⟨o3, ho3⟩ : ∃ o, decide (un ≤ 1) = o := ⟨_, rfl⟩
    obtain ⟨s6, h6⟩ : ∃ x, d6 ob = x := ⟨_, rfl⟩
    have e6 : chk o3 s5 = s6 := by rw [← h6]; unfold d6; rw [h5, ← ho3]
    obtain ⟨⟨s7, bd⟩, h7⟩ : ∃ x, d7 ob = x := ⟨_, rfl⟩
    obtain ⟨⟨s8, tg⟩, h8⟩ : ∃ x, d8 ob = x := ⟨_, rfl⟩
    obtain ⟨er, h9⟩ : ∃ x, d9 ob = x := ⟨_, rfl⟩
    obtain ⟨o4, ho4⟩ : ∃ o, decide (un = 1) = o := ⟨_, rfl⟩
    have HD9 : Hd (d9 ob = er) := hid h9
    have HD1 : Hd ((d1 ob).2 = u) := hid (by rw [h1])
    have E1 : Hd (Wi.sU (0, ob) = (s1, u)) := hid h1
    have E2 : Hd (chk o1 s1 = s2) := hid e2
    have E3 : Hd (Wi.sI s2 = (s3, kk)) := hid (by rw [← h2]; exact h3)
    have E4 : Hd (chk o2 s3 = s4) := hid e4
    have E5 : Hd (Wi.sU s4 = (s5, un)) := hid (by rw [← h4]; exact h5)
    have E6 : Hd (chk o3 s5 = s6) := hid e6
    have E7 : Hd (Wi.sB 512 s6 = (s7, bd)) := hid (by rw [← h6]; exact h7)
    have E8 : Hd (Wi.sU s7 = (s8, tg)) := hid (by have h := h8; unfold d8 at h; rw [h7] at h; exact h)
    have E9 : Hd (Wi.sEnd s8 = er) := hid (by have h := h9; unfold d9 at h; rw [h8] at h; exact h)
    have HMB : Hd (decB ob = if er = 0 then (⟨(u : Int), kk, o4, bd, tg⟩, 0) else (nilF, er)) := hid (by unfold decB; rw [h9, h1, h3, h5, h7, h8, ← ho4])
    have O1 := hid ho1; have O2 := hid ho2; have O3 := hid ho3; have O4 := hid ho4
    clear h1 ho1 h2 e2 h3 ho2 h4 e4 h5 ho3 h6 e6 h7 h8 h9 ho4
    have o_BP_0 : W4.cell? ⟨b_BP, 0, none⟩ = some ((.pointer (some ⟨p, 0, none⟩))) := blk_cell BP.out 0
    go_wp2_with fail
    refine (Wi.RUint_any _ p (0, ob) _ HRD.out).mono ?_
    unfold Wi.RUPost
    rw [E1.out]
    simp only []
    rintro e V1 ⟨rfl, hr, hk⟩
    have HR2 : Hd (RdP (fun k => W2.heap.size ≤ k ∧ k < p) p s1 V1) := hid hr
    clear hr
    clear HRD
    clear o_BP_0
    have HN' : Hd (NibR V1) := hid (HN.out.keep hk (fun b h1 h2 h3 => by omega))
    have BR' : Hd (Blk V1 w.heap.size #[(.int .i64 0), (.int .i64 0), (.bool false), (.slice none 0 0), (.int .u64 0)] 25) := hid (blk_keep BR.out hk (fun h => by omega))
    have BP' : Hd (Blk V1 b_BP #[(.pointer (some ⟨p, 0, none⟩))] 110) := hid (blk_keep BP.out hk (fun h => by omega))
    clear HN BR BP
    have HN := HN'
    clear HN'
    have BR := BR'
    clear BR'
    have BP := BP'
    clear BP'
    have HK' : Hd (Keeps (fun _ => False) w V1) := hid (HK.out.trans' hk (fun i hi h => by omega))
    clear HK
    have HK := HK'
    clear HK'
    have z_V1 := hk.size
    clear hk
    have HRD := HR2
    clear HR2
    have q1 : decide (u < 256) = o1 := O1.out
    have q2 : decide ((u : Int) < 256) = o1 := by rw [← O1.out]; congr 1; exact propext (by omega)
    have o_BP_0 : V1.cell? ⟨b_BP, 0, none⟩ = some ((.pointer (some ⟨p, 0, none⟩))) := blk_cell BP.out 0
    go_wp2_with fail
    refine (Dec1_any o1 b_BP p s1 _ _ (blk_cell BP.out 0) HRD.out).mono ?_
    rw [E2.out]
    rintro e V2 ⟨rfl, hr, hk⟩
    have HR2 : Hd (RdP (fun k => W2.heap.size ≤ k ∧ k < p) p s2 V2) := hid hr
    clear hr
    clear HRD
    clear o_BP_0
    have HN' : Hd (NibR V2) := hid (HN.out.keep hk (fun b h1 h2 h3 => by omega))
    have BR' : Hd (Blk V2 w.heap.size #[(.int .i64 0), (.int .i64 0), (.bool false), (.slice none 0 0), (.int .u64 0)] 25) := hid (blk_keep BR.out hk (fun h => by omega))
    have BP' : Hd (Blk V2 b_BP #[(.pointer (some ⟨p, 0, none⟩))] 110) := hid (blk_keep BP.out hk (fun h => by omega))
    clear HN BR BP
    have HN := HN'
    clear HN'
    have BR := BR'
    clear BR'
    have BP := BP'
    clear BP'
    have HK' : Hd (Keeps (fun _ => False) w V2) := hid (HK.out.trans' hk (fun i hi h => by omega))
    clear HK
    have HK := HK'
    clear HK'
    have z_V2 := hk.size
    clear hk
    have HRD := HR2
    clear HR2
    clear q1 q2
    obtain ⟨cq, hcq⟩ : ∃ c, IntKind.i64.wrap (u : Int) = c := ⟨_, rfl⟩
    have HCQ := hid hcq
    have o_BP_0 : V2.cell? ⟨b_BP, 0, none⟩ = some ((.pointer (some ⟨p, 0, none⟩))) := blk_cell BP.out 0
    go_wp2_with fail
    refine (Wi.RInt_any _ p s2 _ HRD.out).mono ?_
    unfold Wi.RIPost
    rw [E3.out]
    simp only []
    rintro e V3 ⟨rfl, hr, hk⟩
    have HR2 : Hd (RdP (fun k => W2.heap.size ≤ k ∧ k < p) p s3 V3) := hid hr
    clear hr
    clear HRD
    clear o_BP_0
    have HN' : Hd (NibR V3) := hid (HN.out.keep hk (fun b h1 h2 h3 => by omega))
    have BR' : Hd (Blk V3 w.heap.size #[(.int .i64 0), (.int .i64 0), (.bool false), (.slice none 0 0), (.int .u64 0)] 25) := hid (blk_keep BR.out hk (fun h => by omega))
    have BP' : Hd (Blk V3 b_BP #[(.pointer (some ⟨p, 0, none⟩))] 110) := hid (blk_keep BP.out hk (fun h => by omega))
    clear HN BR BP
    have HN := HN'
    clear HN'
    have BR := BR'
    clear BR'
    have BP := BP'
    clear BP'
    have HK' : Hd (Keeps (fun _ => False) w V3) := hid (HK.out.trans' hk (fun i hi h => by omega))
    clear HK
    have HK := HK'
    clear HK'
    have z_V3 := hk.size
    clear hk
    have HRD := HR2
    clear HR2
    try rw [hcq]
    go_upto_region 9 with fail
    clear hcq
    generalize hW : World.alloc V3 _ = W5
    have KS : Hd (Keeps (fun _ => False) V3 W5) := hid (by rw [← hW]; exact (Keeps.alloc (Keeps.refl (fun _ => False) V3) _))
    have HN' : Hd (NibR W5) := hid (HN.out.keep KS.out (fun _ _ _ h => h))
    have BR' : Hd (Blk W5 w.heap.size #[(.int .i64 0), (.int .i64 0), (.bool false), (.slice none 0 0), (.int .u64 0)] 25) := hid (by rw [← hW]; exact (blk_alloc BR.out _))
    have BP' : Hd (Blk W5 b_BP #[(.pointer (some ⟨p, 0, none⟩))] 110) := hid (by rw [← hW]; exact (blk_alloc BP.out _))
    have HRD' : Hd (RdP (fun k => W2.heap.size ≤ k ∧ k < p) p s3 W5) := hid (HRD.out.keep KS.out (fun _ _ _ h => h))
    have B8 : Hd (Blk W5 V3.heap.size #[(.int .i64 cq), (.int .i64 kk), (.bool false), (.slice none 0 0), (.int .u64 0)] 25) := hid (by rw [← hW]; exact (blk_new _ _ _))
    clear HN BR BP HRD
    have HN := HN'
    clear HN'
    have BR := BR'
    clear BR'
    have BP := BP'
    clear BP'
    have HRD := HRD'
    clear HRD'
    have HK' : Hd (Keeps (fun _ => False) w W5) := hid (HK.out.trans KS.out)
    clear HK
    have HK := HK'
    clear HK'
    have z_W5 : V3.heap.size + 1 ≤ W5.heap.size := by rw [← hW]; simp
    clear hW KS
    generalize hb_B8 : V3.heap.size = b_B8 at *
    have lt8 : b_BP < b_B8 := by omega
    have o_B8_1 : W5.cell? ⟨b_B8, 1, none⟩ = some ((.int .i64 kk)) := blk_cell B8.out 1
    have q1 : decide (0 ≤ kk) = o2 := O2.out
    have o_BP_0 : W5.cell? ⟨b_BP, 0, none⟩ = some ((.pointer (some ⟨p, 0, none⟩))) := blk_cell BP.out 0
    go_wp2_with fail
    refine (Dec1_any o2 b_BP p s3 _ _ (blk_cell BP.out 0) HRD.out).mono ?_
    rw [E4.out]
    rintro e V4 ⟨rfl, hr, hk⟩
    have HR2 : Hd (RdP (fun k => W2.heap.size ≤ k ∧ k < p) p s4 V4) := hid hr
    clear hr
    clear HRD
    clear o_B8_1 o_BP_0
    have HN' : Hd (NibR V4) := hid (HN.out.keep hk (fun b h1 h2 h3 => by omega))
    have BR' : Hd (Blk V4 w.heap.size #[(.int .i64 0), (.int .i64 0), (.bool false), (.slice none 0 0), (.int .u64 0)] 25) := hid (blk_keep BR.out hk (fun h => by omega))
    have BP' : Hd (Blk V4 b_BP #[(.pointer (some ⟨p, 0, none⟩))] 110) := hid (blk_keep BP.out hk (fun h => by omega))
    have B8' : Hd (Blk V4 b_B8 #[(.int .i64 cq), (.int .i64 kk), (.bool false), (.slice none 0 0), (.int .u64 0)] 25) := hid (blk_keep B8.out hk (fun h => by omega))
    clear HN BR BP B8
    have HN := HN'
    clear HN'
    have BR := BR'
    clear BR'
    have BP := BP'
    clear BP'
    have B8 := B8'
    clear B8'
    have HK' : Hd (Keeps (fun _ => False) w V4) := hid (HK.out.trans' hk (fun i hi h => by omega))
    clear HK
    have HK := HK'
    clear HK'
    have z_V4 := hk.size
    clear hk
    have HRD := HR2
    clear HR2
    clear q1
    have o_BP_0 : V4.cell? ⟨b_BP, 0, none⟩ = some ((.pointer (some ⟨p, 0, none⟩))) := blk_cell BP.out 0
    go_wp2_with fail
    refine (Wi.RUint_any _ p s4 _ HRD.out).mono ?_
    unfold Wi.RUPost
    rw [E5.out]
    simp only []
    rintro e V5 ⟨rfl, hr, hk⟩
    have HR2 : Hd (RdP (fun k => W2.heap.size ≤ k ∧ k < p) p s5 V5) := hid hr
    clear hr
    clear HRD
    clear o_BP_0
    have HN' : Hd (NibR V5) := hid (HN.out.keep hk (fun b h1 h2 h3 => by omega))
    have BR' : Hd (Blk V5 w.heap.size #[(.int .i64 0), (.int .i64 0), (.bool false), (.slice none 0 0), (.int .u64 0)] 25) := hid (blk_keep BR.out hk (fun h => by omega))
    have BP' : Hd (Blk V5 b_BP #[(.pointer (some ⟨p, 0, none⟩))] 110) := hid (blk_keep BP.out hk (fun h => by omega))
    have B8' : Hd (Blk V5 b_B8 #[(.int .i64 cq), (.int .i64 kk), (.bool false), (.slice none 0 0), (.int .u64 0)] 25) := hid (blk_keep B8.out hk (fun h => by omega))
    clear HN BR BP B8
    have HN := HN'
    clear HN'
    have BR := BR'
    clear BR'
    have BP := BP'
    clear BP'
    have B8 := B8'
    clear B8'
    have HK' : Hd (Keeps (fun _ => False) w V5) := hid (HK.out.trans' hk (fun i hi h => by omega))
    clear HK
    have HK := HK'
    clear HK'
    have z_V5 := hk.size
    clear hk
    have HRD := HR2
    clear HR2
    have q1 : decide (un ≤ 1) = o3 := O3.out
    have q2 : decide ((un : Int) ≤ 1) = o3 := by rw [← O3.out]; congr 1; exact propext (by omega)
    have o_BP_0 : V5.cell? ⟨b_BP, 0, none⟩ = some ((.pointer (some ⟨p, 0, none⟩))) := blk_cell BP.out 0
    go_wp2_with fail
    refine (Dec1_any o3 b_BP p s5 _ _ (blk_cell BP.out 0) HRD.out).mono ?_
    rw [E6.out]
    rintro e V6 ⟨rfl, hr, hk⟩
    have HR2 : Hd (RdP (fun k => W2.heap.size ≤ k ∧ k < p) p s6 V6) := hid hr
    clear hr
    clear HRD
    clear o_BP_0
    have HN' : Hd (NibR V6) := hid (HN.out.keep hk (fun b h1 h2 h3 => by omega))
    have BR' : Hd (Blk V6 w.heap.size #[(.int .i64 0), (.int .i64 0), (.bool false), (.slice none 0 0), (.int .u64 0)] 25) := hid (blk_keep BR.out hk (fun h => by omega))
    have BP' : Hd (Blk V6 b_BP #[(.pointer (some ⟨p, 0, none⟩))] 110) := hid (blk_keep BP.out hk (fun h => by omega))
    have B8' : Hd (Blk V6 b_B8 #[(.int .i64 cq), (.int .i64 kk), (.bool false), (.slice none 0 0), (.int .u64 0)] 25) := hid (blk_keep B8.out hk (fun h => by omega))
    clear HN BR BP B8
    have HN := HN'
    clear HN'
    have BR := BR'
    clear BR'
    have BP := BP'
    clear BP'
    have B8 := B8'
    clear B8'
    have HK' : Hd (Keeps (fun _ => False) w V6) := hid (HK.out.trans' hk (fun i hi h => by omega))
    clear HK
    have HK := HK'
    clear HK'
    have z_V6 := hk.size
    clear hk
    have HRD := HR2
    clear HR2
    clear q1 q2
    have q1 : ((un : Int) == 1) = o4 := by rw [← O4.out]; rw [Bool.eq_iff_iff]; simp; omega
    have q2 : (un == 1) = o4 := by rw [← O4.out]; rw [Bool.eq_iff_iff]; simp
    have o_B8_2 : V6.cell? ⟨b_B8, 2, none⟩ = some ((.bool false)) := blk_cell B8.out 2
    have f_B8_2 : V6.frozen? ⟨b_B8, 2, none⟩ = false := blk_free B8.out 2
    go_upto_region 13 with fail
    clear q1 q2
    clear o_B8_2 f_B8_2
    generalize hW : World.setCell V6 _ _ = W6
    have KS : Hd (Keeps (fun b => b = b_B8) V6 W6) := hid (by rw [← hW]; exact (Keeps.setCell (S := fun b => b = b_B8) (p := ⟨b_B8, 2, none⟩) (Keeps.refl (fun b => b = b_B8) V6) (.inl rfl) _))
    have HN' : Hd (NibR W6) := hid (HN.out.keep KS.out (fun b h1 h2 h3 => by omega))
    have BR' : Hd (Blk W6 w.heap.size #[(.int .i64 0), (.int .i64 0), (.bool false), (.slice none 0 0), (.int .u64 0)] 25) := hid (by rw [← hW]; exact (blk_other BR.out (by omega) _ _))
    have BP' : Hd (Blk W6 b_BP #[(.pointer (some ⟨p, 0, none⟩))] 110) := hid (by rw [← hW]; exact (blk_other BP.out (by omega) _ _))
    have B8' : Hd (Blk W6 b_B8 #[(.int .i64 cq), (.int .i64 kk), (.bool o4), (.slice none 0 0), (.int .u64 0)] 25) := hid (by rw [← hW]; exact (blk_set B8.out 2 _))
    have HRD' : Hd (RdP (fun k => W2.heap.size ≤ k ∧ k < p) p s6 W6) := hid (HRD.out.keep KS.out (fun b _ h1 h2 => by omega))
    clear HN BR BP B8 HRD
    have HN := HN'
    clear HN'
    have BR := BR'
    clear BR'
    have BP := BP'
    clear BP'
    have B8 := B8'
    clear B8'
    have HRD := HRD'
    clear HRD'
    have HK' : Hd (Keeps (fun _ => False) w W6) := hid (HK.out.trans' KS.out (fun i hi h => by omega))
    clear HK
    have HK := HK'
    clear HK'
    have z_W6 : V6.heap.size + 0 ≤ W6.heap.size := by rw [← hW]; simp
    clear hW KS
    have o_BP_0 : W6.cell? ⟨b_BP, 0, none⟩ = some ((.pointer (some ⟨p, 0, none⟩))) := blk_cell BP.out 0
    go_wp2_with fail
    refine (Wi.RBytes_any _ p 512 s6 _ HRD.out (by omega)).mono ?_
    unfold Wi.RBPost
    rw [E7.out]
    simp only []
    rintro e V7 ⟨a7, n7, c7, rfl, hn7, ho7, hr, hk⟩
    have HR2 : Hd (RdP (fun k => W2.heap.size ≤ k ∧ k < p) p s7 V7) := hid hr
    clear hr
    clear HRD
    clear o_BP_0
    have HN' : Hd (NibR V7) := hid (HN.out.keep hk (fun b h1 h2 h3 => by omega))
    have BR' : Hd (Blk V7 w.heap.size #[(.int .i64 0), (.int .i64 0), (.bool false), (.slice none 0 0), (.int .u64 0)] 25) := hid (blk_keep BR.out hk (fun h => by omega))
    have BP' : Hd (Blk V7 b_BP #[(.pointer (some ⟨p, 0, none⟩))] 110) := hid (blk_keep BP.out hk (fun h => by omega))
    have B8' : Hd (Blk V7 b_B8 #[(.int .i64 cq), (.int .i64 kk), (.bool o4), (.slice none 0 0), (.int .u64 0)] 25) := hid (blk_keep B8.out hk (fun h => by omega))
    clear HN BR BP B8
    have HN := HN'
    clear HN'
    have BR := BR'
    clear BR'
    have BP := BP'
    clear BP'
    have B8 := B8'
    clear B8'
    have HK' : Hd (Keeps (fun _ => False) w V7) := hid (HK.out.trans' hk (fun i hi h => by omega))
    clear HK
    have HK := HK'
    clear HK'
    have z_V7 := hk.size
    clear hk
    have HRD := HR2
    clear HR2
    have HN7 := hid hn7; have HO7 := hid ho7
    clear hn7 ho7
    have HO7' : Hd (Own (fun k => b_B8 < k) V7 5 1 (.slice a7 n7 c7) n7 (u8s bd)) := hid (HO7.out.mono (fun b _ h => by omega))
    clear HO7
    have HO7 := HO7'
    clear HO7'
    have o_B8_3 : V7.cell? ⟨b_B8, 3, none⟩ = some ((.slice none 0 0)) := blk_cell B8.out 3
    have f_B8_3 : V7.frozen? ⟨b_B8, 3, none⟩ = false := blk_free B8.out 3
    go_upto_region 14 with fail
    clear o_B8_3 f_B8_3
    generalize hW : World.setCell V7 _ _ = W7
    have KS : Hd (Keeps (fun b => b = b_B8) V7 W7) := hid (by rw [← hW]; exact (Keeps.setCell (S := fun b => b = b_B8) (p := ⟨b_B8, 3, none⟩) (Keeps.refl (fun b => b = b_B8) V7) (.inl rfl) _))
    have HN' : Hd (NibR W7) := hid (HN.out.keep KS.out (fun b h1 h2 h3 => by omega))
    have BR' : Hd (Blk W7 w.heap.size #[(.int .i64 0), (.int .i64 0), (.bool false), (.slice none 0 0), (.int .u64 0)] 25) := hid (by rw [← hW]; exact (blk_other BR.out (by omega) _ _))
    have BP' : Hd (Blk W7 b_BP #[(.pointer (some ⟨p, 0, none⟩))] 110) := hid (by rw [← hW]; exact (blk_other BP.out (by omega) _ _))
    have B8' : Hd (Blk W7 b_B8 #[(.int .i64 cq), (.int .i64 kk), (.bool o4), (.slice a7 n7 c7), (.int .u64 0)] 25) := hid (by rw [← hW]; exact (blk_set B8.out 3 _))
    have HRD' : Hd (RdP (fun k => W2.heap.size ≤ k ∧ k < p) p s7 W7) := hid (HRD.out.keep KS.out (fun b _ h1 h2 => by omega))
    have HO7' : Hd (Own (fun k => b_B8 < k) W7 5 1 (.slice a7 n7 c7) n7 (u8s bd)) := hid (HO7.out.keep KS.out (fun b _ h1 h2 => by omega))
    clear HN BR BP B8 HRD HO7
    have HN := HN'
    clear HN'
    have BR := BR'
    clear BR'
    have BP := BP'
    clear BP'
    have B8 := B8'
    clear B8'
    have HRD := HRD'
    clear HRD'
    have HO7 := HO7'
    clear HO7'
    have HK' : Hd (Keeps (fun _ => False) w W7) := hid (HK.out.trans' KS.out (fun i hi h => by omega))
    clear HK
    have HK := HK'
    clear HK'
    have z_W7 : V7.heap.size + 0 ≤ W7.heap.size := by rw [← hW]; simp
    clear hW KS
    have o_BP_0 : W7.cell? ⟨b_BP, 0, none⟩ = some ((.pointer (some ⟨p, 0, none⟩))) := blk_cell BP.out 0
    go_wp2_with fail
    refine (Wi.RUint_any _ p s7 _ HRD.out).mono ?_
    unfold Wi.RUPost
    rw [E8.out]
    simp only []
    rintro e V8 ⟨rfl, hr, hk⟩
    have HR2 : Hd (RdP (fun k => W2.heap.size ≤ k ∧ k < p) p s8 V8) := hid hr
    clear hr
    clear HRD
    clear o_BP_0
    have HN' : Hd (NibR V8) := hid (HN.out.keep hk (fun b h1 h2 h3 => by omega))
    have BR' : Hd (Blk V8 w.heap.size #[(.int .i64 0), (.int .i64 0), (.bool false), (.slice none 0 0), (.int .u64 0)] 25) := hid (blk_keep BR.out hk (fun h => by omega))
    have BP' : Hd (Blk V8 b_BP #[(.pointer (some ⟨p, 0, none⟩))] 110) := hid (blk_keep BP.out hk (fun h => by omega))
    have B8' : Hd (Blk V8 b_B8 #[(.int .i64 cq), (.int .i64 kk), (.bool o4), (.slice a7 n7 c7), (.int .u64 0)] 25) := hid (blk_keep B8.out hk (fun h => by omega))
    have HO7' : Hd (Own (fun k => b_B8 < k) V8 5 1 (.slice a7 n7 c7) n7 (u8s bd)) := hid (HO7.out.keep hk (fun b h1 h2 h3 => by omega))
    clear HN BR BP B8 HO7
    have HN := HN'
    clear HN'
    have BR := BR'
    clear BR'
    have BP := BP'
    clear BP'
    have B8 := B8'
    clear B8'
    have HO7 := HO7'
    clear HO7'
    have HK' : Hd (Keeps (fun _ => False) w V8) := hid (HK.out.trans' hk (fun i hi h => by omega))
    clear HK
    have HK := HK'
    clear HK'
    have z_V8 := hk.size
    clear hk
    have HRD := HR2
    clear HR2
    have o_B8_4 : V8.cell? ⟨b_B8, 4, none⟩ = some ((.int .u64 0)) := blk_cell B8.out 4
    have f_B8_4 : V8.frozen? ⟨b_B8, 4, none⟩ = false := blk_free B8.out 4
    go_upto_region 15 with fail
    clear o_B8_4 f_B8_4
    generalize hW : World.setCell V8 _ _ = W8
    have KS : Hd (Keeps (fun b => b = b_B8) V8 W8) := hid (by rw [← hW]; exact (Keeps.setCell (S := fun b => b = b_B8) (p := ⟨b_B8, 4, none⟩) (Keeps.refl (fun b => b = b_B8) V8) (.inl rfl) _))
    have HN' : Hd (NibR W8) := hid (HN.out.keep KS.out (fun b h1 h2 h3 => by omega))
    have BR' : Hd (Blk W8 w.heap.size #[(.int .i64 0), (.int .i64 0), (.bool false), (.slice none 0 0), (.int .u64 0)] 25) := hid (by rw [← hW]; exact (blk_other BR.out (by omega) _ _))
    have BP' : Hd (Blk W8 b_BP #[(.pointer (some ⟨p, 0, none⟩))] 110) := hid (by rw [← hW]; exact (blk_other BP.out (by omega) _ _))
    have B8' : Hd (Blk W8 b_B8 #[(.int .i64 cq), (.int .i64 kk), (.bool o4), (.slice a7 n7 c7), (.int .u64 (tg : Int))] 25) := hid (by rw [← hW]; exact (blk_set B8.out 4 _))
    have HO7' : Hd (Own (fun k => b_B8 < k) W8 5 1 (.slice a7 n7 c7) n7 (u8s bd)) := hid (HO7.out.keep KS.out (fun b _ h1 h2 => by omega))
    have HRD' : Hd (RdP (fun k => W2.heap.size ≤ k ∧ k < p) p s8 W8) := hid (HRD.out.keep KS.out (fun b _ h1 h2 => by omega))
    clear HN BR BP B8 HO7 HRD
    have HN := HN'
    clear HN'
    have BR := BR'
    clear BR'
    have BP := BP'
    clear BP'
    have B8 := B8'
    clear B8'
    have HO7 := HO7'
    clear HO7'
    have HRD := HRD'
    clear HRD'
    have HK' : Hd (Keeps (fun _ => False) w W8) := hid (HK.out.trans' KS.out (fun i hi h => by omega))
    clear HK
    have HK := HK'
    clear HK'
    have z_W8 : V8.heap.size + 0 ≤ W8.heap.size := by rw [← hW]; simp
    clear hW KS
    have o_BP_0 : W8.cell? ⟨b_BP, 0, none⟩ = some ((.pointer (some ⟨p, 0, none⟩))) := blk_cell BP.out 0
    go_wp2_with fail
    refine (Wi.REnd_any _ p s8 _ HRD.out).mono ?_
    rw [E9.out]
    rintro e V20 ⟨rfl, hd⟩
    have hk := drawn_keeps (fun _ => False) hd
    clear hd
    clear o_BP_0
    have HN' : Hd (NibR V20) := hid (HN.out.keep hk (fun _ _ _ h => h))
    have BR' : Hd (Blk V20 w.heap.size #[(.int .i64 0), (.int .i64 0), (.bool false), (.slice none 0 0), (.int .u64 0)] 25) := hid (blk_keep BR.out hk (fun h => h))
    have BP' : Hd (Blk V20 b_BP #[(.pointer (some ⟨p, 0, none⟩))] 110) := hid (blk_keep BP.out hk (fun h => h))
    have B8' : Hd (Blk V20 b_B8 #[(.int .i64 cq), (.int .i64 kk), (.bool o4), (.slice a7 n7 c7), (.int .u64 (tg : Int))] 25) := hid (blk_keep B8.out hk (fun h => h))
    have HO7' : Hd (Own (fun k => b_B8 < k) V20 5 1 (.slice a7 n7 c7) n7 (u8s bd)) := hid (HO7.out.keep hk (fun _ _ _ h => h))
    have HRD' : Hd (RdP (fun k => W2.heap.size ≤ k ∧ k < p) p s8 V20) := hid (HRD.out.keep hk (fun _ _ _ h => h))
    clear HN BR BP B8 HO7 HRD
    have HN := HN'
    clear HN'
    have BR := BR'
    clear BR'
    have BP := BP'
    clear BP'
    have B8 := B8'
    clear B8'
    have HO7 := HO7'
    clear HO7'
    have HRD := HRD'
    clear HRD'
    have HK' : Hd (Keeps (fun _ => False) w V20) := hid (HK.out.trans hk)
    clear HK
    have HK := HK'
    clear HK'
    have z_V20 := hk.size
    clear hk
    by_cases hz : er = 0
    · have HUZ : Hd (d9 ob = 0 ∧ (d1 ob).2 = u) := hid ⟨HD9.out.trans hz, HD1.out⟩
      have HM4 : Hd (MM = (⟨(u : Int), kk, o4, bd, tg⟩, 0)) := hid (HM2.out.trans (HMB.out.trans (if_pos hz)))
      subst hz
      have o_B8_0 : V20.cell? ⟨b_B8, 0, none⟩ = some ((.int .i64 cq)) := blk_cell B8.out 0
      have o_B8_1 : V20.cell? ⟨b_B8, 1, none⟩ = some ((.int .i64 kk)) := blk_cell B8.out 1
      have o_B8_2 : V20.cell? ⟨b_B8, 2, none⟩ = some ((.bool o4)) := blk_cell B8.out 2
      have o_B8_3 : V20.cell? ⟨b_B8, 3, none⟩ = some ((.slice a7 n7 c7)) := blk_cell B8.out 3
      have o_B8_4 : V20.cell? ⟨b_B8, 4, none⟩ = some ((.int .u64 (tg : Int))) := blk_cell B8.out 4
      have o_BR_0 : V20.cell? ⟨w.heap.size, 0, none⟩ = some ((.int .i64 0)) := blk_cell BR.out 0
      have o_BR_1 : V20.cell? ⟨w.heap.size, 1, none⟩ = some ((.int .i64 0)) := blk_cell BR.out 1
      have o_BR_2 : V20.cell? ⟨w.heap.size, 2, none⟩ = some ((.bool false)) := blk_cell BR.out 2
      have o_BR_3 : V20.cell? ⟨w.heap.size, 3, none⟩ = some ((.slice none 0 0)) := blk_cell BR.out 3
      have o_BR_4 : V20.cell? ⟨w.heap.size, 4, none⟩ = some ((.int .u64 0)) := blk_cell BR.out 4
      have f_BR_0 : V20.frozen? ⟨w.heap.size, 0, none⟩ = false := blk_free BR.out 0
      have f_BR_1 : V20.frozen? ⟨w.heap.size, 1, none⟩ = false := blk_free BR.out 1
      have f_BR_2 : V20.frozen? ⟨w.heap.size, 2, none⟩ = false := blk_free BR.out 2
      have f_BR_3 : V20.frozen? ⟨w.heap.size, 3, none⟩ = false := blk_free BR.out 3
      have f_BR_4 : V20.frozen? ⟨w.heap.size, 4, none⟩ = false := blk_free BR.out 4
      go_wp2
      clear o_B8_0 o_B8_1 o_B8_2 o_B8_3 o_B8_4 o_BR_0 o_BR_1 o_BR_2 o_BR_3 o_BR_4 f_BR_0 f_BR_1 f_BR_2 f_BR_3 f_BR_4
      have HCU : Hd (cq = (u : Int)) := hid (by rw [← HCQ.out]; exact IntWalk.i64_in _ (by have := dec_small HUZ.out; omega))
      obtain ⟨HV2, B3⟩ := fin5 HK.out (show w.heap.size ≤ w.heap.size by omega) BR.out (.int .i64 cq) (.int .i64 kk) (.bool o4) (.slice a7 n7 c7) (.int .u64 (tg : Int))
      have r0 := blk_cell B3 0
      have r1 := blk_cell B3 1
      have r2 := blk_cell B3 2
      have r3 := blk_cell B3 3
      have r4 := blk_cell B3 4
      have k9 := keep5 V20 w.heap.size (.int .i64 cq) (.int .i64 kk) (.bool o4) (.slice a7 n7 c7) (.int .u64 (tg : Int))
      refine bodyPost_ret (v := .tuple #[.agg #[(.int .i64 cq), (.int .i64 kk), (.bool o4), (.slice a7 n7 c7), (.int .u64 (tg : Int))], .int .i64 0]) (by simp [results, Tryd.results52, go_sem, r0, r1, r2, r3, r4]) rfl ?_
      exact decR_mk (a := a7) (c := c7) (n := n7) (by rw [HM4.out, HCU.out]) (by have h := HN7.out; omega) rfl ((row_sl (HO7.out.keep k9 (fun b _ h1 h2 => by omega)).row (by rw [u8s_length]; exact HN7.out.symm)).mono (fun b _ h => by omega)) HV2
    · have hne : (er == 0) = false := by simp; exact hz
      have hne2 : (er != 0) = true := by simp; exact hz
      have o_BR_0 : V20.cell? ⟨w.heap.size, 0, none⟩ = some ((.int .i64 0)) := blk_cell BR.out 0
      have o_BR_1 : V20.cell? ⟨w.heap.size, 1, none⟩ = some ((.int .i64 0)) := blk_cell BR.out 1
      have o_BR_2 : V20.cell? ⟨w.heap.size, 2, none⟩ = some ((.bool false)) := blk_cell BR.out 2
      have o_BR_3 : V20.cell? ⟨w.heap.size, 3, none⟩ = some ((.slice none 0 0)) := blk_cell BR.out 3
      have o_BR_4 : V20.cell? ⟨w.heap.size, 4, none⟩ = some ((.int .u64 0)) := blk_cell BR.out 4
      have f_BR_0 : V20.frozen? ⟨w.heap.size, 0, none⟩ = false := blk_free BR.out 0
      have f_BR_1 : V20.frozen? ⟨w.heap.size, 1, none⟩ = false := blk_free BR.out 1
      have f_BR_2 : V20.frozen? ⟨w.heap.size, 2, none⟩ = false := blk_free BR.out 2
      have f_BR_3 : V20.frozen? ⟨w.heap.size, 3, none⟩ = false := blk_free BR.out 3
      have f_BR_4 : V20.frozen? ⟨w.heap.size, 4, none⟩ = false := blk_free BR.out 4
      go_wp2
      clear o_BR_0 o_BR_1 o_BR_2 o_BR_3 o_BR_4 f_BR_0 f_BR_1 f_BR_2 f_BR_3 f_BR_4
      obtain ⟨HV2, B3⟩ := fin5 HK.out (show w.heap.size ≤ w.heap.size by omega) BR.out (.int .i64 0) (.int .i64 0) (.bool false) (.slice none 0 0) (.int .u64 0)
      have r0 := blk_cell B3 0
      have r1 := blk_cell B3 1
      have r2 := blk_cell B3 2
      have r3 := blk_cell B3 3
      have r4 := blk_cell B3 4
      have k9 := keep5 V20 w.heap.size (.int .i64 0) (.int .i64 0) (.bool false) (.slice none 0 0) (.int .u64 0)
      refine bodyPost_ret (v := .tuple #[.agg #[(.int .i64 0), (.int .i64 0), (.bool false), (.slice none 0 0), (.int .u64 0)], .int .i64 er]) (by simp [results, Tryd.results52, go_sem, r0, r1, r2, r3, r4]) rfl ?_
      exact decR_mk (a := none) (c := 0) (n := 0) (HM2.out.trans (HMB.out.trans (if_neg hz))) rfl rfl (Sl.nil _ _) HV2
  · have hne : (oe == 0) = false := by simp; exact her
    have hne2 : (oe != 0) = true := by simp; exact her
    have o_BR_0 : W2.cell? ⟨w.heap.size, 0, none⟩ = some ((.int .i64 0)) := blk_cell BR.out 0
    have o_BR_1 : W2.cell? ⟨w.heap.size, 1, none⟩ = some ((.int .i64 0)) := blk_cell BR.out 1
    have o_BR_2 : W2.cell? ⟨w.heap.size, 2, none⟩ = some ((.bool false)) := blk_cell BR.out 2
    have o_BR_3 : W2.cell? ⟨w.heap.size, 3, none⟩ = some ((.slice none 0 0)) := blk_cell BR.out 3
    have o_BR_4 : W2.cell? ⟨w.heap.size, 4, none⟩ = some ((.int .u64 0)) := blk_cell BR.out 4
    have f_BR_0 : W2.frozen? ⟨w.heap.size, 0, none⟩ = false := blk_free BR.out 0
    have f_BR_1 : W2.frozen? ⟨w.heap.size, 1, none⟩ = false := blk_free BR.out 1
    have f_BR_2 : W2.frozen? ⟨w.heap.size, 2, none⟩ = false := blk_free BR.out 2
    have f_BR_3 : W2.frozen? ⟨w.heap.size, 3, none⟩ = false := blk_free BR.out 3
    have f_BR_4 : W2.frozen? ⟨w.heap.size, 4, none⟩ = false := blk_free BR.out 4
    go_wp2
    clear o_BR_0 o_BR_1 o_BR_2 o_BR_3 o_BR_4 f_BR_0 f_BR_1 f_BR_2 f_BR_3 f_BR_4
    obtain ⟨HV2, B3⟩ := fin5 HK.out (show w.heap.size ≤ w.heap.size by omega) BR.out (.int .i64 0) (.int .i64 0) (.bool false) (.slice none 0 0) (.int .u64 0)
    have r0 := blk_cell B3 0
    have r1 := blk_cell B3 1
    have r2 := blk_cell B3 2
    have r3 := blk_cell B3 3
    have r4 := blk_cell B3 4
    have k9 := keep5 W2 w.heap.size (.int .i64 0) (.int .i64 0) (.bool false) (.slice none 0 0) (.int .u64 0)
    refine bodyPost_ret (v := .tuple #[.agg #[(.int .i64 0), (.int .i64 0), (.bool false), (.slice none 0 0), (.int .u64 0)], .int .i64 oe]) (by simp [results, Tryd.results52, go_sem, r0, r1, r2, r3, r4]) rfl ?_
    exact decR_mk (a := none) (c := 0) (n := 0) (HMM.out.trans (if_neg her)) rfl rfl (Sl.nil _ _) HV2
end Go.Proofs.YthoikljmokkchaaDoor
