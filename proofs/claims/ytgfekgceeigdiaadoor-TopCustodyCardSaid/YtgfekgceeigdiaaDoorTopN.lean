/- TopCustody: arrive. -/
import Derived.Test.YtgfekgceeigdiaaDoorTopSend
namespace Go.Proofs.YtgfekgceeigdiaaDoor
open Go.RowKit
attribute [local go_sem ↓] Go.wp_at_zero Go.wp_at_succ
/-- the two numbers that a message begins with -/
def rdK (y : List Nat) : Wi.St × Int := Wi.sI (0, y)
def rdI (y : List Nat) : Wi.St × Int := Wi.sI (rdK y).1
def rdF (y : List Nat) : Wi.St × Int := Wi.sI (rdI y).1
def rdO (y : List Nat) : Wi.St × Int := Wi.sI (rdF y).1
def rdA (y : List Nat) : Wi.St × Int := Wi.sI (rdO y).1
def rdS (y : List Nat) : Wi.St × Nat := Wi.sU (rdA y).1
def rdD (y : List Nat) : Wi.St × List Nat := Wi.sB 256 (rdS y).1
def RdT (lo px : Nat) (s : Wi.St) (w : World) : Prop := lo ≤ px ∧ Wi.Rd (fun k => lo ≤ k ∧ k < px) w px s
theorem RdT.keep {S : Nat → Prop} {lo px : Nat} {s : Wi.St} {w w' : World} (h : RdT lo px s w) (hk : Keeps S w w') (hd : ∀ b, b < w.heap.size → (lo ≤ b ∧ b ≤ px) → ¬ S b) : RdT lo px s w' :=
  ⟨h.1, h.2.keep hk (hd px h.2.lt ⟨h.1, Nat.le_refl _⟩) (fun b hb hh => hd b hb ⟨hh.1, Nat.le_of_lt hh.2⟩)⟩
theorem opened_len (data : List Nat) : (Cr.opened data).1.length ≤ data.length := by
  unfold Cr.opened
  split
  · simp
  · split
    · rw [List.length_take]; omega
    · simp
def ConNo (bs : List Bu) (ii : Int) (v : Value) : Prop := ∃ qq a0 n0 c0 a1 n1 c1 a2 n2 c2 er, v = .tuple #[.agg #[.int .i64 qq, .slice a0 n0 c0, .slice a1 n1 c1, .slice a2 n2 c2], .int .i64 er] ∧ (er = 0 ∧ (∃ x ∈ bs, x.i = ii) ∨ er = 3)
theorem con_no_er {er ee ii : Int} {bs : List Bu} (h : er = 0 ∧ (∃ x ∈ bs, x.i = ii) ∨ er = 3) (hno : (∀ x ∈ bs, x.i ≠ ii) ∨ ee ≠ 0) (he : ee = 0) : (er == 0) = false := by
  rcases h with ⟨e1, x, hx, hx2⟩ | e1
  · rcases hno with h | h
    · exact absurd hx2 (h x hx)
    · exact absurd he h
  · subst e1; rfl
theorem opened_lt {data : List Nat} (h : ∀ c ∈ data, c < 256) : ∀ c ∈ (Cr.opened data).1, c < 256 := by
  intro c hc
  unfold Cr.opened at hc
  split at hc
  · cases hc
  · split at hc
    · exact h c (List.mem_of_mem_take hc)
    · cases hc
set_option maxRecDepth 100000 in set_option maxHeartbeats 1000000 in
theorem arrive_bad (p at_ : Nat) (tick : Int) (ad : Option Addr) (cd : Nat) (data : List Nat) (w : World) (hN : Cr.Nib w) (hd : Sl (fun _ => True) w (.slice ad data.length cd) (u8s data)) (h8 : ∀ c ∈ data, c < 256) (hdl : data.length ≤ 100000) (hb : (Cr.opened data).2 ≠ 0) :
    Calls Tryd.prog 31 #[.pointer (some ⟨p, 0, none⟩), .int .i64 tick, .int .i64 (at_ : Nat), .slice ad data.length cd] w fun e w' => e = .returned (.tuple #[]) ∧ Keeps (fun _ => False) w w' := by
  have HN : Hd (NibF w) := hid hN
  have HD := hid (hd.mono (K' := fun b => b < w.heap.size) (fun b h _ => h)); have H8 := hid h8
  clear hN hd h8
  obtain ⟨y, hy⟩ : ∃ y, (Cr.opened data).1 = y := ⟨_, rfl⟩
  have HYL : Hd (y.length ≤ data.length ∧ ∀ c ∈ y, c < 256) := hid (by rw [← hy]; exact ⟨opened_len data, opened_lt H8.out⟩)
  obtain ⟨oe, hoe⟩ : ∃ e, (Cr.opened data).2 = e := ⟨_, rfl⟩
  have HY := hid hy; have HOE := hid hoe
  clear hy hoe
  obtain ⟨dn, hdn⟩ : ∃ n, data.length = n := ⟨_, rfl⟩
  have HDN := hid hdn
  rw [hdn] at HD hdl ⊢
  clear hdn
  rw [HOE.out] at hb
  have hb2 : (oe == 0) = false := by simp; exact hb
  have hb3 : (oe != 0) = true := by simp; exact hb
  clear hb
  go_enter Tryd.func31, Tryd.ntmps31
  go_wp2_with fail
  have hcc := Cr.Open_any (fun b => b < w.heap.size) (.slice ad dn cd) data w HN.out HD.out H8.out (by rw [HDN.out]; omega)
  unfold Cr.OpenRet at hcc
  rw [HY.out, HOE.out] at hcc
  refine hcc.mono ?_
  clear hcc
  rintro e W1 ⟨ao, no, co, rfl, hno, hoo, hk⟩
  have SO : Hd (Sl (fun _ => True) W1 (.slice ao no co) (u8s y)) := hid ((row_sl hoo.row (by rw [hno, u8s_length])).mono (fun _ _ _ => trivial))
  clear hoo hno
  have HN' : Hd (NibF W1) := hid (HN.out.keep hk (fun _ _ _ h => h))
  have HD' : Hd (Sl (fun b => b < w.heap.size) W1 (.slice ad dn cd) (u8s data)) := hid (HD.out.keep hk (fun _ _ _ h => h))
  clear HN HD
  have HN := HN'
  clear HN'
  have HD := HD'
  clear HD'
  have HK : Hd (Keeps (fun _ => False) w W1) := hid hk
  have z_W1 := hk.size
  clear hk
  go_wp2_with fail
  refine (Wi.NewReader_any _ _ y _ SO.out (by have := HYL.out.1; have := HDN.out; omega) HYL.out.2).mono ?_
  rintro e W2 ⟨px, rfl, hx1, hx2, hk⟩
  have X1 : Hd (RdT W1.heap.size px (0, y) W2) := hid ⟨hx2, hx1⟩
  have lpx : px < W2.heap.size := hx1.lt
  clear hx1 SO
  have HN' : Hd (NibF W2) := hid (HN.out.keep hk (fun _ _ _ h => h))
  have HD' : Hd (Sl (fun b => b < w.heap.size) W2 (.slice ad dn cd) (u8s data)) := hid (HD.out.keep hk (fun _ _ _ h => h))
  clear HN HD
  have HN := HN'
  clear HN'
  have HD := HD'
  clear HD'
  have HK' : Hd (Keeps (fun _ => False) w W2) := hid (HK.out.trans hk)
  clear HK
  have HK := HK'
  clear HK'
  have z_W2 := hk.size
  clear hk
  go_wp2
  refine bodyPost_ret (results_none rfl _ _ _) rfl ?_
  exact ⟨rfl, HK.out⟩
set_option maxRecDepth 100000 in set_option maxHeartbeats 1000000 in
theorem arrive_con_no (p at_ : Nat) (tick : Int) (ad : Option Addr) (cd : Nat) (data y : List Nat) (w : World) (hN : Cr.Nib w) (hd : Sl (fun _ => True) w (.slice ad data.length cd) (u8s data)) (h8 : ∀ c ∈ data, c < 256) (hdl : data.length ≤ 100000) (hop : Cr.opened data = (y, 0)) (ab ap aq : Option Addr) (cb cp cq : Nat) (bs : List Bu) (ps sn : List Int) (q : Int) (hc0 : w.cell? ⟨p, at_ * 4, none⟩ = some (.int .i64 q)) (hc1 : w.cell? ⟨p, at_ * 4 + 1, none⟩ = some (.slice ab bs.length cb)) (hc2 : w.cell? ⟨p, at_ * 4 + 2, none⟩ = some (.slice ap ps.length cp)) (hc3 : w.cell? ⟨p, at_ * 4 + 3, none⟩ = some (.slice aq sn.length cq))
    (hb : Bus (fun _ => True) w (.slice ab bs.length cb) bs) (hp : Sl (fun _ => True) w (.slice ap ps.length cp) (i64s ps)) (hs : Sl (fun _ => True) w (.slice aq sn.length cq) (i64s sn)) (l1 : bs.length ≤ 60) (l2 : ps.length ≤ 1000) (l3 : sn.length ≤ 1000) (hdb : ∀ x ∈ bs, x.d.length ≤ 256) (hat : at_ ≤ 2) (hps : ps.Pairwise (· < ·)) (hk1 : (rdK y).2 = 1) (hno : (∀ x ∈ bs, x.i ≠ (rdI y).2) ∨ Wi.sEnd (rdI y).1 ≠ 0) :
    Calls Tryd.prog 31 #[.pointer (some ⟨p, 0, none⟩), .int .i64 tick, .int .i64 (at_ : Nat), .slice ad data.length cd] w fun e w' => e = .returned (.tuple #[]) ∧ Keeps (fun _ => False) w w' := by
  have HKK := hid hk1
  obtain ⟨ii, hii⟩ : ∃ i, (rdI y).2 = i := ⟨_, rfl⟩
  have HII := hid hii
  rw [hii] at hno
  obtain ⟨ee, hee⟩ : ∃ i, Wi.sEnd (rdI y).1 = i := ⟨_, rfl⟩
  have HEE := hid hee
  rw [hee] at hno
  have HNO := hid hno
  have HPSS := hid hps
  clear hk1 hii hee hno hps
  have HN : Hd (NibF w) := hid hN
  have HD := hid (hd.mono (K' := fun b => b < w.heap.size) (fun b h _ => h)); have H8 := hid h8
  have HYL : Hd (y.length ≤ data.length ∧ ∀ c ∈ y, c < 256) := hid (by have h1 := opened_len data; have h2 := opened_lt h8; rw [hop] at h1 h2; exact ⟨h1, h2⟩)
  have HY : Hd ((Cr.opened data).1 = y) := hid (by rw [hop]); have HOE : Hd ((Cr.opened data).2 = 0) := hid (by rw [hop])
  clear hN hd h8 hop
  obtain ⟨dn, hdn⟩ : ∃ n, data.length = n := ⟨_, rfl⟩
  have HDN := hid hdn
  rw [hdn] at HD hdl ⊢
  clear hdn
  have HB := hid (hb.mono (K' := fun b => b < w.heap.size) (fun b h _ => h)); have HP := hid (hp.mono (K' := fun b => b < w.heap.size) (fun b h _ => h)); have HS := hid (hs.mono (K' := fun b => b < w.heap.size) (fun b h _ => h)); have HDB := hid hdb
  have lp : p < w.heap.size := cell_lt hc0
  obtain ⟨n, hn⟩ : ∃ n, bs.length = n := ⟨_, rfl⟩
  obtain ⟨np, hnp⟩ : ∃ n, ps.length = n := ⟨_, rfl⟩
  obtain ⟨ns, hns⟩ : ∃ n, sn.length = n := ⟨_, rfl⟩
  have HNB := hid hn; have HNP := hid hnp; have HNS := hid hns
  rw [hn] at HB l1 hc1
  rw [hnp] at HP l2 hc2
  rw [hns] at HS l3 hc3
  have HPC : Hd (∀ X, Keeps (fun _ => False) w X → (X.cell? ⟨p, at_ * 4, none⟩ = some (.int .i64 q) ∧ X.cell? ⟨p, at_ * 4 + 1, none⟩ = some (.slice ab n cb) ∧ X.cell? ⟨p, at_ * 4 + 2, none⟩ = some (.slice ap np cp) ∧ X.cell? ⟨p, at_ * 4 + 3, none⟩ = some (.slice aq ns cq))) := hid (fun X hk => ⟨keep_cell hk (fun h => h) hc0, keep_cell hk (fun h => h) hc1, keep_cell hk (fun h => h) hc2, keep_cell hk (fun h => h) hc3⟩)
  clear hb hp hs hdb hn hnp hns hc0 hc1 hc2 hc3
  go_enter Tryd.func31, Tryd.ntmps31
  go_wp2_with fail
  have hcc := Cr.Open_any (fun b => b < w.heap.size) (.slice ad dn cd) data w HN.out HD.out H8.out (by rw [HDN.out]; omega)
  unfold Cr.OpenRet at hcc
  rw [HY.out, HOE.out] at hcc
  refine hcc.mono ?_
  clear hcc
  rintro e W1 ⟨ao, no, co, rfl, hno, hoo, hk⟩
  have SO : Hd (Sl (fun _ => True) W1 (.slice ao no co) (u8s y)) := hid ((row_sl hoo.row (by rw [hno, u8s_length])).mono (fun _ _ _ => trivial))
  clear hoo hno
  have HN' : Hd (NibF W1) := hid (HN.out.keep hk (fun _ _ _ h => h))
  have HD' : Hd (Sl (fun b => b < w.heap.size) W1 (.slice ad dn cd) (u8s data)) := hid (HD.out.keep hk (fun _ _ _ h => h))
  have HB' : Hd (Bus (fun b => b < w.heap.size) W1 (.slice ab n cb) bs) := hid (HB.out.keep hk (fun _ _ _ h => h))
  have HP' : Hd (Sl (fun b => b < w.heap.size) W1 (.slice ap np cp) (i64s ps)) := hid (HP.out.keep hk (fun _ _ _ h => h))
  have HS' : Hd (Sl (fun b => b < w.heap.size) W1 (.slice aq ns cq) (i64s sn)) := hid (HS.out.keep hk (fun _ _ _ h => h))
  clear HN HD HB HP HS
  have HN := HN'
  clear HN'
  have HD := HD'
  clear HD'
  have HB := HB'
  clear HB'
  have HP := HP'
  clear HP'
  have HS := HS'
  clear HS'
  have HK : Hd (Keeps (fun _ => False) w W1) := hid hk
  have z_W1 := hk.size
  clear hk
  go_wp2_with fail
  refine (Wi.NewReader_any _ _ y _ SO.out (by have := HYL.out.1; have := HDN.out; omega) HYL.out.2).mono ?_
  rintro e W2 ⟨px, rfl, hx1, hx2, hk⟩
  have X1 : Hd (RdT W1.heap.size px (0, y) W2) := hid ⟨hx2, hx1⟩
  have lpx : px < W2.heap.size := hx1.lt
  clear hx1 SO
  have HN' : Hd (NibF W2) := hid (HN.out.keep hk (fun _ _ _ h => h))
  have HD' : Hd (Sl (fun b => b < w.heap.size) W2 (.slice ad dn cd) (u8s data)) := hid (HD.out.keep hk (fun _ _ _ h => h))
  have HB' : Hd (Bus (fun b => b < w.heap.size) W2 (.slice ab n cb) bs) := hid (HB.out.keep hk (fun _ _ _ h => h))
  have HP' : Hd (Sl (fun b => b < w.heap.size) W2 (.slice ap np cp) (i64s ps)) := hid (HP.out.keep hk (fun _ _ _ h => h))
  have HS' : Hd (Sl (fun b => b < w.heap.size) W2 (.slice aq ns cq) (i64s sn)) := hid (HS.out.keep hk (fun _ _ _ h => h))
  clear HN HD HB HP HS
  have HN := HN'
  clear HN'
  have HD := HD'
  clear HD'
  have HB := HB'
  clear HB'
  have HP := HP'
  clear HP'
  have HS := HS'
  clear HS'
  have HK' : Hd (Keeps (fun _ => False) w W2) := hid (HK.out.trans hk)
  clear HK
  have HK := HK'
  clear HK'
  have z_W2 := hk.size
  clear hk
  go_wp2_with fail
  refine (Wi.RInt_any _ px (0, y) _ X1.out.2).mono ?_
  rintro e W3 ⟨rfl, hrd, hk⟩
  have X1n : Hd (RdT W1.heap.size px (rdK y).1 W3) := hid ⟨X1.out.1, hrd⟩
  clear hrd X1
  have HN' : Hd (NibF W3) := hid (HN.out.keep hk (fun b h1 h2 h3 => by omega))
  have HD' : Hd (Sl (fun b => b < w.heap.size) W3 (.slice ad dn cd) (u8s data)) := hid (HD.out.keep hk (fun b h1 h2 h3 => by omega))
  have HB' : Hd (Bus (fun b => b < w.heap.size) W3 (.slice ab n cb) bs) := hid (HB.out.keep hk (fun b h1 h2 h3 => by omega))
  have HP' : Hd (Sl (fun b => b < w.heap.size) W3 (.slice ap np cp) (i64s ps)) := hid (HP.out.keep hk (fun b h1 h2 h3 => by omega))
  have HS' : Hd (Sl (fun b => b < w.heap.size) W3 (.slice aq ns cq) (i64s sn)) := hid (HS.out.keep hk (fun b h1 h2 h3 => by omega))
  clear HN HD HB HP HS
  have HN := HN'
  clear HN'
  have HD := HD'
  clear HD'
  have HB := HB'
  clear HB'
  have HP := HP'
  clear HP'
  have HS := HS'
  clear HS'
  have HK' : Hd (Keeps (fun _ => False) w W3) := hid (HK.out.trans' hk (fun i hi h => by omega))
  clear HK
  have HK := HK'
  clear HK'
  have z_W3 := hk.size
  clear hk
  have X1 := X1n
  clear X1n
  rw [show (Wi.sI (0, y)).2 = 1 from HKK.out]
  go_wp2_with fail
  refine (Wi.RInt_any _ px (rdK y).1 _ X1.out.2).mono ?_
  rintro e W4 ⟨rfl, hrd, hk⟩
  have X1n : Hd (RdT W1.heap.size px (rdI y).1 W4) := hid ⟨X1.out.1, hrd⟩
  clear hrd X1
  have HN' : Hd (NibF W4) := hid (HN.out.keep hk (fun b h1 h2 h3 => by omega))
  have HD' : Hd (Sl (fun b => b < w.heap.size) W4 (.slice ad dn cd) (u8s data)) := hid (HD.out.keep hk (fun b h1 h2 h3 => by omega))
  have HB' : Hd (Bus (fun b => b < w.heap.size) W4 (.slice ab n cb) bs) := hid (HB.out.keep hk (fun b h1 h2 h3 => by omega))
  have HP' : Hd (Sl (fun b => b < w.heap.size) W4 (.slice ap np cp) (i64s ps)) := hid (HP.out.keep hk (fun b h1 h2 h3 => by omega))
  have HS' : Hd (Sl (fun b => b < w.heap.size) W4 (.slice aq ns cq) (i64s sn)) := hid (HS.out.keep hk (fun b h1 h2 h3 => by omega))
  clear HN HD HB HP HS
  have HN := HN'
  clear HN'
  have HD := HD'
  clear HD'
  have HB := HB'
  clear HB'
  have HP := HP'
  clear HP'
  have HS := HS'
  clear HS'
  have HK' : Hd (Keeps (fun _ => False) w W4) := hid (HK.out.trans' hk (fun i hi h => by omega))
  clear HK
  have HK := HK'
  clear HK'
  have z_W4 := hk.size
  clear hk
  have X1 := X1n
  clear X1n
  rw [show (Wi.sI (rdK y).1).2 = ii from HII.out]
  go_upto_region 5 with fail
  generalize hW : World.alloc W4 _ = W5
  have KS : Hd (Keeps (fun _ => False) W4 W5) := hid (by rw [← hW]; exact (Keeps.alloc (Keeps.refl (fun _ => False) W4) _))
  have HN' : Hd (NibF W5) := hid (HN.out.keep KS.out (fun _ _ _ h => h))
  have HD' : Hd (Sl (fun b => b < w.heap.size) W5 (.slice ad dn cd) (u8s data)) := hid (HD.out.keep KS.out (fun _ _ _ h => h))
  have HB' : Hd (Bus (fun b => b < w.heap.size) W5 (.slice ab n cb) bs) := hid (HB.out.keep KS.out (fun _ _ _ h => h))
  have HP' : Hd (Sl (fun b => b < w.heap.size) W5 (.slice ap np cp) (i64s ps)) := hid (HP.out.keep KS.out (fun _ _ _ h => h))
  have HS' : Hd (Sl (fun b => b < w.heap.size) W5 (.slice aq ns cq) (i64s sn)) := hid (HS.out.keep KS.out (fun _ _ _ h => h))
  have X1' : Hd (RdT W1.heap.size px (rdI y).1 W5) := hid (X1.out.keep KS.out (fun _ _ _ h => h))
  have BX : Hd (Blk W5 W4.heap.size #[(.int .i64 ii), (.int .i64 0), (.int .i64 0), (.int .i64 0), (.int .i64 0), (.int .i64 0), (.int .u32 0), (.slice none 0 0)] 59) := hid (by rw [← hW]; exact (blk_new _ _ _))
  clear HN HD HB HP HS X1
  have HN := HN'
  clear HN'
  have HD := HD'
  clear HD'
  have HB := HB'
  clear HB'
  have HP := HP'
  clear HP'
  have HS := HS'
  clear HS'
  have X1 := X1'
  clear X1'
  have HK' : Hd (Keeps (fun _ => False) w W5) := hid (HK.out.trans KS.out)
  clear HK
  have HK := HK'
  clear HK'
  have z_W5 : W4.heap.size + 1 ≤ W5.heap.size := by rw [← hW]; simp
  clear hW KS
  generalize hbX : W4.heap.size = bX at *
  clear hbX
  have HCF : Hd (∀ X, Keeps (fun _ => False) W5 X → Calls Tryd.prog 48 #[.agg #[.int .i64 q, .slice ab n cb, .slice ap np cp, .slice aq ns cq], .int .i64 ii] X fun e w' => ∃ qq a0 n0 c0 a1 n1 c1 a2 n2 c2 er, e = .returned (.tuple #[.agg #[.int .i64 qq, .slice a0 n0 c0, .slice a1 n1 c1, .slice a2 n2 c2], .int .i64 er]) ∧ (er = 0 ∧ (∃ x ∈ bs, x.i = ii) ∨ er = 3) ∧ Keeps (fun _ => False) X w') := hid (fun X hk => by
    by_cases hx : ∃ x ∈ bs, x.i = ii
    · have h := Confirm_yes (fun b => b < w.heap.size) q bs ps sn ab ap aq cb cp cq X (by rw [HNB.out]; exact HB.out.keep hk (fun _ _ _ h => h)) (by rw [HNP.out]; exact HP.out.keep hk (fun _ _ _ h => h)) (by rw [HNS.out]; exact HS.out.keep hk (fun _ _ _ h => h)) (by rw [HNB.out]; omega) (by rw [HNP.out]; omega) (by rw [HNS.out]; omega) HDB.out ii hx HPSS.out
      rw [HNB.out, HNP.out, HNS.out] at h
      refine h.mono ?_
      rintro e w' ⟨v, k, x, _, _, rfl, ⟨a0, c0, a1, c1, a2, c2, rfl, _⟩, hk2⟩
      exact ⟨_, _, _, _, _, _, _, _, _, _, _, rfl, .inl ⟨rfl, hx⟩, hk2⟩
    · have h := Confirm_no (fun b => b < w.heap.size) q bs ps sn ab ap aq cb cp cq X (by rw [HNB.out]; exact HB.out.keep hk (fun _ _ _ h => h)) (by rw [HNP.out]; exact HP.out.keep hk (fun _ _ _ h => h)) (by rw [HNS.out]; exact HS.out.keep hk (fun _ _ _ h => h)) (by rw [HNB.out]; omega) (by rw [HNP.out]; omega) (by rw [HNS.out]; omega) HDB.out ii (fun x h1 h2 => hx ⟨x, h1, h2⟩)
      rw [HNB.out, HNP.out, HNS.out] at h
      refine h.mono ?_
      rintro e w' ⟨rfl, hk2⟩
      exact ⟨_, _, _, _, _, _, _, _, _, _, _, rfl, .inr rfl, hk2⟩)
  go_upto_region 6 with fail
  have HPX : Hd (∀ X, Keeps (fun _ => False) W5 X → (X.cell? ⟨p, at_ * 4, none⟩ = some (.int .i64 q) ∧ X.cell? ⟨p, at_ * 4 + 1, none⟩ = some (.slice ab n cb) ∧ X.cell? ⟨p, at_ * 4 + 2, none⟩ = some (.slice ap np cp) ∧ X.cell? ⟨p, at_ * 4 + 3, none⟩ = some (.slice aq ns cq))) := hid (fun X hk => HPC.out X (HK.out.trans hk))
  refine Mm.wp_many (C := Mm.mkMC [8] [(8, [8]), (9, [8]), (10, [8]), (11, [8]), (13, [8]), (14, [8])] [(12, 44, #[(.int .i64 0), (.slice none 0 0), (.slice none 0 0), (.slice none 0 0)])] [(13, 12, 10)] [(fun r => .pointer (some ⟨p, 0, none⟩)), (fun r => .int .i64 (at_ : Nat)), (fun r => .pointer (some ⟨p, 0, none⟩)), (fun r => .pointer (some ⟨p, 0, none⟩)), (fun r => .pointer (some ⟨p, at_ * 4, none⟩)), (fun r => .agg #[.int .i64 q, .slice ab n cb, .slice ap np cp, .slice aq ns cq]), (fun r => .pointer (some ⟨bX, 0, none⟩)), (fun r => .int .i64 ii), (fun r => r 8), (fun r => r 8), (fun r => Mm.tupAt (r 8) 0), (fun r => Mm.tupAt (r 8) 1), (fun _ => undef), (fun _ => undef), (fun r => Mm.tupAt (r 8) 1)] (fun _ r => aggCells (Mm.tupAt (r 8) 0)) ((fun (_ : Nat) (_ : Nat → Prop) (v : Value) (_ : World) => ConNo bs ii v))) (by kernel_rfl) ?H ?HV ?HC ?HE
  case H =>
    refine { back := by kernel_rfl, dst := uniqB_spec (by kernel_rfl), szd := underB_spec (by kernel_rfl), val := Mm.valB_spec3 (f := Mm.mkV [(12, 44, #[(.int .i64 0), (.slice none 0 0), (.slice none 0 0), (.slice none 0 0)])] [(13, 12, 10)]) (by kernel_rfl), alo := ?_, sto := ?_, stc := ?_, all := Mm.allB3_spec (f := Mm.mkV [(12, 44, #[(.int .i64 0), (.slice none 0 0), (.slice none 0 0), (.slice none 0 0)])] [(13, 12, 10)]) (g := Mm.mkA [(12, 44, #[(.int .i64 0), (.slice none 0 0), (.slice none 0 0), (.slice none 0 0)])]) (h := Mm.mkS [(13, 12, 10)]) (by kernel_rfl), nva := ?_, nvs := ?_, one := ?_, civ := ?_, nd := ?_, ndc := ?_, pc := Mm.pcB_spec (by kernel_rfl), dd := Mm.ddB_spec (by kernel_rfl), sem := oneSem 44 #[.int .i64 0, .slice none 0 0, .slice none 0 0, .slice none 0 0] _ _ 12 13 10 8 _ _ (fun v => Mm.tupAt v 0) rfl rfl (fun w => by go_simp) (fun _ _ _ _ _ _ h _ _ => h) (fun _ _ _ _ _ h _ => h) (fun K r w h b cs hb hz => by obtain ⟨qq, a0, n0, c0, a1, n1, c1, a2, n2, c2, er, rfl, -⟩ := h; obtain ⟨w', e1, e2, e3⟩ := st_store hb hz qq a0 a1 a2 n0 n1 n2 c0 c1 c2; exact ⟨w', e1, e2, e3, rfl⟩) }
    · intro j o h0 ha
      have h1 : 12 = j := by simpa [Mm.mkMC] using ha
      subst h1
      all_goals
        have h2 := h0
        simp only [List.getElem?_cons_succ, List.getElem?_cons_zero, Option.some.injEq] at h2
        subst h2
        exact ⟨⟨_, rfl⟩, rfl, rfl⟩
    · intro s o h0 ha
      have h1 : 13 = s := by simpa [Mm.mkMC] using ha
      subst h1
      all_goals
        have h2 := h0
        simp only [List.getElem?_cons_succ, List.getElem?_cons_zero, Option.some.injEq] at h2
        subst h2
        exact ⟨_, _, _, _, rfl, rfl, rfl, rfl, rfl, rfl, rfl, waitsB_spec (by kernel_rfl), waitsB_spec (by kernel_rfl)⟩
    · intro s ha
      have h1 : 13 = s := by simpa [Mm.mkMC] using ha
      subst h1
      all_goals exact ⟨rfl, rfl⟩
    · intro s ha
      have h1 : 12 = s := by simpa [Mm.mkMC] using ha
      subst h1
      all_goals exact ⟨rfl, rfl, fun c => by simp [Mm.mkMC]⟩
    · intro s ha
      have h1 : 13 = s := by simpa [Mm.mkMC] using ha
      subst h1
      all_goals exact ⟨rfl, rfl⟩
    · intro s t ha hb hst
      have h1 : 13 = s := by simpa [Mm.mkMC] using ha
      subst h1
      all_goals (have h2 : 13 = t := by simpa [Mm.mkMC] using hb)
      exact h2
    · intro c hc
      have h1 : c = 8 := by simpa [Mm.mkMC] using hc
      subst h1
      all_goals exact ⟨rfl, rfl, fun _ => rfl⟩
    · intro i r r' hv hD
      match i, hD with
      | 0, _ => rfl
      | 1, _ => rfl
      | 2, _ => rfl
      | 3, _ => rfl
      | 4, _ => rfl
      | 5, _ => rfl
      | 6, _ => rfl
      | 7, _ => rfl
      | 8, hD => exact (show (r 8 : Value) = r' 8 by rw [hD 8 rfl])
      | 9, hD => exact (show (r 8 : Value) = r' 8 by rw [hD 8 rfl])
      | 10, hD => exact (show (Mm.tupAt (r 8) 0 : Value) = Mm.tupAt (r' 8) 0 by rw [hD 8 rfl])
      | 11, hD => exact (show (Mm.tupAt (r 8) 1 : Value) = Mm.tupAt (r' 8) 1 by rw [hD 8 rfl])
      | 12, _ => rfl
      | 13, _ => rfl
      | 14, hD => exact (show (Mm.tupAt (r 8) 1 : Value) = Mm.tupAt (r' 8) 1 by rw [hD 8 rfl])
      | n + 15, _ => rfl
    · intro s r r' ha hD
      have h1 : 13 = s := by simpa [Mm.mkMC] using ha
      subst h1
      · show ((fun _ r => aggCells (Mm.tupAt (r 8) 0)) : Nat → (Nat → Value) → Array Value) 13 r = ((fun _ r => aggCells (Mm.tupAt (r 8) 0)) : Nat → (Nat → Value) → Array Value) 13 r'
        simp only [hD 8 rfl]
  case HV =>
    intro iq o hv hnc hi actq w' r hk hd hR
    match iq, hv, hnc, hi, hR with
    | 0, _, _, hi, hR =>
      have hi1 := hi
      simp only [List.getElem?_cons_succ, List.getElem?_cons_zero, Option.some.injEq] at hi1
      subst hi1
      have e0 : actq.eval (.tmp 0) = .pointer (some ⟨p, 0, none⟩) := (hd.out (by kernel_rfl)).trans rfl
      exact wpOp_ranL hi rfl (v := .pointer (some ⟨p, 0, none⟩)) (w' := w') (by simp only [execOp, e0]; rfl) ⟨rfl, Keeps.refl _ _⟩
    | 1, _, _, hi, hR =>
      have hi1 := hi
      simp only [List.getElem?_cons_succ, List.getElem?_cons_zero, Option.some.injEq] at hi1
      subst hi1
      have e0 : actq.eval (.tmp 2) = .int .i64 (at_ : Nat) := (hd.out (by kernel_rfl)).trans rfl
      exact wpOp_ranL hi rfl (v := .int .i64 (at_ : Nat)) (w' := w') (by simp only [execOp, e0]; rfl) ⟨rfl, Keeps.refl _ _⟩
    | 2, _, _, hi, hR =>
      have hi1 := hi
      simp only [List.getElem?_cons_succ, List.getElem?_cons_zero, Option.some.injEq] at hi1
      subst hi1
      have e0 : actq.eval (.tmp 39) = .pointer (some ⟨p, 0, none⟩) := hd.val (j := 0) (by kernel_rfl) rfl rfl rfl
      exact wpOp_ranL hi rfl (v := .pointer (some ⟨p, 0, none⟩)) (w' := w') (by simp only [execOp, e0]; rfl) ⟨rfl, Keeps.refl _ _⟩
    | 3, _, _, hi, hR =>
      have hi1 := hi
      simp only [List.getElem?_cons_succ, List.getElem?_cons_zero, Option.some.injEq] at hi1
      subst hi1
      have e0 : actq.eval (.tmp 41) = .pointer (some ⟨p, 0, none⟩) := hd.val (j := 2) (by kernel_rfl) rfl rfl rfl
      exact wpOp_ranL hi rfl (v := .pointer (some ⟨p, 0, none⟩)) (w' := w') (by simp only [execOp, e0]; go_simp) ⟨rfl, Keeps.refl _ _⟩
    | 4, _, _, hi, hR =>
      have hi1 := hi
      simp only [List.getElem?_cons_succ, List.getElem?_cons_zero, Option.some.injEq] at hi1
      subst hi1
      have e0 : actq.eval (.tmp 42) = .pointer (some ⟨p, 0, none⟩) := hd.val (j := 3) (by kernel_rfl) rfl rfl rfl
      have e1 : actq.eval (.tmp 40) = .int .i64 (at_ : Nat) := hd.val (j := 1) (by kernel_rfl) rfl rfl rfl
      have hat0 : (0 : Int) ≤ (at_ : Int) := by omega
      have hat3 : (at_ : Int) < 3 := by omega
      exact wpOp_ranL hi rfl (v := .pointer (some ⟨p, at_ * 4, none⟩)) (w' := w') (by simp only [execOp, e0, e1]; go_simp) ⟨rfl, Keeps.refl _ _⟩
    | 5, _, _, hi, hR =>
      have hi1 := hi
      simp only [List.getElem?_cons_succ, List.getElem?_cons_zero, Option.some.injEq] at hi1
      subst hi1
      have e0 : actq.eval (.tmp 43) = .pointer (some ⟨p, at_ * 4, none⟩) := hd.val (j := 4) (by kernel_rfl) rfl rfl rfl
      have c0 := (HPX.out _ hk).1
      have c1 := (HPX.out _ hk).2.1
      have c2 := (HPX.out _ hk).2.2.1
      have c3 := (HPX.out _ hk).2.2.2
      exact wpOp_ranL hi rfl (v := .agg #[.int .i64 q, .slice ab n cb, .slice ap np cp, .slice aq ns cq]) (w' := w') (by simp only [execOp, e0]; go_simp) ⟨rfl, Keeps.refl _ _⟩
    | 6, _, _, hi, hR =>
      have hi1 := hi
      simp only [List.getElem?_cons_succ, List.getElem?_cons_zero, Option.some.injEq] at hi1
      subst hi1
      have e0 : actq.eval (.tmp 12) = .pointer (some ⟨bX, 0, none⟩) := (hd.out (by kernel_rfl)).trans rfl
      exact wpOp_ranL hi rfl (v := .pointer (some ⟨bX, 0, none⟩)) (w' := w') (by simp only [execOp, e0]; go_simp) ⟨rfl, Keeps.refl _ _⟩
    | 7, _, _, hi, hR =>
      have hi1 := hi
      simp only [List.getElem?_cons_succ, List.getElem?_cons_zero, Option.some.injEq] at hi1
      subst hi1
      have e0 : actq.eval (.tmp 45) = .pointer (some ⟨bX, 0, none⟩) := hd.val (j := 6) (by kernel_rfl) rfl rfl rfl
      have c0 := blk_cell (blk_keep BX.out hk (fun h => h)) 0
      exact wpOp_ranL hi rfl (v := .int .i64 ii) (w' := w') (by simp only [execOp, e0]; go_simp) ⟨rfl, Keeps.refl _ _⟩
    | 8, _, hnc, _, _ => cases hnc
    | 9, _, _, hi, hR =>
      have hi1 := hi
      simp only [List.getElem?_cons_succ, List.getElem?_cons_zero, Option.some.injEq] at hi1
      subst hi1
      have e0 : actq.eval (.tmp 47) = r 8 := hd.val (j := 8) (by kernel_rfl) rfl rfl rfl
      exact wpOp_ranL hi rfl (v := r 8) (w' := w') (by simp only [execOp, e0]; rfl) ⟨rfl, Keeps.refl _ _⟩
    | 10, _, _, hi, hR =>
      have hi1 := hi
      simp only [List.getElem?_cons_succ, List.getElem?_cons_zero, Option.some.injEq] at hi1
      subst hi1
      have e0 : actq.eval (.tmp 38) = r 8 := hd.val (j := 9) (by kernel_rfl) rfl rfl rfl
      obtain ⟨K7, hR7⟩ := hR 8 rfl
      obtain ⟨qq, a0, n0, c0, a1, n1, c1, a2, n2, c2, er, hrv, -⟩ := hR7
      rw [hrv] at e0
      exact wpOp_ranL hi rfl (v := .agg #[.int .i64 qq, .slice a0 n0 c0, .slice a1 n1 c1, .slice a2 n2 c2]) (w' := w') (by simp only [execOp, e0]; rfl) ⟨congrArg (actq.put (some 48)) (show (.agg #[.int .i64 qq, .slice a0 n0 c0, .slice a1 n1 c1, .slice a2 n2 c2] : Value) = Mm.tupAt (r 8) 0 from by rw [hrv]; rfl), Keeps.refl _ _⟩
    | 11, _, _, hi, hR =>
      have hi1 := hi
      simp only [List.getElem?_cons_succ, List.getElem?_cons_zero, Option.some.injEq] at hi1
      subst hi1
      have e0 : actq.eval (.tmp 38) = r 8 := hd.val (j := 9) (by kernel_rfl) rfl rfl rfl
      obtain ⟨K7, hR7⟩ := hR 8 rfl
      obtain ⟨qq, a0, n0, c0, a1, n1, c1, a2, n2, c2, er, hrv, -⟩ := hR7
      rw [hrv] at e0
      exact wpOp_ranL hi rfl (v := .int .i64 er) (w' := w') (by simp only [execOp, e0]; rfl) ⟨congrArg (actq.put (some 49)) (show (.int .i64 er : Value) = Mm.tupAt (r 8) 1 from by rw [hrv]; rfl), Keeps.refl _ _⟩
    | 12, hv, _, _, _ => cases hv
    | 13, hv, _, _, _ => cases hv
    | 14, _, _, hi, hR =>
      have hi1 := hi
      simp only [List.getElem?_cons_succ, List.getElem?_cons_zero, Option.some.injEq] at hi1
      subst hi1
      have e0 : actq.eval (.tmp 49) = Mm.tupAt (r 8) 1 := hd.val (j := 11) (by kernel_rfl) rfl rfl rfl
      exact wpOp_ranL hi rfl (v := Mm.tupAt (r 8) 1) (w' := w') (by simp only [execOp, e0]; rfl) ⟨rfl, Keeps.refl _ _⟩
    | n + 15, _, _, hi, _ => simp at hi
  case HC =>
    intro c o hc hi actq w' r hk hd hR
    have h1 : c = 8 := by simpa [Mm.mkMC] using hc
    subst h1
    · have hi1 := hi
      simp only [List.getElem?_cons_succ, List.getElem?_cons_zero, Option.some.injEq] at hi1
      subst hi1
      have e0 : actq.eval (.tmp 44) = .agg #[.int .i64 q, .slice ab n cb, .slice ap np cp, .slice aq ns cq] := hd.val (j := 5) (by kernel_rfl) rfl rfl rfl
      have e1 : actq.eval (.tmp 46) = .int .i64 ii := hd.val (j := 7) (by kernel_rfl) rfl rfl rfl
      exact wpOp_callL hi rfl (f := 48) (args := #[.agg #[.int .i64 q, .slice ab n cb, .slice ap np cp, .slice aq ns cq], .int .i64 ii]) (by simp only [execOp_call_go, List.map_toArray, List.map_cons, List.map_nil, e0, e1]; rfl) ((HCF.out w' hk).mono (fun e w2 ⟨qq, a0, n0, c0, a1, n1, c1, a2, n2, c2, er, he, her, hk2⟩ => ⟨_, he, _, rfl, hk2, ⟨qq, a0, n0, c0, a1, n1, c1, a2, n2, c2, er, rfl, her⟩⟩))
  case HE =>
    intro L actq w' gg r hL hT
    have em := act_mix (bs := [true, true, true, true, true, true, true, true, true, true, true, true, true, false, false, true, true, true, true, true, true, true, true, true, true, true, true, true, true, true, true, true, true, true, true, true, true, true, false, false, false, false, false, false, false, false, false, false, false, false, true, true, true, true, true, true, true, true, true, true, true, true, true, true, true, true, true, true, true, true, true, true, true, true, true, true, true, true, true, true, true, true, true, true, true, true, true, true, true, true, true, true, true, true, true, true, true, true, true, true, true, true, true, true, true, true, true, true, true, true, true, true, true, true, true, true, true, true, true, true, true]) hT.sz hT.df hT.fr rfl (by kernel_rfl)
    have kW := hT.kp
    have hR8 := hT.c 8 rfl (hL 8 (by decide))
    obtain ⟨eA12, zA12, cs12, -, bA12, sA12⟩ := hT.al 12 rfl (hL 12 (by decide)) _ 13 rfl rfl
    have sA12 := sA12 13 rfl (hL 13 (by decide)) rfl
    subst sA12
    change actq.tmps.getD 13 undef = _ at eA12
    change Blk w' (gg 12) (aggCells (Mm.tupAt (r 8) 0)) 44 at bA12
    have k14 : actq.tmps.getD 14 undef = Mm.tupAt (r 8) 1 := hT.v 14 _ 14 rfl (hL 14 (by decide)) rfl rfl
    generalize hrv8 : r 8 = rv8 at *
    clear hrv8
    obtain ⟨qq, a0, n0, c0, a1, n1, c1, a2, n2, c2, er, rfl, her⟩ := hR8
    change actq.tmps.getD 14 undef = .int .i64 er at k14
    generalize gg 12 = g12 at *
    clear hT hL
    simp only [mix, eA12, k14] at em
    clear eA12 k14
    generalize actq.tmps.getD 39 undef = q39 at em
    generalize actq.tmps.getD 40 undef = q40 at em
    generalize actq.tmps.getD 41 undef = q41 at em
    generalize actq.tmps.getD 42 undef = q42 at em
    generalize actq.tmps.getD 43 undef = q43 at em
    generalize actq.tmps.getD 44 undef = q44 at em
    generalize actq.tmps.getD 45 undef = q45 at em
    generalize actq.tmps.getD 46 undef = q46 at em
    generalize actq.tmps.getD 47 undef = q47 at em
    generalize actq.tmps.getD 38 undef = q38 at em
    generalize actq.tmps.getD 48 undef = q48 at em
    generalize actq.tmps.getD 49 undef = q49 at em
    subst em
    simp only [Exit.then]
    obtain ⟨W6, rfl⟩ : ∃ V, V = w' := ⟨_, rfl⟩
    change Blk W6 g12 #[.int .i64 qq, .slice a0 n0 c0, .slice a1 n1 c1, .slice a2 n2 c2] _ at bA12
    have RR := hid bA12
    clear bA12 HPX
    have ltR := blk_lt RR.out
    have HN' : Hd (NibF W6) := hid (HN.out.keep kW (fun _ _ _ h => h))
    have HD' : Hd (Sl (fun b => b < w.heap.size) W6 (.slice ad dn cd) (u8s data)) := hid (HD.out.keep kW (fun _ _ _ h => h))
    have HB' : Hd (Bus (fun b => b < w.heap.size) W6 (.slice ab n cb) bs) := hid (HB.out.keep kW (fun _ _ _ h => h))
    have HP' : Hd (Sl (fun b => b < w.heap.size) W6 (.slice ap np cp) (i64s ps)) := hid (HP.out.keep kW (fun _ _ _ h => h))
    have HS' : Hd (Sl (fun b => b < w.heap.size) W6 (.slice aq ns cq) (i64s sn)) := hid (HS.out.keep kW (fun _ _ _ h => h))
    have X1' : Hd (RdT W1.heap.size px (rdI y).1 W6) := hid (X1.out.keep kW (fun _ _ _ h => h))
    have BX' : Hd (Blk W6 bX #[(.int .i64 ii), (.int .i64 0), (.int .i64 0), (.int .i64 0), (.int .i64 0), (.int .i64 0), (.int .u32 0), (.slice none 0 0)] 59) := hid (blk_keep BX.out kW (fun h => h))
    clear HN HD HB HP HS X1 BX
    have HN := HN'
    clear HN'
    have HD := HD'
    clear HD'
    have HB := HB'
    clear HB'
    have HP := HP'
    clear HP'
    have HS := HS'
    clear HS'
    have X1 := X1'
    clear X1'
    have BX := BX'
    clear BX'
    have HK' : Hd (Keeps (fun _ => False) w W6) := hid (HK.out.trans kW)
    clear HK
    have HK := HK'
    clear HK'
    have z_W6 := kW.size
    clear kW
    have M_0 := hid her
    clear her
    go_wp2_with fail
    refine (Wi.REnd_any _ px _ _ X1.out.2).mono ?_
    rw [HEE.out]
    rintro e wx ⟨rfl, hdr⟩
    have hk := drawn_keeps (fun _ => False) hdr
    clear hdr
    obtain ⟨W7, rfl⟩ : ∃ V, V = wx := ⟨_, rfl⟩
    have HN' : Hd (NibF W7) := hid (HN.out.keep hk (fun _ _ _ h => h))
    have HD' : Hd (Sl (fun b => b < w.heap.size) W7 (.slice ad dn cd) (u8s data)) := hid (HD.out.keep hk (fun _ _ _ h => h))
    have HB' : Hd (Bus (fun b => b < w.heap.size) W7 (.slice ab n cb) bs) := hid (HB.out.keep hk (fun _ _ _ h => h))
    have HP' : Hd (Sl (fun b => b < w.heap.size) W7 (.slice ap np cp) (i64s ps)) := hid (HP.out.keep hk (fun _ _ _ h => h))
    have HS' : Hd (Sl (fun b => b < w.heap.size) W7 (.slice aq ns cq) (i64s sn)) := hid (HS.out.keep hk (fun _ _ _ h => h))
    have X1' : Hd (RdT W1.heap.size px (rdI y).1 W7) := hid (X1.out.keep hk (fun _ _ _ h => h))
    have BX' : Hd (Blk W7 bX #[(.int .i64 ii), (.int .i64 0), (.int .i64 0), (.int .i64 0), (.int .i64 0), (.int .i64 0), (.int .u32 0), (.slice none 0 0)] 59) := hid (blk_keep BX.out hk (fun h => h))
    have RR' : Hd (Blk W7 g12 #[(.int .i64 qq), (.slice a0 n0 c0), (.slice a1 n1 c1), (.slice a2 n2 c2)] 44) := hid (blk_keep RR.out hk (fun h => h))
    clear HN HD HB HP HS X1 BX RR
    have HN := HN'
    clear HN'
    have HD := HD'
    clear HD'
    have HB := HB'
    clear HB'
    have HP := HP'
    clear HP'
    have HS := HS'
    clear HS'
    have X1 := X1'
    clear X1'
    have BX := BX'
    clear BX'
    have RR := RR'
    clear RR'
    have HK' : Hd (Keeps (fun _ => False) w W7) := hid (HK.out.trans hk)
    clear HK
    have HK := HK'
    clear HK'
    have z_W7 := hk.size
    clear hk
    by_cases he0 : ee = 0
    · have g1 : (ee == 0) = true := by simp; exact he0
      have g2 : (er == 0) = false := con_no_er M_0.out HNO.out he0
      clear he0
      go_wp2
      refine bodyPost_ret (results_none rfl _ _ _) rfl ?_
      exact ⟨rfl, HK.out⟩
    · have g1 : (ee == 0) = false := by simp; exact he0
      clear he0
      go_wp2
      refine bodyPost_ret (results_none rfl _ _ _) rfl ?_
      exact ⟨rfl, HK.out⟩
def ConYes (K : Nat → Prop) (q : Int) (bs : List Bu) (ps sn : List Int) (nr ns : Nat) (ii : Int) (v : Value) (w : World) : Prop := ∃ a0 n0 c0 a1 c1 a2 c2 k x, v = .tuple #[.agg #[.int .i64 q, .slice a0 n0 c0, .slice a1 nr c1, .slice a2 ns c2], .int .i64 0] ∧ bs[k]? = some x ∧ x.i = ii ∧ n0 = (bs.eraseIdx k).length ∧ Bus K w (.slice a0 n0 c0) (bs.eraseIdx k) ∧ Sl K w (.slice a1 nr c1) (i64s (ps.erase ii)) ∧ Sl K w (.slice a2 ns c2) (i64s sn)
theorem conYes_k {q : Int} {bs : List Bu} {ps sn : List Int} {nr ns lo : Nat} {ii : Int} : ∀ (_c : Nat) (K S : Nat → Prop) v w w', ConYes (fun b => K b ∧ lo ≤ b) q bs ps sn nr ns ii v w → Keeps S w w' → (∀ b, b < w.heap.size → K b → ¬ S b) → ConYes (fun b => K b ∧ lo ≤ b) q bs ps sn nr ns ii v w' := by
  intro _ K S v w w' h hk hd
  obtain ⟨a0, n0, c0, a1, c1, a2, c2, k, x, h0, h1, h2, h3, h4, h5, h6⟩ := h
  exact ⟨a0, n0, c0, a1, c1, a2, c2, k, x, h0, h1, h2, h3, h4.keep hk (fun b hb h => hd b hb h.1), h5.keep hk (fun b hb h => hd b hb h.1), h6.keep hk (fun b hb h => hd b hb h.1)⟩
theorem conYes_m {q : Int} {bs : List Bu} {ps sn : List Int} {nr ns lo : Nat} {ii : Int} : ∀ (_c : Nat) (K K' : Nat → Prop) v w, ConYes (fun b => K b ∧ lo ≤ b) q bs ps sn nr ns ii v w → (∀ b, b < w.heap.size → K b → K' b) → ConYes (fun b => K' b ∧ lo ≤ b) q bs ps sn nr ns ii v w := by
  intro _ K K' v w h hd
  obtain ⟨a0, n0, c0, a1, c1, a2, c2, k, x, h0, h1, h2, h3, h4, h5, h6⟩ := h
  exact ⟨a0, n0, c0, a1, c1, a2, c2, k, x, h0, h1, h2, h3, h4.mono (fun b hb h => ⟨hd b hb h.1, h.2⟩), h5.mono (fun b hb h => ⟨hd b hb h.1, h.2⟩), h6.mono (fun b hb h => ⟨hd b hb h.1, h.2⟩)⟩
/-- a store at its place in the relay is set anew -/
def SetP (w : World) (p at_ : Nat) (q : Int) (bs : List Bu) (ps sn : List Int) (w' : World) : Prop := ∃ W a0 c0 a1 c1 a2 c2, Keeps (fun _ => False) w W ∧ Bus (fun b => w.heap.size ≤ b) W (.slice a0 bs.length c0) bs ∧ Sl (fun b => w.heap.size ≤ b) W (.slice a1 ps.length c1) (i64s ps) ∧ Sl (fun b => w.heap.size ≤ b) W (.slice a2 sn.length c2) (i64s sn) ∧
  w' = (((W.setCell ⟨p, at_ * 4, none⟩ (.int .i64 q)).setCell ⟨p, at_ * 4 + 1, none⟩ (.slice a0 bs.length c0)).setCell ⟨p, at_ * 4 + 2, none⟩ (.slice a1 ps.length c1)).setCell ⟨p, at_ * 4 + 3, none⟩ (.slice a2 sn.length c2)
set_option maxRecDepth 100000 in set_option maxHeartbeats 1000000 in
theorem arrive_con_yes (p at_ : Nat) (tick : Int) (ad : Option Addr) (cd : Nat) (data y : List Nat) (w : World) (hN : Cr.Nib w) (hd : Sl (fun _ => True) w (.slice ad data.length cd) (u8s data)) (h8 : ∀ c ∈ data, c < 256) (hdl : data.length ≤ 100000) (hop : Cr.opened data = (y, 0)) (ab ap aq : Option Addr) (cb cp cq : Nat) (bs : List Bu) (ps sn : List Int) (q : Int) (hc0 : w.cell? ⟨p, at_ * 4, none⟩ = some (.int .i64 q)) (hc1 : w.cell? ⟨p, at_ * 4 + 1, none⟩ = some (.slice ab bs.length cb)) (hc2 : w.cell? ⟨p, at_ * 4 + 2, none⟩ = some (.slice ap ps.length cp)) (hc3 : w.cell? ⟨p, at_ * 4 + 3, none⟩ = some (.slice aq sn.length cq))
    (hb : Bus (fun _ => True) w (.slice ab bs.length cb) bs) (hp : Sl (fun _ => True) w (.slice ap ps.length cp) (i64s ps)) (hs : Sl (fun _ => True) w (.slice aq sn.length cq) (i64s sn)) (l1 : bs.length ≤ 60) (l2 : ps.length ≤ 1000) (l3 : sn.length ≤ 1000) (hdb : ∀ x ∈ bs, x.d.length ≤ 256) (hat : at_ ≤ 2) (hfz : ∀ j, w.frozen? ⟨p, j, none⟩ = false) (hps : ps.Pairwise (· < ·)) (hk1 : (rdK y).2 = 1) (hin : ∃ x ∈ bs, x.i = (rdI y).2) (hend : Wi.sEnd (rdI y).1 = 0) :
    Calls Tryd.prog 31 #[.pointer (some ⟨p, 0, none⟩), .int .i64 tick, .int .i64 (at_ : Nat), .slice ad data.length cd] w fun e w' => e = .returned (.tuple #[]) ∧ ∃ k x, bs[k]? = some x ∧ x.i = (rdI y).2 ∧ SetP w p at_ q (bs.eraseIdx k) (ps.erase (rdI y).2) sn w' := by
  have HKK := hid hk1; have HEE := hid hend
  obtain ⟨ii, hii⟩ : ∃ i, (rdI y).2 = i := ⟨_, rfl⟩
  have HII := hid hii
  rw [hii] at hin ⊢
  have HIN := hid hin
  have HPSS := hid hps
  clear hk1 hii hend hin hps
  obtain ⟨nr, hnr⟩ : ∃ n, (ps.erase ii).length = n := ⟨_, rfl⟩
  have HNR := hid hnr
  clear hnr
  have HN : Hd (NibF w) := hid hN
  have HD := hid (hd.mono (K' := fun b => b < w.heap.size) (fun b h _ => h)); have H8 := hid h8
  have HYL : Hd (y.length ≤ data.length ∧ ∀ c ∈ y, c < 256) := hid (by have h1 := opened_len data; have h2 := opened_lt h8; rw [hop] at h1 h2; exact ⟨h1, h2⟩)
  have HY : Hd ((Cr.opened data).1 = y) := hid (by rw [hop]); have HOE : Hd ((Cr.opened data).2 = 0) := hid (by rw [hop])
  clear hN hd h8 hop
  obtain ⟨dn, hdn⟩ : ∃ n, data.length = n := ⟨_, rfl⟩
  have HDN := hid hdn
  rw [hdn] at HD hdl ⊢
  clear hdn
  have HB := hid (hb.mono (K' := fun b => b < w.heap.size) (fun b h _ => h)); have HP := hid (hp.mono (K' := fun b => b < w.heap.size) (fun b h _ => h)); have HS := hid (hs.mono (K' := fun b => b < w.heap.size) (fun b h _ => h)); have HDB := hid hdb
  have lp : p < w.heap.size := cell_lt hc0
  obtain ⟨n, hn⟩ : ∃ n, bs.length = n := ⟨_, rfl⟩
  obtain ⟨np, hnp⟩ : ∃ n, ps.length = n := ⟨_, rfl⟩
  obtain ⟨ns, hns⟩ : ∃ n, sn.length = n := ⟨_, rfl⟩
  have HNB := hid hn; have HNP := hid hnp; have HNS := hid hns
  rw [hn] at HB l1 hc1
  rw [hnp] at HP l2 hc2
  rw [hns] at HS l3 hc3
  have HPC : Hd (∀ X, Keeps (fun _ => False) w X → (X.cell? ⟨p, at_ * 4, none⟩ = some (.int .i64 q) ∧ X.cell? ⟨p, at_ * 4 + 1, none⟩ = some (.slice ab n cb) ∧ X.cell? ⟨p, at_ * 4 + 2, none⟩ = some (.slice ap np cp) ∧ X.cell? ⟨p, at_ * 4 + 3, none⟩ = some (.slice aq ns cq))) := hid (fun X hk => ⟨keep_cell hk (fun h => h) hc0, keep_cell hk (fun h => h) hc1, keep_cell hk (fun h => h) hc2, keep_cell hk (fun h => h) hc3⟩)
  have HFZ : Hd (∀ X, Keeps (fun _ => False) w X → ∀ j, X.frozen? ⟨p, j, none⟩ = false) := hid (fun X hk j => (hk.frozen (p := ⟨p, j, none⟩) lp (fun h => h)).trans (hfz j))
  clear hfz
  clear hb hp hs hdb hn hnp hns hc0 hc1 hc2 hc3
  go_enter Tryd.func31, Tryd.ntmps31
  go_wp2_with fail
  have hcc := Cr.Open_any (fun b => b < w.heap.size) (.slice ad dn cd) data w HN.out HD.out H8.out (by rw [HDN.out]; omega)
  unfold Cr.OpenRet at hcc
  rw [HY.out, HOE.out] at hcc
  refine hcc.mono ?_
  clear hcc
  rintro e W1 ⟨ao, no, co, rfl, hno, hoo, hk⟩
  have SO : Hd (Sl (fun _ => True) W1 (.slice ao no co) (u8s y)) := hid ((row_sl hoo.row (by rw [hno, u8s_length])).mono (fun _ _ _ => trivial))
  clear hoo hno
  have HN' : Hd (NibF W1) := hid (HN.out.keep hk (fun _ _ _ h => h))
  have HD' : Hd (Sl (fun b => b < w.heap.size) W1 (.slice ad dn cd) (u8s data)) := hid (HD.out.keep hk (fun _ _ _ h => h))
  have HB' : Hd (Bus (fun b => b < w.heap.size) W1 (.slice ab n cb) bs) := hid (HB.out.keep hk (fun _ _ _ h => h))
  have HP' : Hd (Sl (fun b => b < w.heap.size) W1 (.slice ap np cp) (i64s ps)) := hid (HP.out.keep hk (fun _ _ _ h => h))
  have HS' : Hd (Sl (fun b => b < w.heap.size) W1 (.slice aq ns cq) (i64s sn)) := hid (HS.out.keep hk (fun _ _ _ h => h))
  clear HN HD HB HP HS
  have HN := HN'
  clear HN'
  have HD := HD'
  clear HD'
  have HB := HB'
  clear HB'
  have HP := HP'
  clear HP'
  have HS := HS'
  clear HS'
  have HK : Hd (Keeps (fun _ => False) w W1) := hid hk
  have z_W1 := hk.size
  clear hk
  go_wp2_with fail
  refine (Wi.NewReader_any _ _ y _ SO.out (by have := HYL.out.1; have := HDN.out; omega) HYL.out.2).mono ?_
  rintro e W2 ⟨px, rfl, hx1, hx2, hk⟩
  have X1 : Hd (RdT W1.heap.size px (0, y) W2) := hid ⟨hx2, hx1⟩
  have lpx : px < W2.heap.size := hx1.lt
  clear hx1 SO
  have HN' : Hd (NibF W2) := hid (HN.out.keep hk (fun _ _ _ h => h))
  have HD' : Hd (Sl (fun b => b < w.heap.size) W2 (.slice ad dn cd) (u8s data)) := hid (HD.out.keep hk (fun _ _ _ h => h))
  have HB' : Hd (Bus (fun b => b < w.heap.size) W2 (.slice ab n cb) bs) := hid (HB.out.keep hk (fun _ _ _ h => h))
  have HP' : Hd (Sl (fun b => b < w.heap.size) W2 (.slice ap np cp) (i64s ps)) := hid (HP.out.keep hk (fun _ _ _ h => h))
  have HS' : Hd (Sl (fun b => b < w.heap.size) W2 (.slice aq ns cq) (i64s sn)) := hid (HS.out.keep hk (fun _ _ _ h => h))
  clear HN HD HB HP HS
  have HN := HN'
  clear HN'
  have HD := HD'
  clear HD'
  have HB := HB'
  clear HB'
  have HP := HP'
  clear HP'
  have HS := HS'
  clear HS'
  have HK' : Hd (Keeps (fun _ => False) w W2) := hid (HK.out.trans hk)
  clear HK
  have HK := HK'
  clear HK'
  have z_W2 := hk.size
  clear hk
  go_wp2_with fail
  refine (Wi.RInt_any _ px (0, y) _ X1.out.2).mono ?_
  rintro e W3 ⟨rfl, hrd, hk⟩
  have X1n : Hd (RdT W1.heap.size px (rdK y).1 W3) := hid ⟨X1.out.1, hrd⟩
  clear hrd X1
  have HN' : Hd (NibF W3) := hid (HN.out.keep hk (fun b h1 h2 h3 => by omega))
  have HD' : Hd (Sl (fun b => b < w.heap.size) W3 (.slice ad dn cd) (u8s data)) := hid (HD.out.keep hk (fun b h1 h2 h3 => by omega))
  have HB' : Hd (Bus (fun b => b < w.heap.size) W3 (.slice ab n cb) bs) := hid (HB.out.keep hk (fun b h1 h2 h3 => by omega))
  have HP' : Hd (Sl (fun b => b < w.heap.size) W3 (.slice ap np cp) (i64s ps)) := hid (HP.out.keep hk (fun b h1 h2 h3 => by omega))
  have HS' : Hd (Sl (fun b => b < w.heap.size) W3 (.slice aq ns cq) (i64s sn)) := hid (HS.out.keep hk (fun b h1 h2 h3 => by omega))
  clear HN HD HB HP HS
  have HN := HN'
  clear HN'
  have HD := HD'
  clear HD'
  have HB := HB'
  clear HB'
  have HP := HP'
  clear HP'
  have HS := HS'
  clear HS'
  have HK' : Hd (Keeps (fun _ => False) w W3) := hid (HK.out.trans' hk (fun i hi h => by omega))
  clear HK
  have HK := HK'
  clear HK'
  have z_W3 := hk.size
  clear hk
  have X1 := X1n
  clear X1n
  rw [show (Wi.sI (0, y)).2 = 1 from HKK.out]
  go_wp2_with fail
  refine (Wi.RInt_any _ px (rdK y).1 _ X1.out.2).mono ?_
  rintro e W4 ⟨rfl, hrd, hk⟩
  have X1n : Hd (RdT W1.heap.size px (rdI y).1 W4) := hid ⟨X1.out.1, hrd⟩
  clear hrd X1
  have HN' : Hd (NibF W4) := hid (HN.out.keep hk (fun b h1 h2 h3 => by omega))
  have HD' : Hd (Sl (fun b => b < w.heap.size) W4 (.slice ad dn cd) (u8s data)) := hid (HD.out.keep hk (fun b h1 h2 h3 => by omega))
  have HB' : Hd (Bus (fun b => b < w.heap.size) W4 (.slice ab n cb) bs) := hid (HB.out.keep hk (fun b h1 h2 h3 => by omega))
  have HP' : Hd (Sl (fun b => b < w.heap.size) W4 (.slice ap np cp) (i64s ps)) := hid (HP.out.keep hk (fun b h1 h2 h3 => by omega))
  have HS' : Hd (Sl (fun b => b < w.heap.size) W4 (.slice aq ns cq) (i64s sn)) := hid (HS.out.keep hk (fun b h1 h2 h3 => by omega))
  clear HN HD HB HP HS
  have HN := HN'
  clear HN'
  have HD := HD'
  clear HD'
  have HB := HB'
  clear HB'
  have HP := HP'
  clear HP'
  have HS := HS'
  clear HS'
  have HK' : Hd (Keeps (fun _ => False) w W4) := hid (HK.out.trans' hk (fun i hi h => by omega))
  clear HK
  have HK := HK'
  clear HK'
  have z_W4 := hk.size
  clear hk
  have X1 := X1n
  clear X1n
  rw [show (Wi.sI (rdK y).1).2 = ii from HII.out]
  go_upto_region 5 with fail
  generalize hW : World.alloc W4 _ = W5
  have KS : Hd (Keeps (fun _ => False) W4 W5) := hid (by rw [← hW]; exact (Keeps.alloc (Keeps.refl (fun _ => False) W4) _))
  have HN' : Hd (NibF W5) := hid (HN.out.keep KS.out (fun _ _ _ h => h))
  have HD' : Hd (Sl (fun b => b < w.heap.size) W5 (.slice ad dn cd) (u8s data)) := hid (HD.out.keep KS.out (fun _ _ _ h => h))
  have HB' : Hd (Bus (fun b => b < w.heap.size) W5 (.slice ab n cb) bs) := hid (HB.out.keep KS.out (fun _ _ _ h => h))
  have HP' : Hd (Sl (fun b => b < w.heap.size) W5 (.slice ap np cp) (i64s ps)) := hid (HP.out.keep KS.out (fun _ _ _ h => h))
  have HS' : Hd (Sl (fun b => b < w.heap.size) W5 (.slice aq ns cq) (i64s sn)) := hid (HS.out.keep KS.out (fun _ _ _ h => h))
  have X1' : Hd (RdT W1.heap.size px (rdI y).1 W5) := hid (X1.out.keep KS.out (fun _ _ _ h => h))
  have BX : Hd (Blk W5 W4.heap.size #[(.int .i64 ii), (.int .i64 0), (.int .i64 0), (.int .i64 0), (.int .i64 0), (.int .i64 0), (.int .u32 0), (.slice none 0 0)] 59) := hid (by rw [← hW]; exact (blk_new _ _ _))
  clear HN HD HB HP HS X1
  have HN := HN'
  clear HN'
  have HD := HD'
  clear HD'
  have HB := HB'
  clear HB'
  have HP := HP'
  clear HP'
  have HS := HS'
  clear HS'
  have X1 := X1'
  clear X1'
  have HK' : Hd (Keeps (fun _ => False) w W5) := hid (HK.out.trans KS.out)
  clear HK
  have HK := HK'
  clear HK'
  have z_W5 : W4.heap.size + 1 ≤ W5.heap.size := by rw [← hW]; simp
  clear hW KS
  generalize hbX : W4.heap.size = bX at *
  clear hbX
  have HCF : Hd (∀ X, Keeps (fun _ => False) W5 X → Calls Tryd.prog 48 #[.agg #[.int .i64 q, .slice ab n cb, .slice ap np cp, .slice aq ns cq], .int .i64 ii] X fun e w' => ∃ v, e = .returned v ∧ Keeps (fun _ => False) X w' ∧ ConYes (fun b => X.heap.size ≤ b) q bs ps sn nr ns ii v w') := hid (fun X hk => by
    have h := Confirm_yes (fun b => b < w.heap.size) q bs ps sn ab ap aq cb cp cq X (by rw [HNB.out]; exact HB.out.keep hk (fun _ _ _ h => h)) (by rw [HNP.out]; exact HP.out.keep hk (fun _ _ _ h => h)) (by rw [HNS.out]; exact HS.out.keep hk (fun _ _ _ h => h)) (by rw [HNB.out]; omega) (by rw [HNP.out]; omega) (by rw [HNS.out]; omega) HDB.out ii HIN.out HPSS.out
    rw [HNB.out, HNP.out, HNS.out] at h
    refine h.mono ?_
    rintro e w' ⟨v, k, x, g1, g2, rfl, ⟨a0, c0, a1, c1, a2, c2, rfl, g3, g4, g5⟩, hk2⟩
    rw [HNR.out] at g4; rw [HNS.out] at g5
    exact ⟨_, rfl, hk2, a0, _, c0, a1, c1, a2, c2, k, x, by rw [HNR.out, HNS.out], g1, g2, rfl, g3, g4, g5⟩)
  go_upto_region 6 with fail
  have HPX : Hd (∀ X, Keeps (fun _ => False) W5 X → (X.cell? ⟨p, at_ * 4, none⟩ = some (.int .i64 q) ∧ X.cell? ⟨p, at_ * 4 + 1, none⟩ = some (.slice ab n cb) ∧ X.cell? ⟨p, at_ * 4 + 2, none⟩ = some (.slice ap np cp) ∧ X.cell? ⟨p, at_ * 4 + 3, none⟩ = some (.slice aq ns cq))) := hid (fun X hk => HPC.out X (HK.out.trans hk))
  refine Mm.wp_many (C := Mm.mkMC [8] [(8, [8]), (9, [8]), (10, [8]), (11, [8]), (13, [8]), (14, [8])] [(12, 44, #[(.int .i64 0), (.slice none 0 0), (.slice none 0 0), (.slice none 0 0)])] [(13, 12, 10)] [(fun r => .pointer (some ⟨p, 0, none⟩)), (fun r => .int .i64 (at_ : Nat)), (fun r => .pointer (some ⟨p, 0, none⟩)), (fun r => .pointer (some ⟨p, 0, none⟩)), (fun r => .pointer (some ⟨p, at_ * 4, none⟩)), (fun r => .agg #[.int .i64 q, .slice ab n cb, .slice ap np cp, .slice aq ns cq]), (fun r => .pointer (some ⟨bX, 0, none⟩)), (fun r => .int .i64 ii), (fun r => r 8), (fun r => r 8), (fun r => Mm.tupAt (r 8) 0), (fun r => Mm.tupAt (r 8) 1), (fun _ => undef), (fun _ => undef), (fun r => Mm.tupAt (r 8) 1)] (fun _ r => aggCells (Mm.tupAt (r 8) 0)) ((fun (_ : Nat) (K : Nat → Prop) (v : Value) (wx : World) => ConYes (fun b => K b ∧ w.heap.size ≤ b) q bs ps sn nr ns ii v wx))) (by kernel_rfl) ?H ?HV ?HC ?HE
  case H =>
    refine { back := by kernel_rfl, dst := uniqB_spec (by kernel_rfl), szd := underB_spec (by kernel_rfl), val := Mm.valB_spec3 (f := Mm.mkV [(12, 44, #[(.int .i64 0), (.slice none 0 0), (.slice none 0 0), (.slice none 0 0)])] [(13, 12, 10)]) (by kernel_rfl), alo := ?_, sto := ?_, stc := ?_, all := Mm.allB3_spec (f := Mm.mkV [(12, 44, #[(.int .i64 0), (.slice none 0 0), (.slice none 0 0), (.slice none 0 0)])] [(13, 12, 10)]) (g := Mm.mkA [(12, 44, #[(.int .i64 0), (.slice none 0 0), (.slice none 0 0), (.slice none 0 0)])]) (h := Mm.mkS [(13, 12, 10)]) (by kernel_rfl), nva := ?_, nvs := ?_, one := ?_, civ := ?_, nd := ?_, ndc := ?_, pc := Mm.pcB_spec (by kernel_rfl), dd := Mm.ddB_spec (by kernel_rfl), sem := oneSem 44 #[.int .i64 0, .slice none 0 0, .slice none 0 0, .slice none 0 0] _ _ 12 13 10 8 _ _ (fun v => Mm.tupAt v 0) rfl rfl (fun w => by go_simp) conYes_k conYes_m (fun K r w h b cs hb hz => by obtain ⟨a0, n0, c0, a1, c1, a2, c2, k0, x0, rfl, -⟩ := h; obtain ⟨w', e1, e2, e3⟩ := st_store hb hz q a0 a1 a2 n0 nr ns c0 c1 c2; exact ⟨w', e1, e2, e3, rfl⟩) }
    · intro j o h0 ha
      have h1 : 12 = j := by simpa [Mm.mkMC] using ha
      subst h1
      all_goals
        have h2 := h0
        simp only [List.getElem?_cons_succ, List.getElem?_cons_zero, Option.some.injEq] at h2
        subst h2
        exact ⟨⟨_, rfl⟩, rfl, rfl⟩
    · intro s o h0 ha
      have h1 : 13 = s := by simpa [Mm.mkMC] using ha
      subst h1
      all_goals
        have h2 := h0
        simp only [List.getElem?_cons_succ, List.getElem?_cons_zero, Option.some.injEq] at h2
        subst h2
        exact ⟨_, _, _, _, rfl, rfl, rfl, rfl, rfl, rfl, rfl, waitsB_spec (by kernel_rfl), waitsB_spec (by kernel_rfl)⟩
    · intro s ha
      have h1 : 13 = s := by simpa [Mm.mkMC] using ha
      subst h1
      all_goals exact ⟨rfl, rfl⟩
    · intro s ha
      have h1 : 12 = s := by simpa [Mm.mkMC] using ha
      subst h1
      all_goals exact ⟨rfl, rfl, fun c => by simp [Mm.mkMC]⟩
    · intro s ha
      have h1 : 13 = s := by simpa [Mm.mkMC] using ha
      subst h1
      all_goals exact ⟨rfl, rfl⟩
    · intro s t ha hb hst
      have h1 : 13 = s := by simpa [Mm.mkMC] using ha
      subst h1
      all_goals (have h2 : 13 = t := by simpa [Mm.mkMC] using hb)
      exact h2
    · intro c hc
      have h1 : c = 8 := by simpa [Mm.mkMC] using hc
      subst h1
      all_goals exact ⟨rfl, rfl, fun _ => rfl⟩
    · intro i r r' hv hD
      match i, hD with
      | 0, _ => rfl
      | 1, _ => rfl
      | 2, _ => rfl
      | 3, _ => rfl
      | 4, _ => rfl
      | 5, _ => rfl
      | 6, _ => rfl
      | 7, _ => rfl
      | 8, hD => exact (show (r 8 : Value) = r' 8 by rw [hD 8 rfl])
      | 9, hD => exact (show (r 8 : Value) = r' 8 by rw [hD 8 rfl])
      | 10, hD => exact (show (Mm.tupAt (r 8) 0 : Value) = Mm.tupAt (r' 8) 0 by rw [hD 8 rfl])
      | 11, hD => exact (show (Mm.tupAt (r 8) 1 : Value) = Mm.tupAt (r' 8) 1 by rw [hD 8 rfl])
      | 12, _ => rfl
      | 13, _ => rfl
      | 14, hD => exact (show (Mm.tupAt (r 8) 1 : Value) = Mm.tupAt (r' 8) 1 by rw [hD 8 rfl])
      | n + 15, _ => rfl
    · intro s r r' ha hD
      have h1 : 13 = s := by simpa [Mm.mkMC] using ha
      subst h1
      · show ((fun _ r => aggCells (Mm.tupAt (r 8) 0)) : Nat → (Nat → Value) → Array Value) 13 r = ((fun _ r => aggCells (Mm.tupAt (r 8) 0)) : Nat → (Nat → Value) → Array Value) 13 r'
        simp only [hD 8 rfl]
  case HV =>
    intro iq o hv hnc hi actq w' r hk hd hR
    match iq, hv, hnc, hi, hR with
    | 0, _, _, hi, hR =>
      have hi1 := hi
      simp only [List.getElem?_cons_succ, List.getElem?_cons_zero, Option.some.injEq] at hi1
      subst hi1
      have e0 : actq.eval (.tmp 0) = .pointer (some ⟨p, 0, none⟩) := (hd.out (by kernel_rfl)).trans rfl
      exact wpOp_ranL hi rfl (v := .pointer (some ⟨p, 0, none⟩)) (w' := w') (by simp only [execOp, e0]; rfl) ⟨rfl, Keeps.refl _ _⟩
    | 1, _, _, hi, hR =>
      have hi1 := hi
      simp only [List.getElem?_cons_succ, List.getElem?_cons_zero, Option.some.injEq] at hi1
      subst hi1
      have e0 : actq.eval (.tmp 2) = .int .i64 (at_ : Nat) := (hd.out (by kernel_rfl)).trans rfl
      exact wpOp_ranL hi rfl (v := .int .i64 (at_ : Nat)) (w' := w') (by simp only [execOp, e0]; rfl) ⟨rfl, Keeps.refl _ _⟩
    | 2, _, _, hi, hR =>
      have hi1 := hi
      simp only [List.getElem?_cons_succ, List.getElem?_cons_zero, Option.some.injEq] at hi1
      subst hi1
      have e0 : actq.eval (.tmp 39) = .pointer (some ⟨p, 0, none⟩) := hd.val (j := 0) (by kernel_rfl) rfl rfl rfl
      exact wpOp_ranL hi rfl (v := .pointer (some ⟨p, 0, none⟩)) (w' := w') (by simp only [execOp, e0]; rfl) ⟨rfl, Keeps.refl _ _⟩
    | 3, _, _, hi, hR =>
      have hi1 := hi
      simp only [List.getElem?_cons_succ, List.getElem?_cons_zero, Option.some.injEq] at hi1
      subst hi1
      have e0 : actq.eval (.tmp 41) = .pointer (some ⟨p, 0, none⟩) := hd.val (j := 2) (by kernel_rfl) rfl rfl rfl
      exact wpOp_ranL hi rfl (v := .pointer (some ⟨p, 0, none⟩)) (w' := w') (by simp only [execOp, e0]; go_simp) ⟨rfl, Keeps.refl _ _⟩
    | 4, _, _, hi, hR =>
      have hi1 := hi
      simp only [List.getElem?_cons_succ, List.getElem?_cons_zero, Option.some.injEq] at hi1
      subst hi1
      have e0 : actq.eval (.tmp 42) = .pointer (some ⟨p, 0, none⟩) := hd.val (j := 3) (by kernel_rfl) rfl rfl rfl
      have e1 : actq.eval (.tmp 40) = .int .i64 (at_ : Nat) := hd.val (j := 1) (by kernel_rfl) rfl rfl rfl
      have hat0 : (0 : Int) ≤ (at_ : Int) := by omega
      have hat3 : (at_ : Int) < 3 := by omega
      exact wpOp_ranL hi rfl (v := .pointer (some ⟨p, at_ * 4, none⟩)) (w' := w') (by simp only [execOp, e0, e1]; go_simp) ⟨rfl, Keeps.refl _ _⟩
    | 5, _, _, hi, hR =>
      have hi1 := hi
      simp only [List.getElem?_cons_succ, List.getElem?_cons_zero, Option.some.injEq] at hi1
      subst hi1
      have e0 : actq.eval (.tmp 43) = .pointer (some ⟨p, at_ * 4, none⟩) := hd.val (j := 4) (by kernel_rfl) rfl rfl rfl
      have c0 := (HPX.out _ hk).1
      have c1 := (HPX.out _ hk).2.1
      have c2 := (HPX.out _ hk).2.2.1
      have c3 := (HPX.out _ hk).2.2.2
      exact wpOp_ranL hi rfl (v := .agg #[.int .i64 q, .slice ab n cb, .slice ap np cp, .slice aq ns cq]) (w' := w') (by simp only [execOp, e0]; go_simp) ⟨rfl, Keeps.refl _ _⟩
    | 6, _, _, hi, hR =>
      have hi1 := hi
      simp only [List.getElem?_cons_succ, List.getElem?_cons_zero, Option.some.injEq] at hi1
      subst hi1
      have e0 : actq.eval (.tmp 12) = .pointer (some ⟨bX, 0, none⟩) := (hd.out (by kernel_rfl)).trans rfl
      exact wpOp_ranL hi rfl (v := .pointer (some ⟨bX, 0, none⟩)) (w' := w') (by simp only [execOp, e0]; go_simp) ⟨rfl, Keeps.refl _ _⟩
    | 7, _, _, hi, hR =>
      have hi1 := hi
      simp only [List.getElem?_cons_succ, List.getElem?_cons_zero, Option.some.injEq] at hi1
      subst hi1
      have e0 : actq.eval (.tmp 45) = .pointer (some ⟨bX, 0, none⟩) := hd.val (j := 6) (by kernel_rfl) rfl rfl rfl
      have c0 := blk_cell (blk_keep BX.out hk (fun h => h)) 0
      exact wpOp_ranL hi rfl (v := .int .i64 ii) (w' := w') (by simp only [execOp, e0]; go_simp) ⟨rfl, Keeps.refl _ _⟩
    | 8, _, hnc, _, _ => cases hnc
    | 9, _, _, hi, hR =>
      have hi1 := hi
      simp only [List.getElem?_cons_succ, List.getElem?_cons_zero, Option.some.injEq] at hi1
      subst hi1
      have e0 : actq.eval (.tmp 47) = r 8 := hd.val (j := 8) (by kernel_rfl) rfl rfl rfl
      exact wpOp_ranL hi rfl (v := r 8) (w' := w') (by simp only [execOp, e0]; rfl) ⟨rfl, Keeps.refl _ _⟩
    | 10, _, _, hi, hR =>
      have hi1 := hi
      simp only [List.getElem?_cons_succ, List.getElem?_cons_zero, Option.some.injEq] at hi1
      subst hi1
      have e0 : actq.eval (.tmp 38) = r 8 := hd.val (j := 9) (by kernel_rfl) rfl rfl rfl
      obtain ⟨K7, hR7⟩ := hR 8 rfl
      obtain ⟨a0, n0, c0, a1, c1, a2, c2, k0, x0, hrv, -⟩ := hR7
      rw [hrv] at e0
      exact wpOp_ranL hi rfl (v := .agg #[.int .i64 q, .slice a0 n0 c0, .slice a1 nr c1, .slice a2 ns c2]) (w' := w') (by simp only [execOp, e0]; rfl) ⟨congrArg (actq.put (some 48)) (show (.agg #[.int .i64 q, .slice a0 n0 c0, .slice a1 nr c1, .slice a2 ns c2] : Value) = Mm.tupAt (r 8) 0 from by rw [hrv]; rfl), Keeps.refl _ _⟩
    | 11, _, _, hi, hR =>
      have hi1 := hi
      simp only [List.getElem?_cons_succ, List.getElem?_cons_zero, Option.some.injEq] at hi1
      subst hi1
      have e0 : actq.eval (.tmp 38) = r 8 := hd.val (j := 9) (by kernel_rfl) rfl rfl rfl
      obtain ⟨K7, hR7⟩ := hR 8 rfl
      obtain ⟨a0, n0, c0, a1, c1, a2, c2, k0, x0, hrv, -⟩ := hR7
      rw [hrv] at e0
      exact wpOp_ranL hi rfl (v := .int .i64 0) (w' := w') (by simp only [execOp, e0]; rfl) ⟨congrArg (actq.put (some 49)) (show (.int .i64 0 : Value) = Mm.tupAt (r 8) 1 from by rw [hrv]; rfl), Keeps.refl _ _⟩
    | 12, hv, _, _, _ => cases hv
    | 13, hv, _, _, _ => cases hv
    | 14, _, _, hi, hR =>
      have hi1 := hi
      simp only [List.getElem?_cons_succ, List.getElem?_cons_zero, Option.some.injEq] at hi1
      subst hi1
      have e0 : actq.eval (.tmp 49) = Mm.tupAt (r 8) 1 := hd.val (j := 11) (by kernel_rfl) rfl rfl rfl
      exact wpOp_ranL hi rfl (v := Mm.tupAt (r 8) 1) (w' := w') (by simp only [execOp, e0]; rfl) ⟨rfl, Keeps.refl _ _⟩
    | n + 15, _, _, hi, _ => simp at hi
  case HC =>
    intro c o hc hi actq w' r hk hd hR
    have h1 : c = 8 := by simpa [Mm.mkMC] using hc
    subst h1
    · have hi1 := hi
      simp only [List.getElem?_cons_succ, List.getElem?_cons_zero, Option.some.injEq] at hi1
      subst hi1
      have e0 : actq.eval (.tmp 44) = .agg #[.int .i64 q, .slice ab n cb, .slice ap np cp, .slice aq ns cq] := hd.val (j := 5) (by kernel_rfl) rfl rfl rfl
      have e1 : actq.eval (.tmp 46) = .int .i64 ii := hd.val (j := 7) (by kernel_rfl) rfl rfl rfl
      exact wpOp_callL hi rfl (f := 48) (args := #[.agg #[.int .i64 q, .slice ab n cb, .slice ap np cp, .slice aq ns cq], .int .i64 ii]) (by simp only [execOp_call_go, List.map_toArray, List.map_cons, List.map_nil, e0, e1]; rfl) ((HCF.out w' hk).mono (fun e w2 ⟨v, he, hk2, a0, n0, c0, a1, c1, a2, c2, k0, x0, g0, g1, g2, g3, g4, g5, g6⟩ => ⟨v, he, v, rfl, hk2, ⟨a0, n0, c0, a1, c1, a2, c2, k0, x0, g0, g1, g2, g3, g4.mono (fun b _ h => ⟨.inr h, by have h1 := hk.size; have h2 := HK.out.size; omega⟩), g5.mono (fun b _ h => ⟨.inr h, by have h1 := hk.size; have h2 := HK.out.size; omega⟩), g6.mono (fun b _ h => ⟨.inr h, by have h1 := hk.size; have h2 := HK.out.size; omega⟩)⟩⟩))
  case HE =>
    intro L actq w' gg r hL hT
    have em := act_mix (bs := [true, true, true, true, true, true, true, true, true, true, true, true, true, false, false, true, true, true, true, true, true, true, true, true, true, true, true, true, true, true, true, true, true, true, true, true, true, true, false, false, false, false, false, false, false, false, false, false, false, false, true, true, true, true, true, true, true, true, true, true, true, true, true, true, true, true, true, true, true, true, true, true, true, true, true, true, true, true, true, true, true, true, true, true, true, true, true, true, true, true, true, true, true, true, true, true, true, true, true, true, true, true, true, true, true, true, true, true, true, true, true, true, true, true, true, true, true, true, true, true, true]) hT.sz hT.df hT.fr rfl (by kernel_rfl)
    have kW := hT.kp
    have hR8 := hT.c 8 rfl (hL 8 (by decide))
    obtain ⟨eA12, zA12, cs12, -, bA12, sA12⟩ := hT.al 12 rfl (hL 12 (by decide)) _ 13 rfl rfl
    have sA12 := sA12 13 rfl (hL 13 (by decide)) rfl
    subst sA12
    change actq.tmps.getD 13 undef = _ at eA12
    change Blk w' (gg 12) (aggCells (Mm.tupAt (r 8) 0)) 44 at bA12
    have k14 : actq.tmps.getD 14 undef = Mm.tupAt (r 8) 1 := hT.v 14 _ 14 rfl (hL 14 (by decide)) rfl rfl
    generalize hrv8 : r 8 = rv8 at *
    clear hrv8
    obtain ⟨a0, n0, c0, a1, c1, a2, c2, k0, x0, rfl, hx1, hx2, hn0, hy1, hy2, hy3⟩ := hR8
    change actq.tmps.getD 14 undef = .int .i64 0 at k14
    generalize gg 12 = g12 at *
    clear hT hL
    simp only [mix, eA12, k14] at em
    clear eA12 k14
    generalize actq.tmps.getD 39 undef = q39 at em
    generalize actq.tmps.getD 40 undef = q40 at em
    generalize actq.tmps.getD 41 undef = q41 at em
    generalize actq.tmps.getD 42 undef = q42 at em
    generalize actq.tmps.getD 43 undef = q43 at em
    generalize actq.tmps.getD 44 undef = q44 at em
    generalize actq.tmps.getD 45 undef = q45 at em
    generalize actq.tmps.getD 46 undef = q46 at em
    generalize actq.tmps.getD 47 undef = q47 at em
    generalize actq.tmps.getD 38 undef = q38 at em
    generalize actq.tmps.getD 48 undef = q48 at em
    generalize actq.tmps.getD 49 undef = q49 at em
    subst em
    simp only [Exit.then]
    obtain ⟨W6, rfl⟩ : ∃ V, V = w' := ⟨_, rfl⟩
    change Blk W6 g12 #[.int .i64 q, .slice a0 n0 c0, .slice a1 nr c1, .slice a2 ns c2] _ at bA12
    have RR := hid bA12
    clear bA12 HPX
    have ltR := blk_lt RR.out
    have HN' : Hd (NibF W6) := hid (HN.out.keep kW (fun _ _ _ h => h))
    have HD' : Hd (Sl (fun b => b < w.heap.size) W6 (.slice ad dn cd) (u8s data)) := hid (HD.out.keep kW (fun _ _ _ h => h))
    have HB' : Hd (Bus (fun b => b < w.heap.size) W6 (.slice ab n cb) bs) := hid (HB.out.keep kW (fun _ _ _ h => h))
    have HP' : Hd (Sl (fun b => b < w.heap.size) W6 (.slice ap np cp) (i64s ps)) := hid (HP.out.keep kW (fun _ _ _ h => h))
    have HS' : Hd (Sl (fun b => b < w.heap.size) W6 (.slice aq ns cq) (i64s sn)) := hid (HS.out.keep kW (fun _ _ _ h => h))
    have X1' : Hd (RdT W1.heap.size px (rdI y).1 W6) := hid (X1.out.keep kW (fun _ _ _ h => h))
    have BX' : Hd (Blk W6 bX #[(.int .i64 ii), (.int .i64 0), (.int .i64 0), (.int .i64 0), (.int .i64 0), (.int .i64 0), (.int .u32 0), (.slice none 0 0)] 59) := hid (blk_keep BX.out kW (fun h => h))
    clear HN HD HB HP HS X1 BX
    have HN := HN'
    clear HN'
    have HD := HD'
    clear HD'
    have HB := HB'
    clear HB'
    have HP := HP'
    clear HP'
    have HS := HS'
    clear HS'
    have X1 := X1'
    clear X1'
    have BX := BX'
    clear BX'
    have HK' : Hd (Keeps (fun _ => False) w W6) := hid (HK.out.trans kW)
    clear HK
    have HK := HK'
    clear HK'
    have z_W6 := kW.size
    clear kW
    have HY1 := hid (hy1.mono (K' := fun b => w.heap.size ≤ b) (fun b _ h => h.2)); have HY2 := hid (hy2.mono (K' := fun b => w.heap.size ≤ b) (fun b _ h => h.2)); have HY3 := hid (hy3.mono (K' := fun b => w.heap.size ≤ b) (fun b _ h => h.2))
    have HX0 := hid (And.intro hx1 hx2); have HN0 := hid hn0
    clear hy1 hy2 hy3 hx1 hx2 hn0
    go_wp2_with fail
    refine (Wi.REnd_any _ px _ _ X1.out.2).mono ?_
    rw [HEE.out]
    rintro e wx ⟨rfl, hdr⟩
    have hk := drawn_keeps (fun _ => False) hdr
    clear hdr
    obtain ⟨W7, rfl⟩ : ∃ V, V = wx := ⟨_, rfl⟩
    have HN' : Hd (NibF W7) := hid (HN.out.keep hk (fun _ _ _ h => h))
    have HD' : Hd (Sl (fun b => b < w.heap.size) W7 (.slice ad dn cd) (u8s data)) := hid (HD.out.keep hk (fun _ _ _ h => h))
    have HB' : Hd (Bus (fun b => b < w.heap.size) W7 (.slice ab n cb) bs) := hid (HB.out.keep hk (fun _ _ _ h => h))
    have HP' : Hd (Sl (fun b => b < w.heap.size) W7 (.slice ap np cp) (i64s ps)) := hid (HP.out.keep hk (fun _ _ _ h => h))
    have HS' : Hd (Sl (fun b => b < w.heap.size) W7 (.slice aq ns cq) (i64s sn)) := hid (HS.out.keep hk (fun _ _ _ h => h))
    have X1' : Hd (RdT W1.heap.size px (rdI y).1 W7) := hid (X1.out.keep hk (fun _ _ _ h => h))
    have BX' : Hd (Blk W7 bX #[(.int .i64 ii), (.int .i64 0), (.int .i64 0), (.int .i64 0), (.int .i64 0), (.int .i64 0), (.int .u32 0), (.slice none 0 0)] 59) := hid (blk_keep BX.out hk (fun h => h))
    have RR' : Hd (Blk W7 g12 #[(.int .i64 q), (.slice a0 n0 c0), (.slice a1 nr c1), (.slice a2 ns c2)] 44) := hid (blk_keep RR.out hk (fun h => h))
    have HY1' : Hd (Bus (fun b => w.heap.size ≤ b) W7 (.slice a0 n0 c0) (bs.eraseIdx k0)) := hid (HY1.out.keep hk (fun _ _ _ h => h))
    have HY2' : Hd (Sl (fun b => w.heap.size ≤ b) W7 (.slice a1 nr c1) (i64s (ps.erase ii))) := hid (HY2.out.keep hk (fun _ _ _ h => h))
    have HY3' : Hd (Sl (fun b => w.heap.size ≤ b) W7 (.slice a2 ns c2) (i64s sn)) := hid (HY3.out.keep hk (fun _ _ _ h => h))
    clear HN HD HB HP HS X1 BX RR HY1 HY2 HY3
    have HN := HN'
    clear HN'
    have HD := HD'
    clear HD'
    have HB := HB'
    clear HB'
    have HP := HP'
    clear HP'
    have HS := HS'
    clear HS'
    have X1 := X1'
    clear X1'
    have BX := BX'
    clear BX'
    have RR := RR'
    clear RR'
    have HY1 := HY1'
    clear HY1'
    have HY2 := HY2'
    clear HY2'
    have HY3 := HY3'
    clear HY3'
    have HK' : Hd (Keeps (fun _ => False) w W7) := hid (HK.out.trans hk)
    clear HK
    have HK := HK'
    clear HK'
    have z_W7 := hk.size
    clear hk
    go_upto_region 8 with fail
    have o_RR_0 : W7.cell? ⟨g12, 0, none⟩ = some ((.int .i64 q)) := blk_cell RR.out 0
    have o_RR_1 : W7.cell? ⟨g12, 1, none⟩ = some ((.slice a0 n0 c0)) := blk_cell RR.out 1
    have o_RR_2 : W7.cell? ⟨g12, 2, none⟩ = some ((.slice a1 nr c1)) := blk_cell RR.out 2
    have o_RR_3 : W7.cell? ⟨g12, 3, none⟩ = some ((.slice a2 ns c2)) := blk_cell RR.out 3
    obtain ⟨pc0, pc1, pc2, pc3⟩ := HPC.out _ HK.out
    have pf0 := HFZ.out _ HK.out (at_ * 4)
    have pf1 := HFZ.out _ HK.out (at_ * 4 + 1)
    have pf2 := HFZ.out _ HK.out (at_ * 4 + 2)
    have pf3 := HFZ.out _ HK.out (at_ * 4 + 3)
    have hat0 : (0 : Int) ≤ (at_ : Int) := by omega
    have hat3 : (at_ : Int) < 3 := by omega
    go_region
    all_goals
      go_wp2
      refine bodyPost_ret (results_none rfl _ _ _) rfl ?_
      exact ⟨rfl, k0, x0, HX0.out.1, HX0.out.2, _, a0, c0, a1, c1, a2, c2, HK.out.drew, by rw [← HN0.out]; exact HY1.out, by rw [HNR.out]; exact HY2.out, by rw [HNS.out]; exact HY3.out, by rw [← HN0.out, HNR.out, HNS.out]; rfl⟩
end Go.Proofs.YtgfekgceeigdiaaDoor
