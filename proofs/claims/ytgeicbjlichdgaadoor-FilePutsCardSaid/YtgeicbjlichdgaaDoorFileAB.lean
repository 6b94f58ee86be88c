/- File: the reference's Bytes and Put. -/
import Derived.Test.YtgeicbjlichdgaaDoorFileAA
import Derived.Test.YtgeicbjlichdgaaDoorHeld
import Derived.Deep.RegionHeld
import Derived.Deep.CutRange
import Derived.StillTailTactics
namespace Go.Proofs.YtgeicbjlichdgaaDoor
open Go.RowKit
attribute [local go_sem ↓] Go.wp_at_zero Go.wp_at_succ
theorem fin6 {w W : World} {b : Nat} {T : TypeId} {c0 c1 c2 c3 c4 c5 : Value} (hk : Keeps (fun _ => False) w W) (hb : w.heap.size ≤ b) (hB : Blk W b #[c0, c1, c2, c3, c4, c5] T) (u0 u1 u2 u3 u4 u5 : Value) :
    Keeps (fun _ => False) w ((((((W.setCell ⟨b, 0, none⟩ u0).setCell ⟨b, 1, none⟩ u1).setCell ⟨b, 2, none⟩ u2).setCell ⟨b, 3, none⟩ u3).setCell ⟨b, 4, none⟩ u4).setCell ⟨b, 5, none⟩ u5) ∧
    Blk ((((((W.setCell ⟨b, 0, none⟩ u0).setCell ⟨b, 1, none⟩ u1).setCell ⟨b, 2, none⟩ u2).setCell ⟨b, 3, none⟩ u3).setCell ⟨b, 4, none⟩ u4).setCell ⟨b, 5, none⟩ u5) b #[u0, u1, u2, u3, u4, u5] T := by
  have h := blk_set (blk_set (blk_set (blk_set (blk_set (blk_set hB 0 u0) 1 u1) 2 u2) 3 u3) 4 u4) 5 u5
  simp only [List.setIfInBounds_toArray, List.set_cons_zero, List.set_cons_succ] at h
  exact ⟨(((((hk.setCell (.inr hb) _).setCell (.inr hb) _).setCell (.inr hb) _).setCell (.inr hb) _).setCell (.inr hb) _).setCell (.inr hb) _, h⟩
/-- the reference's part in memory -/
def RPr (K : Nat → Prop) (w : World) (M : Pm) (ah : Option Addr) (ch : Nat) (ad : Option Addr) (cd : Nat) : Prop := Row K w 1 (.slice ah M.hv.length ch) M.hv.length (bls M.hv) ∧ Row K w 1 (.slice ad M.dt.length cd) M.dt.length (u8s M.dt)
theorem RPr.keep {K S : Nat → Prop} {w w' : World} {M : Pm} {ah : Option Addr} {ch : Nat} {ad : Option Addr} {cd : Nat} (h : RPr K w M ah ch ad cd) (hk : Keeps S w w') (hd : ∀ b, b < w.heap.size → K b → ¬ S b) : RPr K w' M ah ch ad cd := ⟨h.1.keep hk hd, h.2.keep hk hd⟩
theorem RPr.mono {K K' : Nat → Prop} {w : World} {M : Pm} {ah : Option Addr} {ch : Nat} {ad : Option Addr} {cd : Nat} (h : RPr K w M ah ch ad cd) (hd : ∀ b, b < w.heap.size → K b → K' b) : RPr K' w M ah ch ad cd := ⟨h.1.mono hd, h.2.mono hd⟩
def RBytP (K : Nat → Prop) (w : World) (R : List Nat × Int) (e : Ending) (w' : World) : Prop := ∃ a c, e = .returned (.tuple #[.slice a R.1.length c, .int .i64 R.2]) ∧ Sl K w' (.slice a R.1.length c) (u8s R.1) ∧ Keeps (fun _ => False) w w'
set_option maxRecDepth 100000 in set_option maxHeartbeats 1000000 in
theorem RBytes_any (K : Nat → Prop) (M : Pm) (ah : Option Addr) (ch : Nat) (ad : Option Addr) (cd : Nat) (w : World) (hM : M.ok) (hr : RPr K w M ah ch ad cd) :
    Calls Tryd.prog 48 #[.agg #[.int .i64 M.id, .bool M.kn, .int .i64 (M.dt.length : Int), .int .u32 (M.sm : Int), .slice ah M.hv.length ch, .slice ad M.dt.length cd]] w fun e w' => RBytP (fun _ => True) w (bytesM M) e w' := by
  have HM := hid hM; have HR := hid hr.1; have HD : Hd (Sl K w (.slice ad M.dt.length cd) (u8s M.dt)) := hid (row_sl hr.2 (by rw [u8s_length]))
  have HBM : Hd (bytesM M = if M.kn = false then ([], 3) else if gapsL M.hv ≠ [] then ([], 6) else if Cr.crc M.dt ≠ M.sm then ([], 8) else (M.dt, 0)) := hid rfl
  have HGM : Hd (M.kn = true → gapsM M = gapsL M.hv) := hid (fun h => by unfold gapsM; rw [if_pos h])
  obtain ⟨R, hR⟩ : ∃ R, bytesM M = R := ⟨_, rfl⟩
  rw [hR] at HBM ⊢
  clear hM hr hR
  have hm2 : M.dt.length ≤ 65536 := HM.out.max
  go_enter Tryd.func48, Tryd.ntmps48
  go_upto_region 1 with fail
  generalize hW : World.alloc w _ = W1
  have KS : Hd (Keeps (fun _ => False) w W1) := hid (by rw [← hW]; exact (Keeps.alloc (Keeps.refl (fun _ => False) w) _))
  have HR' : Hd (Row K W1 1 (.slice ah M.hv.length ch) M.hv.length (bls M.hv)) := hid (HR.out.keep KS.out (fun _ _ _ h => h))
  have HD' : Hd (Sl K W1 (.slice ad M.dt.length cd) (u8s M.dt)) := hid (HD.out.keep KS.out (fun _ _ _ h => h))
  have BP : Hd (Blk W1 w.heap.size #[(.int .i64 M.id), (.bool M.kn), (.int .i64 (M.dt.length : Int)), (.int .u32 (M.sm : Int)), (.slice ah M.hv.length ch), (.slice ad M.dt.length cd)] 61) := hid (by rw [← hW]; exact (blk_new _ _ _))
  clear HR HD
  have HR := HR'
  clear HR'
  have HD := HD'
  clear HD'
  have HK : Hd (Keeps (fun _ => False) w W1) := hid KS.out
  have z_W1 : w.heap.size + 1 ≤ W1.heap.size := by rw [← hW]; simp
  clear hW KS
  obtain ⟨kn, hkn⟩ : ∃ kn, M.kn = kn := ⟨_, rfl⟩
  have HKN := hid hkn
  rw [hkn] at BP HBM HGM
  clear hkn
  cases kn
  · have HE : Hd (R = ([], 3)) := hid (by rw [HBM.out, if_pos rfl])
    have o_BP_1 : W1.cell? ⟨w.heap.size, 1, none⟩ = some ((.bool false)) := blk_cell BP.out 1
    go_wp2
    go_ret2
    rw [HE.out]
    exact ⟨none, 0, rfl, Sl.nil _ _, HK.out⟩
  · have HGE := hid (HGM.out rfl)
    rw [← HGE.out, if_neg (show ¬ (true = false) from Bool.noConfusion)] at HBM
    obtain ⟨G, hG⟩ : ∃ G, gapsM M = G := ⟨_, rfl⟩
    rw [hG] at HBM
    have HG := hid hG
    clear hG HGE HGM
    have o_BP_0 : W1.cell? ⟨w.heap.size, 0, none⟩ = some ((.int .i64 M.id)) := blk_cell BP.out 0
    have o_BP_1 : W1.cell? ⟨w.heap.size, 1, none⟩ = some ((.bool true)) := blk_cell BP.out 1
    have o_BP_2 : W1.cell? ⟨w.heap.size, 2, none⟩ = some ((.int .i64 (M.dt.length : Int))) := blk_cell BP.out 2
    have o_BP_3 : W1.cell? ⟨w.heap.size, 3, none⟩ = some ((.int .u32 (M.sm : Int))) := blk_cell BP.out 3
    have o_BP_4 : W1.cell? ⟨w.heap.size, 4, none⟩ = some ((.slice ah M.hv.length ch)) := blk_cell BP.out 4
    have o_BP_5 : W1.cell? ⟨w.heap.size, 5, none⟩ = some ((.slice ad M.dt.length cd)) := blk_cell BP.out 5
    have hcall := RGaps_any K M ah ch ad cd _ HM.out HR.out
    rw [HG.out, HKN.out] at hcall
    have HC := hid hcall
    clear hcall
    go_wp2_with fail
    refine (HC.out).mono ?_
    rintro e W2 ⟨ga, gc, rfl, -, hk⟩
    clear o_BP_0 o_BP_1 o_BP_2 o_BP_3 o_BP_4 o_BP_5
    have HR' : Hd (Row K W2 1 (.slice ah M.hv.length ch) M.hv.length (bls M.hv)) := hid (HR.out.keep hk (fun _ _ _ h => h))
    have HD' : Hd (Sl K W2 (.slice ad M.dt.length cd) (u8s M.dt)) := hid (HD.out.keep hk (fun _ _ _ h => h))
    have BP' : Hd (Blk W2 w.heap.size #[(.int .i64 M.id), (.bool true), (.int .i64 (M.dt.length : Int)), (.int .u32 (M.sm : Int)), (.slice ah M.hv.length ch), (.slice ad M.dt.length cd)] 61) := hid (blk_keep BP.out hk (fun h => h))
    clear HR HD BP
    have HR := HR'
    clear HR'
    have HD := HD'
    clear HD'
    have BP := BP'
    clear BP'
    have HK' : Hd (Keeps (fun _ => False) w W2) := hid (HK.out.trans hk)
    clear HK
    have HK := HK'
    clear HK'
    have z_W2 := hk.size
    clear hk
    clear HC
    obtain ⟨m, hm⟩ : ∃ m, G.length = m := ⟨_, rfl⟩
    rw [hm]
    have HGN := hid hm
    clear hm
    rcases Nat.eq_zero_or_pos m with hm0 | hm0
    · subst hm0
      have hGn := List.eq_nil_of_length_eq_zero HGN.out
      subst hGn
      rw [if_neg (show ¬ (([] : List (Int × Int)) ≠ []) from fun h => h rfl)] at HBM
      by_cases hc : Cr.crc M.dt = M.sm
      · have HE : Hd (R = (M.dt, 0)) := hid (by rw [HBM.out, if_neg (fun h => h hc)])
        clear HBM
        obtain ⟨cr, hcr⟩ : ∃ cr : Nat, Cr.crc M.dt = cr := ⟨_, rfl⟩
        rw [hcr] at hc
        have HCR := hid hcr
        clear hcr
        have cn : ((cr : Int) != (M.sm : Int)) = false := by rw [hc]; simp
        clear hc
        go_upto_region 5 with fail
        have HSUM : Hd (∀ n : Nat, Calls Tryd.prog 60 #[.slice ad M.dt.length cd] (W2.drewN n) fun e w'' => e = .returned (.int .u32 ((cr : Nat) : Int)) ∧ ∃ m, w'' = W2.drewN m) := hid (fun n => by rw [← HCR.out]; exact (Cr.RSum_any K _ M.dt _ (HD.out.keep ((Keeps.refl (fun _ => False) _).drewN n) (fun _ _ _ h => h)) HM.out.b (Nat.le_trans hm2 (by decide))).mono (fun e w'' h => ⟨h.1, n, h.2.symm⟩))
        have o_BP_3 : W2.cell? ⟨w.heap.size, 3, none⟩ = some ((.int .u32 (M.sm : Int))) := blk_cell BP.out 3
        have o_BP_5 : W2.cell? ⟨w.heap.size, 5, none⟩ = some ((.slice ad M.dt.length cd)) := blk_cell BP.out 5
        go_quiet ((go_at_call 60; exact HSUM.out _))
        all_goals
          have q5 : W2.cell? ⟨w.heap.size, 5, none⟩ = some (.slice ad M.dt.length cd) := blk_cell BP.out 5
          go_wp2
          go_ret2
          rw [HE.out]
          exact ⟨ad, cd, rfl, (HD.out.keep (S := fun _ => False) (by repeat (first | (with_reducible exact KC.out) | (with_reducible exact Keeps.refl _ _) | (with_reducible apply Keeps.drewN) | (with_reducible apply Keeps.drew) | (with_reducible apply Keeps.alloc))) (fun _ _ _ h => h)).mono (fun _ _ _ => trivial), HK.out.trans (by repeat (first | (with_reducible exact KC.out) | (with_reducible exact Keeps.refl _ _) | (with_reducible apply Keeps.drewN) | (with_reducible apply Keeps.drew) | (with_reducible apply Keeps.alloc)))⟩
      · have HE : Hd (R = ([], 8)) := hid (by rw [HBM.out, if_pos hc])
        clear HBM
        obtain ⟨cr, hcr⟩ : ∃ cr : Nat, Cr.crc M.dt = cr := ⟨_, rfl⟩
        rw [hcr] at hc
        have HCR := hid hcr
        clear hcr
        have cn : ((cr : Int) != (M.sm : Int)) = true := by simp; omega
        clear hc
        go_upto_region 5 with fail
        have HSUM : Hd (∀ n : Nat, Calls Tryd.prog 60 #[.slice ad M.dt.length cd] (W2.drewN n) fun e w'' => e = .returned (.int .u32 ((cr : Nat) : Int)) ∧ ∃ m, w'' = W2.drewN m) := hid (fun n => by rw [← HCR.out]; exact (Cr.RSum_any K _ M.dt _ (HD.out.keep ((Keeps.refl (fun _ => False) _).drewN n) (fun _ _ _ h => h)) HM.out.b (Nat.le_trans hm2 (by decide))).mono (fun e w'' h => ⟨h.1, n, h.2.symm⟩))
        have o_BP_3 : W2.cell? ⟨w.heap.size, 3, none⟩ = some ((.int .u32 (M.sm : Int))) := blk_cell BP.out 3
        have o_BP_5 : W2.cell? ⟨w.heap.size, 5, none⟩ = some ((.slice ad M.dt.length cd)) := blk_cell BP.out 5
        go_quiet ((go_at_call 60; exact HSUM.out _))
        all_goals
          go_wp2
          go_ret2
          rw [HE.out]
          exact ⟨none, 0, rfl, Sl.nil _ _, HK.out.trans (by repeat (first | (with_reducible exact KC.out) | (with_reducible exact Keeps.refl _ _) | (with_reducible apply Keeps.drewN) | (with_reducible apply Keeps.drew) | (with_reducible apply Keeps.alloc)))⟩
    · have HE : Hd (R = ([], 6)) := hid (by rw [HBM.out, if_pos (fun h => by rw [h] at HGN; have := HGN.out; simp at this; omega)])
      have m0 : (0 : Int) < m := by omega
      go_wp2
      go_ret2
      rw [HE.out]
      exact ⟨none, 0, rfl, Sl.nil _ _, HK.out⟩
theorem ovr_full {α : Type} {l d : List α} (h : d.length = l.length) : ovr l 0 d = d := by
  unfold ovr; rw [List.take_zero, List.nil_append, Nat.zero_add, h, List.drop_length, List.append_nil]
theorem row_at0 {K : Nat → Prop} {w : World} {a : Option Addr} {n c : Nat} {xs : List Value} (h : Row K w 1 (.slice a n c) n xs) {k : Nat} (hk : k < n) : ∃ b o, a = some ⟨b, o, none⟩ ∧ K b ∧ b < w.heap.size ∧ w.cell? ⟨b, o + k, none⟩ = some (xs.getD k undef) := by
  obtain ⟨a', c', e, _, _, hel⟩ := h.form
  injection e with e1 e2 e3
  subst e1
  obtain ⟨b, o, ea, hK, hb, hcell⟩ := hel (by omega)
  exact ⟨b, o, ea, hK, hb, hcell k (by omega)⟩
theorem keep6 (w : World) (b : Nat) (u0 u1 u2 u3 u4 u5 : Value) : Keeps (fun i => i = b) w ((((((w.setCell ⟨b, 0, none⟩ u0).setCell ⟨b, 1, none⟩ u1).setCell ⟨b, 2, none⟩ u2).setCell ⟨b, 3, none⟩ u3).setCell ⟨b, 4, none⟩ u4).setCell ⟨b, 5, none⟩ u5) :=
  keq (keq (keq (keq (keq (keq (Keeps.refl _ _) _ _) _ _) _ _) _ _) _ _) _ _
/-- the two lists of the part under way -/
def CpS (W : World) (bh bd n : Nat) (hv : List Bool) (dt : List Nat) (w : World) : Prop := Own (fun b => b = bh) w 4 1 (.slice (some ⟨bh, 0, none⟩) n n) n (bls hv) ∧ Own (fun b => b = bd) w 5 1 (.slice (some ⟨bd, 0, none⟩) n n) n (u8s dt) ∧ Keeps (fun b => b = bh ∨ b = bd) W w
theorem own_len {S : Nat → Prop} {w : World} {e : TypeId} {v : Value} {n : Nat} {xs : List Value} (h : Own S w e 1 v n xs) : xs.length = n := by have := h.1.1; omega
theorem CpS.setH {W w : World} {bh bd n : Nat} {hv : List Bool} {dt : List Nat} (h : CpS W bh bd n hv dt w) (hne : bh ≠ bd) {k : Nat} (hk : k < n) (u : Bool) : w.cell? ⟨bh, k, none⟩ = some (.bool (hv.getD k false)) ∧ w.frozen? ⟨bh, k, none⟩ = false ∧ CpS W bh bd n (hv.set k u) dt (w.setCell ⟨bh, k, none⟩ (.bool u)) := by
  have hl : hv.length = n := by have := own_len h.1; rw [bls_length] at this; exact this
  refine ⟨by rw [h.1.1.cellAt k (by omega)]; simp [bls, List.getD, hl, hk], h.1.1.frozenAt _, ?_, ?_, h.2.2.setCell (.inl (.inl rfl)) _⟩
  · have := own_set h.1 k (.bool u)
    rw [bls_set] at this
    exact this
  · exact Own.keep h.2.1 (keeps_set (fun b => b = bh) w ⟨bh, k, none⟩ (.bool u) rfl) (fun b _ h1 h2 => by omega)
theorem CpS.setD {W w : World} {bh bd n : Nat} {hv : List Bool} {dt : List Nat} (h : CpS W bh bd n hv dt w) (hne : bh ≠ bd) {k : Nat} (hk : k < n) (u : Nat) : w.cell? ⟨bd, k, none⟩ = some (.int .u8 (dt.getD k 0 : Nat)) ∧ w.frozen? ⟨bd, k, none⟩ = false ∧ CpS W bh bd n hv (dt.set k u) (w.setCell ⟨bd, k, none⟩ (.int .u8 (u : Nat))) := by
  have hl : dt.length = n := by have := own_len h.2.1; rw [u8s_length] at this; exact this
  refine ⟨by rw [h.2.1.1.cellAt k (by omega)]; simp [u8s, List.getD, hl, hk], h.2.1.1.frozenAt _, ?_, ?_, h.2.2.setCell (.inl (.inr rfl)) _⟩
  · exact Own.keep h.1 (keeps_set (fun b => b = bd) w ⟨bd, k, none⟩ (.int .u8 (u : Nat)) rfl) (fun b _ h1 h2 => by omega)
  · have := own_set h.2.1 k (.int .u8 (u : Nat))
    rw [u8s_set] at this
    exact this
theorem CpS.drew {W w : World} {bh bd n : Nat} {hv : List Bool} {dt : List Nat} (h : CpS W bh bd n hv dt w) : CpS W bh bd n hv dt w.drew := ⟨h.1, h.2.1, h.2.2.drew⟩
theorem CpS.drewN {W w : World} {bh bd n : Nat} {hv : List Bool} {dt : List Nat} (h : CpS W bh bd n hv dt w) (m : Nat) : CpS W bh bd n hv dt (w.drewN m) := ⟨h.1, h.2.1, h.2.2.drewN m⟩
/-- the new part's memory -/
def MkR (W : World) (n : Nat) (id t : Int) (s : Nat) (u : Value) (wx : World) : Prop := ∃ bh bd bq, u = .pointer (some ⟨bq, 0, none⟩) ∧ bh ≠ bd ∧ bh ≠ bq ∧ bd ≠ bq ∧ W.heap.size ≤ bh ∧ W.heap.size ≤ bd ∧ W.heap.size ≤ bq ∧ Hd (Blk wx bh (bls (List.replicate n false)).toArray 4) ∧ Hd (Blk wx bd (u8s (List.replicate n 0)).toArray 5) ∧
  Hd (Blk wx bq #[.int .i64 id, .bool true, .int .i64 t, .int .u32 (s : Int), .slice (some ⟨bh, 0, none⟩) n n, .slice (some ⟨bd, 0, none⟩) n n] 61) ∧ Hd (Keeps (fun _ => False) W wx)
def RPutP (K : Nat → Prop) (w : World) (M2 : Pm) (E : Int) (e : Ending) (w' : World) : Prop := ∃ ah ch ad cd, e = .returned (.tuple #[.agg #[.int .i64 M2.id, .bool M2.kn, .int .i64 (M2.dt.length : Int), .int .u32 (M2.sm : Int), .slice ah M2.hv.length ch, .slice ad M2.dt.length cd], .int .i64 E]) ∧ RPr (fun b => K b ∨ w.heap.size ≤ b) w' M2 ah ch ad cd ∧ Keeps (fun _ => False) w w'
set_option maxRecDepth 100000 in
set_option maxHeartbeats 4000000 in
theorem RPut_any (K : Nat → Prop) (M : Pm) (ah : Option Addr) (ch : Nat) (ad : Option Addr) (cd : Nat) (x : Seg) (a : Option Addr) (c : Nat) (w : World) (hM : M.ok) (hr : RPr K w M ah ch ad cd) (hx : Sl (fun b => b < w.heap.size) w (.slice a x.d.length c) (u8s x.d)) (hx8 : ∀ c ∈ x.d, c < 256) (hxs : x.s < 4294967296) (hxt : -9223372036854775808 ≤ x.t ∧ x.t ≤ 9223372036854775807) :
    Calls Tryd.prog 32 #[.agg #[.int .i64 M.id, .bool M.kn, .int .i64 (M.dt.length : Int), .int .u32 (M.sm : Int), .slice ah M.hv.length ch, .slice ad M.dt.length cd], .agg #[.int .i64 x.f, .int .i64 x.o, .int .i64 x.t, .int .u32 (x.s : Int), .slice a x.d.length c]] w fun e w' => RPutP K w (putM M x) (putE M x) e w' := by
  obtain ⟨E, hE⟩ : ∃ E, putE M x = E := ⟨_, rfl⟩
  have HE1 : Hd (x.f ≠ M.id → E = 1) := hid (fun h => by rw [← hE]; unfold putE; rw [if_pos h])
  have HE5 : Hd (x.f = M.id → ¬ Valid x → E = 5) := hid (fun h h2 => by rw [← hE]; unfold putE; rw [if_neg (fun hn => hn h), if_pos h2])
  have HE7 : Hd (x.f = M.id → Valid x → M.kn = true ∧ (x.t ≠ M.dt.length ∨ x.s ≠ M.sm) → E = 7) := hid (fun h h2 h3 => by rw [← hE]; unfold putE; rw [if_neg (fun hn => hn h), if_neg (fun hn => hn h2), if_pos h3])
  have HE8 : Hd (x.f = M.id → Valid x → ¬ (M.kn = true ∧ (x.t ≠ M.dt.length ∨ x.s ≠ M.sm)) → E = if anyC (initM M x) x then 8 else 0) := hid (fun h h2 h3 => by rw [← hE]; unfold putE; rw [if_neg (fun hn => hn h), if_neg (fun hn => hn h2), if_neg h3])
  have HP0 : Hd (E = 0 → putM M x = overM (initM M x) x) := hid (fun h => by unfold putM; rw [hE, if_pos h])
  have HFP : Hd (∀ (V : World) (n : Int), Keeps (fun _ => False) w V → E = n → n ≠ 0 → RPutP K w (putM M x) E (.returned (.tuple #[.agg #[.int .i64 M.id, .bool M.kn, .int .i64 (M.dt.length : Int), .int .u32 (M.sm : Int), .slice ah M.hv.length ch, .slice ad M.dt.length cd], .int .i64 n])) V) := hid (fun V n hk hn h0 => by
    subst hn
    have hs : putM M x = M := putM_same hM (by rw [hE]; exact h0)
    rw [hs]
    exact ⟨ah, ch, ad, cd, rfl, (hr.keep hk (fun _ _ _ h => h)).mono (fun b _ h => .inl h), hk⟩)
  have HRH := hid (hr.1.mono (K' := fun b => b < w.heap.size) (fun b h _ => h)); have HRD := hid (hr.2.mono (K' := fun b => b < w.heap.size) (fun b h _ => h))
  have HM := hid hM; have HX := hid hx; have HXB := hid hx8; have HXS := hid hxs; have HXT := hid hxt
  rw [hE]
  clear hE hM hr hx hx8 hxs hxt
  go_enter Tryd.func32, Tryd.ntmps32
  go_upto_region 1 with fail
  generalize hW : World.alloc (World.alloc (World.alloc w _) _) _ = W1
  have KS : Hd (Keeps (fun _ => False) w W1) := hid (by rw [← hW]; exact (Keeps.alloc (Keeps.alloc (Keeps.alloc (Keeps.refl (fun _ => False) w) _) _) _))
  have HRH' : Hd (Row (fun b => b < w.heap.size) W1 1 (.slice ah M.hv.length ch) M.hv.length (bls M.hv)) := hid (HRH.out.keep KS.out (fun _ _ _ h => h))
  have HRD' : Hd (Row (fun b => b < w.heap.size) W1 1 (.slice ad M.dt.length cd) M.dt.length (u8s M.dt)) := hid (HRD.out.keep KS.out (fun _ _ _ h => h))
  have HX' : Hd (Sl (fun b => b < w.heap.size) W1 (.slice a x.d.length c) (u8s x.d)) := hid (HX.out.keep KS.out (fun _ _ _ h => h))
  have BP : Hd (Blk W1 w.heap.size #[(.int .i64 M.id), (.bool M.kn), (.int .i64 (M.dt.length : Int)), (.int .u32 (M.sm : Int)), (.slice ah M.hv.length ch), (.slice ad M.dt.length cd)] 61) := hid (by rw [← hW]; exact (blk_alloc (blk_alloc (blk_new _ _ _) _) _))
  have BS : Hd (Blk W1 (w.heap.size + 1) #[(.int .i64 x.f), (.int .i64 x.o), (.int .i64 x.t), (.int .u32 (x.s : Int)), (.slice a x.d.length c)] 44) := hid (by rw [← hW]; exact (blk_alloc (blk_new' _ _ _ _ (by simp)) _))
  have BR : Hd (Blk W1 (w.heap.size + 1 + 1) #[(.int .i64 0), (.bool false), (.int .i64 0), (.int .u32 0), (.slice none 0 0), (.slice none 0 0)] 61) := hid (by rw [← hW]; exact (blk_new' _ _ _ _ (by simp)))
  clear HRH HRD HX
  have HRH := HRH'
  clear HRH'
  have HRD := HRD'
  clear HRD'
  have HX := HX'
  clear HX'
  have HK : Hd (Keeps (fun _ => False) w W1) := hid KS.out
  have z_W1 : w.heap.size + 3 ≤ W1.heap.size := by rw [← hW]; simp
  clear hW KS
  by_cases h1 : x.f = M.id
  · have d1 : (x.f != M.id) = false := by simp; exact h1
    obtain ⟨vd, hvd⟩ : ∃ vd, decide (Valid x) = vd := ⟨_, rfl⟩
    have HVD := hid hvd
    clear hvd
    have o_BP_0 : W1.cell? ⟨w.heap.size, 0, none⟩ = some ((.int .i64 M.id)) := blk_cell BP.out 0
    have o_BP_1 : W1.cell? ⟨w.heap.size, 1, none⟩ = some ((.bool M.kn)) := blk_cell BP.out 1
    have o_BP_2 : W1.cell? ⟨w.heap.size, 2, none⟩ = some ((.int .i64 (M.dt.length : Int))) := blk_cell BP.out 2
    have o_BP_3 : W1.cell? ⟨w.heap.size, 3, none⟩ = some ((.int .u32 (M.sm : Int))) := blk_cell BP.out 3
    have o_BP_4 : W1.cell? ⟨w.heap.size, 4, none⟩ = some ((.slice ah M.hv.length ch)) := blk_cell BP.out 4
    have o_BP_5 : W1.cell? ⟨w.heap.size, 5, none⟩ = some ((.slice ad M.dt.length cd)) := blk_cell BP.out 5
    have o_BS_0 : W1.cell? ⟨w.heap.size + 1, 0, none⟩ = some ((.int .i64 x.f)) := blk_cell BS.out 0
    have o_BS_1 : W1.cell? ⟨w.heap.size + 1, 1, none⟩ = some ((.int .i64 x.o)) := blk_cell BS.out 1
    have o_BS_2 : W1.cell? ⟨w.heap.size + 1, 2, none⟩ = some ((.int .i64 x.t)) := blk_cell BS.out 2
    have o_BS_3 : W1.cell? ⟨w.heap.size + 1, 3, none⟩ = some ((.int .u32 (x.s : Int))) := blk_cell BS.out 3
    have o_BS_4 : W1.cell? ⟨w.heap.size + 1, 4, none⟩ = some ((.slice a x.d.length c)) := blk_cell BS.out 4
    have H1 := hid h1
    clear h1
    go_wp2_with fail
    refine (RValid_any x a c _ HXT.out).mono ?_
    rw [HVD.out]
    rintro e W2 ⟨rfl, hk⟩
    clear o_BP_0 o_BP_1 o_BP_2 o_BP_3 o_BP_4 o_BP_5 o_BS_0 o_BS_1 o_BS_2 o_BS_3 o_BS_4
    have HRH' : Hd (Row (fun b => b < w.heap.size) W2 1 (.slice ah M.hv.length ch) M.hv.length (bls M.hv)) := hid (HRH.out.keep hk (fun _ _ _ h => h))
    have HRD' : Hd (Row (fun b => b < w.heap.size) W2 1 (.slice ad M.dt.length cd) M.dt.length (u8s M.dt)) := hid (HRD.out.keep hk (fun _ _ _ h => h))
    have HX' : Hd (Sl (fun b => b < w.heap.size) W2 (.slice a x.d.length c) (u8s x.d)) := hid (HX.out.keep hk (fun _ _ _ h => h))
    have BP' : Hd (Blk W2 w.heap.size #[(.int .i64 M.id), (.bool M.kn), (.int .i64 (M.dt.length : Int)), (.int .u32 (M.sm : Int)), (.slice ah M.hv.length ch), (.slice ad M.dt.length cd)] 61) := hid (blk_keep BP.out hk (fun h => h))
    have BS' : Hd (Blk W2 (w.heap.size + 1) #[(.int .i64 x.f), (.int .i64 x.o), (.int .i64 x.t), (.int .u32 (x.s : Int)), (.slice a x.d.length c)] 44) := hid (blk_keep BS.out hk (fun h => h))
    have BR' : Hd (Blk W2 (w.heap.size + 1 + 1) #[(.int .i64 0), (.bool false), (.int .i64 0), (.int .u32 0), (.slice none 0 0), (.slice none 0 0)] 61) := hid (blk_keep BR.out hk (fun h => h))
    clear HRH HRD HX BP BS BR
    have HRH := HRH'
    clear HRH'
    have HRD := HRD'
    clear HRD'
    have HX := HX'
    clear HX'
    have BP := BP'
    clear BP'
    have BS := BS'
    clear BS'
    have BR := BR'
    clear BR'
    have HK' : Hd (Keeps (fun _ => False) w W2) := hid (HK.out.trans hk)
    clear HK
    have HK := HK'
    clear HK'
    have z_W2 := hk.size
    clear hk
    clear d1
    cases vd
    · have e5 := HE5.out H1.out (of_decide_eq_false HVD.out)
      have o_BP_0 : W2.cell? ⟨w.heap.size, 0, none⟩ = some ((.int .i64 M.id)) := blk_cell BP.out 0
      have o_BP_1 : W2.cell? ⟨w.heap.size, 1, none⟩ = some ((.bool M.kn)) := blk_cell BP.out 1
      have o_BP_2 : W2.cell? ⟨w.heap.size, 2, none⟩ = some ((.int .i64 (M.dt.length : Int))) := blk_cell BP.out 2
      have o_BP_3 : W2.cell? ⟨w.heap.size, 3, none⟩ = some ((.int .u32 (M.sm : Int))) := blk_cell BP.out 3
      have o_BP_4 : W2.cell? ⟨w.heap.size, 4, none⟩ = some ((.slice ah M.hv.length ch)) := blk_cell BP.out 4
      have o_BP_5 : W2.cell? ⟨w.heap.size, 5, none⟩ = some ((.slice ad M.dt.length cd)) := blk_cell BP.out 5
      have o_BR_0 : W2.cell? ⟨w.heap.size + 1 + 1, 0, none⟩ = some ((.int .i64 0)) := blk_cell BR.out 0
      have o_BR_1 : W2.cell? ⟨w.heap.size + 1 + 1, 1, none⟩ = some ((.bool false)) := blk_cell BR.out 1
      have o_BR_2 : W2.cell? ⟨w.heap.size + 1 + 1, 2, none⟩ = some ((.int .i64 0)) := blk_cell BR.out 2
      have o_BR_3 : W2.cell? ⟨w.heap.size + 1 + 1, 3, none⟩ = some ((.int .u32 0)) := blk_cell BR.out 3
      have o_BR_4 : W2.cell? ⟨w.heap.size + 1 + 1, 4, none⟩ = some ((.slice none 0 0)) := blk_cell BR.out 4
      have o_BR_5 : W2.cell? ⟨w.heap.size + 1 + 1, 5, none⟩ = some ((.slice none 0 0)) := blk_cell BR.out 5
      have f_BR_0 : W2.frozen? ⟨w.heap.size + 1 + 1, 0, none⟩ = false := blk_free BR.out 0
      have f_BR_1 : W2.frozen? ⟨w.heap.size + 1 + 1, 1, none⟩ = false := blk_free BR.out 1
      have f_BR_2 : W2.frozen? ⟨w.heap.size + 1 + 1, 2, none⟩ = false := blk_free BR.out 2
      have f_BR_3 : W2.frozen? ⟨w.heap.size + 1 + 1, 3, none⟩ = false := blk_free BR.out 3
      have f_BR_4 : W2.frozen? ⟨w.heap.size + 1 + 1, 4, none⟩ = false := blk_free BR.out 4
      have f_BR_5 : W2.frozen? ⟨w.heap.size + 1 + 1, 5, none⟩ = false := blk_free BR.out 5
      go_wp2
      obtain ⟨HV2, B3⟩ := fin6 HK.out (show w.heap.size ≤ w.heap.size + 1 + 1 by omega) BR.out (.int .i64 M.id) (.bool M.kn) (.int .i64 (M.dt.length : Int)) (.int .u32 (M.sm : Int)) (.slice ah M.hv.length ch) (.slice ad M.dt.length cd)
      have r0 := blk_cell B3 0
      have r1 := blk_cell B3 1
      have r2 := blk_cell B3 2
      have r3 := blk_cell B3 3
      have r4 := blk_cell B3 4
      have r5 := blk_cell B3 5
      refine bodyPost_ret (v := .tuple #[.agg #[(.int .i64 M.id), (.bool M.kn), (.int .i64 (M.dt.length : Int)), (.int .u32 (M.sm : Int)), (.slice ah M.hv.length ch), (.slice ad M.dt.length cd)], .int .i64 5]) (by simp [results, Tryd.results32, go_sem, r0, r1, r2, r3, r4, r5]) rfl (HFP.out _ 5 HV2 e5 (by omega))
    · have HV : Hd (Valid x) := hid (of_decide_eq_true HVD.out)
      obtain ⟨n, hn⟩ : ∃ n : Nat, x.t = n := ⟨x.t.toNat, by have := HV.out.1; omega⟩
      have HN := hid hn
      have hn6 : n ≤ 65536 := by have := HV.out.2.1; omega
      have BSN : Hd (Blk W2 (w.heap.size + 1) #[.int .i64 x.f, .int .i64 x.o, .int .i64 (n : Int), .int .u32 (x.s : Int), .slice a x.d.length c] 44) := hid (by have h := BS.out; rw [hn] at h; exact h)
      clear BS
      have BS := BSN
      clear BSN
      clear hn HVD
      obtain ⟨kn, hkn⟩ : ∃ kn, M.kn = kn := ⟨_, rfl⟩
      have HKN := hid hkn
      rw [hkn] at BP
      clear hkn
      cases kn
      · have HNO : Hd (¬ (M.kn = true ∧ (x.t ≠ M.dt.length ∨ x.s ≠ M.sm))) := hid (fun h => by rw [HKN.out] at h; exact Bool.noConfusion h.1)
        have o_BP_1 : W2.cell? ⟨w.heap.size, 1, none⟩ = some ((.bool false)) := blk_cell BP.out 1
        have HE8' := hid (HE8.out H1.out HV.out HNO.out)
        have HIL := hid (initM_len HV.out HNO.out)
        have HIO := hid (initM_ok HM.out HV.out HXS.out)
        have HIK := hid (initM_kn M x)
        have HII := hid (initM_id M x)
        have HIS := hid (initM_sm HNO.out)
        clear HE1 HE5 HE7 HE8
        go_upto_region 7 with fail
        clear o_BP_1
        have hmkb : ∀ w, (Instr.makeSlice 50 (.int .i64 (n : Int)) (.int .i64 (n : Int))).run Tryd.prog w = .ok (.slice (some ⟨w.heap.size, 0, none⟩) n n) (w.alloc (.cells (bls (List.replicate n false)).toArray 4)) := fun w => by rw [← made_b]; exact run_make_row' (P := Tryd.prog) 50 4 (.bool false) 1 Tryd.underlying50 infoBo rfl .i64 .i64 n (by omega) (by omega) w
        have hmku : ∀ w, (Instr.makeSlice 22 (.int .i64 (n : Int)) (.int .i64 (n : Int))).run Tryd.prog w = .ok (.slice (some ⟨w.heap.size, 0, none⟩) n n) (w.alloc (.cells (u8s (List.replicate n 0)).toArray 5)) := fun w => by rw [← made_u]; exact run_make_row' (P := Tryd.prog) 22 5 (.int .u8 0) 1 Tryd.underlying22 Cr.infoU8 rfl .i64 .i64 n (by omega) (by omega) w
        have HSS : Hd (∀ w', Keeps (fun _ => False) W2 w' → (w'.cell? ⟨w.heap.size, 0, none⟩ = some (.int .i64 M.id) ∧ w'.cell? ⟨w.heap.size + 1, 2, none⟩ = some (.int .i64 (n : Int)) ∧ w'.cell? ⟨w.heap.size + 1, 3, none⟩ = some (.int .u32 (x.s : Int)))) := hid (fun w' hk => ⟨blk_cell (blk_keep BP.out hk (fun h => h)) 0, blk_cell (blk_keep BS.out hk (fun h => h)) 2, blk_cell (blk_keep BS.out hk (fun h => h)) 3⟩)
        go_cut [6] from 37 to 49 (fun u6 wx => MkR W2 n M.id (n : Int) x.s u6 wx)
        case first =>
          go_region_held (fun w' => w'.cell? ⟨w.heap.size, 0, none⟩ = some (.int .i64 M.id) ∧ w'.cell? ⟨w.heap.size + 1, 2, none⟩ = some (.int .i64 (n : Int)) ∧ w'.cell? ⟨w.heap.size + 1, 3, none⟩ = some (.int .u32 (x.s : Int))) (exact HSS.out _ (by repeat (first | (with_reducible exact Keeps.refl _ _) | (with_reducible apply Keeps.drewN) | (with_reducible apply Keeps.drew) | (with_reducible apply Keeps.alloc) | (refine Keeps.setCell ?_ (.inr (by first | exact Nat.le_refl _ | (simp; done) | (simp; omega) | omega)) _)))) (fail)
          all_goals
            go_wp2_with fail
            go_meet
            first
            | exact ⟨W2.heap.size, (W2.heap.size + 1), (W2.heap.size + 1 + 1), rfl, by omega, by omega, by omega, by omega, by omega, by omega, hid (by (repeat (first | (with_reducible apply blk_drewN) | (with_reducible apply blk_drew) | (with_reducible refine blk_new' _ _ _ _ ?_) | (with_reducible apply blk_alloc))); (first | (with_reducible rfl) | (simp only [World.size_alloc, World.size_drew]; done) | (simp; done))), hid (by (repeat (first | (with_reducible apply blk_drewN) | (with_reducible apply blk_drew) | (with_reducible refine blk_new' _ _ _ _ ?_) | (with_reducible apply blk_alloc))); (first | (with_reducible rfl) | (simp only [World.size_alloc, World.size_drew]; done) | (simp; done))), hid (by (repeat (first | (with_reducible apply blk_drewN) | (with_reducible apply blk_drew) | (with_reducible refine blk_new' _ _ _ _ ?_) | (with_reducible apply blk_alloc))); (first | (with_reducible rfl) | (simp only [World.size_alloc, World.size_drew]; done) | (simp; done))), hid (by repeat (first | (with_reducible exact Keeps.refl _ _) | (with_reducible apply Keeps.drewN) | (with_reducible apply Keeps.drew) | (with_reducible apply Keeps.alloc)))⟩
            | exact ⟨W2.heap.size, (W2.heap.size + 1 + 1), (W2.heap.size + 1), rfl, by omega, by omega, by omega, by omega, by omega, by omega, hid (by (repeat (first | (with_reducible apply blk_drewN) | (with_reducible apply blk_drew) | (with_reducible refine blk_new' _ _ _ _ ?_) | (with_reducible apply blk_alloc))); (first | (with_reducible rfl) | (simp only [World.size_alloc, World.size_drew]; done) | (simp; done))), hid (by (repeat (first | (with_reducible apply blk_drewN) | (with_reducible apply blk_drew) | (with_reducible refine blk_new' _ _ _ _ ?_) | (with_reducible apply blk_alloc))); (first | (with_reducible rfl) | (simp only [World.size_alloc, World.size_drew]; done) | (simp; done))), hid (by (repeat (first | (with_reducible apply blk_drewN) | (with_reducible apply blk_drew) | (with_reducible refine blk_new' _ _ _ _ ?_) | (with_reducible apply blk_alloc))); (first | (with_reducible rfl) | (simp only [World.size_alloc, World.size_drew]; done) | (simp; done))), hid (by repeat (first | (with_reducible exact Keeps.refl _ _) | (with_reducible apply Keeps.drewN) | (with_reducible apply Keeps.drew) | (with_reducible apply Keeps.alloc)))⟩
            | exact ⟨(W2.heap.size + 1), W2.heap.size, (W2.heap.size + 1 + 1), rfl, by omega, by omega, by omega, by omega, by omega, by omega, hid (by (repeat (first | (with_reducible apply blk_drewN) | (with_reducible apply blk_drew) | (with_reducible refine blk_new' _ _ _ _ ?_) | (with_reducible apply blk_alloc))); (first | (with_reducible rfl) | (simp only [World.size_alloc, World.size_drew]; done) | (simp; done))), hid (by (repeat (first | (with_reducible apply blk_drewN) | (with_reducible apply blk_drew) | (with_reducible refine blk_new' _ _ _ _ ?_) | (with_reducible apply blk_alloc))); (first | (with_reducible rfl) | (simp only [World.size_alloc, World.size_drew]; done) | (simp; done))), hid (by (repeat (first | (with_reducible apply blk_drewN) | (with_reducible apply blk_drew) | (with_reducible refine blk_new' _ _ _ _ ?_) | (with_reducible apply blk_alloc))); (first | (with_reducible rfl) | (simp only [World.size_alloc, World.size_drew]; done) | (simp; done))), hid (by repeat (first | (with_reducible exact Keeps.refl _ _) | (with_reducible apply Keeps.drewN) | (with_reducible apply Keeps.drew) | (with_reducible apply Keeps.alloc)))⟩
            | exact ⟨(W2.heap.size + 1), (W2.heap.size + 1 + 1), W2.heap.size, rfl, by omega, by omega, by omega, by omega, by omega, by omega, hid (by (repeat (first | (with_reducible apply blk_drewN) | (with_reducible apply blk_drew) | (with_reducible refine blk_new' _ _ _ _ ?_) | (with_reducible apply blk_alloc))); (first | (with_reducible rfl) | (simp only [World.size_alloc, World.size_drew]; done) | (simp; done))), hid (by (repeat (first | (with_reducible apply blk_drewN) | (with_reducible apply blk_drew) | (with_reducible refine blk_new' _ _ _ _ ?_) | (with_reducible apply blk_alloc))); (first | (with_reducible rfl) | (simp only [World.size_alloc, World.size_drew]; done) | (simp; done))), hid (by (repeat (first | (with_reducible apply blk_drewN) | (with_reducible apply blk_drew) | (with_reducible refine blk_new' _ _ _ _ ?_) | (with_reducible apply blk_alloc))); (first | (with_reducible rfl) | (simp only [World.size_alloc, World.size_drew]; done) | (simp; done))), hid (by repeat (first | (with_reducible exact Keeps.refl _ _) | (with_reducible apply Keeps.drewN) | (with_reducible apply Keeps.drew) | (with_reducible apply Keeps.alloc)))⟩
            | exact ⟨(W2.heap.size + 1 + 1), W2.heap.size, (W2.heap.size + 1), rfl, by omega, by omega, by omega, by omega, by omega, by omega, hid (by (repeat (first | (with_reducible apply blk_drewN) | (with_reducible apply blk_drew) | (with_reducible refine blk_new' _ _ _ _ ?_) | (with_reducible apply blk_alloc))); (first | (with_reducible rfl) | (simp only [World.size_alloc, World.size_drew]; done) | (simp; done))), hid (by (repeat (first | (with_reducible apply blk_drewN) | (with_reducible apply blk_drew) | (with_reducible refine blk_new' _ _ _ _ ?_) | (with_reducible apply blk_alloc))); (first | (with_reducible rfl) | (simp only [World.size_alloc, World.size_drew]; done) | (simp; done))), hid (by (repeat (first | (with_reducible apply blk_drewN) | (with_reducible apply blk_drew) | (with_reducible refine blk_new' _ _ _ _ ?_) | (with_reducible apply blk_alloc))); (first | (with_reducible rfl) | (simp only [World.size_alloc, World.size_drew]; done) | (simp; done))), hid (by repeat (first | (with_reducible exact Keeps.refl _ _) | (with_reducible apply Keeps.drewN) | (with_reducible apply Keeps.drew) | (with_reducible apply Keeps.alloc)))⟩
            | exact ⟨(W2.heap.size + 1 + 1), (W2.heap.size + 1), W2.heap.size, rfl, by omega, by omega, by omega, by omega, by omega, by omega, hid (by (repeat (first | (with_reducible apply blk_drewN) | (with_reducible apply blk_drew) | (with_reducible refine blk_new' _ _ _ _ ?_) | (with_reducible apply blk_alloc))); (first | (with_reducible rfl) | (simp only [World.size_alloc, World.size_drew]; done) | (simp; done))), hid (by (repeat (first | (with_reducible apply blk_drewN) | (with_reducible apply blk_drew) | (with_reducible refine blk_new' _ _ _ _ ?_) | (with_reducible apply blk_alloc))); (first | (with_reducible rfl) | (simp only [World.size_alloc, World.size_drew]; done) | (simp; done))), hid (by (repeat (first | (with_reducible apply blk_drewN) | (with_reducible apply blk_drew) | (with_reducible refine blk_new' _ _ _ _ ?_) | (with_reducible apply blk_alloc))); (first | (with_reducible rfl) | (simp only [World.size_alloc, World.size_drew]; done) | (simp; done))), hid (by repeat (first | (with_reducible exact Keeps.refl _ _) | (with_reducible apply Keeps.drewN) | (with_reducible apply Keeps.drew) | (with_reducible apply Keeps.alloc)))⟩
        case rest =>
          obtain ⟨bh, bd, bq, rfl, hn1, hn2, hn3, hs1, hs2, hs3, BH, BD, BQ, K7⟩ := hcut
          have hk := K7.out
          clear K7 HSS hmkb hmku
          generalize wc = W7 at *
          have HRH' : Hd (Row (fun b => b < w.heap.size) W7 1 (.slice ah M.hv.length ch) M.hv.length (bls M.hv)) := hid (HRH.out.keep hk (fun _ _ _ h => h))
          have HRD' : Hd (Row (fun b => b < w.heap.size) W7 1 (.slice ad M.dt.length cd) M.dt.length (u8s M.dt)) := hid (HRD.out.keep hk (fun _ _ _ h => h))
          have HX' : Hd (Sl (fun b => b < w.heap.size) W7 (.slice a x.d.length c) (u8s x.d)) := hid (HX.out.keep hk (fun _ _ _ h => h))
          have BP' : Hd (Blk W7 w.heap.size #[(.int .i64 M.id), (.bool false), (.int .i64 (M.dt.length : Int)), (.int .u32 (M.sm : Int)), (.slice ah M.hv.length ch), (.slice ad M.dt.length cd)] 61) := hid (blk_keep BP.out hk (fun h => h))
          have BS' : Hd (Blk W7 (w.heap.size + 1) #[(.int .i64 x.f), (.int .i64 x.o), (.int .i64 (n : Int)), (.int .u32 (x.s : Int)), (.slice a x.d.length c)] 44) := hid (blk_keep BS.out hk (fun h => h))
          have BR' : Hd (Blk W7 (w.heap.size + 1 + 1) #[(.int .i64 0), (.bool false), (.int .i64 0), (.int .u32 0), (.slice none 0 0), (.slice none 0 0)] 61) := hid (blk_keep BR.out hk (fun h => h))
          clear HRH HRD HX BP BS BR
          have HRH := HRH'
          clear HRH'
          have HRD := HRD'
          clear HRD'
          have HX := HX'
          clear HX'
          have BP := BP'
          clear BP'
          have BS := BS'
          clear BS'
          have BR := BR'
          clear BR'
          have HK' : Hd (Keeps (fun _ => False) w W7) := hid (HK.out.trans hk)
          clear HK
          have HK := HK'
          clear HK'
          have z_W7 := hk.size
          clear hk
          have OH : Hd (Own (fun b => b = bh) W7 4 1 (.slice (some ⟨bh, 0, none⟩) n n) n (bls (List.replicate n false))) := hid (own_full BH.out (by rw [bls_length, List.length_replicate]) (by unfold maxLen; omega))
          have OD : Hd (Own (fun b => b = bd) W7 5 1 (.slice (some ⟨bd, 0, none⟩) n n) n (u8s (List.replicate n 0))) := hid (own_full BD.out (by rw [u8s_length, List.length_replicate]) (by unfold maxLen; omega))
          have hbh := blk_lt BH.out; have hbd := blk_lt BD.out
          clear BH BD
          obtain ⟨y, hy⟩ : ∃ y, initM M x = y := ⟨_, rfl⟩
          rw [hy] at HIL HIO HIK HII HIS HP0 HE8'
          have hd0 : M.dt = [] := HM.out.un HKN.out
          have hh0 : M.hv = [] := List.eq_nil_of_length_eq_zero (by rw [HM.out.len, hd0]; rfl)
          have hle : M.hv.length ≤ n := by rw [hh0]; simp
          have HYH : Hd (ovr (List.replicate n false) 0 M.hv = y.hv ∧ ovr (List.replicate n 0) 0 M.dt = y.dt) := hid ⟨by rw [hh0, ovr_nil, ← hy]; unfold initM; rw [HKN.out, HN.out]; rfl, by rw [hd0, ovr_nil, ← hy]; unfold initM; rw [HKN.out, HN.out]; rfl⟩
          clear hd0 hh0
          clear hy
          have hdl : M.dt.length = M.hv.length := HM.out.len.symm
          obtain ⟨m1, hm1⟩ : ∃ m1, M.hv.length = m1 := ⟨_, rfl⟩
          rw [hm1] at hdl hle
          have HM1 := hid hm1
          have HMD := hid hdl
          clear hdl
          have HRH2 : Hd (Row (fun b => b < w.heap.size) W7 1 (.slice ah m1 ch) m1 (bls M.hv)) := hid (by rw [← hm1]; exact HRH.out)
          have HRD2 : Hd (Row (fun b => b < w.heap.size) W7 1 (.slice ad m1 cd) m1 (u8s M.dt)) := hid (by have h := HRD.out; rw [HMD.out] at h; exact h)
          have BPN : Hd (Blk W7 w.heap.size #[.int .i64 M.id, .bool false, .int .i64 (m1 : Int), .int .u32 (M.sm : Int), .slice ah m1 ch, .slice ad m1 cd] 61) := hid (by have h := BP.out; rw [HMD.out, hm1] at h; exact h)
          have HRHL := HRH2; have HRDL := HRD2
          clear BP HRH HRD hm1
          have BP := BPN
          clear BPN
          skip
          go_wp2_with fail
          go_loopw [7] (fun iv wr => ∃ k : Nat, iv = .int .i64 k ∧ k ≤ m1 ∧ Hd (CpS W7 bh bd n (ovr (List.replicate n false) 0 (M.hv.take k)) (ovr (List.replicate n 0) 0 (M.dt.take k)) wr)) (fun iv _ => m1 - (intOf iv).toNat)
          case atStart => exact ⟨0, rfl, Nat.zero_le _, hid ⟨by rw [List.take_zero, ovr_nil]; exact OH.out, by rw [List.take_zero, ovr_nil]; exact OD.out, Keeps.refl _ _⟩⟩
          case round =>
            clear OH OD
            obtain ⟨k, rfl, hk, PS⟩ := hrel
            have ps := PS.out.2.2
            have BPV := hid (blk_keep BP.out ps (fun h => by omega)); have BQV := hid (blk_keep BQ.out ps (fun h => by omega))
            have p4 : wr.cell? ⟨w.heap.size, 4, none⟩ = some (.slice ah m1 ch) := blk_cell BPV.out 4
            by_cases hkm : k < m1
            · have k1 : (k : Int) < m1 := by omega
              have k2 : (0 : Int) ≤ k := by omega
              have k3 : (k : Int) < n := by omega
              have k4 : k < n := by omega
              obtain ⟨e1, g1, rfl, hg1, hg2, hc1⟩ := row_at0 (HRHL.out) hkm
              obtain ⟨e2, g2, rfl, hg3, hg4, hc2⟩ := row_at0 (HRDL.out) hkm
              have c1 : wr.cell? ⟨e1, g1 + k, none⟩ = some (.bool (M.hv.getD k false)) := keep_cell ps (fun h => by omega) (by rw [hc1]; simp [bls, List.getD, HM1.out, hkm])
              have c2 : wr.cell? ⟨e2, g2 + k, none⟩ = some (.int .u8 (M.dt.getD k 0 : Nat)) := keep_cell ps (fun h => by omega) (by rw [hc2]; simp [u8s, List.getD, HMD.out, hkm])
              obtain ⟨u, hu⟩ : ∃ u, M.hv[k]? = some u := ⟨M.hv[k]'(by rw [HM1.out]; exact hkm), List.getElem?_eq_getElem _⟩
              obtain ⟨t, ht⟩ : ∃ t, M.dt[k]? = some t := ⟨M.dt[k]'(by rw [HMD.out]; exact hkm), List.getElem?_eq_getElem _⟩
              rw [show M.hv.getD k false = u by rw [List.getD, hu]; rfl] at c1
              rw [show M.dt.getD k 0 = t by rw [List.getD, ht]; rfl] at c2
              obtain ⟨a1, a2, a3⟩ := PS.out.setH (by omega) k4 u
              have hov1 := ovr_set (l := List.replicate n false) (d := M.hv) (o := 0) hu (by simp; rw [HM1.out]; omega)
              have hov2 := ovr_set (l := List.replicate n 0) (d := M.dt) (o := 0) ht (by simp; rw [HMD.out]; omega)
              rw [Nat.zero_add] at hov1 hov2
              rw [hov1] at a3
              have HA3 := hid a3; have HOV2 := hid hov2
              clear a3 hov1 hov2 hc1 hc2 hu ht
              have q4 : wr.cell? ⟨bq, 4, none⟩ = some (.slice (some ⟨bh, 0, none⟩) n n) := blk_cell BQV.out 4
              go_upto_region 11 with fail
              go_still_tail 9, (by kernel_rfl)
              change wpList _ _ _ _ _ wr.drew
              have a1' : wr.drew.cell? ⟨bh, k, none⟩ = _ := a1
              have a2' : wr.drew.frozen? ⟨bh, k, none⟩ = false := a2
              go_upto_region 12 with fail
              generalize hW : World.drew (World.setCell _ _ _) = V1
              have PS1 : Hd (CpS W7 bh bd n (ovr (List.replicate n false) 0 (M.hv.take (k + 1))) (ovr (List.replicate n 0) 0 (M.dt.take k)) V1) := hid (by rw [← hW]; exact HA3.out.drew)
              have kx : Keeps (fun b => b = bh) wr V1 := by rw [← hW]; exact (keq (Keeps.refl _ _) _ _).drew
              clear hW HA3 a1 a2 a1' a2'
              have ps1 := PS1.out.2.2
              have c2' := keep_cell kx (fun h => by omega) c2
              have BPV1 := hid (blk_keep BP.out ps1 (fun h => by omega)); have BQV1 := hid (blk_keep BQ.out ps1 (fun h => by omega))
              skip
              have p5 : V1.cell? ⟨w.heap.size, 5, none⟩ = some (.slice (some ⟨e2, g2, none⟩) m1 cd) := blk_cell BPV1.out 5
              have q5 : V1.cell? ⟨bq, 5, none⟩ = some (.slice (some ⟨bd, 0, none⟩) n n) := blk_cell BQV1.out 5
              obtain ⟨a1, a2, a3⟩ := PS1.out.setD (by omega) k4 t
              rw [HOV2.out] at a3
              have HA3 := hid a3
              clear a3 p4 q4 c1 c2 kx ps1
              go_still_tail 9, (by kernel_rfl)
              change wpList _ _ _ _ _ V1.drew
              have a1' : V1.drew.cell? ⟨bd, k, none⟩ = _ := a1
              have a2' : V1.drew.frozen? ⟨bd, k, none⟩ = false := a2
              go_wp2
              go_roundw
              case rel => exact ⟨k + 1, by go_num, by omega, hid (by first | exact HA3.out | exact HA3.out.drew | exact HA3.out.drew.drew | exact HA3.out.drewN _ | exact (HA3.out.drewN _).drew)⟩
              case measure => simp [intOf]; omega
            · have hkn' : k = m1 := by omega
              have k0 : ¬ ((k : Int) < m1) := by omega
              obtain ⟨V8, hV8⟩ : ∃ V, V = wr := ⟨_, rfl⟩
              subst hV8
              have PS8 : Hd (CpS W7 bh bd n y.hv y.dt V8) := hid (by have h := PS.out; rw [List.take_of_length_le (by rw [HM1.out]; omega), List.take_of_length_le (by rw [HMD.out]; omega), HYH.out.1, HYH.out.2] at h; exact h)
              clear PS hkm hk
              obtain ⟨o, ho⟩ : ∃ o : Nat, x.o = o := ⟨x.o.toNat, by have := HV.out.2.2.2.1; omega⟩
              have HO := hid ho
              obtain ⟨nd, hnd⟩ : ∃ nd, x.d.length = nd := ⟨_, rfl⟩
              have HND := hid hnd
              have hon : o + nd ≤ n := by have h := HV.out.2.2.2.2; rw [ho, hnd, HN.out] at h; omega
              have hhl : y.hv.length = n := by have := HIO.out.len; have := HIL.out; rw [HN.out] at this; omega
              have hdl2 : y.dt.length = n := by have := HIL.out; rw [HN.out] at this; omega
              have HHL := hid hhl; have HDL := hid hdl2
              clear hhl hdl2
              have BSN : Hd (Blk W7 (w.heap.size + 1) #[.int .i64 x.f, .int .i64 (o : Int), .int .i64 (n : Int), .int .u32 (x.s : Int), .slice a nd c] 44) := hid (by have h := BS.out; rw [ho, hnd] at h; exact h)
              have HXN : Hd (Sl (fun b => b < w.heap.size) W7 (.slice a nd c) (u8s x.d)) := hid (by rw [← hnd]; exact HX.out)
              clear BS HX ho hnd
              have BS := BSN; have HX := HXN
              clear BSN HXN
              skip
              have HKW : Hd (Keeps (fun b => b = bh ∨ b = bd) W7 V8) := hid PS8.out.2.2
              have z8 := HKW.out.size
              go_wp2_with fail
              clear p4 BPV BQV ps
              go_loopw [8] (fun iv wr => ∃ k : Nat, iv = .int .i64 k ∧ k ≤ nd ∧ Hd (∀ j, j < k → confl y x j = false) ∧ Hd (CpS V8 bh bd n (ovr y.hv o ((List.replicate nd true).take k)) (ovr y.dt o (x.d.take k)) wr)) (fun iv _ => nd - (intOf iv).toNat)
              case atStart => exact ⟨0, rfl, Nat.zero_le _, hid (fun j h => by omega), hid ⟨by rw [List.take_zero, ovr_nil]; exact PS8.out.1, by rw [List.take_zero, ovr_nil]; exact PS8.out.2.1, Keeps.refl _ _⟩⟩
              case round =>
                clear PS8
                obtain ⟨k, rfl, hk, HC, PS⟩ := hrel
                have ps : Keeps (fun b => b = bh ∨ b = bd) W7 wr := HKW.out.trans PS.out.2.2
                have BPV := hid (blk_keep BP.out ps (fun h => by omega)); have BQV := hid (blk_keep BQ.out ps (fun h => by omega)); have BSV := hid (blk_keep BS.out ps (fun h => by omega)); have BRV := hid (blk_keep BR.out ps (fun h => by omega))
                have HKV : Hd (Keeps (fun _ => False) w wr) := hid (HK.out.trans' ps (fun b hb h => by omega))
                have zwr := ps.size
                have s4 : wr.cell? ⟨w.heap.size + 1, 4, none⟩ = some (.slice a nd c) := blk_cell BSV.out 4
                by_cases hkm : k < nd
                · have k1 : (k : Int) < nd := by omega
                  have k2 : (0 : Int) ≤ k := by omega
                  obtain ⟨e1, g1, rfl, hg1, hg2, hc1⟩ := row_at0 (sl_row HX.out (by rw [u8s_length, HND.out])) hkm
                  obtain ⟨dk, hdk⟩ : ∃ dk, x.d[k]? = some dk := ⟨x.d[k]'(by rw [HND.out]; exact hkm), List.getElem?_eq_getElem _⟩
                  have c1 : wr.cell? ⟨e1, g1 + k, none⟩ = some (.int .u8 (dk : Nat)) := keep_cell ps (fun h => by omega) (by rw [hc1, u8s_getD _ _ (by rw [HND.out]; exact hkm), List.getD, hdk]; rfl)
                  have s1 : wr.cell? ⟨w.heap.size + 1, 1, none⟩ = some (.int .i64 (o : Int)) := blk_cell BSV.out 1
                  obtain ⟨ok, hok⟩ : ∃ ok : Nat, (o : Int) + (k : Int) = ok := ⟨o + k, by omega⟩
                  have hokn : ok = o + k := by omega
                  have hokl : ok < n := by omega
                  have HOK := hid hok
                  obtain ⟨a1, a2, a3⟩ := PS.out.setH (by omega) hokl true
                  have eH : (ovr y.hv o ((List.replicate nd true).take k)).getD ok false = y.hv.getD ok false := by rw [getD_ovr false (by rw [List.length_take, List.length_replicate, HHL.out]; omega), if_neg (by rw [List.length_take, List.length_replicate]; omega)]
                  have eD : (ovr y.dt o (x.d.take k)).getD ok 0 = y.dt.getD ok 0 := by rw [getD_ovr 0 (by rw [List.length_take, HND.out, HDL.out]; omega), if_neg (by rw [List.length_take, HND.out]; omega)]
                  rw [eH] at a1
                  obtain ⟨b1, b2, -⟩ := PS.out.setD (by omega) hokl 0
                  rw [eD] at b1
                  have hov1 := ovr_set (l := y.hv) (d := List.replicate nd true) (o := o) (k := k) (x := true) (by rw [List.getElem?_replicate, if_pos hkm]) (by rw [List.length_replicate, HHL.out]; omega)
                  have hov2 := ovr_set (l := y.dt) (d := x.d) (o := o) hdk (by rw [HND.out, HDL.out]; omega)
                  rw [← hokn] at hov1 hov2
                  have HOV1 := hid hov1; have HOV2 := hid hov2
                  clear a3 hov1 hov2 hc1 eH eD
                  have HCO : Hd (confl y x k = (y.hv.getD ok false && (y.dt.getD ok 0 != dk))) := hid (by unfold confl; rw [HO.out, show (o : Int).toNat + k = ok by omega]; congr 2; rw [List.getD, hdk]; rfl)
                  clear hdk hokn
                  have q4 : wr.cell? ⟨bq, 4, none⟩ = some (.slice (some ⟨bh, 0, none⟩) n n) := blk_cell BQV.out 4
                  have q5 : wr.cell? ⟨bq, 5, none⟩ = some (.slice (some ⟨bd, 0, none⟩) n n) := blk_cell BQV.out 5
                  generalize hbb : y.hv.getD ok false = hb at *
                  generalize hdd : y.dt.getD ok 0 = dd at *
                  clear hbb hdd
                  have okl2 : (ok : Int) < n := by omega
                  have okl3 : (0 : Int) ≤ (ok : Int) := by omega
                  clear okl2 okl3
                  go_upto_region 17 with fail
                  try simp only [HOK.out]
                  cases hb
                  · have HC0 : Hd (confl y x k = false) := hid (by rw [HCO.out]; rfl)
                    go_quiet (fail)
                    have HCN : Hd (∀ j, j < k + 1 → confl y x j = false) := hid (fun j hj => by rcases Nat.lt_or_ge j k with h | h; exact HC.out j h; obtain rfl : j = k := (by omega); exact HC0.out)
                    clear HC HC0 HCO
                    go_upto_region 20 with fail
                    generalize hW : World.setCell _ _ _ = V1
                    have PS1 : Hd (CpS V8 bh bd n (ovr y.hv o ((List.replicate nd true).take (k + 1))) (ovr y.dt o (x.d.take k)) V1) := hid (by rw [← hW, ← HOV1.out]; exact ((PS.out.drewN _).setH (by omega) hokl true).2.2)
                    have kx : Keeps (fun b => b = bh) wr V1 := by rw [← hW]; exact keq ((Keeps.refl _ _).drewN _) _ _
                    clear hW a1 a2
                    have c2' := keep_cell kx (fun h => by omega) c1
                    have BQV1 := hid (blk_keep BQV.out kx (fun h => by omega)); have BSV1 := hid (blk_keep BSV.out kx (fun h => by omega))
                    have q5' : V1.cell? ⟨bq, 5, none⟩ = some (.slice (some ⟨bd, 0, none⟩) n n) := blk_cell BQV1.out 5
                    have s4' : V1.cell? ⟨w.heap.size + 1, 4, none⟩ = some (.slice (some ⟨e1, g1, none⟩) nd c) := blk_cell BSV1.out 4
                    obtain ⟨a1, a2, a3⟩ := PS1.out.setD (by omega) hokl dk
                    rw [HOV2.out] at a3
                    have HA3 := hid a3
                    clear a3 q4 q5 c1 b1 b2 s4 s1
                    have okl2 : (ok : Int) < n := by omega
                    have okl3 : (0 : Int) ≤ (ok : Int) := by omega
                    go_still_tail 9, (by kernel_rfl)
                    first | change wpList _ _ _ _ _ V1.drew.drew | change wpList _ _ _ _ _ V1.drew
                    have a1' : V1.drew.drew.cell? ⟨bd, ok, none⟩ = _ := a1
                    have a2' : V1.drew.drew.frozen? ⟨bd, ok, none⟩ = false := a2
                    go_wp2
                    go_roundw
                    case rel => exact ⟨k + 1, by go_num, by omega, HCN, hid (by first | exact HA3.out | exact HA3.out.drew | exact HA3.out.drew.drew | exact HA3.out.drewN _ | exact (HA3.out.drewN _).drew)⟩
                    case measure => simp [intOf]; omega
                  · by_cases hdc : dd = dk
                    · have m1' : ((dd : Int) != (dk : Int)) = false := by simp; omega
                      have HC0 : Hd (confl y x k = false) := hid (by rw [HCO.out, show (dd != dk) = false by simp; exact hdc]; rfl)
                      clear hdc
                      go_quiet (fail)
                      have HCN : Hd (∀ j, j < k + 1 → confl y x j = false) := hid (fun j hj => by rcases Nat.lt_or_ge j k with h | h; exact HC.out j h; obtain rfl : j = k := (by omega); exact HC0.out)
                      clear HC HC0 HCO
                      go_upto_region 20 with fail
                      generalize hW : World.setCell _ _ _ = V1
                      have PS1 : Hd (CpS V8 bh bd n (ovr y.hv o ((List.replicate nd true).take (k + 1))) (ovr y.dt o (x.d.take k)) V1) := hid (by rw [← hW, ← HOV1.out]; exact ((PS.out.drewN _).setH (by omega) hokl true).2.2)
                      have kx : Keeps (fun b => b = bh) wr V1 := by rw [← hW]; exact keq ((Keeps.refl _ _).drewN _) _ _
                      clear hW a1 a2
                      have c2' := keep_cell kx (fun h => by omega) c1
                      have BQV1 := hid (blk_keep BQV.out kx (fun h => by omega)); have BSV1 := hid (blk_keep BSV.out kx (fun h => by omega))
                      have q5' : V1.cell? ⟨bq, 5, none⟩ = some (.slice (some ⟨bd, 0, none⟩) n n) := blk_cell BQV1.out 5
                      have s4' : V1.cell? ⟨w.heap.size + 1, 4, none⟩ = some (.slice (some ⟨e1, g1, none⟩) nd c) := blk_cell BSV1.out 4
                      obtain ⟨a1, a2, a3⟩ := PS1.out.setD (by omega) hokl dk
                      rw [HOV2.out] at a3
                      have HA3 := hid a3
                      clear a3 q4 q5 c1 b1 b2 s4 s1
                      have okl2 : (ok : Int) < n := by omega
                      have okl3 : (0 : Int) ≤ (ok : Int) := by omega
                      go_still_tail 9, (by kernel_rfl)
                      first | change wpList _ _ _ _ _ V1.drew.drew | change wpList _ _ _ _ _ V1.drew
                      have a1' : V1.drew.drew.cell? ⟨bd, ok, none⟩ = _ := a1
                      have a2' : V1.drew.drew.frozen? ⟨bd, ok, none⟩ = false := a2
                      go_wp2
                      go_roundw
                      case rel => exact ⟨k + 1, by go_num, by omega, HCN, hid (by first | exact HA3.out | exact HA3.out.drew | exact HA3.out.drew.drew | exact HA3.out.drewN _ | exact (HA3.out.drewN _).drew)⟩
                      case measure => simp [intOf]; omega
                    · have m1' : ((dd : Int) != (dk : Int)) = true := by simp; omega
                      have HANY : Hd (anyC y x = true) := hid (by unfold anyC; rw [List.any_eq_true]; exact ⟨k, List.mem_range.2 (by rw [HND.out]; exact hkm), by rw [HCO.out, show (dd != dk) = true by simp; exact hdc]; rfl⟩)
                      have e8 : E = 8 := by rw [HE8'.out, HANY.out]; rfl
                      clear hdc
                      go_quiet (fail)
                      go_upto_region 18 with fail
                      skip
                      skip
                      clear a1 a2 b1 b2 c1 s1 s4 q4 q5
                      first
                      | generalize hW : World.drewN wr _ = V9
                      | generalize hW : World.drew wr = V9
                      have hk9 : Keeps (fun _ => False) wr V9 := by rw [← hW]; first | exact (Keeps.refl _ _).drewN _ | exact (Keeps.refl _ _).drew
                      clear hW
                      have BP9 := hid (blk_keep BPV.out hk9 (fun h => h)); have BR9 := hid (blk_keep BRV.out hk9 (fun h => h)); have HK9 := hid (HKV.out.trans hk9)
                      have o_BP9_0 : V9.cell? ⟨w.heap.size, 0, none⟩ = some ((.int .i64 M.id)) := blk_cell BP9.out 0
                      have o_BP9_1 : V9.cell? ⟨w.heap.size, 1, none⟩ = some ((.bool false)) := blk_cell BP9.out 1
                      have o_BP9_2 : V9.cell? ⟨w.heap.size, 2, none⟩ = some ((.int .i64 (m1 : Int))) := blk_cell BP9.out 2
                      have o_BP9_3 : V9.cell? ⟨w.heap.size, 3, none⟩ = some ((.int .u32 (M.sm : Int))) := blk_cell BP9.out 3
                      have o_BP9_4 : V9.cell? ⟨w.heap.size, 4, none⟩ = some ((.slice ah m1 ch)) := blk_cell BP9.out 4
                      have o_BP9_5 : V9.cell? ⟨w.heap.size, 5, none⟩ = some ((.slice ad m1 cd)) := blk_cell BP9.out 5
                      have o_BR9_0 : V9.cell? ⟨w.heap.size + 1 + 1, 0, none⟩ = some ((.int .i64 0)) := blk_cell BR9.out 0
                      have o_BR9_1 : V9.cell? ⟨w.heap.size + 1 + 1, 1, none⟩ = some ((.bool false)) := blk_cell BR9.out 1
                      have o_BR9_2 : V9.cell? ⟨w.heap.size + 1 + 1, 2, none⟩ = some ((.int .i64 0)) := blk_cell BR9.out 2
                      have o_BR9_3 : V9.cell? ⟨w.heap.size + 1 + 1, 3, none⟩ = some ((.int .u32 0)) := blk_cell BR9.out 3
                      have o_BR9_4 : V9.cell? ⟨w.heap.size + 1 + 1, 4, none⟩ = some ((.slice none 0 0)) := blk_cell BR9.out 4
                      have o_BR9_5 : V9.cell? ⟨w.heap.size + 1 + 1, 5, none⟩ = some ((.slice none 0 0)) := blk_cell BR9.out 5
                      have f_BR9_0 : V9.frozen? ⟨w.heap.size + 1 + 1, 0, none⟩ = false := blk_free BR9.out 0
                      have f_BR9_1 : V9.frozen? ⟨w.heap.size + 1 + 1, 1, none⟩ = false := blk_free BR9.out 1
                      have f_BR9_2 : V9.frozen? ⟨w.heap.size + 1 + 1, 2, none⟩ = false := blk_free BR9.out 2
                      have f_BR9_3 : V9.frozen? ⟨w.heap.size + 1 + 1, 3, none⟩ = false := blk_free BR9.out 3
                      have f_BR9_4 : V9.frozen? ⟨w.heap.size + 1 + 1, 4, none⟩ = false := blk_free BR9.out 4
                      have f_BR9_5 : V9.frozen? ⟨w.heap.size + 1 + 1, 5, none⟩ = false := blk_free BR9.out 5
                      go_wp2
                      obtain ⟨HV2, B3⟩ := fin6 HK9.out (show w.heap.size ≤ w.heap.size + 1 + 1 by omega) BR9.out (.int .i64 M.id) (.bool false) (.int .i64 (m1 : Int)) (.int .u32 (M.sm : Int)) (.slice ah m1 ch) (.slice ad m1 cd)
                      have r0 := blk_cell B3 0
                      have r1 := blk_cell B3 1
                      have r2 := blk_cell B3 2
                      have r3 := blk_cell B3 3
                      have r4 := blk_cell B3 4
                      have r5 := blk_cell B3 5
                      refine bodyPost_ret (v := .tuple #[.agg #[(.int .i64 M.id), (.bool false), (.int .i64 (m1 : Int)), (.int .u32 (M.sm : Int)), (.slice ah m1 ch), (.slice ad m1 cd)], .int .i64 8]) (by simp [results, Tryd.results32, go_sem, r0, r1, r2, r3, r4, r5]) rfl ?_
                      have hf := HFP.out _ 8 HV2 e8 (by omega)
                      rw [HKN.out, HMD.out, HM1.out] at hf
                      exact hf
                · have hke : k = nd := by omega
                  have k0 : ¬ ((k : Int) < nd) := by omega
                  have HANY : Hd (anyC y x = false) := hid (by unfold anyC; rw [List.any_eq_false]; intro j hj; rw [List.mem_range, HND.out] at hj; rw [HC.out j (by omega)]; simp)
                  have e0 : E = 0 := by rw [HE8'.out, HANY.out]; rfl
                  have ho1 := PS.out.1; have ho2 := PS.out.2.1
                  rw [List.take_of_length_le (by rw [List.length_replicate]; omega)] at ho1
                  rw [List.take_of_length_le (by rw [HND.out]; omega)] at ho2
                  have HO1 := hid ho1; have HO2 := hid ho2
                  clear ho1 ho2 HC hkm
                  have o_BQV_0 : wr.cell? ⟨bq, 0, none⟩ = some ((.int .i64 M.id)) := blk_cell BQV.out 0
                  have o_BQV_1 : wr.cell? ⟨bq, 1, none⟩ = some ((.bool true)) := blk_cell BQV.out 1
                  have o_BQV_2 : wr.cell? ⟨bq, 2, none⟩ = some ((.int .i64 (n : Int))) := blk_cell BQV.out 2
                  have o_BQV_3 : wr.cell? ⟨bq, 3, none⟩ = some ((.int .u32 (x.s : Int))) := blk_cell BQV.out 3
                  have o_BQV_4 : wr.cell? ⟨bq, 4, none⟩ = some ((.slice (some ⟨bh, 0, none⟩) n n)) := blk_cell BQV.out 4
                  have o_BQV_5 : wr.cell? ⟨bq, 5, none⟩ = some ((.slice (some ⟨bd, 0, none⟩) n n)) := blk_cell BQV.out 5
                  have o_BRV_0 : wr.cell? ⟨w.heap.size + 1 + 1, 0, none⟩ = some ((.int .i64 0)) := blk_cell BRV.out 0
                  have o_BRV_1 : wr.cell? ⟨w.heap.size + 1 + 1, 1, none⟩ = some ((.bool false)) := blk_cell BRV.out 1
                  have o_BRV_2 : wr.cell? ⟨w.heap.size + 1 + 1, 2, none⟩ = some ((.int .i64 0)) := blk_cell BRV.out 2
                  have o_BRV_3 : wr.cell? ⟨w.heap.size + 1 + 1, 3, none⟩ = some ((.int .u32 0)) := blk_cell BRV.out 3
                  have o_BRV_4 : wr.cell? ⟨w.heap.size + 1 + 1, 4, none⟩ = some ((.slice none 0 0)) := blk_cell BRV.out 4
                  have o_BRV_5 : wr.cell? ⟨w.heap.size + 1 + 1, 5, none⟩ = some ((.slice none 0 0)) := blk_cell BRV.out 5
                  have f_BRV_0 : wr.frozen? ⟨w.heap.size + 1 + 1, 0, none⟩ = false := blk_free BRV.out 0
                  have f_BRV_1 : wr.frozen? ⟨w.heap.size + 1 + 1, 1, none⟩ = false := blk_free BRV.out 1
                  have f_BRV_2 : wr.frozen? ⟨w.heap.size + 1 + 1, 2, none⟩ = false := blk_free BRV.out 2
                  have f_BRV_3 : wr.frozen? ⟨w.heap.size + 1 + 1, 3, none⟩ = false := blk_free BRV.out 3
                  have f_BRV_4 : wr.frozen? ⟨w.heap.size + 1 + 1, 4, none⟩ = false := blk_free BRV.out 4
                  have f_BRV_5 : wr.frozen? ⟨w.heap.size + 1 + 1, 5, none⟩ = false := blk_free BRV.out 5
                  go_wp2
                  obtain ⟨HV2, B3⟩ := fin6 HKV.out (show w.heap.size ≤ w.heap.size + 1 + 1 by omega) BRV.out (.int .i64 M.id) (.bool true) (.int .i64 (n : Int)) (.int .u32 (x.s : Int)) (.slice (some ⟨bh, 0, none⟩) n n) (.slice (some ⟨bd, 0, none⟩) n n)
                  have r0 := blk_cell B3 0
                  have r1 := blk_cell B3 1
                  have r2 := blk_cell B3 2
                  have r3 := blk_cell B3 3
                  have r4 := blk_cell B3 4
                  have r5 := blk_cell B3 5
                  have KF : Keeps (fun b => b = w.heap.size + 1 + 1) wr _ := (keep6 wr (w.heap.size + 1 + 1) (.int .i64 M.id) (.bool true) (.int .i64 (n : Int)) (.int .u32 (x.s : Int)) (.slice (some ⟨bh, 0, none⟩) n n) (.slice (some ⟨bd, 0, none⟩) n n))
                  refine bodyPost_ret (v := .tuple #[.agg #[(.int .i64 M.id), (.bool true), (.int .i64 (n : Int)), (.int .u32 (x.s : Int)), (.slice (some ⟨bh, 0, none⟩) n n), (.slice (some ⟨bd, 0, none⟩) n n)], .int .i64 0]) (by simp [results, Tryd.results32, go_sem, r0, r1, r2, r3, r4, r5]) rfl ?_
                  have hq : putM M x = ⟨M.id, true, x.s, ovr y.hv o (List.replicate nd true), ovr y.dt o x.d⟩ := by rw [HP0.out e0]; unfold overM; rw [HII.out, HIK.out, HIS.out, HO.out, HND.out]; rfl
                  have l1 : (ovr y.hv o (List.replicate nd true)).length = n := by rw [ovr_length (by rw [List.length_replicate, HHL.out]; omega), HHL.out]
                  have l2 : (ovr y.dt o x.d).length = n := by rw [ovr_length (by rw [HND.out, HDL.out]; omega), HDL.out]
                  rw [hq]
                  refine ⟨some ⟨bh, 0, none⟩, n, some ⟨bd, 0, none⟩, n, ?_, ⟨?_, ?_⟩, HV2⟩
                  · simp only [l1, l2]
                  · simp only [l1]; exact ((HO1.out.keep KF (fun b _ h1 h2 => by omega)).row).mono (fun b _ h => .inr (by omega))
                  · simp only [l2]; exact ((HO2.out.keep KF (fun b _ h1 h2 => by omega)).row).mono (fun b _ h => .inr (by omega))
      · by_cases ht7 : M.dt.length = n
        · by_cases hs7 : x.s = M.sm
          · have HNO : Hd (¬ (M.kn = true ∧ (x.t ≠ M.dt.length ∨ x.s ≠ M.sm))) := hid (fun h => by rcases h.2 with h | h; exact h (by rw [HN.out, ht7]); exact h hs7)
            have t2 : ((M.sm : Int) != (x.s : Int)) = false := by rw [hs7]; simp
            have t3 : (M.sm != x.s) = false := by rw [hs7]; simp
            have HT7 := hid ht7
            have BPN : Hd (Blk W2 w.heap.size #[.int .i64 M.id, .bool true, .int .i64 (n : Int), .int .u32 (M.sm : Int), .slice ah M.hv.length ch, .slice ad M.dt.length cd] 61) := hid (by have h := BP.out; rw [ht7] at h ⊢; exact h)
            clear BP
            have BP := BPN
            clear BPN
            clear ht7 hs7
            have o_BP_0 : W2.cell? ⟨w.heap.size, 0, none⟩ = some ((.int .i64 M.id)) := blk_cell BP.out 0
            have o_BP_1 : W2.cell? ⟨w.heap.size, 1, none⟩ = some ((.bool true)) := blk_cell BP.out 1
            have o_BP_2 : W2.cell? ⟨w.heap.size, 2, none⟩ = some ((.int .i64 (n : Int))) := blk_cell BP.out 2
            have o_BP_3 : W2.cell? ⟨w.heap.size, 3, none⟩ = some ((.int .u32 (M.sm : Int))) := blk_cell BP.out 3
            have o_BP_4 : W2.cell? ⟨w.heap.size, 4, none⟩ = some ((.slice ah M.hv.length ch)) := blk_cell BP.out 4
            have o_BP_5 : W2.cell? ⟨w.heap.size, 5, none⟩ = some ((.slice ad M.dt.length cd)) := blk_cell BP.out 5
            have o_BS_0 : W2.cell? ⟨w.heap.size + 1, 0, none⟩ = some ((.int .i64 x.f)) := blk_cell BS.out 0
            have o_BS_1 : W2.cell? ⟨w.heap.size + 1, 1, none⟩ = some ((.int .i64 x.o)) := blk_cell BS.out 1
            have o_BS_2 : W2.cell? ⟨w.heap.size + 1, 2, none⟩ = some ((.int .i64 (n : Int))) := blk_cell BS.out 2
            have o_BS_3 : W2.cell? ⟨w.heap.size + 1, 3, none⟩ = some ((.int .u32 (x.s : Int))) := blk_cell BS.out 3
            have o_BS_4 : W2.cell? ⟨w.heap.size + 1, 4, none⟩ = some ((.slice a x.d.length c)) := blk_cell BS.out 4
            have HE8' := hid (HE8.out H1.out HV.out HNO.out)
            have HIL := hid (initM_len HV.out HNO.out)
            have HIO := hid (initM_ok HM.out HV.out HXS.out)
            have HIK := hid (initM_kn M x)
            have HII := hid (initM_id M x)
            have HIS := hid (initM_sm HNO.out)
            have HIE := hid (initM_of x HKN.out)
            have HHN : Hd (M.hv.length = n) := hid (by rw [HM.out.len]; exact HT7.out)
            clear HE1 HE5 HE7 HE8
            go_upto_region 7 with fail
            clear o_BP_0 o_BP_1 o_BP_2 o_BP_3 o_BP_4 o_BP_5 o_BS_0 o_BS_1 o_BS_2 o_BS_3 o_BS_4
            have hmkb : ∀ w, (Instr.makeSlice 50 (.int .i64 (n : Int)) (.int .i64 (n : Int))).run Tryd.prog w = .ok (.slice (some ⟨w.heap.size, 0, none⟩) n n) (w.alloc (.cells (bls (List.replicate n false)).toArray 4)) := fun w => by rw [← made_b]; exact run_make_row' (P := Tryd.prog) 50 4 (.bool false) 1 Tryd.underlying50 infoBo rfl .i64 .i64 n (by omega) (by omega) w
            have hmku : ∀ w, (Instr.makeSlice 22 (.int .i64 (n : Int)) (.int .i64 (n : Int))).run Tryd.prog w = .ok (.slice (some ⟨w.heap.size, 0, none⟩) n n) (w.alloc (.cells (u8s (List.replicate n 0)).toArray 5)) := fun w => by rw [← made_u]; exact run_make_row' (P := Tryd.prog) 22 5 (.int .u8 0) 1 Tryd.underlying22 Cr.infoU8 rfl .i64 .i64 n (by omega) (by omega) w
            have HSS : Hd (∀ w', Keeps (fun _ => False) W2 w' → (w'.cell? ⟨w.heap.size, 0, none⟩ = some (.int .i64 M.id) ∧ w'.cell? ⟨w.heap.size + 1, 2, none⟩ = some (.int .i64 (n : Int)) ∧ w'.cell? ⟨w.heap.size + 1, 3, none⟩ = some (.int .u32 (x.s : Int)))) := hid (fun w' hk => ⟨blk_cell (blk_keep BP.out hk (fun h => h)) 0, blk_cell (blk_keep BS.out hk (fun h => h)) 2, blk_cell (blk_keep BS.out hk (fun h => h)) 3⟩)
            go_cut [6] from 37 to 49 (fun u6 wx => MkR W2 n M.id (n : Int) x.s u6 wx)
            case first =>
              go_region_held (fun w' => w'.cell? ⟨w.heap.size, 0, none⟩ = some (.int .i64 M.id) ∧ w'.cell? ⟨w.heap.size + 1, 2, none⟩ = some (.int .i64 (n : Int)) ∧ w'.cell? ⟨w.heap.size + 1, 3, none⟩ = some (.int .u32 (x.s : Int))) (exact HSS.out _ (by repeat (first | (with_reducible exact Keeps.refl _ _) | (with_reducible apply Keeps.drewN) | (with_reducible apply Keeps.drew) | (with_reducible apply Keeps.alloc) | (refine Keeps.setCell ?_ (.inr (by first | exact Nat.le_refl _ | (simp; done) | (simp; omega) | omega)) _)))) (fail)
              all_goals
                go_wp2_with fail
                go_meet
                first
                | exact ⟨W2.heap.size, (W2.heap.size + 1), (W2.heap.size + 1 + 1), rfl, by omega, by omega, by omega, by omega, by omega, by omega, hid (by (repeat (first | (with_reducible apply blk_drewN) | (with_reducible apply blk_drew) | (with_reducible refine blk_new' _ _ _ _ ?_) | (with_reducible apply blk_alloc))); (first | (with_reducible rfl) | (simp only [World.size_alloc, World.size_drew]; done) | (simp; done))), hid (by (repeat (first | (with_reducible apply blk_drewN) | (with_reducible apply blk_drew) | (with_reducible refine blk_new' _ _ _ _ ?_) | (with_reducible apply blk_alloc))); (first | (with_reducible rfl) | (simp only [World.size_alloc, World.size_drew]; done) | (simp; done))), hid (by (repeat (first | (with_reducible apply blk_drewN) | (with_reducible apply blk_drew) | (with_reducible refine blk_new' _ _ _ _ ?_) | (with_reducible apply blk_alloc))); (first | (with_reducible rfl) | (simp only [World.size_alloc, World.size_drew]; done) | (simp; done))), hid (by repeat (first | (with_reducible exact Keeps.refl _ _) | (with_reducible apply Keeps.drewN) | (with_reducible apply Keeps.drew) | (with_reducible apply Keeps.alloc)))⟩
                | exact ⟨W2.heap.size, (W2.heap.size + 1 + 1), (W2.heap.size + 1), rfl, by omega, by omega, by omega, by omega, by omega, by omega, hid (by (repeat (first | (with_reducible apply blk_drewN) | (with_reducible apply blk_drew) | (with_reducible refine blk_new' _ _ _ _ ?_) | (with_reducible apply blk_alloc))); (first | (with_reducible rfl) | (simp only [World.size_alloc, World.size_drew]; done) | (simp; done))), hid (by (repeat (first | (with_reducible apply blk_drewN) | (with_reducible apply blk_drew) | (with_reducible refine blk_new' _ _ _ _ ?_) | (with_reducible apply blk_alloc))); (first | (with_reducible rfl) | (simp only [World.size_alloc, World.size_drew]; done) | (simp; done))), hid (by (repeat (first | (with_reducible apply blk_drewN) | (with_reducible apply blk_drew) | (with_reducible refine blk_new' _ _ _ _ ?_) | (with_reducible apply blk_alloc))); (first | (with_reducible rfl) | (simp only [World.size_alloc, World.size_drew]; done) | (simp; done))), hid (by repeat (first | (with_reducible exact Keeps.refl _ _) | (with_reducible apply Keeps.drewN) | (with_reducible apply Keeps.drew) | (with_reducible apply Keeps.alloc)))⟩
                | exact ⟨(W2.heap.size + 1), W2.heap.size, (W2.heap.size + 1 + 1), rfl, by omega, by omega, by omega, by omega, by omega, by omega, hid (by (repeat (first | (with_reducible apply blk_drewN) | (with_reducible apply blk_drew) | (with_reducible refine blk_new' _ _ _ _ ?_) | (with_reducible apply blk_alloc))); (first | (with_reducible rfl) | (simp only [World.size_alloc, World.size_drew]; done) | (simp; done))), hid (by (repeat (first | (with_reducible apply blk_drewN) | (with_reducible apply blk_drew) | (with_reducible refine blk_new' _ _ _ _ ?_) | (with_reducible apply blk_alloc))); (first | (with_reducible rfl) | (simp only [World.size_alloc, World.size_drew]; done) | (simp; done))), hid (by (repeat (first | (with_reducible apply blk_drewN) | (with_reducible apply blk_drew) | (with_reducible refine blk_new' _ _ _ _ ?_) | (with_reducible apply blk_alloc))); (first | (with_reducible rfl) | (simp only [World.size_alloc, World.size_drew]; done) | (simp; done))), hid (by repeat (first | (with_reducible exact Keeps.refl _ _) | (with_reducible apply Keeps.drewN) | (with_reducible apply Keeps.drew) | (with_reducible apply Keeps.alloc)))⟩
                | exact ⟨(W2.heap.size + 1), (W2.heap.size + 1 + 1), W2.heap.size, rfl, by omega, by omega, by omega, by omega, by omega, by omega, hid (by (repeat (first | (with_reducible apply blk_drewN) | (with_reducible apply blk_drew) | (with_reducible refine blk_new' _ _ _ _ ?_) | (with_reducible apply blk_alloc))); (first | (with_reducible rfl) | (simp only [World.size_alloc, World.size_drew]; done) | (simp; done))), hid (by (repeat (first | (with_reducible apply blk_drewN) | (with_reducible apply blk_drew) | (with_reducible refine blk_new' _ _ _ _ ?_) | (with_reducible apply blk_alloc))); (first | (with_reducible rfl) | (simp only [World.size_alloc, World.size_drew]; done) | (simp; done))), hid (by (repeat (first | (with_reducible apply blk_drewN) | (with_reducible apply blk_drew) | (with_reducible refine blk_new' _ _ _ _ ?_) | (with_reducible apply blk_alloc))); (first | (with_reducible rfl) | (simp only [World.size_alloc, World.size_drew]; done) | (simp; done))), hid (by repeat (first | (with_reducible exact Keeps.refl _ _) | (with_reducible apply Keeps.drewN) | (with_reducible apply Keeps.drew) | (with_reducible apply Keeps.alloc)))⟩
                | exact ⟨(W2.heap.size + 1 + 1), W2.heap.size, (W2.heap.size + 1), rfl, by omega, by omega, by omega, by omega, by omega, by omega, hid (by (repeat (first | (with_reducible apply blk_drewN) | (with_reducible apply blk_drew) | (with_reducible refine blk_new' _ _ _ _ ?_) | (with_reducible apply blk_alloc))); (first | (with_reducible rfl) | (simp only [World.size_alloc, World.size_drew]; done) | (simp; done))), hid (by (repeat (first | (with_reducible apply blk_drewN) | (with_reducible apply blk_drew) | (with_reducible refine blk_new' _ _ _ _ ?_) | (with_reducible apply blk_alloc))); (first | (with_reducible rfl) | (simp only [World.size_alloc, World.size_drew]; done) | (simp; done))), hid (by (repeat (first | (with_reducible apply blk_drewN) | (with_reducible apply blk_drew) | (with_reducible refine blk_new' _ _ _ _ ?_) | (with_reducible apply blk_alloc))); (first | (with_reducible rfl) | (simp only [World.size_alloc, World.size_drew]; done) | (simp; done))), hid (by repeat (first | (with_reducible exact Keeps.refl _ _) | (with_reducible apply Keeps.drewN) | (with_reducible apply Keeps.drew) | (with_reducible apply Keeps.alloc)))⟩
                | exact ⟨(W2.heap.size + 1 + 1), (W2.heap.size + 1), W2.heap.size, rfl, by omega, by omega, by omega, by omega, by omega, by omega, hid (by (repeat (first | (with_reducible apply blk_drewN) | (with_reducible apply blk_drew) | (with_reducible refine blk_new' _ _ _ _ ?_) | (with_reducible apply blk_alloc))); (first | (with_reducible rfl) | (simp only [World.size_alloc, World.size_drew]; done) | (simp; done))), hid (by (repeat (first | (with_reducible apply blk_drewN) | (with_reducible apply blk_drew) | (with_reducible refine blk_new' _ _ _ _ ?_) | (with_reducible apply blk_alloc))); (first | (with_reducible rfl) | (simp only [World.size_alloc, World.size_drew]; done) | (simp; done))), hid (by (repeat (first | (with_reducible apply blk_drewN) | (with_reducible apply blk_drew) | (with_reducible refine blk_new' _ _ _ _ ?_) | (with_reducible apply blk_alloc))); (first | (with_reducible rfl) | (simp only [World.size_alloc, World.size_drew]; done) | (simp; done))), hid (by repeat (first | (with_reducible exact Keeps.refl _ _) | (with_reducible apply Keeps.drewN) | (with_reducible apply Keeps.drew) | (with_reducible apply Keeps.alloc)))⟩
            case rest =>
              obtain ⟨bh, bd, bq, rfl, hn1, hn2, hn3, hs1, hs2, hs3, BH, BD, BQ, K7⟩ := hcut
              have hk := K7.out
              clear K7 HSS hmkb hmku
              generalize wc = W7 at *
              have HRH' : Hd (Row (fun b => b < w.heap.size) W7 1 (.slice ah M.hv.length ch) M.hv.length (bls M.hv)) := hid (HRH.out.keep hk (fun _ _ _ h => h))
              have HRD' : Hd (Row (fun b => b < w.heap.size) W7 1 (.slice ad M.dt.length cd) M.dt.length (u8s M.dt)) := hid (HRD.out.keep hk (fun _ _ _ h => h))
              have HX' : Hd (Sl (fun b => b < w.heap.size) W7 (.slice a x.d.length c) (u8s x.d)) := hid (HX.out.keep hk (fun _ _ _ h => h))
              have BP' : Hd (Blk W7 w.heap.size #[(.int .i64 M.id), (.bool true), (.int .i64 (n : Int)), (.int .u32 (M.sm : Int)), (.slice ah M.hv.length ch), (.slice ad M.dt.length cd)] 61) := hid (blk_keep BP.out hk (fun h => h))
              have BS' : Hd (Blk W7 (w.heap.size + 1) #[(.int .i64 x.f), (.int .i64 x.o), (.int .i64 (n : Int)), (.int .u32 (x.s : Int)), (.slice a x.d.length c)] 44) := hid (blk_keep BS.out hk (fun h => h))
              have BR' : Hd (Blk W7 (w.heap.size + 1 + 1) #[(.int .i64 0), (.bool false), (.int .i64 0), (.int .u32 0), (.slice none 0 0), (.slice none 0 0)] 61) := hid (blk_keep BR.out hk (fun h => h))
              clear HRH HRD HX BP BS BR
              have HRH := HRH'
              clear HRH'
              have HRD := HRD'
              clear HRD'
              have HX := HX'
              clear HX'
              have BP := BP'
              clear BP'
              have BS := BS'
              clear BS'
              have BR := BR'
              clear BR'
              have HK' : Hd (Keeps (fun _ => False) w W7) := hid (HK.out.trans hk)
              clear HK
              have HK := HK'
              clear HK'
              have z_W7 := hk.size
              clear hk
              have OH : Hd (Own (fun b => b = bh) W7 4 1 (.slice (some ⟨bh, 0, none⟩) n n) n (bls (List.replicate n false))) := hid (own_full BH.out (by rw [bls_length, List.length_replicate]) (by unfold maxLen; omega))
              have OD : Hd (Own (fun b => b = bd) W7 5 1 (.slice (some ⟨bd, 0, none⟩) n n) n (u8s (List.replicate n 0))) := hid (own_full BD.out (by rw [u8s_length, List.length_replicate]) (by unfold maxLen; omega))
              have hbh := blk_lt BH.out; have hbd := blk_lt BD.out
              clear BH BD
              obtain ⟨y, hy⟩ : ∃ y, initM M x = y := ⟨_, rfl⟩
              rw [hy] at HIL HIO HIK HII HIS HP0 HE8' HIE
              have hdn := HT7.out; have hhn := HHN.out
              have hle : M.hv.length ≤ n := by omega
              have HYH : Hd (ovr (List.replicate n false) 0 M.hv = y.hv ∧ ovr (List.replicate n 0) 0 M.dt = y.dt) := hid ⟨by rw [HIE.out]; exact ovr_full (by simp; omega), by rw [HIE.out]; exact ovr_full (by simp; omega)⟩
              clear hdn hhn
              clear hy
              have hdl : M.dt.length = M.hv.length := HM.out.len.symm
              obtain ⟨m1, hm1⟩ : ∃ m1, M.hv.length = m1 := ⟨_, rfl⟩
              rw [hm1] at hdl hle
              have HM1 := hid hm1
              have HMD := hid hdl
              clear hdl
              have HRH2 : Hd (Row (fun b => b < w.heap.size) W7 1 (.slice ah m1 ch) m1 (bls M.hv)) := hid (by rw [← hm1]; exact HRH.out)
              have HRD2 : Hd (Row (fun b => b < w.heap.size) W7 1 (.slice ad m1 cd) m1 (u8s M.dt)) := hid (by have h := HRD.out; rw [HMD.out] at h; exact h)
              have BPN : Hd (Blk W7 w.heap.size #[.int .i64 M.id, .bool true, .int .i64 (m1 : Int), .int .u32 (M.sm : Int), .slice ah m1 ch, .slice ad m1 cd] 61) := hid (by have h := BP.out; rw [HMD.out, hm1, show n = m1 from HT7.out.symm.trans HMD.out] at h; exact h)
              have HRHL := HRH2; have HRDL := HRD2
              clear BP HRH HRD hm1
              have BP := BPN
              clear BPN
              skip
              go_wp2_with fail
              go_loopw [7] (fun iv wr => ∃ k : Nat, iv = .int .i64 k ∧ k ≤ m1 ∧ Hd (CpS W7 bh bd n (ovr (List.replicate n false) 0 (M.hv.take k)) (ovr (List.replicate n 0) 0 (M.dt.take k)) wr)) (fun iv _ => m1 - (intOf iv).toNat)
              case atStart => exact ⟨0, rfl, Nat.zero_le _, hid ⟨by rw [List.take_zero, ovr_nil]; exact OH.out, by rw [List.take_zero, ovr_nil]; exact OD.out, Keeps.refl _ _⟩⟩
              case round =>
                clear OH OD
                obtain ⟨k, rfl, hk, PS⟩ := hrel
                have ps := PS.out.2.2
                have BPV := hid (blk_keep BP.out ps (fun h => by omega)); have BQV := hid (blk_keep BQ.out ps (fun h => by omega))
                have p4 : wr.cell? ⟨w.heap.size, 4, none⟩ = some (.slice ah m1 ch) := blk_cell BPV.out 4
                by_cases hkm : k < m1
                · have k1 : (k : Int) < m1 := by omega
                  have k2 : (0 : Int) ≤ k := by omega
                  have k3 : (k : Int) < n := by omega
                  have k4 : k < n := by omega
                  obtain ⟨e1, g1, rfl, hg1, hg2, hc1⟩ := row_at0 (HRHL.out) hkm
                  obtain ⟨e2, g2, rfl, hg3, hg4, hc2⟩ := row_at0 (HRDL.out) hkm
                  have c1 : wr.cell? ⟨e1, g1 + k, none⟩ = some (.bool (M.hv.getD k false)) := keep_cell ps (fun h => by omega) (by rw [hc1]; simp [bls, List.getD, HM1.out, hkm])
                  have c2 : wr.cell? ⟨e2, g2 + k, none⟩ = some (.int .u8 (M.dt.getD k 0 : Nat)) := keep_cell ps (fun h => by omega) (by rw [hc2]; simp [u8s, List.getD, HMD.out, hkm])
                  obtain ⟨u, hu⟩ : ∃ u, M.hv[k]? = some u := ⟨M.hv[k]'(by rw [HM1.out]; exact hkm), List.getElem?_eq_getElem _⟩
                  obtain ⟨t, ht⟩ : ∃ t, M.dt[k]? = some t := ⟨M.dt[k]'(by rw [HMD.out]; exact hkm), List.getElem?_eq_getElem _⟩
                  rw [show M.hv.getD k false = u by rw [List.getD, hu]; rfl] at c1
                  rw [show M.dt.getD k 0 = t by rw [List.getD, ht]; rfl] at c2
                  obtain ⟨a1, a2, a3⟩ := PS.out.setH (by omega) k4 u
                  have hov1 := ovr_set (l := List.replicate n false) (d := M.hv) (o := 0) hu (by simp; rw [HM1.out]; omega)
                  have hov2 := ovr_set (l := List.replicate n 0) (d := M.dt) (o := 0) ht (by simp; rw [HMD.out]; omega)
                  rw [Nat.zero_add] at hov1 hov2
                  rw [hov1] at a3
                  have HA3 := hid a3; have HOV2 := hid hov2
                  clear a3 hov1 hov2 hc1 hc2 hu ht
                  have q4 : wr.cell? ⟨bq, 4, none⟩ = some (.slice (some ⟨bh, 0, none⟩) n n) := blk_cell BQV.out 4
                  go_upto_region 11 with fail
                  go_still_tail 9, (by kernel_rfl)
                  change wpList _ _ _ _ _ wr.drew
                  have a1' : wr.drew.cell? ⟨bh, k, none⟩ = _ := a1
                  have a2' : wr.drew.frozen? ⟨bh, k, none⟩ = false := a2
                  go_upto_region 12 with fail
                  generalize hW : World.drew (World.setCell _ _ _) = V1
                  have PS1 : Hd (CpS W7 bh bd n (ovr (List.replicate n false) 0 (M.hv.take (k + 1))) (ovr (List.replicate n 0) 0 (M.dt.take k)) V1) := hid (by rw [← hW]; exact HA3.out.drew)
                  have kx : Keeps (fun b => b = bh) wr V1 := by rw [← hW]; exact (keq (Keeps.refl _ _) _ _).drew
                  clear hW HA3 a1 a2 a1' a2'
                  have ps1 := PS1.out.2.2
                  have c2' := keep_cell kx (fun h => by omega) c2
                  have BPV1 := hid (blk_keep BP.out ps1 (fun h => by omega)); have BQV1 := hid (blk_keep BQ.out ps1 (fun h => by omega))
                  skip
                  have p5 : V1.cell? ⟨w.heap.size, 5, none⟩ = some (.slice (some ⟨e2, g2, none⟩) m1 cd) := blk_cell BPV1.out 5
                  have q5 : V1.cell? ⟨bq, 5, none⟩ = some (.slice (some ⟨bd, 0, none⟩) n n) := blk_cell BQV1.out 5
                  obtain ⟨a1, a2, a3⟩ := PS1.out.setD (by omega) k4 t
                  rw [HOV2.out] at a3
                  have HA3 := hid a3
                  clear a3 p4 q4 c1 c2 kx ps1
                  go_still_tail 9, (by kernel_rfl)
                  change wpList _ _ _ _ _ V1.drew
                  have a1' : V1.drew.cell? ⟨bd, k, none⟩ = _ := a1
                  have a2' : V1.drew.frozen? ⟨bd, k, none⟩ = false := a2
                  go_wp2
                  go_roundw
                  case rel => exact ⟨k + 1, by go_num, by omega, hid (by first | exact HA3.out | exact HA3.out.drew | exact HA3.out.drew.drew | exact HA3.out.drewN _ | exact (HA3.out.drewN _).drew)⟩
                  case measure => simp [intOf]; omega
                · have hkn' : k = m1 := by omega
                  have k0 : ¬ ((k : Int) < m1) := by omega
                  obtain ⟨V8, hV8⟩ : ∃ V, V = wr := ⟨_, rfl⟩
                  subst hV8
                  have PS8 : Hd (CpS W7 bh bd n y.hv y.dt V8) := hid (by have h := PS.out; rw [List.take_of_length_le (by rw [HM1.out]; omega), List.take_of_length_le (by rw [HMD.out]; omega), HYH.out.1, HYH.out.2] at h; exact h)
                  clear PS hkm hk
                  obtain ⟨o, ho⟩ : ∃ o : Nat, x.o = o := ⟨x.o.toNat, by have := HV.out.2.2.2.1; omega⟩
                  have HO := hid ho
                  obtain ⟨nd, hnd⟩ : ∃ nd, x.d.length = nd := ⟨_, rfl⟩
                  have HND := hid hnd
                  have hon : o + nd ≤ n := by have h := HV.out.2.2.2.2; rw [ho, hnd, HN.out] at h; omega
                  have hhl : y.hv.length = n := by have := HIO.out.len; have := HIL.out; rw [HN.out] at this; omega
                  have hdl2 : y.dt.length = n := by have := HIL.out; rw [HN.out] at this; omega
                  have HHL := hid hhl; have HDL := hid hdl2
                  clear hhl hdl2
                  have BSN : Hd (Blk W7 (w.heap.size + 1) #[.int .i64 x.f, .int .i64 (o : Int), .int .i64 (n : Int), .int .u32 (x.s : Int), .slice a nd c] 44) := hid (by have h := BS.out; rw [ho, hnd] at h; exact h)
                  have HXN : Hd (Sl (fun b => b < w.heap.size) W7 (.slice a nd c) (u8s x.d)) := hid (by rw [← hnd]; exact HX.out)
                  clear BS HX ho hnd
                  have BS := BSN; have HX := HXN
                  clear BSN HXN
                  skip
                  have HKW : Hd (Keeps (fun b => b = bh ∨ b = bd) W7 V8) := hid PS8.out.2.2
                  have z8 := HKW.out.size
                  go_wp2_with fail
                  clear p4 BPV BQV ps
                  go_loopw [8] (fun iv wr => ∃ k : Nat, iv = .int .i64 k ∧ k ≤ nd ∧ Hd (∀ j, j < k → confl y x j = false) ∧ Hd (CpS V8 bh bd n (ovr y.hv o ((List.replicate nd true).take k)) (ovr y.dt o (x.d.take k)) wr)) (fun iv _ => nd - (intOf iv).toNat)
                  case atStart => exact ⟨0, rfl, Nat.zero_le _, hid (fun j h => by omega), hid ⟨by rw [List.take_zero, ovr_nil]; exact PS8.out.1, by rw [List.take_zero, ovr_nil]; exact PS8.out.2.1, Keeps.refl _ _⟩⟩
                  case round =>
                    clear PS8
                    obtain ⟨k, rfl, hk, HC, PS⟩ := hrel
                    have ps : Keeps (fun b => b = bh ∨ b = bd) W7 wr := HKW.out.trans PS.out.2.2
                    have BPV := hid (blk_keep BP.out ps (fun h => by omega)); have BQV := hid (blk_keep BQ.out ps (fun h => by omega)); have BSV := hid (blk_keep BS.out ps (fun h => by omega)); have BRV := hid (blk_keep BR.out ps (fun h => by omega))
                    have HKV : Hd (Keeps (fun _ => False) w wr) := hid (HK.out.trans' ps (fun b hb h => by omega))
                    have zwr := ps.size
                    have s4 : wr.cell? ⟨w.heap.size + 1, 4, none⟩ = some (.slice a nd c) := blk_cell BSV.out 4
                    by_cases hkm : k < nd
                    · have k1 : (k : Int) < nd := by omega
                      have k2 : (0 : Int) ≤ k := by omega
                      obtain ⟨e1, g1, rfl, hg1, hg2, hc1⟩ := row_at0 (sl_row HX.out (by rw [u8s_length, HND.out])) hkm
                      obtain ⟨dk, hdk⟩ : ∃ dk, x.d[k]? = some dk := ⟨x.d[k]'(by rw [HND.out]; exact hkm), List.getElem?_eq_getElem _⟩
                      have c1 : wr.cell? ⟨e1, g1 + k, none⟩ = some (.int .u8 (dk : Nat)) := keep_cell ps (fun h => by omega) (by rw [hc1, u8s_getD _ _ (by rw [HND.out]; exact hkm), List.getD, hdk]; rfl)
                      have s1 : wr.cell? ⟨w.heap.size + 1, 1, none⟩ = some (.int .i64 (o : Int)) := blk_cell BSV.out 1
                      obtain ⟨ok, hok⟩ : ∃ ok : Nat, (o : Int) + (k : Int) = ok := ⟨o + k, by omega⟩
                      have hokn : ok = o + k := by omega
                      have hokl : ok < n := by omega
                      have HOK := hid hok
                      obtain ⟨a1, a2, a3⟩ := PS.out.setH (by omega) hokl true
                      have eH : (ovr y.hv o ((List.replicate nd true).take k)).getD ok false = y.hv.getD ok false := by rw [getD_ovr false (by rw [List.length_take, List.length_replicate, HHL.out]; omega), if_neg (by rw [List.length_take, List.length_replicate]; omega)]
                      have eD : (ovr y.dt o (x.d.take k)).getD ok 0 = y.dt.getD ok 0 := by rw [getD_ovr 0 (by rw [List.length_take, HND.out, HDL.out]; omega), if_neg (by rw [List.length_take, HND.out]; omega)]
                      rw [eH] at a1
                      obtain ⟨b1, b2, -⟩ := PS.out.setD (by omega) hokl 0
                      rw [eD] at b1
                      have hov1 := ovr_set (l := y.hv) (d := List.replicate nd true) (o := o) (k := k) (x := true) (by rw [List.getElem?_replicate, if_pos hkm]) (by rw [List.length_replicate, HHL.out]; omega)
                      have hov2 := ovr_set (l := y.dt) (d := x.d) (o := o) hdk (by rw [HND.out, HDL.out]; omega)
                      rw [← hokn] at hov1 hov2
                      have HOV1 := hid hov1; have HOV2 := hid hov2
                      clear a3 hov1 hov2 hc1 eH eD
                      have HCO : Hd (confl y x k = (y.hv.getD ok false && (y.dt.getD ok 0 != dk))) := hid (by unfold confl; rw [HO.out, show (o : Int).toNat + k = ok by omega]; congr 2; rw [List.getD, hdk]; rfl)
                      clear hdk hokn
                      have q4 : wr.cell? ⟨bq, 4, none⟩ = some (.slice (some ⟨bh, 0, none⟩) n n) := blk_cell BQV.out 4
                      have q5 : wr.cell? ⟨bq, 5, none⟩ = some (.slice (some ⟨bd, 0, none⟩) n n) := blk_cell BQV.out 5
                      generalize hbb : y.hv.getD ok false = hb at *
                      generalize hdd : y.dt.getD ok 0 = dd at *
                      clear hbb hdd
                      have okl2 : (ok : Int) < n := by omega
                      have okl3 : (0 : Int) ≤ (ok : Int) := by omega
                      clear okl2 okl3
                      go_upto_region 17 with fail
                      try simp only [HOK.out]
                      cases hb
                      · have HC0 : Hd (confl y x k = false) := hid (by rw [HCO.out]; rfl)
                        go_quiet (fail)
                        have HCN : Hd (∀ j, j < k + 1 → confl y x j = false) := hid (fun j hj => by rcases Nat.lt_or_ge j k with h | h; exact HC.out j h; obtain rfl : j = k := (by omega); exact HC0.out)
                        clear HC HC0 HCO
                        go_upto_region 20 with fail
                        generalize hW : World.setCell _ _ _ = V1
                        have PS1 : Hd (CpS V8 bh bd n (ovr y.hv o ((List.replicate nd true).take (k + 1))) (ovr y.dt o (x.d.take k)) V1) := hid (by rw [← hW, ← HOV1.out]; exact ((PS.out.drewN _).setH (by omega) hokl true).2.2)
                        have kx : Keeps (fun b => b = bh) wr V1 := by rw [← hW]; exact keq ((Keeps.refl _ _).drewN _) _ _
                        clear hW a1 a2
                        have c2' := keep_cell kx (fun h => by omega) c1
                        have BQV1 := hid (blk_keep BQV.out kx (fun h => by omega)); have BSV1 := hid (blk_keep BSV.out kx (fun h => by omega))
                        have q5' : V1.cell? ⟨bq, 5, none⟩ = some (.slice (some ⟨bd, 0, none⟩) n n) := blk_cell BQV1.out 5
                        have s4' : V1.cell? ⟨w.heap.size + 1, 4, none⟩ = some (.slice (some ⟨e1, g1, none⟩) nd c) := blk_cell BSV1.out 4
                        obtain ⟨a1, a2, a3⟩ := PS1.out.setD (by omega) hokl dk
                        rw [HOV2.out] at a3
                        have HA3 := hid a3
                        clear a3 q4 q5 c1 b1 b2 s4 s1
                        have okl2 : (ok : Int) < n := by omega
                        have okl3 : (0 : Int) ≤ (ok : Int) := by omega
                        go_still_tail 9, (by kernel_rfl)
                        first | change wpList _ _ _ _ _ V1.drew.drew | change wpList _ _ _ _ _ V1.drew
                        have a1' : V1.drew.drew.cell? ⟨bd, ok, none⟩ = _ := a1
                        have a2' : V1.drew.drew.frozen? ⟨bd, ok, none⟩ = false := a2
                        go_wp2
                        go_roundw
                        case rel => exact ⟨k + 1, by go_num, by omega, HCN, hid (by first | exact HA3.out | exact HA3.out.drew | exact HA3.out.drew.drew | exact HA3.out.drewN _ | exact (HA3.out.drewN _).drew)⟩
                        case measure => simp [intOf]; omega
                      · by_cases hdc : dd = dk
                        · have m1' : ((dd : Int) != (dk : Int)) = false := by simp; omega
                          have HC0 : Hd (confl y x k = false) := hid (by rw [HCO.out, show (dd != dk) = false by simp; exact hdc]; rfl)
                          clear hdc
                          go_quiet (fail)
                          have HCN : Hd (∀ j, j < k + 1 → confl y x j = false) := hid (fun j hj => by rcases Nat.lt_or_ge j k with h | h; exact HC.out j h; obtain rfl : j = k := (by omega); exact HC0.out)
                          clear HC HC0 HCO
                          go_upto_region 20 with fail
                          generalize hW : World.setCell _ _ _ = V1
                          have PS1 : Hd (CpS V8 bh bd n (ovr y.hv o ((List.replicate nd true).take (k + 1))) (ovr y.dt o (x.d.take k)) V1) := hid (by rw [← hW, ← HOV1.out]; exact ((PS.out.drewN _).setH (by omega) hokl true).2.2)
                          have kx : Keeps (fun b => b = bh) wr V1 := by rw [← hW]; exact keq ((Keeps.refl _ _).drewN _) _ _
                          clear hW a1 a2
                          have c2' := keep_cell kx (fun h => by omega) c1
                          have BQV1 := hid (blk_keep BQV.out kx (fun h => by omega)); have BSV1 := hid (blk_keep BSV.out kx (fun h => by omega))
                          have q5' : V1.cell? ⟨bq, 5, none⟩ = some (.slice (some ⟨bd, 0, none⟩) n n) := blk_cell BQV1.out 5
                          have s4' : V1.cell? ⟨w.heap.size + 1, 4, none⟩ = some (.slice (some ⟨e1, g1, none⟩) nd c) := blk_cell BSV1.out 4
                          obtain ⟨a1, a2, a3⟩ := PS1.out.setD (by omega) hokl dk
                          rw [HOV2.out] at a3
                          have HA3 := hid a3
                          clear a3 q4 q5 c1 b1 b2 s4 s1
                          have okl2 : (ok : Int) < n := by omega
                          have okl3 : (0 : Int) ≤ (ok : Int) := by omega
                          go_still_tail 9, (by kernel_rfl)
                          first | change wpList _ _ _ _ _ V1.drew.drew | change wpList _ _ _ _ _ V1.drew
                          have a1' : V1.drew.drew.cell? ⟨bd, ok, none⟩ = _ := a1
                          have a2' : V1.drew.drew.frozen? ⟨bd, ok, none⟩ = false := a2
                          go_wp2
                          go_roundw
                          case rel => exact ⟨k + 1, by go_num, by omega, HCN, hid (by first | exact HA3.out | exact HA3.out.drew | exact HA3.out.drew.drew | exact HA3.out.drewN _ | exact (HA3.out.drewN _).drew)⟩
                          case measure => simp [intOf]; omega
                        · have m1' : ((dd : Int) != (dk : Int)) = true := by simp; omega
                          have HANY : Hd (anyC y x = true) := hid (by unfold anyC; rw [List.any_eq_true]; exact ⟨k, List.mem_range.2 (by rw [HND.out]; exact hkm), by rw [HCO.out, show (dd != dk) = true by simp; exact hdc]; rfl⟩)
                          have e8 : E = 8 := by rw [HE8'.out, HANY.out]; rfl
                          clear hdc
                          go_quiet (fail)
                          go_upto_region 18 with fail
                          skip
                          skip
                          clear a1 a2 b1 b2 c1 s1 s4 q4 q5
                          first
                          | generalize hW : World.drewN wr _ = V9
                          | generalize hW : World.drew wr = V9
                          have hk9 : Keeps (fun _ => False) wr V9 := by rw [← hW]; first | exact (Keeps.refl _ _).drewN _ | exact (Keeps.refl _ _).drew
                          clear hW
                          have BP9 := hid (blk_keep BPV.out hk9 (fun h => h)); have BR9 := hid (blk_keep BRV.out hk9 (fun h => h)); have HK9 := hid (HKV.out.trans hk9)
                          have o_BP9_0 : V9.cell? ⟨w.heap.size, 0, none⟩ = some ((.int .i64 M.id)) := blk_cell BP9.out 0
                          have o_BP9_1 : V9.cell? ⟨w.heap.size, 1, none⟩ = some ((.bool true)) := blk_cell BP9.out 1
                          have o_BP9_2 : V9.cell? ⟨w.heap.size, 2, none⟩ = some ((.int .i64 (m1 : Int))) := blk_cell BP9.out 2
                          have o_BP9_3 : V9.cell? ⟨w.heap.size, 3, none⟩ = some ((.int .u32 (M.sm : Int))) := blk_cell BP9.out 3
                          have o_BP9_4 : V9.cell? ⟨w.heap.size, 4, none⟩ = some ((.slice ah m1 ch)) := blk_cell BP9.out 4
                          have o_BP9_5 : V9.cell? ⟨w.heap.size, 5, none⟩ = some ((.slice ad m1 cd)) := blk_cell BP9.out 5
                          have o_BR9_0 : V9.cell? ⟨w.heap.size + 1 + 1, 0, none⟩ = some ((.int .i64 0)) := blk_cell BR9.out 0
                          have o_BR9_1 : V9.cell? ⟨w.heap.size + 1 + 1, 1, none⟩ = some ((.bool false)) := blk_cell BR9.out 1
                          have o_BR9_2 : V9.cell? ⟨w.heap.size + 1 + 1, 2, none⟩ = some ((.int .i64 0)) := blk_cell BR9.out 2
                          have o_BR9_3 : V9.cell? ⟨w.heap.size + 1 + 1, 3, none⟩ = some ((.int .u32 0)) := blk_cell BR9.out 3
                          have o_BR9_4 : V9.cell? ⟨w.heap.size + 1 + 1, 4, none⟩ = some ((.slice none 0 0)) := blk_cell BR9.out 4
                          have o_BR9_5 : V9.cell? ⟨w.heap.size + 1 + 1, 5, none⟩ = some ((.slice none 0 0)) := blk_cell BR9.out 5
                          have f_BR9_0 : V9.frozen? ⟨w.heap.size + 1 + 1, 0, none⟩ = false := blk_free BR9.out 0
                          have f_BR9_1 : V9.frozen? ⟨w.heap.size + 1 + 1, 1, none⟩ = false := blk_free BR9.out 1
                          have f_BR9_2 : V9.frozen? ⟨w.heap.size + 1 + 1, 2, none⟩ = false := blk_free BR9.out 2
                          have f_BR9_3 : V9.frozen? ⟨w.heap.size + 1 + 1, 3, none⟩ = false := blk_free BR9.out 3
                          have f_BR9_4 : V9.frozen? ⟨w.heap.size + 1 + 1, 4, none⟩ = false := blk_free BR9.out 4
                          have f_BR9_5 : V9.frozen? ⟨w.heap.size + 1 + 1, 5, none⟩ = false := blk_free BR9.out 5
                          go_wp2
                          obtain ⟨HV2, B3⟩ := fin6 HK9.out (show w.heap.size ≤ w.heap.size + 1 + 1 by omega) BR9.out (.int .i64 M.id) (.bool true) (.int .i64 (m1 : Int)) (.int .u32 (M.sm : Int)) (.slice ah m1 ch) (.slice ad m1 cd)
                          have r0 := blk_cell B3 0
                          have r1 := blk_cell B3 1
                          have r2 := blk_cell B3 2
                          have r3 := blk_cell B3 3
                          have r4 := blk_cell B3 4
                          have r5 := blk_cell B3 5
                          refine bodyPost_ret (v := .tuple #[.agg #[(.int .i64 M.id), (.bool true), (.int .i64 (m1 : Int)), (.int .u32 (M.sm : Int)), (.slice ah m1 ch), (.slice ad m1 cd)], .int .i64 8]) (by simp [results, Tryd.results32, go_sem, r0, r1, r2, r3, r4, r5]) rfl ?_
                          have hf := HFP.out _ 8 HV2 e8 (by omega)
                          rw [HKN.out, HMD.out, HM1.out] at hf
                          exact hf
                    · have hke : k = nd := by omega
                      have k0 : ¬ ((k : Int) < nd) := by omega
                      have HANY : Hd (anyC y x = false) := hid (by unfold anyC; rw [List.any_eq_false]; intro j hj; rw [List.mem_range, HND.out] at hj; rw [HC.out j (by omega)]; simp)
                      have e0 : E = 0 := by rw [HE8'.out, HANY.out]; rfl
                      have ho1 := PS.out.1; have ho2 := PS.out.2.1
                      rw [List.take_of_length_le (by rw [List.length_replicate]; omega)] at ho1
                      rw [List.take_of_length_le (by rw [HND.out]; omega)] at ho2
                      have HO1 := hid ho1; have HO2 := hid ho2
                      clear ho1 ho2 HC hkm
                      have o_BQV_0 : wr.cell? ⟨bq, 0, none⟩ = some ((.int .i64 M.id)) := blk_cell BQV.out 0
                      have o_BQV_1 : wr.cell? ⟨bq, 1, none⟩ = some ((.bool true)) := blk_cell BQV.out 1
                      have o_BQV_2 : wr.cell? ⟨bq, 2, none⟩ = some ((.int .i64 (n : Int))) := blk_cell BQV.out 2
                      have o_BQV_3 : wr.cell? ⟨bq, 3, none⟩ = some ((.int .u32 (x.s : Int))) := blk_cell BQV.out 3
                      have o_BQV_4 : wr.cell? ⟨bq, 4, none⟩ = some ((.slice (some ⟨bh, 0, none⟩) n n)) := blk_cell BQV.out 4
                      have o_BQV_5 : wr.cell? ⟨bq, 5, none⟩ = some ((.slice (some ⟨bd, 0, none⟩) n n)) := blk_cell BQV.out 5
                      have o_BRV_0 : wr.cell? ⟨w.heap.size + 1 + 1, 0, none⟩ = some ((.int .i64 0)) := blk_cell BRV.out 0
                      have o_BRV_1 : wr.cell? ⟨w.heap.size + 1 + 1, 1, none⟩ = some ((.bool false)) := blk_cell BRV.out 1
                      have o_BRV_2 : wr.cell? ⟨w.heap.size + 1 + 1, 2, none⟩ = some ((.int .i64 0)) := blk_cell BRV.out 2
                      have o_BRV_3 : wr.cell? ⟨w.heap.size + 1 + 1, 3, none⟩ = some ((.int .u32 0)) := blk_cell BRV.out 3
                      have o_BRV_4 : wr.cell? ⟨w.heap.size + 1 + 1, 4, none⟩ = some ((.slice none 0 0)) := blk_cell BRV.out 4
                      have o_BRV_5 : wr.cell? ⟨w.heap.size + 1 + 1, 5, none⟩ = some ((.slice none 0 0)) := blk_cell BRV.out 5
                      have f_BRV_0 : wr.frozen? ⟨w.heap.size + 1 + 1, 0, none⟩ = false := blk_free BRV.out 0
                      have f_BRV_1 : wr.frozen? ⟨w.heap.size + 1 + 1, 1, none⟩ = false := blk_free BRV.out 1
                      have f_BRV_2 : wr.frozen? ⟨w.heap.size + 1 + 1, 2, none⟩ = false := blk_free BRV.out 2
                      have f_BRV_3 : wr.frozen? ⟨w.heap.size + 1 + 1, 3, none⟩ = false := blk_free BRV.out 3
                      have f_BRV_4 : wr.frozen? ⟨w.heap.size + 1 + 1, 4, none⟩ = false := blk_free BRV.out 4
                      have f_BRV_5 : wr.frozen? ⟨w.heap.size + 1 + 1, 5, none⟩ = false := blk_free BRV.out 5
                      go_wp2
                      obtain ⟨HV2, B3⟩ := fin6 HKV.out (show w.heap.size ≤ w.heap.size + 1 + 1 by omega) BRV.out (.int .i64 M.id) (.bool true) (.int .i64 (n : Int)) (.int .u32 (x.s : Int)) (.slice (some ⟨bh, 0, none⟩) n n) (.slice (some ⟨bd, 0, none⟩) n n)
                      have r0 := blk_cell B3 0
                      have r1 := blk_cell B3 1
                      have r2 := blk_cell B3 2
                      have r3 := blk_cell B3 3
                      have r4 := blk_cell B3 4
                      have r5 := blk_cell B3 5
                      have KF : Keeps (fun b => b = w.heap.size + 1 + 1) wr _ := (keep6 wr (w.heap.size + 1 + 1) (.int .i64 M.id) (.bool true) (.int .i64 (n : Int)) (.int .u32 (x.s : Int)) (.slice (some ⟨bh, 0, none⟩) n n) (.slice (some ⟨bd, 0, none⟩) n n))
                      refine bodyPost_ret (v := .tuple #[.agg #[(.int .i64 M.id), (.bool true), (.int .i64 (n : Int)), (.int .u32 (x.s : Int)), (.slice (some ⟨bh, 0, none⟩) n n), (.slice (some ⟨bd, 0, none⟩) n n)], .int .i64 0]) (by simp [results, Tryd.results32, go_sem, r0, r1, r2, r3, r4, r5]) rfl ?_
                      have hq : putM M x = ⟨M.id, true, x.s, ovr y.hv o (List.replicate nd true), ovr y.dt o x.d⟩ := by rw [HP0.out e0]; unfold overM; rw [HII.out, HIK.out, HIS.out, HO.out, HND.out]; rfl
                      have l1 : (ovr y.hv o (List.replicate nd true)).length = n := by rw [ovr_length (by rw [List.length_replicate, HHL.out]; omega), HHL.out]
                      have l2 : (ovr y.dt o x.d).length = n := by rw [ovr_length (by rw [HND.out, HDL.out]; omega), HDL.out]
                      rw [hq]
                      refine ⟨some ⟨bh, 0, none⟩, n, some ⟨bd, 0, none⟩, n, ?_, ⟨?_, ?_⟩, HV2⟩
                      · simp only [l1, l2]
                      · simp only [l1]; exact ((HO1.out.keep KF (fun b _ h1 h2 => by omega)).row).mono (fun b _ h => .inr (by omega))
                      · simp only [l2]; exact ((HO2.out.keep KF (fun b _ h1 h2 => by omega)).row).mono (fun b _ h => .inr (by omega))
          · have e7 := HE7.out H1.out HV.out ⟨HKN.out, .inr hs7⟩
            have t1 : ((M.dt.length : Int) != (n : Int)) = false := by rw [ht7]; simp
            have t1b : (M.dt.length != n) = false := by rw [ht7]; simp
            clear ht7
            have t2 : ((M.sm : Int) != (x.s : Int)) = true := by simp; omega
            have t3 : (M.sm != x.s) = true := by simp; omega
            have o_BP_0 : W2.cell? ⟨w.heap.size, 0, none⟩ = some ((.int .i64 M.id)) := blk_cell BP.out 0
            have o_BP_1 : W2.cell? ⟨w.heap.size, 1, none⟩ = some ((.bool true)) := blk_cell BP.out 1
            have o_BP_2 : W2.cell? ⟨w.heap.size, 2, none⟩ = some ((.int .i64 (M.dt.length : Int))) := blk_cell BP.out 2
            have o_BP_3 : W2.cell? ⟨w.heap.size, 3, none⟩ = some ((.int .u32 (M.sm : Int))) := blk_cell BP.out 3
            have o_BP_4 : W2.cell? ⟨w.heap.size, 4, none⟩ = some ((.slice ah M.hv.length ch)) := blk_cell BP.out 4
            have o_BP_5 : W2.cell? ⟨w.heap.size, 5, none⟩ = some ((.slice ad M.dt.length cd)) := blk_cell BP.out 5
            have o_BS_0 : W2.cell? ⟨w.heap.size + 1, 0, none⟩ = some ((.int .i64 x.f)) := blk_cell BS.out 0
            have o_BS_1 : W2.cell? ⟨w.heap.size + 1, 1, none⟩ = some ((.int .i64 x.o)) := blk_cell BS.out 1
            have o_BS_2 : W2.cell? ⟨w.heap.size + 1, 2, none⟩ = some ((.int .i64 (n : Int))) := blk_cell BS.out 2
            have o_BS_3 : W2.cell? ⟨w.heap.size + 1, 3, none⟩ = some ((.int .u32 (x.s : Int))) := blk_cell BS.out 3
            have o_BS_4 : W2.cell? ⟨w.heap.size + 1, 4, none⟩ = some ((.slice a x.d.length c)) := blk_cell BS.out 4
            have o_BR_0 : W2.cell? ⟨w.heap.size + 1 + 1, 0, none⟩ = some ((.int .i64 0)) := blk_cell BR.out 0
            have o_BR_1 : W2.cell? ⟨w.heap.size + 1 + 1, 1, none⟩ = some ((.bool false)) := blk_cell BR.out 1
            have o_BR_2 : W2.cell? ⟨w.heap.size + 1 + 1, 2, none⟩ = some ((.int .i64 0)) := blk_cell BR.out 2
            have o_BR_3 : W2.cell? ⟨w.heap.size + 1 + 1, 3, none⟩ = some ((.int .u32 0)) := blk_cell BR.out 3
            have o_BR_4 : W2.cell? ⟨w.heap.size + 1 + 1, 4, none⟩ = some ((.slice none 0 0)) := blk_cell BR.out 4
            have o_BR_5 : W2.cell? ⟨w.heap.size + 1 + 1, 5, none⟩ = some ((.slice none 0 0)) := blk_cell BR.out 5
            have f_BR_0 : W2.frozen? ⟨w.heap.size + 1 + 1, 0, none⟩ = false := blk_free BR.out 0
            have f_BR_1 : W2.frozen? ⟨w.heap.size + 1 + 1, 1, none⟩ = false := blk_free BR.out 1
            have f_BR_2 : W2.frozen? ⟨w.heap.size + 1 + 1, 2, none⟩ = false := blk_free BR.out 2
            have f_BR_3 : W2.frozen? ⟨w.heap.size + 1 + 1, 3, none⟩ = false := blk_free BR.out 3
            have f_BR_4 : W2.frozen? ⟨w.heap.size + 1 + 1, 4, none⟩ = false := blk_free BR.out 4
            have f_BR_5 : W2.frozen? ⟨w.heap.size + 1 + 1, 5, none⟩ = false := blk_free BR.out 5
            go_wp2
            obtain ⟨HV2, B3⟩ := fin6 HK.out (show w.heap.size ≤ w.heap.size + 1 + 1 by omega) BR.out (.int .i64 M.id) (.bool true) (.int .i64 (M.dt.length : Int)) (.int .u32 (M.sm : Int)) (.slice ah M.hv.length ch) (.slice ad M.dt.length cd)
            have r0 := blk_cell B3 0
            have r1 := blk_cell B3 1
            have r2 := blk_cell B3 2
            have r3 := blk_cell B3 3
            have r4 := blk_cell B3 4
            have r5 := blk_cell B3 5
            refine bodyPost_ret (v := .tuple #[.agg #[(.int .i64 M.id), (.bool true), (.int .i64 (M.dt.length : Int)), (.int .u32 (M.sm : Int)), (.slice ah M.hv.length ch), (.slice ad M.dt.length cd)], .int .i64 7]) (by simp [results, Tryd.results32, go_sem, r0, r1, r2, r3, r4, r5]) rfl (by have hf := HFP.out _ 7 HV2 e7 (by omega); rw [HKN.out] at hf; exact hf)
        · have e7 := HE7.out H1.out HV.out ⟨HKN.out, .inl (fun h => ht7 (by have := HN.out; omega))⟩
          have t1 : ((M.dt.length : Int) != (n : Int)) = true := by simp; omega
          have t1b : (M.dt.length != n) = true := by simp; exact ht7
          have o_BP_0 : W2.cell? ⟨w.heap.size, 0, none⟩ = some ((.int .i64 M.id)) := blk_cell BP.out 0
          have o_BP_1 : W2.cell? ⟨w.heap.size, 1, none⟩ = some ((.bool true)) := blk_cell BP.out 1
          have o_BP_2 : W2.cell? ⟨w.heap.size, 2, none⟩ = some ((.int .i64 (M.dt.length : Int))) := blk_cell BP.out 2
          have o_BP_3 : W2.cell? ⟨w.heap.size, 3, none⟩ = some ((.int .u32 (M.sm : Int))) := blk_cell BP.out 3
          have o_BP_4 : W2.cell? ⟨w.heap.size, 4, none⟩ = some ((.slice ah M.hv.length ch)) := blk_cell BP.out 4
          have o_BP_5 : W2.cell? ⟨w.heap.size, 5, none⟩ = some ((.slice ad M.dt.length cd)) := blk_cell BP.out 5
          have o_BS_0 : W2.cell? ⟨w.heap.size + 1, 0, none⟩ = some ((.int .i64 x.f)) := blk_cell BS.out 0
          have o_BS_1 : W2.cell? ⟨w.heap.size + 1, 1, none⟩ = some ((.int .i64 x.o)) := blk_cell BS.out 1
          have o_BS_2 : W2.cell? ⟨w.heap.size + 1, 2, none⟩ = some ((.int .i64 (n : Int))) := blk_cell BS.out 2
          have o_BS_3 : W2.cell? ⟨w.heap.size + 1, 3, none⟩ = some ((.int .u32 (x.s : Int))) := blk_cell BS.out 3
          have o_BS_4 : W2.cell? ⟨w.heap.size + 1, 4, none⟩ = some ((.slice a x.d.length c)) := blk_cell BS.out 4
          have o_BR_0 : W2.cell? ⟨w.heap.size + 1 + 1, 0, none⟩ = some ((.int .i64 0)) := blk_cell BR.out 0
          have o_BR_1 : W2.cell? ⟨w.heap.size + 1 + 1, 1, none⟩ = some ((.bool false)) := blk_cell BR.out 1
          have o_BR_2 : W2.cell? ⟨w.heap.size + 1 + 1, 2, none⟩ = some ((.int .i64 0)) := blk_cell BR.out 2
          have o_BR_3 : W2.cell? ⟨w.heap.size + 1 + 1, 3, none⟩ = some ((.int .u32 0)) := blk_cell BR.out 3
          have o_BR_4 : W2.cell? ⟨w.heap.size + 1 + 1, 4, none⟩ = some ((.slice none 0 0)) := blk_cell BR.out 4
          have o_BR_5 : W2.cell? ⟨w.heap.size + 1 + 1, 5, none⟩ = some ((.slice none 0 0)) := blk_cell BR.out 5
          have f_BR_0 : W2.frozen? ⟨w.heap.size + 1 + 1, 0, none⟩ = false := blk_free BR.out 0
          have f_BR_1 : W2.frozen? ⟨w.heap.size + 1 + 1, 1, none⟩ = false := blk_free BR.out 1
          have f_BR_2 : W2.frozen? ⟨w.heap.size + 1 + 1, 2, none⟩ = false := blk_free BR.out 2
          have f_BR_3 : W2.frozen? ⟨w.heap.size + 1 + 1, 3, none⟩ = false := blk_free BR.out 3
          have f_BR_4 : W2.frozen? ⟨w.heap.size + 1 + 1, 4, none⟩ = false := blk_free BR.out 4
          have f_BR_5 : W2.frozen? ⟨w.heap.size + 1 + 1, 5, none⟩ = false := blk_free BR.out 5
          go_wp2
          obtain ⟨HV2, B3⟩ := fin6 HK.out (show w.heap.size ≤ w.heap.size + 1 + 1 by omega) BR.out (.int .i64 M.id) (.bool true) (.int .i64 (M.dt.length : Int)) (.int .u32 (M.sm : Int)) (.slice ah M.hv.length ch) (.slice ad M.dt.length cd)
          have r0 := blk_cell B3 0
          have r1 := blk_cell B3 1
          have r2 := blk_cell B3 2
          have r3 := blk_cell B3 3
          have r4 := blk_cell B3 4
          have r5 := blk_cell B3 5
          refine bodyPost_ret (v := .tuple #[.agg #[(.int .i64 M.id), (.bool true), (.int .i64 (M.dt.length : Int)), (.int .u32 (M.sm : Int)), (.slice ah M.hv.length ch), (.slice ad M.dt.length cd)], .int .i64 7]) (by simp [results, Tryd.results32, go_sem, r0, r1, r2, r3, r4, r5]) rfl (by have hf := HFP.out _ 7 HV2 e7 (by omega); rw [HKN.out] at hf; exact hf)
  · have d1 : (x.f != M.id) = true := by simp; exact h1
    have e1 := HE1.out h1
    have o_BP_0 : W1.cell? ⟨w.heap.size, 0, none⟩ = some ((.int .i64 M.id)) := blk_cell BP.out 0
    have o_BP_1 : W1.cell? ⟨w.heap.size, 1, none⟩ = some ((.bool M.kn)) := blk_cell BP.out 1
    have o_BP_2 : W1.cell? ⟨w.heap.size, 2, none⟩ = some ((.int .i64 (M.dt.length : Int))) := blk_cell BP.out 2
    have o_BP_3 : W1.cell? ⟨w.heap.size, 3, none⟩ = some ((.int .u32 (M.sm : Int))) := blk_cell BP.out 3
    have o_BP_4 : W1.cell? ⟨w.heap.size, 4, none⟩ = some ((.slice ah M.hv.length ch)) := blk_cell BP.out 4
    have o_BP_5 : W1.cell? ⟨w.heap.size, 5, none⟩ = some ((.slice ad M.dt.length cd)) := blk_cell BP.out 5
    have o_BR_0 : W1.cell? ⟨w.heap.size + 1 + 1, 0, none⟩ = some ((.int .i64 0)) := blk_cell BR.out 0
    have o_BR_1 : W1.cell? ⟨w.heap.size + 1 + 1, 1, none⟩ = some ((.bool false)) := blk_cell BR.out 1
    have o_BR_2 : W1.cell? ⟨w.heap.size + 1 + 1, 2, none⟩ = some ((.int .i64 0)) := blk_cell BR.out 2
    have o_BR_3 : W1.cell? ⟨w.heap.size + 1 + 1, 3, none⟩ = some ((.int .u32 0)) := blk_cell BR.out 3
    have o_BR_4 : W1.cell? ⟨w.heap.size + 1 + 1, 4, none⟩ = some ((.slice none 0 0)) := blk_cell BR.out 4
    have o_BR_5 : W1.cell? ⟨w.heap.size + 1 + 1, 5, none⟩ = some ((.slice none 0 0)) := blk_cell BR.out 5
    have f_BR_0 : W1.frozen? ⟨w.heap.size + 1 + 1, 0, none⟩ = false := blk_free BR.out 0
    have f_BR_1 : W1.frozen? ⟨w.heap.size + 1 + 1, 1, none⟩ = false := blk_free BR.out 1
    have f_BR_2 : W1.frozen? ⟨w.heap.size + 1 + 1, 2, none⟩ = false := blk_free BR.out 2
    have f_BR_3 : W1.frozen? ⟨w.heap.size + 1 + 1, 3, none⟩ = false := blk_free BR.out 3
    have f_BR_4 : W1.frozen? ⟨w.heap.size + 1 + 1, 4, none⟩ = false := blk_free BR.out 4
    have f_BR_5 : W1.frozen? ⟨w.heap.size + 1 + 1, 5, none⟩ = false := blk_free BR.out 5
    have o_BS_0 : W1.cell? ⟨w.heap.size + 1, 0, none⟩ = some ((.int .i64 x.f)) := blk_cell BS.out 0
    go_wp2
    obtain ⟨HV2, B3⟩ := fin6 HK.out (show w.heap.size ≤ w.heap.size + 1 + 1 by omega) BR.out (.int .i64 M.id) (.bool M.kn) (.int .i64 (M.dt.length : Int)) (.int .u32 (M.sm : Int)) (.slice ah M.hv.length ch) (.slice ad M.dt.length cd)
    have r0 := blk_cell B3 0
    have r1 := blk_cell B3 1
    have r2 := blk_cell B3 2
    have r3 := blk_cell B3 3
    have r4 := blk_cell B3 4
    have r5 := blk_cell B3 5
    refine bodyPost_ret (v := .tuple #[.agg #[(.int .i64 M.id), (.bool M.kn), (.int .i64 (M.dt.length : Int)), (.int .u32 (M.sm : Int)), (.slice ah M.hv.length ch), (.slice ad M.dt.length cd)], .int .i64 1]) (by simp [results, Tryd.results32, go_sem, r0, r1, r2, r3, r4, r5]) rfl (HFP.out _ 1 HV2 e1 (by omega))
end Go.Proofs.YtgeicbjlichdgaaDoor
