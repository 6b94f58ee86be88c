/- Link: LinkSteps walked. -/
import Derived.Test.YtffnocjaljgnoaaLinkZ
namespace Go.Proofs.Ytffnocjaljgnoaa
open Go.RowKit
attribute [local go_sem ↓] Go.wp_at_zero Go.wp_at_succ
def StepP (l1 l2 : List Flt) (cn : Int) (_ : World) (v : Value) (bx : Nat) (cs : Array Value) (wx : World) : Prop := ∃ a c ao co, cs = #[.slice a l1.length c, .int .i64 cn] ∧ v = .slice ao l2.length co ∧ Fls (fun b => b ≠ bx) wx (.slice a l1.length c) l1 ∧ Ars (fun b => b ≠ bx) wx (.slice ao l2.length co) l2
def Lit3 (W : World) (t0 t1 t2 : Int) (u : Value) (wx : World) : Prop := ∃ g, u = .slice (some ⟨g, 0, none⟩) 3 3 ∧ Hd (Blk wx g #[.int .i64 t0, .int .i64 t1, .int .i64 t2] 3) ∧ Hd (Keeps (fun _ => False) W wx)
def KL (a w : World) : Prop := Keeps (fun _ => False) a w
theorem KL.keep {S : Nat → Prop} {a w w' : World} (h : KL a w) (hk : Keeps S w w') (hd : ∀ b, b < w.heap.size → b < a.heap.size → ¬ S b) : KL a w' :=
  Keeps.trans' h hk (fun i hi hs => absurd hs (hd i (Nat.lt_of_lt_of_le hi h.size) hi))
set_option maxRecDepth 100000 in set_option maxHeartbeats 1000000 in
theorem steps_any (v0 v1 v2 v3 : Value) (l0 : List Int) (m1 : Nat) (l2 : List Nat) (m3 : Nat) (tk : Int) (w : World) (h0 : Sl (fun b => b < w.heap.size) w v0 (i64s l0)) (hl0 : ∀ n ∈ l0, -9223372036854775808 ≤ n ∧ n ≤ 9223372036854775807) (h1 : ArrS 4 (fun b => b < w.heap.size) w v1 m1) (h2 : Sl (fun b => b < w.heap.size) w v2 (u8s l2)) (hl2 : ∀ c ∈ l2, c < 256) (h3 : ArrS 2 (fun b => b < w.heap.size) w v3 m3) (h4 : -9223372036854775808 ≤ tk ∧ tk ≤ 9223372036854775807) :
    Calls Try.prog 4 #[v0, v1, v2, v3, .int .i64 tk] w fun e w' => e = .returned (.bool true) ∧ Keeps (fun _ => False) w w' := by
  have H4 := hid h4
  have H0 := hid h0; have H1 := hid h1; have H2 := hid h2; have H3 := hid h3; have HL0 := hid hl0; have HL2 := hid hl2
  clear h0 h1 h2 h3 hl0 hl2
  go_enter Try.func4, Try.ntmps4
  go_wp2_with fail
  refine (Table_any _ l0 _ H0.out HL0.out).mono ?_
  rintro e W1 ⟨at', nt, ct, ws, rfl, rfl, hw8, hws, hsw, hk⟩
  have HWS := hid hws; have HSW := hid hsw; clear hws hsw
  have HK : Hd (Keeps (fun _ => False) w W1) := hid hk
  have z_W1 := hk.size
  clear hk
  go_wp2_with fail
  refine (Fates_any _ _ m1 l2 _ ((H1.out.keep HK.out (fun _ _ _ h => h)).mono (fun b h _ => h)) ((H2.out.keep HK.out (fun _ _ _ h => h)).mono (fun b h _ => h)) HL2.out).mono ?_
  rintro e W2 ⟨af, nf, cf, fts, rfl, rfl, hf6, hfs, hok, hk⟩
  have HFS := hid hfs; have HOK := hid hok; clear hfs hok
  have HWS' : Hd (Wins (fun b => w.heap.size ≤ b) W2 (.slice at' ws.length ct) ws) := hid (HWS.out.keep hk (fun _ _ _ h => h))
  clear HWS
  have HWS := HWS'
  clear HWS'
  have HK' : Hd (Keeps (fun _ => False) w W2) := hid (HK.out.trans hk)
  clear HK
  have HK := HK'
  clear HK'
  have z_W2 := hk.size
  clear hk
  go_wp2_with fail
  refine (sent_any _ _ _ ws fts m3 _ (HWS.out.mono (fun b h _ => h)) HSW.out (HFS.out.mono (fun b h _ => h)) hf6 HOK.out ((H3.out.keep HK.out (fun _ _ _ h => h)).mono (fun b h _ => h))).mono ?_
  rintro e W3 ⟨l, cn, tick, a1, c1, a2, c2, rfl, hG, htk, hcn, hF1, hF2, hk⟩
  have HG := hid hG; have F1 := hid hF1; have F2 := hid hF2; clear hG hF1 hF2
  have HWS' : Hd (Wins (fun b => w.heap.size ≤ b) W3 (.slice at' ws.length ct) ws) := hid (HWS.out.keep hk (fun _ _ _ h => h))
  have HFS' : Hd (Fts (fun b => W1.heap.size ≤ b) W3 (.slice af fts.length cf) fts) := hid (HFS.out.keep hk (fun _ _ _ h => h))
  clear HWS HFS
  have HWS := HWS'
  clear HWS'
  have HFS := HFS'
  clear HFS'
  have HK' : Hd (Keeps (fun _ => False) w W3) := hid (HK.out.trans hk)
  clear HK
  have HK := HK'
  clear HK'
  have z_W3 := hk.size
  clear hk
  clear HWS HFS
  go_upto_region 2 with fail
  generalize hW : World.alloc (World.alloc W3 _) _ = W4
  have KS : Hd (Keeps (fun _ => False) W3 W4) := hid (by rw [← hW]; exact (Keeps.alloc (Keeps.alloc (Keeps.refl (fun _ => False) W3) _) _))
  have F1' : Hd (Fls (fun b => W2.heap.size ≤ b) W4 (.slice a1 l.length c1) l) := hid (F1.out.keep KS.out (fun _ _ _ h => h))
  have F2' : Hd (Fls (fun b => W2.heap.size ≤ b) W4 (.slice a2 l.length c2) l) := hid (F2.out.keep KS.out (fun _ _ _ h => h))
  have BK : Hd (Blk W4 W3.heap.size #[.slice a1 l.length c1, .int .i64 cn] 28) := hid (by rw [← hW]; exact (blk_alloc (blk_new _ _ _) _))
  have BP : Hd (Blk W4 (W3.heap.size + 1) #[.slice a2 l.length c2, .int .i64 cn, .int .i64 tick] 30) := hid (by rw [← hW]; exact (blk_new' _ _ _ _ (by simp)))
  clear F1 F2
  have F1 := F1'
  clear F1'
  have F2 := F2'
  clear F2'
  have HK' : Hd (Keeps (fun _ => False) w W4) := hid (HK.out.trans KS.out)
  clear HK
  have HK := HK'
  clear HK'
  have z_W4 : W3.heap.size + 2 ≤ W4.heap.size := by rw [← hW]; simp
  clear hW KS
  have hlm : l.length ≤ 24 := HG.out.len
  have HT : Hd (∀ x ∈ l, 0 ≤ x.t ∧ x.t ≤ 1000000000000000) := hid (fun x hx => by have := HG.out.t x hx; omega)
  have HD8 : Hd (∀ x ∈ l, ∀ c ∈ x.d, c < 256) := hid (fun x hx => (HG.out.d x hx).2)
  have HDL : Hd (∀ x ∈ l, x.d.length ≤ 140737488351232) := hid (fun x hx => by have := (HG.out.d x hx).1; omega)
  obtain ⟨q, hq⟩ : ∃ q, quietL l = q := ⟨_, rfl⟩
  have HQ1 := hid hq
  have HQ2 : Hd (refQuiet l = q) := hid ((quiet_eq HG.out.srt (fun x hx => (HG.out.t x hx).1)).trans hq)
  clear hq
  have qn : (q != q) = false := by simp
  go_upto_region 2 with fail
  go_cut [40] from 31 to 40 (fun u40 wx => u40 = .bool false ∧ Hd (Keeps (fun _ => False) W4 wx))
  case first =>
    have KC : Hd (Keeps (fun _ => False) W4 W4) := hid (Keeps.refl _ _)
    have HSS : Hd (∀ w', Keeps (fun _ => False) W4 w' → (w'.cell? ⟨W3.heap.size, 0, none⟩ = some (.slice a1 l.length c1) ∧ w'.cell? ⟨W3.heap.size, 1, none⟩ = some (.int .i64 cn) ∧ w'.cell? ⟨W3.heap.size + 1, 0, none⟩ = some (.slice a2 l.length c2) ∧ w'.cell? ⟨W3.heap.size + 1, 1, none⟩ = some (.int .i64 cn))) := hid (fun w' hk => ⟨blk_cell (blk_keep BK.out hk (fun h => h)) 0, blk_cell (blk_keep BK.out hk (fun h => h)) 1, blk_cell (blk_keep BP.out hk (fun h => h)) 0, blk_cell (blk_keep BP.out hk (fun h => h)) 1⟩)
    go_region_held (fun w' => w'.cell? ⟨W3.heap.size, 0, none⟩ = some (.slice a1 l.length c1) ∧ w'.cell? ⟨W3.heap.size, 1, none⟩ = some (.int .i64 cn) ∧ w'.cell? ⟨W3.heap.size + 1, 0, none⟩ = some (.slice a2 l.length c2) ∧ w'.cell? ⟨W3.heap.size + 1, 1, none⟩ = some (.int .i64 cn)) (exact HSS.out _ (by repeat (first | (with_reducible exact KC.out) | (with_reducible exact Keeps.refl _ _) | (with_reducible apply Keeps.drewN) | (with_reducible apply Keeps.drew) | (with_reducible apply Keeps.alloc))))
      (first
      | (go_at_call 15; refine (Quiet_any _ _ l cn _ (F1.out.keep (S := fun _ => False) (by repeat (first | (with_reducible exact KC.out) | (with_reducible exact Keeps.refl _ _) | (with_reducible apply Keeps.drewN) | (with_reducible apply Keeps.drew) | (with_reducible apply Keeps.alloc))) (fun _ _ _ h => h)) (by omega) (HT.out)).mono ?_; rw [HQ1.out]; rintro e wy ⟨rfl, hk⟩; have KC2 : Hd (Keeps (fun _ => False) W4 wy) := hid (Keeps.trans (S := fun _ => False) (by repeat (first | (with_reducible exact KC.out) | (with_reducible exact Keeps.refl _ _) | (with_reducible apply Keeps.drewN) | (with_reducible apply Keeps.drew) | (with_reducible apply Keeps.alloc))) hk); replace KC := KC2; clear KC2 hk)
      | (go_at_call 16; refine (refQuiet_any _ _ l cn _ (F2.out.keep (S := fun _ => False) (by repeat (first | (with_reducible exact KC.out) | (with_reducible exact Keeps.refl _ _) | (with_reducible apply Keeps.drewN) | (with_reducible apply Keeps.drew) | (with_reducible apply Keeps.alloc))) (fun _ _ _ h => h)) (by omega) (HT.out)).mono ?_; rw [HQ2.out]; rintro e wy ⟨rfl, hk⟩; have KC2 : Hd (Keeps (fun _ => False) W4 wy) := hid (Keeps.trans (S := fun _ => False) (by repeat (first | (with_reducible exact KC.out) | (with_reducible exact Keeps.refl _ _) | (with_reducible apply Keeps.drewN) | (with_reducible apply Keeps.drew) | (with_reducible apply Keeps.alloc))) hk); replace KC := KC2; clear KC2 hk))
    all_goals
      go_wp2_with fail
      go_meet
      exact ⟨rfl, hid (by repeat (first | (with_reducible exact KC.out) | (with_reducible exact Keeps.refl _ _) | (with_reducible apply Keeps.drewN) | (with_reducible apply Keeps.drew) | (with_reducible apply Keeps.alloc)))⟩
  case rest =>
    obtain ⟨rfl, hk⟩ := hcut
    replace hk := hk.out
    generalize wc = W5 at *
    have F1' : Hd (Fls (fun b => W2.heap.size ≤ b) W5 (.slice a1 l.length c1) l) := hid (F1.out.keep hk (fun _ _ _ h => h))
    have F2' : Hd (Fls (fun b => W2.heap.size ≤ b) W5 (.slice a2 l.length c2) l) := hid (F2.out.keep hk (fun _ _ _ h => h))
    have BK' : Hd (Blk W5 W3.heap.size #[.slice a1 l.length c1, .int .i64 cn] 28) := hid (blk_keep BK.out hk (fun h => h))
    have BP' : Hd (Blk W5 (W3.heap.size + 1) #[.slice a2 l.length c2, .int .i64 cn, .int .i64 tick] 30) := hid (blk_keep BP.out hk (fun h => h))
    clear F1 F2 BK BP
    have F1 := F1'
    clear F1'
    have F2 := F2'
    clear F2'
    have BK := BK'
    clear BK'
    have BP := BP'
    clear BP'
    have HK' : Hd (Keeps (fun _ => False) w W5) := hid (HK.out.trans hk)
    clear HK
    have HK := HK'
    clear HK'
    have z_W5 := hk.size
    clear hk
    clear HQ1 HQ2 qn
    skip
    have u1 : IntKind.i64.wrap (tick + 1) = tick + 1 := IntWalk.i64_in _ (by omega)
    go_upto_region 4 with fail
    go_cut [14] from 41 to 48 (fun u wx => Lit3 W5 (around tk 50) (around tk 1100) (tick + 1) u wx)
    case first =>
      have KC : Hd (Keeps (fun _ => False) W5 W5) := hid (Keeps.refl _ _)
      have HSS : Hd (∀ w', Keeps (fun _ => False) W5 w' → (w'.cell? ⟨W3.heap.size + 1, 2, none⟩ = some (.int .i64 tick))) := hid (fun w' hk => blk_cell (blk_keep BP.out hk (fun h => h)) 2)
      go_region_held (fun w' => w'.cell? ⟨W3.heap.size + 1, 2, none⟩ = some (.int .i64 tick)) (exact HSS.out _ (by repeat (first | (with_reducible exact KC.out) | (with_reducible exact Keeps.refl _ _) | (with_reducible apply Keeps.drewN) | (with_reducible apply Keeps.drew) | (with_reducible apply Keeps.alloc)))) ((go_at_call 17; refine (Around_any tk _ _ H4.out.1 H4.out.2 (by omega) (by omega)).mono ?_; rintro e wx ⟨rfl, rfl⟩))
      all_goals
        go_wp2_with fail
        go_meet
        first | exact ⟨_, rfl, hid (blk_new _ _ _), hid (by repeat (first | (with_reducible exact KC.out) | (with_reducible exact Keeps.refl _ _) | (with_reducible apply Keeps.drewN) | (with_reducible apply Keeps.drew) | (with_reducible apply Keeps.alloc)))⟩ | exact ⟨_, rfl, hid (blk_drew (blk_new _ _ _)), hid (by repeat (first | (with_reducible exact KC.out) | (with_reducible exact Keeps.refl _ _) | (with_reducible apply Keeps.drewN) | (with_reducible apply Keeps.drew) | (with_reducible apply Keeps.alloc)))⟩
    case rest =>
      obtain ⟨gl, rfl, BL, hk⟩ := hcut
      replace hk := hk.out
      generalize wc = W9 at *
      have F1' : Hd (Fls (fun b => W2.heap.size ≤ b) W9 (.slice a1 l.length c1) l) := hid (F1.out.keep hk (fun _ _ _ h => h))
      have F2' : Hd (Fls (fun b => W2.heap.size ≤ b) W9 (.slice a2 l.length c2) l) := hid (F2.out.keep hk (fun _ _ _ h => h))
      have BK' : Hd (Blk W9 W3.heap.size #[.slice a1 l.length c1, .int .i64 cn] 28) := hid (blk_keep BK.out hk (fun h => h))
      have BP' : Hd (Blk W9 (W3.heap.size + 1) #[.slice a2 l.length c2, .int .i64 cn, .int .i64 tick] 30) := hid (blk_keep BP.out hk (fun h => h))
      clear F1 F2 BK BP
      have F1 := F1'
      clear F1'
      have F2 := F2'
      clear F2'
      have BK := BK'
      clear BK'
      have BP := BP'
      clear BP'
      have HK' : Hd (Keeps (fun _ => False) w W9) := hid (HK.out.trans hk)
      clear HK
      have HK := HK'
      clear HK'
      have z_W9 := hk.size
      clear hk
      clear u1
      go_wp2_with fail
      go_loopw [15] (fun i wr => ∃ k : Nat, i = .int .i64 k ∧ k ≤ 3 ∧ Hd (Keeps (fun _ => False) W9 wr)) (fun i _ => 3 - (intOf i).toNat)
      case atStart => exact ⟨0, rfl, by omega, hid (Keeps.refl _ _)⟩
      case round =>
        obtain ⟨k, rfl, hk3, KR⟩ := hrel
        have hk := KR.out
        have F1' : Hd (Fls (fun b => W2.heap.size ≤ b) wr (.slice a1 l.length c1) l) := hid (F1.out.keep hk (fun _ _ _ h => h))
        have F2' : Hd (Fls (fun b => W2.heap.size ≤ b) wr (.slice a2 l.length c2) l) := hid (F2.out.keep hk (fun _ _ _ h => h))
        have BK' : Hd (Blk wr W3.heap.size #[.slice a1 l.length c1, .int .i64 cn] 28) := hid (blk_keep BK.out hk (fun h => h))
        have BP' : Hd (Blk wr (W3.heap.size + 1) #[.slice a2 l.length c2, .int .i64 cn, .int .i64 tick] 30) := hid (blk_keep BP.out hk (fun h => h))
        have BL' : Hd (Blk wr gl #[.int .i64 (around tk 50), .int .i64 (around tk 1100), .int .i64 (tick + 1)] 3) := hid (blk_keep BL.out hk (fun h => h))
        clear F1 F2 BK BP BL
        have F1 := F1'
        clear F1'
        have F2 := F2'
        clear F2'
        have BK := BK'
        clear BK'
        have BP := BP'
        clear BP'
        have BL := BL'
        clear BL'
        have HK' : Hd (Keeps (fun _ => False) w wr) := hid (HK.out.trans hk)
        clear HK
        have HK := HK'
        clear HK'
        have z_wr := hk.size
        clear hk
        by_cases hk : k < 3
        · have KLP : Hd (KL W9 wr) := hid KR.out
          obtain ⟨T, hT⟩ : ∃ T, wr.cell? ⟨gl, k, none⟩ = some (.int .i64 T) := by
            rcases (show k = 0 ∨ k = 1 ∨ k = 2 by omega) with rfl | rfl | rfl
            · exact ⟨_, blk_cell BL.out 0⟩
            · exact ⟨_, blk_cell BL.out 1⟩
            · exact ⟨_, blk_cell BL.out 2⟩
          have HSK : Hd (∀ w', Keeps (fun _ => False) wr w' → w'.cell? ⟨gl, k, none⟩ = some (.int .i64 T)) := hid (fun w' hk => keep_cell hk (fun h => h) hT)
          have k1 : (k : Int) < 3 := by omega
          have k2 : (0 : Int) ≤ k := by omega
          clear hT
          obtain ⟨hs1, hs2⟩ := step_take HG.out.srt T
          obtain ⟨d, hd⟩ : ∃ d, l.drop (stepK l T) = d := ⟨_, rfl⟩
          obtain ⟨o', ho'⟩ : ∃ o', l.take (stepK l T) = o' := ⟨_, rfl⟩
          have HLF : Hd (leftL l T = d) := hid (by rw [← hd, hs2]; rfl)
          have HOL : Hd (outL l T = o') := hid (by rw [← ho', hs1]; rfl)
          have HD := hid hd; have HO := hid ho'
          have hdl : d.length ≤ 24 := by rw [← hd, List.length_drop]; omega
          have hol : o'.length ≤ 24 := by rw [← ho', List.length_take]; omega
          have HDM : Hd (∀ x ∈ d, x ∈ l) := hid (fun x hx => by rw [← hd] at hx; exact List.mem_of_mem_drop hx)
          have HOM : Hd (∀ x ∈ o', x ∈ l) := hid (fun x hx => by rw [← ho'] at hx; exact List.mem_of_mem_take hx)
          have HSD : Hd (Srt d) := hid (by rw [← hd]; exact srt_drop HG.out.srt _)
          clear hs1 hs2 hd ho'
          go_upto_region 8 with fail
          go_cut [16, 17] from 53 to 61 (fun u16 u17 wx => CutF wr 28 (StepP d o' cn wr u17) u16 wx)
          case first =>
            have KC : Hd (Keeps (fun _ => False) wr wr) := hid (Keeps.refl _ _)
            have HSS : Hd (∀ w', Keeps (fun _ => False) wr w' → (w'.cell? ⟨W3.heap.size, 0, none⟩ = some (.slice a1 l.length c1) ∧ w'.cell? ⟨W3.heap.size, 1, none⟩ = some (.int .i64 cn) ∧ w'.cell? ⟨gl, k, none⟩ = some (.int .i64 T))) := hid (fun w' hk => ⟨blk_cell (blk_keep BK.out hk (fun h => h)) 0, blk_cell (blk_keep BK.out hk (fun h => h)) 1, HSK.out w' hk⟩)
            go_region_held (fun w' => w'.cell? ⟨W3.heap.size, 0, none⟩ = some (.slice a1 l.length c1) ∧ w'.cell? ⟨W3.heap.size, 1, none⟩ = some (.int .i64 cn) ∧ w'.cell? ⟨gl, k, none⟩ = some (.int .i64 T)) (exact HSS.out _ (by repeat (first | (with_reducible exact KC.out) | (with_reducible exact Keeps.refl _ _) | (with_reducible apply Keeps.drewN) | (with_reducible apply Keeps.drew) | (with_reducible apply Keeps.alloc) | (refine Keeps.setCell ?_ (.inr (by first | exact Nat.le_refl _ | (simp; done) | (simp; omega) | omega)) _))))
              (first
              | (go_at_call 18; (refine (Step_any _ l cn T _ ((F1.out.keep (by repeat (first | (with_reducible exact KC.out) | (with_reducible exact Keeps.refl _ _) | (with_reducible apply Keeps.drewN) | (with_reducible apply Keeps.drew) | (with_reducible apply Keeps.alloc))) (fun _ _ _ h => h)).mono (fun b h _ => h)) (by omega) HDL.out).mono ?_); rintro e wy0 ⟨ra, rn, rc, rao, rno, rco, rfl, hrn, hrno, hrf, hra, hk⟩; have KC2 : Hd (Keeps (fun _ => False) wr wy0) := hid (Keeps.trans (S := fun _ => False) (by repeat (first | (with_reducible exact KC.out) | (with_reducible exact Keeps.refl _ _) | (with_reducible apply Keeps.drewN) | (with_reducible apply Keeps.drew) | (with_reducible apply Keeps.alloc))) hk); have zc := KC.out.size; rw [HD.out] at hrn hrf; rw [HO.out] at hrno hra; subst hrn hrno; have RF := hid hrf; have RA := hid hra; clear hrf hra; (first | (have HNB2 : Hd (Blk wy0 _ #[.slice none 0 0, .int .i64 0] 28) := hid (blk_keep (by repeat (first | (with_reducible exact HNB.out) | (with_reducible apply blk_drewN) | (with_reducible apply blk_drew) | (with_reducible apply blk_alloc))) hk (fun h => h)); replace HNB := HNB2; clear HNB2) | (have HNB : Hd (Blk wy0 wr.heap.size #[.slice none 0 0, .int .i64 0] 28) := hid (blk_keep (by (repeat (first | (with_reducible apply blk_drewN) | (with_reducible apply blk_drew) | (with_reducible refine blk_new' _ _ _ _ ?_) | (with_reducible apply blk_alloc))); (first | (with_reducible rfl) | (simp; done) | (simp; omega))) hk (fun h => h))) | (have HNB : Hd (Blk wy0 (wr.heap.size + 1) #[.slice none 0 0, .int .i64 0] 28) := hid (blk_keep (by (repeat (first | (with_reducible apply blk_drewN) | (with_reducible apply blk_drew) | (with_reducible refine blk_new' _ _ _ _ ?_) | (with_reducible apply blk_alloc))); (first | (with_reducible rfl) | (simp; done) | (simp; omega))) hk (fun h => h))) | skip); replace KC := KC2; clear KC2; (try (have F0 := blk_cell HNB.out 0; have G0 := blk_free HNB.out 0; have F1 := blk_cell HNB.out 1; have G1 := blk_free HNB.out 1)); have zk := hk.size; (try simp at zk); have zd := KC.out.size; replace hk := hid hk))
            all_goals
              go_wp2_with fail
              go_meet
              first | ((with_reducible refine cutF_new KC.out ?_); exact (fun w' hk => ⟨ra, rc, rao, rco, rfl, rfl, (RF.out.mono (K' := fun b => b ≠ wy0.heap.size) (fun b h1 _ => by omega)).keep hk (fun _ _ _ h => h), (RA.out.mono (K' := fun b => b ≠ wy0.heap.size) (fun b h1 _ => by omega)).keep hk (fun _ _ _ h => h)⟩)) | ((with_reducible refine cutF_old2 KC.out (by first | exact Nat.le_refl _ | omega | (simp; done) | (simp; omega)) HNB.out ?_); exact (fun w' hk => ⟨ra, rc, rao, rco, rfl, rfl, (RF.out.mono (K' := fun b => b ≠ wr.heap.size) (fun b _ h => by (try simp at h); omega)).keep hk (fun b _ h1 h2 => h1 h2), (RA.out.mono (K' := fun b => b ≠ wr.heap.size) (fun b _ h => by (try simp at h); omega)).keep hk (fun b _ h1 h2 => h1 h2)⟩)) | ((with_reducible refine cutF_drew (fun _ _ _ h => h) (cutF_new KC.out ?_)); exact (fun w' hk => ⟨ra, rc, rao, rco, rfl, rfl, (RF.out.mono (K' := fun b => b ≠ wy0.heap.size) (fun b h1 _ => by omega)).keep hk (fun _ _ _ h => h), (RA.out.mono (K' := fun b => b ≠ wy0.heap.size) (fun b h1 _ => by omega)).keep hk (fun _ _ _ h => h)⟩)) | ((with_reducible refine cutF_drew (fun _ _ _ h => h) (cutF_old2 KC.out (by first | exact Nat.le_refl _ | omega | (simp; done) | (simp; omega)) HNB.out ?_)); exact (fun w' hk => ⟨ra, rc, rao, rco, rfl, rfl, (RF.out.mono (K' := fun b => b ≠ wr.heap.size) (fun b _ h => by (try simp at h); omega)).keep hk (fun b _ h1 h2 => h1 h2), (RA.out.mono (K' := fun b => b ≠ wr.heap.size) (fun b _ h => by (try simp at h); omega)).keep hk (fun b _ h1 h2 => h1 h2)⟩))
          case rest =>
            obtain ⟨b_BX, cs_BX, rfl, hb_BX, BX, HP, hk⟩ := hcut
            have hk_BX := hk; replace hk := hk.out
            generalize wc = W6 at *
            have F1' : Hd (Fls (fun b => W2.heap.size ≤ b) W6 (.slice a1 l.length c1) l) := hid (F1.out.keep hk (fun _ _ _ h => h))
            have F2' : Hd (Fls (fun b => W2.heap.size ≤ b) W6 (.slice a2 l.length c2) l) := hid (F2.out.keep hk (fun _ _ _ h => h))
            have BK' : Hd (Blk W6 W3.heap.size #[.slice a1 l.length c1, .int .i64 cn] 28) := hid (blk_keep BK.out hk (fun h => h))
            have BP' : Hd (Blk W6 (W3.heap.size + 1) #[.slice a2 l.length c2, .int .i64 cn, .int .i64 tick] 30) := hid (blk_keep BP.out hk (fun h => h))
            have BL' : Hd (Blk W6 gl #[.int .i64 (around tk 50), .int .i64 (around tk 1100), .int .i64 (tick + 1)] 3) := hid (blk_keep BL.out hk (fun h => h))
            have KLP' : Hd (KL W9 W6) := hid (KLP.out.keep hk (fun _ _ _ h => h))
            clear F1 F2 BK BP BL KLP
            have F1 := F1'
            clear F1'
            have F2 := F2'
            clear F2'
            have BK := BK'
            clear BK'
            have BP := BP'
            clear BP'
            have BL := BL'
            clear BL'
            have KLP := KLP'
            clear KLP'
            have HK' : Hd (Keeps (fun _ => False) w W6) := hid (HK.out.trans hk)
            clear HK
            have HK := HK'
            clear HK'
            have z_W6 := hk.size
            clear hk
            obtain ⟨xa, xc, xao, xco, rfl, rfl, hxf, hxa⟩ := HP.out
            have XF := hid hxf; have XA := hid hxa; clear hxf hxa HP
            have HSK2 : Hd (∀ w', Keeps (fun _ => False) W6 w' → w'.cell? ⟨gl, k, none⟩ = some (.int .i64 T)) := hid (fun w' hk => HSK.out w' (hk_BX.out.trans hk))
            clear HSK
            have HSK := HSK2
            clear HSK2
            go_upto_region 9 with fail
            go_cut [18, 19] from 62 to 71 (fun u18 u19 wx => CutF W6 28 (StepP d o' cn W6 u19) u18 wx)
            case first =>
              have KC : Hd (Keeps (fun _ => False) W6 W6) := hid (Keeps.refl _ _)
              have HSS : Hd (∀ w', Keeps (fun _ => False) W6 w' → (w'.cell? ⟨W3.heap.size + 1, 0, none⟩ = some (.slice a2 l.length c2) ∧ w'.cell? ⟨W3.heap.size + 1, 1, none⟩ = some (.int .i64 cn) ∧ w'.cell? ⟨gl, k, none⟩ = some (.int .i64 T))) := hid (fun w' hk => ⟨blk_cell (blk_keep BP.out hk (fun h => h)) 0, blk_cell (blk_keep BP.out hk (fun h => h)) 1, HSK.out w' hk⟩)
              go_region_held (fun w' => w'.cell? ⟨W3.heap.size + 1, 0, none⟩ = some (.slice a2 l.length c2) ∧ w'.cell? ⟨W3.heap.size + 1, 1, none⟩ = some (.int .i64 cn) ∧ w'.cell? ⟨gl, k, none⟩ = some (.int .i64 T)) (exact HSS.out _ (by repeat (first | (with_reducible exact KC.out) | (with_reducible exact Keeps.refl _ _) | (with_reducible apply Keeps.drewN) | (with_reducible apply Keeps.drew) | (with_reducible apply Keeps.alloc) | (refine Keeps.setCell ?_ (.inr (by first | exact Nat.le_refl _ | (simp; done) | (simp; omega) | omega)) _))))
                (first
                | (go_at_call 19; (refine (refStep_any (fun b => b < W6.heap.size) _ l cn T _ (((F2.out.mono (K' := fun b => b < W6.heap.size) (fun b h _ => h)).keep (by repeat (first | (with_reducible exact KC.out) | (with_reducible exact Keeps.refl _ _) | (with_reducible apply Keeps.drewN) | (with_reducible apply Keeps.drew) | (with_reducible apply Keeps.alloc))) (fun _ _ _ h => h)).mono (fun b h1 h => ⟨h, h1⟩)) (by omega)).mono ?_); rintro e wy0 ⟨ra, rn, rc, rao, rno, rco, rfl, hrn, hrno, hrf, hra, hk⟩; have KC2 : Hd (Keeps (fun _ => False) W6 wy0) := hid (Keeps.trans (S := fun _ => False) (by repeat (first | (with_reducible exact KC.out) | (with_reducible exact Keeps.refl _ _) | (with_reducible apply Keeps.drewN) | (with_reducible apply Keeps.drew) | (with_reducible apply Keeps.alloc))) hk); have zc := KC.out.size; rw [HLF.out] at hrn hrf; rw [HOL.out] at hrno hra; subst hrn hrno; have RF := hid hrf; have RA := hid hra; clear hrf hra; (first | (have HNB2 : Hd (Blk wy0 _ #[.slice none 0 0, .int .i64 0] 28) := hid (blk_keep (by repeat (first | (with_reducible exact HNB.out) | (with_reducible apply blk_drewN) | (with_reducible apply blk_drew) | (with_reducible apply blk_alloc))) hk (fun h => h)); replace HNB := HNB2; clear HNB2) | (have HNB : Hd (Blk wy0 W6.heap.size #[.slice none 0 0, .int .i64 0] 28) := hid (blk_keep (by (repeat (first | (with_reducible apply blk_drewN) | (with_reducible apply blk_drew) | (with_reducible refine blk_new' _ _ _ _ ?_) | (with_reducible apply blk_alloc))); (first | (with_reducible rfl) | (simp; done) | (simp; omega))) hk (fun h => h))) | (have HNB : Hd (Blk wy0 (W6.heap.size + 1) #[.slice none 0 0, .int .i64 0] 28) := hid (blk_keep (by (repeat (first | (with_reducible apply blk_drewN) | (with_reducible apply blk_drew) | (with_reducible refine blk_new' _ _ _ _ ?_) | (with_reducible apply blk_alloc))); (first | (with_reducible rfl) | (simp; done) | (simp; omega))) hk (fun h => h))) | skip); replace KC := KC2; clear KC2; (try (have F0 := blk_cell HNB.out 0; have G0 := blk_free HNB.out 0; have F1 := blk_cell HNB.out 1; have G1 := blk_free HNB.out 1)); have zk := hk.size; (try simp at zk); have zd := KC.out.size; replace hk := hid hk))
              all_goals
                go_wp2_with fail
                go_meet
                first | ((with_reducible refine cutF_new KC.out ?_); exact (fun w' hk => ⟨ra, rc, rao, rco, rfl, rfl, (RF.out.mono (K' := fun b => b ≠ wy0.heap.size) (fun b h1 _ => by omega)).keep hk (fun _ _ _ h => h), (RA.out.mono (K' := fun b => b ≠ wy0.heap.size) (fun b h1 _ => by omega)).keep hk (fun _ _ _ h => h)⟩)) | ((with_reducible refine cutF_old2 KC.out (by first | exact Nat.le_refl _ | omega | (simp; done) | (simp; omega)) HNB.out ?_); exact (fun w' hk => ⟨ra, rc, rao, rco, rfl, rfl, (RF.out.mono (K' := fun b => b ≠ W6.heap.size) (fun b _ h => by (try simp at h); omega)).keep hk (fun b _ h1 h2 => h1 h2), (RA.out.mono (K' := fun b => b ≠ W6.heap.size) (fun b _ h => by (try simp at h); omega)).keep hk (fun b _ h1 h2 => h1 h2)⟩)) | ((with_reducible refine cutF_drew (fun _ _ _ h => h) (cutF_new KC.out ?_)); exact (fun w' hk => ⟨ra, rc, rao, rco, rfl, rfl, (RF.out.mono (K' := fun b => b ≠ wy0.heap.size) (fun b h1 _ => by omega)).keep hk (fun _ _ _ h => h), (RA.out.mono (K' := fun b => b ≠ wy0.heap.size) (fun b h1 _ => by omega)).keep hk (fun _ _ _ h => h)⟩)) | ((with_reducible refine cutF_drew (fun _ _ _ h => h) (cutF_old2 KC.out (by first | exact Nat.le_refl _ | omega | (simp; done) | (simp; omega)) HNB.out ?_)); exact (fun w' hk => ⟨ra, rc, rao, rco, rfl, rfl, (RF.out.mono (K' := fun b => b ≠ W6.heap.size) (fun b _ h => by (try simp at h); omega)).keep hk (fun b _ h1 h2 => h1 h2), (RA.out.mono (K' := fun b => b ≠ W6.heap.size) (fun b _ h => by (try simp at h); omega)).keep hk (fun b _ h1 h2 => h1 h2)⟩))
            case rest =>
              obtain ⟨b_BY, cs_BY, rfl, hb_BY, BY, HP, hk⟩ := hcut
              replace hk := hk.out
              generalize wc = W7 at *
              have F1' : Hd (Fls (fun b => W2.heap.size ≤ b) W7 (.slice a1 l.length c1) l) := hid (F1.out.keep hk (fun _ _ _ h => h))
              have F2' : Hd (Fls (fun b => W2.heap.size ≤ b) W7 (.slice a2 l.length c2) l) := hid (F2.out.keep hk (fun _ _ _ h => h))
              have BK' : Hd (Blk W7 W3.heap.size #[.slice a1 l.length c1, .int .i64 cn] 28) := hid (blk_keep BK.out hk (fun h => h))
              have BP' : Hd (Blk W7 (W3.heap.size + 1) #[.slice a2 l.length c2, .int .i64 cn, .int .i64 tick] 30) := hid (blk_keep BP.out hk (fun h => h))
              have BL' : Hd (Blk W7 gl #[.int .i64 (around tk 50), .int .i64 (around tk 1100), .int .i64 (tick + 1)] 3) := hid (blk_keep BL.out hk (fun h => h))
              have KLP' : Hd (KL W9 W7) := hid (KLP.out.keep hk (fun _ _ _ h => h))
              have BX' : Hd (Blk W7 b_BX #[.slice xa d.length xc, .int .i64 cn] 28) := hid (blk_keep BX.out hk (fun h => h))
              have XF' : Hd (Fls (fun b => b ≠ b_BX) W7 (.slice xa d.length xc) d) := hid (XF.out.keep hk (fun _ _ _ h => h))
              have XA' : Hd (Ars (fun b => b ≠ b_BX) W7 (.slice xao o'.length xco) o') := hid (XA.out.keep hk (fun _ _ _ h => h))
              clear F1 F2 BK BP BL KLP BX XF XA
              have F1 := F1'
              clear F1'
              have F2 := F2'
              clear F2'
              have BK := BK'
              clear BK'
              have BP := BP'
              clear BP'
              have BL := BL'
              clear BL'
              have KLP := KLP'
              clear KLP'
              have BX := BX'
              clear BX'
              have XF := XF'
              clear XF'
              have XA := XA'
              clear XA'
              have HK' : Hd (Keeps (fun _ => False) w W7) := hid (HK.out.trans hk)
              clear HK
              have HK := HK'
              clear HK'
              have z_W7 := hk.size
              clear hk
              obtain ⟨ya, yc, yao, yco, rfl, rfl, hyf, hya⟩ := HP.out
              have YF := hid hyf; have YA := hid hya; clear hyf hya HP
              obtain ⟨p, hp⟩ : ∃ p, quietL d = p := ⟨_, rfl⟩
              have HP1 := hid hp
              have HP2 : Hd (refQuiet d = p) := hid ((quiet_eq HSD.out (fun x hx => (HG.out.t x (HDM.out x hx)).1)).trans hp)
              clear hp
              have qp : (p != p) = false := by simp
              have HTD : Hd (∀ x ∈ d, 0 ≤ x.t ∧ x.t ≤ 1000000000000000) := hid (fun x hx => HT.out x (HDM.out x hx))
              go_upto_region 10 with fail
              go_cut [88] from 72 to 88 (fun u88 wx => u88 = .bool false ∧ Hd (Keeps (fun _ => False) W7 wx))
              case first =>
                have KC : Hd (Keeps (fun _ => False) W7 W7) := hid (Keeps.refl _ _)
                have HSS : Hd (∀ w', Keeps (fun _ => False) W7 w' → (w'.cell? ⟨b_BX, 0, none⟩ = some (.slice xa d.length xc) ∧ w'.cell? ⟨b_BX, 1, none⟩ = some (.int .i64 cn) ∧ w'.cell? ⟨b_BY, 0, none⟩ = some (.slice ya d.length yc) ∧ w'.cell? ⟨b_BY, 1, none⟩ = some (.int .i64 cn))) := hid (fun w' hk => ⟨blk_cell (blk_keep BX.out hk (fun h => h)) 0, blk_cell (blk_keep BX.out hk (fun h => h)) 1, blk_cell (blk_keep BY.out hk (fun h => h)) 0, blk_cell (blk_keep BY.out hk (fun h => h)) 1⟩)
                go_region_held (fun w' => w'.cell? ⟨b_BX, 0, none⟩ = some (.slice xa d.length xc) ∧ w'.cell? ⟨b_BX, 1, none⟩ = some (.int .i64 cn) ∧ w'.cell? ⟨b_BY, 0, none⟩ = some (.slice ya d.length yc) ∧ w'.cell? ⟨b_BY, 1, none⟩ = some (.int .i64 cn)) (exact HSS.out _ (by repeat (first | (with_reducible exact KC.out) | (with_reducible exact Keeps.refl _ _) | (with_reducible apply Keeps.drewN) | (with_reducible apply Keeps.drew) | (with_reducible apply Keeps.alloc))))
                  (first
                  | (go_at_call 20; refine (Same_any _ _ _ _ d cn _ (XF.out.keep (S := fun _ => False) (by repeat (first | (with_reducible exact KC.out) | (with_reducible exact Keeps.refl _ _) | (with_reducible apply Keeps.drewN) | (with_reducible apply Keeps.drew) | (with_reducible apply Keeps.alloc))) (fun _ _ _ h => h)) (YF.out.keep (S := fun _ => False) (by repeat (first | (with_reducible exact KC.out) | (with_reducible exact Keeps.refl _ _) | (with_reducible apply Keeps.drewN) | (with_reducible apply Keeps.drew) | (with_reducible apply Keeps.alloc))) (fun _ _ _ h => h)) (by omega) (fun x hx => HD8.out x (HDM.out x hx))).mono ?_; rintro e wy ⟨rfl, hk⟩; have KC2 : Hd (Keeps (fun _ => False) W7 wy) := hid (Keeps.trans (S := fun _ => False) (by repeat (first | (with_reducible exact KC.out) | (with_reducible exact Keeps.refl _ _) | (with_reducible apply Keeps.drewN) | (with_reducible apply Keeps.drew) | (with_reducible apply Keeps.alloc))) hk); replace KC := KC2; clear KC2 hk)
                  | (go_at_call 21; refine (SameArr_any _ _ _ _ o' o' _ (XA.out.keep (S := fun _ => False) (by repeat (first | (with_reducible exact KC.out) | (with_reducible exact Keeps.refl _ _) | (with_reducible apply Keeps.drewN) | (with_reducible apply Keeps.drew) | (with_reducible apply Keeps.alloc))) (fun _ _ _ h => h)) (YA.out.keep (S := fun _ => False) (by repeat (first | (with_reducible exact KC.out) | (with_reducible exact Keeps.refl _ _) | (with_reducible apply Keeps.drewN) | (with_reducible apply Keeps.drew) | (with_reducible apply Keeps.alloc))) (fun _ _ _ h => h)) (EqA.refl _) (by omega) (fun x hx => HD8.out x (HOM.out x hx))).mono ?_; rintro e wy ⟨rfl, hd⟩; have KC2 : Hd (Keeps (fun _ => False) W7 wy) := hid (Keeps.trans (S := fun _ => False) (by repeat (first | (with_reducible exact KC.out) | (with_reducible exact Keeps.refl _ _) | (with_reducible apply Keeps.drewN) | (with_reducible apply Keeps.drew) | (with_reducible apply Keeps.alloc))) (drawn_keeps _ hd)); replace KC := KC2; clear KC2 hd)
                  | (go_at_call 15; refine (Quiet_any _ _ d cn _ (XF.out.keep (S := fun _ => False) (by repeat (first | (with_reducible exact KC.out) | (with_reducible exact Keeps.refl _ _) | (with_reducible apply Keeps.drewN) | (with_reducible apply Keeps.drew) | (with_reducible apply Keeps.alloc))) (fun _ _ _ h => h)) (by omega) (HTD.out)).mono ?_; rw [HP1.out]; rintro e wy ⟨rfl, hk⟩; have KC2 : Hd (Keeps (fun _ => False) W7 wy) := hid (Keeps.trans (S := fun _ => False) (by repeat (first | (with_reducible exact KC.out) | (with_reducible exact Keeps.refl _ _) | (with_reducible apply Keeps.drewN) | (with_reducible apply Keeps.drew) | (with_reducible apply Keeps.alloc))) hk); replace KC := KC2; clear KC2 hk)
                  | (go_at_call 16; refine (refQuiet_any _ _ d cn _ (YF.out.keep (S := fun _ => False) (by repeat (first | (with_reducible exact KC.out) | (with_reducible exact Keeps.refl _ _) | (with_reducible apply Keeps.drewN) | (with_reducible apply Keeps.drew) | (with_reducible apply Keeps.alloc))) (fun _ _ _ h => h)) (by omega) (HTD.out)).mono ?_; rw [HP2.out]; rintro e wy ⟨rfl, hk⟩; have KC2 : Hd (Keeps (fun _ => False) W7 wy) := hid (Keeps.trans (S := fun _ => False) (by repeat (first | (with_reducible exact KC.out) | (with_reducible exact Keeps.refl _ _) | (with_reducible apply Keeps.drewN) | (with_reducible apply Keeps.drew) | (with_reducible apply Keeps.alloc))) hk); replace KC := KC2; clear KC2 hk))
                all_goals
                  go_wp2_with fail
                  go_meet
                  exact ⟨rfl, hid (by repeat (first | (with_reducible exact KC.out) | (with_reducible exact Keeps.refl _ _) | (with_reducible apply Keeps.drewN) | (with_reducible apply Keeps.drew) | (with_reducible apply Keeps.alloc)))⟩
              case rest =>
                obtain ⟨rfl, hk⟩ := hcut
                replace hk := hk.out
                generalize wc = W8 at *
                have F1' : Hd (Fls (fun b => W2.heap.size ≤ b) W8 (.slice a1 l.length c1) l) := hid (F1.out.keep hk (fun _ _ _ h => h))
                have F2' : Hd (Fls (fun b => W2.heap.size ≤ b) W8 (.slice a2 l.length c2) l) := hid (F2.out.keep hk (fun _ _ _ h => h))
                have BK' : Hd (Blk W8 W3.heap.size #[.slice a1 l.length c1, .int .i64 cn] 28) := hid (blk_keep BK.out hk (fun h => h))
                have BP' : Hd (Blk W8 (W3.heap.size + 1) #[.slice a2 l.length c2, .int .i64 cn, .int .i64 tick] 30) := hid (blk_keep BP.out hk (fun h => h))
                have BL' : Hd (Blk W8 gl #[.int .i64 (around tk 50), .int .i64 (around tk 1100), .int .i64 (tick + 1)] 3) := hid (blk_keep BL.out hk (fun h => h))
                have KLP' : Hd (KL W9 W8) := hid (KLP.out.keep hk (fun _ _ _ h => h))
                have BX' : Hd (Blk W8 b_BX #[.slice xa d.length xc, .int .i64 cn] 28) := hid (blk_keep BX.out hk (fun h => h))
                have XF' : Hd (Fls (fun b => b ≠ b_BX) W8 (.slice xa d.length xc) d) := hid (XF.out.keep hk (fun _ _ _ h => h))
                have XA' : Hd (Ars (fun b => b ≠ b_BX) W8 (.slice xao o'.length xco) o') := hid (XA.out.keep hk (fun _ _ _ h => h))
                have BY' : Hd (Blk W8 b_BY #[.slice ya d.length yc, .int .i64 cn] 28) := hid (blk_keep BY.out hk (fun h => h))
                have YF' : Hd (Fls (fun b => b ≠ b_BY) W8 (.slice ya d.length yc) d) := hid (YF.out.keep hk (fun _ _ _ h => h))
                have YA' : Hd (Ars (fun b => b ≠ b_BY) W8 (.slice yao o'.length yco) o') := hid (YA.out.keep hk (fun _ _ _ h => h))
                clear F1 F2 BK BP BL KLP BX XF XA BY YF YA
                have F1 := F1'
                clear F1'
                have F2 := F2'
                clear F2'
                have BK := BK'
                clear BK'
                have BP := BP'
                clear BP'
                have BL := BL'
                clear BL'
                have KLP := KLP'
                clear KLP'
                have BX := BX'
                clear BX'
                have XF := XF'
                clear XF'
                have XA := XA'
                clear XA'
                have BY := BY'
                clear BY'
                have YF := YF'
                clear YF'
                have YA := YA'
                clear YA'
                have HK' : Hd (Keeps (fun _ => False) w W8) := hid (HK.out.trans hk)
                clear HK
                have HK := HK'
                clear HK'
                have z_W8 := hk.size
                clear hk
                go_wp2
                go_roundw
                case rel => exact ⟨k + 1, by go_num, by omega, hid KLP.out⟩
                case measure => simp [intOf]; omega
        · have hk2 : k = 3 := by omega
          subst hk2
          have k0 : ¬ (((3 : Nat) : Int) < 3) := by omega
          clear hk
          go_wp2_with fail
          refine (lives_any _).mono ?_
          rintro e W6 ⟨rfl, hk⟩
          have F1' : Hd (Fls (fun b => W2.heap.size ≤ b) W6 (.slice a1 l.length c1) l) := hid (F1.out.keep hk (fun _ _ _ h => h))
          have F2' : Hd (Fls (fun b => W2.heap.size ≤ b) W6 (.slice a2 l.length c2) l) := hid (F2.out.keep hk (fun _ _ _ h => h))
          have BK' : Hd (Blk W6 W3.heap.size #[.slice a1 l.length c1, .int .i64 cn] 28) := hid (blk_keep BK.out hk (fun h => h))
          have BP' : Hd (Blk W6 (W3.heap.size + 1) #[.slice a2 l.length c2, .int .i64 cn, .int .i64 tick] 30) := hid (blk_keep BP.out hk (fun h => h))
          have BL' : Hd (Blk W6 gl #[.int .i64 (around tk 50), .int .i64 (around tk 1100), .int .i64 (tick + 1)] 3) := hid (blk_keep BL.out hk (fun h => h))
          clear F1 F2 BK BP BL
          have F1 := F1'
          clear F1'
          have F2 := F2'
          clear F2'
          have BK := BK'
          clear BK'
          have BP := BP'
          clear BP'
          have BL := BL'
          clear BL'
          have HK' : Hd (Keeps (fun _ => False) w W6) := hid (HK.out.trans hk)
          clear HK
          have HK := HK'
          clear HK'
          have z_W6 := hk.size
          clear hk
          go_wp2
          go_ret
          exact ⟨rfl, HK.out⟩
end Go.Proofs.Ytffnocjaljgnoaa
