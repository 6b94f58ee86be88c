/- The walk of the law CrcWire. -/
import Derived.Test.YtegdlgnofbjjcaaDoorCrcOS
import Derived.Test.YtegdlgnofbjjcaaDoorCrcU
import Derived.Test.YtegdlgnofbjjcaaDoorWirePk
import Derived.BigQuiet
namespace Go.Proofs.YtegdlgnofbjjcaaDoor
open Go.RowKit
attribute [local go_sem ↓] Go.wp_at_zero Go.wp_at_succ
theorem encL_len {l : List Int} (h : ∀ n ∈ l, -9223372036854775808 ≤ n ∧ n ≤ 9223372036854775807) (hm : l.length ≤ 100) : (Wi.encL l).length ≤ 1010 := by
  unfold Wi.encL
  rw [List.length_append]
  have h1 := Wi.enc_len10 (n := l.length) (by omega)
  have h2 := Wi.flatMap_len l h
  omega
theorem num_set : ∀ (l : List Nat) (k q : Nat), k < l.length → num (l.set k (l.getD k 0 ^^^ q)) = num l ^^^ q * 2 ^ (8 * k)
  | [], k, q, h => by simp at h
  | c :: l, 0, q, h => by
    simp only [List.set_cons_zero, List.getD_cons_zero, num, Nat.mul_zero, Nat.pow_zero, Nat.mul_one]
    ac_rfl
  | c :: l, k + 1, q, h => by
    have ih := num_set l k q (by simpa using h)
    simp only [List.set_cons_succ, List.getD_cons_succ, num]
    rw [ih, show (256 : Nat) = 2 ^ 8 from rfl, xor_mul, Nat.mul_assoc, ← Nat.pow_add, show 8 * (k + 1) = 8 * k + 8 by omega]
    ac_rfl
theorem set_lt {l : List Nat} (hl : ∀ c ∈ l, c < 256) (k q : Nat) (hq : q < 256) : ∀ c ∈ l.set k (l.getD k 0 ^^^ q), c < 256 := by
  intro c hc
  rcases List.mem_or_eq_of_mem_set hc with h | h
  · exact hl c h
  · subst h; exact xor_lt (n := 8) (getD_lt hl _) hq
theorem opened_byte {l : List Nat} (hl : ∀ c ∈ l, c < 256) (k q : Nat) (hk : k < l.length + 4) (hq : q < 256) (h0 : q ≠ 0) : (opened ((seal_ l).set k ((seal_ l).getD k 0 ^^^ q))).2 = 8 := by
  have := opened_burst hl (set_lt (seal_lt hl) k q hq) (by rw [List.length_set, seal_len]) (8 * k) q (by omega) (by omega) (num_set _ _ _ (by rw [seal_len]; exact hk))
  rwa [if_neg h0] at this
set_option maxRecDepth 100000 in set_option maxHeartbeats 1000000 in
theorem wire_any (v : Value) (l : List Int) (i q : Nat) (w : World) (hN : Nib w) (hv : Sl (fun b => b < w.heap.size) w v (i64s l)) (hl : ∀ n ∈ l, -9223372036854775808 ≤ n ∧ n ≤ 9223372036854775807) (hi : i < 65536) (hq : q < 256) :
    Calls Tryd.prog 12 #[v, .int .u16 i, .int .u8 q] w fun e w' => e = .returned (.bool true) ∧ Keeps (fun _ => False) w w' := by
  have HN := hid hN; have HV := hid hv; have HL := hid hl; have HZ0 : Hd (0 < w.heap.size) := hid (cell_lt (hN 0 (by omega)))
  obtain ⟨a, cap, rfl, q1, q2, q3⟩ := hv.ints
  have D3 := hid q3
  clear hN hv hl q3
  unfold maxLen at q2
  by_cases hlong : (l.length : Int) > 100
  · generalize l.length = n at *
    go_enter Tryd.func12, Tryd.ntmps12
    go_wp2_with fail
    refine (lives_any _ HN.out).mono ?_
    rintro e w6 ⟨rfl, hk6⟩
    have Q6 := hid hk6
    clear hk6
    go_wp2
    go_ret
    exact ⟨rfl, Q6.out⟩
  · have HLE : Hd (l.length ≤ 100) := hid (by omega)
    obtain ⟨en, hen⟩ : ∃ en, en = Wi.encL l := ⟨_, rfl⟩
    have HEL : Hd (en.length ≤ 1010) := hid (by rw [hen]; exact encL_len HL.out HLE.out)
    have HET : Hd (∀ c ∈ en, c < 256) := hid (by rw [hen]; exact Wi.packed_lt l)
    have HSL : Hd (Wi.sL 100 (0, en) = ((0, []), l)) := hid (by have := Wi.sL_enc [] (l := l) (most := 100) (by have := HLE.out; omega) HL.out (by have := HLE.out; omega); rw [List.append_nil, ← hen] at this; exact this)
    have HEN := hid hen
    clear hen
    have TB := hid (fun k => opened_byte HET.out k q)
    have ML := hid (seal_len en)
    have SLT := hid (seal_lt HET.out)
    generalize hll : l.length = n at *
    have HLL := hid hll; clear hll
    go_enter Tryd.func12, Tryd.ntmps12
    go_upto_region 4 with (fail)
    generalize hW : World.alloc w _ = W1
    have HBF : Hd (Wi.BufAt W1 w.heap.size []) := hid (by rw [← hW]; exact Wi.BufAt.new _ _)
    have HK : Hd (Keeps (fun _ => False) w W1) := hid (by rw [← hW]; exact keeps_alloc _ _ _)
    clear hW
    go_wp2_with fail
    have HB2 := HBF.out.tight
    refine (Wi.WInts_any _ (fun b => b < w.heap.size) w.heap.size [] _ l _ HB2 (HV.out.keep HK.out (fun _ _ _ h => h)) (fun k hk hK => ⟨by omega, by omega⟩) (by rw [HLL.out]; have := HLE.out; simp; omega) HL.out).mono ?_
    rintro e w2 ⟨rfl, hp⟩
    obtain ⟨hb3, hk⟩ := Wi.BufAt.post HB2 (fun b h => h.1) hp
    rw [List.nil_append, ← HEN.out] at hb3
    have K2 : Hd (Keeps (fun _ => False) w w2) := hid (HK.out.trans' hk (fun i hi hs => by omega))
    have HB3 := hid hb3
    clear hp hk hb3 HB2 HBF HK
    go_wp2_with fail
    refine (Wi.WDone_any _ w.heap.size en _ HB3.out (by have := HEL.out; omega)).mono ?_
    rintro e w3 ⟨ad, nd, cd, rfl, hnd, hod, hk⟩
    have SD := hid (row_sl hod.row hnd.symm)
    have K3 : Hd (Keeps (fun _ => False) w w3) := hid (K2.out.trans hk)
    clear hod hnd hk K2 HB3
    go_wp2_with fail
    refine (Seal_any _ _ en _ (HN.out.keep K3.out (fun h => h)) SD.out HET.out (by have := HEL.out; omega)).mono ?_
    rintro e w4 ⟨a4, n4, c4, rfl, hn4, ho4, hk⟩
    have S4 := hid (own_sl ho4 hn4)
    have O4 : Hd (Own (fun b => w.heap.size ≤ b) w4 5 1 (.slice a4 n4 c4) n4 (u8s (seal_ en))) := hid (ho4.mono (fun b _ h => by have := K3.out.size; omega))
    have K4 : Hd (Keeps (fun _ => False) w w4) := hid (K3.out.trans hk)
    have L4 : Hd (n4 = en.length + 4) := hid (by rw [hn4, u8s_length, ML.out])
    clear hn4 ho4 hk K3 SD
    go_wp2_with fail
    refine (Open_any _ _ (seal_ en) _ (HN.out.keep K4.out (fun h => h)) S4.out SLT.out (by rw [ML.out]; have := HEL.out; omega)).mono ?_
    rw [show OpenRet (seal_ en) = fun w r w' => ∃ a n c, r = .returned (.tuple #[.slice a n c, .int .i64 0]) ∧ n = en.length ∧ Own (fun k => w.heap.size ≤ k) w' 5 1 (.slice a n c) n (u8s en) ∧ Keeps (fun _ => False) w w' by unfold OpenRet; rw [opened_seal]]
    rintro e w5 ⟨a5, n5, c5, rfl, hn5, ho5, hk⟩
    have S5 := hid (own_sl ho5 (by rw [u8s_length]; exact hn5))
    replace O4 : Hd (Own (fun b => w.heap.size ≤ b) w5 5 1 (.slice a4 n4 c4) n4 (u8s (seal_ en))) := hid (O4.out.keep hk (fun _ _ _ h => h))
    have K5 : Hd (Keeps (fun _ => False) w w5) := hid (K4.out.trans hk)
    clear hn5 ho5 hk K4 S4
    go_wp2_with fail
    refine (Wi.NewReader_any _ _ en _ S5.out (by have := HEL.out; omega) HET.out).mono ?_
    rintro e w6 ⟨px, rfl, hx1, hx2, hk⟩
    have X1 := hid hx1
    have O6 : Hd (Own (fun b => w.heap.size ≤ b ∧ b < px) w6 5 1 (.slice a4 n4 c4) n4 (u8s (seal_ en))) := hid ((O4.out.mono (K' := fun b => w.heap.size ≤ b ∧ b < px) (fun b h1 h2 => ⟨h2, by omega⟩)).keep hk (fun _ _ _ h => h))
    have K6 : Hd (Keeps (fun _ => False) w w6) := hid (K5.out.trans hk)
    have hpx : w.heap.size ≤ px := by have := K5.out.size; omega
    clear hx1 hx2 hk K5 S5 O4
    go_wp2_with fail
    refine (Wi.RInts_any _ px 100 (0, en) _ X1.out (by omega) (by have := HEL.out; simp only; omega)).mono ?_
    unfold Wi.RLPost
    rw [HSL.out]
    rintro e w7 ⟨al, nl, cl, rfl, hnl, hol, hrd, hk⟩
    have hnl2 : nl = n := by rw [hnl]; exact HLL.out
    subst hnl2
    have SR : Hd (Sl (fun b => w.heap.size ≤ b) w7 (.slice al nl cl) (i64s l)) := hid ((row_sl hol.row (by rw [i64s_length]; exact HLL.out)).mono (fun b _ h => by have := K6.out.size; omega))
    have X2 := hid hrd
    have O7 : Hd (Own (fun b => w.heap.size ≤ b ∧ b < px) w7 5 1 (.slice a4 n4 c4) n4 (u8s (seal_ en))) := hid (O6.out.keep hk (fun b _ h e => by omega))
    have K7 : Hd (Keeps (fun _ => False) w w7) := hid (K6.out.trans' hk (fun i hi hs => by omega))
    clear hnl hol hrd hk X1 O6 K6
    go_wp2_with fail
    refine (Wi.REnd_any _ px (0, []) _ X2.out).mono ?_
    rw [show Wi.sEnd (0, []) = 0 by simp [Wi.sEnd]]
    rintro e w8 ⟨rfl, hd⟩
    have hk := drawn_keeps (fun _ => False) hd
    have R8 := hid (SR.out.drawn hd)
    have V8 := hid (HV.out.keep (K7.out.trans hk) (fun _ _ _ h => h))
    have O8 := hid (O7.out.keep hk (fun _ _ _ h => h))
    have K8 : Hd (Keeps (fun _ => False) w w8) := hid (K7.out.trans hk)
    clear hd hk X2 O7 K7 SR
    go_wp2_with fail
    have D9 : Hd (0 < nl → ∃ b o, al = some ⟨b, o, none⟩ ∧ ∀ j, j < nl → w8.cell? ⟨b, o + j, none⟩ = some (.int .i64 (l.getD j 0))) := hid (by
      obtain ⟨a', cap', e1, _, _, e2⟩ := R8.out.ints
      injection e1 with e3 e4 e5
      intro h
      obtain ⟨b, o, e6, _, _, e7⟩ := e2 (by omega)
      exact ⟨b, o, e3.trans e6, fun j hj => e7 j (by omega)⟩)
    have N8 := hid (HN.out.keep K8.out (fun h => h))
    clear R8 V8
    go_loopw [13] (fun i wr => ∃ k : Nat, k ≤ nl ∧ i = .int .i64 k ∧ Drawn w8 wr) (fun i _ => nl - (intOf i).toNat)
    case atStart => exact ⟨0, by omega, rfl, Drawn.refl _⟩
    case round =>
      obtain ⟨k, hk, rfl, hdr⟩ := hrel
      by_cases hlt : k < nl
      · obtain ⟨b1, o1, rfl, _, _, d1⟩ := D3.out (by omega)
        obtain ⟨b2, o2, rfl, d2⟩ := D9.out (by omega)
        have e1 := hdr.cell (keep_cell K8.out (fun h => h) (d1 k hlt)); clear d1
        have e2 := hdr.cell (d2 k hlt); clear d2
        generalize l.getD k 0 = y at *
        have hk0 : (0 : Int) ≤ (k : Int) := by omega
        have hk1 : (k : Int) < nl := by omega
        go_wp2
        go_quiet (fail)
        go_wp2
        go_roundw
        case rel => exact ⟨k + 1, by omega, by go_num, drawn_n hdr _⟩
        case measure => simp [intOf]; omega
      · have hkn : k = nl := by omega
        subst hkn
        clear hlt D3 D9
        have N9 := hid (N8.out.drawn hdr)
        have hkd := drawn_keeps (fun _ => False) hdr
        have K9 : Hd (Keeps (fun _ => False) w wr) := hid (K8.out.trans hkd)
        have O9 := hid (O8.out.keep hkd (fun _ _ _ h => h))
        clear hdr hkd O8 K8 N8
        by_cases hq0 : q = 0
        · subst hq0
          go_wp2_with fail
          refine (lives_any _ N9.out).mono ?_
          rintro e w10 ⟨rfl, hk6⟩
          have Q6 := hid (K9.out.trans hk6)
          clear hk6
          go_wp2
          go_ret
          exact ⟨rfl, Q6.out⟩
        · have hq1 : ((q : Int) == 0) = false := by simp; omega
          have h4 : n4 = en.length + 4 := L4.out
          obtain ⟨i', hi'⟩ : ∃ i', i' = i % n4 := ⟨_, rfl⟩
          have li : i' < n4 := by rw [hi']; exact Nat.mod_lt _ (by omega)
          have ei : (i : Int) % (n4 : Int) = (i' : Int) := by rw [hi']; simp
          have T := hid (TB.out i' (by omega) hq hq0)
          have HQ := hid hq
          have h40 : 0 < n4 := by omega
          have h4m : n4 ≤ 2000 := by have := HEL.out; omega
          clear hi' h4
          obtain ⟨g, rfl⟩ : ∃ g, a4 = some ⟨g, 0, none⟩ := by
            rcases O9.out.1.2 with ⟨h, h0⟩ | ⟨g, cap, cur, h, _⟩
            · omega
            · exact ⟨g, by injection h with h _⟩
          have hg : w.heap.size ≤ g := (O9.out.2 g rfl).1
          have hc : wr.cell? ⟨g, i', none⟩ = some (.int .u8 ((seal_ en).getD i' 0 : Nat)) := by
            rw [O9.out.1.cellAt i' (by omega)]
            have hh : i' < (seal_ en).length := by rw [ML.out, ← L4.out]; exact li
            rw [← u8s_getD _ _ hh, List.getD, List.getElem?_eq_getElem (by rw [u8s_length]; exact hh)]; rfl
          have hf : wr.frozen? ⟨g, i', none⟩ = false := O9.out.1.frozenAt _
          have HC := hid (getD_lt SLT.out i')
          have HST := hid (O9.out.1.stored i' (.int .u8 ((seal_ en).getD i' 0 ^^^ q : Nat)))
          have HSE : Hd ((u8s (seal_ en)).set i' (.int .u8 ((seal_ en).getD i' 0 ^^^ q : Nat)) = u8s ((seal_ en).set i' ((seal_ en).getD i' 0 ^^^ q))) := hid (by simp [u8s, List.map_set])
          have HLT := hid (set_lt SLT.out i' q HQ.out)
          have HLN : Hd (((seal_ en).set i' ((seal_ en).getD i' 0 ^^^ q)).length = n4) := hid (by rw [List.length_set, ML.out, L4.out])
          clear O9
          generalize hcc : (seal_ en).getD i' 0 = c at *
          clear hcc
          have hx := u8_xor_nat c q HC.out hq
          go_wp2_with fail
          have S9 : Hd (Sl (fun _ => True) (wr.setCell ⟨g, i', none⟩ (.int .u8 (c ^^^ q : Nat))) (.slice (some ⟨g, 0, none⟩) n4 c4) (u8s ((seal_ en).set i' (c ^^^ q)))) := hid (by
            have hs := HST.out.1
            rw [HSE.out] at hs
            exact own_sl (S := fun _ => True) ⟨hs, fun _ _ => trivial⟩ (by rw [u8s_length, HLN.out]))
          have K10 : Hd (Keeps (fun _ => False) w (wr.setCell ⟨g, i', none⟩ (.int .u8 (c ^^^ q : Nat)))) := hid (K9.out.setCell (.inr hg) _)
          refine (Open_any _ _ ((seal_ en).set i' (c ^^^ q)) _ (HN.out.keep K10.out (fun h => h)) S9.out HLT.out (by rw [HLN.out]; omega)).mono ?_
          rintro e w10 ⟨a6, n6, c6, rfl, hn6, ho6, hk⟩
          rw [T.out]
          have K11 := hid (K10.out.trans hk)
          clear hn6 ho6 hk
          go_wp2_with fail
          refine (lives_any _ (HN.out.keep K11.out (fun h => h))).mono ?_
          rintro e w11 ⟨rfl, hk6⟩
          have Q6 := hid (K11.out.trans hk6)
          clear hk6
          go_wp2
          go_ret
          exact ⟨rfl, Q6.out⟩
end Go.Proofs.YtegdlgnofbjjcaaDoor
