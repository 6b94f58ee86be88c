/- The walk of WireOwns. -/
import Derived.Test.YtlebocjcelbbpaaSameIt
import Derived.Test.YtlebocjcelbbpaaWireM2
import Derived.Test.YtlebocjcelbbpaaWireN
import Derived.Laws.OwnMore
import Derived.Deep.RegionHeld3
import Derived.Deep.DrawnRows
namespace Go.Proofs.Ytlebocjcelbbpaa
open Go.RowKit
attribute [local go_sem ↓] Go.wp_at_zero Go.wp_at_succ
theorem own_empty_b (w : World) : Own (fun k => w.heap.size ≤ k) (w.alloc (.cells #[] 5)) 5 1 (.slice (some ⟨w.heap.size, 0, none⟩) 0 0) 0 [] :=
  ⟨World.ownsRow_lit w #[] 0 (Nat.zero_le _) (Nat.zero_le _) rfl, fun k hk => by injection hk with hk; simp at hk; omega⟩
theorem own_empty_i (w : World) : Own (fun k => w.heap.size ≤ k) (w.alloc (.cells #[] 3)) 3 1 (.slice (some ⟨w.heap.size, 0, none⟩) 0 0) 0 [] :=
  ⟨World.ownsRow_lit w #[] 0 (Nat.zero_le _) (Nat.zero_le _) rfl, fun k hk => by injection hk with hk; simp at hk; omega⟩
theorem keeps_app {w w1 : World} {o : Obj} (hg : Keeps (fun k => w.heap.size ≤ k) (w.alloc o) w1) : Keeps (fun _ => False) w w1 := (keeps_alloc _ w _).after hg
theorem own_row_sl {S : Nat → Prop} {w : World} {e : TypeId} {a : Option Addr} {n c : Nat} {xs : List Value} (h : Own S w e 1 (.slice a n c) n xs) : Sl S w (.slice a n c) xs := by
  have := h.row
  have hl : xs.length = n := by have := this.1; omega
  exact row_sl this hl
theorem own_le {S : Nat → Prop} {w : World} {e : TypeId} {v : Value} {n : Nat} {xs : List Value} (h : Own S w e 1 v n xs) : Own (fun b => S b ∧ b < w.heap.size) w e 1 v n xs := h.mono (fun b h1 h2 => ⟨h2, h1⟩)
set_option maxRecDepth 100000 in set_option maxHeartbeats 1000000 in
theorem wireOwns_any (v v2 : Value) (b : List Nat) (l : List Int) (w : World) (hv : Sl (fun k => k < w.heap.size) w v (u8s b)) (h2 : Sl (fun k => k < w.heap.size) w v2 (i64s l)) (hb : ∀ c ∈ b, c < 256) (hl : ∀ n ∈ l, -9223372036854775808 ≤ n ∧ n ≤ 9223372036854775807) (hm : b.length ≤ 2000000) (hm2 : l.length ≤ 2000000) :
    Calls Try.prog 12 #[v, v2] w fun e w' => e = .returned (.bool true) ∧ Keeps (fun _ => False) w w' := by
  have HV := hid hv; have HV2 := hid h2; have HB := hid hb; have HL := hid hl
  obtain ⟨i0, hi, hz0, hz1, hz2⟩ := info_parts infoU8
  obtain ⟨i1, hj, hy0, hy1, hy2⟩ := info_parts infoIntW
  obtain ⟨a, cap, rfl, _, _, _⟩ := hv.bytes
  obtain ⟨a2, cap2, rfl, _, _, _⟩ := h2.ints
  clear hv h2 hb hl
  have HML : Hd ((encB b ++ encL l).length ≤ 30000000) := hid (by
    have h1 := encB_len b (by omega)
    have h2 := encL_len l (by omega) HL.out
    rw [List.length_append]; omega)
  have HMT : Hd (∀ c ∈ encB b ++ encL l, c < 256) := hid (by
    intro c hc
    rcases List.mem_append.1 hc with hc | hc
    · rcases List.mem_append.1 hc with hc | hc
      · exact enc_lt _ _ hc
      · exact HB.out c hc
    · rcases List.mem_append.1 hc with hc | hc
      · exact enc_lt _ _ hc
      · obtain ⟨n, _, hn⟩ := List.mem_flatMap.1 hc
        exact enc_lt _ _ hn)
  have HSB : Hd (sB b.length (0, encB b ++ encL l) = ((0, encL l), b)) := hid (sB_enc (encL l) (by omega) (by omega))
  have HSL : Hd (sL l.length (0, encL l) = ((0, []), l)) := hid (by have := sL_enc [] (l := l) (most := l.length) (by omega) HL.out (by omega); rw [List.append_nil] at this; exact this)
  generalize hen : encB b ++ encL l = en at *
  have HEN := hid hen; clear hen
  generalize hnb : b.length = nb at *
  generalize hnl : l.length = nl at *
  have HNB := hid hnb; have HNL := hid hnl
  clear hnb hnl
  have HO := hid (own_empty_b w)
  have S0 : Hd (Sl (fun b => b < w.heap.size) (w.alloc (.cells #[] 5)) (.slice a nb cap) (u8s b)) := hid (HV.out.keep (keeps_alloc (fun _ => False) w (.cells #[] 5)) (fun _ _ _ h => h))
  go_enter Try.func12, Try.ntmps12
  go_wp2_with (at_builtin; refine wpList_append_row rfl _ _ 22 rfl 5 i0 (.int .u8 0) 1 1 Try.underlying22 hi hz0 hz1 hz2 rfl (by decide) _ (fun b => b < w.heap.size) _ _ _ _ rfl HO.out nb _ rfl (sl_row S0.out (by simp [HNB.out])) (u8s_one _) ?h1 ?h2 ?_)
  case h1 => simp [maxLen]; omega
  case h2 => omega
  intro a3 c3 w1 hown hgrow; try intro _
  try simp only [Nat.zero_add, List.nil_append] at hown
  have OM : Hd (Own (fun k => w.heap.size ≤ k ∧ k < w1.heap.size) w1 5 1 (.slice a3 nb c3) nb (u8s b)) := hid (by have := hown.mono (K' := fun k => w.heap.size ≤ k ∧ k < w1.heap.size) (fun b hb hh => ⟨by rcases hh with hh | hh <;> (try simp at hh) <;> omega, hb⟩); simpa using this)
  have K1 : Hd (Keeps (fun _ => False) w w1) := hid (keeps_app hgrow)
  clear hown hgrow HO S0
  have HO2 := hid (own_empty_i w1)
  have S2 : Hd (Sl (fun b => b < w.heap.size) (w1.alloc (.cells #[] 3)) (.slice a2 nl cap2) (i64s l)) := hid ((HV2.out.keep K1.out (fun _ _ _ h => h)).keep (keeps_alloc (fun _ => False) w1 (.cells #[] 3)) (fun _ _ _ h => h))
  go_wp2_with (at_builtin; refine wpList_append_row rfl _ _ 44 rfl 3 i1 (.int .i64 0) 1 8 Try.underlying44 hj hy0 hy1 hy2 rfl (by decide) _ (fun b => b < w.heap.size) _ _ _ _ rfl HO2.out nl _ rfl (sl_row S2.out (by simp [HNL.out])) (i64s_one _) ?h1 ?h2 ?_)
  case h1 => simp [maxLen]; omega
  case h2 => omega
  intro a4 c4 w2 hown hgrow; try intro _
  try simp only [Nat.zero_add, List.nil_append] at hown
  have K12 : Hd (Keeps (fun _ => False) w1 w2) := hid (keeps_app hgrow)
  have OL : Hd (Own (fun k => w1.heap.size ≤ k ∧ k < w2.heap.size) w2 3 1 (.slice a4 nl c4) nl (i64s l)) := hid (by have := hown.mono (K' := fun k => w1.heap.size ≤ k ∧ k < w2.heap.size) (fun b hb hh => ⟨by rcases hh with hh | hh <;> (try simp at hh) <;> omega, hb⟩); simpa using this)
  replace OM := hid (OM.out.keep K12.out (fun _ _ _ h => h))
  have K2 : Hd (Keeps (fun _ => False) w w2) := hid (K1.out.trans K12.out)
  have z1 := K1.out.size
  have z2 := K12.out.size
  clear hown hgrow HO2 S2 K12
  go_upto_region 4 with (fail)
  generalize hW : World.alloc w2 _ = w3
  have B3 : Hd (BufAt w3 w2.heap.size []) := hid (by rw [← hW]; exact BufAt.new _ _)
  have k23 : Keeps (fun _ => False) w2 w3 := by rw [← hW]; exact keeps_alloc _ _ _
  replace OM := hid (OM.out.keep k23 (fun _ _ _ h => h))
  replace OL := hid (OL.out.keep k23 (fun _ _ _ h => h))
  have K3 := hid (K2.out.trans k23)
  clear hW k23
  go_wp2_with fail
  have HB2 := B3.out.tight
  refine (WBytes_any _ (fun k => w.heap.size ≤ k ∧ k < w1.heap.size) w2.heap.size [] _ b _ HB2 (own_row_sl OM.out) (fun k hk hK => ⟨by omega, by omega⟩) (by rw [HNB.out]; simp; omega)).mono ?_
  rintro e w4 ⟨rfl, hp⟩
  obtain ⟨hb4, hk⟩ := BufAt.post HB2 (fun b h => h.1) hp
  rw [List.nil_append] at hb4
  have B4 := hid hb4
  replace OM := hid (OM.out.keep hk (fun _ _ h1 h2 => by omega))
  replace OL := hid (OL.out.keep hk (fun _ _ h1 h2 => by omega))
  have K4 : Hd (Keeps (fun _ => False) w w4) := hid (K3.out.trans' hk (fun i hi hs => by omega))
  clear hp hk hb4 HB2 B3
  go_wp2_with fail
  have HB4 := B4.out.tight
  refine (WInts_any _ (fun k => w1.heap.size ≤ k ∧ k < w2.heap.size) w2.heap.size _ _ l _ HB4 (own_row_sl OL.out) (fun k hk hK => ⟨by omega, by omega⟩) (by have := HML.out; have h1 := encB_len b (by rw [HNB.out]; omega); rw [HNL.out]; rw [HNB.out] at h1; omega) HL.out).mono ?_
  rintro e w5 ⟨rfl, hp⟩
  obtain ⟨hb5, hk⟩ := BufAt.post HB4 (fun b h => h.1) hp
  rw [HEN.out] at hb5
  have B5 := hid hb5.tight
  replace OM := hid (OM.out.keep hk (fun _ _ h1 h2 => by omega))
  replace OL := hid (OL.out.keep hk (fun _ _ h1 h2 => by omega))
  have K5 : Hd (Keeps (fun _ => False) w w5) := hid (K4.out.trans' hk (fun i hi hs => by omega))
  have z5 : w2.heap.size < w5.heap.size := hb5.lt
  clear hp hk hb5 HB4 B4 K4 K3
  go_wp2_with fail
  refine (WDone_any _ w2.heap.size en _ B5.out (by have := HML.out; omega)).mono ?_
  rintro e w6 ⟨a5, n5, c5, rfl, hn5, ho5, hk⟩
  have OF := hid (own_le ho5)
  have HN5 : Hd (n5 = en.length) := hid (by rw [hn5, u8s_length])
  replace OM := hid (OM.out.keep hk (fun _ _ _ h => h))
  replace OL := hid (OL.out.keep hk (fun _ _ _ h => h))
  replace B5 := hid (Buf.keep B5.out hk (fun h => h) (fun _ _ _ h => h))
  have K6 := hid (K5.out.trans hk)
  have z6 := hk.size
  clear hn5 ho5 hk K5
  have HO6 := hid (own_empty_b w6)
  have S6 : Hd (Sl (fun b => b < w6.heap.size) (w6.alloc (.cells #[] 5)) (.slice a5 n5 c5) (u8s en)) := hid (((own_row_sl OF.out).mono (fun b _ h => h.2)).keep (keeps_alloc (fun _ => False) w6 (.cells #[] 5)) (fun _ _ _ h => h))
  have l5 : n5 ≤ 30000000 := by rw [HN5.out]; exact HML.out
  go_wp2_with (at_builtin; refine wpList_append_row rfl _ _ 22 rfl 5 i0 (.int .u8 0) 1 1 Try.underlying22 hi hz0 hz1 hz2 rfl (by decide) _ (fun b => b < w6.heap.size) _ _ _ _ rfl HO6.out n5 _ rfl (sl_row S6.out (by simp [HN5.out])) (u8s_one _) ?h1 ?h2 ?_)
  case h1 => simp [maxLen]; omega
  case h2 => omega
  intro a7 c7 w7 hown hgrow; try intro _
  try simp only [Nat.zero_add, List.nil_append] at hown
  have k67 : Keeps (fun _ => False) w6 w7 := keeps_app hgrow
  have SW : Hd (Sl (fun k => w6.heap.size ≤ k ∧ k < w7.heap.size) w7 (.slice a7 n5 c7) (u8s en)) := hid (by have := hown.mono (K' := fun k => w6.heap.size ≤ k ∧ k < w7.heap.size) (fun b hb hh => ⟨by rcases hh with hh | hh <;> (try simp at hh) <;> omega, hb⟩); exact own_row_sl (by simpa using this))
  replace OM := hid (OM.out.keep k67 (fun _ _ _ h => h))
  replace OL := hid (OL.out.keep k67 (fun _ _ _ h => h))
  replace OF := hid (OF.out.keep k67 (fun _ _ _ h => h))
  replace B5 := hid (Buf.keep B5.out k67 (fun h => h) (fun _ _ _ h => h))
  have K7 := hid (K6.out.trans k67)
  have z7 := k67.size
  clear hown hgrow HO6 S6 k67 K6
  go_wp2_with fail
  refine (NewReader_any _ _ en _ (own_row_sl OF.out) (by have := HML.out; omega) HMT.out).mono ?_
  rintro e w8 ⟨px, rfl, hx1, hx2, hk⟩
  have X8 := hid hx1
  have hpx := hx2
  replace OM := hid (OM.out.keep hk (fun _ _ _ h => h))
  replace OL := hid (OL.out.keep hk (fun _ _ _ h => h))
  replace OF := hid (OF.out.keep hk (fun _ _ _ h => h))
  replace SW := hid (SW.out.keep hk (fun _ _ _ h => h))
  replace B5 := hid (Buf.keep B5.out hk (fun h => h) (fun _ _ _ h => h))
  have K8 := hid (K7.out.trans hk)
  clear hx1 hx2 hk K7
  -- LOOPS
  have K9p := K8
  have zw8 := K8.out.size
  go_wp2_with fail
  go_loopw [11] (fun i wr => ∃ k : Nat, i = .int .i64 k ∧ k ≤ nb ∧ Hd (∃ ys : List Nat, Own (fun b => w.heap.size ≤ b ∧ b < w1.heap.size) wr 5 1 (.slice a3 nb c3) nb (u8s ys)) ∧ Hd (Keeps (fun b => w.heap.size ≤ b ∧ b < w1.heap.size) w8 wr)) (fun i _ => nb - (intOf i).toNat)
  case atStart => exact ⟨0, rfl, by omega, hid ⟨_, OM.out⟩, hid (Keeps.refl _ _)⟩
  case round =>
    obtain ⟨k, rfl, hkle, HO, HK⟩ := hrel
    by_cases hlt : k < nb
    · obtain ⟨ys, hown⟩ := HO.out
      have hyl : ys.length = nb := by have := hown.1.1; simpa using this
      obtain ⟨g, rfl⟩ : ∃ g, a3 = some ⟨g, 0, none⟩ := by
        rcases hown.1.2 with ⟨h, h0⟩ | ⟨g, cap, cur, h, _⟩
        · omega
        · exact ⟨g, by injection h with h _⟩
      have hg := hown.2 g rfl
      have hc : wr.cell? ⟨g, k, none⟩ = some (.int .u8 (ys.getD k 0 : Nat)) := by
        rw [hown.1.cellAt k (by omega), ← u8s_getD _ _ (by rw [hyl]; exact hlt), List.getD, List.getElem?_eq_getElem (by rw [u8s_length, hyl]; exact hlt)]; rfl
      have hf : wr.frozen? ⟨g, k, none⟩ = false := hown.1.frozenAt _
      have HST := hid (hown.1.stored k (.int .u8 ((ys.getD k 0 + 1) % 256 : Nat)))
      have HSE : Hd ((u8s ys).set k (.int .u8 ((ys.getD k 0 + 1) % 256 : Nat)) = u8s (ys.set k ((ys.getD k 0 + 1) % 256))) := hid (by simp [u8s, List.map_set])
      generalize ys.getD k 0 = y at *
      have hcast : (((y + 1) % 256 : Nat) : Int) = ((y : Int) + 1) % 256 := by omega
      rw [hcast] at HST HSE
      clear hcast
      clear hown
      have k0 : (0 : Int) ≤ k := by omega
      have k1 : (k : Int) < nb := by omega
      go_wp2
      go_roundw
      case rel =>
        exact ⟨k + 1, by go_num, by omega, hid ⟨_, by have hs := HST.out.1; rw [HSE.out] at hs; exact ⟨hs, fun b hb => by injection hb with hb; subst hb; exact hg⟩⟩, hid (HK.out.trans (keeps_set _ _ _ _ hg))⟩
      case measure => simp [intOf]; omega
    · have hkn : k = nb := by omega
      clear hkn
      have hk2 : (nb : Int) ≤ k := by omega
      have hk := HK.out
      have zr := hk.size
      replace OL := hid (OL.out.keep hk (fun _ _ h1 h2 => by omega))
      replace OF := hid (OF.out.keep hk (fun _ _ h1 h2 => by omega))
      replace SW := hid (SW.out.keep hk (fun _ _ h1 h2 => by omega))
      replace B5 := hid (Buf.keep B5.out hk (fun h => by omega) (fun _ _ h1 h2 => by omega))
      replace X8 := hid (Rd.keep X8.out hk (fun h => by omega) (fun _ _ h1 h2 => by omega))
      have K9 : Hd (Keeps (fun _ => False) w wr) := hid (K9p.out.trans' hk (fun i hi hs => by omega))
      clear hk HO HK zr
      generalize wr = w9 at *
      have K10p := K9
      go_wp2_with fail
      go_loopw [12] (fun i wr => ∃ k : Nat, i = .int .i64 k ∧ k ≤ nl ∧ Hd (∃ ys : List Int, Own (fun b => w1.heap.size ≤ b ∧ b < w2.heap.size) wr 3 1 (.slice a4 nl c4) nl (i64s ys)) ∧ Hd (Keeps (fun b => w1.heap.size ≤ b ∧ b < w2.heap.size) w9 wr)) (fun i _ => nl - (intOf i).toNat)
      case atStart => exact ⟨0, rfl, by omega, hid ⟨_, OL.out⟩, hid (Keeps.refl _ _)⟩
      case round =>
        obtain ⟨k, rfl, hkle, HO, HK⟩ := hrel
        by_cases hlt : k < nl
        · obtain ⟨ys, hown⟩ := HO.out
          have hyl : ys.length = nl := by have := hown.1.1; simpa using this
          obtain ⟨g, rfl⟩ : ∃ g, a4 = some ⟨g, 0, none⟩ := by
            rcases hown.1.2 with ⟨h, h0⟩ | ⟨g, cap, cur, h, _⟩
            · omega
            · exact ⟨g, by injection h with h _⟩
          have hg := hown.2 g rfl
          have hc : wr.cell? ⟨g, k, none⟩ = some (.int .i64 (ys.getD k 0)) := by
            rw [hown.1.cellAt k (by omega), ← i64s_getD _ _ (by rw [hyl]; exact hlt), List.getD, List.getElem?_eq_getElem (by rw [i64s_length, hyl]; exact hlt)]; rfl
          have hf : wr.frozen? ⟨g, k, none⟩ = false := hown.1.frozenAt _
          have HST := hid (hown.1.stored k (.int .i64 1))
          have HSE : Hd ((i64s ys).set k (.int .i64 1) = i64s (ys.set k 1)) := hid (by simp [i64s, List.map_set])
          clear hown
          have k0 : (0 : Int) ≤ k := by omega
          have k1 : (k : Int) < nl := by omega
          go_wp2
          go_roundw
          case rel =>
            exact ⟨k + 1, by go_num, by omega, hid ⟨_, by have hs := HST.out.1; rw [HSE.out] at hs; exact ⟨hs, fun b hb => by injection hb with hb; subst hb; exact hg⟩⟩, hid (HK.out.trans (keeps_set _ _ _ _ hg))⟩
          case measure => simp [intOf]; omega
        · have hkn : k = nl := by omega
          clear hkn
          have hk2 : (nl : Int) ≤ k := by omega
          have hk := HK.out
          have zr := hk.size
          replace OF := hid (OF.out.keep hk (fun _ _ h1 h2 => by omega))
          replace SW := hid (SW.out.keep hk (fun _ _ h1 h2 => by omega))
          replace B5 := hid (Buf.keep B5.out hk (fun h => by omega) (fun _ _ h1 h2 => by omega))
          replace X8 := hid (Rd.keep X8.out hk (fun h => by omega) (fun _ _ h1 h2 => by omega))
          have K10 : Hd (Keeps (fun _ => False) w wr) := hid (K10p.out.trans' hk (fun i hi hs => by omega))
          clear hk HO HK zr
          generalize wr = w10 at *
          have K11p := K10
          go_wp2_with fail
          go_loopw [13] (fun i wr => ∃ k : Nat, i = .int .i64 k ∧ k ≤ n5 ∧ Hd (∃ ys : List Nat, Own (fun b => w5.heap.size ≤ b ∧ b < w6.heap.size) wr 5 1 (.slice a5 n5 c5) n5 (u8s ys)) ∧ Hd (Keeps (fun b => w5.heap.size ≤ b ∧ b < w6.heap.size) w10 wr)) (fun i _ => n5 - (intOf i).toNat)
          case atStart => exact ⟨0, rfl, by omega, hid ⟨_, OF.out⟩, hid (Keeps.refl _ _)⟩
          case round =>
            obtain ⟨k, rfl, hkle, HO, HK⟩ := hrel
            by_cases hlt : k < n5
            · obtain ⟨ys, hown⟩ := HO.out
              have hyl : ys.length = n5 := by have := hown.1.1; simpa using this
              obtain ⟨g, rfl⟩ : ∃ g, a5 = some ⟨g, 0, none⟩ := by
                rcases hown.1.2 with ⟨h, h0⟩ | ⟨g, cap, cur, h, _⟩
                · omega
                · exact ⟨g, by injection h with h _⟩
              have hg := hown.2 g rfl
              have hc : wr.cell? ⟨g, k, none⟩ = some (.int .u8 (ys.getD k 0 : Nat)) := by
                rw [hown.1.cellAt k (by omega), ← u8s_getD _ _ (by rw [hyl]; exact hlt), List.getD, List.getElem?_eq_getElem (by rw [u8s_length, hyl]; exact hlt)]; rfl
              have hf : wr.frozen? ⟨g, k, none⟩ = false := hown.1.frozenAt _
              have HST := hid (hown.1.stored k (.int .u8 ((ys.getD k 0 + 1) % 256 : Nat)))
              have HSE : Hd ((u8s ys).set k (.int .u8 ((ys.getD k 0 + 1) % 256 : Nat)) = u8s (ys.set k ((ys.getD k 0 + 1) % 256))) := hid (by simp [u8s, List.map_set])
              generalize ys.getD k 0 = y at *
              have hcast : (((y + 1) % 256 : Nat) : Int) = ((y : Int) + 1) % 256 := by omega
              rw [hcast] at HST HSE
              clear hcast
              clear hown
              have k0 : (0 : Int) ≤ k := by omega
              have k1 : (k : Int) < n5 := by omega
              go_wp2
              go_roundw
              case rel =>
                exact ⟨k + 1, by go_num, by omega, hid ⟨_, by have hs := HST.out.1; rw [HSE.out] at hs; exact ⟨hs, fun b hb => by injection hb with hb; subst hb; exact hg⟩⟩, hid (HK.out.trans (keeps_set _ _ _ _ hg))⟩
              case measure => simp [intOf]; omega
            · have hkn : k = n5 := by omega
              clear hkn
              have hk2 : (n5 : Int) ≤ k := by omega
              have hk := HK.out
              have zr := hk.size
              replace SW := hid (SW.out.keep hk (fun _ _ h1 h2 => by omega))
              replace B5 := hid (Buf.keep B5.out hk (fun h => by omega) (fun _ _ h1 h2 => by omega))
              replace X8 := hid (Rd.keep X8.out hk (fun h => by omega) (fun _ _ h1 h2 => by omega))
              have K11 : Hd (Keeps (fun _ => False) w wr) := hid (K11p.out.trans' hk (fun i hi hs => by omega))
              clear hk HO HK zr
              generalize wr = w11 at *
              have zpx := X8.out.lt
              go_wp2_with fail
              refine (RBytes_any _ px nb (0, en) _ X8.out (by omega)).mono ?_
              unfold RBPost
              rw [HSB.out]
              rintro e w12 ⟨a6, n6, c6, rfl, hn6, ho6, hr6, hk⟩
              have hn6b : n6 = nb := by rw [hn6]; exact HNB.out
              subst hn6b
              have OG : Hd (Own (fun b => w11.heap.size ≤ b ∧ b < w12.heap.size) w12 5 1 (.slice a6 n6 c6) n6 (u8s b)) := hid (own_le ho6)
              have X12 := hid hr6
              have zw12 := hk.size
              replace SW := hid (SW.out.keep hk (fun _ _ h1 h2 => by omega))
              replace B5 := hid (Buf.keep B5.out hk (fun h => by omega) (fun _ _ h1 h2 => by omega))
              have K12 : Hd (Keeps (fun _ => False) w w12) := hid (K11.out.trans' hk (fun i hi hs => by omega))
              clear hn6 ho6 hr6 hk X8
              go_wp2_with fail
              refine (WDone_any _ w2.heap.size en _ B5.out (by have := HML.out; omega)).mono ?_
              rintro e w13 ⟨a8, n8, c8, rfl, hn8, ho8, hk⟩
              have SD := hid (row_sl ho8.row hn8.symm)
              replace SW := hid (SW.out.keep hk (fun _ _ _ h => h))
              replace OG := hid (OG.out.keep hk (fun _ _ _ h => h))
              replace X12 := hid (Rd.keep X12.out hk (fun h => h) (fun _ _ _ h => h))
              have K13 := hid (K12.out.trans hk)
              have zw13 := hk.size
              clear hn8 ho8 hk B5 K12
              go_wp2_with fail
              refine (sameB_true SD.out SW.out (by have := HML.out; omega)).mono ?_
              rintro e w14 ⟨rfl, hd⟩
              have hk := drawn_keeps (fun _ => False) hd
              replace OG := hid (OG.out.keep hk (fun _ _ _ h => h))
              replace X12 := hid (Rd.keep X12.out hk (fun h => h) (fun _ _ _ h => h))
              have K14 := hid (K13.out.trans hk)
              have zw14 := hk.size
              clear hd hk SD SW K13
              go_wp2_with fail
              refine (sameB_true (own_row_sl OG.out) (HV.out.keep K14.out (fun _ _ _ h => h)) (by rw [HNB.out]; omega)).mono ?_
              rintro e w15 ⟨rfl, hd⟩
              have hk := drawn_keeps (fun _ => False) hd
              replace OG := hid (OG.out.keep hk (fun _ _ _ h => h))
              replace X12 := hid (Rd.keep X12.out hk (fun h => h) (fun _ _ _ h => h))
              have K15 := hid (K14.out.trans hk)
              have zw15 := hk.size
              clear hd hk K14
              have K16p := K15
              have zA : w.heap.size ≤ w11.heap.size := K11.out.size
              go_wp2_with fail
              go_loopw [16] (fun i wr => ∃ k : Nat, i = .int .i64 k ∧ k ≤ n6 ∧ Hd (∃ ys : List Nat, Own (fun b => w11.heap.size ≤ b ∧ b < w12.heap.size) wr 5 1 (.slice a6 n6 c6) n6 (u8s ys)) ∧ Hd (Keeps (fun b => w11.heap.size ≤ b ∧ b < w12.heap.size) w15 wr)) (fun i _ => n6 - (intOf i).toNat)
              case atStart => exact ⟨0, rfl, by omega, hid ⟨_, OG.out⟩, hid (Keeps.refl _ _)⟩
              case round =>
                obtain ⟨k, rfl, hkle, HO, HK⟩ := hrel
                by_cases hlt : k < n6
                · obtain ⟨ys, hown⟩ := HO.out
                  have hyl : ys.length = n6 := by have := hown.1.1; simpa using this
                  obtain ⟨g, rfl⟩ : ∃ g, a6 = some ⟨g, 0, none⟩ := by
                    rcases hown.1.2 with ⟨h, h0⟩ | ⟨g, cap, cur, h, _⟩
                    · omega
                    · exact ⟨g, by injection h with h _⟩
                  have hg := hown.2 g rfl
                  have hc : wr.cell? ⟨g, k, none⟩ = some (.int .u8 (ys.getD k 0 : Nat)) := by
                    rw [hown.1.cellAt k (by omega), ← u8s_getD _ _ (by rw [hyl]; exact hlt), List.getD, List.getElem?_eq_getElem (by rw [u8s_length, hyl]; exact hlt)]; rfl
                  have hf : wr.frozen? ⟨g, k, none⟩ = false := hown.1.frozenAt _
                  have HST := hid (hown.1.stored k (.int .u8 ((ys.getD k 0 + 1) % 256 : Nat)))
                  have HSE : Hd ((u8s ys).set k (.int .u8 ((ys.getD k 0 + 1) % 256 : Nat)) = u8s (ys.set k ((ys.getD k 0 + 1) % 256))) := hid (by simp [u8s, List.map_set])
                  generalize ys.getD k 0 = y at *
                  have hcast : (((y + 1) % 256 : Nat) : Int) = ((y : Int) + 1) % 256 := by omega
                  rw [hcast] at HST HSE
                  clear hcast
                  clear hown
                  have k0 : (0 : Int) ≤ k := by omega
                  have k1 : (k : Int) < n6 := by omega
                  go_wp2
                  go_roundw
                  case rel =>
                    exact ⟨k + 1, by go_num, by omega, hid ⟨_, by have hs := HST.out.1; rw [HSE.out] at hs; exact ⟨hs, fun b hb => by injection hb with hb; subst hb; exact hg⟩⟩, hid (HK.out.trans (keeps_set _ _ _ _ hg))⟩
                  case measure => simp [intOf]; omega
                · have hkn : k = n6 := by omega
                  clear hkn
                  have hk2 : (n6 : Int) ≤ k := by omega
                  have hk := HK.out
                  have zr := hk.size
                  replace X12 := hid (Rd.keep X12.out hk (fun h => by omega) (fun _ _ h1 h2 => by omega))
                  have K16 : Hd (Keeps (fun _ => False) w wr) := hid (K16p.out.trans' hk (fun i hi hs => by omega))
                  clear hk HO HK zr
                  generalize wr = w16 at *
                  go_wp2_with fail
                  refine (RInts_any _ px nl (0, encL l) _ X12.out (by omega) (by have := HML.out; rw [← HEN.out] at this; rw [List.length_append] at this; simp only; omega)).mono ?_
                  unfold RLPost
                  rw [HSL.out]
                  rintro e w17 ⟨a9, n9, c9, rfl, hn9, ho9, hr9, hk⟩
                  have SI := hid (row_sl ho9.row (by rw [i64s_length]; exact hn9.symm))
                  have X17 := hid hr9
                  have K17 : Hd (Keeps (fun _ => False) w w17) := hid (K16.out.trans' hk (fun i hi hs => by omega))
                  clear hn9 ho9 hr9 hk
                  go_wp2_with fail
                  refine (sameI_true SI.out (HV2.out.keep K17.out (fun _ _ _ h => h)) (by rw [HNL.out]; omega)).mono ?_
                  rintro e w18 ⟨rfl, hd⟩
                  have hk := drawn_keeps (fun _ => False) hd
                  replace X17 := hid (Rd.keep X17.out hk (fun h => h) (fun _ _ _ h => h))
                  have K18 := hid (K17.out.trans hk)
                  clear hd hk
                  go_wp2_with fail
                  refine (REnd_any _ px (0, []) _ X17.out).mono ?_
                  rw [show sEnd (0, []) = 0 by simp [sEnd]]
                  rintro e w19 ⟨rfl, hd⟩
                  have K19 := hid (K18.out.trans (drawn_keeps (fun _ => False) hd))
                  clear hd
                  go_wp2_with fail
                  refine (lives_any _).mono ?_
                  rintro e w20 ⟨rfl, hk⟩
                  have K20 := hid (K19.out.trans hk)
                  clear hk
                  go_wp2
                  go_ret
                  exact ⟨rfl, K20.out⟩
end Go.Proofs.Ytlebocjcelbbpaa
