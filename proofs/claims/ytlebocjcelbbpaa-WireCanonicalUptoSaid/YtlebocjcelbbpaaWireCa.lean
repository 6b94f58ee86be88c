/- The walk of WireCanonical. -/
import Derived.Test.YtlebocjcelbbpaaWireCn
import Derived.Test.YtlebocjcelbbpaaAppStep
import Derived.Test.YtlebocjcelbbpaaRegion
namespace Go.Proofs.Ytlebocjcelbbpaa
open Go.RowKit
attribute [local go_sem ↓] Go.wp_at_zero Go.wp_at_succ
theorem infoItem : (Try.prog.info? 46).map (fun i => (i.zero, i.size, i.bytes)) = some (some (.agg #[.int .i64 0, .int .u64 0, .int .i64 0, .slice none 0 0, .slice none 0 0, .int .i64 0]), 6, 80) := by kernel_rfl
theorem own_none {S : Nat → Prop} {w : World} {e : TypeId} {size : Nat} {v : Value} {n : Nat} {xs : List Value} (h : Own S w e size v n xs) : Own (fun b => v.ownBlock = some b) w e size v n xs := ⟨h.1, fun _ hk => hk⟩
set_option maxRecDepth 100000 in set_option maxHeartbeats 1000000 in
theorem wireCanonical_any (v vl : Value) (bs : List Nat) (l : List It) (w : World) (hv : Sl (fun k => k < w.heap.size) w v (u8s bs)) (hm : bs.length ≤ 100000000) (hb : ∀ c ∈ bs, c < 256) (hl : Its (fun k => k < w.heap.size) w vl l) (hok : ∀ x ∈ l, x.ok) (hw : wts l ≤ 1000000000) :
    Calls Try.prog 11 #[v, vl] w fun e w' => e = .returned (.bool true) ∧ Keeps (fun _ => False) w w' := by
  have HV := hid hv; have HM := hid hm; have HB := hid hb; have HOK := hid hok
  obtain ⟨i6, hi, hz0, hz1, hz2⟩ := info_parts infoItem
  obtain ⟨a, cap, rfl, _, _, hx⟩ := hv.bytes
  clear hx
  obtain ⟨a2, cap2, rfl, hx⟩ := hl.at
  have HX := hid hx
  have hml : Hd (bs.length ≤ 140737488351232) := hid (by omega)
  have hnn : l.length ≤ 50000000 := by have := wts_len l; omega
  clear hx hv hb hl hm hok hw
  generalize hbl : bs.length = n at *
  have HBL := hid hbl; clear hbl
  generalize hll : l.length = m at *
  have HLL := hid hll; clear hll
  go_enter Try.func11, Try.ntmps11
  go_wp2_with fail
  refine (NewReader_any _ _ bs _ HV.out (by rw [HBL.out]; exact hml.out) HB.out).mono ?_
  rintro e w1 ⟨px, rfl, h1, h2, h3⟩
  have X1 := hid h1; have K1 := hid h3
  have hpx := h2
  clear h1 h2 h3
  go_wp2_with fail
  go_loopw [6, 7] (fun o i wr => ∃ (k : Nat) (ag : Option Addr) (ng cg : Nat) (s : St) (rds : List It) (xs : List Value), i = .int .i64 k ∧ o = .slice ag ng cg ∧ k ≤ m ∧ ng = k ∧ Hd (rds.length = k) ∧ Hd (Rd (fun k => w.heap.size ≤ k ∧ k < px) wr px s) ∧ Hd (s.2.length ≤ 100000000) ∧ Hd (canSt bs rds s)
      ∧ Hd (Own (fun b => (Value.slice ag ng cg).ownBlock = some b) wr 46 6 (.slice ag ng cg) ng xs) ∧ Hd (∀ b, (Value.slice ag ng cg).ownBlock = some b → px < b)
      ∧ Hd (∀ i (hi : i < rds.length), ItCells (fun b => px < b ∧ (Value.slice ag ng cg).ownBlock ≠ some b) wr (fun j => xs.getD (i * 6 + j) undef) rds[i]) ∧ Hd (Keeps (fun _ => False) w wr)) (fun _ i _ => m - (intOf i).toNat)
  case atStart => exact ⟨0, none, 0, 0, (0, bs), [], [], rfl, rfl, by omega, rfl, hid rfl, X1, hid (by show bs.length ≤ _; rw [HBL.out]; exact HM.out), hid (canSt_zero HB.out), hid (own_none (Own.nil (fun _ => True) _ _ _)), hid (fun b h => by simp [Value.ownBlock] at h), hid (fun i hi => by simp at hi), K1⟩
  case round =>
    clear X1 K1
    obtain ⟨k, ag, ng, cg, s, rds, xs, rfl, rfl, hk, hng, hrl, X5, hsl, hcs, HO, HOP, HIC, K0⟩ := hrel
    subst hng
    by_cases hkm : ng < m
    · obtain ⟨x, b, o, ab, cb, al, cl, hxk, hxm, rfl, hb0, e0, e1, e2, e3, e4, e5, hb, hl⟩ := HX.out ng hkm
      have k1 : (ng : Int) < m := by omega
      have k2 : (0 : Int) ≤ ng := by omega
      have f0 := keep_cell K0.out (fun h => h) e0
      have f1 := keep_cell K0.out (fun h => h) e1
      have f2 := keep_cell K0.out (fun h => h) e2
      have f3 := keep_cell K0.out (fun h => h) e3
      have f4 := keep_cell K0.out (fun h => h) e4
      have f5 := keep_cell K0.out (fun h => h) e5
      have hpz : px < wr.heap.size := X5.out.lt
      have HXO := hid (HOK.out _ hxm)
      have HWX : Hd (x.most ≤ 9223372036854775807) := hid HXO.out.2.2.2.2.2.2
      have HLX : Hd (s.2.length ≤ 1000000000000) := hid (by have := hsl.out; omega)
      obtain ⟨s', r, hrd⟩ : ∃ s' r, rdIt x.kind x.most s = (s', r) := ⟨_, _, rfl⟩
      have HRD := hid hrd
      have HSL' : Hd (s'.2.length ≤ 100000000) := hid (by have := rdIt_rest x.kind x.most s; rw [hrd] at this; exact Nat.le_trans this hsl.out)
      have HCS : Hd (canSt bs (rds ++ [r]) s') := hid (by have := canSt_succ (most := x.most) hcs.out HXO.out.1; rw [hrd] at this; exact this)
      have HSS : Hd (∀ w', Keeps (fun b => w.heap.size ≤ b) wr w' → (w'.cell? ⟨b, o + ng * 6, none⟩ = some (.int .i64 x.kind) ∧ w'.cell? ⟨b, o + ng * 6 + 1, none⟩ = some (.int .u64 (x.u : Nat)) ∧ w'.cell? ⟨b, o + ng * 6 + 2, none⟩ = some (.int .i64 x.n) ∧ w'.cell? ⟨b, o + ng * 6 + 3, none⟩ = some (.slice ab x.b.length cb) ∧ w'.cell? ⟨b, o + ng * 6 + 4, none⟩ = some (.slice al x.l.length cl) ∧ w'.cell? ⟨b, o + ng * 6 + 5, none⟩ = some (.int .i64 x.most))) :=
        hid (fun w' hk => ⟨keep_cell hk (by omega) f0, keep_cell hk (by omega) f1, keep_cell hk (by omega) f2, keep_cell hk (by omega) f3, keep_cell hk (by omega) f4, keep_cell hk (by omega) f5⟩)
      clear e0 e1 e2 e3 e4 e5 f0 f1 f2 f3 f4 f5 hb hl hxk hxm hrd
      have L5 : Hd (Keeps (fun _ => False) wr wr) := hid (Keeps.refl _ _)
      go_upto_region 8 with fail
      go_region_held_law (fun w' => w'.cell? ⟨b, o + ng * 6, none⟩ = some (.int .i64 x.kind) ∧ w'.cell? ⟨b, o + ng * 6 + 1, none⟩ = some (.int .u64 (x.u : Nat)) ∧ w'.cell? ⟨b, o + ng * 6 + 2, none⟩ = some (.int .i64 x.n) ∧ w'.cell? ⟨b, o + ng * 6 + 3, none⟩ = some (.slice ab x.b.length cb) ∧ w'.cell? ⟨b, o + ng * 6 + 4, none⟩ = some (.slice al x.l.length cl) ∧ w'.cell? ⟨b, o + ng * 6 + 5, none⟩ = some (.int .i64 x.most)) ((refine HSS.out _ ?_; repeat (first | (with_reducible exact K7.out) | (with_reducible exact K6.out) | (with_reducible exact (L5.out.mono (fun _ _ h => h.elim))) | (with_reducible exact Keeps.refl _ _) | (with_reducible apply Keeps.drewN) | (with_reducible apply Keeps.drew) | (with_reducible apply Keeps.alloc))))
        (first
        | (refine step_append_row rfl (.tmp 18) (.tmp 30) 39 rfl 46 i6 _ 6 80 Try.underlying39 hi hz0 hz1 hz2 rfl (by decide) (fun b => (Value.slice ag ng cg).ownBlock = some b) (.slice ag ng cg) ng xs (by simp [Act.eval, Act.put]) ((HO.out.keep KP.out (fun b _ h1 h2 => by have := HOP.out b h1; omega)).alloc _) ⟨w6.heap.size, 0, none⟩ 1 1 [.int .i64 r.kind, .int .u64 (r.u : Nat), .int .i64 r.n, .slice ab6 nb6 cb6, .slice al6 nl6 cl6, .int .i64 r.most] (by simp [Act.eval, Act.put]) rfl (lit_src w6 _ _) (by intro u hu; simp at hu; rcases hu with rfl | rfl | rfl | rfl | rfl | rfl <;> rfl) (by simp [maxLen]; omega) (by omega) ?_; intro a7 c7 w7 hown7 hgrow; have K7 : Hd (Keeps (fun b => w.heap.size ≤ b) wr w7) := hid ((K6.out.alloc _).trans' hgrow (fun b _ h => by have := HOP.out b h; omega)); replace hown7 := hid hown7; replace hgrow := hid hgrow)
        | (go_at_call 31; refine (read_any (fun k => w.heap.size ≤ k ∧ k < px) px s _ _ _ _ x.most _ _ _ _ _ _ _ (Rd.keep (S := fun _ => False) X5.out (by repeat (first | (with_reducible exact L5.out) | (with_reducible exact Keeps.refl _ _) | (with_reducible apply Keeps.drewN) | (with_reducible apply Keeps.drew) | (with_reducible apply Keeps.alloc))) (fun h => h) (fun _ _ _ h => h)) HWX.out HLX.out).mono ?_; unfold ReadPost; rw [HRD.out]; rintro e w6 ⟨vr, rfl, ⟨ab6, nb6, cb6, al6, nl6, cl6, rfl, hb6, hl6⟩, hr6, hk⟩; have KP : Hd (Keeps (fun b => b = px) wr w6) := hid (Keeps.trans' (S := fun b => b = px) (Keeps.drew (Keeps.refl _ _)) hk (fun _ _ h => h)); have K6 : Hd (Keeps (fun b => w.heap.size ≤ b) wr w6) := hid (KP.out.mono (fun _ _ h => by omega)); replace hb6 := hid hb6; replace hl6 := hid hl6; replace hr6 := hid hr6; clear hk))
      all_goals
        have zP := KP.out.size
        have hown8 := hid (own_none hown7.out)
        have HOP' : Hd (∀ b, (Value.slice a7 (ng + 1) c7).ownBlock = some b → px < b) := hid (fun b hb => by
          rcases hown7.out.2 b hb with h | h
          · exact HOP.out b h
          · simp at h; omega)
        have X7 : Hd (Rd (fun k => w.heap.size ≤ k ∧ k < px) w7 px s') := hid (Rd.keep (Rd.keep hr6.out (keeps_alloc (fun _ => False) w6 _) (fun h => h) (fun _ _ _ h => h)) hgrow.out (fun h => by have := HOP.out px h; omega) (fun b _ h1 h2 => by have := HOP.out b h2; omega))
        have K8 : Hd (Keeps (fun _ => False) w w7) := hid (((K0.out.trans' KP.out (fun i hi h => by omega)).alloc _).trans' hgrow.out (fun i hi h => by have := HOP.out i h; have := K0.out.size; omega))
        have hxl : xs.length = rds.length * 6 := by rw [hrl.out]; exact HO.out.1.1
        have HIC' : Hd (∀ i (hi : i < (rds ++ [r]).length), ItCells (fun b => px < b ∧ (Value.slice a7 (ng + 1) c7).ownBlock ≠ some b) w7 (fun j => (xs ++ ([Value.int .i64 r.kind, .int .u64 (r.u : Nat), .int .i64 r.n, .slice ab6 nb6 cb6, .slice al6 nl6 cl6, .int .i64 r.most] : List Value)).getD (i * 6 + j) undef) (rds ++ [r])[i]) := hid (by
          have old : ∀ b, (Value.slice a7 (ng + 1) c7).ownBlock = some b → (Value.slice ag ng cg).ownBlock = some b ∨ w6.heap.size < b := fun b hb => by
            rcases hown7.out.2 b hb with h | h
            · exact .inl h
            · right; simp at h; omega
          have lt0 : ∀ b, (Value.slice ag ng cg).ownBlock = some b → b < wr.heap.size := fun b hb => (HO.out.1.lt b hb).2
          refine its_push hxl HIC.out (fun v ys h => ?_) ?_
          · have h1 := h.mono (K' := fun b => (px < b ∧ (Value.slice ag ng cg).ownBlock ≠ some b) ∧ b < wr.heap.size) (fun b h1 h2 => ⟨h2, h1⟩)
            have h2 := ((h1.keep KP.out (fun b _ h1 h2 => by omega)).keep (keeps_alloc (fun _ => False) w6 _) (fun _ _ _ h => h)).keep hgrow.out (fun b _ h1 h2 => h1.1.2 h2)
            refine h2.mono (fun b _ h => ⟨h.1.1, fun ho => ?_⟩)
            rcases old b ho with h3 | h3
            · exact h.1.2 h3
            · omega
          · have key : ∀ (v : Value) (ys : List Value), Sl (fun b => wr.heap.size ≤ b) w6 v ys → Sl (fun b => px < b ∧ (Value.slice a7 (ng + 1) c7).ownBlock ≠ some b) w7 v ys := fun v ys h => by
              have h1 := h.mono (K' := fun b => wr.heap.size ≤ b ∧ b < w6.heap.size) (fun b h1 h2 => ⟨h2, h1⟩)
              have h2 := (h1.keep (keeps_alloc (fun _ => False) w6 _) (fun _ _ _ h => h)).keep hgrow.out (fun b _ h1 h2 => by have := lt0 b h2; omega)
              refine h2.mono (fun b _ h => ⟨by omega, fun ho => ?_⟩)
              rcases old b ho with h3 | h3
              · have := lt0 b h3; omega
              · omega
            exact ⟨rfl, rfl, rfl, key _ _ hb6.out, key _ _ hl6.out, rfl⟩)
        have HRL : Hd ((rds ++ [r]).length = ng + 1) := hid (by rw [List.length_append, hrl.out]; rfl)
        clear hown7 hgrow HIC HO HOP hrl hcs HSS
        go_wp2
        go_roundw
        case rel => exact ⟨ng + 1, a7, ng + 1, c7, s', rds ++ [r], _, by go_num, rfl, by omega, rfl, HRL, X7, HSL', HCS, hown8, HOP', HIC', K8⟩
        case measure => simp [intOf]; omega
    · have hkn : ng = m := by omega
      subst hkn
      clear hkm
      go_wp2_with fail
      refine (REnd_any _ px _ _ X5.out).mono ?_
      rintro e w6 ⟨rfl, hd⟩
      have kd := drawn_keeps (fun _ => False) hd
      have K6 := hid (K0.out.trans kd)
      by_cases he : sEnd s = 0
      · have HCE := hid (canSt_end hcs.out he)
        have HITS : Hd (Its (fun b => b < w6.heap.size) w6 (.slice ag ng cg) rds) := hid ⟨xs, by rw [hrl.out]; exact (HO.out.row.keep kd (fun _ _ _ h => h)).mono (fun b h _ => h), fun i hi => by
          obtain ⟨c0, c1, c2, c3, c4, c5⟩ := HIC.out i hi
          exact ⟨c0, c1, c2, (c3.keep kd (fun _ _ _ h => h)).mono (fun b h _ => h), (c4.keep kd (fun _ _ _ h => h)).mono (fun b h _ => h), c5⟩⟩
        rw [he]
        clear hd kd
        go_wp2_with fail
        refine (written_any _ _ rds _ HITS.out (fun _ h => h) (fun x hx => (hcs.out.2 x hx).1) (by have h1 := HCE.out.2; rw [hrl.out, HBL.out] at h1; have := HM.out; omega)).mono ?_
        rintro e w7 ⟨a7, n7, c7, rfl, hn7, ho7, hk⟩
        have S7 : Hd (Sl (fun k => w6.heap.size ≤ k) w7 (.slice a7 n7 c7) (u8s bs)) := hid (by have := row_sl ho7.row hn7.symm; rw [← HCE.out.1] at this; exact this)
        have K7 := hid (K6.out.trans hk)
        clear hn7 ho7 hk
        go_wp2_with fail
        refine (sameB_true S7.out (HV.out.keep K7.out (fun _ _ _ h => h)) (by rw [HBL.out]; have := HM.out; omega)).mono ?_
        rintro e w8 ⟨rfl, hd⟩
        have K8 := hid (K7.out.trans (drawn_keeps (fun _ => False) hd))
        clear hd
        go_wp2_with fail
        refine (lives_any _).mono ?_
        rintro e w9 ⟨rfl, hk⟩
        have K9 := hid (K8.out.trans hk)
        clear hk
        go_wp2
        go_ret
        exact ⟨rfl, K9.out⟩
      · have hq : (sEnd s != 0) = true := by simp; exact he
        clear hd kd he
        go_wp2_with fail
        refine (lives_any _).mono ?_
        rintro e w9 ⟨rfl, hk⟩
        have K9 := hid (K6.out.trans hk)
        clear hk
        go_wp2
        go_ret
        exact ⟨rfl, K9.out⟩
end Go.Proofs.Ytlebocjcelbbpaa
