/- Link: the generator Fates. -/
import Derived.Test.YtjapmpolagblaaaLinkT
namespace Go.Proofs.Ytjapmpolagblaaa
open Go.RowKit
attribute [local go_sem ↓] Go.wp_at_zero Go.wp_at_succ
theorem FlC.mono {K K' : Nat → Prop} {w : World} {xs : List Value} {l : List Flt} (h : FlC K w xs l) (hd : ∀ b, b < w.heap.size → K b → K' b) : FlC K' w xs l := ⟨h.1, fun i x hi => (h.2 i x hi).mono hd⟩
theorem infoFt : (Try.prog.info? 64).map (fun i => (i.size, i.bytes)) = some (5, 56) := by kernel_rfl
theorem infoFtz : ((Try.prog.info? 64).bind (·.zero)).map (fun z => z.cells) = some #[.int .i64 0, .int .i64 0, .int .i64 0, .int .i64 0, .slice none 0 0] := by kernel_rfl
theorem ft_parts : ∃ i z, Try.prog.info? 64 = some i ∧ i.zero = some z ∧ i.size = 5 ∧ i.bytes = 56 ∧ z.cells.size = 5 := by
  obtain ⟨i, hi, h1⟩ := Option.map_eq_some_iff.1 infoFt
  have h2 := infoFtz
  rw [hi] at h2
  obtain ⟨z, hz, h3⟩ := Option.map_eq_some_iff.1 h2
  simp only [Prod.mk.injEq] at h1
  exact ⟨i, z, hi, hz, h1.1, h1.2, by rw [h3]; rfl⟩
/-- fates in a row of the call's own, with bytes of its own -/
def FtO (B : Nat) (w : World) (v : Value) (l : List Ft) : Prop :=
  ∃ xs, Own (fun b => v.ownBlock = some b) w 64 5 v l.length xs ∧ (∀ b, v.ownBlock = some b → B ≤ b) ∧ FlC (fun b => B ≤ b ∧ v.ownBlock ≠ some b) w xs (l.map Ft.fl)
theorem FtO.nil (B : Nat) (w : World) : FtO B w (.slice none 0 0) [] := ⟨[], Own.nil _ _ _ _, fun b h => by simp [Value.ownBlock] at h, FlC.nil _ _⟩
theorem fto_app {B : Nat} {wr w6 V w7 : World} {v v7 : Value} {l : List Ft} {x : Ft} {a6 : Option Addr} {c6 : Nat} {xs : List Value} (hB : B ≤ wr.heap.size)
    (ho : Own (fun b => v.ownBlock = some b) wr 64 5 v l.length xs) (hge : ∀ b, v.ownBlock = some b → B ≤ b) (hc : FlC (fun b => B ≤ b ∧ v.ownBlock ≠ some b) wr xs (l.map Ft.fl))
    (h6 : Keeps (fun _ => False) wr w6) (hV : Keeps (fun _ => False) w6 V) (hs : Sl (fun b => wr.heap.size ≤ b) w6 (.slice a6 x.fg.length c6) (u8s x.fg))
    (h7 : Own (fun k => v.ownBlock = some k ∨ V.heap.size ≤ k) w7 64 5 v7 (l.length + 1) (xs ++ [.int .i64 x.m, .int .i64 x.k, .int .i64 x.dl, .int .i64 x.a, .slice a6 x.fg.length c6])) (hk7 : Keeps (fun b => v.ownBlock = some b) V w7) :
    FtO B w7 v7 (l ++ [x]) := by
  have z6 := h6.size
  have zV := hV.size
  have hk : Keeps (fun b => v.ownBlock = some b) wr w7 := ((h6.trans hV).mono (fun _ _ h => h.elim)).trans hk7
  refine ⟨_, ⟨by rw [List.length_append]; exact h7.1, fun _ h => h⟩, fun b hb => ?_, ?_⟩
  · rcases h7.2 b hb with h | h
    · exact hge b h
    · omega
  · rw [List.map_append]
    refine FlC.app ?_ ?_ rfl
    · refine (hc.mono (K' := fun b => B ≤ b ∧ v7.ownBlock ≠ some b ∧ v.ownBlock ≠ some b) (fun b hb h => ⟨h.1, fun e => ?_, h.2⟩)).keep hk (fun b _ h1 h2 => h1.2.2 h2) |>.mono (fun b _ h => ⟨h.1, h.2.1⟩)
      rcases h7.2 b e with h' | h'
      · exact h.2 h'
      · omega
    · refine ⟨rfl, rfl, rfl, rfl, ?_⟩
      have h1 := hs.mono (K' := fun b => B ≤ b ∧ v7.ownBlock ≠ some b ∧ v.ownBlock ≠ some b) (fun b hb h => ⟨by omega, fun e => by
        rcases h7.2 b e with h' | h'
        · have := (ho.1.lt b h').2; omega
        · omega, fun e => by have := (ho.1.lt b e).2; omega⟩)
      exact ((h1.keep hV (fun _ _ _ h => h)).keep hk7 (fun b _ h1 h2 => h1.2.2 h2)).mono (fun b _ h => ⟨h.1, h.2.1⟩)
def Ft.ok (x : Ft) : Prop := x.fg.length ≤ 100 ∧ ∀ c ∈ x.fg, c < 256
def FatesPost (w : World) (r : Ending) (w' : World) : Prop := ∃ (a : Option Addr) (n c : Nat) (fts : List Ft), r = .returned (.slice a n c) ∧ n = fts.length ∧ fts.length ≤ 6 ∧ Fts (fun b => w.heap.size ≤ b) w' (.slice a n c) fts ∧ (∀ x ∈ fts, x.ok) ∧ Keeps (fun _ => False) w w'
def FatesCut (w : World) (k : Nat) (fts : List Ft) (u : Value) (wx : World) : Prop := ∃ (a : Option Addr) (c : Nat) (x : Ft), u = .slice a (k + 1) c ∧ FtO w.heap.size wx (.slice a (k + 1) c) (fts ++ [x]) ∧ x.ok ∧ Keeps (fun _ => False) w wx
set_option maxRecDepth 100000 in set_option maxHeartbeats 1000000 in
theorem Fates_any (v vf : Value) (m : Nat) (fgl : List Nat) (w : World) (hv : ArrS 4 (fun b => b < w.heap.size) w v m) (hf : Sl (fun b => b < w.heap.size) w vf (u8s fgl)) (hf8 : ∀ c ∈ fgl, c < 256) :
    Calls Try.prog 12 #[v, vf] w fun e w' => FatesPost w e w' := by
  obtain ⟨i0, z, hi, hz0, hz1, hz2, hz3⟩ := ft_parts
  obtain ⟨sa, cap, rfl, hcap, hcm, hel⟩ := hv
  obtain ⟨af, cf, rfl, -⟩ := hf.bytes
  unfold maxLen at hcm
  have HEL := hid hel
  obtain ⟨fg, hfg⟩ : ∃ fg, fgl.take 100 = fg := ⟨_, rfl⟩
  have HFK : Hd (fg.length ≤ 100 ∧ ∀ c ∈ fg, c < 256) := hid (by rw [← hfg]; exact ⟨by rw [List.length_take]; omega, fun c hc => hf8 c (List.mem_of_mem_take hc)⟩)
  have HFW : Hd (∀ V, Keeps (fun _ => False) w V → Calls Try.prog 26 #[.slice af fgl.length cf, .int .i64 100] V fun e w' => NewRet V 5 (u8s fg) e w') := hid (fun V hk => by
    have := Few_any _ _ fgl 100 V (hf.keep hk (fun _ _ _ h => h)) (by omega) (by rw [List.length_take]; omega)
    rw [← hfg]; exact this)
  clear hel hf hf8 hfg
  generalize fgl.length = nf at *
  go_enter Try.func12, Try.ntmps12
  go_wp2_with fail
  go_loopw [5, 6] (fun o i wr => ∃ (k : Nat) (a : Option Addr) (c : Nat) (fts : List Ft), o = .slice a k c ∧ i = .int .i64 k ∧ k ≤ m ∧ k ≤ 6 ∧ Hd (fts.length = k) ∧ Hd (∀ x ∈ fts, x.ok) ∧ Hd (FtO w.heap.size wr (.slice a k c) fts) ∧ Hd (Keeps (fun _ => False) w wr)) (fun _ i _ => m - (intOf i).toNat)
  case atStart => exact ⟨0, none, 0, [], rfl, rfl, Nat.zero_le _, Nat.zero_le _, hid rfl, hid (by simp), hid (FtO.nil _ _), hid (Keeps.refl _ _)⟩
  case round =>
    obtain ⟨k, a, c, fts, rfl, rfl, hk, hk6, HLN, HOK, HO, KR⟩ := hrel
    have zr := KR.out.size
    by_cases hkm : k < m ∧ k < 6
    · obtain ⟨h1, h2⟩ := hkm
      obtain ⟨b, o, rfl, hbw, -, hc4⟩ := HEL.out k h1
      obtain ⟨z0, y0, q0, r0⟩ := hc4 0 (by omega)
      obtain ⟨z1, y1, q1, r1⟩ := hc4 1 (by omega)
      obtain ⟨z2, y2, q2, r2⟩ := hc4 2 (by omega)
      obtain ⟨z3, y3, q3, r3⟩ := hc4 3 (by omega)
      have HSS : Hd (∀ w', Keeps (fun b => w.heap.size ≤ b) wr w' → (w'.cell? ⟨b, o + k * 4, none⟩ = some (.int .i64 z0) ∧ w'.cell? ⟨b, o + k * 4 + 1, none⟩ = some (.int .i64 z1) ∧ w'.cell? ⟨b, o + k * 4 + 2, none⟩ = some (.int .i64 z2) ∧ w'.cell? ⟨b, o + k * 4 + 3, none⟩ = some (.int .i64 z3))) :=
        hid (fun w' hk => ⟨keep_cell hk (fun h => by omega) (keep_cell KR.out (fun h => h) y0), keep_cell hk (fun h => by omega) (keep_cell KR.out (fun h => h) y1), keep_cell hk (fun h => by omega) (keep_cell KR.out (fun h => h) y2), keep_cell hk (fun h => by omega) (keep_cell KR.out (fun h => h) y3)⟩)
      have B1 := hid q0; have B2 := hid r0
      clear y0 y1 y2 y3 q0 q1 q2 q3 r0 r1 r2 r3 hc4
      obtain ⟨xs, ho, hge, hcc⟩ := HO.out
      rw [HLN.out] at ho
      have HOW := hid ho; have HGE := hid hge; have HCC := hid hcc
      clear ho hge hcc HO
      have k1 : (k : Int) < m := by omega
      have k2 : (0 : Int) ≤ k := by omega
      have k3 : (k : Int) < 6 := by omega
      have KC : Hd (Keeps (fun _ => False) wr wr) := hid (Keeps.refl _ _)
      go_upto_region 5 with fail
      go_region_held_law (fun w' => w'.cell? ⟨b, o + k * 4, none⟩ = some (.int .i64 z0) ∧ w'.cell? ⟨b, o + k * 4 + 1, none⟩ = some (.int .i64 z1) ∧ w'.cell? ⟨b, o + k * 4 + 2, none⟩ = some (.int .i64 z2) ∧ w'.cell? ⟨b, o + k * 4 + 3, none⟩ = some (.int .i64 z3)) (exact HSS.out _ (by first | (refine Keeps.mono (S := fun _ => False) ?_ (fun _ _ h => h.elim); (repeat (first | (with_reducible exact KC.out) | (with_reducible exact Keeps.refl _ _) | (with_reducible apply Keeps.drewN) | (with_reducible apply Keeps.drew) | (with_reducible apply Keeps.alloc))); done) | (repeat (first | (with_reducible exact K7.out) | (with_reducible exact Keeps.refl _ _) | (with_reducible apply Keeps.drewN) | (with_reducible apply Keeps.drew) | (with_reducible apply Keeps.alloc)))))
          (first
          | (go_at_call 6; refine (Around_any _ _ _ B1.out B2.out (by omega) (by omega)).mono ?_; rintro e wx ⟨rfl, rfl⟩)
          | (go_at_call 26; refine (HFW.out _ (KR.out.trans (S := fun _ => False) (by repeat (first | (with_reducible exact KC.out) | (with_reducible exact Keeps.refl _ _) | (with_reducible apply Keeps.drewN) | (with_reducible apply Keeps.drew) | (with_reducible apply Keeps.alloc))))).mono ?_; rintro e w6 ⟨a6, n6, c6, rfl, hn6, ho6, hk6⟩; obtain rfl : n6 = fg.length := (by rw [hn6, u8s_length]); have KC2 : Hd (Keeps (fun _ => False) wr w6) := hid (Keeps.trans (S := fun _ => False) (by repeat (first | (with_reducible exact KC.out) | (with_reducible exact Keeps.refl _ _) | (with_reducible apply Keeps.drewN) | (with_reducible apply Keeps.drew) | (with_reducible apply Keeps.alloc))) hk6); have HS6 : Hd (Sl (fun b => wr.heap.size ≤ b) w6 (.slice a6 fg.length c6) (u8s fg)) := hid ((row_sl ho6.row (by rw [u8s_length])).mono (fun b _ h => Nat.le_trans (Keeps.size (S := fun _ => False) (by repeat (first | (with_reducible exact KC.out) | (with_reducible exact Keeps.refl _ _) | (with_reducible apply Keeps.drewN) | (with_reducible apply Keeps.drew) | (with_reducible apply Keeps.alloc)))) h)); have K6 := hid KC2.out; replace KC := KC2; clear KC2 hn6 ho6 hk6; have L6 : Hd (Keeps (fun _ => False) w6 w6) := hid (Keeps.refl _ _))
          | (refine step_append_own_row rfl (.tmp 17) (.tmp 42) 44 rfl 64 i0 z 5 56 Try.underlying44 hi hz0 hz1 hz2 hz3 (by decide) _ (fun _ => True) (.slice a k c) (.slice (some ⟨w6.heap.size, 0, none⟩) 1 1) k _ (by simp [Act.eval]) (HOW.out.keep (S := fun _ => False) (by repeat (first | (with_reducible exact KC.out) | (with_reducible exact Keeps.refl _ _) | (with_reducible apply Keeps.drewN) | (with_reducible apply Keeps.drew) | (with_reducible apply Keeps.alloc))) (fun _ _ _ h => h)) 1 [.int .i64 (around z0 12), .int .i64 z1, .int .i64 z2, .int .i64 z3, .slice a6 fg.length c6] (by simp [Act.eval]) (src_blk (cs := #[.int .i64 (around z0 12), .int .i64 z1, .int .i64 z2, .int .i64 z3, .slice a6 fg.length c6]) (T := 64) (by (repeat (first | (with_reducible apply blk_drewN) | (with_reducible apply blk_drew) | (with_reducible refine blk_new' _ _ _ _ ?_) | (with_reducible apply blk_alloc))); (first | (with_reducible rfl) | (simp; done) | (simp; omega))) 1 5 rfl (by decide)) (by intro u hu; simp at hu; rcases hu with rfl | rfl | rfl | rfl | rfl <;> rfl) (by simp [maxLen]; omega) (by omega) ?_; intro a7 c7 w7 hown7 hk7; have K7 : Hd (Keeps (fun b => w.heap.size ≤ b) wr w7) := hid (((KC.out.mono (fun _ _ h => h.elim)).trans (Keeps.trans (S := fun b => (Value.slice a k c).ownBlock = some b) (by repeat (first | (with_reducible exact L6.out) | (with_reducible exact Keeps.refl _ _) | (with_reducible apply Keeps.drewN) | (with_reducible apply Keeps.drew) | (with_reducible apply Keeps.alloc))) hk7)).mono (fun i hi h => HGE.out i h))))
      all_goals
        have HX : Hd (FtO w.heap.size w7 (.slice a7 (k + 1) c7) (fts ++ [⟨around z0 12, z1, z2, z3, fg⟩])) := hid (fto_app (B := w.heap.size) zr (by rw [HLN.out]; exact HOW.out) HGE.out HCC.out K6.out (by repeat (first | (with_reducible exact L6.out) | (with_reducible exact Keeps.refl _ _) | (with_reducible apply Keeps.drewN) | (with_reducible apply Keeps.drew) | (with_reducible apply Keeps.alloc))) HS6.out (by rw [HLN.out]; exact hown7) hk7)
        have KX : Hd (Keeps (fun _ => False) w w7) := hid ((KR.out.trans KC.out).trans' (Keeps.trans (S := fun b => (Value.slice a k c).ownBlock = some b) (by repeat (first | (with_reducible exact L6.out) | (with_reducible exact Keeps.refl _ _) | (with_reducible apply Keeps.drewN) | (with_reducible apply Keeps.drew) | (with_reducible apply Keeps.alloc))) hk7) (fun i hi h => by have := HGE.out i h; omega))
        have HLX : Hd ((fts ++ [(⟨around z0 12, z1, z2, z3, fg⟩ : Ft)]).length = k + 1) := hid (by rw [List.length_append, HLN.out]; rfl)
        have HOX : Hd (∀ x ∈ fts ++ [(⟨around z0 12, z1, z2, z3, fg⟩ : Ft)], x.ok) := hid (fun x hx => by
          rcases List.mem_append.1 hx with h | h
          · exact HOK.out x h
          · simp at h; subst h; exact HFK.out)
        clear hown7 hk7
        go_wp2
        go_roundw
        case rel => exact ⟨k + 1, a7, c7, _, rfl, by go_num, by omega, by omega, HLX, HOX, HX, KX⟩
        case measure => simp [intOf]; omega
    · have key : ∀ (h : FtO w.heap.size wr (.slice a k c) fts), FatesPost w (.returned (.slice a k c)) wr := fun ⟨xs, ho, hge, hcc⟩ => ⟨a, k, c, fts, rfl, HLN.out.symm, by rw [HLN.out]; exact hk6, ⟨xs, by rw [List.length_map]; exact ho.row.mono (fun b _ h => hge b h), fun i x hx => (hcc.2 i x hx).mono (fun b _ h => h.1)⟩, HOK.out, KR.out⟩
      have HR := hid (key HO.out)
      clear key
      rcases Nat.lt_or_ge k m with h1 | h1
      · obtain rfl : k = 6 := by omega
        have k1 : ((6 : Nat) : Int) < m := by omega
        have k2 : (6 : Int) < m := by omega
        clear hkm
        go_wp2
        go_ret
        exact HR.out
      · obtain rfl : k = m := by omega
        have k1 : ¬ ((k : Int) < k) := by omega
        clear hkm
        go_wp2
        go_ret
        exact HR.out
end Go.Proofs.Ytjapmpolagblaaa
