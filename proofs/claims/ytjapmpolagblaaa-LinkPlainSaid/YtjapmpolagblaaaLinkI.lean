/- link.Send. -/
import Derived.Test.YtjapmpolagblaaaLinkH
import Derived.Deep.Cut
import Derived.Deep.CutRange
import Derived.Deep.CutBlock
import Derived.Deep.RegionHeld3
namespace Go.Proofs.Ytjapmpolagblaaa
open Go.RowKit
attribute [local go_sem ↓] Go.wp_at_zero Go.wp_at_succ
def dl0 (f : Ft) : Int := min (max f.dl 0) 1000
def delays (f : Ft) : List Int := if f.k = 1 then [] else if f.k = 2 then [dl0 f, 0] else [dl0 f]
def flight (f : Ft) (cn tick fr tt : Int) (data : List Nat) (d : Int) : Flt := ⟨tick + 1 + d, cn, fr, tt, spoilL data f⟩
def sentL (l : List Flt) (f : Ft) (cn tick fr tt : Int) (data : List Nat) (ds : List Int) : List Flt := ds.foldl (fun l d => putL l (flight f cn tick fr tt data d)) l
def sendR (R : Option Win) (l : List Flt) (cn : Int) (fts : List Ft) (tick fr tt : Int) (data : List Nat) : List Flt × Int × Bool :=
  match R with
  | none => (l, cn, false)
  | some x => if x.r < data.length then (l, cn, false) else (sentL l (fateL fts cn) cn tick fr tt data (delays (fateL fts cn)), cn + 1, true)
def sendL (l : List Flt) (cn : Int) (ws : List Win) (fts : List Ft) (tick fr tt : Int) (data : List Nat) : List Flt × Int × Bool := sendR (winW ws fr tt tick) l cn fts tick fr tt data
def SendPost (w : World) (R : List Flt × Int × Bool) (r : Ending) (w' : World) : Prop := ∃ a n c, r = .returned (.tuple #[.agg #[.slice a n c, .int .i64 R.2.1], .bool R.2.2]) ∧ n = R.1.length ∧ FlO w.heap.size w' (.slice a n c) R.1 ∧ Keeps (fun _ => False) w w'
theorem FlO.mono {B B' : Nat} {w : World} {v : Value} {l : List Flt} (h : FlO B w v l) (hB : B' ≤ B) : FlO B' w v l := by
  obtain ⟨xs, h1, h2, h3⟩ := h
  exact ⟨xs, h1, fun b hb => Nat.le_trans hB (h2 b hb), fun i x hi => (h3 i x hi).mono (fun b _ hb => ⟨Nat.le_trans hB hb.1, hb.2⟩)⟩
theorem fin5 {S : Nat → Prop} {w W : World} {b : Nat} {T : TypeId} {c0 c1 c2 c3 c4 : Value} (hk : Keeps S w W) (hb : S b) (hB : Blk W b #[c0, c1, c2, c3, c4] T) (u0 u1 u2 u3 u4 : Value) :
    Keeps S w (((((W.setCell ⟨b, 0, none⟩ u0).setCell ⟨b, 1, none⟩ u1).setCell ⟨b, 2, none⟩ u2).setCell ⟨b, 3, none⟩ u3).setCell ⟨b, 4, none⟩ u4) ∧ Blk (((((W.setCell ⟨b, 0, none⟩ u0).setCell ⟨b, 1, none⟩ u1).setCell ⟨b, 2, none⟩ u2).setCell ⟨b, 3, none⟩ u3).setCell ⟨b, 4, none⟩ u4) b #[u0, u1, u2, u3, u4] T :=
  ⟨((((hk.setCell (.inl hb) _).setCell (.inl hb) _).setCell (.inl hb) _).setCell (.inl hb) _).setCell (.inl hb) _, blk_set (blk_set (blk_set (blk_set (blk_set hB 0 u0) 1 u1) 2 u2) 3 u3) 4 u4⟩
/-- the fate that was chosen, in its block -/
def FtB (K : Nat → Prop) (w : World) (b : Nat) (f : Ft) : Prop := ∃ ag cg, Blk w b #[.int .i64 f.m, .int .i64 f.k, .int .i64 f.dl, .int .i64 f.a, .slice ag f.fg.length cg] 64 ∧ Sl K w (.slice ag f.fg.length cg) (u8s f.fg)
def DelR (w : World) (ds : List Int) (u : Value) (wx : World) : Prop := ∃ a c, u = .slice a ds.length c ∧ Hd (Own (fun b => w.heap.size ≤ b) wx 3 1 (.slice a ds.length c) ds.length (i64s ds)) ∧ Hd (Keeps (fun _ => False) w wx)
theorem delays_ok (f : Ft) : (delays f).length ≤ 2 ∧ ∀ d ∈ delays f, 0 ≤ d ∧ d ≤ 1000 := by
  unfold delays dl0
  split
  · simp
  · split
    · simp; omega
    · simp; omega
theorem sentL_succ {l : List Flt} {f : Ft} {cn tick fr tt : Int} {data : List Nat} {ds : List Int} {k : Nat} {d : Int} (h : ds[k]? = some d) :
    sentL l f cn tick fr tt data (ds.take (k + 1)) = putL (sentL l f cn tick fr tt data (ds.take k)) (flight f cn tick fr tt data d) := by
  unfold sentL
  rw [List.take_add_one, h, List.foldl_append]; rfl
theorem infoInt : (Try.prog.info? 3).map (fun i => (i.zero, i.size, i.bytes)) = some (some (.int .i64 0), 1, 8) := by kernel_rfl
theorem one_row (w : World) (x : Value) (t : TypeId) : Row (fun _ => True) (w.alloc (.cells #[x] t)) 1 (.slice (some ⟨w.heap.size, 0, none⟩) 1 1) 1 [x] :=
  Own.row (S := fun _ => True) ⟨World.ownsRow_lit (base := 0) (e := t) w #[x] 1 (Nat.zero_le _) (by decide) rfl, fun _ _ => trivial⟩
theorem delR_one (w : World) (d : Int) : DelR w [d] (.slice (some ⟨w.heap.size, 0, none⟩) 1 1) (w.alloc (.cells #[.int .i64 d] 3)) :=
  ⟨_, 1, rfl, hid ⟨World.ownsRow_lit w #[.int .i64 d] 1 (Nat.zero_le _) (by decide) rfl, fun k hk => by injection hk with hk; simp at hk; omega⟩, hid (keeps_alloc _ _ _)⟩
/-- the load of the flights ahead of the calls, by a name: it is carried out where it comes up -/
def ldK : Op := Op.load 26 (.tmp 73)
theorem ldK_eq : Op.load 26 (.tmp 73) = ldK := rfl
attribute [local go_sem] ldK
set_option maxRecDepth 100000 in set_option maxHeartbeats 1000000 in
theorem Send_any (vf vt vfs : Value) (l : List Flt) (ws : List Win) (fts : List Ft) (cn tick fr tt : Int) (ad : Option Addr) (cd : Nat) (data : List Nat) (w : World)
    (hl : Fls (fun b => b < w.heap.size) w vf l) (hws : Wins (fun b => b < w.heap.size) w vt ws) (hfs : Fts (fun b => b < w.heap.size) w vfs fts) (hd : Sl (fun b => b < w.heap.size) w (.slice ad data.length cd) (u8s data)) (hd8 : ∀ c ∈ data, c < 256)
    (hlen : l.length ≤ 900000) (hld : ∀ x ∈ l, x.d.length ≤ 1000000000) (hfl : fts.length ≤ 1000000) (hff : ∀ x ∈ fts, x.fg.length ≤ 1000000000) (hdl : data.length ≤ 1000000000)
    (h1 : -9223372036854775808 ≤ fr ∧ fr ≤ 9223372036854775807) (h2 : -9223372036854775808 ≤ tt ∧ tt ≤ 9223372036854775807) (h3 : 0 ≤ tick ∧ tick ≤ 1000000000000) (h4 : 0 ≤ cn ∧ cn ≤ 1000000000000) :
    Calls Try.prog 10 #[.agg #[vf, .int .i64 cn], vt, vfs, .int .i64 tick, .agg #[.int .i64 fr, .int .i64 tt, .slice ad data.length cd]] w fun e w' => SendPost w (sendL l cn ws fts tick fr tt data) e w' := by
  have HL := hid hl; have HWS := hid hws; have HFS := hid hfs; have HDT := hid hd; have HD8 := hid hd8; have HLD := hid hld; have HFF := hid hff
  obtain ⟨xs, hrow, -⟩ := hl
  obtain ⟨af, cf, rfl, -⟩ := hrow.form
  obtain ⟨xf, hrowf, hcf⟩ := hfs
  obtain ⟨afs, cfs, rfl, -, -, hels⟩ := hrowf.form
  rw [List.length_map] at *
  have HCF := hid hcf; have HELS := hid hels
  clear hcf hels hrowf
  obtain ⟨R, hR⟩ : ∃ R, winW ws fr tt tick = R := ⟨_, rfl⟩
  unfold sendL
  rw [hR]
  have HR := hid hR
  clear hR hrow hws hd hd8 hld hff
  generalize hdn : data.length = dn at *
  have HDN := hid hdn; clear hdn
  generalize hln : l.length = m at *
  have HLN := hid hln; clear hln
  go_enter Try.func10, Try.ntmps10
  go_upto_region 1 with fail
  generalize hW : World.alloc (World.alloc (World.alloc w _) _) _ = W
  have BP : Hd (Blk W w.heap.size #[.slice af m cf, .int .i64 cn] 28) := hid (by rw [← hW]; exact blk_alloc (blk_alloc (blk_new _ _ _) _) _)
  have BQ : Hd (Blk W (w.heap.size + 1) #[.int .i64 fr, .int .i64 tt, .slice ad dn cd] 37) := hid (by rw [← hW]; exact blk_alloc (blk_new' _ _ _ _ (by simp)) _)
  have BR : Hd (Blk W (w.heap.size + 1 + 1) #[.slice none 0 0, .int .i64 0] 28) := hid (by rw [← hW]; exact blk_new' _ _ _ _ (by simp))
  have KW : Hd (Keeps (fun _ => False) w W) := hid (by rw [← hW]; repeat (first | (with_reducible assumption) | (with_reducible exact Keeps.refl _ _) | (with_reducible apply Keeps.drewN) | (with_reducible apply Keeps.drew) | (with_reducible apply Keeps.alloc) | refine Keeps.setCell ?_ (by first | (simp; done) | (simp; omega)) _))
  have zW : w.heap.size + 1 + 1 < W.heap.size := blk_lt BR.out
  clear hW
  have o0 : W.cell? ⟨w.heap.size, 0, none⟩ = some (.slice af m cf) := blk_cell BP.out 0
  go_wp2_with fail
  refine (own_any _ l W ((HL.out.keep KW.out (fun _ _ _ h => h)).mono (fun b h1 _ => h1)) (by rw [HLN.out]; omega) (fun x hx => by have := HLD.out x hx; omega)).mono ?_
  rintro e w1 ⟨a1, c1, rfl, ho, hk⟩
  rw [HLN.out] at ho
  rw [HLN.out]
  have HO := hid ho; have K1 := hid hk
  have z1 := hk.size
  clear ho hk o0
  have BP1 := hid (blk_keep BP.out K1.out (fun h => h)); have BQ1 := hid (blk_keep BQ.out K1.out (fun h => h)); have BR1 := hid (blk_keep BR.out K1.out (fun h => h))
  have o0 : w1.cell? ⟨w.heap.size, 0, none⟩ = some (.slice af m cf) := blk_cell BP1.out 0
  have o1 : w1.frozen? ⟨w.heap.size, 0, none⟩ = false := blk_free BP1.out 0
  go_upto_region 2 with fail
  generalize hW2 : World.setCell w1 _ _ = W2
  have BP2 : Hd (Blk W2 w.heap.size #[.slice a1 m c1, .int .i64 cn] 28) := hid (by rw [← hW2]; exact blk_set BP1.out 0 _)
  have BQ2 : Hd (Blk W2 (w.heap.size + 1) #[.int .i64 fr, .int .i64 tt, .slice ad dn cd] 37) := hid (by rw [← hW2]; exact blk_other BQ1.out (by omega) _ _)
  have BR2 : Hd (Blk W2 (w.heap.size + 1 + 1) #[.slice none 0 0, .int .i64 0] 28) := hid (by rw [← hW2]; exact blk_other BR1.out (by omega) _ _)
  have K2 : Hd (Keeps (fun _ => False) w W2) := hid (by rw [← hW2]; exact (KW.out.trans K1.out).setCell (.inr (Nat.le_refl _)) _)
  have HO2 : Hd (FlO W.heap.size W2 (.slice a1 m c1) l) := hid (by
    have : Keeps (fun b => b = w.heap.size) w1 W2 := by rw [← hW2]; exact keeps_set _ _ _ _ rfl
    exact HO.out.keep this (fun b _ h1 h2 => by omega))
  have z2 : W.heap.size ≤ W2.heap.size := by have : Keeps (fun b => b = w.heap.size) w1 W2 := (by rw [← hW2]; exact keeps_set _ _ _ _ rfl); have := this.size; omega
  clear hW2 o0 o1 BP1 BQ1 BR1 BP BQ BR HO
  have q0 : W2.cell? ⟨w.heap.size + 1, 0, none⟩ = some (.int .i64 fr) := blk_cell BQ2.out 0
  have q1 : W2.cell? ⟨w.heap.size + 1, 1, none⟩ = some (.int .i64 tt) := blk_cell BQ2.out 1
  go_wp2_with fail
  refine (window_any _ ws fr tt tick W2 ((HWS.out.keep K2.out (fun _ _ _ h => h)).mono (fun b h1 _ => h1)) h1 h2).mono ?_
  rw [HR.out]
  rintro e w3 ⟨he, hk3⟩
  have K3 := hid hk3
  have z3 := hk3.size
  clear q0 q1 hk3
  have BP3 := hid (blk_keep BP2.out K3.out (fun h => h)); have BQ3 := hid (blk_keep BQ2.out K3.out (fun h => h)); have BR3 := hid (blk_keep BR2.out K3.out (fun h => h))
  have HO3 := hid (HO2.out.keep K3.out (fun _ _ _ h => h))
  have KA3 := hid (K2.out.trans K3.out)
  clear BP2 BQ2 BR2 HO2
  rcases R with _ | x
  · unfold NextPost at he
    subst he
    go_upto_region 3 with fail
    generalize hW4 : World.alloc w3 _ = W4
    have K4 : Hd (Keeps (fun _ => False) w3 W4) := hid (by rw [← hW4]; exact keeps_alloc _ _ _)
    skip
    clear hW4
    have BP4 := hid (blk_keep BP3.out K4.out (fun h => h)); have BQ4 := hid (blk_keep BQ3.out K4.out (fun h => h)); have BR4 := hid (blk_keep BR3.out K4.out (fun h => h))
    have KA4 := hid (KA3.out.trans K4.out)
    have HO4 := hid (HO3.out.keep K4.out (fun _ _ _ h => h))
    have z4 := K4.out.size
    clear BP3 BQ3 BR3 HO3 KA3
    obtain ⟨KF, F2⟩ := fin2 KA4.out (b := w.heap.size + 1 + 1) (by omega) BR4.out (.slice a1 m c1) (.int .i64 cn)
    have HOF : Hd (FlO w.heap.size ((W4.setCell ⟨w.heap.size + 1 + 1, 0, none⟩ (.slice a1 m c1)).setCell ⟨w.heap.size + 1 + 1, 1, none⟩ (.int .i64 cn)) (.slice a1 m c1) l) := hid (((HO4.out.keep (keeps_set (fun b => b = w.heap.size + 1 + 1) _ _ _ rfl) (fun b _ h1 h2 => by omega)).keep (keeps_set (fun b => b = w.heap.size + 1 + 1) _ _ _ rfl) (fun b _ h1 h2 => by omega)).mono (by omega))
    have r0 := blk_cell F2 0
    have r1 := blk_cell F2 1
    have HKF := hid KF
    have o0 : W4.cell? ⟨w.heap.size, 0, none⟩ = some (.slice a1 m c1) := blk_cell BP4.out 0
    have o1 : W4.cell? ⟨w.heap.size, 1, none⟩ = some (.int .i64 cn) := blk_cell BP4.out 1
    have o2 : W4.frozen? ⟨w.heap.size + 1 + 1, 0, none⟩ = false := blk_free BR4.out 0
    have o3 : W4.frozen? ⟨w.heap.size + 1 + 1, 1, none⟩ = false := blk_free BR4.out 1
    have o4 : W4.cell? ⟨w.heap.size + 1 + 1, 0, none⟩ = some (.slice none 0 0) := blk_cell BR4.out 0
    have o5 : W4.cell? ⟨w.heap.size + 1 + 1, 1, none⟩ = some (.int .i64 0) := blk_cell BR4.out 1
    clear KF F2
    go_wp2
    refine bodyPost_ret (v := .tuple #[.agg #[.slice a1 m c1, .int .i64 cn], .bool false]) (by simp [results, Try.results10, go_sem, r0, r1]) rfl ?_
    exact ⟨a1, m, c1, rfl, HLN.out.symm, HOF.out, HKF.out⟩
  · unfold NextPost at he
    subst he
    go_upto_region 3 with fail
    generalize hW4 : World.alloc w3 _ = W4
    have K4 : Hd (Keeps (fun _ => False) w3 W4) := hid (by rw [← hW4]; exact keeps_alloc _ _ _)
    have BW4 : Hd (Blk W4 w3.heap.size #[.int .i64 x.k, .int .i64 x.a, .int .i64 x.b, .int .i64 x.f, .int .i64 x.u, .int .i64 x.r] 54) := hid (by rw [← hW4]; exact blk_new _ _ _)
    clear hW4
    have BP4 := hid (blk_keep BP3.out K4.out (fun h => h)); have BQ4 := hid (blk_keep BQ3.out K4.out (fun h => h)); have BR4 := hid (blk_keep BR3.out K4.out (fun h => h))
    have KA4 := hid (KA3.out.trans K4.out)
    have HO4 := hid (HO3.out.keep K4.out (fun _ _ _ h => h))
    have z4 := K4.out.size
    clear BP3 BQ3 BR3 HO3 KA3
    have q2 : W4.cell? ⟨w.heap.size + 1, 2, none⟩ = some (.slice ad dn cd) := blk_cell BQ4.out 2
    have q5 : W4.cell? ⟨w3.heap.size, 5, none⟩ = some (.int .i64 x.r) := blk_cell BW4.out 5
    by_cases hxr : x.r < dn
    · have d1 : decide (x.r < (dn : Int)) = true := by simp; exact hxr
      have HSR : Hd (sendR (some x) l cn fts tick fr tt data = (l, cn, false)) := hid (by unfold sendR; simp only []; rw [if_pos (by rw [HDN.out]; exact hxr)])
      clear hxr
      obtain ⟨KF, F2⟩ := fin2 KA4.out (b := w.heap.size + 1 + 1) (by omega) BR4.out (.slice a1 m c1) (.int .i64 cn)
      have HOF : Hd (FlO w.heap.size ((W4.setCell ⟨w.heap.size + 1 + 1, 0, none⟩ (.slice a1 m c1)).setCell ⟨w.heap.size + 1 + 1, 1, none⟩ (.int .i64 cn)) (.slice a1 m c1) l) := hid (((HO4.out.keep (keeps_set (fun b => b = w.heap.size + 1 + 1) _ _ _ rfl) (fun b _ h1 h2 => by omega)).keep (keeps_set (fun b => b = w.heap.size + 1 + 1) _ _ _ rfl) (fun b _ h1 h2 => by omega)).mono (by omega))
      have r0 := blk_cell F2 0
      have r1 := blk_cell F2 1
      have HKF := hid KF
      have o0 : W4.cell? ⟨w.heap.size, 0, none⟩ = some (.slice a1 m c1) := blk_cell BP4.out 0
      have o1 : W4.cell? ⟨w.heap.size, 1, none⟩ = some (.int .i64 cn) := blk_cell BP4.out 1
      have o2 : W4.frozen? ⟨w.heap.size + 1 + 1, 0, none⟩ = false := blk_free BR4.out 0
      have o3 : W4.frozen? ⟨w.heap.size + 1 + 1, 1, none⟩ = false := blk_free BR4.out 1
      have o4 : W4.cell? ⟨w.heap.size + 1 + 1, 0, none⟩ = some (.slice none 0 0) := blk_cell BR4.out 0
      have o5 : W4.cell? ⟨w.heap.size + 1 + 1, 1, none⟩ = some (.int .i64 0) := blk_cell BR4.out 1
      clear KF F2
      go_wp2
      refine bodyPost_ret (v := .tuple #[.agg #[.slice a1 m c1, .int .i64 cn], .bool false]) (by simp [results, Try.results10, go_sem, r0, r1]) rfl ?_
      rw [HSR.out]
      exact ⟨a1, m, c1, rfl, HLN.out.symm, HOF.out, HKF.out⟩
    · have d1 : decide (x.r < (dn : Int)) = false := by simp; omega
      have HSR : Hd (sendR (some x) l cn fts tick fr tt data = (sentL l (fateL fts cn) cn tick fr tt data (delays (fateL fts cn)), cn + 1, true)) := hid (by unfold sendR; simp only []; rw [if_neg (by rw [HDN.out]; exact hxr)])
      clear hxr
      go_upto_region 6 with fail
      generalize hW5 : World.alloc W4 _ = W5
      have K5 : Hd (Keeps (fun _ => False) W4 W5) := hid (by rw [← hW5]; exact keeps_alloc _ _ _)
      have BF5 : Hd (Blk W5 W4.heap.size #[.int .i64 0, .int .i64 0, .int .i64 0, .int .i64 0, .slice none 0 0] 64) := hid (by rw [← hW5]; exact blk_new _ _ _)
      clear hW5 q2 q5 BW4 HR
      have BP5 := hid (blk_keep BP4.out K5.out (fun h => h)); have BQ5 := hid (blk_keep BQ4.out K5.out (fun h => h)); have BR5 := hid (blk_keep BR4.out K5.out (fun h => h))
      have KA5 := hid (KA4.out.trans K5.out)
      have z5 := K5.out.size
      clear BP4 BQ4 BR4 KA4 K1 K2 K3 K4
      go_wp2_with fail
      refine (IndexFunc_any _ _ fts w.heap.size cn W5 (HFS.out.keep KA5.out (fun _ _ _ h => h)) (blk_cell BP5.out 1) hfl).mono ?_
      rintro e w7 ⟨hi, hk7⟩
      obtain ⟨f, hf⟩ : ∃ f, fateL fts cn = f := ⟨_, rfl⟩
      rw [hf] at HSR hi
      obtain ⟨i, rfl, HI⟩ : ∃ i : Int, e = .returned (.int .i64 i) ∧ Hd ((∃ (k : Nat) (x : Ft), i = k ∧ fts[k]? = some x ∧ f = x) ∨ (i = -1 ∧ f = Ft.nil)) := by
        rcases hi with ⟨k, x, rfl, h1, h2⟩ | ⟨rfl, h1⟩
        · exact ⟨k, rfl, hid (.inl ⟨k, x, rfl, h1, h2⟩)⟩
        · exact ⟨-1, rfl, hid (.inr ⟨rfl, h1⟩)⟩
      have BP7 := hid (blk_keep BP5.out hk7 (fun h => h)); have BQ7 := hid (blk_keep BQ5.out hk7 (fun h => h)); have BR7 := hid (blk_keep BR5.out hk7 (fun h => h)); have BF7 := hid (blk_keep BF5.out hk7 (fun h => h))
      have KA7 := hid (KA5.out.trans hk7)
      have K47 := hid (K5.out.trans hk7)
      have z7 := hk7.size
      clear BP5 BQ5 BR5 BF5 KA5 hk7 hi hf K5
      go_upto_if 48 with fail
      go_cut [] from 49 to 52 (fun wx => Hd (FtB (fun b => b < w.heap.size) wx W4.heap.size f) ∧ Hd (Keeps (fun b => b = W4.heap.size) w7 wx))
      case first =>
        rcases HI.out with ⟨k, y, rfl, hk, rfl⟩ | ⟨rfl, rfl⟩
        · have hkm : k < fts.length := (List.getElem?_eq_some_iff.1 hk).1
          obtain ⟨b, off, rfl, hb1, hb2, hcell⟩ := HELS.out (by omega)
          have hyf : (fts.map Ft.fl)[k]? = some f.fl := by rw [List.getElem?_map, hk]; rfl
          have hcc := HCF.out k f.fl hyf
          obtain ⟨t0, t1, t2, t3, t4⟩ := hcc
          obtain ⟨ag, cg, e4, _⟩ := t4.bytes
          have t4' : Sl (fun b => b < w.heap.size) w (.slice ag f.fg.length cg) (u8s f.fg) := by
            have e4' : xf.getD (k * 5 + 4) undef = .slice ag f.fg.length cg := e4
            have := t4; simp only [e4'] at this; exact this
          have key : ∀ j, j < 5 → w7.cell? ⟨b, off + (k * 5 + j), none⟩ = some (xf.getD (k * 5 + j) undef) := fun j hj => keep_cell KA7.out (fun h => h) (hcell (k * 5 + j) (by omega))
          have f0 : w7.cell? ⟨b, off + k * 5, none⟩ = some (.int .i64 f.m) := (key 0 (by omega)).trans (congrArg some t0)
          have f1 : w7.cell? ⟨b, off + k * 5 + 1, none⟩ = some (.int .i64 f.k) := (key 1 (by omega)).trans (congrArg some t1)
          have f2 : w7.cell? ⟨b, off + k * 5 + 2, none⟩ = some (.int .i64 f.dl) := (key 2 (by omega)).trans (congrArg some t2)
          have f3 : w7.cell? ⟨b, off + k * 5 + 3, none⟩ = some (.int .i64 f.a) := (key 3 (by omega)).trans (congrArg some t3)
          have f4 : w7.cell? ⟨b, off + k * 5 + 4, none⟩ = some (.slice ag f.fg.length cg) := (key 4 (by omega)).trans (congrArg some e4)
          obtain ⟨KF, F2⟩ := fin5 (S := fun b => b = W4.heap.size) (Keeps.refl _ w7) rfl BF7.out (.int .i64 f.m) (.int .i64 f.k) (.int .i64 f.dl) (.int .i64 f.a) (.slice ag f.fg.length cg)
          have HKF := hid KF; have HF2 := hid F2
          have HT4 := hid ((t4'.keep KA7.out (fun _ _ _ h => h)).keep KF (fun b _ h1 h2 => by omega))
          have v0 := blk_cell BF7.out 0; have v1 := blk_cell BF7.out 1; have v2 := blk_cell BF7.out 2; have v3 := blk_cell BF7.out 3; have v4 := blk_cell BF7.out 4
          have y0 := blk_free BF7.out 0; have y1 := blk_free BF7.out 1; have y2 := blk_free BF7.out 2; have y3 := blk_free BF7.out 3; have y4 := blk_free BF7.out 4
          have d5 : (0 : Int) ≤ k := by omega
          have d6 : (k : Int) < fts.length := by omega
          clear t0 t1 t2 t3 t4 t4' e4 key hcell hyf KF F2 hk
          go_wp2_with fail
          go_meet
          exact ⟨hid ⟨ag, cg, HF2.out, HT4.out⟩, HKF⟩
        · go_wp2_with fail
          go_meet
          exact ⟨hid ⟨none, 0, BF7.out, Sl.nil _ _⟩, hid (Keeps.refl _ _)⟩
      case rest =>
        obtain ⟨HFB, KC⟩ := hcut
        have HFG : Hd (f.fg.length ≤ 1000000000) := hid (by
          rcases HI.out with ⟨k, y, _, hk, rfl⟩ | ⟨_, rfl⟩
          · exact HFF.out _ (List.mem_of_getElem? hk)
          · simp [Ft.nil])
        have KB : Hd (Keeps (fun b => b = W4.heap.size) W4 wc) := hid ((K47.out.mono (fun _ _ h => h.elim)).trans KC.out)
        have BP8 := hid (blk_keep BP7.out KC.out (by omega)); have BQ8 := hid (blk_keep BQ7.out KC.out (by omega)); have BR8 := hid (blk_keep BR7.out KC.out (by omega))
        have KA8 : Hd (Keeps (fun _ => False) w wc) := hid (KA7.out.trans' KC.out (fun i hi h => by omega))
        have HO8 := hid (HO4.out.keep KB.out (fun b h1 _ h2 => by omega))
        have z8 := KB.out.size
        clear BP7 BQ7 BR7 BF7 KA7 HO4 KC KB K47 HI HELS HCF HFS HFF
        obtain ⟨ag, cg, bf, sf⟩ := HFB.out
        have BF8 := hid bf; have SF8 := hid sf
        clear bf sf HFB
        have zf : W4.heap.size < wc.heap.size := blk_lt BF8.out
        generalize wc = w8 at *
        have o2 : w8.cell? ⟨W4.heap.size, 2, none⟩ = some (.int .i64 f.dl) := blk_cell BF8.out 2
        go_upto_region 9 with fail
        go_cut [16] from 53 to 57 (fun u wx => DelR w8 [dl0 f] u wx)
        case first =>
          obtain ⟨d, hd⟩ : ∃ d, dl0 f = d := ⟨_, rfl⟩
          have HD0 := hid hd
          rcases (show (f.dl < 0 ∧ d = 0) ∨ (0 ≤ f.dl ∧ f.dl ≤ 1000 ∧ d = f.dl) ∨ (1000 < f.dl ∧ d = 1000) by unfold dl0 at hd; omega) with ⟨g1, g2⟩ | ⟨g1, g2, g3⟩ | ⟨g1, g2⟩
          · have HG := hid g2
            clear hd g2
            go_wp2_with fail
            all_goals (first | (go_meet; rw [HD0.out, HG.out]; exact delR_one _ _) | (exfalso; omega))
          · have HG := hid g3
            clear hd g3
            go_wp2_with fail
            all_goals (first | (go_meet; rw [HD0.out, HG.out]; exact delR_one _ _) | (exfalso; omega))
          · have HG := hid g2
            clear hd g2
            go_wp2_with fail
            all_goals (first | (go_meet; rw [HD0.out, HG.out]; exact delR_one _ _) | (exfalso; omega))
        case rest =>
          obtain ⟨a9, c9, rfl, HDO, KD⟩ := hcut
          generalize wc = w9 at *
          have HD1 : Hd (Own (fun b => w8.heap.size ≤ b) w9 3 1 (.slice a9 1 c9) 1 [.int .i64 (dl0 f)]) := HDO
          have zd := KD.out.size
          clear o2
          have o1 : w9.cell? ⟨W4.heap.size, 1, none⟩ = some (.int .i64 f.k) := keep_cell KD.out (fun h => h) (blk_cell BF8.out 1)
          go_upto_block 0 with fail
          go_cut [16] from 58 to 66 (fun u wx => DelR w8 (delays f) u wx)
          case first =>
            by_cases k1 : f.k = 1
            · have t1 : (f.k == 1) = true := by simp; exact k1
              have HE : Hd (delays f = []) := hid (by unfold delays; rw [if_pos k1])
              clear k1
              go_wp2_with fail
              go_meet
              rw [HE.out]
              exact ⟨none, 0, rfl, hid (Own.nil _ _ _ _), KD⟩
            · have t1 : (f.k == 1) = false := by simp; exact k1
              by_cases k2 : f.k = 2
              · have t2 : (f.k == 2) = true := by simp; exact k2
                have HE : Hd (delays f = [dl0 f, 0]) := hid (by unfold delays; rw [if_neg k1, if_pos k2])
                clear k1 k2
                obtain ⟨i0, hi, hz0, hz1, hz2⟩ := info_parts infoInt
                go_wp2_with (at_builtin; refine wpList_append_row rfl (.tmp 64) (.tmp 65) 22 rfl 3 i0 (.int .i64 0) 1 8 Try.underlying22 hi hz0 hz1 hz2 rfl (by decide) _ (fun _ => True) (.slice a9 1 c9) _ 1 [.int .i64 (dl0 f)] rfl (HD1.out.alloc _) 1 [.int .i64 0] rfl (by exact one_row _ _ _) (by intro u hu; simp at hu; subst hu; rfl) (by decide) (by decide) ?_)
                intro a10 c10 w10 hown hk; try intro _
                have HOW := hid hown; have HKK := hid hk
                clear hown hk
                go_wp2_with fail
                go_meet
                rw [HE.out]
                exact ⟨a10, c10, rfl, hid (HOW.out.mono (fun b _ h => by rcases h with h | h <;> (try simp at h) <;> omega)), hid ((KD.out.alloc _).trans' HKK.out (fun i hi h => by omega))⟩
              · have t2 : (f.k == 2) = false := by simp; exact k2
                have HE : Hd (delays f = [dl0 f]) := hid (by unfold delays; rw [if_neg k1, if_neg k2])
                clear k1 k2
                go_wp2_with fail
                go_meet
                rw [HE.out]
                exact ⟨a9, c9, rfl, HDO, KD⟩
          case rest =>
            obtain ⟨a10, c10, rfl, HDS, KE⟩ := hcut
            clear HD1 HDO KD o1 zd
            generalize wc = w10 at *
            have ze := KE.out.size
            have BP10 := hid (blk_keep BP8.out KE.out (fun h => h)); have BQ10 := hid (blk_keep BQ8.out KE.out (fun h => h)); have BR10 := hid (blk_keep BR8.out KE.out (fun h => h)); have BF10 := hid (blk_keep BF8.out KE.out (fun h => h))
            have KA10 := hid (KA8.out.trans KE.out)
            have HO10 := hid (HO8.out.keep KE.out (fun _ _ _ h => h))
            have SF10 := hid (SF8.out.keep KE.out (fun _ _ _ h => h))
            have HDL := hid (delays_ok f)
            clear BP8 BQ8 BR8 BF8 KA8 HO8 SF8 KE
            generalize hds : delays f = ds at *
            generalize hnd : ds.length = nd at *
            have HND := hid hnd
            clear hds hnd
            have hnd2 : nd ≤ 2 := by have := HDL.out.1; omega
            go_wp2_with fail
            go_loopw [69] (fun i wr => ∃ (k : Nat) (a : Option Addr) (c : Nat) (l' : List Flt), i = .int .i64 k ∧ k ≤ nd ∧ Hd (l'.length = m + k) ∧ Hd (l' = sentL l f cn tick fr tt data (ds.take k)) ∧ Hd (Blk wr w.heap.size #[.slice a l'.length c, .int .i64 cn] 28) ∧ Hd (FlO W.heap.size wr (.slice a l'.length c) l') ∧ Hd (Keeps (fun b => b = w.heap.size) w10 wr)) (fun i _ => nd - (intOf i).toNat)
            case atStart => exact ⟨0, a1, c1, l, rfl, Nat.zero_le _, HLN, hid rfl, by rw [HLN.out]; exact BP10, by rw [HLN.out]; exact HO10, hid (Keeps.refl _ _)⟩
            case round =>
              obtain ⟨k, a, c, l', rfl, hk, HLL, HLE, BP, HO, KR⟩ := hrel
              clear BP10 HO10
              have zr := KR.out.size
              have BQ := hid (blk_keep BQ10.out KR.out (by omega)); have BR := hid (blk_keep BR10.out KR.out (by omega)); have BF := hid (blk_keep BF10.out KR.out (by omega))
              have KA : Hd (Keeps (fun _ => False) w wr) := hid (KA10.out.trans' KR.out (fun i hi h => by omega))
              have SF := hid (SF10.out.keep KR.out (fun b _ h1 h2 => by omega))
              by_cases hkm : k < nd
              · obtain ⟨d, hdk⟩ : ∃ d, ds[k]? = some d := ⟨ds[k]'(by rw [HND.out]; exact hkm), List.getElem?_eq_getElem _⟩
                have HDK := hid hdk
                obtain ⟨d0, d1⟩ := HDL.out.2 d (List.mem_of_getElem? hdk)
                have HDS1 := hid (HDS.out.keep KR.out (fun b _ h1 h2 => by omega))
                obtain ⟨ga, hga⟩ := row_none HDS1.out.row (by omega)
                subst hga
                obtain ⟨g, hg⟩ : ∃ g, ga = ⟨g, 0, none⟩ := by
                  rcases HDS1.out.1.2 with ⟨h, _⟩ | ⟨g, cap, cur, h, _⟩
                  · injection h with h; cases h
                  · injection h with h; injection h with h; exact ⟨g, h⟩
                subst hg
                have e0 : wr.cell? ⟨g, k, none⟩ = some (.int .i64 d) := by
                  rw [HDS1.out.1.cellAt k (by omega)]; simp [i64s, HDK.out]
                have e1 : wr.cell? ⟨w.heap.size, 0, none⟩ = some (.slice a l'.length c) := blk_cell BP.out 0
                have k1 : (k : Int) < nd := by omega
                have k2 : (0 : Int) ≤ k := by omega
                have u1 : IntKind.i64.wrap (tick + 1) = tick + 1 := IntWalk.i64_in _ (by omega)
                have u2 : IntKind.i64.wrap (tick + 1 + d) = tick + 1 + d := IntWalk.i64_in _ (by omega)
                have HSS : Hd (∀ w', w'.cell? ⟨w.heap.size, 1, none⟩ = some (.int .i64 cn) → Keeps (fun b => b = w.heap.size) wr w' → (w'.cell? ⟨w.heap.size, 1, none⟩ = some (.int .i64 cn) ∧ w'.cell? ⟨w.heap.size + 1, 0, none⟩ = some (.int .i64 fr) ∧ w'.cell? ⟨w.heap.size + 1, 1, none⟩ = some (.int .i64 tt) ∧ w'.cell? ⟨w.heap.size + 1, 2, none⟩ = some (.slice ad dn cd) ∧ w'.cell? ⟨W4.heap.size, 0, none⟩ = some (.int .i64 f.m) ∧ w'.cell? ⟨W4.heap.size, 1, none⟩ = some (.int .i64 f.k) ∧ w'.cell? ⟨W4.heap.size, 2, none⟩ = some (.int .i64 f.dl) ∧ w'.cell? ⟨W4.heap.size, 3, none⟩ = some (.int .i64 f.a) ∧ w'.cell? ⟨W4.heap.size, 4, none⟩ = some (.slice ag f.fg.length cg))) := hid (fun w' h0 hkk => by
                  have h1 := blk_keep BQ.out hkk (by omega)
                  have h2 := blk_keep BF.out hkk (by omega)
                  exact ⟨h0, blk_cell h1 0, blk_cell h1 1, blk_cell h1 2, blk_cell h2 0, blk_cell h2 1, blk_cell h2 2, blk_cell h2 3, blk_cell h2 4⟩)
                have L5 : Hd (Keeps (fun _ => False) wr wr) := hid (Keeps.refl _ _)
                clear hdk HDS1
                go_upto_region 18 with fail
                rw [ldK_eq]
                go_region_held (fun w' => (w'.cell? ⟨w.heap.size, 1, none⟩ = some (.int .i64 cn) ∧ w'.cell? ⟨w.heap.size + 1, 0, none⟩ = some (.int .i64 fr) ∧ w'.cell? ⟨w.heap.size + 1, 1, none⟩ = some (.int .i64 tt) ∧ w'.cell? ⟨w.heap.size + 1, 2, none⟩ = some (.slice ad dn cd) ∧ w'.cell? ⟨W4.heap.size, 0, none⟩ = some (.int .i64 f.m) ∧ w'.cell? ⟨W4.heap.size, 1, none⟩ = some (.int .i64 f.k) ∧ w'.cell? ⟨W4.heap.size, 2, none⟩ = some (.int .i64 f.dl) ∧ w'.cell? ⟨W4.heap.size, 3, none⟩ = some (.int .i64 f.a) ∧ w'.cell? ⟨W4.heap.size, 4, none⟩ = some (.slice ag f.fg.length cg))) (exact HSS.out _ (by first | exact blk_cell BP.out 1 | exact blk_cell BP6.out 1 | exact blk_cell BP7.out 1 | exact blk_cell (blk_set BP7.out 0 _) 1) (by first | exact (Keeps.refl _ wr).drew | exact K6.out | exact K7.out | exact K7.out.setCell (.inl rfl) _))
                  (first
                  | (go_at_call 24; refine (Spoil_any (fun _ => True) _ data _ f _ ((HDT.out.keep (KA.out.trans (S := fun _ => False) (by repeat (first | (with_reducible exact L5.out) | (with_reducible exact Keeps.refl _ _) | (with_reducible apply Keeps.drewN) | (with_reducible apply Keeps.drew) | (with_reducible apply Keeps.alloc)))) (fun _ _ _ h => h)).mono (fun b h1 _ => h1)) ⟨ag, cg, rfl, (SF.out.keep (S := fun _ => False) (by repeat (first | (with_reducible exact L5.out) | (with_reducible exact Keeps.refl _ _) | (with_reducible apply Keeps.drewN) | (with_reducible apply Keeps.drew) | (with_reducible apply Keeps.alloc))) (fun _ _ _ h => h)).mono (fun b h1 _ => h1)⟩ HD8.out (by rw [HDN.out]; exact hdl) HFG.out).mono ?_; rintro e w6 ⟨a6, c6, rfl, hs6, hk6⟩; have KF6 : Hd (Keeps (fun _ => False) wr w6) := hid (Keeps.trans (S := fun _ => False) (by repeat (first | (with_reducible exact L5.out) | (with_reducible exact Keeps.refl _ _) | (with_reducible apply Keeps.drewN) | (with_reducible apply Keeps.drew) | (with_reducible apply Keeps.alloc))) hk6); have K6 : Hd (Keeps (fun b => b = w.heap.size) wr w6) := hid (KF6.out.mono (fun _ _ h => h.elim)); have BP6 := hid (blk_keep BP.out KF6.out (fun h => h)); have e6 : w6.cell? ⟨w.heap.size, 0, none⟩ = some (.slice a l'.length c) := blk_cell BP6.out 0; have HS6 := hid hs6; clear hs6 hk6)
                  | (go_at_call 23; refine (put_fl (fun b => W.heap.size ≤ b) _ l' (flight f cn tick fr tt data d) a6 c6 _ (HO.out.keep KF6.out (fun _ _ _ h => h)).fls (HS6.out.mono (fun b _ h => by have h' : wr.heap.size ≤ b := h; omega)) (by have := HLL.out; omega)).mono ?_; rintro e w7 hp7; obtain ⟨a7, c7, rfl, ho7, hk7⟩ := hp7.flo (by have := KF6.out.size; omega); have KF7 : Hd (Keeps (fun _ => False) wr w7) := hid (KF6.out.trans hk7); have K7 : Hd (Keeps (fun b => b = w.heap.size) wr w7) := hid (KF7.out.mono (fun _ _ h => h.elim)); have BP7 := hid (blk_keep BP.out KF7.out (fun h => h)); have y7 : w7.frozen? ⟨w.heap.size, 0, none⟩ = false := blk_free BP7.out 0; have x7 : w7.cell? ⟨w.heap.size, 0, none⟩ = some (.slice a l'.length c) := blk_cell BP7.out 0; have HO7 := hid ho7; clear hp7 ho7 hk7))
                all_goals
                  have HNX : Hd ((putL l' (flight f cn tick fr tt data d)).length = l'.length + 1) := hid (putL_length _ _)
                  have HBP : Hd (Blk (w7.setCell ⟨w.heap.size, 0, none⟩ (.slice a7 (l'.length + 1) c7)) w.heap.size #[.slice a7 (l'.length + 1) c7, .int .i64 cn] 28) := hid (blk_set BP7.out 0 _)
                  have HOX : Hd (FlO W.heap.size (w7.setCell ⟨w.heap.size, 0, none⟩ (.slice a7 (l'.length + 1) c7)) (.slice a7 (l'.length + 1) c7) (putL l' (flight f cn tick fr tt data d))) := hid (HO7.out.keep (keeps_set (fun b => b = w.heap.size) _ _ _ rfl) (fun b _ h1 h2 => by omega))
                  have KX : Hd (Keeps (fun b => b = w.heap.size) w10 (w7.setCell ⟨w.heap.size, 0, none⟩ (.slice a7 (l'.length + 1) c7))) := hid (KR.out.trans (K7.out.setCell (.inl rfl) _))
                  clear HO7 BP7 x7 y7 e0 e1
                  go_wp2
                  go_roundw
                  case rel => exact ⟨k + 1, a7, c7, putL l' (flight f cn tick fr tt data d), by go_num, by omega, hid (by rw [HNX.out, HLL.out]; omega), hid (by rw [sentL_succ HDK.out, ← HLE.out]), by rw [HNX.out]; exact HBP, by rw [HNX.out]; exact HOX, KX⟩
                  case measure => simp [intOf]; omega
              · have hkn : k = nd := by omega
                have HLF : Hd (l' = sentL l f cn tick fr tt data ds) := hid (by rw [HLE.out, List.take_of_length_le (by rw [HND.out]; omega)])
                have k0 : ¬ ((k : Int) < nd) := by omega
                have u3 : IntKind.i64.wrap (cn + 1) = cn + 1 := IntWalk.i64_in _ (by omega)
                have e1 : wr.cell? ⟨w.heap.size, 1, none⟩ = some (.int .i64 cn) := blk_cell BP.out 1
                have e2 : wr.frozen? ⟨w.heap.size, 1, none⟩ = false := blk_free BP.out 1
                clear hkm hkn
                go_upto_region 21 with fail
                generalize hW9 : World.setCell wr _ _ = W9
                have BP9 : Hd (Blk W9 w.heap.size #[.slice a l'.length c, .int .i64 (cn + 1)] 28) := hid (by rw [← hW9]; exact blk_set BP.out 1 _)
                have BR9 : Hd (Blk W9 (w.heap.size + 1 + 1) #[.slice none 0 0, .int .i64 0] 28) := hid (by rw [← hW9]; exact blk_other BR.out (by omega) _ _)
                have KA9 : Hd (Keeps (fun _ => False) w W9) := hid (by rw [← hW9]; exact KA.out.setCell (.inr (Nat.le_refl _)) _)
                have HO9 : Hd (FlO W.heap.size W9 (.slice a l'.length c) l') := hid (by rw [← hW9]; exact HO.out.keep (keeps_set (fun b => b = w.heap.size) _ _ _ rfl) (fun b _ h1 h2 => by omega))
                clear hW9 e1 e2
                obtain ⟨KF, F2⟩ := fin2 KA9.out (b := w.heap.size + 1 + 1) (by omega) BR9.out (.slice a l'.length c) (.int .i64 (cn + 1))
                have HOF : Hd (FlO w.heap.size ((W9.setCell ⟨w.heap.size + 1 + 1, 0, none⟩ (.slice a l'.length c)).setCell ⟨w.heap.size + 1 + 1, 1, none⟩ (.int .i64 (cn + 1))) (.slice a l'.length c) l') := hid (((HO9.out.keep (keeps_set (fun b => b = w.heap.size + 1 + 1) _ _ _ rfl) (fun b _ h1 h2 => by omega)).keep (keeps_set (fun b => b = w.heap.size + 1 + 1) _ _ _ rfl) (fun b _ h1 h2 => by omega)).mono (by omega))
                have r0 := blk_cell F2 0
                have r1 := blk_cell F2 1
                have HKF := hid KF
                have o0 : W9.cell? ⟨w.heap.size, 0, none⟩ = some (.slice a l'.length c) := blk_cell BP9.out 0
                have o1 : W9.cell? ⟨w.heap.size, 1, none⟩ = some (.int .i64 (cn + 1)) := blk_cell BP9.out 1
                have o2 : W9.frozen? ⟨w.heap.size + 1 + 1, 0, none⟩ = false := blk_free BR9.out 0
                have o3 : W9.frozen? ⟨w.heap.size + 1 + 1, 1, none⟩ = false := blk_free BR9.out 1
                have o4 : W9.cell? ⟨w.heap.size + 1 + 1, 0, none⟩ = some (.slice none 0 0) := blk_cell BR9.out 0
                have o5 : W9.cell? ⟨w.heap.size + 1 + 1, 1, none⟩ = some (.int .i64 0) := blk_cell BR9.out 1
                clear KF F2
                go_wp2
                refine bodyPost_ret (v := .tuple #[.agg #[.slice a l'.length c, .int .i64 (cn + 1)], .bool true]) (by simp [results, Try.results10, go_sem, r0, r1]) rfl ?_
                rw [HSR.out, ← HLF.out]
                exact ⟨a, l'.length, c, rfl, rfl, HOF.out, HKF.out⟩
end Go.Proofs.Ytjapmpolagblaaa
