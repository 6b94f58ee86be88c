/- Link: LinkOwns walked. -/
import Derived.Test.YtjapmpolagblaaaLinkX
import Derived.Test.YtjapmpolagblaaaLinkJ2
namespace Go.Proofs.Ytjapmpolagblaaa
open Go.RowKit
attribute [local go_sem ↓] Go.wp_at_zero Go.wp_at_succ
theorem sentL_len2 (l : List Flt) (f : Ft) (cn tick fr tt : Int) (data : List Nat) (ds : List Int) : (sentL l f cn tick fr tt data ds).length = l.length + ds.length := by
  induction ds generalizing l with
  | nil => rfl
  | cons d ds ih =>
    show (sentL (putL l (flight f cn tick fr tt data d)) f cn tick fr tt data ds).length = _
    rw [ih, putL_length, List.length_cons]; omega
theorem mem_sentL2 {l : List Flt} {f : Ft} {cn tick fr tt : Int} {data : List Nat} {ds : List Int} {x : Flt} (h : x ∈ sentL l f cn tick fr tt data ds) : x ∈ l ∨ ∃ d ∈ ds, x = flight f cn tick fr tt data d := by
  induction ds generalizing l with
  | nil => exact .inl h
  | cons d ds ih =>
    rcases ih (l := putL l (flight f cn tick fr tt data d)) h with h | ⟨e, he, h⟩
    · rcases mem_putL h with h | h
      · exact .inl h
      · exact .inr ⟨d, by simp, h⟩
    · exact .inr ⟨e, by simp [he], h⟩
theorem send_d {W : Option Win} {l : List Flt} {fts : List Ft} {cn tick fr tt : Int} {data : List Nat} (hl : ∀ x ∈ l, x.d.length ≤ 100 ∧ ∀ c ∈ x.d, c < 256) (h1 : data.length ≤ 100) (h2 : ∀ c ∈ data, c < 256)
    (h3 : ∀ x ∈ fts, x.ok) : (sendR W l cn fts tick fr tt data).1.length ≤ l.length + 2 ∧ ∀ x ∈ (sendR W l cn fts tick fr tt data).1, x.d.length ≤ 100 ∧ ∀ c ∈ x.d, c < 256 := by
  have hf : (fateL fts cn).fg.length ≤ 100 ∧ ∀ c ∈ (fateL fts cn).fg, c < 256 := by
    unfold fateL
    cases hx : fts.find? (fun x => x.m == cn) with
    | none => simp [Ft.nil]
    | some x => exact h3 x (List.mem_of_find?_eq_some hx)
  have hsp := spoil_ok (x := fateL fts cn) h1 h2 hf.1 hf.2
  unfold sendR
  split
  · exact ⟨by show l.length ≤ _; omega, hl⟩
  · split
    · exact ⟨by show l.length ≤ _; omega, hl⟩
    · obtain ⟨hd1, _⟩ := delays_ok (fateL fts cn)
      refine ⟨by show (sentL _ _ _ _ _ _ _ _).length ≤ _; rw [sentL_len2]; omega, fun x hx => ?_⟩
      rcases mem_sentL2 hx with h | ⟨d, _, rfl⟩
      · exact hl x h
      · exact hsp
theorem ArT.keep {B : Nat} {S : Nat → Prop} {w w' : World} {v : Value} {l : List Flt} (h : ArT B w v l) (hk : Keeps S w w') (hd : ∀ b, b < w.heap.size → B ≤ b → ¬ S b) : ArT B w' v l := by
  obtain ⟨xs, h1, h2⟩ := h
  exact ⟨xs, h1.keep hk hd, fun i x hx => ((h2 i x hx).mono (K' := fun b => B ≤ b ∧ v.ownBlock ≠ some b ∧ Thaw w' b) (fun b hb hh => ⟨hh.1, hh.2.1, hh.2.2.keep hk hb (hd b hb hh.1)⟩)).keep hk (fun b hb hh => hd b hb hh.1)⟩
/-- a world behind stores into blocks of S: what could be read and written can be -/
structure Pok (S : Nat → Prop) (W w : World) : Prop where
  k : Keeps S W w
  c : ∀ p v, W.cell? p = some v → ∃ v', w.cell? p = some v'
  f : ∀ p, w.frozen? p = W.frozen? p
theorem Pok.refl (S : Nat → Prop) (W : World) : Pok S W W := ⟨Keeps.refl _ _, fun _ v h => ⟨v, h⟩, fun _ => rfl⟩
theorem Pok.set {S : Nat → Prop} {W w : World} (h : Pok S W w) {p : Addr} (hp : S p.block) (v : Value) : Pok S W (w.setCell p v) :=
  ⟨h.k.setCell (.inl hp) v, fun q x hq => by obtain ⟨y, hy⟩ := h.c q x hq; exact cell?_setCell_some hy, fun q => by rw [World.frozen?_setCell]; exact h.f q⟩
def LnkQ (KA : Nat → Prop) (R : List Flt × Int × Bool) (W : World) (bx : Nat) (cs : Array Value) (wx : World) : Prop := ∃ a c, cs = #[.slice a R.1.length c, .int .i64 R.2.1] ∧ Fls (fun b => (KA b ∨ W.heap.size ≤ b) ∧ b ≠ bx) wx (.slice a R.1.length c) R.1
def LnkP (R : List Flt × Int × Bool) (W : World) (bx : Nat) (cs : Array Value) (wx : World) : Prop := ∃ a c, cs = #[.slice a R.1.length c, .int .i64 R.2.1] ∧ Fls (fun b => W.heap.size ≤ b ∧ b ≠ bx) wx (.slice a R.1.length c) R.1
set_option maxRecDepth 100000 in set_option maxHeartbeats 1000000 in
theorem owns_any (v0 v1 v2 v3 : Value) (l0 : List Int) (m1 : Nat) (l2 : List Nat) (m3 : Nat) (w : World) (h0 : Sl (fun b => b < w.heap.size) w v0 (i64s l0)) (hl0 : ∀ n ∈ l0, -9223372036854775808 ≤ n ∧ n ≤ 9223372036854775807) (h1 : ArrS 4 (fun b => b < w.heap.size) w v1 m1) (h2 : Sl (fun b => b < w.heap.size) w v2 (u8s l2)) (hl2 : ∀ c ∈ l2, c < 256) (h3 : ArrS 2 (fun b => b < w.heap.size) w v3 m3) :
    Calls Try.prog 4 #[v0, v1, v2, v3] w fun e w' => e = .returned (.bool true) ∧ Keeps (fun _ => False) w w' := by
  have H0 := hid h0; have H1 := hid h1; have H2 := hid h2; have H3 := hid h3; have HL0 := hid hl0; have HL2 := hid hl2
  clear h0 h1 h2 h3 hl0 hl2
  go_enter Try.func4, Try.ntmps4
  go_wp2_with fail
  refine (Table_any _ l0 _ H0.out HL0.out).mono ?_
  rintro e W1 ⟨at', nt, ct, ws, rfl, rfl, hw8, hws, hsw, hk⟩
  have HWS := hid hws; have HSW := hid hsw; clear hws hsw
  have HK : Hd (Keeps (fun _ => False) w W1) := hid hk
  have z_W1 := hk.size
  clear hk
  go_wp2_with fail
  refine (Fates_any _ _ m1 l2 _ ((H1.out.keep HK.out (fun _ _ _ h => h)).mono (fun b h _ => h)) ((H2.out.keep HK.out (fun _ _ _ h => h)).mono (fun b h _ => h)) HL2.out).mono ?_
  rintro e W2 ⟨af, nf, cf, fts, rfl, rfl, hf6, hfs, hok, hk⟩
  have HFS := hid hfs; have HOK := hid hok; clear hfs hok
  have HWS' : Hd (Wins (fun b => w.heap.size ≤ b) W2 (.slice at' ws.length ct) ws) := hid (HWS.out.keep hk (fun _ _ _ h => h))
  clear HWS
  have HWS := HWS'
  clear HWS'
  have HK' : Hd (Keeps (fun _ => False) w W2) := hid (HK.out.trans hk)
  clear HK
  have HK := HK'
  clear HK'
  have z_W2 := hk.size
  clear hk
  go_wp2_with fail
  refine (sent_any _ _ _ ws fts m3 _ (HWS.out.mono (fun b h _ => h)) HSW.out (HFS.out.mono (fun b h _ => h)) hf6 HOK.out ((H3.out.keep HK.out (fun _ _ _ h => h)).mono (fun b h _ => h))).mono ?_
  rintro e W3 ⟨l, cn, tick, a1, c1, a2, c2, rfl, hG, htk, hcn, hF1, hF2, hk⟩
  have HG := hid hG; have F1 := hid hF1; have F2 := hid hF2; clear hG hF1 hF2
  have HWS' : Hd (Wins (fun b => w.heap.size ≤ b) W3 (.slice at' ws.length ct) ws) := hid (HWS.out.keep hk (fun _ _ _ h => h))
  have HFS' : Hd (Fts (fun b => W1.heap.size ≤ b) W3 (.slice af fts.length cf) fts) := hid (HFS.out.keep hk (fun _ _ _ h => h))
  clear HWS HFS
  have HWS := HWS'
  clear HWS'
  have HFS := HFS'
  clear HFS'
  have HK' : Hd (Keeps (fun _ => False) w W3) := hid (HK.out.trans hk)
  clear HK
  have HK := HK'
  clear HK'
  have z_W3 := hk.size
  clear hk
  have F1' : Hd (Fls (fun b => W2.heap.size ≤ b ∧ b < W3.heap.size) W3 (.slice a1 l.length c1) l) := hid (F1.out.mono (fun b h1 h2 => ⟨h2, h1⟩))
  clear F1
  have F1 := F1'
  clear F1'
  have F2' : Hd (Fls (fun b => W2.heap.size ≤ b ∧ b < W3.heap.size) W3 (.slice a2 l.length c2) l) := hid (F2.out.mono (fun b h1 h2 => ⟨h2, h1⟩))
  clear F2
  have F2 := F2'
  clear F2'
  have hlm : l.length ≤ 24 := HG.out.len
  have HDG : Hd (∀ x ∈ l, x.d.length ≤ 100 ∧ ∀ c ∈ x.d, c < 256) := hid HG.out.d
  have HD8 : Hd (∀ x ∈ l, ∀ c ∈ x.d, c < 256) := hid (fun x hx => (HG.out.d x hx).2)
  obtain ⟨R, hR⟩ : ∃ R, sendL l cn [conW] fts 1 0 12 [7, 8, 9] = R := ⟨_, rfl⟩
  have HR := hid hR
  have HREF : Hd (sendR (refW [conW] 0 12 1) l cn fts 1 0 12 [7, 8, 9] = R) := hid (by rw [← hR]; unfold sendL; rw [show refW [conW] 0 12 1 = winW [conW] 0 12 1 from by kernel_rfl])
  obtain ⟨hrl, hrd⟩ : R.1.length ≤ l.length + 2 ∧ ∀ x ∈ R.1, x.d.length ≤ 100 ∧ ∀ c ∈ x.d, c < 256 := by rw [← hR]; exact send_d HDG.out (by simp) (by simp) HOK.out
  have HRD := hid hrd
  clear hR hrd
  have H79 : Hd (∀ c ∈ [7, 8, 9], c < 256) := hid (by simp)
  go_upto_region 4 with fail
  generalize hW : World.alloc (World.alloc W3 _) _ = W4
  have KS : Hd (Keeps (fun _ => False) W3 W4) := hid (by rw [← hW]; exact (Keeps.alloc (Keeps.alloc (Keeps.refl (fun _ => False) W3) _) _))
  have HWS' : Hd (Wins (fun b => w.heap.size ≤ b) W4 (.slice at' ws.length ct) ws) := hid (HWS.out.keep KS.out (fun _ _ _ h => h))
  have HFS' : Hd (Fts (fun b => W1.heap.size ≤ b) W4 (.slice af fts.length cf) fts) := hid (HFS.out.keep KS.out (fun _ _ _ h => h))
  have F1' : Hd (Fls (fun b => W2.heap.size ≤ b ∧ b < W3.heap.size) W4 (.slice a1 l.length c1) l) := hid (F1.out.keep KS.out (fun _ _ _ h => h))
  have F2' : Hd (Fls (fun b => W2.heap.size ≤ b ∧ b < W3.heap.size) W4 (.slice a2 l.length c2) l) := hid (F2.out.keep KS.out (fun _ _ _ h => h))
  have BK : Hd (Blk W4 W3.heap.size #[.slice a1 l.length c1, .int .i64 cn] 28) := hid (by rw [← hW]; exact (blk_alloc (blk_new _ _ _) _))
  have BP : Hd (Blk W4 (W3.heap.size + 1) #[.slice a2 l.length c2, .int .i64 cn, .int .i64 tick] 47) := hid (by rw [← hW]; exact (blk_new' _ _ _ _ (by simp)))
  clear HWS HFS F1 F2
  have HWS := HWS'
  clear HWS'
  have HFS := HFS'
  clear HFS'
  have F1 := F1'
  clear F1'
  have F2 := F2'
  clear F2'
  have HK' : Hd (Keeps (fun _ => False) w W4) := hid (HK.out.trans KS.out)
  clear HK
  have HK := HK'
  clear HK'
  have z_W4 : W3.heap.size + 2 ≤ W4.heap.size := by rw [← hW]; simp
  clear hW KS
  go_upto_region 5 with fail
  generalize hW : World.alloc (World.alloc W4 _) _ = W5
  have KS : Hd (Keeps (fun _ => False) W4 W5) := hid (by rw [← hW]; exact (Keeps.alloc (Keeps.alloc (Keeps.refl (fun _ => False) W4) _) _))
  have HWS' : Hd (Wins (fun b => w.heap.size ≤ b) W5 (.slice at' ws.length ct) ws) := hid (HWS.out.keep KS.out (fun _ _ _ h => h))
  have HFS' : Hd (Fts (fun b => W1.heap.size ≤ b) W5 (.slice af fts.length cf) fts) := hid (HFS.out.keep KS.out (fun _ _ _ h => h))
  have F1' : Hd (Fls (fun b => W2.heap.size ≤ b ∧ b < W3.heap.size) W5 (.slice a1 l.length c1) l) := hid (F1.out.keep KS.out (fun _ _ _ h => h))
  have F2' : Hd (Fls (fun b => W2.heap.size ≤ b ∧ b < W3.heap.size) W5 (.slice a2 l.length c2) l) := hid (F2.out.keep KS.out (fun _ _ _ h => h))
  have BK' : Hd (Blk W5 W3.heap.size #[.slice a1 l.length c1, .int .i64 cn] 28) := hid (by rw [← hW]; exact (blk_alloc (blk_alloc BK.out _) _))
  have BP' : Hd (Blk W5 (W3.heap.size + 1) #[.slice a2 l.length c2, .int .i64 cn, .int .i64 tick] 47) := hid (by rw [← hW]; exact (blk_alloc (blk_alloc BP.out _) _))
  have BD : Hd (Blk W5 W4.heap.size #[.int .u8 7, .int .u8 8, .int .u8 9] 5) := hid (by rw [← hW]; exact (blk_alloc (blk_new _ _ _) _))
  have BM : Hd (Blk W5 (W4.heap.size + 1) #[.int .i64 0, .int .i64 12, .slice (some ⟨W4.heap.size, 0, none⟩) 3 3] 37) := hid (by rw [← hW]; exact (blk_new' _ _ _ _ (by simp)))
  clear HWS HFS F1 F2 BK BP
  have HWS := HWS'
  clear HWS'
  have HFS := HFS'
  clear HFS'
  have F1 := F1'
  clear F1'
  have F2 := F2'
  clear F2'
  have BK := BK'
  clear BK'
  have BP := BP'
  clear BP'
  have HK' : Hd (Keeps (fun _ => False) w W5) := hid (HK.out.trans KS.out)
  clear HK
  have HK := HK'
  clear HK'
  have z_W5 : W4.heap.size + 2 ≤ W5.heap.size := by rw [← hW]; simp
  clear hW KS
  have SD : Hd (Sl (fun _ => True) W5 (.slice (some ⟨W4.heap.size, 0, none⟩) 3 3) (u8s [7, 8, 9])) := hid (sl_cells (l := [7, 8, 9]) (by simp) BD.out)
  go_upto_region 5 with fail
  go_cut [15, 16] from 39 to 45 (fun u15 u16 wx => CutF W5 28 (LnkP R W5) u15 wx ∧ u16 = .bool R.2.2)
  case first =>
    have KC : Hd (Keeps (fun _ => False) W5 W5) := hid (Keeps.refl _ _)
    have HSS : Hd (∀ w', Keeps (fun _ => False) W5 w' → (w'.cell? ⟨W3.heap.size, 0, none⟩ = some (.slice a1 l.length c1) ∧ w'.cell? ⟨W3.heap.size, 1, none⟩ = some (.int .i64 cn) ∧ w'.cell? ⟨W4.heap.size + 1, 0, none⟩ = some (.int .i64 0) ∧ w'.cell? ⟨W4.heap.size + 1, 1, none⟩ = some (.int .i64 12) ∧ w'.cell? ⟨W4.heap.size + 1, 2, none⟩ = some (.slice (some ⟨W4.heap.size, 0, none⟩) 3 3))) := hid (fun w' hk => ⟨blk_cell (blk_keep BK.out hk (fun h => h)) 0, blk_cell (blk_keep BK.out hk (fun h => h)) 1, blk_cell (blk_keep BM.out hk (fun h => h)) 0, blk_cell (blk_keep BM.out hk (fun h => h)) 1, blk_cell (blk_keep BM.out hk (fun h => h)) 2⟩)
    go_region_held (fun w' => w'.cell? ⟨W3.heap.size, 0, none⟩ = some (.slice a1 l.length c1) ∧ w'.cell? ⟨W3.heap.size, 1, none⟩ = some (.int .i64 cn) ∧ w'.cell? ⟨W4.heap.size + 1, 0, none⟩ = some (.int .i64 0) ∧ w'.cell? ⟨W4.heap.size + 1, 1, none⟩ = some (.int .i64 12) ∧ w'.cell? ⟨W4.heap.size + 1, 2, none⟩ = some (.slice (some ⟨W4.heap.size, 0, none⟩) 3 3)) (exact HSS.out _ (by repeat (first | (with_reducible exact KC.out) | (with_reducible exact Keeps.refl _ _) | (with_reducible apply Keeps.drewN) | (with_reducible apply Keeps.drew) | (with_reducible apply Keeps.alloc) | (refine Keeps.setCell ?_ (.inr (by first | exact Nat.le_refl _ | (simp; done) | (simp; omega) | omega)) _))))
      (first
      | (go_at_call 14; (refine (contact_any _).mono ?_); rintro e wy0 ⟨a1', c1', rfl, hw1, hk⟩; have KC2 : Hd (Keeps (fun _ => False) W5 wy0) := hid (Keeps.trans (S := fun _ => False) (by repeat (first | (with_reducible exact KC.out) | (with_reducible exact Keeps.refl _ _) | (with_reducible apply Keeps.drewN) | (with_reducible apply Keeps.drew) | (with_reducible apply Keeps.alloc))) hk); have zc := KC.out.size; have HWC := hid hw1; have KA1 := hid hk; have L1 : Hd (Keeps (fun _ => False) wy0 wy0) := hid (Keeps.refl _ _); clear hw1; (try (replace LNB := hid (Keeps.trans (S := fun _ => False) (by repeat (first | (with_reducible exact LNB.out) | (with_reducible exact Keeps.refl _ _) | (with_reducible apply Keeps.drewN) | (with_reducible apply Keeps.drew) | (with_reducible apply Keeps.alloc))) hk))); (first | (have HNBX := HNB; clear HNBX) | (have HNB : Hd (∀ V, Keeps (fun _ => False) wy0 V → Blk V W5.heap.size #[.slice none 0 0, .int .i64 0] 28) := hid (fun V hv => blk_keep (blk_keep (by (repeat (first | (with_reducible apply blk_drewN) | (with_reducible apply blk_drew) | (with_reducible refine blk_new' _ _ _ _ ?_) | (with_reducible apply blk_alloc))); (first | (with_reducible rfl) | (simp only [World.size_alloc, World.size_drew]; done) | (simp; done))) hk (fun h => h)) hv (fun h => h)); have LNB : Hd (Keeps (fun _ => False) wy0 wy0) := hid (Keeps.refl _ _)) | (have HNB : Hd (∀ V, Keeps (fun _ => False) wy0 V → Blk V (W5.heap.size + 1) #[.slice none 0 0, .int .i64 0] 28) := hid (fun V hv => blk_keep (blk_keep (by (repeat (first | (with_reducible apply blk_drewN) | (with_reducible apply blk_drew) | (with_reducible refine blk_new' _ _ _ _ ?_) | (with_reducible apply blk_alloc))); (first | (with_reducible rfl) | (simp only [World.size_alloc, World.size_drew]; done) | (simp; done))) hk (fun h => h)) hv (fun h => h)); have LNB : Hd (Keeps (fun _ => False) wy0 wy0) := hid (Keeps.refl _ _)) | skip); replace KC := KC2; clear KC2; (try (have nF0 := blk_cell (HNB.out _ LNB.out) 0; have nG0 := blk_free (HNB.out _ LNB.out) 0; have nF1 := blk_cell (HNB.out _ LNB.out) 1; have nG1 := blk_free (HNB.out _ LNB.out) 1)); have zk := hk.size; (try simp at zk); have zd := KC.out.size; replace hk := hid hk)
      | (go_at_call 10; (refine (Send_any _ _ _ l [conW] fts cn 1 0 12 (some ⟨W4.heap.size, 0, none⟩) 3 [7, 8, 9] _ ((F1.out.keep (by repeat (first | (with_reducible exact KC.out) | (with_reducible exact Keeps.refl _ _) | (with_reducible apply Keeps.drewN) | (with_reducible apply Keeps.drew) | (with_reducible apply Keeps.alloc))) (fun _ _ _ h => h)).mono (fun b h _ => h)) ((HWC.out.keep (S := fun _ => False) (by repeat (first | (with_reducible exact L1.out) | (with_reducible exact Keeps.refl _ _) | (with_reducible apply Keeps.drewN) | (with_reducible apply Keeps.drew) | (with_reducible apply Keeps.alloc))) (fun _ _ _ h => h)).mono (fun b h _ => h)) ((HFS.out.keep (by repeat (first | (with_reducible exact KC.out) | (with_reducible exact Keeps.refl _ _) | (with_reducible apply Keeps.drewN) | (with_reducible apply Keeps.drew) | (with_reducible apply Keeps.alloc))) (fun _ _ _ h => h)).mono (fun b h _ => h)) ((SD.out.keep (by repeat (first | (with_reducible exact KC.out) | (with_reducible exact Keeps.refl _ _) | (with_reducible apply Keeps.drewN) | (with_reducible apply Keeps.drew) | (with_reducible apply Keeps.alloc))) (fun _ _ _ h => h)).mono (fun b h _ => h)) H79.out (by omega) (fun x hx => by have := (HDG.out x hx).1; omega) (by omega) (fun x hx => by have := (HOK.out x hx).1; omega) (by simp) (by omega) (by omega) (by omega) (by omega)).mono ?_); rw [HR.out]; rintro e wy1 ⟨ar, nr, cr, rfl, rfl, hfr, hk⟩; have KC2 : Hd (Keeps (fun _ => False) W5 wy1) := hid (Keeps.trans (S := fun _ => False) (by repeat (first | (with_reducible exact KC.out) | (with_reducible exact Keeps.refl _ _) | (with_reducible apply Keeps.drewN) | (with_reducible apply Keeps.drew) | (with_reducible apply Keeps.alloc))) hk); have zc := KC.out.size; have HFR := hid (FlO.fls hfr); clear hfr; (try (replace LNB := hid (Keeps.trans (S := fun _ => False) (by repeat (first | (with_reducible exact LNB.out) | (with_reducible exact Keeps.refl _ _) | (with_reducible apply Keeps.drewN) | (with_reducible apply Keeps.drew) | (with_reducible apply Keeps.alloc))) hk))); (first | (have HNBX := HNB; clear HNBX) | (have HNB : Hd (∀ V, Keeps (fun _ => False) wy1 V → Blk V W5.heap.size #[.slice none 0 0, .int .i64 0] 28) := hid (fun V hv => blk_keep (blk_keep (by (repeat (first | (with_reducible apply blk_drewN) | (with_reducible apply blk_drew) | (with_reducible refine blk_new' _ _ _ _ ?_) | (with_reducible apply blk_alloc))); (first | (with_reducible rfl) | (simp only [World.size_alloc, World.size_drew]; done) | (simp; done))) hk (fun h => h)) hv (fun h => h)); have LNB : Hd (Keeps (fun _ => False) wy1 wy1) := hid (Keeps.refl _ _)) | (have HNB : Hd (∀ V, Keeps (fun _ => False) wy1 V → Blk V (W5.heap.size + 1) #[.slice none 0 0, .int .i64 0] 28) := hid (fun V hv => blk_keep (blk_keep (by (repeat (first | (with_reducible apply blk_drewN) | (with_reducible apply blk_drew) | (with_reducible refine blk_new' _ _ _ _ ?_) | (with_reducible apply blk_alloc))); (first | (with_reducible rfl) | (simp only [World.size_alloc, World.size_drew]; done) | (simp; done))) hk (fun h => h)) hv (fun h => h)); have LNB : Hd (Keeps (fun _ => False) wy1 wy1) := hid (Keeps.refl _ _)) | (have HNB : Hd (∀ V, Keeps (fun _ => False) wy1 V → Blk V wy0.heap.size #[.slice none 0 0, .int .i64 0] 28) := hid (fun V hv => blk_keep (blk_keep (by (repeat (first | (with_reducible apply blk_drewN) | (with_reducible apply blk_drew) | (with_reducible refine blk_new' _ _ _ _ ?_) | (with_reducible apply blk_alloc))); (first | (with_reducible rfl) | (simp only [World.size_alloc, World.size_drew]; done) | (simp; done))) hk (fun h => h)) hv (fun h => h)); have LNB : Hd (Keeps (fun _ => False) wy1 wy1) := hid (Keeps.refl _ _)) | (have HNB : Hd (∀ V, Keeps (fun _ => False) wy1 V → Blk V (wy0.heap.size + 1) #[.slice none 0 0, .int .i64 0] 28) := hid (fun V hv => blk_keep (blk_keep (by (repeat (first | (with_reducible apply blk_drewN) | (with_reducible apply blk_drew) | (with_reducible refine blk_new' _ _ _ _ ?_) | (with_reducible apply blk_alloc))); (first | (with_reducible rfl) | (simp only [World.size_alloc, World.size_drew]; done) | (simp; done))) hk (fun h => h)) hv (fun h => h)); have LNB : Hd (Keeps (fun _ => False) wy1 wy1) := hid (Keeps.refl _ _)) | skip); replace KC := KC2; clear KC2; (try (have nF0 := blk_cell (HNB.out _ LNB.out) 0; have nG0 := blk_free (HNB.out _ LNB.out) 0; have nF1 := blk_cell (HNB.out _ LNB.out) 1; have nG1 := blk_free (HNB.out _ LNB.out) 1)); have zk := hk.size; (try simp at zk); have zd := KC.out.size; replace hk := hid hk))
    all_goals
      go_wp2_with fail
      go_meet
      first | ((with_reducible refine ⟨cutF_new KC.out ?_, rfl⟩); exact (fun w' hk => ⟨ar, cr, rfl, (HFR.out.mono (K' := fun b => W5.heap.size ≤ b ∧ b ≠ wy1.heap.size) (fun b h1 h => by (try simp at h); omega)).keep hk (fun _ _ _ h => h)⟩)) | ((with_reducible refine ⟨cutF_old2 KC.out (by first | exact Nat.le_refl _ | omega | (simp; done) | (simp; omega)) (HNB.out _ LNB.out) ?_, rfl⟩); exact (fun w' hk => ⟨ar, cr, rfl, (HFR.out.keep hk (fun b _ h1 h2 => by (try simp at h1); omega)).mono (fun b _ h => by (try simp at h); omega)⟩)) | ((with_reducible refine ⟨cutF_drew (fun _ _ _ h => h) (cutF_new KC.out ?_), rfl⟩); exact (fun w' hk => ⟨ar, cr, rfl, (HFR.out.mono (K' := fun b => W5.heap.size ≤ b ∧ b ≠ wy1.heap.size) (fun b h1 h => by (try simp at h); omega)).keep hk (fun _ _ _ h => h)⟩)) | ((with_reducible refine ⟨cutF_drew (fun _ _ _ h => h) (cutF_old2 KC.out (by first | exact Nat.le_refl _ | omega | (simp; done) | (simp; omega)) (HNB.out _ LNB.out) ?_), rfl⟩); exact (fun w' hk => ⟨ar, cr, rfl, (HFR.out.keep hk (fun b _ h1 h2 => by (try simp at h1); omega)).mono (fun b _ h => by (try simp at h); omega)⟩))
  case rest =>
    obtain ⟨⟨b_BX, cs_BX, rfl, hb_BX, BX, HP, hk⟩, rfl⟩ := hcut
    replace hk := hk.out
    generalize wc = W6 at *
    have HWS' : Hd (Wins (fun b => w.heap.size ≤ b) W6 (.slice at' ws.length ct) ws) := hid (HWS.out.keep hk (fun _ _ _ h => h))
    have HFS' : Hd (Fts (fun b => W1.heap.size ≤ b) W6 (.slice af fts.length cf) fts) := hid (HFS.out.keep hk (fun _ _ _ h => h))
    have F1' : Hd (Fls (fun b => W2.heap.size ≤ b ∧ b < W3.heap.size) W6 (.slice a1 l.length c1) l) := hid (F1.out.keep hk (fun _ _ _ h => h))
    have F2' : Hd (Fls (fun b => W2.heap.size ≤ b ∧ b < W3.heap.size) W6 (.slice a2 l.length c2) l) := hid (F2.out.keep hk (fun _ _ _ h => h))
    have BK' : Hd (Blk W6 W3.heap.size #[.slice a1 l.length c1, .int .i64 cn] 28) := hid (blk_keep BK.out hk (fun h => h))
    have BP' : Hd (Blk W6 (W3.heap.size + 1) #[.slice a2 l.length c2, .int .i64 cn, .int .i64 tick] 47) := hid (blk_keep BP.out hk (fun h => h))
    have BD' : Hd (Blk W6 W4.heap.size #[.int .u8 7, .int .u8 8, .int .u8 9] 5) := hid (blk_keep BD.out hk (fun h => h))
    have BM' : Hd (Blk W6 (W4.heap.size + 1) #[.int .i64 0, .int .i64 12, .slice (some ⟨W4.heap.size, 0, none⟩) 3 3] 37) := hid (blk_keep BM.out hk (fun h => h))
    have SD' : Hd (Sl (fun _ => True) W6 (.slice (some ⟨W4.heap.size, 0, none⟩) 3 3) (u8s [7, 8, 9])) := hid (SD.out.keep hk (fun _ _ _ h => h))
    clear HWS HFS F1 F2 BK BP BD BM SD
    have HWS := HWS'
    clear HWS'
    have HFS := HFS'
    clear HFS'
    have F1 := F1'
    clear F1'
    have F2 := F2'
    clear F2'
    have BK := BK'
    clear BK'
    have BP := BP'
    clear BP'
    have BD := BD'
    clear BD'
    have BM := BM'
    clear BM'
    have SD := SD'
    clear SD'
    have HK' : Hd (Keeps (fun _ => False) w W6) := hid (HK.out.trans hk)
    clear HK
    have HK := HK'
    clear HK'
    have z_W6 := hk.size
    clear hk
    obtain ⟨xa, xc, rfl, hxf⟩ := HP.out
    have XF : Hd (Fls (fun b => W5.heap.size ≤ b ∧ b ≠ b_BX) W6 (.slice xa R.1.length xc) R.1) := hid hxf
    clear hxf HP
    go_upto_region 6 with fail
    go_cut [17, 18] from 47 to 54 (fun u17 u18 wx => CutF W6 28 (LnkQ (fun b => W2.heap.size ≤ b ∧ b < W3.heap.size) R W6) u17 wx ∧ u18 = .bool R.2.2)
    case first =>
      have KC : Hd (Keeps (fun _ => False) W6 W6) := hid (Keeps.refl _ _)
      have HSS : Hd (∀ w', Keeps (fun _ => False) W6 w' → (w'.cell? ⟨W3.heap.size + 1, 0, none⟩ = some (.slice a2 l.length c2) ∧ w'.cell? ⟨W3.heap.size + 1, 1, none⟩ = some (.int .i64 cn) ∧ w'.cell? ⟨W4.heap.size + 1, 0, none⟩ = some (.int .i64 0) ∧ w'.cell? ⟨W4.heap.size + 1, 1, none⟩ = some (.int .i64 12) ∧ w'.cell? ⟨W4.heap.size + 1, 2, none⟩ = some (.slice (some ⟨W4.heap.size, 0, none⟩) 3 3))) := hid (fun w' hk => ⟨blk_cell (blk_keep BP.out hk (fun h => h)) 0, blk_cell (blk_keep BP.out hk (fun h => h)) 1, blk_cell (blk_keep BM.out hk (fun h => h)) 0, blk_cell (blk_keep BM.out hk (fun h => h)) 1, blk_cell (blk_keep BM.out hk (fun h => h)) 2⟩)
      go_region_held (fun w' => w'.cell? ⟨W3.heap.size + 1, 0, none⟩ = some (.slice a2 l.length c2) ∧ w'.cell? ⟨W3.heap.size + 1, 1, none⟩ = some (.int .i64 cn) ∧ w'.cell? ⟨W4.heap.size + 1, 0, none⟩ = some (.int .i64 0) ∧ w'.cell? ⟨W4.heap.size + 1, 1, none⟩ = some (.int .i64 12) ∧ w'.cell? ⟨W4.heap.size + 1, 2, none⟩ = some (.slice (some ⟨W4.heap.size, 0, none⟩) 3 3)) (exact HSS.out _ (by repeat (first | (with_reducible exact KC.out) | (with_reducible exact Keeps.refl _ _) | (with_reducible apply Keeps.drewN) | (with_reducible apply Keeps.drew) | (with_reducible apply Keeps.alloc) | (refine Keeps.setCell ?_ (.inr (by first | exact Nat.le_refl _ | (simp; done) | (simp; omega) | omega)) _))))
        (first
        | (go_at_call 14; (refine (contact_any _).mono ?_); rintro e wy0 ⟨a1', c1', rfl, hw1, hk⟩; have KC2 : Hd (Keeps (fun _ => False) W6 wy0) := hid (Keeps.trans (S := fun _ => False) (by repeat (first | (with_reducible exact KC.out) | (with_reducible exact Keeps.refl _ _) | (with_reducible apply Keeps.drewN) | (with_reducible apply Keeps.drew) | (with_reducible apply Keeps.alloc))) hk); have zc := KC.out.size; have HWC := hid hw1; have KA1 := hid hk; have L1 : Hd (Keeps (fun _ => False) wy0 wy0) := hid (Keeps.refl _ _); clear hw1; (try (replace LNB := hid (Keeps.trans (S := fun _ => False) (by repeat (first | (with_reducible exact LNB.out) | (with_reducible exact Keeps.refl _ _) | (with_reducible apply Keeps.drewN) | (with_reducible apply Keeps.drew) | (with_reducible apply Keeps.alloc))) hk))); (first | (have HNBX := HNB; clear HNBX) | (have HNB : Hd (∀ V, Keeps (fun _ => False) wy0 V → Blk V W6.heap.size #[.slice none 0 0, .int .i64 0] 28) := hid (fun V hv => blk_keep (blk_keep (by (repeat (first | (with_reducible apply blk_drewN) | (with_reducible apply blk_drew) | (with_reducible refine blk_new' _ _ _ _ ?_) | (with_reducible apply blk_alloc))); (first | (with_reducible rfl) | (simp only [World.size_alloc, World.size_drew]; done) | (simp; done))) hk (fun h => h)) hv (fun h => h)); have LNB : Hd (Keeps (fun _ => False) wy0 wy0) := hid (Keeps.refl _ _)) | (have HNB : Hd (∀ V, Keeps (fun _ => False) wy0 V → Blk V (W6.heap.size + 1) #[.slice none 0 0, .int .i64 0] 28) := hid (fun V hv => blk_keep (blk_keep (by (repeat (first | (with_reducible apply blk_drewN) | (with_reducible apply blk_drew) | (with_reducible refine blk_new' _ _ _ _ ?_) | (with_reducible apply blk_alloc))); (first | (with_reducible rfl) | (simp only [World.size_alloc, World.size_drew]; done) | (simp; done))) hk (fun h => h)) hv (fun h => h)); have LNB : Hd (Keeps (fun _ => False) wy0 wy0) := hid (Keeps.refl _ _)) | skip); replace KC := KC2; clear KC2; (try (have nF0 := blk_cell (HNB.out _ LNB.out) 0; have nG0 := blk_free (HNB.out _ LNB.out) 0; have nF1 := blk_cell (HNB.out _ LNB.out) 1; have nG1 := blk_free (HNB.out _ LNB.out) 1)); have zk := hk.size; (try simp at zk); have zd := KC.out.size; replace hk := hid hk)
        | (go_at_call 15; (refine (refSend_any (fun b => W2.heap.size ≤ b ∧ b < W3.heap.size) _ _ _ l [conW] fts cn 1 0 12 (some ⟨W4.heap.size, 0, none⟩) 3 [7, 8, 9] _ ((F2.out.keep (by repeat (first | (with_reducible exact KC.out) | (with_reducible exact Keeps.refl _ _) | (with_reducible apply Keeps.drewN) | (with_reducible apply Keeps.drew) | (with_reducible apply Keeps.alloc))) (fun _ _ _ h => h)).mono (fun b h hh => ⟨hh, h⟩)) ((HWC.out.keep (S := fun _ => False) (by repeat (first | (with_reducible exact L1.out) | (with_reducible exact Keeps.refl _ _) | (with_reducible apply Keeps.drewN) | (with_reducible apply Keeps.drew) | (with_reducible apply Keeps.alloc))) (fun _ _ _ h => h)).mono (fun b h _ => h)) ((HFS.out.keep (by repeat (first | (with_reducible exact KC.out) | (with_reducible exact Keeps.refl _ _) | (with_reducible apply Keeps.drewN) | (with_reducible apply Keeps.drew) | (with_reducible apply Keeps.alloc))) (fun _ _ _ h => h)).mono (fun b h _ => h)) ((SD.out.keep (by repeat (first | (with_reducible exact KC.out) | (with_reducible exact Keeps.refl _ _) | (with_reducible apply Keeps.drewN) | (with_reducible apply Keeps.drew) | (with_reducible apply Keeps.alloc))) (fun _ _ _ h => h)).mono (fun b h _ => h)) H79.out (by omega) (by omega) (fun x hx => by have := (HOK.out x hx).1; omega) (by simp) (by omega) (by omega) (by omega) (by omega)).mono ?_); rw [HREF.out]; rintro e wy1 ⟨ar, nr, cr, rfl, rfl, hfr, hk⟩; have KC2 : Hd (Keeps (fun _ => False) W6 wy1) := hid (Keeps.trans (S := fun _ => False) (by repeat (first | (with_reducible exact KC.out) | (with_reducible exact Keeps.refl _ _) | (with_reducible apply Keeps.drewN) | (with_reducible apply Keeps.drew) | (with_reducible apply Keeps.alloc))) hk); have zc := KC.out.size; have HFR := hid hfr; clear hfr; (try (replace LNB := hid (Keeps.trans (S := fun _ => False) (by repeat (first | (with_reducible exact LNB.out) | (with_reducible exact Keeps.refl _ _) | (with_reducible apply Keeps.drewN) | (with_reducible apply Keeps.drew) | (with_reducible apply Keeps.alloc))) hk))); (first | (have HNBX := HNB; clear HNBX) | (have HNB : Hd (∀ V, Keeps (fun _ => False) wy1 V → Blk V W6.heap.size #[.slice none 0 0, .int .i64 0] 28) := hid (fun V hv => blk_keep (blk_keep (by (repeat (first | (with_reducible apply blk_drewN) | (with_reducible apply blk_drew) | (with_reducible refine blk_new' _ _ _ _ ?_) | (with_reducible apply blk_alloc))); (first | (with_reducible rfl) | (simp only [World.size_alloc, World.size_drew]; done) | (simp; done))) hk (fun h => h)) hv (fun h => h)); have LNB : Hd (Keeps (fun _ => False) wy1 wy1) := hid (Keeps.refl _ _)) | (have HNB : Hd (∀ V, Keeps (fun _ => False) wy1 V → Blk V (W6.heap.size + 1) #[.slice none 0 0, .int .i64 0] 28) := hid (fun V hv => blk_keep (blk_keep (by (repeat (first | (with_reducible apply blk_drewN) | (with_reducible apply blk_drew) | (with_reducible refine blk_new' _ _ _ _ ?_) | (with_reducible apply blk_alloc))); (first | (with_reducible rfl) | (simp only [World.size_alloc, World.size_drew]; done) | (simp; done))) hk (fun h => h)) hv (fun h => h)); have LNB : Hd (Keeps (fun _ => False) wy1 wy1) := hid (Keeps.refl _ _)) | (have HNB : Hd (∀ V, Keeps (fun _ => False) wy1 V → Blk V wy0.heap.size #[.slice none 0 0, .int .i64 0] 28) := hid (fun V hv => blk_keep (blk_keep (by (repeat (first | (with_reducible apply blk_drewN) | (with_reducible apply blk_drew) | (with_reducible refine blk_new' _ _ _ _ ?_) | (with_reducible apply blk_alloc))); (first | (with_reducible rfl) | (simp only [World.size_alloc, World.size_drew]; done) | (simp; done))) hk (fun h => h)) hv (fun h => h)); have LNB : Hd (Keeps (fun _ => False) wy1 wy1) := hid (Keeps.refl _ _)) | (have HNB : Hd (∀ V, Keeps (fun _ => False) wy1 V → Blk V (wy0.heap.size + 1) #[.slice none 0 0, .int .i64 0] 28) := hid (fun V hv => blk_keep (blk_keep (by (repeat (first | (with_reducible apply blk_drewN) | (with_reducible apply blk_drew) | (with_reducible refine blk_new' _ _ _ _ ?_) | (with_reducible apply blk_alloc))); (first | (with_reducible rfl) | (simp only [World.size_alloc, World.size_drew]; done) | (simp; done))) hk (fun h => h)) hv (fun h => h)); have LNB : Hd (Keeps (fun _ => False) wy1 wy1) := hid (Keeps.refl _ _)) | skip); replace KC := KC2; clear KC2; (try (have nF0 := blk_cell (HNB.out _ LNB.out) 0; have nG0 := blk_free (HNB.out _ LNB.out) 0; have nF1 := blk_cell (HNB.out _ LNB.out) 1; have nG1 := blk_free (HNB.out _ LNB.out) 1)); have zk := hk.size; (try simp at zk); have zd := KC.out.size; replace hk := hid hk))
      all_goals
        go_wp2_with fail
        go_meet
        first | ((with_reducible refine ⟨cutF_new KC.out ?_, rfl⟩); exact (fun w' hk => ⟨ar, cr, rfl, (HFR.out.mono (K' := fun b => ((fun b => W2.heap.size ≤ b ∧ b < W3.heap.size) b ∨ W6.heap.size ≤ b) ∧ b ≠ wy1.heap.size) (fun b h1 h => by rcases h with h | h <;> (try simp at h) <;> omega)).keep hk (fun _ _ _ h => h)⟩)) | ((with_reducible refine ⟨cutF_old2 KC.out (by first | exact Nat.le_refl _ | omega | (simp; done) | (simp; omega)) (HNB.out _ LNB.out) ?_, rfl⟩); exact (fun w' hk => ⟨ar, cr, rfl, (HFR.out.keep hk (fun b _ h1 h2 => by rcases h1 with h1 | h1 <;> (try simp at h1) <;> omega)).mono (fun b _ h => by rcases h with h | h <;> (try simp at h) <;> omega)⟩)) | ((with_reducible refine ⟨cutF_drew (fun _ _ _ h => h) (cutF_new KC.out ?_), rfl⟩); exact (fun w' hk => ⟨ar, cr, rfl, (HFR.out.mono (K' := fun b => ((fun b => W2.heap.size ≤ b ∧ b < W3.heap.size) b ∨ W6.heap.size ≤ b) ∧ b ≠ wy1.heap.size) (fun b h1 h => by rcases h with h | h <;> (try simp at h) <;> omega)).keep hk (fun _ _ _ h => h)⟩)) | ((with_reducible refine ⟨cutF_drew (fun _ _ _ h => h) (cutF_old2 KC.out (by first | exact Nat.le_refl _ | omega | (simp; done) | (simp; omega)) (HNB.out _ LNB.out) ?_), rfl⟩); exact (fun w' hk => ⟨ar, cr, rfl, (HFR.out.keep hk (fun b _ h1 h2 => by rcases h1 with h1 | h1 <;> (try simp at h1) <;> omega)).mono (fun b _ h => by rcases h with h | h <;> (try simp at h) <;> omega)⟩))
    case rest =>
      obtain ⟨⟨b_BY, cs_BY, rfl, hb_BY, BY, HP, hk⟩, rfl⟩ := hcut
      replace hk := hk.out
      generalize wc = W7 at *
      have HWS' : Hd (Wins (fun b => w.heap.size ≤ b) W7 (.slice at' ws.length ct) ws) := hid (HWS.out.keep hk (fun _ _ _ h => h))
      have HFS' : Hd (Fts (fun b => W1.heap.size ≤ b) W7 (.slice af fts.length cf) fts) := hid (HFS.out.keep hk (fun _ _ _ h => h))
      have F1' : Hd (Fls (fun b => W2.heap.size ≤ b ∧ b < W3.heap.size) W7 (.slice a1 l.length c1) l) := hid (F1.out.keep hk (fun _ _ _ h => h))
      have F2' : Hd (Fls (fun b => W2.heap.size ≤ b ∧ b < W3.heap.size) W7 (.slice a2 l.length c2) l) := hid (F2.out.keep hk (fun _ _ _ h => h))
      have BK' : Hd (Blk W7 W3.heap.size #[.slice a1 l.length c1, .int .i64 cn] 28) := hid (blk_keep BK.out hk (fun h => h))
      have BP' : Hd (Blk W7 (W3.heap.size + 1) #[.slice a2 l.length c2, .int .i64 cn, .int .i64 tick] 47) := hid (blk_keep BP.out hk (fun h => h))
      have BD' : Hd (Blk W7 W4.heap.size #[.int .u8 7, .int .u8 8, .int .u8 9] 5) := hid (blk_keep BD.out hk (fun h => h))
      have BM' : Hd (Blk W7 (W4.heap.size + 1) #[.int .i64 0, .int .i64 12, .slice (some ⟨W4.heap.size, 0, none⟩) 3 3] 37) := hid (blk_keep BM.out hk (fun h => h))
      have SD' : Hd (Sl (fun _ => True) W7 (.slice (some ⟨W4.heap.size, 0, none⟩) 3 3) (u8s [7, 8, 9])) := hid (SD.out.keep hk (fun _ _ _ h => h))
      have BX' : Hd (Blk W7 b_BX #[.slice xa R.1.length xc, .int .i64 R.2.1] 28) := hid (blk_keep BX.out hk (fun h => h))
      have XF' : Hd (Fls (fun b => W5.heap.size ≤ b ∧ b ≠ b_BX) W7 (.slice xa R.1.length xc) R.1) := hid (XF.out.keep hk (fun _ _ _ h => h))
      clear HWS HFS F1 F2 BK BP BD BM SD BX XF
      have HWS := HWS'
      clear HWS'
      have HFS := HFS'
      clear HFS'
      have F1 := F1'
      clear F1'
      have F2 := F2'
      clear F2'
      have BK := BK'
      clear BK'
      have BP := BP'
      clear BP'
      have BD := BD'
      clear BD'
      have BM := BM'
      clear BM'
      have SD := SD'
      clear SD'
      have BX := BX'
      clear BX'
      have XF := XF'
      clear XF'
      have HK' : Hd (Keeps (fun _ => False) w W7) := hid (HK.out.trans hk)
      clear HK
      have HK := HK'
      clear HK'
      have z_W7 := hk.size
      clear hk
      obtain ⟨ya, yc, rfl, hyf⟩ := HP.out
      have YF : Hd (Fls (fun b => ((fun b => W2.heap.size ≤ b ∧ b < W3.heap.size) b ∨ W6.heap.size ≤ b) ∧ b ≠ b_BY) W7 (.slice ya R.1.length yc) R.1) := hid hyf
      clear hyf HP
      have XF' : Hd (Fls (fun b => (W5.heap.size ≤ b ∧ b ≠ b_BX) ∧ b < W7.heap.size) W7 (.slice xa R.1.length xc) R.1) := hid (XF.out.mono (fun b h1 h2 => ⟨h2, h1⟩))
      clear XF
      have XF := XF'
      clear XF'
      have YF' : Hd (Fls (fun b => ((W2.heap.size ≤ b ∧ b < W3.heap.size) ∨ W6.heap.size ≤ b) ∧ b < W7.heap.size) W7 (.slice ya R.1.length yc) R.1) := hid (YF.out.mono (fun b h1 h2 => ⟨h2.1, h1⟩))
      clear YF
      have YF := YF'
      clear YF'
      clear HWS HFS SD
      go_upto_region 7 with fail
      have o_BD_0 : W7.cell? ⟨W4.heap.size, 0, none⟩ = some (.int .u8 7) := blk_cell BD.out 0
      have o_BD_1 : W7.cell? ⟨W4.heap.size, 1, none⟩ = some (.int .u8 8) := blk_cell BD.out 1
      have o_BD_2 : W7.cell? ⟨W4.heap.size, 2, none⟩ = some (.int .u8 9) := blk_cell BD.out 2
      have o_BM_0 : W7.cell? ⟨W4.heap.size + 1, 0, none⟩ = some (.int .i64 0) := blk_cell BM.out 0
      have o_BM_1 : W7.cell? ⟨W4.heap.size + 1, 1, none⟩ = some (.int .i64 12) := blk_cell BM.out 1
      have o_BM_2 : W7.cell? ⟨W4.heap.size + 1, 2, none⟩ = some (.slice (some ⟨W4.heap.size, 0, none⟩) 3 3) := blk_cell BM.out 2
      have f_BD_0 : W7.frozen? ⟨W4.heap.size, 0, none⟩ = false := blk_free BD.out 0
      have f_BD_1 : W7.frozen? ⟨W4.heap.size, 1, none⟩ = false := blk_free BD.out 1
      have f_BD_2 : W7.frozen? ⟨W4.heap.size, 2, none⟩ = false := blk_free BD.out 2
      have f_BM_0 : W7.frozen? ⟨W4.heap.size + 1, 0, none⟩ = false := blk_free BM.out 0
      have f_BM_1 : W7.frozen? ⟨W4.heap.size + 1, 1, none⟩ = false := blk_free BM.out 1
      have f_BM_2 : W7.frozen? ⟨W4.heap.size + 1, 2, none⟩ = false := blk_free BM.out 2
      go_upto_region 8 with fail
      clear o_BD_0 o_BD_1 o_BD_2 o_BM_0 o_BM_1 o_BM_2 f_BD_0 f_BD_1 f_BD_2 f_BM_0 f_BM_1 f_BM_2
      generalize hW : World.setCell W7 _ _ = W8
      have KS : Hd (Keeps (fun b => b = W4.heap.size) W7 W8) := hid (by rw [← hW]; exact (Keeps.setCell (S := fun b => b = W4.heap.size) (Keeps.refl (fun b => b = W4.heap.size) W7) (.inl rfl) _))
      have F1' : Hd (Fls (fun b => W2.heap.size ≤ b ∧ b < W3.heap.size) W8 (.slice a1 l.length c1) l) := hid (F1.out.keep KS.out (fun b _ h1 h2 => by omega))
      have F2' : Hd (Fls (fun b => W2.heap.size ≤ b ∧ b < W3.heap.size) W8 (.slice a2 l.length c2) l) := hid (F2.out.keep KS.out (fun b _ h1 h2 => by omega))
      have BK' : Hd (Blk W8 W3.heap.size #[.slice a1 l.length c1, .int .i64 cn] 28) := hid (by rw [← hW]; exact (blk_other BK.out (by omega) _ _))
      have BP' : Hd (Blk W8 (W3.heap.size + 1) #[.slice a2 l.length c2, .int .i64 cn, .int .i64 tick] 47) := hid (by rw [← hW]; exact (blk_other BP.out (by omega) _ _))
      have BD' : Hd (Blk W8 W4.heap.size #[.int .u8 99, .int .u8 8, .int .u8 9] 5) := hid (by rw [← hW]; exact (blk_set BD.out 0 _))
      have BM' : Hd (Blk W8 (W4.heap.size + 1) #[.int .i64 0, .int .i64 12, .slice (some ⟨W4.heap.size, 0, none⟩) 3 3] 37) := hid (by rw [← hW]; exact (blk_other BM.out (by omega) _ _))
      have BX' : Hd (Blk W8 b_BX #[.slice xa R.1.length xc, .int .i64 R.2.1] 28) := hid (by rw [← hW]; exact (blk_other BX.out (by omega) _ _))
      have XF' : Hd (Fls (fun b => (W5.heap.size ≤ b ∧ b ≠ b_BX) ∧ b < W7.heap.size) W8 (.slice xa R.1.length xc) R.1) := hid (XF.out.keep KS.out (fun b _ h1 h2 => by omega))
      have BY' : Hd (Blk W8 b_BY #[.slice ya R.1.length yc, .int .i64 R.2.1] 28) := hid (by rw [← hW]; exact (blk_other BY.out (by omega) _ _))
      have YF' : Hd (Fls (fun b => ((W2.heap.size ≤ b ∧ b < W3.heap.size) ∨ W6.heap.size ≤ b) ∧ b < W7.heap.size) W8 (.slice ya R.1.length yc) R.1) := hid (YF.out.keep KS.out (fun b _ h1 h2 => by omega))
      clear F1 F2 BK BP BD BM BX XF BY YF
      have F1 := F1'
      clear F1'
      have F2 := F2'
      clear F2'
      have BK := BK'
      clear BK'
      have BP := BP'
      clear BP'
      have BD := BD'
      clear BD'
      have BM := BM'
      clear BM'
      have BX := BX'
      clear BX'
      have XF := XF'
      clear XF'
      have BY := BY'
      clear BY'
      have YF := YF'
      clear YF'
      have HK' : Hd (Keeps (fun _ => False) w W8) := hid (HK.out.trans' KS.out (fun i hi h => by omega))
      clear HK
      have HK := HK'
      clear HK'
      have z_W8 : W7.heap.size + 0 ≤ W8.heap.size := by rw [← hW]; simp
      clear hW KS
      have lt_BX := blk_lt BX.out
      have lt_BY := blk_lt BY.out
      have o_BX_0 : W8.cell? ⟨b_BX, 0, none⟩ = some (.slice xa R.1.length xc) := blk_cell BX.out 0
      have o_BX_1 : W8.cell? ⟨b_BX, 1, none⟩ = some (.int .i64 R.2.1) := blk_cell BX.out 1
      go_wp2_with fail
      refine (Step_thaw _ R.1 R.2.1 1100 _ (XF.out.mono (fun b h _ => h)) (by omega) (fun x hx => by have := (HRD.out x hx).1; omega)).mono ?_
      rintro e W9 ⟨sa, sn, sc, so, sm, sp, rfl, hsn, hsm, -, hsr, hk⟩
      have HSR := hid hsr
      have HSM := hid hsm
      clear hsr hsm
      clear o_BX_0 o_BX_1
      have F1' : Hd (Fls (fun b => W2.heap.size ≤ b ∧ b < W3.heap.size) W9 (.slice a1 l.length c1) l) := hid (F1.out.keep hk (fun _ _ _ h => h))
      have F2' : Hd (Fls (fun b => W2.heap.size ≤ b ∧ b < W3.heap.size) W9 (.slice a2 l.length c2) l) := hid (F2.out.keep hk (fun _ _ _ h => h))
      have BK' : Hd (Blk W9 W3.heap.size #[.slice a1 l.length c1, .int .i64 cn] 28) := hid (blk_keep BK.out hk (fun h => h))
      have BP' : Hd (Blk W9 (W3.heap.size + 1) #[.slice a2 l.length c2, .int .i64 cn, .int .i64 tick] 47) := hid (blk_keep BP.out hk (fun h => h))
      have BD' : Hd (Blk W9 W4.heap.size #[.int .u8 99, .int .u8 8, .int .u8 9] 5) := hid (blk_keep BD.out hk (fun h => h))
      have BM' : Hd (Blk W9 (W4.heap.size + 1) #[.int .i64 0, .int .i64 12, .slice (some ⟨W4.heap.size, 0, none⟩) 3 3] 37) := hid (blk_keep BM.out hk (fun h => h))
      have BX' : Hd (Blk W9 b_BX #[.slice xa R.1.length xc, .int .i64 R.2.1] 28) := hid (blk_keep BX.out hk (fun h => h))
      have XF' : Hd (Fls (fun b => (W5.heap.size ≤ b ∧ b ≠ b_BX) ∧ b < W7.heap.size) W9 (.slice xa R.1.length xc) R.1) := hid (XF.out.keep hk (fun _ _ _ h => h))
      have BY' : Hd (Blk W9 b_BY #[.slice ya R.1.length yc, .int .i64 R.2.1] 28) := hid (blk_keep BY.out hk (fun h => h))
      have YF' : Hd (Fls (fun b => ((W2.heap.size ≤ b ∧ b < W3.heap.size) ∨ W6.heap.size ≤ b) ∧ b < W7.heap.size) W9 (.slice ya R.1.length yc) R.1) := hid (YF.out.keep hk (fun _ _ _ h => h))
      clear F1 F2 BK BP BD BM BX XF BY YF
      have F1 := F1'
      clear F1'
      have F2 := F2'
      clear F2'
      have BK := BK'
      clear BK'
      have BP := BP'
      clear BP'
      have BD := BD'
      clear BD'
      have BM := BM'
      clear BM'
      have BX := BX'
      clear BX'
      have XF := XF'
      clear XF'
      have BY := BY'
      clear BY'
      have YF := YF'
      clear YF'
      have HK' : Hd (Keeps (fun _ => False) w W9) := hid (HK.out.trans hk)
      clear HK
      have HK := HK'
      clear HK'
      have z_W9 := hk.size
      clear hk
      obtain ⟨o, ho⟩ : ∃ o, R.1.take (stepK R.1 1100) = o := ⟨_, rfl⟩
      have hsm := HSM.out
      have hsr := HSR.out
      rw [ho] at hsm hsr
      have hol : o.length ≤ 26 := by rw [← ho, List.length_take]; omega
      have HOD : Hd (∀ x ∈ o, x.d.length ≤ 100) := hid (fun x hx => by rw [← ho] at hx; exact (HRD.out x (List.mem_of_mem_take hx)).1)
      subst hsm
      have SA := hid hsr
      clear hsr HSM HSR ho
      go_upto_region 9 with fail
      generalize hW : World.alloc W9 _ = W10
      have KS : Hd (Keeps (fun _ => False) W9 W10) := hid (by rw [← hW]; exact (Keeps.alloc (Keeps.refl (fun _ => False) W9) _))
      have F1' : Hd (Fls (fun b => W2.heap.size ≤ b ∧ b < W3.heap.size) W10 (.slice a1 l.length c1) l) := hid (F1.out.keep KS.out (fun _ _ _ h => h))
      have F2' : Hd (Fls (fun b => W2.heap.size ≤ b ∧ b < W3.heap.size) W10 (.slice a2 l.length c2) l) := hid (F2.out.keep KS.out (fun _ _ _ h => h))
      have BK' : Hd (Blk W10 W3.heap.size #[.slice a1 l.length c1, .int .i64 cn] 28) := hid (by rw [← hW]; exact (blk_alloc BK.out _))
      have BP' : Hd (Blk W10 (W3.heap.size + 1) #[.slice a2 l.length c2, .int .i64 cn, .int .i64 tick] 47) := hid (by rw [← hW]; exact (blk_alloc BP.out _))
      have BD' : Hd (Blk W10 W4.heap.size #[.int .u8 99, .int .u8 8, .int .u8 9] 5) := hid (by rw [← hW]; exact (blk_alloc BD.out _))
      have BM' : Hd (Blk W10 (W4.heap.size + 1) #[.int .i64 0, .int .i64 12, .slice (some ⟨W4.heap.size, 0, none⟩) 3 3] 37) := hid (by rw [← hW]; exact (blk_alloc BM.out _))
      have BX' : Hd (Blk W10 b_BX #[.slice xa R.1.length xc, .int .i64 R.2.1] 28) := hid (by rw [← hW]; exact (blk_alloc BX.out _))
      have XF' : Hd (Fls (fun b => (W5.heap.size ≤ b ∧ b ≠ b_BX) ∧ b < W7.heap.size) W10 (.slice xa R.1.length xc) R.1) := hid (XF.out.keep KS.out (fun _ _ _ h => h))
      have BY' : Hd (Blk W10 b_BY #[.slice ya R.1.length yc, .int .i64 R.2.1] 28) := hid (by rw [← hW]; exact (blk_alloc BY.out _))
      have YF' : Hd (Fls (fun b => ((W2.heap.size ≤ b ∧ b < W3.heap.size) ∨ W6.heap.size ≤ b) ∧ b < W7.heap.size) W10 (.slice ya R.1.length yc) R.1) := hid (YF.out.keep KS.out (fun _ _ _ h => h))
      have SA' : Hd (ArT W8.heap.size W10 (.slice so o.length sp) o) := hid (SA.out.keep KS.out (fun _ _ _ h => h))
      clear F1 F2 BK BP BD BM BX XF BY YF SA
      have F1 := F1'
      clear F1'
      have F2 := F2'
      clear F2'
      have BK := BK'
      clear BK'
      have BP := BP'
      clear BP'
      have BD := BD'
      clear BD'
      have BM := BM'
      clear BM'
      have BX := BX'
      clear BX'
      have XF := XF'
      clear XF'
      have BY := BY'
      clear BY'
      have YF := YF'
      clear YF'
      have SA := SA'
      clear SA'
      have HK' : Hd (Keeps (fun _ => False) w W10) := hid (HK.out.trans KS.out)
      clear HK
      have HK := HK'
      clear HK'
      have z_W10 : W9.heap.size + 1 ≤ W10.heap.size := by rw [← hW]; simp
      clear hW KS
      obtain ⟨ys, hys, hyc⟩ := SA.out
      have HYS := hid hys; have HYC := hid hyc; clear hys hyc SA
      have hyl : Hd (ys.length = o.length * 3) := hid HYS.out.1.1
      go_wp2_with fail
      go_loopw [21] (fun i wr => ∃ k : Nat, i = .int .i64 k ∧ k ≤ o.length ∧ Hd (Pok (fun b => W8.heap.size ≤ b ∧ (Value.slice so o.length sp).ownBlock ≠ some b) W10 wr)) (fun i _ => o.length - (intOf i).toNat)
      case atStart => exact ⟨0, rfl, by omega, hid (Pok.refl _ _)⟩
      case round =>
        obtain ⟨k, rfl, hk, PK⟩ := hrel
        by_cases hkm : k < o.length
        · obtain ⟨x, hx⟩ : ∃ x, o[k]? = some x := ⟨o[k]'hkm, List.getElem?_eq_getElem _⟩
          have hxm := HOD.out x (List.mem_of_getElem? hx)
          obtain ⟨gg, hgg, hg0⟩ := own_head HYS.out (by omega)
          subst hgg
          obtain ⟨-, -, c2⟩ := HYC.out k x hx
          obtain ⟨ab, cb, e4, hsl⟩ := sl_slice c2
          have hsl' : Sl (fun b => W8.heap.size ≤ b ∧ (Value.slice (some ⟨gg, 0, none⟩) o.length sp).ownBlock ≠ some b ∧ Thaw W10 b) W10 (.slice ab x.d.length cb) (u8s x.d) := hsl
          have HSL := hid hsl'
          have hgc : W10.cell? ⟨gg, k * 3 + 2, none⟩ = some (.slice ab x.d.length cb) := by
            have e4' : ys.getD (k * 3 + 2) undef = .slice ab x.d.length cb := e4
            rw [HYS.out.1.cellAt (k * 3 + 2) (by first | omega | (rw [hyl.out]; omega)), ← e4', List.getD, List.getElem?_eq_getElem (by rw [hyl.out]; omega)]; rfl
          have HGC : Hd (∀ wq, Pok (fun b => W8.heap.size ≤ b ∧ (Value.slice (some ⟨gg, 0, none⟩) o.length sp).ownBlock ≠ some b) W10 wq → wq.cell? ⟨gg, k * 3 + 2, none⟩ = some (.slice ab x.d.length cb)) := hid (fun wq hp => keep_cell hp.k (fun h => h.2 rfl) hgc)
          have k1 : (k : Int) < o.length := by omega
          have k2 : (0 : Int) ≤ k := by omega
          clear c2 e4 hsl hsl' hgc hx
          obtain ⟨n, hn⟩ : ∃ n, x.d.length = n := ⟨_, rfl⟩
          rw [hn] at HSL HGC hxm
          have HN := hid hn
          clear hn
          go_wp2_with fail
          go_loopw [22] (fun j wq => ∃ q : Nat, j = .int .i64 q ∧ q ≤ n ∧ Hd (Pok (fun b => W8.heap.size ≤ b ∧ (Value.slice (some ⟨gg, 0, none⟩) o.length sp).ownBlock ≠ some b) W10 wq)) (fun j _ => n - (intOf j).toNat)
          case atStart => exact ⟨0, rfl, by omega, PK⟩
          case round =>
            clear PK
            obtain ⟨q, rfl, hq, PQ⟩ := hrel
            have h0 := HGC.out _ PQ.out
            by_cases hqn : q < n
            · obtain ⟨a', cap, e, _, _, hel⟩ := (sl_row HSL.out (by rw [u8s_length, HN.out])).form
              injection e with e1 e2 e3
              subst e1
              obtain ⟨bb, ob, rfl, hb1, hb2, hcell⟩ := hel (by omega)
              obtain ⟨vv, hvv⟩ := PQ.out.c _ _ (hcell q (by omega))
              have hfz : _root_.Go.World.frozen? _ ⟨bb, ob + q, none⟩ = false := (PQ.out.f ⟨bb, ob + q, none⟩).trans (hb1.2.2 (ob + q))
              have HPQ2 := hid (PQ.out.set (p := ⟨bb, ob + q, none⟩) ⟨hb1.1, hb1.2.1⟩ (.int .u8 77))
              have q1 : (q : Int) < n := by omega
              have q2 : (0 : Int) ≤ q := by omega
              clear hel hcell
              go_wp2
              go_roundw
              case rel => exact ⟨q + 1, by go_num, by omega, HPQ2⟩
              case measure => simp [intOf]; omega
            · have q0 : ¬ (q : Int) < n := by omega
              go_wp2
              go_roundw
              case rel => exact ⟨k + 1, by go_num, by omega, PQ⟩
              case measure => simp [intOf]; omega
        · have k0 : ¬ (k : Int) < o.length := by omega
          have hk := PK.out.k
          have F1' : Hd (Fls (fun b => W2.heap.size ≤ b ∧ b < W3.heap.size) wr (.slice a1 l.length c1) l) := hid (F1.out.keep hk (fun b hb h1 h2 => by omega))
          clear F1
          have F1 := F1'
          clear F1'
          have F2' : Hd (Fls (fun b => W2.heap.size ≤ b ∧ b < W3.heap.size) wr (.slice a2 l.length c2) l) := hid (F2.out.keep hk (fun b hb h1 h2 => by omega))
          clear F2
          have F2 := F2'
          clear F2'
          have XF' : Hd (Fls (fun b => (W5.heap.size ≤ b ∧ b ≠ b_BX) ∧ b < W7.heap.size) wr (.slice xa R.1.length xc) R.1) := hid (XF.out.keep hk (fun b hb h1 h2 => by omega))
          clear XF
          have XF := XF'
          clear XF'
          have YF' : Hd (Fls (fun b => ((W2.heap.size ≤ b ∧ b < W3.heap.size) ∨ W6.heap.size ≤ b) ∧ b < W7.heap.size) wr (.slice ya R.1.length yc) R.1) := hid (YF.out.keep hk (fun b hb h1 h2 => by omega))
          clear YF
          have YF := YF'
          clear YF'
          have BK' : Hd (Blk wr W3.heap.size #[.slice a1 l.length c1, .int .i64 cn] 28) := hid (blk_keep BK.out hk (fun h => by omega))
          clear BK
          have BK := BK'
          clear BK'
          have BP' : Hd (Blk wr (W3.heap.size + 1) #[.slice a2 l.length c2, .int .i64 cn, .int .i64 tick] 47) := hid (blk_keep BP.out hk (fun h => by omega))
          clear BP
          have BP := BP'
          clear BP'
          have BX' : Hd (Blk wr b_BX #[.slice xa R.1.length xc, .int .i64 R.2.1] 28) := hid (blk_keep BX.out hk (fun h => by omega))
          clear BX
          have BX := BX'
          clear BX'
          have BY' : Hd (Blk wr b_BY #[.slice ya R.1.length yc, .int .i64 R.2.1] 28) := hid (blk_keep BY.out hk (fun h => by omega))
          clear BY
          have BY := BY'
          clear BY'
          have HK' : Hd (Keeps (fun _ => False) w wr) := hid (HK.out.trans' hk (fun i hi h => by omega))
          clear HK
          have HK := HK'
          clear HK' hk
          have hbb : (R.2.2 == R.2.2) = true := by simp
          have o_BK_0 : wr.cell? ⟨W3.heap.size, 0, none⟩ = some (.slice a1 l.length c1) := blk_cell BK.out 0
          have o_BK_1 : wr.cell? ⟨W3.heap.size, 1, none⟩ = some (.int .i64 cn) := blk_cell BK.out 1
          have o_BP_0 : wr.cell? ⟨W3.heap.size + 1, 0, none⟩ = some (.slice a2 l.length c2) := blk_cell BP.out 0
          have o_BP_1 : wr.cell? ⟨W3.heap.size + 1, 1, none⟩ = some (.int .i64 cn) := blk_cell BP.out 1
          go_wp2_with fail
          refine (Same_any _ _ _ _ l cn _ F1.out F2.out (by omega) HD8.out).mono ?_
          rintro e W11 ⟨rfl, hk⟩
          clear o_BK_0 o_BK_1 o_BP_0 o_BP_1
          have F1' : Hd (Fls (fun b => W2.heap.size ≤ b ∧ b < W3.heap.size) W11 (.slice a1 l.length c1) l) := hid (F1.out.keep hk (fun _ _ _ h => h))
          have F2' : Hd (Fls (fun b => W2.heap.size ≤ b ∧ b < W3.heap.size) W11 (.slice a2 l.length c2) l) := hid (F2.out.keep hk (fun _ _ _ h => h))
          have BK' : Hd (Blk W11 W3.heap.size #[.slice a1 l.length c1, .int .i64 cn] 28) := hid (blk_keep BK.out hk (fun h => h))
          have BP' : Hd (Blk W11 (W3.heap.size + 1) #[.slice a2 l.length c2, .int .i64 cn, .int .i64 tick] 47) := hid (blk_keep BP.out hk (fun h => h))
          have BX' : Hd (Blk W11 b_BX #[.slice xa R.1.length xc, .int .i64 R.2.1] 28) := hid (blk_keep BX.out hk (fun h => h))
          have XF' : Hd (Fls (fun b => (W5.heap.size ≤ b ∧ b ≠ b_BX) ∧ b < W7.heap.size) W11 (.slice xa R.1.length xc) R.1) := hid (XF.out.keep hk (fun _ _ _ h => h))
          have BY' : Hd (Blk W11 b_BY #[.slice ya R.1.length yc, .int .i64 R.2.1] 28) := hid (blk_keep BY.out hk (fun h => h))
          have YF' : Hd (Fls (fun b => ((W2.heap.size ≤ b ∧ b < W3.heap.size) ∨ W6.heap.size ≤ b) ∧ b < W7.heap.size) W11 (.slice ya R.1.length yc) R.1) := hid (YF.out.keep hk (fun _ _ _ h => h))
          clear F1 F2 BK BP BX XF BY YF
          have F1 := F1'
          clear F1'
          have F2 := F2'
          clear F2'
          have BK := BK'
          clear BK'
          have BP := BP'
          clear BP'
          have BX := BX'
          clear BX'
          have XF := XF'
          clear XF'
          have BY := BY'
          clear BY'
          have YF := YF'
          clear YF'
          have HK' : Hd (Keeps (fun _ => False) w W11) := hid (HK.out.trans hk)
          clear HK
          have HK := HK'
          clear HK'
          have z_W11 := hk.size
          clear hk
          have o_BX_0 : W11.cell? ⟨b_BX, 0, none⟩ = some (.slice xa R.1.length xc) := blk_cell BX.out 0
          have o_BX_1 : W11.cell? ⟨b_BX, 1, none⟩ = some (.int .i64 R.2.1) := blk_cell BX.out 1
          have o_BY_0 : W11.cell? ⟨b_BY, 0, none⟩ = some (.slice ya R.1.length yc) := blk_cell BY.out 0
          have o_BY_1 : W11.cell? ⟨b_BY, 1, none⟩ = some (.int .i64 R.2.1) := blk_cell BY.out 1
          go_wp2_with fail
          refine (Same_any _ _ _ _ R.1 R.2.1 _ XF.out YF.out (by omega) (fun x hx => (HRD.out x hx).2)).mono ?_
          rintro e W12 ⟨rfl, hk⟩
          clear o_BX_0 o_BX_1 o_BY_0 o_BY_1
          have F1' : Hd (Fls (fun b => W2.heap.size ≤ b ∧ b < W3.heap.size) W12 (.slice a1 l.length c1) l) := hid (F1.out.keep hk (fun _ _ _ h => h))
          have F2' : Hd (Fls (fun b => W2.heap.size ≤ b ∧ b < W3.heap.size) W12 (.slice a2 l.length c2) l) := hid (F2.out.keep hk (fun _ _ _ h => h))
          have BK' : Hd (Blk W12 W3.heap.size #[.slice a1 l.length c1, .int .i64 cn] 28) := hid (blk_keep BK.out hk (fun h => h))
          have BP' : Hd (Blk W12 (W3.heap.size + 1) #[.slice a2 l.length c2, .int .i64 cn, .int .i64 tick] 47) := hid (blk_keep BP.out hk (fun h => h))
          have BX' : Hd (Blk W12 b_BX #[.slice xa R.1.length xc, .int .i64 R.2.1] 28) := hid (blk_keep BX.out hk (fun h => h))
          have XF' : Hd (Fls (fun b => (W5.heap.size ≤ b ∧ b ≠ b_BX) ∧ b < W7.heap.size) W12 (.slice xa R.1.length xc) R.1) := hid (XF.out.keep hk (fun _ _ _ h => h))
          have BY' : Hd (Blk W12 b_BY #[.slice ya R.1.length yc, .int .i64 R.2.1] 28) := hid (blk_keep BY.out hk (fun h => h))
          have YF' : Hd (Fls (fun b => ((W2.heap.size ≤ b ∧ b < W3.heap.size) ∨ W6.heap.size ≤ b) ∧ b < W7.heap.size) W12 (.slice ya R.1.length yc) R.1) := hid (YF.out.keep hk (fun _ _ _ h => h))
          clear F1 F2 BK BP BX XF BY YF
          have F1 := F1'
          clear F1'
          have F2 := F2'
          clear F2'
          have BK := BK'
          clear BK'
          have BP := BP'
          clear BP'
          have BX := BX'
          clear BX'
          have XF := XF'
          clear XF'
          have BY := BY'
          clear BY'
          have YF := YF'
          clear YF'
          have HK' : Hd (Keeps (fun _ => False) w W12) := hid (HK.out.trans hk)
          clear HK
          have HK := HK'
          clear HK'
          have z_W12 := hk.size
          clear hk
          go_wp2_with fail
          refine (lives_any _).mono ?_
          rintro e W13 ⟨rfl, hk⟩
          have F1' : Hd (Fls (fun b => W2.heap.size ≤ b ∧ b < W3.heap.size) W13 (.slice a1 l.length c1) l) := hid (F1.out.keep hk (fun _ _ _ h => h))
          have F2' : Hd (Fls (fun b => W2.heap.size ≤ b ∧ b < W3.heap.size) W13 (.slice a2 l.length c2) l) := hid (F2.out.keep hk (fun _ _ _ h => h))
          have BK' : Hd (Blk W13 W3.heap.size #[.slice a1 l.length c1, .int .i64 cn] 28) := hid (blk_keep BK.out hk (fun h => h))
          have BP' : Hd (Blk W13 (W3.heap.size + 1) #[.slice a2 l.length c2, .int .i64 cn, .int .i64 tick] 47) := hid (blk_keep BP.out hk (fun h => h))
          have BX' : Hd (Blk W13 b_BX #[.slice xa R.1.length xc, .int .i64 R.2.1] 28) := hid (blk_keep BX.out hk (fun h => h))
          have XF' : Hd (Fls (fun b => (W5.heap.size ≤ b ∧ b ≠ b_BX) ∧ b < W7.heap.size) W13 (.slice xa R.1.length xc) R.1) := hid (XF.out.keep hk (fun _ _ _ h => h))
          have BY' : Hd (Blk W13 b_BY #[.slice ya R.1.length yc, .int .i64 R.2.1] 28) := hid (blk_keep BY.out hk (fun h => h))
          have YF' : Hd (Fls (fun b => ((W2.heap.size ≤ b ∧ b < W3.heap.size) ∨ W6.heap.size ≤ b) ∧ b < W7.heap.size) W13 (.slice ya R.1.length yc) R.1) := hid (YF.out.keep hk (fun _ _ _ h => h))
          clear F1 F2 BK BP BX XF BY YF
          have F1 := F1'
          clear F1'
          have F2 := F2'
          clear F2'
          have BK := BK'
          clear BK'
          have BP := BP'
          clear BP'
          have BX := BX'
          clear BX'
          have XF := XF'
          clear XF'
          have BY := BY'
          clear BY'
          have YF := YF'
          clear YF'
          have HK' : Hd (Keeps (fun _ => False) w W13) := hid (HK.out.trans hk)
          clear HK
          have HK := HK'
          clear HK'
          have z_W13 := hk.size
          clear hk
          go_wp2
          go_ret
          exact ⟨rfl, HK.out⟩
end Go.Proofs.Ytjapmpolagblaaa
