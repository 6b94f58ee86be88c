/- TopCustody: a store copied. -/
import Derived.Test.YtgfekgceeigdiaaDoorTopShelf
import Derived.Test.YtgfekgceeigdiaaDoorBaseAll
import Derived.Deep.Cut
import Derived.Deep.CutRange
import Derived.Deep.RegionHeld3
import Derived.Deep.RegionHeldLaw
namespace Go.Proofs.YtgfekgceeigdiaaDoor
open Go.RowKit
attribute [local go_sem ↓] Go.wp_at_zero Go.wp_at_succ
theorem cutF_old4 {W w2 : World} {T : TypeId} {P : Nat → Array Value → World → Prop} {b : Nat} {c0 c1 c2 c3 z0 z1 z2 z3 : Value} (hk : Keeps (fun _ => False) W w2) (hb : W.heap.size ≤ b) (hn : Blk w2 b #[z0, z1, z2, z3] T) (hP : ∀ w', Keeps (fun i => i = b) w2 w' → P b #[c0, c1, c2, c3] w') :
    CutF W T P (.pointer (some ⟨b, 0, none⟩)) ((((w2.setCell ⟨b, 0, none⟩ c0).setCell ⟨b, 1, none⟩ c1).setCell ⟨b, 2, none⟩ c2).setCell ⟨b, 3, none⟩ c3) :=
  ⟨b, #[c0, c1, c2, c3], rfl, hb, hid (blk_set (blk_set (blk_set (blk_set hn 0 _) 1 _) 2 _) 3 _), hid (hP _ (keep4 _ _ _ _ _ _)), hid ((((hk.setCell (.inr hb) _).setCell (.inr hb) _).setCell (.inr hb) _).setCell (.inr hb) _)⟩
/-- a row in blocks between lo and hi, whatever happens elsewhere -/
def OwnR (lo hi : Nat) (w : World) (e : TypeId) (sz : Nat) (v : Value) (n : Nat) (xs : List Value) : Prop := ∀ X, Keeps (fun b => b < lo ∨ hi ≤ b) w X → Own (fun b => lo ≤ b ∧ b < hi) X e sz v n xs
theorem own_rng {Y w : World} {e : TypeId} {sz : Nat} {v : Value} {n : Nat} {xs : List Value} (h : Own (fun k => Y.heap.size ≤ k) w e sz v n xs) : OwnR Y.heap.size w.heap.size w e sz v n xs := fun X hx =>
  (h.mono (K' := fun b => Y.heap.size ≤ b ∧ b < w.heap.size) (fun b hb hh => ⟨hh, hb⟩)).keep hx (fun b _ h1 h2 => by omega)
def CopC (lo : Nat) (q : Int) (ps sn : List Int) (np ns : Nat) (b : Nat) (cs : Array Value) (w' : World) : Prop := ∃ a2 c2 a3 c3, cs = #[.int .i64 q, .slice none 0 0, .slice a2 np c2, .slice a3 ns c3] ∧ Own (fun x => lo ≤ x ∧ x ≠ b) w' 3 1 (.slice a2 np c2) np (i64s ps) ∧
  Own (fun x => lo ≤ x ∧ x ≠ b) w' 3 1 (.slice a3 ns c3) ns (i64s sn) ∧ ∀ x, (Value.slice a2 np c2).ownBlock = some x → (Value.slice a3 ns c3).ownBlock ≠ some x
theorem copC_of {lo l1 h1 l2 h2 : Nat} {q : Int} {ps sn : List Int} {np ns b : Nat} {wA wB X : World} {a2 a3 : Option Addr} {c2 c3 : Nat} (HP : OwnR l1 h1 wA 3 1 (.slice a2 np c2) np (i64s ps)) (HS : OwnR l2 h2 wB 3 1 (.slice a3 ns c3) ns (i64s sn))
    (kA : Keeps (fun x => x < l1 ∨ h1 ≤ x) wA X) (kB : Keeps (fun x => x < l2 ∨ h2 ≤ x) wB X) (b1 : b < l1 ∨ h1 ≤ b) (b2 : b < l2 ∨ h2 ≤ b) (e1 : lo ≤ l1) (e2 : lo ≤ l2) (d : h1 ≤ l2 ∨ h2 ≤ l1) :
    CopC lo q ps sn np ns b #[.int .i64 q, .slice none 0 0, .slice a2 np c2, .slice a3 ns c3] X := by
  have h1 := HP X kA
  have h2 := HS X kB
  refine ⟨a2, c2, a3, c3, rfl, h1.mono (fun x _ h => ⟨by omega, by omega⟩), h2.mono (fun x _ h => ⟨by omega, by omega⟩), fun x g1 g2 => ?_⟩
  have i1 := h1.2 x g1
  have i2 := h2.2 x g2
  omega
theorem set1_8 {X : World} {b q : Nat} {c0 c1 c2 c3 c4 c5 c6 c7 u : Value} (hne : q ≠ b) (h : X.cell? ⟨q, 0, none⟩ = some c0 ∧ X.cell? ⟨q, 1, none⟩ = some c1 ∧ X.cell? ⟨q, 2, none⟩ = some c2 ∧ X.cell? ⟨q, 3, none⟩ = some c3 ∧ X.cell? ⟨q, 4, none⟩ = some c4 ∧ X.cell? ⟨q, 5, none⟩ = some c5 ∧ X.cell? ⟨q, 6, none⟩ = some c6 ∧ X.cell? ⟨q, 7, none⟩ = some c7) :
    let Y := X.setCell ⟨b, 1, none⟩ u; Y.cell? ⟨q, 0, none⟩ = some c0 ∧ Y.cell? ⟨q, 1, none⟩ = some c1 ∧ Y.cell? ⟨q, 2, none⟩ = some c2 ∧ Y.cell? ⟨q, 3, none⟩ = some c3 ∧ Y.cell? ⟨q, 4, none⟩ = some c4 ∧ Y.cell? ⟨q, 5, none⟩ = some c5 ∧ Y.cell? ⟨q, 6, none⟩ = some c6 ∧ Y.cell? ⟨q, 7, none⟩ = some c7 := by
  have key : ∀ o v, X.cell? ⟨q, o, none⟩ = some v → (X.setCell ⟨b, 1, none⟩ u).cell? ⟨q, o, none⟩ = some v := fun o v hv => keep_cell (keeps_set (fun i => i = b) X ⟨b, 1, none⟩ u rfl) (fun h => hne h) hv
  obtain ⟨h0, h1, h2, h3, h4, h5, h6, h7⟩ := h
  exact ⟨key _ _ h0, key _ _ h1, key _ _ h2, key _ _ h3, key _ _ h4, key _ _ h5, key _ _ h6, key _ _ h7⟩
/-- a store's copy: its rows are the call's own, and lie apart -/
def CopR (w : World) (q : Int) (bs : List Bu) (ps sn : List Int) (e : Ending) (w' : World) : Prop := ∃ ab cb ap cp aq cq B1, e = .returned (.agg #[.int .i64 q, .slice ab bs.length cb, .slice ap ps.length cp, .slice aq sn.length cq]) ∧ w.heap.size ≤ B1 ∧ B1 ≤ w'.heap.size ∧
  BuP (fun b => B1 ≤ b) B1 w' (.slice ab bs.length cb) bs ∧ Own (fun b => w.heap.size ≤ b ∧ b < B1) w' 3 1 (.slice ap ps.length cp) ps.length (i64s ps) ∧ Own (fun b => w.heap.size ≤ b ∧ b < B1) w' 3 1 (.slice aq sn.length cq) sn.length (i64s sn) ∧
  (∀ x, (Value.slice ap ps.length cp).ownBlock = some x → (Value.slice aq sn.length cq).ownBlock ≠ some x) ∧ Keeps (fun _ => False) w w'
def ldB : Op := Op.load 41 (.tmp 22)
theorem ldB_eq : Op.load 41 (.tmp 22) = ldB := rfl
attribute [local go_sem] ldB
set_option maxRecDepth 100000 in
set_option maxHeartbeats 4000000 in
theorem copied_any (K : Nat → Prop) (q : Int) (bs : List Bu) (ps sn : List Int) (ab ap aq : Option Addr) (cb cp cq : Nat) (w : World) (hb : Bus K w (.slice ab bs.length cb) bs) (hp : Sl K w (.slice ap ps.length cp) (i64s ps)) (hs : Sl K w (.slice aq sn.length cq) (i64s sn))
    (l1 : bs.length ≤ 1000) (l2 : ps.length ≤ 1000) (l3 : sn.length ≤ 1000) (hd : ∀ x ∈ bs, x.d.length ≤ 1000000) :
    Calls Tryd.prog 26 #[.agg #[.int .i64 q, .slice ab bs.length cb, .slice ap ps.length cp, .slice aq sn.length cq]] w fun e w' => CopR w q bs ps sn e w' := by
  obtain ⟨iB, zB, hBi, hB0, hB1, hB2, hB3⟩ := bu_parts
  have HB := hid (hb.mono (K' := fun b => b < w.heap.size) (fun b h _ => h)); have HP := hid (hp.mono (K' := fun b => b < w.heap.size) (fun b h _ => h)); have HS := hid (hs.mono (K' := fun b => b < w.heap.size) (fun b h _ => h)); have HD := hid hd
  clear hb hp hs hd
  unfold CopR
  obtain ⟨n, hn⟩ : ∃ n, bs.length = n := ⟨_, rfl⟩
  obtain ⟨np, hnp⟩ : ∃ n, ps.length = n := ⟨_, rfl⟩
  obtain ⟨ns, hns⟩ : ∃ n, sn.length = n := ⟨_, rfl⟩
  have HN := hid hn; have HNP := hid hnp; have HNS := hid hns
  rw [hn] at HB l1 ⊢
  rw [hnp] at HP l2 ⊢
  rw [hns] at HS l3 ⊢
  clear hn hnp hns
  go_enter Tryd.func26, Tryd.ntmps26
  go_upto_region 1 with fail
  generalize hW : World.alloc (World.alloc w _) _ = W1
  have KS : Hd (Keeps (fun _ => False) w W1) := hid (by rw [← hW]; exact (Keeps.alloc (Keeps.alloc (Keeps.refl (fun _ => False) w) _) _))
  have HB' : Hd (Bus (fun b => b < w.heap.size) W1 (.slice ab n cb) bs) := hid (HB.out.keep KS.out (fun _ _ _ h => h))
  have HP' : Hd (Sl (fun b => b < w.heap.size) W1 (.slice ap np cp) (i64s ps)) := hid (HP.out.keep KS.out (fun _ _ _ h => h))
  have HS' : Hd (Sl (fun b => b < w.heap.size) W1 (.slice aq ns cq) (i64s sn)) := hid (HS.out.keep KS.out (fun _ _ _ h => h))
  have BA : Hd (Blk W1 w.heap.size #[(.int .i64 q), (.slice ab n cb), (.slice ap np cp), (.slice aq ns cq)] 44) := hid (by rw [← hW]; exact (blk_alloc (blk_new _ _ _) _))
  have BR : Hd (Blk W1 (w.heap.size + 1) #[(.int .i64 0), (.slice none 0 0), (.slice none 0 0), (.slice none 0 0)] 44) := hid (by rw [← hW]; exact (blk_new' _ _ _ _ (by simp)))
  clear HB HP HS
  have HB := HB'
  clear HB'
  have HP := HP'
  clear HP'
  have HS := HS'
  clear HS'
  have HK : Hd (Keeps (fun _ => False) w W1) := hid KS.out
  have z_W1 : w.heap.size + 2 ≤ W1.heap.size := by rw [← hW]; simp
  clear hW KS
  generalize hb_BR : w.heap.size + 1 = b_BR at *
  have HCP : Hd (∀ X, Keeps (fun _ => False) W1 X → Calls Tryd.prog 43 #[.slice ap np cp] X fun e w' => NewI X 3 (i64s ps) e w') := hid (fun X hx => CloneI_any _ _ ps X (HP.out.keep hx (fun _ _ _ h => h)) (by rw [HNP.out]; omega))
  have HCS : Hd (∀ X, Keeps (fun _ => False) W1 X → Calls Tryd.prog 43 #[.slice aq ns cq] X fun e w' => NewI X 3 (i64s sn) e w') := hid (fun X hx => CloneI_any _ _ sn X (HS.out.keep hx (fun _ _ _ h => h)) (by rw [HNS.out]; omega))
  go_cut [3] from 6 to 14 (fun u3 wx => CutF W1 44 (fun b c w' => CopC W1.heap.size q ps sn np ns b c w') u3 wx)
  case first =>
    have KC : Hd (Keeps (fun _ => False) W1 W1) := hid (Keeps.refl _ _)
    have HSS : Hd (∀ w', Keeps (fun _ => False) W1 w' → (w'.cell? ⟨w.heap.size, 0, none⟩ = some ((.int .i64 q)) ∧ w'.cell? ⟨w.heap.size, 2, none⟩ = some ((.slice ap np cp)) ∧ w'.cell? ⟨w.heap.size, 3, none⟩ = some ((.slice aq ns cq)))) := hid (fun w' hk => ⟨blk_cell (blk_keep BA.out hk (fun h => h)) 0, blk_cell (blk_keep BA.out hk (fun h => h)) 2, blk_cell (blk_keep BA.out hk (fun h => h)) 3⟩)
    go_region_held (fun w' => w'.cell? ⟨w.heap.size, 0, none⟩ = some ((.int .i64 q)) ∧ w'.cell? ⟨w.heap.size, 2, none⟩ = some ((.slice ap np cp)) ∧ w'.cell? ⟨w.heap.size, 3, none⟩ = some ((.slice aq ns cq))) (exact HSS.out _ (by repeat (first | (with_reducible exact KC.out) | (with_reducible exact Keeps.refl _ _) | (with_reducible apply Keeps.drewN) | (with_reducible apply Keeps.drew) | (with_reducible apply Keeps.alloc) | (refine Keeps.setCell ?_ (.inr (by first | exact Nat.le_refl _ | (simp <;> fail) | (simp; omega) | omega | fail)) _))))
      (first
      | (go_at_call 43; (refine (HCP.out _ (by repeat (first | (with_reducible exact KC.out) | (with_reducible exact Keeps.refl _ _) | (with_reducible apply Keeps.drewN) | (with_reducible apply Keeps.drew) | (with_reducible apply Keeps.alloc)))).mono ?_); rintro e wy0 ⟨a2, n2, c2, rfl, hn2, ho2, hk⟩; have KC2 : Hd (Keeps (fun _ => False) W1 wy0) := hid (Keeps.trans (S := fun _ => False) (by repeat (first | (with_reducible exact KC.out) | (with_reducible exact Keeps.refl _ _) | (with_reducible apply Keeps.drewN) | (with_reducible apply Keeps.drew) | (with_reducible apply Keeps.alloc))) hk); have zc := KC.out.size; obtain rfl : np = n2 := (by rw [hn2, i64s_length, HNP.out]); skip; have QP := hid (own_rng ho2); have YP : Hd (Keeps (fun _ => False) wy0 wy0) := hid (Keeps.refl _ _); (try (have YS2 : Hd (Keeps (fun _ => False) wy1 wy0) := hid (Keeps.trans (S := fun _ => False) (by repeat (first | (with_reducible exact YS.out) | (with_reducible exact Keeps.refl _ _) | (with_reducible apply Keeps.drewN) | (with_reducible apply Keeps.drew) | (with_reducible apply Keeps.alloc))) hk); have YS := YS2; clear YS2)); clear hn2 ho2; (try (replace LNB := hid (Keeps.trans (S := fun _ => False) (by repeat (first | (with_reducible exact LNB.out) | (with_reducible exact Keeps.refl _ _) | (with_reducible apply Keeps.drewN) | (with_reducible apply Keeps.drew) | (with_reducible apply Keeps.alloc))) hk))); (first | (have HNBX := HNB; clear HNBX) | (have HNB : Hd (∀ Vz, Keeps (fun _ => False) wy0 Vz → Blk Vz W1.heap.size #[(.int .i64 0), (.slice none 0 0), (.slice none 0 0), (.slice none 0 0)] 44) := hid (fun Vz hv => blk_keep (blk_keep (by (repeat (first | (with_reducible apply blk_drewN) | (with_reducible apply blk_drew) | (with_reducible refine blk_new' _ _ _ _ ?_) | (with_reducible apply blk_alloc))); (first | (with_reducible rfl) | (simp only [World.size_alloc, World.size_drew] <;> fail) | (simp <;> fail))) hk (fun h => h)) hv (fun h => h)); have LNB : Hd (Keeps (fun _ => False) wy0 wy0) := hid (Keeps.refl _ _)) | (have HNB : Hd (∀ Vz, Keeps (fun _ => False) wy0 Vz → Blk Vz (W1.heap.size + 1) #[(.int .i64 0), (.slice none 0 0), (.slice none 0 0), (.slice none 0 0)] 44) := hid (fun Vz hv => blk_keep (blk_keep (by (repeat (first | (with_reducible apply blk_drewN) | (with_reducible apply blk_drew) | (with_reducible refine blk_new' _ _ _ _ ?_) | (with_reducible apply blk_alloc))); (first | (with_reducible rfl) | (simp only [World.size_alloc, World.size_drew] <;> fail) | (simp <;> fail))) hk (fun h => h)) hv (fun h => h)); have LNB : Hd (Keeps (fun _ => False) wy0 wy0) := hid (Keeps.refl _ _)) | skip); replace KC := KC2; clear KC2; (try (have nF0 := blk_cell (HNB.out _ LNB.out) 0; have nG0 := blk_free (HNB.out _ LNB.out) 0; have nF1 := blk_cell (HNB.out _ LNB.out) 1; have nG1 := blk_free (HNB.out _ LNB.out) 1; have nF2 := blk_cell (HNB.out _ LNB.out) 2; have nG2 := blk_free (HNB.out _ LNB.out) 2; have nF3 := blk_cell (HNB.out _ LNB.out) 3; have nG3 := blk_free (HNB.out _ LNB.out) 3)); have zk := hk.size; (try simp at zk); have zd := KC.out.size; replace hk := hid hk)
      | (go_at_call 43; (refine (HCS.out _ (by repeat (first | (with_reducible exact KC.out) | (with_reducible exact Keeps.refl _ _) | (with_reducible apply Keeps.drewN) | (with_reducible apply Keeps.drew) | (with_reducible apply Keeps.alloc)))).mono ?_); rintro e wy1 ⟨a3, n3, c3, rfl, hn3, ho3, hk⟩; have KC2 : Hd (Keeps (fun _ => False) W1 wy1) := hid (Keeps.trans (S := fun _ => False) (by repeat (first | (with_reducible exact KC.out) | (with_reducible exact Keeps.refl _ _) | (with_reducible apply Keeps.drewN) | (with_reducible apply Keeps.drew) | (with_reducible apply Keeps.alloc))) hk); have zc := KC.out.size; obtain rfl : ns = n3 := (by rw [hn3, i64s_length, HNS.out]); have QS := hid (own_rng ho3); have YS : Hd (Keeps (fun _ => False) wy1 wy1) := hid (Keeps.refl _ _); (try (have YP2 : Hd (Keeps (fun _ => False) wy0 wy1) := hid (Keeps.trans (S := fun _ => False) (by repeat (first | (with_reducible exact YP.out) | (with_reducible exact Keeps.refl _ _) | (with_reducible apply Keeps.drewN) | (with_reducible apply Keeps.drew) | (with_reducible apply Keeps.alloc))) hk); have YP := YP2; clear YP2)); clear hn3 ho3; (try (replace LNB := hid (Keeps.trans (S := fun _ => False) (by repeat (first | (with_reducible exact LNB.out) | (with_reducible exact Keeps.refl _ _) | (with_reducible apply Keeps.drewN) | (with_reducible apply Keeps.drew) | (with_reducible apply Keeps.alloc))) hk))); (first | (have HNBX := HNB; clear HNBX) | (have HNB : Hd (∀ Vz, Keeps (fun _ => False) wy1 Vz → Blk Vz W1.heap.size #[(.int .i64 0), (.slice none 0 0), (.slice none 0 0), (.slice none 0 0)] 44) := hid (fun Vz hv => blk_keep (blk_keep (by (repeat (first | (with_reducible apply blk_drewN) | (with_reducible apply blk_drew) | (with_reducible refine blk_new' _ _ _ _ ?_) | (with_reducible apply blk_alloc))); (first | (with_reducible rfl) | (simp only [World.size_alloc, World.size_drew] <;> fail) | (simp <;> fail))) hk (fun h => h)) hv (fun h => h)); have LNB : Hd (Keeps (fun _ => False) wy1 wy1) := hid (Keeps.refl _ _)) | (have HNB : Hd (∀ Vz, Keeps (fun _ => False) wy1 Vz → Blk Vz (W1.heap.size + 1) #[(.int .i64 0), (.slice none 0 0), (.slice none 0 0), (.slice none 0 0)] 44) := hid (fun Vz hv => blk_keep (blk_keep (by (repeat (first | (with_reducible apply blk_drewN) | (with_reducible apply blk_drew) | (with_reducible refine blk_new' _ _ _ _ ?_) | (with_reducible apply blk_alloc))); (first | (with_reducible rfl) | (simp only [World.size_alloc, World.size_drew] <;> fail) | (simp <;> fail))) hk (fun h => h)) hv (fun h => h)); have LNB : Hd (Keeps (fun _ => False) wy1 wy1) := hid (Keeps.refl _ _)) | (have HNB : Hd (∀ Vz, Keeps (fun _ => False) wy1 Vz → Blk Vz wy0.heap.size #[(.int .i64 0), (.slice none 0 0), (.slice none 0 0), (.slice none 0 0)] 44) := hid (fun Vz hv => blk_keep (blk_keep (by (repeat (first | (with_reducible apply blk_drewN) | (with_reducible apply blk_drew) | (with_reducible refine blk_new' _ _ _ _ ?_) | (with_reducible apply blk_alloc))); (first | (with_reducible rfl) | (simp only [World.size_alloc, World.size_drew] <;> fail) | (simp <;> fail))) hk (fun h => h)) hv (fun h => h)); have LNB : Hd (Keeps (fun _ => False) wy1 wy1) := hid (Keeps.refl _ _)) | (have HNB : Hd (∀ Vz, Keeps (fun _ => False) wy1 Vz → Blk Vz (wy0.heap.size + 1) #[(.int .i64 0), (.slice none 0 0), (.slice none 0 0), (.slice none 0 0)] 44) := hid (fun Vz hv => blk_keep (blk_keep (by (repeat (first | (with_reducible apply blk_drewN) | (with_reducible apply blk_drew) | (with_reducible refine blk_new' _ _ _ _ ?_) | (with_reducible apply blk_alloc))); (first | (with_reducible rfl) | (simp only [World.size_alloc, World.size_drew] <;> fail) | (simp <;> fail))) hk (fun h => h)) hv (fun h => h)); have LNB : Hd (Keeps (fun _ => False) wy1 wy1) := hid (Keeps.refl _ _)) | skip); replace KC := KC2; clear KC2; (try (have nF0 := blk_cell (HNB.out _ LNB.out) 0; have nG0 := blk_free (HNB.out _ LNB.out) 0; have nF1 := blk_cell (HNB.out _ LNB.out) 1; have nG1 := blk_free (HNB.out _ LNB.out) 1; have nF2 := blk_cell (HNB.out _ LNB.out) 2; have nG2 := blk_free (HNB.out _ LNB.out) 2; have nF3 := blk_cell (HNB.out _ LNB.out) 3; have nG3 := blk_free (HNB.out _ LNB.out) 3)); have zk := hk.size; (try simp at zk); have zd := KC.out.size; replace hk := hid hk))
    all_goals
      go_wp2_with fail
      go_meet
      first | ((with_reducible refine cutF_new KC.out ?_); exact (fun w' hk => copC_of QP.out QS.out (Keeps.mono (S := fun _ => False) (Keeps.trans (by repeat (first | (with_reducible exact YP.out) | (with_reducible apply Keeps.drewN) | (with_reducible apply Keeps.drew) | (with_reducible apply Keeps.alloc))) hk) (fun _ _ h => h.elim)) (Keeps.mono (S := fun _ => False) (Keeps.trans (by repeat (first | (with_reducible exact YS.out) | (with_reducible apply Keeps.drewN) | (with_reducible apply Keeps.drew) | (with_reducible apply Keeps.alloc))) hk) (fun _ _ h => h.elim)) (by first | omega | (left; simp; omega) | (right; simp; omega) | (left; simp; done) | (right; simp; done) | (simp; omega) | fail) (by first | omega | (left; simp; omega) | (right; simp; omega) | (left; simp; done) | (right; simp; done) | (simp; omega) | fail) (by first | exact Nat.le_refl _ | omega | (simp <;> fail) | (simp; omega) | fail) (by first | exact Nat.le_refl _ | omega | (simp <;> fail) | (simp; omega) | fail) (by first | omega | (left; simp; omega) | (right; simp; omega) | (left; simp; done) | (right; simp; done) | (simp; omega) | fail))) | ((with_reducible refine cutF_old4 KC.out (by first | exact Nat.le_refl _ | omega | (simp <;> fail) | (simp; omega) | fail) (HNB.out _ LNB.out) ?_); exact (fun w' hk => copC_of QP.out QS.out ((Keeps.mono (S := fun _ => False) (by repeat (first | (with_reducible exact YP.out) | (with_reducible apply Keeps.drewN) | (with_reducible apply Keeps.drew) | (with_reducible apply Keeps.alloc))) (fun _ _ h => h.elim)).trans (hk.mono (fun i _ h => by subst h; first | omega | (left; simp; omega) | (right; simp; omega) | (left; simp; done) | (right; simp; done) | (simp; omega) | fail))) ((Keeps.mono (S := fun _ => False) (by repeat (first | (with_reducible exact YS.out) | (with_reducible apply Keeps.drewN) | (with_reducible apply Keeps.drew) | (with_reducible apply Keeps.alloc))) (fun _ _ h => h.elim)).trans (hk.mono (fun i _ h => by subst h; first | omega | (left; simp; omega) | (right; simp; omega) | (left; simp; done) | (right; simp; done) | (simp; omega) | fail))) (by first | omega | (left; simp; omega) | (right; simp; omega) | (left; simp; done) | (right; simp; done) | (simp; omega) | fail) (by first | omega | (left; simp; omega) | (right; simp; omega) | (left; simp; done) | (right; simp; done) | (simp; omega) | fail) (by first | exact Nat.le_refl _ | omega | (simp <;> fail) | (simp; omega) | fail) (by first | exact Nat.le_refl _ | omega | (simp <;> fail) | (simp; omega) | fail) (by first | omega | (left; simp; omega) | (right; simp; omega) | (left; simp; done) | (right; simp; done) | (simp; omega) | fail))) | ((with_reducible refine cutF_drew (fun _ _ _ h => h) (cutF_new KC.out ?_)); exact (fun w' hk => copC_of QP.out QS.out (Keeps.mono (S := fun _ => False) (Keeps.trans (by repeat (first | (with_reducible exact YP.out) | (with_reducible apply Keeps.drewN) | (with_reducible apply Keeps.drew) | (with_reducible apply Keeps.alloc))) hk) (fun _ _ h => h.elim)) (Keeps.mono (S := fun _ => False) (Keeps.trans (by repeat (first | (with_reducible exact YS.out) | (with_reducible apply Keeps.drewN) | (with_reducible apply Keeps.drew) | (with_reducible apply Keeps.alloc))) hk) (fun _ _ h => h.elim)) (by first | omega | (left; simp; omega) | (right; simp; omega) | (left; simp; done) | (right; simp; done) | (simp; omega) | fail) (by first | omega | (left; simp; omega) | (right; simp; omega) | (left; simp; done) | (right; simp; done) | (simp; omega) | fail) (by first | exact Nat.le_refl _ | omega | (simp <;> fail) | (simp; omega) | fail) (by first | exact Nat.le_refl _ | omega | (simp <;> fail) | (simp; omega) | fail) (by first | omega | (left; simp; omega) | (right; simp; omega) | (left; simp; done) | (right; simp; done) | (simp; omega) | fail))) | ((with_reducible refine cutF_drew (fun _ _ _ h => h) (cutF_old4 KC.out (by first | exact Nat.le_refl _ | omega | (simp <;> fail) | (simp; omega) | fail) (HNB.out _ LNB.out) ?_)); exact (fun w' hk => copC_of QP.out QS.out ((Keeps.mono (S := fun _ => False) (by repeat (first | (with_reducible exact YP.out) | (with_reducible apply Keeps.drewN) | (with_reducible apply Keeps.drew) | (with_reducible apply Keeps.alloc))) (fun _ _ h => h.elim)).trans (hk.mono (fun i _ h => by subst h; first | omega | (left; simp; omega) | (right; simp; omega) | (left; simp; done) | (right; simp; done) | (simp; omega) | fail))) ((Keeps.mono (S := fun _ => False) (by repeat (first | (with_reducible exact YS.out) | (with_reducible apply Keeps.drewN) | (with_reducible apply Keeps.drew) | (with_reducible apply Keeps.alloc))) (fun _ _ h => h.elim)).trans (hk.mono (fun i _ h => by subst h; first | omega | (left; simp; omega) | (right; simp; omega) | (left; simp; done) | (right; simp; done) | (simp; omega) | fail))) (by first | omega | (left; simp; omega) | (right; simp; omega) | (left; simp; done) | (right; simp; done) | (simp; omega) | fail) (by first | omega | (left; simp; omega) | (right; simp; omega) | (left; simp; done) | (right; simp; done) | (simp; omega) | fail) (by first | exact Nat.le_refl _ | omega | (simp <;> fail) | (simp; omega) | fail) (by first | exact Nat.le_refl _ | omega | (simp <;> fail) | (simp; omega) | fail) (by first | omega | (left; simp; omega) | (right; simp; omega) | (left; simp; done) | (right; simp; done) | (simp; omega) | fail)))
  case rest =>
    obtain ⟨b_O, cs_O, rfl, hb_O, O, HC, hk⟩ := hcut
    replace hk := hk.out
    generalize wc = W2 at *
    have HB' : Hd (Bus (fun b => b < w.heap.size) W2 (.slice ab n cb) bs) := hid (HB.out.keep hk (fun _ _ _ h => h))
    have HP' : Hd (Sl (fun b => b < w.heap.size) W2 (.slice ap np cp) (i64s ps)) := hid (HP.out.keep hk (fun _ _ _ h => h))
    have HS' : Hd (Sl (fun b => b < w.heap.size) W2 (.slice aq ns cq) (i64s sn)) := hid (HS.out.keep hk (fun _ _ _ h => h))
    have BA' : Hd (Blk W2 w.heap.size #[(.int .i64 q), (.slice ab n cb), (.slice ap np cp), (.slice aq ns cq)] 44) := hid (blk_keep BA.out hk (fun h => h))
    have BR' : Hd (Blk W2 b_BR #[(.int .i64 0), (.slice none 0 0), (.slice none 0 0), (.slice none 0 0)] 44) := hid (blk_keep BR.out hk (fun h => h))
    clear HB HP HS BA BR
    have HB := HB'
    clear HB'
    have HP := HP'
    clear HP'
    have HS := HS'
    clear HS'
    have BA := BA'
    clear BA'
    have BR := BR'
    clear BR'
    have HK' : Hd (Keeps (fun _ => False) w W2) := hid (HK.out.trans hk)
    clear HK
    have HK := HK'
    clear HK'
    have z_W2 := hk.size
    clear hk
    obtain ⟨a2, c2, a3, c3, rfl, hop, hos, hdis⟩ := HC.out
    have HOP := hid hop; have HOS := hid hos; have HDIS := hid hdis
    clear HC hop hos hdis HCP HCS HP HS
    have ltO : b_O < W2.heap.size := blk_lt O.out
    have o_BA_1 : W2.cell? ⟨w.heap.size, 1, none⟩ = some ((.slice ab n cb)) := blk_cell BA.out 1
    go_wp2_with fail
    clear o_BA_1
    go_loopw [18] (fun iv wr => ∃ (k : Nat) (a4 : Option Addr) (c4 : Nat), iv = .int .i64 (k : Int) ∧ k ≤ n ∧ Hd (Blk wr b_O #[.int .i64 q, .slice a4 k c4, .slice a2 np c2, .slice a3 ns c3] 44) ∧ Hd (BuP (fun b => W2.heap.size ≤ b) W2.heap.size wr (.slice a4 k c4) (bs.take k)) ∧ Hd (Keeps (fun b => b = b_O) W2 wr)) (fun iv _ => n - (intOf iv).toNat)
    case atStart => exact ⟨0, none, 0, rfl, Nat.zero_le _, hid O.out, hid (by rw [List.take_zero]; exact BuP.nil _ _ _), hid (Keeps.refl _ _)⟩
    case round =>
      obtain ⟨V, rfl⟩ : ∃ V, V = wr := ⟨_, rfl⟩
      obtain ⟨k, a4, c4, rfl, hk, HO4, HBP, HKR⟩ := hrel
      by_cases hlt : k < n
      · have q1 : (k : Int) < n := by omega
        have q2 : (0 : Int) ≤ k := by omega
        obtain ⟨bx, ox, rfl, hbx, -, hc⟩ := bus_cells HB.out (by rw [HN.out]; omega)
        have hkl : k < bs.length := by rw [HN.out]; exact hlt
        obtain ⟨x, hxk⟩ : ∃ x, bs[k]? = some x := ⟨bs[k], List.getElem?_eq_getElem hkl⟩
        obtain ⟨e0, e1, e2, e3, e4, e5, e6, ad, cd, e7, hsx⟩ := hc k x hxk
        have m0 := keep_cell HKR.out (fun h => by omega) e0
        have m1 := keep_cell HKR.out (fun h => by omega) e1
        have m2 := keep_cell HKR.out (fun h => by omega) e2
        have m3 := keep_cell HKR.out (fun h => by omega) e3
        have m4 := keep_cell HKR.out (fun h => by omega) e4
        have m5 := keep_cell HKR.out (fun h => by omega) e5
        have m6 := keep_cell HKR.out (fun h => by omega) e6
        have m7 := keep_cell HKR.out (fun h => by omega) e7
        have HSX := hid ((hsx.keep HKR.out (fun b _ h1 h2 => by omega)).mono (K' := fun b => b < w.heap.size) (fun b _ h => h))
        have hdx := HD.out x (List.mem_of_getElem? hxk)
        have HTK : Hd (bs.take (k + 1) = bs.take k ++ [x]) := hid (by rw [List.take_add_one, hxk]; rfl)
        have HKL : Hd ((bs.take k).length = k) := hid (by rw [List.length_take]; omega)
        have zR := HKR.out.size
        clear e0 e1 e2 e3 e4 e5 e6 e7 hc hxk hkl hsx
        have HLB : Hd (∀ b, (Value.slice a4 k c4).ownBlock = some b → b < V.heap.size) := hid (fun b hb => by obtain ⟨xs, hO, _⟩ := HBP.out; exact (hO.1.lt b hb).2)
        go_upto_region 5 with fail
        clear m0 m1 m2 m3 m4 m5 m6 m7
        generalize hW : World.alloc V _ = V1
        have KS : Hd (Keeps (fun _ => False) V V1) := hid (by rw [← hW]; exact (Keeps.alloc (Keeps.refl (fun _ => False) V) _))
        have HSX' : Hd (Sl (fun b => b < w.heap.size) V1 (.slice ad x.d.length cd) (u8s x.d)) := hid (HSX.out.keep KS.out (fun _ _ _ h => h))
        have HO4' : Hd (Blk V1 b_O #[(.int .i64 q), (.slice a4 k c4), (.slice a2 np c2), (.slice a3 ns c3)] 44) := hid (by rw [← hW]; exact (blk_alloc HO4.out _))
        have HBP' : Hd (BuP (fun b => W2.heap.size ≤ b) W2.heap.size V1 (.slice a4 k c4) (bs.take k)) := hid (HBP.out.keep KS.out (fun _ _ _ h => h))
        have BX : Hd (Blk V1 V.heap.size #[(.int .i64 x.i), (.int .i64 x.f), (.int .i64 x.t), (.int .i64 x.g), (.int .i64 x.o), (.int .i64 x.a), (.int .u32 (x.s : Int)), (.slice ad x.d.length cd)] 59) := hid (by rw [← hW]; exact (blk_new _ _ _))
        clear HSX HO4 HBP
        have HSX := HSX'
        clear HSX'
        have HO4 := HO4'
        clear HO4'
        have HBP := HBP'
        clear HBP'
        have HK : Hd (Keeps (fun _ => False) V V1) := hid KS.out
        have z_V1 : V.heap.size + 1 ≤ V1.heap.size := by rw [← hW]; simp
        clear hW KS
        generalize hbX : V.heap.size = bX at *
        clear hbX
        have hlx : bX < V1.heap.size := blk_lt BX.out
        obtain ⟨xs, hO, hge, hX⟩ := HBP.out
        rw [HKL.out] at hO
        have HLT : Hd (∀ b, (Value.slice a4 k c4).ownBlock = some b → b < V1.heap.size) := hid (fun b hb => (hO.1.lt b hb).2)
        have HOO := hid hO; have HX := hid hX; have HGE := hid hge
        skip
        clear hO hX hge
        have HGO : Hd (∀ b, (Value.slice a4 k c4).ownBlock = some b → b ≠ b_O) := hid (fun b hb => by have := HGE.out b hb; omega)
        have HGX : Hd (∀ b, (Value.slice a4 k c4).ownBlock = some b → b ≠ bX) := hid (fun b hb => by have := HLB.out b hb; omega)
        have o1 : V1.cell? ⟨b_O, 1, none⟩ = some (.slice a4 k c4) := blk_cell HO4.out 1
        have ga1 : ∀ o, (World.alloc V1 o).cell? ⟨b_O, 1, none⟩ = some (.slice a4 k c4) := fun o => keep_cell (keeps_alloc (fun _ => False) _ o) (fun h => h) o1
        have HSS : Hd (∀ w', Keeps (fun b => (Value.slice a4 k c4).ownBlock = some b) V1 w' → (w'.cell? ⟨bX, 0, none⟩ = some ((.int .i64 x.i)) ∧ w'.cell? ⟨bX, 1, none⟩ = some ((.int .i64 x.f)) ∧ w'.cell? ⟨bX, 2, none⟩ = some ((.int .i64 x.t)) ∧ w'.cell? ⟨bX, 3, none⟩ = some ((.int .i64 x.g)) ∧ w'.cell? ⟨bX, 4, none⟩ = some ((.int .i64 x.o)) ∧ w'.cell? ⟨bX, 5, none⟩ = some ((.int .i64 x.a)) ∧ w'.cell? ⟨bX, 6, none⟩ = some ((.int .u32 (x.s : Int))) ∧ w'.cell? ⟨bX, 7, none⟩ = some ((.slice ad x.d.length cd)))) := hid (fun w' hk => ⟨blk_cell (blk_keep BX.out hk (fun h => HGX.out _ h rfl)) 0, blk_cell (blk_keep BX.out hk (fun h => HGX.out _ h rfl)) 1, blk_cell (blk_keep BX.out hk (fun h => HGX.out _ h rfl)) 2, blk_cell (blk_keep BX.out hk (fun h => HGX.out _ h rfl)) 3, blk_cell (blk_keep BX.out hk (fun h => HGX.out _ h rfl)) 4, blk_cell (blk_keep BX.out hk (fun h => HGX.out _ h rfl)) 5, blk_cell (blk_keep BX.out hk (fun h => HGX.out _ h rfl)) 6, blk_cell (blk_keep BX.out hk (fun h => HGX.out _ h rfl)) 7⟩)
        have HCL : Hd (∀ X, Keeps (fun _ => False) V1 X → Calls Tryd.prog 27 #[.agg #[.int .i64 x.i, .int .i64 x.f, .int .i64 x.t, .int .i64 x.g, .int .i64 x.o, .int .i64 x.a, .int .u32 (x.s : Int), .slice ad x.d.length cd]] X fun e w' => ∃ a c, e = .returned (.agg #[.int .i64 x.i, .int .i64 x.f, .int .i64 x.t, .int .i64 x.g, .int .i64 x.o, .int .i64 x.a, .int .u32 (x.s : Int), .slice a x.d.length c]) ∧ Sl (fun b => X.heap.size ≤ b) w' (.slice a x.d.length c) (u8s x.d) ∧ Keeps (fun _ => False) X w') := hid (fun X hx => clone_any x _ ad cd X (HSX.out.keep hx (fun _ _ _ h => h)) hdx)
        have KC : Hd (Keeps (fun _ => False) V1 V1) := hid (Keeps.refl _ _)
        rw [ldB_eq]
        go_region_held_law (fun w' => w'.cell? ⟨bX, 0, none⟩ = some ((.int .i64 x.i)) ∧ w'.cell? ⟨bX, 1, none⟩ = some ((.int .i64 x.f)) ∧ w'.cell? ⟨bX, 2, none⟩ = some ((.int .i64 x.t)) ∧ w'.cell? ⟨bX, 3, none⟩ = some ((.int .i64 x.g)) ∧ w'.cell? ⟨bX, 4, none⟩ = some ((.int .i64 x.o)) ∧ w'.cell? ⟨bX, 5, none⟩ = some ((.int .i64 x.a)) ∧ w'.cell? ⟨bX, 6, none⟩ = some ((.int .u32 (x.s : Int))) ∧ w'.cell? ⟨bX, 7, none⟩ = some ((.slice ad x.d.length cd))) ((first | (refine HSS.out _ ?_; (repeat (first | (with_reducible exact K7.out) | (with_reducible exact KC.out.mono (fun _ _ h => h.elim)) | (with_reducible exact Keeps.refl _ _) | (with_reducible apply Keeps.drewN) | (with_reducible apply Keeps.drew) | (with_reducible apply Keeps.alloc))); done) | (refine set1_8 (b := b_O) (by omega) (HSS.out _ ?_); (repeat (first | (with_reducible exact K7.out) | (with_reducible exact KC.out.mono (fun _ _ h => h.elim)) | (with_reducible exact Keeps.refl _ _) | (with_reducible apply Keeps.drewN) | (with_reducible apply Keeps.drew) | (with_reducible apply Keeps.alloc))); done)))
          (first
          | (refine step_append_row rfl (.tmp 23) (.tmp 26) 41 rfl 59 iB zB 8 80 Tryd.underlying41 hBi hB0 hB1 hB2 hB3 (by decide) (fun b => (Value.slice a4 k c4).ownBlock = some b) (.slice a4 k c4) k xs (by simp [Act.eval]) ((HOO.out.keep KC.out (fun _ _ _ h => h)).alloc _) ⟨wy0.heap.size, 0, none⟩ 1 1 [.int .i64 x.i, .int .i64 x.f, .int .i64 x.t, .int .i64 x.g, .int .i64 x.o, .int .i64 x.a, .int .u32 (x.s : Int), .slice a1 x.d.length c1] (by simp [Act.eval]) rfl (lit_src wy0 _ _) (by intro u hu; simp at hu; rcases hu with rfl | rfl | rfl | rfl | rfl | rfl | rfl | rfl <;> rfl) (by simp [maxLen]; omega) (by omega) ?_; intro a7 c7 w7 hown7 hgrow; have K7 : Hd (Keeps (fun b => (Value.slice a4 k c4).ownBlock = some b) V1 w7) := hid (((KC.out.mono (T := (fun b => (Value.slice a4 k c4).ownBlock = some b)) (fun _ _ h => h.elim)).alloc _).trans hgrow); have g10 : w7.cell? ⟨b_O, 1, none⟩ = some (.slice a4 k c4) := keep_cell K7.out (fun h => HGO.out _ h rfl) (blk_cell HO4.out 1); have z10 : w7.frozen? ⟨b_O, 1, none⟩ = false := keep_free K7.out (fun h => HGO.out _ h rfl) (blk_cell HO4.out 1) (blk_free HO4.out 1); replace hown7 := hid hown7; replace hgrow := hid hgrow)
          | (go_at_call 27; (refine (HCL.out _ (by repeat (first | (with_reducible exact KC.out) | (with_reducible exact Keeps.refl _ _) | (with_reducible apply Keeps.drewN) | (with_reducible apply Keeps.drew) | (with_reducible apply Keeps.alloc)))).mono ?_); rintro e wy0 ⟨a1, c1, rfl, hs1, hk⟩; have KC2 : Hd (Keeps (fun _ => False) V1 wy0) := hid (Keeps.trans (S := fun _ => False) (by repeat (first | (with_reducible exact KC.out) | (with_reducible exact Keeps.refl _ _) | (with_reducible apply Keeps.drewN) | (with_reducible apply Keeps.drew) | (with_reducible apply Keeps.alloc))) hk); have HS1 := hid (hs1.mono (K' := fun b => V1.heap.size ≤ b) (fun b _ h => Nat.le_trans (by first | exact Nat.le_refl _ | (simp <;> fail) | (simp; omega) | omega | fail) h)); clear hs1; replace KC := KC2; clear KC2; have c10 : wy0.cell? ⟨b_O, 1, none⟩ = some (.slice a4 k c4) := keep_cell KC.out (fun h => h) (blk_cell HO4.out 1); have ga10 : ∀ o, (World.alloc wy0 o).cell? ⟨b_O, 1, none⟩ = some (.slice a4 k c4) := fun o => keep_cell (keeps_alloc (fun _ => False) _ o) (fun h => h) c10; replace hk := hid hk))
        all_goals
          go_wp2
          have zk := KC.out.size
          have HBN : Hd (BuP (fun b => W2.heap.size ≤ b) W2.heap.size w7 (.slice a7 (k + 1) c7) (bs.take (k + 1))) := hid (by
            rw [HTK.out]
            refine bup_append (v := .slice a4 k c4) (ns := [.int .i64 x.i, .int .i64 x.f, .int .i64 x.t, .int .i64 x.g, .int .i64 x.o, .int .i64 x.a, .int .u32 (x.s : Int), .slice a1 x.d.length c1]) HGE.out (HX.out.keep KC.out (fun _ _ _ h => h)) (keeps_alloc _ wy0 (.cells ([.int .i64 x.i, .int .i64 x.f, .int .i64 x.t, .int .i64 x.g, .int .i64 x.o, .int .i64 x.a, .int .u32 (x.s : Int), .slice a1 x.d.length c1]).toArray 59)) (BuC.one ((HS1.out.keep (keeps_alloc (fun _ => False) _ _) (fun _ _ _ h => h)).mono (fun b _ h => ⟨by omega, fun e => by have := HLT.out b e; omega⟩))) (by simp; omega) ?_ (by first | exact hgrow.out | exact hgrow.out.mono (fun _ _ h => h))
            rw [HKL.out]
            exact hown7.out)
          have HSET : Hd (Keeps (fun b => b = b_O) w7 (w7.setCell ⟨b_O, 1, none⟩ (.slice a7 (k + 1) c7))) := hid (keeps_set _ _ _ _ rfl)
          have HBN2 := hid (HBN.out.keep HSET.out (fun b h1 h2 h3 => by omega))
          have HON : Hd (Blk (w7.setCell ⟨b_O, 1, none⟩ (.slice a7 (k + 1) c7)) b_O #[.int .i64 q, .slice a7 (k + 1) c7, .slice a2 np c2, .slice a3 ns c3] 44) := hid (blk_set (blk_keep HO4.out K7.out (fun h => HGO.out _ h rfl)) 1 _)
          have HKN : Hd (Keeps (fun b => b = b_O) W2 (w7.setCell ⟨b_O, 1, none⟩ (.slice a7 (k + 1) c7))) := hid (((HKR.out.trans (HK.out.mono (fun _ _ h => h.elim))).trans' K7.out (fun i hi h => by have := HGE.out i h; omega)).trans HSET.out)
          go_roundw
          case rel => exact ⟨k + 1, a7, c7, by go_num, by omega, HON, HBN2, HKN⟩
          case measure => simp [intOf]; omega
      · have hkn : k = n := by omega
        have q1 : ¬ ((k : Int) < n) := by omega
        have HT : Hd (bs.take k = bs) := hid (List.take_of_length_le (by rw [HN.out, hkn]; exact Nat.le_refl _))
        rw [HT.out] at HBP
        subst hkn
        have o0 := blk_cell HO4.out 0
        have o1 := blk_cell HO4.out 1
        have o2 := blk_cell HO4.out 2
        have o3 := blk_cell HO4.out 3
        have HBR := hid (blk_keep BR.out HKR.out (fun h => by omega))
        have o4 := blk_cell HBR.out 0
        have o5 := blk_cell HBR.out 1
        have o6 := blk_cell HBR.out 2
        have o7 := blk_cell HBR.out 3
        have f0 := blk_free HBR.out 0
        have f1 := blk_free HBR.out 1
        have f2 := blk_free HBR.out 2
        have f3 := blk_free HBR.out 3
        have zR := HKR.out.size
        go_wp2
        clear o0 o1 o2 o3 o4 o5 o6 o7 f0 f1 f2 f3
        have HKV : Hd (Keeps (fun _ => False) w V) := hid (HK.out.trans' HKR.out (fun i hi h => by omega))
        obtain ⟨HV2, B3⟩ := fin4 HKV.out (show w.heap.size ≤ b_BR by omega) HBR.out (.int .i64 q) (.slice a4 k c4) (.slice a2 np c2) (.slice a3 ns c3)
        have r0 := blk_cell B3 0
        have r1 := blk_cell B3 1
        have r2 := blk_cell B3 2
        have r3 := blk_cell B3 3
        refine bodyPost_ret (v := .agg #[.int .i64 q, .slice a4 k c4, .slice a2 np c2, .slice a3 ns c3]) (by simp [results, Tryd.results26, go_sem, r0, r1, r2, r3]) rfl ?_
        have kf := keep4 V b_BR (.int .i64 q) (.slice a4 k c4) (.slice a2 np c2) (.slice a3 ns c3)
        refine ⟨a4, c4, a2, c2, a3, c3, rfl, W2.heap.size, by omega, (by have := kf.size; omega), HBP.out.keep kf (fun b h1 h2 h3 => by omega), ?_, ?_, HDIS.out, HV2⟩
        · exact ((HOP.out.mono (K' := fun b => W1.heap.size ≤ b ∧ b ≠ b_O ∧ b < W2.heap.size) (fun b hb h => ⟨h.1, h.2, hb⟩)).keep (HKR.out) (fun b _ h1 h2 => h1.2.1 h2)).keep kf (fun b _ h1 h2 => by omega) |>.mono (fun b _ h => ⟨by omega, by omega⟩)
        · exact ((HOS.out.mono (K' := fun b => W1.heap.size ≤ b ∧ b ≠ b_O ∧ b < W2.heap.size) (fun b hb h => ⟨h.1, h.2, hb⟩)).keep (HKR.out) (fun b _ h1 h2 => h1.2.1 h2)).keep kf (fun b _ h1 h2 => by omega) |>.mono (fun b _ h => ⟨by omega, by omega⟩)
end Go.Proofs.YtgfekgceeigdiaaDoor
