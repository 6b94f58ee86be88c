/- Frame: Encode of the reference; the law of the encodings. -/
import Derived.Test.YthoikljmokkchaaDoorFrT
import Derived.Test.YthoikljmokkchaaDoorFrV
import Derived.Test.YthoikljmokkchaaDoorCrcAll
namespace Go.Proofs.YthoikljmokkchaaDoor
open Go.RowKit
attribute [local go_sem ↓] Go.wp_at_zero Go.wp_at_succ
theorem encF_lt {f : Fr} (h : f.ok) : ∀ c ∈ encF f, c < 256 := by
  unfold encF
  exact Cr.seal_lt (fun c hc => by
    rcases List.mem_append.1 hc with hc | hc
    · exact covL_lt h c hc
    · exact Wi.enc_lt _ _ hc)
set_option maxRecDepth 100000 in
set_option maxHeartbeats 1000000 in
theorem REncode_any (f : Fr) (K : Nat → Prop) (a : Option Addr) (c : Nat) (w : World) (hf : f.ok) (hx : Sl K w (.slice a f.b.length c) (u8s f.b)) :
    Calls Tryd.prog 17 #[.agg #[.int .i64 f.q, .int .i64 f.k, .bool f.u, .slice a f.b.length c, .int .u64 (f.t : Int)]] w fun e w' => Cr.NewRet w 5 (u8s (encF f)) e w' := by
  have HX := hid (hx.mono (K' := fun b => b < w.heap.size) (fun b h _ => h))
  have HF := hid hf
  have HLL : Hd ((covL f ++ Wi.enc f.t).length ≤ 140737488351500) := hid (by
    rw [List.length_append]; have h1 := covL_len hf; have h2 := Wi.enc_len10 (n := f.t) (by have := hf.t; omega); have := hf.n; omega)
  have HLT : Hd (∀ c ∈ covL f ++ Wi.enc f.t, c < 256) := hid (fun c hc => by
    rcases List.mem_append.1 hc with h | h
    · exact covL_lt HF.out c h
    · exact Wi.enc_lt _ _ h)
  have HE : Hd (encF f = Cr.seal_ (covL f ++ Wi.enc f.t)) := hid rfl
  clear hx hf
  obtain ⟨m, hmm⟩ : ∃ m, f.b.length = m := ⟨_, rfl⟩
  have HM := hid hmm
  rw [hmm] at HX ⊢
  clear hmm
  go_enter Tryd.func17, Tryd.ntmps17
  go_upto_region 1 with fail
  generalize hW : World.alloc w _ = W1
  have KS : Hd (Keeps (fun _ => False) w W1) := hid (by rw [← hW]; exact (Keeps.alloc (Keeps.refl (fun _ => False) w) _))
  have HX' : Hd (Sl (fun b => b < w.heap.size) W1 (.slice a m c) (u8s f.b)) := hid (HX.out.keep KS.out (fun _ _ _ h => h))
  have BF : Hd (Blk W1 w.heap.size #[(.int .i64 f.q), (.int .i64 f.k), (.bool f.u), (.slice a m c), (.int .u64 (f.t : Int))] 25) := hid (by rw [← hW]; exact (blk_new _ _ _))
  clear HX
  have HX := HX'
  clear HX'
  have HK : Hd (Keeps (fun _ => False) w W1) := hid KS.out
  have z_W1 : w.heap.size + 1 ≤ W1.heap.size := by rw [← hW]; simp
  clear hW KS
  have o_BF_0 : W1.cell? ⟨w.heap.size, 0, none⟩ = some ((.int .i64 f.q)) := blk_cell BF.out 0
  have o_BF_1 : W1.cell? ⟨w.heap.size, 1, none⟩ = some ((.int .i64 f.k)) := blk_cell BF.out 1
  have o_BF_2 : W1.cell? ⟨w.heap.size, 2, none⟩ = some ((.bool f.u)) := blk_cell BF.out 2
  have o_BF_3 : W1.cell? ⟨w.heap.size, 3, none⟩ = some ((.slice a m c)) := blk_cell BF.out 3
  have o_BF_4 : W1.cell? ⟨w.heap.size, 4, none⟩ = some ((.int .u64 (f.t : Int))) := blk_cell BF.out 4
  have hcall := RPlain_any f (fun b => b < w.heap.size) a c W1 HF.out (by rw [HM.out]; exact HX.out)
  rw [HM.out] at hcall
  have HC := hid hcall
  clear hcall
  go_wp2_with fail
  refine (HC.out).mono ?_
  rintro e V1 ⟨a1, n1, c1, rfl, hn1, ho, hk⟩
  clear HC
  clear HX
  clear o_BF_0 o_BF_1 o_BF_2 o_BF_3 o_BF_4
  have BF' : Hd (Blk V1 w.heap.size #[(.int .i64 f.q), (.int .i64 f.k), (.bool f.u), (.slice a m c), (.int .u64 (f.t : Int))] 25) := hid (blk_keep BF.out hk (fun h => h))
  clear BF
  have BF := BF'
  clear BF'
  have HK' : Hd (Keeps (fun _ => False) w V1) := hid (HK.out.trans hk)
  clear HK
  have HK := HK'
  clear HK'
  have z_V1 := hk.size
  clear hk
  have HO := hid ho; have HN1 := hid hn1
  clear ho hn1
  go_wp2_with fail
  refine (Cr.RSeal_any _ _ (covL f ++ Wi.enc f.t) _ (row_sl HO.out.row HN1.out.symm) HLT.out (Nat.le_trans HLL.out (by decide))).mono ?_
  rintro e V2 ⟨a2, n2, c2, rfl, hn2, ho, hk⟩
  have BF' : Hd (Blk V2 w.heap.size #[(.int .i64 f.q), (.int .i64 f.k), (.bool f.u), (.slice a m c), (.int .u64 (f.t : Int))] 25) := hid (blk_keep BF.out hk (fun h => h))
  clear BF
  have BF := BF'
  clear BF'
  have HK' : Hd (Keeps (fun _ => False) w V2) := hid (HK.out.trans hk)
  clear HK
  have HK := HK'
  clear HK'
  have z_V2 := hk.size
  clear hk
  have HO2 := hid ho; have HN2 := hid hn2
  clear ho hn2
  go_wp2
  go_ret
  refine ⟨a2, n2, c2, rfl, by rw [HE.out]; exact HN2.out, ?_, HK.out⟩
  rw [HE.out]; exact HO2.out.mono (fun b _ h => by omega)
set_option maxRecDepth 100000 in
set_option maxHeartbeats 4000000 in
theorem encodes_any (f : Fr) (a : Option Addr) (c : Nat) (w : World) (hN : Cr.Nib w) (hf : f.ok) (hx : Sl (fun b => b < w.heap.size) w (.slice a f.b.length c) (u8s f.b)) :
    Calls Tryd.prog 3 #[.agg #[.int .i64 f.q, .int .i64 f.k, .bool f.u, .slice a f.b.length c, .int .u64 (f.t : Int)]] w fun e w' => e = .returned (.bool true) ∧ Keeps (fun _ => False) w w' := by
  have HX := hid hx
  have HN : Hd (NibR w) := hid hN
  have hpos := NibR.pos (hN : NibR w)
  have HF := hid hf
  have HLT : Hd (∀ c ∈ covL f, c < 256) := hid (covL_lt hf)
  have HET : Hd (∀ c ∈ encF f, c < 256) := hid (encF_lt hf)
  clear hx hN hf
  obtain ⟨m, hmm⟩ : ∃ m, f.b.length = m := ⟨_, rfl⟩
  have HM := hid hmm
  rw [hmm] at HX ⊢
  clear hmm
  go_enter Tryd.func3, Tryd.ntmps3
  go_upto_region 1 with fail
  generalize hW : World.alloc w _ = W1
  have KS : Hd (Keeps (fun _ => False) w W1) := hid (by rw [← hW]; exact (Keeps.alloc (Keeps.refl (fun _ => False) w) _))
  have HX' : Hd (Sl (fun b => b < w.heap.size) W1 (.slice a m c) (u8s f.b)) := hid (HX.out.keep KS.out (fun _ _ _ h => h))
  have HN' : Hd (NibR W1) := hid (HN.out.keep KS.out (fun _ _ _ h => h))
  have BF : Hd (Blk W1 w.heap.size #[(.int .i64 f.q), (.int .i64 f.k), (.bool f.u), (.slice a m c), (.int .u64 (f.t : Int))] 25) := hid (by rw [← hW]; exact (blk_new _ _ _))
  clear HX HN
  have HX := HX'
  clear HX'
  have HN := HN'
  clear HN'
  have HK : Hd (Keeps (fun _ => False) w W1) := hid KS.out
  have z_W1 : w.heap.size + 1 ≤ W1.heap.size := by rw [← hW]; simp
  clear hW KS
  have HC1 : Hd (∀ X, Keeps (fun _ => False) W1 X → Calls Tryd.prog 14 #[.agg #[(.int .i64 f.q), (.int .i64 f.k), (.bool f.u), (.slice a m c), (.int .u64 (f.t : Int))]] X fun e w' => Cr.NewRet X 5 (u8s (covL f)) e w') := hid (fun X hx => by have h := Signed_any f (fun b => b < w.heap.size) a c X HF.out (by rw [HM.out]; exact HX.out.keep hx (fun _ _ _ h => h)); rw [HM.out] at h; exact h)
  have HC2 : Hd (∀ X, Keeps (fun _ => False) W1 X → Calls Tryd.prog 15 #[.agg #[(.int .i64 f.q), (.int .i64 f.k), (.bool f.u), (.slice a m c), (.int .u64 (f.t : Int))]] X fun e w' => Cr.NewRet X 5 (u8s (covL f)) e w') := hid (fun X hx => by have h := RSigned_any f (fun b => b < w.heap.size) a c X HF.out (by rw [HM.out]; exact HX.out.keep hx (fun _ _ _ h => h)); rw [HM.out] at h; exact h)
  have HC3 : Hd (∀ X, Keeps (fun _ => False) W1 X → Calls Tryd.prog 16 #[.agg #[(.int .i64 f.q), (.int .i64 f.k), (.bool f.u), (.slice a m c), (.int .u64 (f.t : Int))]] X fun e w' => Cr.NewRet X 5 (u8s (encF f)) e w') := hid (fun X hx => by have h := Encode_any f (fun b => b < w.heap.size) a c X (HN.out.keep hx (fun _ _ _ h => h)) HF.out (by rw [HM.out]; exact HX.out.keep hx (fun _ _ _ h => h)); rw [HM.out] at h; exact h)
  have HC4 : Hd (∀ X, Keeps (fun _ => False) W1 X → Calls Tryd.prog 17 #[.agg #[(.int .i64 f.q), (.int .i64 f.k), (.bool f.u), (.slice a m c), (.int .u64 (f.t : Int))]] X fun e w' => Cr.NewRet X 5 (u8s (encF f)) e w') := hid (fun X hx => by have h := REncode_any f (fun b => b < w.heap.size) a c X HF.out (by rw [HM.out]; exact HX.out.keep hx (fun _ _ _ h => h)); rw [HM.out] at h; exact h)
  have HLV : Hd (∀ X, Keeps (fun _ => False) W1 X → Calls Tryd.prog 18 #[] X fun e w' => e = .returned (.bool true) ∧ Keeps (fun _ => False) X w') := hid (fun X hx => lives_any X (HN.out.keep hx (fun _ _ _ h => h)))
  have HSS : Hd (∀ w', Keeps (fun _ => False) W1 w' → (w'.cell? ⟨w.heap.size, 0, none⟩ = some ((.int .i64 f.q)) ∧ w'.cell? ⟨w.heap.size, 1, none⟩ = some ((.int .i64 f.k)) ∧ w'.cell? ⟨w.heap.size, 2, none⟩ = some ((.bool f.u)) ∧ w'.cell? ⟨w.heap.size, 3, none⟩ = some ((.slice a m c)) ∧ w'.cell? ⟨w.heap.size, 4, none⟩ = some ((.int .u64 (f.t : Int))))) := hid (fun w' hk => ⟨blk_cell (blk_keep BF.out hk (fun h => h)) 0, blk_cell (blk_keep BF.out hk (fun h => h)) 1, blk_cell (blk_keep BF.out hk (fun h => h)) 2, blk_cell (blk_keep BF.out hk (fun h => h)) 3, blk_cell (blk_keep BF.out hk (fun h => h)) 4⟩)
  have KC : Hd (Keeps (fun _ => False) W1 W1) := hid (Keeps.refl _ _)
  go_region_held (fun w' => w'.cell? ⟨w.heap.size, 0, none⟩ = some ((.int .i64 f.q)) ∧ w'.cell? ⟨w.heap.size, 1, none⟩ = some ((.int .i64 f.k)) ∧ w'.cell? ⟨w.heap.size, 2, none⟩ = some ((.bool f.u)) ∧ w'.cell? ⟨w.heap.size, 3, none⟩ = some ((.slice a m c)) ∧ w'.cell? ⟨w.heap.size, 4, none⟩ = some ((.int .u64 (f.t : Int)))) ((refine HSS.out _ ?_; (repeat (first | (with_reducible exact KC.out) | (with_reducible exact Keeps.refl _ _) | (with_reducible apply Keeps.drewN) | (with_reducible apply Keeps.drew) | (with_reducible apply Keeps.alloc)))))
    (first
    | (go_at_call 14; (refine (HC1.out _ (by (repeat (first | (with_reducible exact KC.out) | (with_reducible exact Keeps.refl _ _) | (with_reducible apply Keeps.drewN) | (with_reducible apply Keeps.drew) | (with_reducible apply Keeps.alloc))))).mono ?_); rintro e y1 ⟨a1, n1, c1, rfl, hn, ho, hk⟩; (try (have ZHO2 : Hd (∀ Z, Keeps (fun _ => False) y1 Z → Sl (fun _ => True) Z _ _) := hid (fun Z hz => HO2.out Z (Keeps.trans (S := fun _ => False) (Keeps.trans (S := fun _ => False) (by (repeat (first | (with_reducible exact Keeps.refl _ _) | (with_reducible apply Keeps.drewN) | (with_reducible apply Keeps.drew) | (with_reducible apply Keeps.alloc))); done) hk) hz)); clear HO2; have HO2 := ZHO2; clear ZHO2)); (try (have ZHO3 : Hd (∀ Z, Keeps (fun _ => False) y1 Z → Sl (fun _ => True) Z _ _) := hid (fun Z hz => HO3.out Z (Keeps.trans (S := fun _ => False) (Keeps.trans (S := fun _ => False) (by (repeat (first | (with_reducible exact Keeps.refl _ _) | (with_reducible apply Keeps.drewN) | (with_reducible apply Keeps.drew) | (with_reducible apply Keeps.alloc))); done) hk) hz)); clear HO3; have HO3 := ZHO3; clear ZHO3)); (try (have ZHO4 : Hd (∀ Z, Keeps (fun _ => False) y1 Z → Sl (fun _ => True) Z _ _) := hid (fun Z hz => HO4.out Z (Keeps.trans (S := fun _ => False) (Keeps.trans (S := fun _ => False) (by (repeat (first | (with_reducible exact Keeps.refl _ _) | (with_reducible apply Keeps.drewN) | (with_reducible apply Keeps.drew) | (with_reducible apply Keeps.alloc))); done) hk) hz)); clear HO4; have HO4 := ZHO4; clear ZHO4)); have KC2 : Hd (Keeps (fun _ => False) W1 y1) := hid (Keeps.trans (S := fun _ => False) (by (repeat (first | (with_reducible exact KC.out) | (with_reducible exact Keeps.refl _ _) | (with_reducible apply Keeps.drewN) | (with_reducible apply Keeps.drew) | (with_reducible apply Keeps.alloc)))) hk); clear KC; have KC := KC2; clear KC2; have HO1 : Hd (∀ Z, Keeps (fun _ => False) y1 Z → Sl (fun _ => True) Z (.slice a1 n1 c1) (u8s (covL f))) := hid (fun Z hz => ((row_sl ho.row hn.symm).mono (fun _ _ _ => trivial)).keep hz (fun _ _ _ h => h)); clear hn ho hk)
    | (go_at_call 15; (refine (HC2.out _ (by (repeat (first | (with_reducible exact KC.out) | (with_reducible exact Keeps.refl _ _) | (with_reducible apply Keeps.drewN) | (with_reducible apply Keeps.drew) | (with_reducible apply Keeps.alloc))))).mono ?_); rintro e y2 ⟨a2, n2, c2, rfl, hn, ho, hk⟩; (try (have ZHO1 : Hd (∀ Z, Keeps (fun _ => False) y2 Z → Sl (fun _ => True) Z _ _) := hid (fun Z hz => HO1.out Z (Keeps.trans (S := fun _ => False) (Keeps.trans (S := fun _ => False) (by (repeat (first | (with_reducible exact Keeps.refl _ _) | (with_reducible apply Keeps.drewN) | (with_reducible apply Keeps.drew) | (with_reducible apply Keeps.alloc))); done) hk) hz)); clear HO1; have HO1 := ZHO1; clear ZHO1)); (try (have ZHO3 : Hd (∀ Z, Keeps (fun _ => False) y2 Z → Sl (fun _ => True) Z _ _) := hid (fun Z hz => HO3.out Z (Keeps.trans (S := fun _ => False) (Keeps.trans (S := fun _ => False) (by (repeat (first | (with_reducible exact Keeps.refl _ _) | (with_reducible apply Keeps.drewN) | (with_reducible apply Keeps.drew) | (with_reducible apply Keeps.alloc))); done) hk) hz)); clear HO3; have HO3 := ZHO3; clear ZHO3)); (try (have ZHO4 : Hd (∀ Z, Keeps (fun _ => False) y2 Z → Sl (fun _ => True) Z _ _) := hid (fun Z hz => HO4.out Z (Keeps.trans (S := fun _ => False) (Keeps.trans (S := fun _ => False) (by (repeat (first | (with_reducible exact Keeps.refl _ _) | (with_reducible apply Keeps.drewN) | (with_reducible apply Keeps.drew) | (with_reducible apply Keeps.alloc))); done) hk) hz)); clear HO4; have HO4 := ZHO4; clear ZHO4)); have KC2 : Hd (Keeps (fun _ => False) W1 y2) := hid (Keeps.trans (S := fun _ => False) (by (repeat (first | (with_reducible exact KC.out) | (with_reducible exact Keeps.refl _ _) | (with_reducible apply Keeps.drewN) | (with_reducible apply Keeps.drew) | (with_reducible apply Keeps.alloc)))) hk); clear KC; have KC := KC2; clear KC2; have HO2 : Hd (∀ Z, Keeps (fun _ => False) y2 Z → Sl (fun _ => True) Z (.slice a2 n2 c2) (u8s (covL f))) := hid (fun Z hz => ((row_sl ho.row hn.symm).mono (fun _ _ _ => trivial)).keep hz (fun _ _ _ h => h)); clear hn ho hk)
    | (go_at_call 16; (refine (HC3.out _ (by (repeat (first | (with_reducible exact KC.out) | (with_reducible exact Keeps.refl _ _) | (with_reducible apply Keeps.drewN) | (with_reducible apply Keeps.drew) | (with_reducible apply Keeps.alloc))))).mono ?_); rintro e y3 ⟨a3, n3, c3, rfl, hn, ho, hk⟩; (try (have ZHO1 : Hd (∀ Z, Keeps (fun _ => False) y3 Z → Sl (fun _ => True) Z _ _) := hid (fun Z hz => HO1.out Z (Keeps.trans (S := fun _ => False) (Keeps.trans (S := fun _ => False) (by (repeat (first | (with_reducible exact Keeps.refl _ _) | (with_reducible apply Keeps.drewN) | (with_reducible apply Keeps.drew) | (with_reducible apply Keeps.alloc))); done) hk) hz)); clear HO1; have HO1 := ZHO1; clear ZHO1)); (try (have ZHO2 : Hd (∀ Z, Keeps (fun _ => False) y3 Z → Sl (fun _ => True) Z _ _) := hid (fun Z hz => HO2.out Z (Keeps.trans (S := fun _ => False) (Keeps.trans (S := fun _ => False) (by (repeat (first | (with_reducible exact Keeps.refl _ _) | (with_reducible apply Keeps.drewN) | (with_reducible apply Keeps.drew) | (with_reducible apply Keeps.alloc))); done) hk) hz)); clear HO2; have HO2 := ZHO2; clear ZHO2)); (try (have ZHO4 : Hd (∀ Z, Keeps (fun _ => False) y3 Z → Sl (fun _ => True) Z _ _) := hid (fun Z hz => HO4.out Z (Keeps.trans (S := fun _ => False) (Keeps.trans (S := fun _ => False) (by (repeat (first | (with_reducible exact Keeps.refl _ _) | (with_reducible apply Keeps.drewN) | (with_reducible apply Keeps.drew) | (with_reducible apply Keeps.alloc))); done) hk) hz)); clear HO4; have HO4 := ZHO4; clear ZHO4)); have KC2 : Hd (Keeps (fun _ => False) W1 y3) := hid (Keeps.trans (S := fun _ => False) (by (repeat (first | (with_reducible exact KC.out) | (with_reducible exact Keeps.refl _ _) | (with_reducible apply Keeps.drewN) | (with_reducible apply Keeps.drew) | (with_reducible apply Keeps.alloc)))) hk); clear KC; have KC := KC2; clear KC2; have HO3 : Hd (∀ Z, Keeps (fun _ => False) y3 Z → Sl (fun _ => True) Z (.slice a3 n3 c3) (u8s (encF f))) := hid (fun Z hz => ((row_sl ho.row hn.symm).mono (fun _ _ _ => trivial)).keep hz (fun _ _ _ h => h)); clear hn ho hk)
    | (go_at_call 17; (refine (HC4.out _ (by (repeat (first | (with_reducible exact KC.out) | (with_reducible exact Keeps.refl _ _) | (with_reducible apply Keeps.drewN) | (with_reducible apply Keeps.drew) | (with_reducible apply Keeps.alloc))))).mono ?_); rintro e y4 ⟨a4, n4, c4, rfl, hn, ho, hk⟩; (try (have ZHO1 : Hd (∀ Z, Keeps (fun _ => False) y4 Z → Sl (fun _ => True) Z _ _) := hid (fun Z hz => HO1.out Z (Keeps.trans (S := fun _ => False) (Keeps.trans (S := fun _ => False) (by (repeat (first | (with_reducible exact Keeps.refl _ _) | (with_reducible apply Keeps.drewN) | (with_reducible apply Keeps.drew) | (with_reducible apply Keeps.alloc))); done) hk) hz)); clear HO1; have HO1 := ZHO1; clear ZHO1)); (try (have ZHO2 : Hd (∀ Z, Keeps (fun _ => False) y4 Z → Sl (fun _ => True) Z _ _) := hid (fun Z hz => HO2.out Z (Keeps.trans (S := fun _ => False) (Keeps.trans (S := fun _ => False) (by (repeat (first | (with_reducible exact Keeps.refl _ _) | (with_reducible apply Keeps.drewN) | (with_reducible apply Keeps.drew) | (with_reducible apply Keeps.alloc))); done) hk) hz)); clear HO2; have HO2 := ZHO2; clear ZHO2)); (try (have ZHO3 : Hd (∀ Z, Keeps (fun _ => False) y4 Z → Sl (fun _ => True) Z _ _) := hid (fun Z hz => HO3.out Z (Keeps.trans (S := fun _ => False) (Keeps.trans (S := fun _ => False) (by (repeat (first | (with_reducible exact Keeps.refl _ _) | (with_reducible apply Keeps.drewN) | (with_reducible apply Keeps.drew) | (with_reducible apply Keeps.alloc))); done) hk) hz)); clear HO3; have HO3 := ZHO3; clear ZHO3)); have KC2 : Hd (Keeps (fun _ => False) W1 y4) := hid (Keeps.trans (S := fun _ => False) (by (repeat (first | (with_reducible exact KC.out) | (with_reducible exact Keeps.refl _ _) | (with_reducible apply Keeps.drewN) | (with_reducible apply Keeps.drew) | (with_reducible apply Keeps.alloc)))) hk); clear KC; have KC := KC2; clear KC2; have HO4 : Hd (∀ Z, Keeps (fun _ => False) y4 Z → Sl (fun _ => True) Z (.slice a4 n4 c4) (u8s (encF f))) := hid (fun Z hz => ((row_sl ho.row hn.symm).mono (fun _ _ _ => trivial)).keep hz (fun _ _ _ h => h)); clear hn ho hk)
    | (go_at_call 13; (refine (SameBytes_any _ _ _ _ (encF f) (encF f) _ (HO3.out _ (by (repeat (first | (with_reducible exact Keeps.refl _ _) | (with_reducible apply Keeps.drewN) | (with_reducible apply Keeps.drew) | (with_reducible apply Keeps.alloc))); done)) (HO4.out _ (by (repeat (first | (with_reducible exact Keeps.refl _ _) | (with_reducible apply Keeps.drewN) | (with_reducible apply Keeps.drew) | (with_reducible apply Keeps.alloc))); done)) HET.out HET.out).mono ?_); (rw [decide_eq_true rfl]); rintro e z3 ⟨rfl, rfl⟩)
    | (go_at_call 13; (refine (SameBytes_any _ _ _ _ (covL f) (covL f) _ (HO1.out _ (by (repeat (first | (with_reducible exact Keeps.refl _ _) | (with_reducible apply Keeps.drewN) | (with_reducible apply Keeps.drew) | (with_reducible apply Keeps.alloc))); done)) (HO2.out _ (by (repeat (first | (with_reducible exact Keeps.refl _ _) | (with_reducible apply Keeps.drewN) | (with_reducible apply Keeps.drew) | (with_reducible apply Keeps.alloc))); done)) HLT.out HLT.out).mono ?_); (rw [decide_eq_true rfl]); rintro e z1 ⟨rfl, rfl⟩)
    | (go_at_call 18; (refine (HLV.out _ (by (repeat (first | (with_reducible exact KC.out) | (with_reducible exact Keeps.refl _ _) | (with_reducible apply Keeps.drewN) | (with_reducible apply Keeps.drew) | (with_reducible apply Keeps.alloc))))).mono ?_); rintro e yl ⟨rfl, hk⟩; have KC2 : Hd (Keeps (fun _ => False) W1 yl) := hid (Keeps.trans (S := fun _ => False) (by (repeat (first | (with_reducible exact KC.out) | (with_reducible exact Keeps.refl _ _) | (with_reducible apply Keeps.drewN) | (with_reducible apply Keeps.drew) | (with_reducible apply Keeps.alloc)))) hk); clear KC; have KC := KC2; clear KC2; clear hk))
  all_goals
    go_wp2
    go_ret
    refine ⟨rfl, ?_⟩
    refine HK.out.trans ?_
    exact (by (repeat (first | (with_reducible exact KC.out) | (with_reducible exact Keeps.refl _ _) | (with_reducible apply Keeps.drewN) | (with_reducible apply Keeps.drew) | (with_reducible apply Keeps.alloc))))
end Go.Proofs.YthoikljmokkchaaDoor
