/- Frame: the examples of the chapter. -/
import Derived.Test.YthoikljmokkchaaDoorFrMid
import Derived.Test.YthoikljmokkchaaDoorFrS
import Derived.Test.YthoikljmokkchaaDoorFrU
import Derived.Test.YthoikljmokkchaaDoorFrPlain
import Derived.Test.YthoikljmokkchaaDoorCrcAll
namespace Go.Proofs.YthoikljmokkchaaDoor
open Go.RowKit
attribute [local go_sem ↓] Go.wp_at_zero Go.wp_at_succ
theorem frs_empty {K K' : Nat → Prop} {w w' : World} {a : Option Addr} {c : Nat} (h : Frs K w (.slice a 0 c) []) : Frs K' w' (.slice a 0 c) [] := by
  obtain ⟨xs, ⟨h0, h1⟩, h2⟩ := h
  refine ⟨[], ⟨rfl, ?_⟩, FrL.nil _ _⟩
  rcases h1 with ⟨e, _⟩ | ⟨x, cap, e, h3, h4, _⟩
  · exact .inl ⟨e, rfl⟩
  · exact .inr ⟨x, cap, e, h3, h4, fun h => by simp at h⟩
theorem lit_i64 (V : World) (n : Int) : Sl (fun _ => True) (V.alloc (.cells #[.int .i64 n] 3)) (.slice (some ⟨V.heap.size, 0, none⟩) 1 1) (i64s [n]) := src_one _ _ trivial
theorem lit_two (V : World) : Bds (fun _ => True) (((V.alloc (.cells #[.int .u8 97] 5 (1, 2))).alloc (.cells #[.int .u8 98] 5 (1, 2))).alloc (.cells #[.slice (some ⟨V.heap.size, 0, none⟩) 1 1, .slice (some ⟨V.heap.size + 1, 0, none⟩) 1 1] 22)) (.slice (some ⟨V.heap.size + 2, 0, none⟩) 2 2) [[97], [98]] := by
  have k1 : ∀ (X : World) o, Keeps (fun _ => False) X (X.alloc o) := fun X o => keeps_alloc _ X o
  have s1 := ((Cr.lit_slm V [97] (1, 2) (by decide)).keep (k1 _ (.cells #[.int .u8 98] 5 (1, 2))) (fun _ _ _ h => h)).keep (k1 _ (.cells #[.slice (some ⟨V.heap.size, 0, none⟩) 1 1, .slice (some ⟨V.heap.size + 1, 0, none⟩) 1 1] 22)) (fun _ _ _ h => h)
  have s2 := (Cr.lit_slm (V.alloc (.cells #[.int .u8 97] 5 (1, 2))) [98] (1, 2) (by decide)).keep (k1 _ (.cells #[.slice (some ⟨V.heap.size, 0, none⟩) 1 1, .slice (some ⟨V.heap.size + 1, 0, none⟩) 1 1] 22)) (fun _ _ _ h => h)
  simp only [World.size_alloc] at s2
  have hr := lit_rowF ((V.alloc (.cells #[.int .u8 97] 5 (1, 2))).alloc (.cells #[.int .u8 98] 5 (1, 2))) #[.slice (some ⟨V.heap.size, 0, none⟩) 1 1, .slice (some ⟨V.heap.size + 1, 0, none⟩) 1 1] 22 2 1 rfl (by simp [maxLen])
  simp only [World.size_alloc] at hr
  exact ⟨_, hr, (BdL.one s1).append (BdL.one s2)⟩
def lG1 : Fr := setQ lF1 1
set_option maxRecDepth 100000 in
set_option maxHeartbeats 4000000 in
theorem lives_any (w : World) (hN : Cr.Nib w) : Calls Tryd.prog 18 #[] w fun e w' => e = .returned (.bool true) ∧ Keeps (fun _ => False) w w' := by
  have HN := hid hN
  have hpos := NibR.pos (hN : NibR w)
  clear hN
  obtain ⟨T1, hT1⟩ : ∃ T, lF1.t = T := ⟨_, rfl⟩
  obtain ⟨T0, hT0⟩ : ∃ T, lF0.t = T := ⟨_, rfl⟩
  obtain ⟨S1, hS1⟩ : ∃ S, iterN 1 7 = S := ⟨_, rfl⟩
  obtain ⟨S2, hS2⟩ : ∃ S, iterN 2 7 = S := ⟨_, rfl⟩
  have hl1 := lv1; have hl2 := lv2; have hl3 := lv3
  rw [hS1] at hl1 hl2
  rw [hS2] at hl2 hl3
  have HT1 := hid hT1; have HT0 := hid hT0; have HS1 := hid hS1; have HS2 := hid hS2
  have HL1 := hid hl1; have HL2 := hid hl2; have HL3 := hid hl3
  have HS1L : Hd (S1 < 18446744073709551616) := hid (by rw [← hS1]; exact iterN_lt (by decide) _)
  have HS2L : Hd (S2 < 18446744073709551616) := hid (by rw [← hS2]; exact iterN_lt (by decide) _)
  clear hl1 hl2 hl3 hT1 hT0 hS1 hS2
  have HE1 : Hd (∀ (K : Nat → Prop) X ba bc, Bds K X (.slice ba 3 bc) [[97], [98], [99]] → Calls Tryd.prog 39 #[.agg #[.slice ba 3 bc, .int .i64 0, .int .u64 7, .int .i64 0], .int .i64 1] X fun e w' => ∃ a c a2 c2, e = .returned (.tuple #[.agg #[.int .i64 1, .int .i64 0, .bool false, .slice a 1 c, .int .u64 (T1 : Int)], .agg #[.slice a2 3 c2, .int .i64 0, .int .u64 (S1 : Int), .int .i64 1], .int .i64 0]) ∧ Sl (fun b => X.heap.size ≤ b) w' (.slice a 1 c) (u8s [98]) ∧ Bds (fun b => X.heap.size ≤ b) w' (.slice a2 3 c2) [[97], [98], [99]] ∧ Keeps (fun _ => False) X w') := hid (fun K X ba bc hb => by
    have h := Emit_ok [[97], [98], [99]] [98] ba bc 0 ⟨7, 0⟩ 1 K X hb (by decide) (by decide) ⟨by decide, by decide, by decide⟩ rfl (by decide) (by decide) (by decide)
    refine h.mono (fun e w' hh => ?_)
    rw [← HT1.out, ← HS1.out]
    exact hh)
  have HE0 : Hd (∀ (K : Nat → Prop) X ba bc, Bds K X (.slice ba 3 bc) [[97], [98], [99]] → Calls Tryd.prog 39 #[.agg #[.slice ba 3 bc, .int .i64 0, .int .u64 (S1 : Int), .int .i64 1], .int .i64 0] X fun e w' => ∃ a c a2 c2, e = .returned (.tuple #[.agg #[.int .i64 0, .int .i64 1, .bool false, .slice a 1 c, .int .u64 (T0 : Int)], .agg #[.slice a2 3 c2, .int .i64 0, .int .u64 (S2 : Int), .int .i64 2], .int .i64 0]) ∧ Sl (fun b => X.heap.size ≤ b) w' (.slice a 1 c) (u8s [97]) ∧ Bds (fun b => X.heap.size ≤ b) w' (.slice a2 3 c2) [[97], [98], [99]] ∧ Keeps (fun _ => False) X w') := hid (fun K X ba bc hb => by
    have h := Emit_ok [[97], [98], [99]] [97] ba bc 0 ⟨S1, 1⟩ 0 K X hb (by decide) (by decide) ⟨HS1L.out, by simp, by simp⟩ rfl (by decide) (by decide) (by decide)
    refine h.mono (fun e w' hh => ?_)
    rw [← HT0.out, ← HS2.out]
    have e1 := HS1.out
    subst e1
    exact hh)
  have HR1 : Hd (∀ X ba bc, Sl (fun _ => True) X (.slice ba 1 bc) (u8s [98]) → Calls Tryd.prog 24 #[.agg #[.int .i64 0, .slice none 0 0, .bool false, .int .u64 7, .int .i64 0], .agg #[.int .i64 1, .int .i64 0, .bool false, .slice ba 1 bc, .int .u64 (T1 : Int)]] X fun e w' => ∃ a2 c2 a3 c3, e = .returned (.tuple #[.agg #[.int .i64 0, .slice a2 1 c2, .bool false, .int .u64 (S1 : Int), .int .i64 1], .slice a3 0 c3, .int .i64 0]) ∧ Frs (fun b => X.heap.size ≤ b) w' (.slice a2 1 c2) [lG1] ∧ Keeps (fun _ => False) X w') := hid (fun X ba bc hs => by
    have h := Receive_any 0 [] none 0 false ⟨7, 0⟩ lF1 (fun _ => False) ba bc X (Frs.nil _ _) (fun _ h => h.elim) hs 1000 ⟨by decide, by decide, by simp, List.Pairwise.nil, by decide, by decide, by decide⟩ (by decide) lF1_ok
    rw [HL1.out] at h
    rw [← HT1.out]
    exact h.mono (fun e w' ⟨a2, c2, a3, c3, he, h1, _, h3⟩ => ⟨a2, c2, a3, c3, he, h1.mono (fun b _ h => h.elim (fun h => h.elim) id), h3⟩))
  have HR2 : Hd (∀ X (K : Nat → Prop) fa fc ba bc, Frs K X (.slice fa 1 fc) [lG1] → (∀ b, K b → b < X.heap.size) → Sl (fun _ => True) X (.slice ba 1 bc) (u8s [97]) → Calls Tryd.prog 24 #[.agg #[.int .i64 0, .slice fa 1 fc, .bool false, .int .u64 (S1 : Int), .int .i64 1], .agg #[.int .i64 0, .int .i64 1, .bool false, .slice ba 1 bc, .int .u64 (T0 : Int)]] X fun e w' => ∃ a2 c2 a3 c3, e = .returned (.tuple #[.agg #[.int .i64 2, .slice a2 0 c2, .bool false, .int .u64 (S2 : Int), .int .i64 2], .slice a3 2 c3, .int .i64 0]) ∧ Frs (fun _ => True) w' (.slice a2 0 c2) [] ∧ Bds (fun b => X.heap.size ≤ b) w' (.slice a3 2 c3) [[97], [98]] ∧ Keeps (fun _ => False) X w') := hid (fun X K fa fc ba bc hf hK hs => by
    have h := Receive_any 0 [lG1] fa fc false ⟨S1, 1⟩ lF0 K ba bc X hf hK hs 1000 ⟨by simp, by simp, by
      intro x hx
      simp at hx
      subst hx
      exact ⟨by show (0 : Int) < 1; decide, by show (1 : Int) ≤ 0 + 15; decide, setQ_ok lF1_ok (by decide) (by decide), by show ([98] : List Nat).length ≤ 512; decide⟩, by simp, HS1L.out, by simp, by simp⟩ (by decide) lF0_ok
    have h2 := HL2.out
    rw [show setQ lF1 1 = lG1 from rfl] at h2
    rw [h2] at h
    rw [← HT0.out]
    exact h.mono (fun e w' ⟨a2, c2, a3, c3, he, h1, h2, h3⟩ => ⟨a2, c2, a3, c3, he, h1.mono (fun _ _ _ => trivial), h2, h3⟩))
  have HR3 : Hd (∀ X fa fc ba bc, Sl (fun _ => True) X (.slice ba 1 bc) (u8s [97]) → Frs (fun _ => True) X (.slice fa 0 fc) [] → Calls Tryd.prog 24 #[.agg #[.int .i64 2, .slice fa 0 fc, .bool false, .int .u64 (S2 : Int), .int .i64 2], .agg #[.int .i64 0, .int .i64 1, .bool false, .slice ba 1 bc, .int .u64 (T0 : Int)]] X fun e w' => ∃ a2 c2 a3 c3, e = .returned (.tuple #[.agg #[.int .i64 2, .slice a2 0 c2, .bool false, .int .u64 (S2 : Int), .int .i64 2], .slice a3 0 c3, .int .i64 30]) ∧ Keeps (fun _ => False) X w') := hid (fun X fa fc ba bc hs hf => by
    have h := Receive_any 2 [] fa fc false ⟨S2, 2⟩ lF0 (fun b => b < X.heap.size) ba bc X (hf.mono (fun b h _ => h)) (fun _ h => h) hs 1000 ⟨by simp, by simp, by simp, List.Pairwise.nil, HS2L.out, by simp, by simp⟩ (by decide) lF0_ok
    rw [HL3.out] at h
    rw [← HT0.out]
    exact h.mono (fun e w' ⟨a2, c2, a3, c3, he, _, _, h3⟩ => ⟨a2, c2, a3, c3, he, h3⟩))
  go_enter Tryd.func18, Tryd.ntmps18
  replace HN : Hd (NibR w) := hid HN.out
  go_wp2_with fail
  refine (NewSender_any 7 _).mono ?_
  rintro e U1 ⟨rfl, hk⟩
  have HN' : Hd (NibR U1) := hid (HN.out.keep hk (fun _ _ _ h => h))
  clear HN
  have HN := HN'
  clear HN'
  have HK : Hd (Keeps (fun _ => False) w U1) := hid hk
  have z_U1 := hk.size
  clear hk
  go_upto_region 2 with fail
  generalize hW : World.alloc U1 _ = W1
  have KS : Hd (Keeps (fun _ => False) U1 W1) := hid (by rw [← hW]; exact (Keeps.alloc (Keeps.refl (fun _ => False) U1) _))
  have HN' : Hd (NibR W1) := hid (HN.out.keep KS.out (fun _ _ _ h => h))
  have BS : Hd (Blk W1 U1.heap.size #[(.slice none 0 0), (.int .i64 0), (.int .u64 7), (.int .i64 0)] 57) := hid (by rw [← hW]; exact (blk_new _ _ _))
  clear HN
  have HN := HN'
  clear HN'
  have HK' : Hd (Keeps (fun _ => False) w W1) := hid (HK.out.trans KS.out)
  clear HK
  have HK := HK'
  clear HK'
  have z_W1 : U1.heap.size + 1 ≤ W1.heap.size := by rw [← hW]; simp
  clear hW KS
  have o_BS_0 : W1.cell? ⟨U1.heap.size, 0, none⟩ = some ((.slice none 0 0)) := blk_cell BS.out 0
  have o_BS_1 : W1.cell? ⟨U1.heap.size, 1, none⟩ = some ((.int .i64 0)) := blk_cell BS.out 1
  have o_BS_2 : W1.cell? ⟨U1.heap.size, 2, none⟩ = some ((.int .u64 7)) := blk_cell BS.out 2
  have o_BS_3 : W1.cell? ⟨U1.heap.size, 3, none⟩ = some ((.int .i64 0)) := blk_cell BS.out 3
  have v1 : (convert 22 22 (.slice (some ⟨W1.heap.size, 0, none⟩) 1 1)).run Tryd.prog (W1.alloc (.cells #[.int .u8 97] 5)) = .ok (.slice (some ⟨W1.heap.size, 0, none⟩) 1 1) (W1.alloc (.cells #[.int .u8 97] 5 (1, 2))) := Cr.conv_lit W1 _ 1 1
  go_wp2_with fail
  refine (Queue_ok [] none 0 0 7 0 [97] _ (fun _ => True) (some ⟨W1.heap.size, 0, none⟩) 1 (W1.alloc (.cells #[.int .u8 97] 5 (1, 2))) (Bds.nil (fun _ => True) _) (by decide) (by decide) (by decide) (Cr.lit_slm W1 [97] (1, 2) (by decide))).mono ?_
  clear v1
  rintro e V0 ⟨qa0, qc0, rfl, hbd, hk0⟩
  have hk : Keeps (fun _ => False) W1 V0 := (keeps_alloc (fun _ => False) W1 (.cells #[.int .u8 97] 5 (1, 2))).trans hk0
  have hbe : Bds (fun b => W1.heap.size ≤ b) V0 (.slice qa0 1 qc0) [[97]] := hbd.mono (fun b _ h => by have h' := h; simp at h'; omega)
  clear hk0 hbd
  clear o_BS_0 o_BS_1 o_BS_2 o_BS_3
  have HN' : Hd (NibR V0) := hid (HN.out.keep hk (fun _ _ _ h => h))
  have BS' : Hd (Blk V0 U1.heap.size #[(.slice none 0 0), (.int .i64 0), (.int .u64 7), (.int .i64 0)] 57) := hid (blk_keep BS.out hk (fun h => h))
  clear HN BS
  have HN := HN'
  clear HN'
  have BS := BS'
  clear BS'
  have HK' : Hd (Keeps (fun _ => False) w V0) := hid (HK.out.trans hk)
  clear HK
  have HK := HK'
  clear HK'
  have z_V0 := hk.size
  clear hk
  have HBD := hid hbe
  clear hbe
  have o_BS_0 : V0.cell? ⟨U1.heap.size, 0, none⟩ = some ((.slice none 0 0)) := blk_cell BS.out 0
  have o_BS_1 : V0.cell? ⟨U1.heap.size, 1, none⟩ = some ((.int .i64 0)) := blk_cell BS.out 1
  have o_BS_2 : V0.cell? ⟨U1.heap.size, 2, none⟩ = some ((.int .u64 7)) := blk_cell BS.out 2
  have o_BS_3 : V0.cell? ⟨U1.heap.size, 3, none⟩ = some ((.int .i64 0)) := blk_cell BS.out 3
  have f_BS_0 : V0.frozen? ⟨U1.heap.size, 0, none⟩ = false := blk_free BS.out 0
  have f_BS_1 : V0.frozen? ⟨U1.heap.size, 1, none⟩ = false := blk_free BS.out 1
  have f_BS_2 : V0.frozen? ⟨U1.heap.size, 2, none⟩ = false := blk_free BS.out 2
  have f_BS_3 : V0.frozen? ⟨U1.heap.size, 3, none⟩ = false := blk_free BS.out 3
  go_upto_region 3 with fail
  clear o_BS_0 o_BS_1 o_BS_2 o_BS_3 f_BS_0 f_BS_1 f_BS_2 f_BS_3
  generalize hW : World.setCell (World.setCell (World.setCell (World.setCell V0 _ _) _ _) _ _) _ _ = W2
  have KS : Hd (Keeps (fun b => b = U1.heap.size) V0 W2) := hid (by rw [← hW]; exact (Keeps.setCell (S := fun b => b = U1.heap.size) (p := ⟨U1.heap.size, 3, none⟩) (Keeps.setCell (S := fun b => b = U1.heap.size) (p := ⟨U1.heap.size, 2, none⟩) (Keeps.setCell (S := fun b => b = U1.heap.size) (p := ⟨U1.heap.size, 1, none⟩) (Keeps.setCell (S := fun b => b = U1.heap.size) (p := ⟨U1.heap.size, 0, none⟩) (Keeps.refl (fun b => b = U1.heap.size) V0) (.inl rfl) _) (.inl rfl) _) (.inl rfl) _) (.inl rfl) _))
  have HN' : Hd (NibR W2) := hid (HN.out.keep KS.out (fun b h1 h2 h3 => by omega))
  have BS' : Hd (Blk W2 U1.heap.size #[(.slice qa0 1 qc0), (.int .i64 0), (.int .u64 7), (.int .i64 0)] 57) := hid (by rw [← hW]; exact (blk_set (blk_set (blk_set (blk_set BS.out 0 _) 1 _) 2 _) 3 _))
  have HBD' : Hd (Bds (fun b => W1.heap.size ≤ b) W2 (.slice qa0 1 qc0) [[97]]) := hid (HBD.out.keep KS.out (fun b h1 h2 h3 => by omega))
  clear HN BS HBD
  have HN := HN'
  clear HN'
  have BS := BS'
  clear BS'
  have HBD := HBD'
  clear HBD'
  have HK' : Hd (Keeps (fun _ => False) w W2) := hid (HK.out.trans' KS.out (fun i hi h => by omega))
  clear HK
  have HK := HK'
  clear HK'
  have z_W2 : V0.heap.size + 0 ≤ W2.heap.size := by rw [← hW]; simp
  clear hW KS
  have o_BS_0 : W2.cell? ⟨U1.heap.size, 0, none⟩ = some ((.slice qa0 1 qc0)) := blk_cell BS.out 0
  have o_BS_1 : W2.cell? ⟨U1.heap.size, 1, none⟩ = some ((.int .i64 0)) := blk_cell BS.out 1
  have o_BS_2 : W2.cell? ⟨U1.heap.size, 2, none⟩ = some ((.int .u64 7)) := blk_cell BS.out 2
  have o_BS_3 : W2.cell? ⟨U1.heap.size, 3, none⟩ = some ((.int .i64 0)) := blk_cell BS.out 3
  have v1 : (convert 22 22 (.slice (some ⟨W2.heap.size, 0, none⟩) 1 1)).run Tryd.prog (W2.alloc (.cells #[.int .u8 98] 5)) = .ok (.slice (some ⟨W2.heap.size, 0, none⟩) 1 1) (W2.alloc (.cells #[.int .u8 98] 5 (1, 2))) := Cr.conv_lit W2 _ 1 1
  go_wp2_with fail
  refine (Queue_ok [[97]] qa0 qc0 0 7 0 [98] _ (fun _ => True) (some ⟨W2.heap.size, 0, none⟩) 1 (W2.alloc (.cells #[.int .u8 98] 5 (1, 2))) (HBD.out.keep (keeps_alloc (fun _ => False) _ _) (fun _ _ _ h => h)) (by decide) (by decide) (by decide) (Cr.lit_slm W2 [98] (1, 2) (by decide))).mono ?_
  clear v1
  rintro e V1 ⟨qa1, qc1, rfl, hbd, hk0⟩
  have hk : Keeps (fun _ => False) W2 V1 := (keeps_alloc (fun _ => False) W2 (.cells #[.int .u8 98] 5 (1, 2))).trans hk0
  have hbe : Bds (fun b => W2.heap.size ≤ b) V1 (.slice qa1 2 qc1) [[97], [98]] := hbd.mono (fun b _ h => by have h' := h; simp at h'; omega)
  clear hk0 hbd
  clear HBD
  clear o_BS_0 o_BS_1 o_BS_2 o_BS_3
  have HN' : Hd (NibR V1) := hid (HN.out.keep hk (fun _ _ _ h => h))
  have BS' : Hd (Blk V1 U1.heap.size #[(.slice qa0 1 qc0), (.int .i64 0), (.int .u64 7), (.int .i64 0)] 57) := hid (blk_keep BS.out hk (fun h => h))
  clear HN BS
  have HN := HN'
  clear HN'
  have BS := BS'
  clear BS'
  have HK' : Hd (Keeps (fun _ => False) w V1) := hid (HK.out.trans hk)
  clear HK
  have HK := HK'
  clear HK'
  have z_V1 := hk.size
  clear hk
  have HBD := hid hbe
  clear hbe
  have o_BS_0 : V1.cell? ⟨U1.heap.size, 0, none⟩ = some ((.slice qa0 1 qc0)) := blk_cell BS.out 0
  have o_BS_1 : V1.cell? ⟨U1.heap.size, 1, none⟩ = some ((.int .i64 0)) := blk_cell BS.out 1
  have o_BS_2 : V1.cell? ⟨U1.heap.size, 2, none⟩ = some ((.int .u64 7)) := blk_cell BS.out 2
  have o_BS_3 : V1.cell? ⟨U1.heap.size, 3, none⟩ = some ((.int .i64 0)) := blk_cell BS.out 3
  have f_BS_0 : V1.frozen? ⟨U1.heap.size, 0, none⟩ = false := blk_free BS.out 0
  have f_BS_1 : V1.frozen? ⟨U1.heap.size, 1, none⟩ = false := blk_free BS.out 1
  have f_BS_2 : V1.frozen? ⟨U1.heap.size, 2, none⟩ = false := blk_free BS.out 2
  have f_BS_3 : V1.frozen? ⟨U1.heap.size, 3, none⟩ = false := blk_free BS.out 3
  go_upto_region 4 with fail
  clear o_BS_0 o_BS_1 o_BS_2 o_BS_3 f_BS_0 f_BS_1 f_BS_2 f_BS_3
  generalize hW : World.setCell (World.setCell (World.setCell (World.setCell V1 _ _) _ _) _ _) _ _ = W3
  have KS : Hd (Keeps (fun b => b = U1.heap.size) V1 W3) := hid (by rw [← hW]; exact (Keeps.setCell (S := fun b => b = U1.heap.size) (p := ⟨U1.heap.size, 3, none⟩) (Keeps.setCell (S := fun b => b = U1.heap.size) (p := ⟨U1.heap.size, 2, none⟩) (Keeps.setCell (S := fun b => b = U1.heap.size) (p := ⟨U1.heap.size, 1, none⟩) (Keeps.setCell (S := fun b => b = U1.heap.size) (p := ⟨U1.heap.size, 0, none⟩) (Keeps.refl (fun b => b = U1.heap.size) V1) (.inl rfl) _) (.inl rfl) _) (.inl rfl) _) (.inl rfl) _))
  have HN' : Hd (NibR W3) := hid (HN.out.keep KS.out (fun b h1 h2 h3 => by omega))
  have BS' : Hd (Blk W3 U1.heap.size #[(.slice qa1 2 qc1), (.int .i64 0), (.int .u64 7), (.int .i64 0)] 57) := hid (by rw [← hW]; exact (blk_set (blk_set (blk_set (blk_set BS.out 0 _) 1 _) 2 _) 3 _))
  have HBD' : Hd (Bds (fun b => W2.heap.size ≤ b) W3 (.slice qa1 2 qc1) [[97], [98]]) := hid (HBD.out.keep KS.out (fun b h1 h2 h3 => by omega))
  clear HN BS HBD
  have HN := HN'
  clear HN'
  have BS := BS'
  clear BS'
  have HBD := HBD'
  clear HBD'
  have HK' : Hd (Keeps (fun _ => False) w W3) := hid (HK.out.trans' KS.out (fun i hi h => by omega))
  clear HK
  have HK := HK'
  clear HK'
  have z_W3 : V1.heap.size + 0 ≤ W3.heap.size := by rw [← hW]; simp
  clear hW KS
  have o_BS_0 : W3.cell? ⟨U1.heap.size, 0, none⟩ = some ((.slice qa1 2 qc1)) := blk_cell BS.out 0
  have o_BS_1 : W3.cell? ⟨U1.heap.size, 1, none⟩ = some ((.int .i64 0)) := blk_cell BS.out 1
  have o_BS_2 : W3.cell? ⟨U1.heap.size, 2, none⟩ = some ((.int .u64 7)) := blk_cell BS.out 2
  have o_BS_3 : W3.cell? ⟨U1.heap.size, 3, none⟩ = some ((.int .i64 0)) := blk_cell BS.out 3
  have v1 : (convert 22 22 (.slice (some ⟨W3.heap.size, 0, none⟩) 1 1)).run Tryd.prog (W3.alloc (.cells #[.int .u8 99] 5)) = .ok (.slice (some ⟨W3.heap.size, 0, none⟩) 1 1) (W3.alloc (.cells #[.int .u8 99] 5 (1, 2))) := Cr.conv_lit W3 _ 1 1
  go_wp2_with fail
  refine (Queue_ok [[97], [98]] qa1 qc1 0 7 0 [99] _ (fun _ => True) (some ⟨W3.heap.size, 0, none⟩) 1 (W3.alloc (.cells #[.int .u8 99] 5 (1, 2))) (HBD.out.keep (keeps_alloc (fun _ => False) _ _) (fun _ _ _ h => h)) (by decide) (by decide) (by decide) (Cr.lit_slm W3 [99] (1, 2) (by decide))).mono ?_
  clear v1
  rintro e V2 ⟨qa2, qc2, rfl, hbd, hk0⟩
  have hk : Keeps (fun _ => False) W3 V2 := (keeps_alloc (fun _ => False) W3 (.cells #[.int .u8 99] 5 (1, 2))).trans hk0
  have hbe : Bds (fun b => W3.heap.size ≤ b) V2 (.slice qa2 3 qc2) [[97], [98], [99]] := hbd.mono (fun b _ h => by have h' := h; simp at h'; omega)
  clear hk0 hbd
  clear HBD
  clear o_BS_0 o_BS_1 o_BS_2 o_BS_3
  have HN' : Hd (NibR V2) := hid (HN.out.keep hk (fun _ _ _ h => h))
  have BS' : Hd (Blk V2 U1.heap.size #[(.slice qa1 2 qc1), (.int .i64 0), (.int .u64 7), (.int .i64 0)] 57) := hid (blk_keep BS.out hk (fun h => h))
  clear HN BS
  have HN := HN'
  clear HN'
  have BS := BS'
  clear BS'
  have HK' : Hd (Keeps (fun _ => False) w V2) := hid (HK.out.trans hk)
  clear HK
  have HK := HK'
  clear HK'
  have z_V2 := hk.size
  clear hk
  have HBD := hid hbe
  clear hbe
  have o_BS_0 : V2.cell? ⟨U1.heap.size, 0, none⟩ = some ((.slice qa1 2 qc1)) := blk_cell BS.out 0
  have o_BS_1 : V2.cell? ⟨U1.heap.size, 1, none⟩ = some ((.int .i64 0)) := blk_cell BS.out 1
  have o_BS_2 : V2.cell? ⟨U1.heap.size, 2, none⟩ = some ((.int .u64 7)) := blk_cell BS.out 2
  have o_BS_3 : V2.cell? ⟨U1.heap.size, 3, none⟩ = some ((.int .i64 0)) := blk_cell BS.out 3
  have f_BS_0 : V2.frozen? ⟨U1.heap.size, 0, none⟩ = false := blk_free BS.out 0
  have f_BS_1 : V2.frozen? ⟨U1.heap.size, 1, none⟩ = false := blk_free BS.out 1
  have f_BS_2 : V2.frozen? ⟨U1.heap.size, 2, none⟩ = false := blk_free BS.out 2
  have f_BS_3 : V2.frozen? ⟨U1.heap.size, 3, none⟩ = false := blk_free BS.out 3
  go_upto_region 5 with fail
  clear o_BS_0 o_BS_1 o_BS_2 o_BS_3 f_BS_0 f_BS_1 f_BS_2 f_BS_3
  generalize hW : World.setCell (World.setCell (World.setCell (World.setCell V2 _ _) _ _) _ _) _ _ = W4
  have KS : Hd (Keeps (fun b => b = U1.heap.size) V2 W4) := hid (by rw [← hW]; exact (Keeps.setCell (S := fun b => b = U1.heap.size) (p := ⟨U1.heap.size, 3, none⟩) (Keeps.setCell (S := fun b => b = U1.heap.size) (p := ⟨U1.heap.size, 2, none⟩) (Keeps.setCell (S := fun b => b = U1.heap.size) (p := ⟨U1.heap.size, 1, none⟩) (Keeps.setCell (S := fun b => b = U1.heap.size) (p := ⟨U1.heap.size, 0, none⟩) (Keeps.refl (fun b => b = U1.heap.size) V2) (.inl rfl) _) (.inl rfl) _) (.inl rfl) _) (.inl rfl) _))
  have HN' : Hd (NibR W4) := hid (HN.out.keep KS.out (fun b h1 h2 h3 => by omega))
  have BS' : Hd (Blk W4 U1.heap.size #[(.slice qa2 3 qc2), (.int .i64 0), (.int .u64 7), (.int .i64 0)] 57) := hid (by rw [← hW]; exact (blk_set (blk_set (blk_set (blk_set BS.out 0 _) 1 _) 2 _) 3 _))
  have HBD' : Hd (Bds (fun b => W3.heap.size ≤ b) W4 (.slice qa2 3 qc2) [[97], [98], [99]]) := hid (HBD.out.keep KS.out (fun b h1 h2 h3 => by omega))
  clear HN BS HBD
  have HN := HN'
  clear HN'
  have BS := BS'
  clear BS'
  have HBD := HBD'
  clear HBD'
  have HK' : Hd (Keeps (fun _ => False) w W4) := hid (HK.out.trans' KS.out (fun i hi h => by omega))
  clear HK
  have HK := HK'
  clear HK'
  have z_W4 : V2.heap.size + 0 ≤ W4.heap.size := by rw [← hW]; simp
  clear hW KS
  go_wp2_with fail
  refine (NewReceiver_any 7 _).mono ?_
  rintro e V3 ⟨rfl, hk⟩
  have HN' : Hd (NibR V3) := hid (HN.out.keep hk (fun _ _ _ h => h))
  have BS' : Hd (Blk V3 U1.heap.size #[(.slice qa2 3 qc2), (.int .i64 0), (.int .u64 7), (.int .i64 0)] 57) := hid (blk_keep BS.out hk (fun h => h))
  have HBD' : Hd (Bds (fun b => W3.heap.size ≤ b) V3 (.slice qa2 3 qc2) [[97], [98], [99]]) := hid (HBD.out.keep hk (fun _ _ _ h => h))
  clear HN BS HBD
  have HN := HN'
  clear HN'
  have BS := BS'
  clear BS'
  have HBD := HBD'
  clear HBD'
  have HK' : Hd (Keeps (fun _ => False) w V3) := hid (HK.out.trans hk)
  clear HK
  have HK := HK'
  clear HK'
  have z_V3 := hk.size
  clear hk
  go_upto_region 6 with fail
  generalize hW : World.alloc V3 _ = W5
  have KS : Hd (Keeps (fun _ => False) V3 W5) := hid (by rw [← hW]; exact (Keeps.alloc (Keeps.refl (fun _ => False) V3) _))
  have HN' : Hd (NibR W5) := hid (HN.out.keep KS.out (fun _ _ _ h => h))
  have BS' : Hd (Blk W5 U1.heap.size #[(.slice qa2 3 qc2), (.int .i64 0), (.int .u64 7), (.int .i64 0)] 57) := hid (by rw [← hW]; exact (blk_alloc BS.out _))
  have HBD' : Hd (Bds (fun b => W3.heap.size ≤ b) W5 (.slice qa2 3 qc2) [[97], [98], [99]]) := hid (HBD.out.keep KS.out (fun _ _ _ h => h))
  have BR : Hd (Blk W5 V3.heap.size #[(.int .i64 0), (.slice none 0 0), (.bool false), (.int .u64 7), (.int .i64 0)] 35) := hid (by rw [← hW]; exact (blk_new _ _ _))
  clear HN BS HBD
  have HN := HN'
  clear HN'
  have BS := BS'
  clear BS'
  have HBD := HBD'
  clear HBD'
  have HK' : Hd (Keeps (fun _ => False) w W5) := hid (HK.out.trans KS.out)
  clear HK
  have HK := HK'
  clear HK'
  have z_W5 : V3.heap.size + 1 ≤ W5.heap.size := by rw [← hW]; simp
  clear hW KS
  generalize hb_BR : V3.heap.size = b_BR at *
  have o_BS_0 : W5.cell? ⟨U1.heap.size, 0, none⟩ = some ((.slice qa2 3 qc2)) := blk_cell BS.out 0
  have o_BS_1 : W5.cell? ⟨U1.heap.size, 1, none⟩ = some ((.int .i64 0)) := blk_cell BS.out 1
  have o_BS_2 : W5.cell? ⟨U1.heap.size, 2, none⟩ = some ((.int .u64 7)) := blk_cell BS.out 2
  have o_BS_3 : W5.cell? ⟨U1.heap.size, 3, none⟩ = some ((.int .i64 0)) := blk_cell BS.out 3
  go_wp2_with fail
  refine (HE1.out _ _ _ _ HBD.out).mono ?_
  rintro e E1 ⟨fa1, fc1, ea1, ec1, rfl, hsl, hbd, hk⟩
  clear HBD
  clear o_BS_0 o_BS_1 o_BS_2 o_BS_3
  have HN' : Hd (NibR E1) := hid (HN.out.keep hk (fun _ _ _ h => h))
  have BS' : Hd (Blk E1 U1.heap.size #[(.slice qa2 3 qc2), (.int .i64 0), (.int .u64 7), (.int .i64 0)] 57) := hid (blk_keep BS.out hk (fun h => h))
  have BR' : Hd (Blk E1 b_BR #[(.int .i64 0), (.slice none 0 0), (.bool false), (.int .u64 7), (.int .i64 0)] 35) := hid (blk_keep BR.out hk (fun h => h))
  clear HN BS BR
  have HN := HN'
  clear HN'
  have BS := BS'
  clear BS'
  have BR := BR'
  clear BR'
  have HK' : Hd (Keeps (fun _ => False) w E1) := hid (HK.out.trans hk)
  clear HK
  have HK := HK'
  clear HK'
  have z_E1 := hk.size
  clear hk
  have HBD := hid hbd
  have HSL1 := hid hsl
  clear hbd hsl
  have ga0 : ∀ o, (World.alloc E1 o).cell? ⟨U1.heap.size, 0, none⟩ = some ((.slice qa2 3 qc2)) := fun o => keep_cell (keeps_alloc (fun _ => False) _ o) (fun h => h) (blk_cell BS.out 0)
  have gf0 : ∀ o, (World.alloc E1 o).frozen? ⟨U1.heap.size, 0, none⟩ = false := fun o => keep_free (keeps_alloc (fun _ => False) _ o) (fun h => h) (blk_cell BS.out 0) (blk_free BS.out 0)
  have ga1 : ∀ o, (World.alloc E1 o).cell? ⟨U1.heap.size, 1, none⟩ = some ((.int .i64 0)) := fun o => keep_cell (keeps_alloc (fun _ => False) _ o) (fun h => h) (blk_cell BS.out 1)
  have gf1 : ∀ o, (World.alloc E1 o).frozen? ⟨U1.heap.size, 1, none⟩ = false := fun o => keep_free (keeps_alloc (fun _ => False) _ o) (fun h => h) (blk_cell BS.out 1) (blk_free BS.out 1)
  have ga2 : ∀ o, (World.alloc E1 o).cell? ⟨U1.heap.size, 2, none⟩ = some ((.int .u64 7)) := fun o => keep_cell (keeps_alloc (fun _ => False) _ o) (fun h => h) (blk_cell BS.out 2)
  have gf2 : ∀ o, (World.alloc E1 o).frozen? ⟨U1.heap.size, 2, none⟩ = false := fun o => keep_free (keeps_alloc (fun _ => False) _ o) (fun h => h) (blk_cell BS.out 2) (blk_free BS.out 2)
  have ga3 : ∀ o, (World.alloc E1 o).cell? ⟨U1.heap.size, 3, none⟩ = some ((.int .i64 0)) := fun o => keep_cell (keeps_alloc (fun _ => False) _ o) (fun h => h) (blk_cell BS.out 3)
  have gf3 : ∀ o, (World.alloc E1 o).frozen? ⟨U1.heap.size, 3, none⟩ = false := fun o => keep_free (keeps_alloc (fun _ => False) _ o) (fun h => h) (blk_cell BS.out 3) (blk_free BS.out 3)
  go_upto_region 7 with fail
  clear ga0 ga1 ga2 ga3 gf0 gf1 gf2 gf3
  generalize hW : World.setCell (World.setCell (World.setCell (World.setCell (World.alloc E1 _) _ _) _ _) _ _) _ _ = W6
  have KS : Hd (Keeps (fun b => b = U1.heap.size) E1 W6) := hid (by rw [← hW]; exact (Keeps.setCell (S := fun b => b = U1.heap.size) (p := ⟨U1.heap.size, 3, none⟩) (Keeps.setCell (S := fun b => b = U1.heap.size) (p := ⟨U1.heap.size, 2, none⟩) (Keeps.setCell (S := fun b => b = U1.heap.size) (p := ⟨U1.heap.size, 1, none⟩) (Keeps.setCell (S := fun b => b = U1.heap.size) (p := ⟨U1.heap.size, 0, none⟩) (Keeps.alloc (Keeps.refl (fun b => b = U1.heap.size) E1) _) (.inl rfl) _) (.inl rfl) _) (.inl rfl) _) (.inl rfl) _))
  have HN' : Hd (NibR W6) := hid (HN.out.keep KS.out (fun b h1 h2 h3 => by omega))
  have BS' : Hd (Blk W6 U1.heap.size #[(.slice ea1 3 ec1), (.int .i64 0), (.int .u64 (S1 : Int)), (.int .i64 1)] 57) := hid (by rw [← hW]; exact (blk_set (blk_set (blk_set (blk_set (blk_alloc BS.out _) 0 _) 1 _) 2 _) 3 _))
  have BR' : Hd (Blk W6 b_BR #[(.int .i64 0), (.slice none 0 0), (.bool false), (.int .u64 7), (.int .i64 0)] 35) := hid (by rw [← hW]; exact (blk_other (blk_other (blk_other (blk_other (blk_alloc BR.out _) (by omega) _ _) (by omega) _ _) (by omega) _ _) (by omega) _ _))
  have HBD' : Hd (Bds (fun b => W5.heap.size ≤ b) W6 (.slice ea1 3 ec1) [[97], [98], [99]]) := hid (HBD.out.keep KS.out (fun b h1 h2 h3 => by omega))
  have HSL1' : Hd (Sl (fun b => W5.heap.size ≤ b) W6 (.slice fa1 1 fc1) (u8s [98])) := hid (HSL1.out.keep KS.out (fun b h1 h2 h3 => by omega))
  have BF : Hd (Blk W6 E1.heap.size #[(.int .i64 1), (.int .i64 0), (.bool false), (.slice fa1 1 fc1), (.int .u64 (T1 : Int))] 25) := hid (by rw [← hW]; exact (blk_other (blk_other (blk_other (blk_other (blk_new _ _ _) (by first | omega | (simp; omega)) _ _) (by first | omega | (simp; omega)) _ _) (by first | omega | (simp; omega)) _ _) (by first | omega | (simp; omega)) _ _))
  clear HN BS BR HBD HSL1
  have HN := HN'
  clear HN'
  have BS := BS'
  clear BS'
  have BR := BR'
  clear BR'
  have HBD := HBD'
  clear HBD'
  have HSL1 := HSL1'
  clear HSL1'
  have HK' : Hd (Keeps (fun _ => False) w W6) := hid (HK.out.trans' KS.out (fun i hi h => by omega))
  clear HK
  have HK := HK'
  clear HK'
  have z_W6 : E1.heap.size + 1 ≤ W6.heap.size := by rw [← hW]; simp
  clear hW KS
  generalize hb_BF : E1.heap.size = b_BF at *
  have lt_BF := blk_lt BF.out
  have o_BS_0 : W6.cell? ⟨U1.heap.size, 0, none⟩ = some ((.slice ea1 3 ec1)) := blk_cell BS.out 0
  have o_BS_1 : W6.cell? ⟨U1.heap.size, 1, none⟩ = some ((.int .i64 0)) := blk_cell BS.out 1
  have o_BS_2 : W6.cell? ⟨U1.heap.size, 2, none⟩ = some ((.int .u64 (S1 : Int))) := blk_cell BS.out 2
  have o_BS_3 : W6.cell? ⟨U1.heap.size, 3, none⟩ = some ((.int .i64 1)) := blk_cell BS.out 3
  go_wp2_with fail
  refine (HE0.out _ _ _ _ HBD.out).mono ?_
  rintro e E0 ⟨fa0, fc0, ea0, ec0, rfl, hsl, hbd, hk⟩
  clear HBD
  clear o_BS_0 o_BS_1 o_BS_2 o_BS_3
  have HN' : Hd (NibR E0) := hid (HN.out.keep hk (fun _ _ _ h => h))
  have BS' : Hd (Blk E0 U1.heap.size #[(.slice ea1 3 ec1), (.int .i64 0), (.int .u64 (S1 : Int)), (.int .i64 1)] 57) := hid (blk_keep BS.out hk (fun h => h))
  have BR' : Hd (Blk E0 b_BR #[(.int .i64 0), (.slice none 0 0), (.bool false), (.int .u64 7), (.int .i64 0)] 35) := hid (blk_keep BR.out hk (fun h => h))
  have HSL1' : Hd (Sl (fun b => W5.heap.size ≤ b) E0 (.slice fa1 1 fc1) (u8s [98])) := hid (HSL1.out.keep hk (fun _ _ _ h => h))
  have BF' : Hd (Blk E0 b_BF #[(.int .i64 1), (.int .i64 0), (.bool false), (.slice fa1 1 fc1), (.int .u64 (T1 : Int))] 25) := hid (blk_keep BF.out hk (fun h => h))
  clear HN BS BR HSL1 BF
  have HN := HN'
  clear HN'
  have BS := BS'
  clear BS'
  have BR := BR'
  clear BR'
  have HSL1 := HSL1'
  clear HSL1'
  have BF := BF'
  clear BF'
  have HK' : Hd (Keeps (fun _ => False) w E0) := hid (HK.out.trans hk)
  clear HK
  have HK := HK'
  clear HK'
  have z_E0 := hk.size
  clear hk
  have HBD := hid hbd
  have HSL0 := hid hsl
  clear hbd hsl
  have ga0 : ∀ o, (World.alloc E0 o).cell? ⟨U1.heap.size, 0, none⟩ = some ((.slice ea1 3 ec1)) := fun o => keep_cell (keeps_alloc (fun _ => False) _ o) (fun h => h) (blk_cell BS.out 0)
  have gf0 : ∀ o, (World.alloc E0 o).frozen? ⟨U1.heap.size, 0, none⟩ = false := fun o => keep_free (keeps_alloc (fun _ => False) _ o) (fun h => h) (blk_cell BS.out 0) (blk_free BS.out 0)
  have ga1 : ∀ o, (World.alloc E0 o).cell? ⟨U1.heap.size, 1, none⟩ = some ((.int .i64 0)) := fun o => keep_cell (keeps_alloc (fun _ => False) _ o) (fun h => h) (blk_cell BS.out 1)
  have gf1 : ∀ o, (World.alloc E0 o).frozen? ⟨U1.heap.size, 1, none⟩ = false := fun o => keep_free (keeps_alloc (fun _ => False) _ o) (fun h => h) (blk_cell BS.out 1) (blk_free BS.out 1)
  have ga2 : ∀ o, (World.alloc E0 o).cell? ⟨U1.heap.size, 2, none⟩ = some ((.int .u64 (S1 : Int))) := fun o => keep_cell (keeps_alloc (fun _ => False) _ o) (fun h => h) (blk_cell BS.out 2)
  have gf2 : ∀ o, (World.alloc E0 o).frozen? ⟨U1.heap.size, 2, none⟩ = false := fun o => keep_free (keeps_alloc (fun _ => False) _ o) (fun h => h) (blk_cell BS.out 2) (blk_free BS.out 2)
  have ga3 : ∀ o, (World.alloc E0 o).cell? ⟨U1.heap.size, 3, none⟩ = some ((.int .i64 1)) := fun o => keep_cell (keeps_alloc (fun _ => False) _ o) (fun h => h) (blk_cell BS.out 3)
  have gf3 : ∀ o, (World.alloc E0 o).frozen? ⟨U1.heap.size, 3, none⟩ = false := fun o => keep_free (keeps_alloc (fun _ => False) _ o) (fun h => h) (blk_cell BS.out 3) (blk_free BS.out 3)
  go_upto_region 8 with fail
  clear ga0 ga1 ga2 ga3 gf0 gf1 gf2 gf3
  generalize hW : World.setCell (World.setCell (World.setCell (World.setCell (World.alloc E0 _) _ _) _ _) _ _) _ _ = W7
  have KS : Hd (Keeps (fun b => b = U1.heap.size) E0 W7) := hid (by rw [← hW]; exact (Keeps.setCell (S := fun b => b = U1.heap.size) (p := ⟨U1.heap.size, 3, none⟩) (Keeps.setCell (S := fun b => b = U1.heap.size) (p := ⟨U1.heap.size, 2, none⟩) (Keeps.setCell (S := fun b => b = U1.heap.size) (p := ⟨U1.heap.size, 1, none⟩) (Keeps.setCell (S := fun b => b = U1.heap.size) (p := ⟨U1.heap.size, 0, none⟩) (Keeps.alloc (Keeps.refl (fun b => b = U1.heap.size) E0) _) (.inl rfl) _) (.inl rfl) _) (.inl rfl) _) (.inl rfl) _))
  have HN' : Hd (NibR W7) := hid (HN.out.keep KS.out (fun b h1 h2 h3 => by omega))
  have BS' : Hd (Blk W7 U1.heap.size #[(.slice ea0 3 ec0), (.int .i64 0), (.int .u64 (S2 : Int)), (.int .i64 2)] 57) := hid (by rw [← hW]; exact (blk_set (blk_set (blk_set (blk_set (blk_alloc BS.out _) 0 _) 1 _) 2 _) 3 _))
  have BR' : Hd (Blk W7 b_BR #[(.int .i64 0), (.slice none 0 0), (.bool false), (.int .u64 7), (.int .i64 0)] 35) := hid (by rw [← hW]; exact (blk_other (blk_other (blk_other (blk_other (blk_alloc BR.out _) (by omega) _ _) (by omega) _ _) (by omega) _ _) (by omega) _ _))
  have HSL1' : Hd (Sl (fun b => W5.heap.size ≤ b) W7 (.slice fa1 1 fc1) (u8s [98])) := hid (HSL1.out.keep KS.out (fun b h1 h2 h3 => by omega))
  have BF' : Hd (Blk W7 b_BF #[(.int .i64 1), (.int .i64 0), (.bool false), (.slice fa1 1 fc1), (.int .u64 (T1 : Int))] 25) := hid (by rw [← hW]; exact (blk_other (blk_other (blk_other (blk_other (blk_alloc BF.out _) (by omega) _ _) (by omega) _ _) (by omega) _ _) (by omega) _ _))
  have HBD' : Hd (Bds (fun b => W6.heap.size ≤ b) W7 (.slice ea0 3 ec0) [[97], [98], [99]]) := hid (HBD.out.keep KS.out (fun b h1 h2 h3 => by omega))
  have HSL0' : Hd (Sl (fun b => W6.heap.size ≤ b) W7 (.slice fa0 1 fc0) (u8s [97])) := hid (HSL0.out.keep KS.out (fun b h1 h2 h3 => by omega))
  have BG : Hd (Blk W7 E0.heap.size #[(.int .i64 0), (.int .i64 1), (.bool false), (.slice fa0 1 fc0), (.int .u64 (T0 : Int))] 25) := hid (by rw [← hW]; exact (blk_other (blk_other (blk_other (blk_other (blk_new _ _ _) (by first | omega | (simp; omega)) _ _) (by first | omega | (simp; omega)) _ _) (by first | omega | (simp; omega)) _ _) (by first | omega | (simp; omega)) _ _))
  clear HN BS BR HSL1 BF HBD HSL0
  have HN := HN'
  clear HN'
  have BS := BS'
  clear BS'
  have BR := BR'
  clear BR'
  have HSL1 := HSL1'
  clear HSL1'
  have BF := BF'
  clear BF'
  have HBD := HBD'
  clear HBD'
  have HSL0 := HSL0'
  clear HSL0'
  have HK' : Hd (Keeps (fun _ => False) w W7) := hid (HK.out.trans' KS.out (fun i hi h => by omega))
  clear HK
  have HK := HK'
  clear HK'
  have z_W7 : E0.heap.size + 1 ≤ W7.heap.size := by rw [← hW]; simp
  clear hW KS
  generalize hb_BG : E0.heap.size = b_BG at *
  have lt_BG := blk_lt BG.out
  have o_BR_0 : W7.cell? ⟨b_BR, 0, none⟩ = some ((.int .i64 0)) := blk_cell BR.out 0
  have o_BR_1 : W7.cell? ⟨b_BR, 1, none⟩ = some ((.slice none 0 0)) := blk_cell BR.out 1
  have o_BR_2 : W7.cell? ⟨b_BR, 2, none⟩ = some ((.bool false)) := blk_cell BR.out 2
  have o_BR_3 : W7.cell? ⟨b_BR, 3, none⟩ = some ((.int .u64 7)) := blk_cell BR.out 3
  have o_BR_4 : W7.cell? ⟨b_BR, 4, none⟩ = some ((.int .i64 0)) := blk_cell BR.out 4
  have o_BF_0 : W7.cell? ⟨b_BF, 0, none⟩ = some ((.int .i64 1)) := blk_cell BF.out 0
  have o_BF_1 : W7.cell? ⟨b_BF, 1, none⟩ = some ((.int .i64 0)) := blk_cell BF.out 1
  have o_BF_2 : W7.cell? ⟨b_BF, 2, none⟩ = some ((.bool false)) := blk_cell BF.out 2
  have o_BF_3 : W7.cell? ⟨b_BF, 3, none⟩ = some ((.slice fa1 1 fc1)) := blk_cell BF.out 3
  have o_BF_4 : W7.cell? ⟨b_BF, 4, none⟩ = some ((.int .u64 (T1 : Int))) := blk_cell BF.out 4
  go_wp2_with fail
  refine (HR1.out _ _ _ (HSL1.out.mono (fun _ _ _ => trivial))).mono ?_
  rintro e P1 ⟨ra1, rc1, na1, nc1, rfl, hfr, hk⟩
  clear o_BR_0 o_BR_1 o_BR_2 o_BR_3 o_BR_4 o_BF_0 o_BF_1 o_BF_2 o_BF_3 o_BF_4
  have HN' : Hd (NibR P1) := hid (HN.out.keep hk (fun _ _ _ h => h))
  have BS' : Hd (Blk P1 U1.heap.size #[(.slice ea0 3 ec0), (.int .i64 0), (.int .u64 (S2 : Int)), (.int .i64 2)] 57) := hid (blk_keep BS.out hk (fun h => h))
  have BR' : Hd (Blk P1 b_BR #[(.int .i64 0), (.slice none 0 0), (.bool false), (.int .u64 7), (.int .i64 0)] 35) := hid (blk_keep BR.out hk (fun h => h))
  have HSL1' : Hd (Sl (fun b => W5.heap.size ≤ b) P1 (.slice fa1 1 fc1) (u8s [98])) := hid (HSL1.out.keep hk (fun _ _ _ h => h))
  have BF' : Hd (Blk P1 b_BF #[(.int .i64 1), (.int .i64 0), (.bool false), (.slice fa1 1 fc1), (.int .u64 (T1 : Int))] 25) := hid (blk_keep BF.out hk (fun h => h))
  have HBD' : Hd (Bds (fun b => W6.heap.size ≤ b) P1 (.slice ea0 3 ec0) [[97], [98], [99]]) := hid (HBD.out.keep hk (fun _ _ _ h => h))
  have HSL0' : Hd (Sl (fun b => W6.heap.size ≤ b) P1 (.slice fa0 1 fc0) (u8s [97])) := hid (HSL0.out.keep hk (fun _ _ _ h => h))
  have BG' : Hd (Blk P1 b_BG #[(.int .i64 0), (.int .i64 1), (.bool false), (.slice fa0 1 fc0), (.int .u64 (T0 : Int))] 25) := hid (blk_keep BG.out hk (fun h => h))
  clear HN BS BR HSL1 BF HBD HSL0 BG
  have HN := HN'
  clear HN'
  have BS := BS'
  clear BS'
  have BR := BR'
  clear BR'
  have HSL1 := HSL1'
  clear HSL1'
  have BF := BF'
  clear BF'
  have HBD := HBD'
  clear HBD'
  have HSL0 := HSL0'
  clear HSL0'
  have BG := BG'
  clear BG'
  have HK' : Hd (Keeps (fun _ => False) w P1) := hid (HK.out.trans hk)
  clear HK
  have HK := HK'
  clear HK'
  have z_P1 := hk.size
  clear hk
  have HFR := hid hfr
  clear hfr
  have o_BR_0 : P1.cell? ⟨b_BR, 0, none⟩ = some ((.int .i64 0)) := blk_cell BR.out 0
  have o_BR_1 : P1.cell? ⟨b_BR, 1, none⟩ = some ((.slice none 0 0)) := blk_cell BR.out 1
  have o_BR_2 : P1.cell? ⟨b_BR, 2, none⟩ = some ((.bool false)) := blk_cell BR.out 2
  have o_BR_3 : P1.cell? ⟨b_BR, 3, none⟩ = some ((.int .u64 7)) := blk_cell BR.out 3
  have o_BR_4 : P1.cell? ⟨b_BR, 4, none⟩ = some ((.int .i64 0)) := blk_cell BR.out 4
  have f_BR_0 : P1.frozen? ⟨b_BR, 0, none⟩ = false := blk_free BR.out 0
  have f_BR_1 : P1.frozen? ⟨b_BR, 1, none⟩ = false := blk_free BR.out 1
  have f_BR_2 : P1.frozen? ⟨b_BR, 2, none⟩ = false := blk_free BR.out 2
  have f_BR_3 : P1.frozen? ⟨b_BR, 3, none⟩ = false := blk_free BR.out 3
  have f_BR_4 : P1.frozen? ⟨b_BR, 4, none⟩ = false := blk_free BR.out 4
  go_upto_region 9 with fail
  clear o_BR_0 o_BR_1 o_BR_2 o_BR_3 o_BR_4 f_BR_0 f_BR_1 f_BR_2 f_BR_3 f_BR_4
  generalize hW : World.setCell (World.setCell (World.setCell (World.setCell (World.setCell P1 _ _) _ _) _ _) _ _) _ _ = W8
  have KS : Hd (Keeps (fun b => b = b_BR) P1 W8) := hid (by rw [← hW]; exact (Keeps.setCell (S := fun b => b = b_BR) (p := ⟨b_BR, 4, none⟩) (Keeps.setCell (S := fun b => b = b_BR) (p := ⟨b_BR, 3, none⟩) (Keeps.setCell (S := fun b => b = b_BR) (p := ⟨b_BR, 2, none⟩) (Keeps.setCell (S := fun b => b = b_BR) (p := ⟨b_BR, 1, none⟩) (Keeps.setCell (S := fun b => b = b_BR) (p := ⟨b_BR, 0, none⟩) (Keeps.refl (fun b => b = b_BR) P1) (.inl rfl) _) (.inl rfl) _) (.inl rfl) _) (.inl rfl) _) (.inl rfl) _))
  have HN' : Hd (NibR W8) := hid (HN.out.keep KS.out (fun b h1 h2 h3 => by omega))
  have BS' : Hd (Blk W8 U1.heap.size #[(.slice ea0 3 ec0), (.int .i64 0), (.int .u64 (S2 : Int)), (.int .i64 2)] 57) := hid (by rw [← hW]; exact (blk_other (blk_other (blk_other (blk_other (blk_other BS.out (by omega) _ _) (by omega) _ _) (by omega) _ _) (by omega) _ _) (by omega) _ _))
  have BR' : Hd (Blk W8 b_BR #[(.int .i64 0), (.slice ra1 1 rc1), (.bool false), (.int .u64 (S1 : Int)), (.int .i64 1)] 35) := hid (by rw [← hW]; exact (blk_set (blk_set (blk_set (blk_set (blk_set BR.out 0 _) 1 _) 2 _) 3 _) 4 _))
  have HSL1' : Hd (Sl (fun b => W5.heap.size ≤ b) W8 (.slice fa1 1 fc1) (u8s [98])) := hid (HSL1.out.keep KS.out (fun b h1 h2 h3 => by omega))
  have BF' : Hd (Blk W8 b_BF #[(.int .i64 1), (.int .i64 0), (.bool false), (.slice fa1 1 fc1), (.int .u64 (T1 : Int))] 25) := hid (by rw [← hW]; exact (blk_other (blk_other (blk_other (blk_other (blk_other BF.out (by omega) _ _) (by omega) _ _) (by omega) _ _) (by omega) _ _) (by omega) _ _))
  have HBD' : Hd (Bds (fun b => W6.heap.size ≤ b) W8 (.slice ea0 3 ec0) [[97], [98], [99]]) := hid (HBD.out.keep KS.out (fun b h1 h2 h3 => by omega))
  have HSL0' : Hd (Sl (fun b => W6.heap.size ≤ b) W8 (.slice fa0 1 fc0) (u8s [97])) := hid (HSL0.out.keep KS.out (fun b h1 h2 h3 => by omega))
  have BG' : Hd (Blk W8 b_BG #[(.int .i64 0), (.int .i64 1), (.bool false), (.slice fa0 1 fc0), (.int .u64 (T0 : Int))] 25) := hid (by rw [← hW]; exact (blk_other (blk_other (blk_other (blk_other (blk_other BG.out (by omega) _ _) (by omega) _ _) (by omega) _ _) (by omega) _ _) (by omega) _ _))
  have HFR' : Hd (Frs (fun b => W7.heap.size ≤ b) W8 (.slice ra1 1 rc1) [lG1]) := hid (HFR.out.keep KS.out (fun b h1 h2 h3 => by omega))
  clear HN BS BR HSL1 BF HBD HSL0 BG HFR
  have HN := HN'
  clear HN'
  have BS := BS'
  clear BS'
  have BR := BR'
  clear BR'
  have HSL1 := HSL1'
  clear HSL1'
  have BF := BF'
  clear BF'
  have HBD := HBD'
  clear HBD'
  have HSL0 := HSL0'
  clear HSL0'
  have BG := BG'
  clear BG'
  have HFR := HFR'
  clear HFR'
  have HK' : Hd (Keeps (fun _ => False) w W8) := hid (HK.out.trans' KS.out (fun i hi h => by omega))
  clear HK
  have HK := HK'
  clear HK'
  have z_W8 : P1.heap.size + 0 ≤ W8.heap.size := by rw [← hW]; simp
  clear hW KS
  have o_BR_0 : W8.cell? ⟨b_BR, 0, none⟩ = some ((.int .i64 0)) := blk_cell BR.out 0
  have o_BR_1 : W8.cell? ⟨b_BR, 1, none⟩ = some ((.slice ra1 1 rc1)) := blk_cell BR.out 1
  have o_BR_2 : W8.cell? ⟨b_BR, 2, none⟩ = some ((.bool false)) := blk_cell BR.out 2
  have o_BR_3 : W8.cell? ⟨b_BR, 3, none⟩ = some ((.int .u64 (S1 : Int))) := blk_cell BR.out 3
  have o_BR_4 : W8.cell? ⟨b_BR, 4, none⟩ = some ((.int .i64 1)) := blk_cell BR.out 4
  have hst := State_any [lG1] ra1 rc1 0 false ⟨S1, 1⟩ _ W8 HFR.out (by decide) (by decide) (by decide) (by intro x hx; simp at hx; subst hx; exact ⟨by show (0 : Int) < 1; decide, by show (1 : Int) ≤ 0 + 60; decide⟩)
  rw [show havI 0 [lG1] = 1 from lv4] at hst
  have HST := hid hst
  clear hst
  go_wp2_with fail
  refine (HST.out).mono ?_
  rintro e P2 ⟨rfl, hk⟩
  clear HST
  clear o_BR_0 o_BR_1 o_BR_2 o_BR_3 o_BR_4
  have HN' : Hd (NibR P2) := hid (HN.out.keep hk (fun _ _ _ h => h))
  have BS' : Hd (Blk P2 U1.heap.size #[(.slice ea0 3 ec0), (.int .i64 0), (.int .u64 (S2 : Int)), (.int .i64 2)] 57) := hid (blk_keep BS.out hk (fun h => h))
  have BR' : Hd (Blk P2 b_BR #[(.int .i64 0), (.slice ra1 1 rc1), (.bool false), (.int .u64 (S1 : Int)), (.int .i64 1)] 35) := hid (blk_keep BR.out hk (fun h => h))
  have HSL1' : Hd (Sl (fun b => W5.heap.size ≤ b) P2 (.slice fa1 1 fc1) (u8s [98])) := hid (HSL1.out.keep hk (fun _ _ _ h => h))
  have BF' : Hd (Blk P2 b_BF #[(.int .i64 1), (.int .i64 0), (.bool false), (.slice fa1 1 fc1), (.int .u64 (T1 : Int))] 25) := hid (blk_keep BF.out hk (fun h => h))
  have HBD' : Hd (Bds (fun b => W6.heap.size ≤ b) P2 (.slice ea0 3 ec0) [[97], [98], [99]]) := hid (HBD.out.keep hk (fun _ _ _ h => h))
  have HSL0' : Hd (Sl (fun b => W6.heap.size ≤ b) P2 (.slice fa0 1 fc0) (u8s [97])) := hid (HSL0.out.keep hk (fun _ _ _ h => h))
  have BG' : Hd (Blk P2 b_BG #[(.int .i64 0), (.int .i64 1), (.bool false), (.slice fa0 1 fc0), (.int .u64 (T0 : Int))] 25) := hid (blk_keep BG.out hk (fun h => h))
  have HFR' : Hd (Frs (fun b => W7.heap.size ≤ b) P2 (.slice ra1 1 rc1) [lG1]) := hid (HFR.out.keep hk (fun _ _ _ h => h))
  clear HN BS BR HSL1 BF HBD HSL0 BG HFR
  have HN := HN'
  clear HN'
  have BS := BS'
  clear BS'
  have BR := BR'
  clear BR'
  have HSL1 := HSL1'
  clear HSL1'
  have BF := BF'
  clear BF'
  have HBD := HBD'
  clear HBD'
  have HSL0 := HSL0'
  clear HSL0'
  have BG := BG'
  clear BG'
  have HFR := HFR'
  clear HFR'
  have HK' : Hd (Keeps (fun _ => False) w P2) := hid (HK.out.trans hk)
  clear HK
  have HK := HK'
  clear HK'
  have z_P2 := hk.size
  clear hk
  go_upto_region 10 with fail
  generalize hW : World.alloc P2 _ = W9
  have KS : Hd (Keeps (fun _ => False) P2 W9) := hid (by rw [← hW]; exact (Keeps.alloc (Keeps.refl (fun _ => False) P2) _))
  have HN' : Hd (NibR W9) := hid (HN.out.keep KS.out (fun _ _ _ h => h))
  have BS' : Hd (Blk W9 U1.heap.size #[(.slice ea0 3 ec0), (.int .i64 0), (.int .u64 (S2 : Int)), (.int .i64 2)] 57) := hid (by rw [← hW]; exact (blk_alloc BS.out _))
  have BR' : Hd (Blk W9 b_BR #[(.int .i64 0), (.slice ra1 1 rc1), (.bool false), (.int .u64 (S1 : Int)), (.int .i64 1)] 35) := hid (by rw [← hW]; exact (blk_alloc BR.out _))
  have HSL1' : Hd (Sl (fun b => W5.heap.size ≤ b) W9 (.slice fa1 1 fc1) (u8s [98])) := hid (HSL1.out.keep KS.out (fun _ _ _ h => h))
  have BF' : Hd (Blk W9 b_BF #[(.int .i64 1), (.int .i64 0), (.bool false), (.slice fa1 1 fc1), (.int .u64 (T1 : Int))] 25) := hid (by rw [← hW]; exact (blk_alloc BF.out _))
  have HBD' : Hd (Bds (fun b => W6.heap.size ≤ b) W9 (.slice ea0 3 ec0) [[97], [98], [99]]) := hid (HBD.out.keep KS.out (fun _ _ _ h => h))
  have HSL0' : Hd (Sl (fun b => W6.heap.size ≤ b) W9 (.slice fa0 1 fc0) (u8s [97])) := hid (HSL0.out.keep KS.out (fun _ _ _ h => h))
  have BG' : Hd (Blk W9 b_BG #[(.int .i64 0), (.int .i64 1), (.bool false), (.slice fa0 1 fc0), (.int .u64 (T0 : Int))] 25) := hid (by rw [← hW]; exact (blk_alloc BG.out _))
  have HFR' : Hd (Frs (fun b => W7.heap.size ≤ b) W9 (.slice ra1 1 rc1) [lG1]) := hid (HFR.out.keep KS.out (fun _ _ _ h => h))
  have BT : Hd (Blk W9 P2.heap.size #[(.int .i64 0), (.int .i64 1), (.int .i64 1), (.bool false)] 50) := hid (by rw [← hW]; exact (blk_new _ _ _))
  clear HN BS BR HSL1 BF HBD HSL0 BG HFR
  have HN := HN'
  clear HN'
  have BS := BS'
  clear BS'
  have BR := BR'
  clear BR'
  have HSL1 := HSL1'
  clear HSL1'
  have BF := BF'
  clear BF'
  have HBD := HBD'
  clear HBD'
  have HSL0 := HSL0'
  clear HSL0'
  have BG := BG'
  clear BG'
  have HFR := HFR'
  clear HFR'
  have HK' : Hd (Keeps (fun _ => False) w W9) := hid (HK.out.trans KS.out)
  clear HK
  have HK := HK'
  clear HK'
  have z_W9 : P2.heap.size + 1 ≤ W9.heap.size := by rw [← hW]; simp
  clear hW KS
  generalize hb_BT : P2.heap.size = b_BT at *
  have o_BR_0 : W9.cell? ⟨b_BR, 0, none⟩ = some ((.int .i64 0)) := blk_cell BR.out 0
  have o_BR_1 : W9.cell? ⟨b_BR, 1, none⟩ = some ((.slice ra1 1 rc1)) := blk_cell BR.out 1
  have o_BR_2 : W9.cell? ⟨b_BR, 2, none⟩ = some ((.bool false)) := blk_cell BR.out 2
  have o_BR_3 : W9.cell? ⟨b_BR, 3, none⟩ = some ((.int .u64 (S1 : Int))) := blk_cell BR.out 3
  have o_BR_4 : W9.cell? ⟨b_BR, 4, none⟩ = some ((.int .i64 1)) := blk_cell BR.out 4
  have o_BG_0 : W9.cell? ⟨b_BG, 0, none⟩ = some ((.int .i64 0)) := blk_cell BG.out 0
  have o_BG_1 : W9.cell? ⟨b_BG, 1, none⟩ = some ((.int .i64 1)) := blk_cell BG.out 1
  have o_BG_2 : W9.cell? ⟨b_BG, 2, none⟩ = some ((.bool false)) := blk_cell BG.out 2
  have o_BG_3 : W9.cell? ⟨b_BG, 3, none⟩ = some ((.slice fa0 1 fc0)) := blk_cell BG.out 3
  have o_BG_4 : W9.cell? ⟨b_BG, 4, none⟩ = some ((.int .u64 (T0 : Int))) := blk_cell BG.out 4
  go_wp2_with fail
  refine (HR2.out _ _ _ _ _ _ (HFR.out.mono (K' := fun b => b < W9.heap.size) (fun b h _ => h)) (fun _ h => h) (HSL0.out.mono (fun _ _ _ => trivial))).mono ?_
  rintro e P3 ⟨ra2, rc2, ta, tc, rfl, hf0, hbd2, hk⟩
  clear HFR
  clear o_BR_0 o_BR_1 o_BR_2 o_BR_3 o_BR_4 o_BG_0 o_BG_1 o_BG_2 o_BG_3 o_BG_4
  have HN' : Hd (NibR P3) := hid (HN.out.keep hk (fun _ _ _ h => h))
  have BS' : Hd (Blk P3 U1.heap.size #[(.slice ea0 3 ec0), (.int .i64 0), (.int .u64 (S2 : Int)), (.int .i64 2)] 57) := hid (blk_keep BS.out hk (fun h => h))
  have BR' : Hd (Blk P3 b_BR #[(.int .i64 0), (.slice ra1 1 rc1), (.bool false), (.int .u64 (S1 : Int)), (.int .i64 1)] 35) := hid (blk_keep BR.out hk (fun h => h))
  have HSL1' : Hd (Sl (fun b => W5.heap.size ≤ b) P3 (.slice fa1 1 fc1) (u8s [98])) := hid (HSL1.out.keep hk (fun _ _ _ h => h))
  have BF' : Hd (Blk P3 b_BF #[(.int .i64 1), (.int .i64 0), (.bool false), (.slice fa1 1 fc1), (.int .u64 (T1 : Int))] 25) := hid (blk_keep BF.out hk (fun h => h))
  have HBD' : Hd (Bds (fun b => W6.heap.size ≤ b) P3 (.slice ea0 3 ec0) [[97], [98], [99]]) := hid (HBD.out.keep hk (fun _ _ _ h => h))
  have HSL0' : Hd (Sl (fun b => W6.heap.size ≤ b) P3 (.slice fa0 1 fc0) (u8s [97])) := hid (HSL0.out.keep hk (fun _ _ _ h => h))
  have BG' : Hd (Blk P3 b_BG #[(.int .i64 0), (.int .i64 1), (.bool false), (.slice fa0 1 fc0), (.int .u64 (T0 : Int))] 25) := hid (blk_keep BG.out hk (fun h => h))
  have BT' : Hd (Blk P3 b_BT #[(.int .i64 0), (.int .i64 1), (.int .i64 1), (.bool false)] 50) := hid (blk_keep BT.out hk (fun h => h))
  clear HN BS BR HSL1 BF HBD HSL0 BG BT
  have HN := HN'
  clear HN'
  have BS := BS'
  clear BS'
  have BR := BR'
  clear BR'
  have HSL1 := HSL1'
  clear HSL1'
  have BF := BF'
  clear BF'
  have HBD := HBD'
  clear HBD'
  have HSL0 := HSL0'
  clear HSL0'
  have BG := BG'
  clear BG'
  have BT := BT'
  clear BT'
  have HK' : Hd (Keeps (fun _ => False) w P3) := hid (HK.out.trans hk)
  clear HK
  have HK := HK'
  clear HK'
  have z_P3 := hk.size
  clear hk
  have HTW := hid hbd2; have HF0 : Hd (∀ (K : Nat → Prop) X, Frs K X (.slice ra2 0 rc2) []) := hid (fun K X => frs_empty hf0)
  clear hbd2 hf0
  have o_BR_0 : P3.cell? ⟨b_BR, 0, none⟩ = some ((.int .i64 0)) := blk_cell BR.out 0
  have o_BR_1 : P3.cell? ⟨b_BR, 1, none⟩ = some ((.slice ra1 1 rc1)) := blk_cell BR.out 1
  have o_BR_2 : P3.cell? ⟨b_BR, 2, none⟩ = some ((.bool false)) := blk_cell BR.out 2
  have o_BR_3 : P3.cell? ⟨b_BR, 3, none⟩ = some ((.int .u64 (S1 : Int))) := blk_cell BR.out 3
  have o_BR_4 : P3.cell? ⟨b_BR, 4, none⟩ = some ((.int .i64 1)) := blk_cell BR.out 4
  have f_BR_0 : P3.frozen? ⟨b_BR, 0, none⟩ = false := blk_free BR.out 0
  have f_BR_1 : P3.frozen? ⟨b_BR, 1, none⟩ = false := blk_free BR.out 1
  have f_BR_2 : P3.frozen? ⟨b_BR, 2, none⟩ = false := blk_free BR.out 2
  have f_BR_3 : P3.frozen? ⟨b_BR, 3, none⟩ = false := blk_free BR.out 3
  have f_BR_4 : P3.frozen? ⟨b_BR, 4, none⟩ = false := blk_free BR.out 4
  go_upto_region 11 with fail
  clear o_BR_0 o_BR_1 o_BR_2 o_BR_3 o_BR_4 f_BR_0 f_BR_1 f_BR_2 f_BR_3 f_BR_4
  generalize hW : World.setCell (World.setCell (World.setCell (World.setCell (World.setCell P3 _ _) _ _) _ _) _ _) _ _ = W10
  have KS : Hd (Keeps (fun b => b = b_BR) P3 W10) := hid (by rw [← hW]; exact (Keeps.setCell (S := fun b => b = b_BR) (p := ⟨b_BR, 4, none⟩) (Keeps.setCell (S := fun b => b = b_BR) (p := ⟨b_BR, 3, none⟩) (Keeps.setCell (S := fun b => b = b_BR) (p := ⟨b_BR, 2, none⟩) (Keeps.setCell (S := fun b => b = b_BR) (p := ⟨b_BR, 1, none⟩) (Keeps.setCell (S := fun b => b = b_BR) (p := ⟨b_BR, 0, none⟩) (Keeps.refl (fun b => b = b_BR) P3) (.inl rfl) _) (.inl rfl) _) (.inl rfl) _) (.inl rfl) _) (.inl rfl) _))
  have HN' : Hd (NibR W10) := hid (HN.out.keep KS.out (fun b h1 h2 h3 => by omega))
  have BS' : Hd (Blk W10 U1.heap.size #[(.slice ea0 3 ec0), (.int .i64 0), (.int .u64 (S2 : Int)), (.int .i64 2)] 57) := hid (by rw [← hW]; exact (blk_other (blk_other (blk_other (blk_other (blk_other BS.out (by omega) _ _) (by omega) _ _) (by omega) _ _) (by omega) _ _) (by omega) _ _))
  have BR' : Hd (Blk W10 b_BR #[(.int .i64 2), (.slice ra2 0 rc2), (.bool false), (.int .u64 (S2 : Int)), (.int .i64 2)] 35) := hid (by rw [← hW]; exact (blk_set (blk_set (blk_set (blk_set (blk_set BR.out 0 _) 1 _) 2 _) 3 _) 4 _))
  have HSL1' : Hd (Sl (fun b => W5.heap.size ≤ b) W10 (.slice fa1 1 fc1) (u8s [98])) := hid (HSL1.out.keep KS.out (fun b h1 h2 h3 => by omega))
  have BF' : Hd (Blk W10 b_BF #[(.int .i64 1), (.int .i64 0), (.bool false), (.slice fa1 1 fc1), (.int .u64 (T1 : Int))] 25) := hid (by rw [← hW]; exact (blk_other (blk_other (blk_other (blk_other (blk_other BF.out (by omega) _ _) (by omega) _ _) (by omega) _ _) (by omega) _ _) (by omega) _ _))
  have HBD' : Hd (Bds (fun b => W6.heap.size ≤ b) W10 (.slice ea0 3 ec0) [[97], [98], [99]]) := hid (HBD.out.keep KS.out (fun b h1 h2 h3 => by omega))
  have HSL0' : Hd (Sl (fun b => W6.heap.size ≤ b) W10 (.slice fa0 1 fc0) (u8s [97])) := hid (HSL0.out.keep KS.out (fun b h1 h2 h3 => by omega))
  have BG' : Hd (Blk W10 b_BG #[(.int .i64 0), (.int .i64 1), (.bool false), (.slice fa0 1 fc0), (.int .u64 (T0 : Int))] 25) := hid (by rw [← hW]; exact (blk_other (blk_other (blk_other (blk_other (blk_other BG.out (by omega) _ _) (by omega) _ _) (by omega) _ _) (by omega) _ _) (by omega) _ _))
  have BT' : Hd (Blk W10 b_BT #[(.int .i64 0), (.int .i64 1), (.int .i64 1), (.bool false)] 50) := hid (by rw [← hW]; exact (blk_other (blk_other (blk_other (blk_other (blk_other BT.out (by omega) _ _) (by omega) _ _) (by omega) _ _) (by omega) _ _) (by omega) _ _))
  have HTW' : Hd (Bds (fun b => W9.heap.size ≤ b) W10 (.slice ta 2 tc) [[97], [98]]) := hid (HTW.out.keep KS.out (fun b h1 h2 h3 => by omega))
  clear HN BS BR HSL1 BF HBD HSL0 BG BT HTW
  have HN := HN'
  clear HN'
  have BS := BS'
  clear BS'
  have BR := BR'
  clear BR'
  have HSL1 := HSL1'
  clear HSL1'
  have BF := BF'
  clear BF'
  have HBD := HBD'
  clear HBD'
  have HSL0 := HSL0'
  clear HSL0'
  have BG := BG'
  clear BG'
  have BT := BT'
  clear BT'
  have HTW := HTW'
  clear HTW'
  have HK' : Hd (Keeps (fun _ => False) w W10) := hid (HK.out.trans' KS.out (fun i hi h => by omega))
  clear HK
  have HK := HK'
  clear HK'
  have z_W10 : P3.heap.size + 0 ≤ W10.heap.size := by rw [← hW]; simp
  clear hW KS
  have o_BR_0 : W10.cell? ⟨b_BR, 0, none⟩ = some ((.int .i64 2)) := blk_cell BR.out 0
  have o_BR_1 : W10.cell? ⟨b_BR, 1, none⟩ = some ((.slice ra2 0 rc2)) := blk_cell BR.out 1
  have o_BR_2 : W10.cell? ⟨b_BR, 2, none⟩ = some ((.bool false)) := blk_cell BR.out 2
  have o_BR_3 : W10.cell? ⟨b_BR, 3, none⟩ = some ((.int .u64 (S2 : Int))) := blk_cell BR.out 3
  have o_BR_4 : W10.cell? ⟨b_BR, 4, none⟩ = some ((.int .i64 2)) := blk_cell BR.out 4
  have o_BG_0 : W10.cell? ⟨b_BG, 0, none⟩ = some ((.int .i64 0)) := blk_cell BG.out 0
  have o_BG_1 : W10.cell? ⟨b_BG, 1, none⟩ = some ((.int .i64 1)) := blk_cell BG.out 1
  have o_BG_2 : W10.cell? ⟨b_BG, 2, none⟩ = some ((.bool false)) := blk_cell BG.out 2
  have o_BG_3 : W10.cell? ⟨b_BG, 3, none⟩ = some ((.slice fa0 1 fc0)) := blk_cell BG.out 3
  have o_BG_4 : W10.cell? ⟨b_BG, 4, none⟩ = some ((.int .u64 (T0 : Int))) := blk_cell BG.out 4
  go_wp2_with fail
  refine (HR3.out _ _ _ _ _ (HSL0.out.mono (fun _ _ _ => trivial)) (HF0.out _ _)).mono ?_
  rintro e P4 ⟨ra3, rc3, na3, nc3, rfl, hk⟩
  clear o_BR_0 o_BR_1 o_BR_2 o_BR_3 o_BR_4 o_BG_0 o_BG_1 o_BG_2 o_BG_3 o_BG_4
  have HN' : Hd (NibR P4) := hid (HN.out.keep hk (fun _ _ _ h => h))
  have BS' : Hd (Blk P4 U1.heap.size #[(.slice ea0 3 ec0), (.int .i64 0), (.int .u64 (S2 : Int)), (.int .i64 2)] 57) := hid (blk_keep BS.out hk (fun h => h))
  have BR' : Hd (Blk P4 b_BR #[(.int .i64 2), (.slice ra2 0 rc2), (.bool false), (.int .u64 (S2 : Int)), (.int .i64 2)] 35) := hid (blk_keep BR.out hk (fun h => h))
  have HSL1' : Hd (Sl (fun b => W5.heap.size ≤ b) P4 (.slice fa1 1 fc1) (u8s [98])) := hid (HSL1.out.keep hk (fun _ _ _ h => h))
  have BF' : Hd (Blk P4 b_BF #[(.int .i64 1), (.int .i64 0), (.bool false), (.slice fa1 1 fc1), (.int .u64 (T1 : Int))] 25) := hid (blk_keep BF.out hk (fun h => h))
  have HBD' : Hd (Bds (fun b => W6.heap.size ≤ b) P4 (.slice ea0 3 ec0) [[97], [98], [99]]) := hid (HBD.out.keep hk (fun _ _ _ h => h))
  have HSL0' : Hd (Sl (fun b => W6.heap.size ≤ b) P4 (.slice fa0 1 fc0) (u8s [97])) := hid (HSL0.out.keep hk (fun _ _ _ h => h))
  have BG' : Hd (Blk P4 b_BG #[(.int .i64 0), (.int .i64 1), (.bool false), (.slice fa0 1 fc0), (.int .u64 (T0 : Int))] 25) := hid (blk_keep BG.out hk (fun h => h))
  have BT' : Hd (Blk P4 b_BT #[(.int .i64 0), (.int .i64 1), (.int .i64 1), (.bool false)] 50) := hid (blk_keep BT.out hk (fun h => h))
  have HTW' : Hd (Bds (fun b => W9.heap.size ≤ b) P4 (.slice ta 2 tc) [[97], [98]]) := hid (HTW.out.keep hk (fun _ _ _ h => h))
  clear HN BS BR HSL1 BF HBD HSL0 BG BT HTW
  have HN := HN'
  clear HN'
  have BS := BS'
  clear BS'
  have BR := BR'
  clear BR'
  have HSL1 := HSL1'
  clear HSL1'
  have BF := BF'
  clear BF'
  have HBD := HBD'
  clear HBD'
  have HSL0 := HSL0'
  clear HSL0'
  have BG := BG'
  clear BG'
  have BT := BT'
  clear BT'
  have HTW := HTW'
  clear HTW'
  have HK' : Hd (Keeps (fun _ => False) w P4) := hid (HK.out.trans hk)
  clear HK
  have HK := HK'
  clear HK'
  have z_P4 := hk.size
  clear hk
  go_upto_region 12 with fail
  generalize hW : World.alloc P4 _ = W11
  have KS : Hd (Keeps (fun _ => False) P4 W11) := hid (by rw [← hW]; exact (Keeps.alloc (Keeps.refl (fun _ => False) P4) _))
  have HN' : Hd (NibR W11) := hid (HN.out.keep KS.out (fun _ _ _ h => h))
  have BS' : Hd (Blk W11 U1.heap.size #[(.slice ea0 3 ec0), (.int .i64 0), (.int .u64 (S2 : Int)), (.int .i64 2)] 57) := hid (by rw [← hW]; exact (blk_alloc BS.out _))
  have BR' : Hd (Blk W11 b_BR #[(.int .i64 2), (.slice ra2 0 rc2), (.bool false), (.int .u64 (S2 : Int)), (.int .i64 2)] 35) := hid (by rw [← hW]; exact (blk_alloc BR.out _))
  have HSL1' : Hd (Sl (fun b => W5.heap.size ≤ b) W11 (.slice fa1 1 fc1) (u8s [98])) := hid (HSL1.out.keep KS.out (fun _ _ _ h => h))
  have BF' : Hd (Blk W11 b_BF #[(.int .i64 1), (.int .i64 0), (.bool false), (.slice fa1 1 fc1), (.int .u64 (T1 : Int))] 25) := hid (by rw [← hW]; exact (blk_alloc BF.out _))
  have HBD' : Hd (Bds (fun b => W6.heap.size ≤ b) W11 (.slice ea0 3 ec0) [[97], [98], [99]]) := hid (HBD.out.keep KS.out (fun _ _ _ h => h))
  have HSL0' : Hd (Sl (fun b => W6.heap.size ≤ b) W11 (.slice fa0 1 fc0) (u8s [97])) := hid (HSL0.out.keep KS.out (fun _ _ _ h => h))
  have BG' : Hd (Blk W11 b_BG #[(.int .i64 0), (.int .i64 1), (.bool false), (.slice fa0 1 fc0), (.int .u64 (T0 : Int))] 25) := hid (by rw [← hW]; exact (blk_alloc BG.out _))
  have BT' : Hd (Blk W11 b_BT #[(.int .i64 0), (.int .i64 1), (.int .i64 1), (.bool false)] 50) := hid (by rw [← hW]; exact (blk_alloc BT.out _))
  have HTW' : Hd (Bds (fun b => W9.heap.size ≤ b) W11 (.slice ta 2 tc) [[97], [98]]) := hid (HTW.out.keep KS.out (fun _ _ _ h => h))
  have BX : Hd (Blk W11 P4.heap.size #[(.int .i64 2), (.slice ra3 0 rc3), (.bool false), (.int .u64 (S2 : Int)), (.int .i64 2)] 35) := hid (by rw [← hW]; exact (blk_new _ _ _))
  clear HN BS BR HSL1 BF HBD HSL0 BG BT HTW
  have HN := HN'
  clear HN'
  have BS := BS'
  clear BS'
  have BR := BR'
  clear BR'
  have HSL1 := HSL1'
  clear HSL1'
  have BF := BF'
  clear BF'
  have HBD := HBD'
  clear HBD'
  have HSL0 := HSL0'
  clear HSL0'
  have BG := BG'
  clear BG'
  have BT := BT'
  clear BT'
  have HTW := HTW'
  clear HTW'
  have HK' : Hd (Keeps (fun _ => False) w W11) := hid (HK.out.trans KS.out)
  clear HK
  have HK := HK'
  clear HK'
  have z_W11 : P4.heap.size + 1 ≤ W11.heap.size := by rw [← hW]; simp
  clear hW KS
  have v1 : (convert 22 22 (.slice (some ⟨W11.heap.size, 0, none⟩) 1 1)).run Tryd.prog (W11.alloc (.cells #[.int .u8 97] 5)) = .ok (.slice (some ⟨W11.heap.size, 0, none⟩) 1 1) (W11.alloc (.cells #[.int .u8 97] 5 (1, 2))) := Cr.conv_lit W11 _ 1 1
  have v2 : (convert 22 22 (.slice (some ⟨W11.heap.size + 1, 0, none⟩) 1 1)).run Tryd.prog ((W11.alloc (.cells #[.int .u8 97] 5 (1, 2))).alloc (.cells #[.int .u8 98] 5)) = .ok (.slice (some ⟨W11.heap.size + 1, 0, none⟩) 1 1) ((W11.alloc (.cells #[.int .u8 97] 5 (1, 2))).alloc (.cells #[.int .u8 98] 5 (1, 2))) := by have h := Cr.conv_lit (W11.alloc (.cells #[.int .u8 97] 5 (1, 2))) #[.int .u8 98] 1 1; simpa using h
  go_wp2_with fail
  refine (SameBodies_any _ (fun _ => True) _ _ [[97], [98]] [[97], [98]] (((W11.alloc (.cells #[.int .u8 97] 5 (1, 2))).alloc (.cells #[.int .u8 98] 5 (1, 2))).alloc (.cells #[.slice (some ⟨W11.heap.size, 0, none⟩) 1 1, .slice (some ⟨W11.heap.size + 1, 0, none⟩) 1 1] 22)) ((((HTW.out.keep (keeps_alloc (fun _ => False) _ _) (fun _ _ _ h => h)).keep (keeps_alloc (fun _ => False) _ _) (fun _ _ _ h => h)).keep (keeps_alloc (fun _ => False) _ _) (fun _ _ _ h => h))) (lit_two W11) (by decide) (by decide) (by decide)).mono ?_
  clear v1 v2
  rw [show decide (([[97], [98]] : List (List Nat)) = [[97], [98]]) = true from by decide]
  rintro e P5 ⟨rfl, hk0⟩
  have hk : Keeps (fun _ => False) W11 P5 := (((keeps_alloc (fun _ => False) _ _).trans (keeps_alloc (fun _ => False) _ _)).trans (keeps_alloc (fun _ => False) _ _)).trans hk0
  clear hk0
  clear HTW
  have HN' : Hd (NibR P5) := hid (HN.out.keep hk (fun _ _ _ h => h))
  have BS' : Hd (Blk P5 U1.heap.size #[(.slice ea0 3 ec0), (.int .i64 0), (.int .u64 (S2 : Int)), (.int .i64 2)] 57) := hid (blk_keep BS.out hk (fun h => h))
  have BR' : Hd (Blk P5 b_BR #[(.int .i64 2), (.slice ra2 0 rc2), (.bool false), (.int .u64 (S2 : Int)), (.int .i64 2)] 35) := hid (blk_keep BR.out hk (fun h => h))
  have HSL1' : Hd (Sl (fun b => W5.heap.size ≤ b) P5 (.slice fa1 1 fc1) (u8s [98])) := hid (HSL1.out.keep hk (fun _ _ _ h => h))
  have BF' : Hd (Blk P5 b_BF #[(.int .i64 1), (.int .i64 0), (.bool false), (.slice fa1 1 fc1), (.int .u64 (T1 : Int))] 25) := hid (blk_keep BF.out hk (fun h => h))
  have HBD' : Hd (Bds (fun b => W6.heap.size ≤ b) P5 (.slice ea0 3 ec0) [[97], [98], [99]]) := hid (HBD.out.keep hk (fun _ _ _ h => h))
  have HSL0' : Hd (Sl (fun b => W6.heap.size ≤ b) P5 (.slice fa0 1 fc0) (u8s [97])) := hid (HSL0.out.keep hk (fun _ _ _ h => h))
  have BG' : Hd (Blk P5 b_BG #[(.int .i64 0), (.int .i64 1), (.bool false), (.slice fa0 1 fc0), (.int .u64 (T0 : Int))] 25) := hid (blk_keep BG.out hk (fun h => h))
  have BT' : Hd (Blk P5 b_BT #[(.int .i64 0), (.int .i64 1), (.int .i64 1), (.bool false)] 50) := hid (blk_keep BT.out hk (fun h => h))
  have BX' : Hd (Blk P5 P4.heap.size #[(.int .i64 2), (.slice ra3 0 rc3), (.bool false), (.int .u64 (S2 : Int)), (.int .i64 2)] 35) := hid (blk_keep BX.out hk (fun h => h))
  clear HN BS BR HSL1 BF HBD HSL0 BG BT BX
  have HN := HN'
  clear HN'
  have BS := BS'
  clear BS'
  have BR := BR'
  clear BR'
  have HSL1 := HSL1'
  clear HSL1'
  have BF := BF'
  clear BF'
  have HBD := HBD'
  clear HBD'
  have HSL0 := HSL0'
  clear HSL0'
  have BG := BG'
  clear BG'
  have BT := BT'
  clear BT'
  have BX := BX'
  clear BX'
  have HK' : Hd (Keeps (fun _ => False) w P5) := hid (HK.out.trans hk)
  clear HK
  have HK := HK'
  clear HK'
  have z_P5 := hk.size
  clear hk
  go_upto_region 13 with fail
  have HST : Hd (∀ X, Calls Tryd.prog 28 #[.agg #[.int .i64 2, .slice ra2 0 rc2, .bool false, .int .u64 (S2 : Int), .int .i64 2]] X fun e w' => e = .returned (.agg #[.int .i64 2, .int .i64 0, .int .i64 2, .bool false]) ∧ Keeps (fun _ => False) X w') := hid (fun X => by have h := State_any [] ra2 rc2 2 false ⟨S2, 2⟩ (fun _ => True) X (HF0.out _ _) (by decide) (by decide) (by decide) (by simp); exact h)
  have HMI : Hd (∀ X, Calls Tryd.prog 48 #[.agg #[.slice ea0 3 ec0, .int .i64 0, .int .u64 (S2 : Int), .int .i64 2], .agg #[.int .i64 2, .int .i64 0, .int .i64 2, .bool false]] X fun e w' => ∃ a c, e = .returned (.slice a 1 c) ∧ Own (fun b => X.heap.size ≤ b) w' 3 1 (.slice a 1 c) 1 (i64s [2]) ∧ Keeps (fun _ => False) X w') := hid (fun X => by
    have h := Missing_any 3 ea0 ec0 0 ⟨S2, 2⟩ 2 0 2 false X (by decide) (by decide) (by decide) (by decide) (by decide) (by decide) (by decide) (by decide)
    have e5 : (if (false : Bool) then [] else misI 2 0 (max 0 2) (min (max 0 2 + 16) ((3 : Nat) : Int) - max 0 2).toNat) = [2] := by decide
    rw [e5] at h
    exact h.mono (fun e w' ⟨a, m, c, he, ho, hm, hk⟩ => by have hm' : m = 1 := hm; subst hm'; exact ⟨a, c, he, ho, hk⟩))
  have HEN : Hd (∀ X, Keeps (fun _ => False) P5 X → Calls Tryd.prog 16 #[.agg #[(.int .i64 1), (.int .i64 0), (.bool false), (.slice fa1 1 fc1), (.int .u64 (T1 : Int))]] X fun e w' => ∃ a n c, e = .returned (.slice a n c) ∧ 9 < n ∧ Keeps (fun _ => False) X w') := hid (fun X hx => by
    have h := Encode_any lF1 (fun _ => True) fa1 fc1 X (HN.out.keep hx (fun _ _ _ h => h)) lF1_ok ((HSL1.out.keep hx (fun _ _ _ h => h)).mono (fun _ _ _ => trivial))
    rw [HT1.out] at h
    exact h.mono (fun e w' ⟨a, n, c, he, hn, _, hk⟩ => ⟨a, n, c, he, by rw [hn, u8s_length]; exact lv6 lF1 lF1_f.2.2.2, hk⟩))
  have HSS : Hd (∀ w', Keeps (fun _ => False) P5 w' → (w'.cell? ⟨U1.heap.size, 0, none⟩ = some ((.slice ea0 3 ec0)) ∧ w'.cell? ⟨U1.heap.size, 1, none⟩ = some ((.int .i64 0)) ∧ w'.cell? ⟨U1.heap.size, 2, none⟩ = some ((.int .u64 (S2 : Int))) ∧ w'.cell? ⟨U1.heap.size, 3, none⟩ = some ((.int .i64 2)) ∧ w'.cell? ⟨b_BR, 0, none⟩ = some ((.int .i64 2)) ∧ w'.cell? ⟨b_BR, 1, none⟩ = some ((.slice ra2 0 rc2)) ∧ w'.cell? ⟨b_BR, 2, none⟩ = some ((.bool false)) ∧ w'.cell? ⟨b_BR, 3, none⟩ = some ((.int .u64 (S2 : Int))) ∧ w'.cell? ⟨b_BR, 4, none⟩ = some ((.int .i64 2)) ∧ w'.cell? ⟨b_BF, 0, none⟩ = some ((.int .i64 1)) ∧ w'.cell? ⟨b_BF, 1, none⟩ = some ((.int .i64 0)) ∧ w'.cell? ⟨b_BF, 2, none⟩ = some ((.bool false)) ∧ w'.cell? ⟨b_BF, 3, none⟩ = some ((.slice fa1 1 fc1)) ∧ w'.cell? ⟨b_BF, 4, none⟩ = some ((.int .u64 (T1 : Int))) ∧ w'.cell? ⟨b_BT, 0, none⟩ = some ((.int .i64 0)) ∧ w'.cell? ⟨b_BT, 1, none⟩ = some ((.int .i64 1)) ∧ w'.cell? ⟨b_BT, 2, none⟩ = some ((.int .i64 1)) ∧ w'.cell? ⟨b_BT, 3, none⟩ = some ((.bool false)))) := hid (fun w' hk => ⟨blk_cell (blk_keep BS.out hk (fun h => h)) 0, blk_cell (blk_keep BS.out hk (fun h => h)) 1, blk_cell (blk_keep BS.out hk (fun h => h)) 2, blk_cell (blk_keep BS.out hk (fun h => h)) 3, blk_cell (blk_keep BR.out hk (fun h => h)) 0, blk_cell (blk_keep BR.out hk (fun h => h)) 1, blk_cell (blk_keep BR.out hk (fun h => h)) 2, blk_cell (blk_keep BR.out hk (fun h => h)) 3, blk_cell (blk_keep BR.out hk (fun h => h)) 4, blk_cell (blk_keep BF.out hk (fun h => h)) 0, blk_cell (blk_keep BF.out hk (fun h => h)) 1, blk_cell (blk_keep BF.out hk (fun h => h)) 2, blk_cell (blk_keep BF.out hk (fun h => h)) 3, blk_cell (blk_keep BF.out hk (fun h => h)) 4, blk_cell (blk_keep BT.out hk (fun h => h)) 0, blk_cell (blk_keep BT.out hk (fun h => h)) 1, blk_cell (blk_keep BT.out hk (fun h => h)) 2, blk_cell (blk_keep BT.out hk (fun h => h)) 3⟩)
  have KC : Hd (Keeps (fun _ => False) P5 P5) := hid (Keeps.refl _ _)
  go_region_held (fun w' => w'.cell? ⟨U1.heap.size, 0, none⟩ = some ((.slice ea0 3 ec0)) ∧ w'.cell? ⟨U1.heap.size, 1, none⟩ = some ((.int .i64 0)) ∧ w'.cell? ⟨U1.heap.size, 2, none⟩ = some ((.int .u64 (S2 : Int))) ∧ w'.cell? ⟨U1.heap.size, 3, none⟩ = some ((.int .i64 2)) ∧ w'.cell? ⟨b_BR, 0, none⟩ = some ((.int .i64 2)) ∧ w'.cell? ⟨b_BR, 1, none⟩ = some ((.slice ra2 0 rc2)) ∧ w'.cell? ⟨b_BR, 2, none⟩ = some ((.bool false)) ∧ w'.cell? ⟨b_BR, 3, none⟩ = some ((.int .u64 (S2 : Int))) ∧ w'.cell? ⟨b_BR, 4, none⟩ = some ((.int .i64 2)) ∧ w'.cell? ⟨b_BF, 0, none⟩ = some ((.int .i64 1)) ∧ w'.cell? ⟨b_BF, 1, none⟩ = some ((.int .i64 0)) ∧ w'.cell? ⟨b_BF, 2, none⟩ = some ((.bool false)) ∧ w'.cell? ⟨b_BF, 3, none⟩ = some ((.slice fa1 1 fc1)) ∧ w'.cell? ⟨b_BF, 4, none⟩ = some ((.int .u64 (T1 : Int))) ∧ w'.cell? ⟨b_BT, 0, none⟩ = some ((.int .i64 0)) ∧ w'.cell? ⟨b_BT, 1, none⟩ = some ((.int .i64 1)) ∧ w'.cell? ⟨b_BT, 2, none⟩ = some ((.int .i64 1)) ∧ w'.cell? ⟨b_BT, 3, none⟩ = some ((.bool false))) ((refine HSS.out _ ?_; (repeat (first | (with_reducible exact KC.out) | (with_reducible exact Keeps.refl _ _) | (with_reducible apply Keeps.drewN) | (with_reducible apply Keeps.drew) | (with_reducible apply Keeps.alloc)))))
    (first
    | (go_at_call 28; (refine (HST.out _).mono ?_); rintro e y1 ⟨rfl, hk⟩; (first | (have HLT2 : Hd (∀ Z, Keeps (fun _ => False) y1 Z → Sl (fun _ => True) Z _ (i64s [2])) := hid (fun Z hz => HLT.out Z (Keeps.trans (S := fun _ => False) (Keeps.trans (S := fun _ => False) (by (repeat (first | (with_reducible exact Keeps.refl _ _) | (with_reducible apply Keeps.drewN) | (with_reducible apply Keeps.drew) | (with_reducible apply Keeps.alloc))); done) hk) hz)); clear HLT; have HLT := HLT2; clear HLT2) | (have HLT : Hd (∀ Z, Keeps (fun _ => False) y1 Z → Sl (fun _ => True) Z _ (i64s [2])) := hid (fun Z hz => ((lit_i64 _ 2).keep hk (fun _ _ _ h => h)).keep hz (fun _ _ _ h => h))) | skip); have KC2 : Hd (Keeps (fun _ => False) P5 y1) := hid (Keeps.trans (S := fun _ => False) (by (repeat (first | (with_reducible exact KC.out) | (with_reducible exact Keeps.refl _ _) | (with_reducible apply Keeps.drewN) | (with_reducible apply Keeps.drew) | (with_reducible apply Keeps.alloc)))) hk); clear KC; have KC := KC2; clear KC2; have hk1 := hid hk; clear hk)
    | (go_at_call 48; (refine (HMI.out _).mono ?_); rintro e y2 ⟨am, cm, rfl, hom, hk⟩; (first | (have HLT2 : Hd (∀ Z, Keeps (fun _ => False) y2 Z → Sl (fun _ => True) Z _ (i64s [2])) := hid (fun Z hz => HLT.out Z (Keeps.trans (S := fun _ => False) (Keeps.trans (S := fun _ => False) (by (repeat (first | (with_reducible exact Keeps.refl _ _) | (with_reducible apply Keeps.drewN) | (with_reducible apply Keeps.drew) | (with_reducible apply Keeps.alloc))); done) hk) hz)); clear HLT; have HLT := HLT2; clear HLT2) | (have HLT : Hd (∀ Z, Keeps (fun _ => False) y2 Z → Sl (fun _ => True) Z _ (i64s [2])) := hid (fun Z hz => ((lit_i64 _ 2).keep hk (fun _ _ _ h => h)).keep hz (fun _ _ _ h => h))) | skip); have KC2 : Hd (Keeps (fun _ => False) P5 y2) := hid (Keeps.trans (S := fun _ => False) (by (repeat (first | (with_reducible exact KC.out) | (with_reducible exact Keeps.refl _ _) | (with_reducible apply Keeps.drewN) | (with_reducible apply Keeps.drew) | (with_reducible apply Keeps.alloc)))) hk); clear KC; have KC := KC2; clear KC2; have HOM : Hd (∀ X, Keeps (fun _ => False) y2 X → Sl (fun _ => True) X (.slice am 1 cm) (i64s [2])) := hid (fun X hx => ((row_sl hom.row rfl).mono (fun _ _ _ => trivial)).keep hx (fun _ _ _ h => h)); clear hk hom)
    | (go_at_call 47; (refine (SameInts_any (fun _ => True) (fun _ => True) _ _ [2] [2] _ (HOM.out _ (by (repeat (first | (with_reducible exact Keeps.refl _ _) | (with_reducible apply Keeps.drewN) | (with_reducible apply Keeps.drew) | (with_reducible apply Keeps.alloc))); done)) (by first | exact HLT.out _ (by (repeat (first | (with_reducible exact Keeps.refl _ _) | (with_reducible apply Keeps.drewN) | (with_reducible apply Keeps.drew) | (with_reducible apply Keeps.alloc))); done) | exact lit_i64 _ 2) (by decide)).mono ?_); (rw [show decide (([2] : List Int) = [2]) = true from by decide]); rintro e y3 ⟨rfl, hd⟩; have hk := drawn_keeps (fun _ => False) hd; have KC2 : Hd (Keeps (fun _ => False) P5 y3) := hid (Keeps.trans (S := fun _ => False) (by (repeat (first | (with_reducible exact KC.out) | (with_reducible exact Keeps.refl _ _) | (with_reducible apply Keeps.drewN) | (with_reducible apply Keeps.drew) | (with_reducible apply Keeps.alloc)))) hk); clear KC; have KC := KC2; clear KC2; clear hk hd)
    | (go_at_call 16; (refine (HEN.out _ (by (repeat (first | (with_reducible exact KC.out) | (with_reducible exact Keeps.refl _ _) | (with_reducible apply Keeps.drewN) | (with_reducible apply Keeps.drew) | (with_reducible apply Keeps.alloc))))).mono ?_); rintro e y4 ⟨an, nn, cn, rfl, h9, hk⟩; have h9' : (9 : Int) < (nn : Int) := (by omega); have KC2 : Hd (Keeps (fun _ => False) P5 y4) := hid (Keeps.trans (S := fun _ => False) (by (repeat (first | (with_reducible exact KC.out) | (with_reducible exact Keeps.refl _ _) | (with_reducible apply Keeps.drewN) | (with_reducible apply Keeps.drew) | (with_reducible apply Keeps.alloc)))) hk); clear KC; have KC := KC2; clear KC2; clear hk))
  all_goals
    go_wp2
    go_ret
    refine ⟨rfl, HK.out.trans ?_⟩
    exact (by (repeat (first | (with_reducible exact KC.out) | (with_reducible exact Keeps.refl _ _) | (with_reducible apply Keeps.drewN) | (with_reducible apply Keeps.drew) | (with_reducible apply Keeps.alloc))))
end Go.Proofs.YthoikljmokkchaaDoor
