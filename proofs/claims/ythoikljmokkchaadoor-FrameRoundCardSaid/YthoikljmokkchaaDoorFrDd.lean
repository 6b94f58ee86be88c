/- Frame: the law of decoding. -/
import Derived.Test.YthoikljmokkchaaDoorFrYR
import Derived.Test.YthoikljmokkchaaDoorFrSM
import Derived.Test.YthoikljmokkchaaDoorFrV
import Derived.Test.YthoikljmokkchaaDoorCrcAll
namespace Go.Proofs.YthoikljmokkchaaDoor
open Go.RowKit
attribute [local go_sem ↓] Go.wp_at_zero Go.wp_at_succ
theorem sU_bytes {s : Wi.St} (h : ∀ c ∈ s.2, c < 256) (hz : (Wi.sU s).1.1 = 0) : ∀ c ∈ (Wi.sU s).1.2, c < 256 := by
  by_cases h0 : s.1 = 0
  · unfold Wi.sU at hz ⊢
    rw [if_pos h0] at hz ⊢
    obtain ⟨pre, e⟩ := Wi.rdU_suffix s.2 0 0 hz
    intro c hc
    exact h c (by rw [e]; exact List.mem_append_right _ hc)
  · rw [Wi.sU_err h0]; exact h
theorem sB_bytes {m : Int} {s : Wi.St} (h : ∀ c ∈ s.2, c < 256) : ∀ c ∈ (Wi.sB m s).2, c < 256 := by
  unfold Wi.sB
  split
  · rename_i hz
    split
    · intro c hc; cases hc
    · have hr : ∀ c ∈ (Wi.sSize m s).1.2, c < 256 := by
        unfold Wi.sSize at hz ⊢
        by_cases h1 : (Wi.sU s).1.1 = 0
        · rw [if_pos h1] at hz ⊢
          split at hz
          · exact absurd hz (by show ¬ ((2 : Int) = 0); decide)
          · rename_i h2
            rw [if_neg h2]
            exact sU_bytes h h1
        · rw [if_neg h1] at hz
          exact absurd hz h1
      intro c hc
      exact hr c (List.mem_of_mem_take hc)
  · intro c hc; cases hc
theorem chk_id {ok : Bool} {s : Wi.St} (h : (chk ok s).1 = 0) : chk ok s = s := by rw [(chk_zero h).2]; rfl
theorem decB_bytes {b : List Nat} (hb : ∀ c ∈ b, c < 256) (h : d9 b = 0) : ∀ c ∈ (d7 b).2, c < 256 := by
  have h8 := sU_zero (sEnd_zero h)
  have h6 : (d6 b).1 = 0 := sB_zero h8
  have h5 := chk_zero h6
  have h4 : (d4 b).1 = 0 := sU_zero h5.1
  have h3 := chk_zero h4
  have h2 : (d2 b).1 = 0 := sU_zero (s := d2 b) h3.1
  have h1 := chk_zero h2
  have e1 : ∀ c ∈ (d1 b).1.2, c < 256 := sU_bytes (s := (0, b)) hb h1.1
  have e2 : ∀ c ∈ (d2 b).2, c < 256 := by unfold d2; rw [chk_id h2]; exact e1
  have e3 : ∀ c ∈ (d3 b).1.2, c < 256 := sU_bytes e2 h3.1
  have e4 : ∀ c ∈ (d4 b).2, c < 256 := by unfold d4; rw [chk_id h4]; exact e3
  have e5 : ∀ c ∈ (d5 b).1.2, c < 256 := sU_bytes e4 h5.1
  have e6 : ∀ c ∈ (d6 b).2, c < 256 := by unfold d6; rw [chk_id h6]; exact e5
  exact sB_bytes e6
theorem opened_bytes {l : List Nat} (hl : ∀ c ∈ l, c < 256) : ∀ c ∈ (Cr.opened l).1, c < 256 := by
  intro c hc
  unfold Cr.opened at hc
  split at hc
  · cases hc
  · split at hc
    · exact hl c (List.mem_of_mem_take hc)
    · cases hc
theorem decM_bytes {l : List Nat} (hl : ∀ c ∈ l, c < 256) : ∀ c ∈ (decM l).1.b, c < 256 := by
  unfold decM
  split
  · unfold decB
    split
    · rename_i h; exact decB_bytes (opened_bytes hl) h
    · intro c hc; cases hc
  · intro c hc; cases hc
set_option maxRecDepth 100000 in
set_option maxHeartbeats 8000000 in
theorem decodes_any (v : Value) (l : List Nat) (w : World) (hN : Cr.Nib w) (hv : Sl (fun b => b < w.heap.size) w v (u8s l)) (hl : ∀ c ∈ l, c < 256) (hm : l.length ≤ 140737488351232) :
    Calls Tryd.prog 10 #[v] w fun e w' => e = .returned (.bool true) ∧ Keeps (fun _ => False) w w' := by
  have HX := hid hv
  have HLT := hid hl; have HLM := hid hm
  have HN : Hd (NibR w) := hid hN
  have hpos := NibR.pos (hN : NibR w)
  have HST : Hd (∀ c ∈ Cr.seal_ l, c < 256) := hid (Cr.seal_lt hl)
  have HSM : Hd ((Cr.seal_ l).length ≤ 140737488354000) := hid (by unfold Cr.seal_; rw [List.length_append, show (Cr.le4 (Cr.crc l)).length = 4 by simp [Cr.le4]]; omega)
  have hb1 := decM_bytes hl
  have hb2 := decM_bytes (Cr.seal_lt hl)
  obtain ⟨⟨F, er⟩, h1⟩ : ∃ x, decM l = x := ⟨_, rfl⟩
  obtain ⟨⟨G, es⟩, h2⟩ : ∃ x, decM (Cr.seal_ l) = x := ⟨_, rfl⟩
  rw [h1] at hb1
  rw [h2] at hb2
  have H1 := hid h1; have H2 := hid h2; have HB1 : Hd (∀ c ∈ F.b, c < 256) := hid hb1; have HB2 : Hd (∀ c ∈ G.b, c < 256) := hid hb2
  obtain ⟨sl, hsl⟩ : ∃ s, Cr.seal_ l = s := ⟨_, rfl⟩
  rw [hsl] at HST HSM H2
  have HSL := hid hsl
  clear hv hl hm hN hb1 hb2 h1 h2 hsl
  obtain ⟨n1, hn1⟩ : ∃ n, F.b.length = n := ⟨_, rfl⟩
  obtain ⟨n2, hn2⟩ : ∃ n, G.b.length = n := ⟨_, rfl⟩
  have HN1 := hid hn1; have HN2 := hid hn2
  clear hn1 hn2
  go_enter Tryd.func10, Tryd.ntmps10
  go_wp2_with fail
  refine (Decode_any l _ _ _ HN.out HX.out HLT.out (by have := HLM.out; omega)).mono ?_
  rw [H1.out]
  unfold DecR
  simp only []
  rw [HN1.out]
  rintro e U1 ⟨a1, c1, rfl, hs, hk⟩
  have HN' : Hd (NibR U1) := hid (HN.out.keep hk (fun _ _ _ h => h))
  have HX' : Hd (Sl (fun b => b < w.heap.size) U1 v (u8s l)) := hid (HX.out.keep hk (fun _ _ _ h => h))
  clear HN HX
  have HN := HN'
  clear HN'
  have HX := HX'
  clear HX'
  have HK : Hd (Keeps (fun _ => False) w U1) := hid hk
  have z_U1 := hk.size
  clear hk
  have S1 := hid (hs.mono (K' := fun _ => True) (fun _ _ _ => trivial))
  clear hs
  go_upto_region 2 with fail
  generalize hW : World.alloc U1 _ = W1
  have KS : Hd (Keeps (fun _ => False) U1 W1) := hid (by rw [← hW]; exact (Keeps.alloc (Keeps.refl (fun _ => False) U1) _))
  have HN' : Hd (NibR W1) := hid (HN.out.keep KS.out (fun _ _ _ h => h))
  have HX' : Hd (Sl (fun b => b < w.heap.size) W1 v (u8s l)) := hid (HX.out.keep KS.out (fun _ _ _ h => h))
  have S1' : Hd (Sl (fun _ => True) W1 (.slice a1 n1 c1) (u8s F.b)) := hid (S1.out.keep KS.out (fun _ _ _ h => h))
  have B1 : Hd (Blk W1 U1.heap.size #[(.int .i64 F.q), (.int .i64 F.k), (.bool F.u), (.slice a1 n1 c1), (.int .u64 (F.t : Int))] 25) := hid (by rw [← hW]; exact (blk_new _ _ _))
  clear HN HX S1
  have HN := HN'
  clear HN'
  have HX := HX'
  clear HX'
  have S1 := S1'
  clear S1'
  have HK' : Hd (Keeps (fun _ => False) w W1) := hid (HK.out.trans KS.out)
  clear HK
  have HK := HK'
  clear HK'
  have z_W1 : U1.heap.size + 1 ≤ W1.heap.size := by rw [← hW]; simp
  clear hW KS
  generalize hb_B1 : U1.heap.size = b_B1 at *
  go_wp2_with fail
  refine (RDecode_any l _ _ _ HX.out HLT.out (by have := HLM.out; omega)).mono ?_
  rw [H1.out]
  unfold DecR
  simp only []
  rw [HN1.out]
  rintro e U2 ⟨a2, c2, rfl, hs, hk⟩
  have HN' : Hd (NibR U2) := hid (HN.out.keep hk (fun _ _ _ h => h))
  have HX' : Hd (Sl (fun b => b < w.heap.size) U2 v (u8s l)) := hid (HX.out.keep hk (fun _ _ _ h => h))
  have S1' : Hd (Sl (fun _ => True) U2 (.slice a1 n1 c1) (u8s F.b)) := hid (S1.out.keep hk (fun _ _ _ h => h))
  have B1' : Hd (Blk U2 b_B1 #[(.int .i64 F.q), (.int .i64 F.k), (.bool F.u), (.slice a1 n1 c1), (.int .u64 (F.t : Int))] 25) := hid (blk_keep B1.out hk (fun h => h))
  clear HN HX S1 B1
  have HN := HN'
  clear HN'
  have HX := HX'
  clear HX'
  have S1 := S1'
  clear S1'
  have B1 := B1'
  clear B1'
  have HK' : Hd (Keeps (fun _ => False) w U2) := hid (HK.out.trans hk)
  clear HK
  have HK := HK'
  clear HK'
  have z_U2 := hk.size
  clear hk
  have S2 := hid (hs.mono (K' := fun _ => True) (fun _ _ _ => trivial))
  clear hs
  go_upto_region 3 with fail
  generalize hW : World.alloc U2 _ = W2
  have KS : Hd (Keeps (fun _ => False) U2 W2) := hid (by rw [← hW]; exact (Keeps.alloc (Keeps.refl (fun _ => False) U2) _))
  have HN' : Hd (NibR W2) := hid (HN.out.keep KS.out (fun _ _ _ h => h))
  have HX' : Hd (Sl (fun b => b < w.heap.size) W2 v (u8s l)) := hid (HX.out.keep KS.out (fun _ _ _ h => h))
  have S1' : Hd (Sl (fun _ => True) W2 (.slice a1 n1 c1) (u8s F.b)) := hid (S1.out.keep KS.out (fun _ _ _ h => h))
  have B1' : Hd (Blk W2 b_B1 #[(.int .i64 F.q), (.int .i64 F.k), (.bool F.u), (.slice a1 n1 c1), (.int .u64 (F.t : Int))] 25) := hid (by rw [← hW]; exact (blk_alloc B1.out _))
  have S2' : Hd (Sl (fun _ => True) W2 (.slice a2 n1 c2) (u8s F.b)) := hid (S2.out.keep KS.out (fun _ _ _ h => h))
  have B2 : Hd (Blk W2 U2.heap.size #[(.int .i64 F.q), (.int .i64 F.k), (.bool F.u), (.slice a2 n1 c2), (.int .u64 (F.t : Int))] 25) := hid (by rw [← hW]; exact (blk_new _ _ _))
  clear HN HX S1 B1 S2
  have HN := HN'
  clear HN'
  have HX := HX'
  clear HX'
  have S1 := S1'
  clear S1'
  have B1 := B1'
  clear B1'
  have S2 := S2'
  clear S2'
  have HK' : Hd (Keeps (fun _ => False) w W2) := hid (HK.out.trans KS.out)
  clear HK
  have HK := HK'
  clear HK'
  have z_W2 : U2.heap.size + 1 ≤ W2.heap.size := by rw [← hW]; simp
  clear hW KS
  generalize hb_B2 : U2.heap.size = b_B2 at *
  go_wp2_with fail
  refine (Cr.RSeal_any _ _ l _ HX.out HLT.out (by have := HLM.out; omega)).mono ?_
  rw [HSL.out]
  rintro e U9 ⟨sa_, ns, cs, rfl, hns, hos, hk⟩
  have HN' : Hd (NibR U9) := hid (HN.out.keep hk (fun _ _ _ h => h))
  have HX' : Hd (Sl (fun b => b < w.heap.size) U9 v (u8s l)) := hid (HX.out.keep hk (fun _ _ _ h => h))
  have S1' : Hd (Sl (fun _ => True) U9 (.slice a1 n1 c1) (u8s F.b)) := hid (S1.out.keep hk (fun _ _ _ h => h))
  have B1' : Hd (Blk U9 b_B1 #[(.int .i64 F.q), (.int .i64 F.k), (.bool F.u), (.slice a1 n1 c1), (.int .u64 (F.t : Int))] 25) := hid (blk_keep B1.out hk (fun h => h))
  have S2' : Hd (Sl (fun _ => True) U9 (.slice a2 n1 c2) (u8s F.b)) := hid (S2.out.keep hk (fun _ _ _ h => h))
  have B2' : Hd (Blk U9 b_B2 #[(.int .i64 F.q), (.int .i64 F.k), (.bool F.u), (.slice a2 n1 c2), (.int .u64 (F.t : Int))] 25) := hid (blk_keep B2.out hk (fun h => h))
  clear HN HX S1 B1 S2 B2
  have HN := HN'
  clear HN'
  have HX := HX'
  clear HX'
  have S1 := S1'
  clear S1'
  have B1 := B1'
  clear B1'
  have S2 := S2'
  clear S2'
  have B2 := B2'
  clear B2'
  have HK' : Hd (Keeps (fun _ => False) w U9) := hid (HK.out.trans hk)
  clear HK
  have HK := HK'
  clear HK'
  have z_U9 := hk.size
  clear hk
  have SS := hid ((row_sl hos.row hns.symm).mono (K' := fun _ => True) (fun _ _ _ => trivial))
  clear hns hos
  go_wp2_with fail
  refine (Decode_any sl _ _ _ HN.out SS.out HST.out HSM.out).mono ?_
  rw [H2.out]
  unfold DecR
  simp only []
  rw [HN2.out]
  rintro e U3 ⟨a3, c3, rfl, hs, hk⟩
  have HN' : Hd (NibR U3) := hid (HN.out.keep hk (fun _ _ _ h => h))
  have HX' : Hd (Sl (fun b => b < w.heap.size) U3 v (u8s l)) := hid (HX.out.keep hk (fun _ _ _ h => h))
  have S1' : Hd (Sl (fun _ => True) U3 (.slice a1 n1 c1) (u8s F.b)) := hid (S1.out.keep hk (fun _ _ _ h => h))
  have B1' : Hd (Blk U3 b_B1 #[(.int .i64 F.q), (.int .i64 F.k), (.bool F.u), (.slice a1 n1 c1), (.int .u64 (F.t : Int))] 25) := hid (blk_keep B1.out hk (fun h => h))
  have S2' : Hd (Sl (fun _ => True) U3 (.slice a2 n1 c2) (u8s F.b)) := hid (S2.out.keep hk (fun _ _ _ h => h))
  have B2' : Hd (Blk U3 b_B2 #[(.int .i64 F.q), (.int .i64 F.k), (.bool F.u), (.slice a2 n1 c2), (.int .u64 (F.t : Int))] 25) := hid (blk_keep B2.out hk (fun h => h))
  have SS' : Hd (Sl (fun _ => True) U3 (.slice sa_ ns cs) (u8s sl)) := hid (SS.out.keep hk (fun _ _ _ h => h))
  clear HN HX S1 B1 S2 B2 SS
  have HN := HN'
  clear HN'
  have HX := HX'
  clear HX'
  have S1 := S1'
  clear S1'
  have B1 := B1'
  clear B1'
  have S2 := S2'
  clear S2'
  have B2 := B2'
  clear B2'
  have SS := SS'
  clear SS'
  have HK' : Hd (Keeps (fun _ => False) w U3) := hid (HK.out.trans hk)
  clear HK
  have HK := HK'
  clear HK'
  have z_U3 := hk.size
  clear hk
  have S3 := hid (hs.mono (K' := fun _ => True) (fun _ _ _ => trivial))
  clear hs
  go_upto_region 5 with fail
  generalize hW : World.alloc U3 _ = W3
  have KS : Hd (Keeps (fun _ => False) U3 W3) := hid (by rw [← hW]; exact (Keeps.alloc (Keeps.refl (fun _ => False) U3) _))
  have HN' : Hd (NibR W3) := hid (HN.out.keep KS.out (fun _ _ _ h => h))
  have HX' : Hd (Sl (fun b => b < w.heap.size) W3 v (u8s l)) := hid (HX.out.keep KS.out (fun _ _ _ h => h))
  have S1' : Hd (Sl (fun _ => True) W3 (.slice a1 n1 c1) (u8s F.b)) := hid (S1.out.keep KS.out (fun _ _ _ h => h))
  have B1' : Hd (Blk W3 b_B1 #[(.int .i64 F.q), (.int .i64 F.k), (.bool F.u), (.slice a1 n1 c1), (.int .u64 (F.t : Int))] 25) := hid (by rw [← hW]; exact (blk_alloc B1.out _))
  have S2' : Hd (Sl (fun _ => True) W3 (.slice a2 n1 c2) (u8s F.b)) := hid (S2.out.keep KS.out (fun _ _ _ h => h))
  have B2' : Hd (Blk W3 b_B2 #[(.int .i64 F.q), (.int .i64 F.k), (.bool F.u), (.slice a2 n1 c2), (.int .u64 (F.t : Int))] 25) := hid (by rw [← hW]; exact (blk_alloc B2.out _))
  have SS' : Hd (Sl (fun _ => True) W3 (.slice sa_ ns cs) (u8s sl)) := hid (SS.out.keep KS.out (fun _ _ _ h => h))
  have S3' : Hd (Sl (fun _ => True) W3 (.slice a3 n2 c3) (u8s G.b)) := hid (S3.out.keep KS.out (fun _ _ _ h => h))
  have B3 : Hd (Blk W3 U3.heap.size #[(.int .i64 G.q), (.int .i64 G.k), (.bool G.u), (.slice a3 n2 c3), (.int .u64 (G.t : Int))] 25) := hid (by rw [← hW]; exact (blk_new _ _ _))
  clear HN HX S1 B1 S2 B2 SS S3
  have HN := HN'
  clear HN'
  have HX := HX'
  clear HX'
  have S1 := S1'
  clear S1'
  have B1 := B1'
  clear B1'
  have S2 := S2'
  clear S2'
  have B2 := B2'
  clear B2'
  have SS := SS'
  clear SS'
  have S3 := S3'
  clear S3'
  have HK' : Hd (Keeps (fun _ => False) w W3) := hid (HK.out.trans KS.out)
  clear HK
  have HK := HK'
  clear HK'
  have z_W3 : U3.heap.size + 1 ≤ W3.heap.size := by rw [← hW]; simp
  clear hW KS
  generalize hb_B3 : U3.heap.size = b_B3 at *
  go_wp2_with fail
  refine (RDecode_any sl _ _ _ SS.out HST.out HSM.out).mono ?_
  rw [H2.out]
  unfold DecR
  simp only []
  rw [HN2.out]
  rintro e U4 ⟨a4, c4, rfl, hs, hk⟩
  have HN' : Hd (NibR U4) := hid (HN.out.keep hk (fun _ _ _ h => h))
  have HX' : Hd (Sl (fun b => b < w.heap.size) U4 v (u8s l)) := hid (HX.out.keep hk (fun _ _ _ h => h))
  have S1' : Hd (Sl (fun _ => True) U4 (.slice a1 n1 c1) (u8s F.b)) := hid (S1.out.keep hk (fun _ _ _ h => h))
  have B1' : Hd (Blk U4 b_B1 #[(.int .i64 F.q), (.int .i64 F.k), (.bool F.u), (.slice a1 n1 c1), (.int .u64 (F.t : Int))] 25) := hid (blk_keep B1.out hk (fun h => h))
  have S2' : Hd (Sl (fun _ => True) U4 (.slice a2 n1 c2) (u8s F.b)) := hid (S2.out.keep hk (fun _ _ _ h => h))
  have B2' : Hd (Blk U4 b_B2 #[(.int .i64 F.q), (.int .i64 F.k), (.bool F.u), (.slice a2 n1 c2), (.int .u64 (F.t : Int))] 25) := hid (blk_keep B2.out hk (fun h => h))
  have SS' : Hd (Sl (fun _ => True) U4 (.slice sa_ ns cs) (u8s sl)) := hid (SS.out.keep hk (fun _ _ _ h => h))
  have S3' : Hd (Sl (fun _ => True) U4 (.slice a3 n2 c3) (u8s G.b)) := hid (S3.out.keep hk (fun _ _ _ h => h))
  have B3' : Hd (Blk U4 b_B3 #[(.int .i64 G.q), (.int .i64 G.k), (.bool G.u), (.slice a3 n2 c3), (.int .u64 (G.t : Int))] 25) := hid (blk_keep B3.out hk (fun h => h))
  clear HN HX S1 B1 S2 B2 SS S3 B3
  have HN := HN'
  clear HN'
  have HX := HX'
  clear HX'
  have S1 := S1'
  clear S1'
  have B1 := B1'
  clear B1'
  have S2 := S2'
  clear S2'
  have B2 := B2'
  clear B2'
  have SS := SS'
  clear SS'
  have S3 := S3'
  clear S3'
  have B3 := B3'
  clear B3'
  have HK' : Hd (Keeps (fun _ => False) w U4) := hid (HK.out.trans hk)
  clear HK
  have HK := HK'
  clear HK'
  have z_U4 := hk.size
  clear hk
  have S4 := hid (hs.mono (K' := fun _ => True) (fun _ _ _ => trivial))
  clear hs
  go_upto_region 6 with fail
  generalize hW : World.alloc U4 _ = W4
  have KS : Hd (Keeps (fun _ => False) U4 W4) := hid (by rw [← hW]; exact (Keeps.alloc (Keeps.refl (fun _ => False) U4) _))
  have HN' : Hd (NibR W4) := hid (HN.out.keep KS.out (fun _ _ _ h => h))
  have HX' : Hd (Sl (fun b => b < w.heap.size) W4 v (u8s l)) := hid (HX.out.keep KS.out (fun _ _ _ h => h))
  have S1' : Hd (Sl (fun _ => True) W4 (.slice a1 n1 c1) (u8s F.b)) := hid (S1.out.keep KS.out (fun _ _ _ h => h))
  have B1' : Hd (Blk W4 b_B1 #[(.int .i64 F.q), (.int .i64 F.k), (.bool F.u), (.slice a1 n1 c1), (.int .u64 (F.t : Int))] 25) := hid (by rw [← hW]; exact (blk_alloc B1.out _))
  have S2' : Hd (Sl (fun _ => True) W4 (.slice a2 n1 c2) (u8s F.b)) := hid (S2.out.keep KS.out (fun _ _ _ h => h))
  have B2' : Hd (Blk W4 b_B2 #[(.int .i64 F.q), (.int .i64 F.k), (.bool F.u), (.slice a2 n1 c2), (.int .u64 (F.t : Int))] 25) := hid (by rw [← hW]; exact (blk_alloc B2.out _))
  have SS' : Hd (Sl (fun _ => True) W4 (.slice sa_ ns cs) (u8s sl)) := hid (SS.out.keep KS.out (fun _ _ _ h => h))
  have S3' : Hd (Sl (fun _ => True) W4 (.slice a3 n2 c3) (u8s G.b)) := hid (S3.out.keep KS.out (fun _ _ _ h => h))
  have B3' : Hd (Blk W4 b_B3 #[(.int .i64 G.q), (.int .i64 G.k), (.bool G.u), (.slice a3 n2 c3), (.int .u64 (G.t : Int))] 25) := hid (by rw [← hW]; exact (blk_alloc B3.out _))
  have S4' : Hd (Sl (fun _ => True) W4 (.slice a4 n2 c4) (u8s G.b)) := hid (S4.out.keep KS.out (fun _ _ _ h => h))
  have B4 : Hd (Blk W4 U4.heap.size #[(.int .i64 G.q), (.int .i64 G.k), (.bool G.u), (.slice a4 n2 c4), (.int .u64 (G.t : Int))] 25) := hid (by rw [← hW]; exact (blk_new _ _ _))
  clear HN HX S1 B1 S2 B2 SS S3 B3 S4
  have HN := HN'
  clear HN'
  have HX := HX'
  clear HX'
  have S1 := S1'
  clear S1'
  have B1 := B1'
  clear B1'
  have S2 := S2'
  clear S2'
  have B2 := B2'
  clear B2'
  have SS := SS'
  clear SS'
  have S3 := S3'
  clear S3'
  have B3 := B3'
  clear B3'
  have S4 := S4'
  clear S4'
  have HK' : Hd (Keeps (fun _ => False) w W4) := hid (HK.out.trans KS.out)
  clear HK
  have HK := HK'
  clear HK'
  have z_W4 : U4.heap.size + 1 ≤ W4.heap.size := by rw [← hW]; simp
  clear hW KS
  generalize hb_B4 : U4.heap.size = b_B4 at *
  have o_B1_0 : W4.cell? ⟨b_B1, 0, none⟩ = some ((.int .i64 F.q)) := blk_cell B1.out 0
  have o_B1_1 : W4.cell? ⟨b_B1, 1, none⟩ = some ((.int .i64 F.k)) := blk_cell B1.out 1
  have o_B1_2 : W4.cell? ⟨b_B1, 2, none⟩ = some ((.bool F.u)) := blk_cell B1.out 2
  have o_B1_3 : W4.cell? ⟨b_B1, 3, none⟩ = some ((.slice a1 n1 c1)) := blk_cell B1.out 3
  have o_B1_4 : W4.cell? ⟨b_B1, 4, none⟩ = some ((.int .u64 (F.t : Int))) := blk_cell B1.out 4
  have o_B2_0 : W4.cell? ⟨b_B2, 0, none⟩ = some ((.int .i64 F.q)) := blk_cell B2.out 0
  have o_B2_1 : W4.cell? ⟨b_B2, 1, none⟩ = some ((.int .i64 F.k)) := blk_cell B2.out 1
  have o_B2_2 : W4.cell? ⟨b_B2, 2, none⟩ = some ((.bool F.u)) := blk_cell B2.out 2
  have o_B2_3 : W4.cell? ⟨b_B2, 3, none⟩ = some ((.slice a2 n1 c2)) := blk_cell B2.out 3
  have o_B2_4 : W4.cell? ⟨b_B2, 4, none⟩ = some ((.int .u64 (F.t : Int))) := blk_cell B2.out 4
  have hcall := SameFrame_true F a1 a2 c1 c2 (fun _ => True) (fun _ => True) W4 (by rw [HN1.out]; exact S1.out) (by rw [HN1.out]; exact S2.out) HB1.out
  rw [HN1.out] at hcall
  have HC := hid hcall
  clear hcall
  go_wp2_with fail
  refine (HC.out).mono ?_
  rintro e Y1 ⟨rfl, hk⟩
  clear HC
  clear o_B1_0 o_B1_1 o_B1_2 o_B1_3 o_B1_4 o_B2_0 o_B2_1 o_B2_2 o_B2_3 o_B2_4
  have HN' : Hd (NibR Y1) := hid (HN.out.keep hk (fun _ _ _ h => h))
  have HX' : Hd (Sl (fun b => b < w.heap.size) Y1 v (u8s l)) := hid (HX.out.keep hk (fun _ _ _ h => h))
  have S1' : Hd (Sl (fun _ => True) Y1 (.slice a1 n1 c1) (u8s F.b)) := hid (S1.out.keep hk (fun _ _ _ h => h))
  have B1' : Hd (Blk Y1 b_B1 #[(.int .i64 F.q), (.int .i64 F.k), (.bool F.u), (.slice a1 n1 c1), (.int .u64 (F.t : Int))] 25) := hid (blk_keep B1.out hk (fun h => h))
  have S2' : Hd (Sl (fun _ => True) Y1 (.slice a2 n1 c2) (u8s F.b)) := hid (S2.out.keep hk (fun _ _ _ h => h))
  have B2' : Hd (Blk Y1 b_B2 #[(.int .i64 F.q), (.int .i64 F.k), (.bool F.u), (.slice a2 n1 c2), (.int .u64 (F.t : Int))] 25) := hid (blk_keep B2.out hk (fun h => h))
  have SS' : Hd (Sl (fun _ => True) Y1 (.slice sa_ ns cs) (u8s sl)) := hid (SS.out.keep hk (fun _ _ _ h => h))
  have S3' : Hd (Sl (fun _ => True) Y1 (.slice a3 n2 c3) (u8s G.b)) := hid (S3.out.keep hk (fun _ _ _ h => h))
  have B3' : Hd (Blk Y1 b_B3 #[(.int .i64 G.q), (.int .i64 G.k), (.bool G.u), (.slice a3 n2 c3), (.int .u64 (G.t : Int))] 25) := hid (blk_keep B3.out hk (fun h => h))
  have S4' : Hd (Sl (fun _ => True) Y1 (.slice a4 n2 c4) (u8s G.b)) := hid (S4.out.keep hk (fun _ _ _ h => h))
  have B4' : Hd (Blk Y1 b_B4 #[(.int .i64 G.q), (.int .i64 G.k), (.bool G.u), (.slice a4 n2 c4), (.int .u64 (G.t : Int))] 25) := hid (blk_keep B4.out hk (fun h => h))
  clear HN HX S1 B1 S2 B2 SS S3 B3 S4 B4
  have HN := HN'
  clear HN'
  have HX := HX'
  clear HX'
  have S1 := S1'
  clear S1'
  have B1 := B1'
  clear B1'
  have S2 := S2'
  clear S2'
  have B2 := B2'
  clear B2'
  have SS := SS'
  clear SS'
  have S3 := S3'
  clear S3'
  have B3 := B3'
  clear B3'
  have S4 := S4'
  clear S4'
  have B4 := B4'
  clear B4'
  have HK' : Hd (Keeps (fun _ => False) w Y1) := hid (HK.out.trans hk)
  clear HK
  have HK := HK'
  clear HK'
  have z_Y1 := hk.size
  clear hk
  have o_B3_0 : Y1.cell? ⟨b_B3, 0, none⟩ = some ((.int .i64 G.q)) := blk_cell B3.out 0
  have o_B3_1 : Y1.cell? ⟨b_B3, 1, none⟩ = some ((.int .i64 G.k)) := blk_cell B3.out 1
  have o_B3_2 : Y1.cell? ⟨b_B3, 2, none⟩ = some ((.bool G.u)) := blk_cell B3.out 2
  have o_B3_3 : Y1.cell? ⟨b_B3, 3, none⟩ = some ((.slice a3 n2 c3)) := blk_cell B3.out 3
  have o_B3_4 : Y1.cell? ⟨b_B3, 4, none⟩ = some ((.int .u64 (G.t : Int))) := blk_cell B3.out 4
  have o_B4_0 : Y1.cell? ⟨b_B4, 0, none⟩ = some ((.int .i64 G.q)) := blk_cell B4.out 0
  have o_B4_1 : Y1.cell? ⟨b_B4, 1, none⟩ = some ((.int .i64 G.k)) := blk_cell B4.out 1
  have o_B4_2 : Y1.cell? ⟨b_B4, 2, none⟩ = some ((.bool G.u)) := blk_cell B4.out 2
  have o_B4_3 : Y1.cell? ⟨b_B4, 3, none⟩ = some ((.slice a4 n2 c4)) := blk_cell B4.out 3
  have o_B4_4 : Y1.cell? ⟨b_B4, 4, none⟩ = some ((.int .u64 (G.t : Int))) := blk_cell B4.out 4
  have hcall := SameFrame_true G a3 a4 c3 c4 (fun _ => True) (fun _ => True) Y1 (by rw [HN2.out]; exact S3.out) (by rw [HN2.out]; exact S4.out) HB2.out
  rw [HN2.out] at hcall
  have HC := hid hcall
  clear hcall
  go_wp2_with fail
  refine (HC.out).mono ?_
  rintro e Y3 ⟨rfl, hk⟩
  clear HC
  clear o_B3_0 o_B3_1 o_B3_2 o_B3_3 o_B3_4 o_B4_0 o_B4_1 o_B4_2 o_B4_3 o_B4_4
  have HN' : Hd (NibR Y3) := hid (HN.out.keep hk (fun _ _ _ h => h))
  have HX' : Hd (Sl (fun b => b < w.heap.size) Y3 v (u8s l)) := hid (HX.out.keep hk (fun _ _ _ h => h))
  have S1' : Hd (Sl (fun _ => True) Y3 (.slice a1 n1 c1) (u8s F.b)) := hid (S1.out.keep hk (fun _ _ _ h => h))
  have B1' : Hd (Blk Y3 b_B1 #[(.int .i64 F.q), (.int .i64 F.k), (.bool F.u), (.slice a1 n1 c1), (.int .u64 (F.t : Int))] 25) := hid (blk_keep B1.out hk (fun h => h))
  have S2' : Hd (Sl (fun _ => True) Y3 (.slice a2 n1 c2) (u8s F.b)) := hid (S2.out.keep hk (fun _ _ _ h => h))
  have B2' : Hd (Blk Y3 b_B2 #[(.int .i64 F.q), (.int .i64 F.k), (.bool F.u), (.slice a2 n1 c2), (.int .u64 (F.t : Int))] 25) := hid (blk_keep B2.out hk (fun h => h))
  have SS' : Hd (Sl (fun _ => True) Y3 (.slice sa_ ns cs) (u8s sl)) := hid (SS.out.keep hk (fun _ _ _ h => h))
  have S3' : Hd (Sl (fun _ => True) Y3 (.slice a3 n2 c3) (u8s G.b)) := hid (S3.out.keep hk (fun _ _ _ h => h))
  have B3' : Hd (Blk Y3 b_B3 #[(.int .i64 G.q), (.int .i64 G.k), (.bool G.u), (.slice a3 n2 c3), (.int .u64 (G.t : Int))] 25) := hid (blk_keep B3.out hk (fun h => h))
  have S4' : Hd (Sl (fun _ => True) Y3 (.slice a4 n2 c4) (u8s G.b)) := hid (S4.out.keep hk (fun _ _ _ h => h))
  have B4' : Hd (Blk Y3 b_B4 #[(.int .i64 G.q), (.int .i64 G.k), (.bool G.u), (.slice a4 n2 c4), (.int .u64 (G.t : Int))] 25) := hid (blk_keep B4.out hk (fun h => h))
  clear HN HX S1 B1 S2 B2 SS S3 B3 S4 B4
  have HN := HN'
  clear HN'
  have HX := HX'
  clear HX'
  have S1 := S1'
  clear S1'
  have B1 := B1'
  clear B1'
  have S2 := S2'
  clear S2'
  have B2 := B2'
  clear B2'
  have SS := SS'
  clear SS'
  have S3 := S3'
  clear S3'
  have B3 := B3'
  clear B3'
  have S4 := S4'
  clear S4'
  have B4 := B4'
  clear B4'
  have HK' : Hd (Keeps (fun _ => False) w Y3) := hid (HK.out.trans hk)
  clear HK
  have HK := HK'
  clear HK'
  have z_Y3 := hk.size
  clear hk
  go_wp2_with fail
  refine (lives_any _ HN.out).mono ?_
  rintro e Z ⟨rfl, hk⟩
  have HN' : Hd (NibR Z) := hid (HN.out.keep hk (fun _ _ _ h => h))
  have HX' : Hd (Sl (fun b => b < w.heap.size) Z v (u8s l)) := hid (HX.out.keep hk (fun _ _ _ h => h))
  have S1' : Hd (Sl (fun _ => True) Z (.slice a1 n1 c1) (u8s F.b)) := hid (S1.out.keep hk (fun _ _ _ h => h))
  have B1' : Hd (Blk Z b_B1 #[(.int .i64 F.q), (.int .i64 F.k), (.bool F.u), (.slice a1 n1 c1), (.int .u64 (F.t : Int))] 25) := hid (blk_keep B1.out hk (fun h => h))
  have S2' : Hd (Sl (fun _ => True) Z (.slice a2 n1 c2) (u8s F.b)) := hid (S2.out.keep hk (fun _ _ _ h => h))
  have B2' : Hd (Blk Z b_B2 #[(.int .i64 F.q), (.int .i64 F.k), (.bool F.u), (.slice a2 n1 c2), (.int .u64 (F.t : Int))] 25) := hid (blk_keep B2.out hk (fun h => h))
  have SS' : Hd (Sl (fun _ => True) Z (.slice sa_ ns cs) (u8s sl)) := hid (SS.out.keep hk (fun _ _ _ h => h))
  have S3' : Hd (Sl (fun _ => True) Z (.slice a3 n2 c3) (u8s G.b)) := hid (S3.out.keep hk (fun _ _ _ h => h))
  have B3' : Hd (Blk Z b_B3 #[(.int .i64 G.q), (.int .i64 G.k), (.bool G.u), (.slice a3 n2 c3), (.int .u64 (G.t : Int))] 25) := hid (blk_keep B3.out hk (fun h => h))
  have S4' : Hd (Sl (fun _ => True) Z (.slice a4 n2 c4) (u8s G.b)) := hid (S4.out.keep hk (fun _ _ _ h => h))
  have B4' : Hd (Blk Z b_B4 #[(.int .i64 G.q), (.int .i64 G.k), (.bool G.u), (.slice a4 n2 c4), (.int .u64 (G.t : Int))] 25) := hid (blk_keep B4.out hk (fun h => h))
  clear HN HX S1 B1 S2 B2 SS S3 B3 S4 B4
  have HN := HN'
  clear HN'
  have HX := HX'
  clear HX'
  have S1 := S1'
  clear S1'
  have B1 := B1'
  clear B1'
  have S2 := S2'
  clear S2'
  have B2 := B2'
  clear B2'
  have SS := SS'
  clear SS'
  have S3 := S3'
  clear S3'
  have B3 := B3'
  clear B3'
  have S4 := S4'
  clear S4'
  have B4 := B4'
  clear B4'
  have HK' : Hd (Keeps (fun _ => False) w Z) := hid (HK.out.trans hk)
  clear HK
  have HK := HK'
  clear HK'
  have z_Z := hk.size
  clear hk
  go_wp2
  go_ret
  exact ⟨rfl, HK.out⟩
end Go.Proofs.YthoikljmokkchaaDoor
