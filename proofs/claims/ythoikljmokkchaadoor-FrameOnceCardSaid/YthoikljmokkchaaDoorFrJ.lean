/- Frame: Unlock and Confirm. -/
import Derived.Test.YthoikljmokkchaaDoorFrH
namespace Go.Proofs.YthoikljmokkchaaDoor
open Go.RowKit
def UnlR (w : World) (bs : List (List Nat)) (f : Fr) (ac : Int) (l : Ld) (e : Ending) (w' : World) : Prop := ∃ a2 c2, e = .returned (.tuple #[.agg #[.int .i64 f.q, .int .i64 f.k, .bool f.u, .slice none 0 0, .int .u64 (f.t : Int)], .agg #[.slice a2 bs.length c2, .int .i64 ac, .int .u64 (l.k : Int), .int .i64 l.i]]) ∧
  Bds (fun b => w.heap.size ≤ b) w' (.slice a2 bs.length c2) bs ∧ Keeps (fun _ => False) w w'
set_option maxRecDepth 100000 in
set_option maxHeartbeats 2000000 in
theorem Unlock_any (bs : List (List Nat)) (ba : Option Addr) (bc : Nat) (ac : Int) (l : Ld) (q : Int) (K : Nat → Prop) (w : World) (hv : Bds K w (.slice ba bs.length bc) bs) (hn : bs.length ≤ 100000) (hx : ∀ x ∈ bs, x.length ≤ 512) (hl : l.ok) (hq0 : -9223372036854775808 ≤ q) (hq1 : q ≤ 9223372036854775807) :
    Calls Tryd.prog 42 #[.agg #[.slice ba bs.length bc, .int .i64 ac, .int .u64 (l.k : Int), .int .i64 l.i], .int .i64 q] w fun e w' => UnlR w bs (signF l ⟨q, 0, true, [], 0⟩) ac (nextL l) e w' := by
  have HV := hid (hv.mono (K' := fun b => b < w.heap.size) (fun b h _ => h)); have HX := hid hx
  have hfo : (⟨q, 0, true, [], 0⟩ : Fr).ok := ⟨hq0, hq1, by show _ ≤ (0 : Int); omega, by show (0 : Int) ≤ _; omega, by simp, by show 0 < _; omega, by show 0 ≤ _; omega⟩
  have HFO := hid hfo; have HLO := hid hl
  obtain ⟨F, hF⟩ : ∃ F, signF l ⟨q, 0, true, [], 0⟩ = F := ⟨_, rfl⟩
  have HF : Hd (F.q = q ∧ F.k = l.i ∧ F.u = true ∧ F.b = []) := hid (by rw [← hF]; exact ⟨rfl, rfl, rfl, rfl⟩)
  have HFT : Hd ((signF l ⟨q, 0, true, [], 0⟩).t = F.t) := hid (by rw [hF])
  rw [hF]
  clear hF hv hx hl hfo hq0 hq1
  obtain ⟨n, hnn⟩ : ∃ n, bs.length = n := ⟨_, rfl⟩
  have HN := hid hnn
  rw [hnn] at HV hn ⊢
  obtain ⟨t, ht⟩ : ∃ t, F.t = t := ⟨_, rfl⟩
  have HT := hid ht
  rw [ht] at HFT
  clear ht hnn
  obtain ⟨k, i⟩ := l
  have hi0 := HLO.out.i0; have hi1 := HLO.out.i1
  simp only [] at *
  obtain ⟨s, hs⟩ : ∃ s, stepN k = s := ⟨_, rfl⟩
  have HS := hid hs
  clear hs
  go_enter Tryd.func42, Tryd.ntmps42
  go_upto_region 1 with fail
  generalize hW : World.alloc (World.alloc (World.alloc w _) _) _ = W1
  have KS : Hd (Keeps (fun _ => False) w W1) := hid (by rw [← hW]; exact (Keeps.alloc (Keeps.alloc (Keeps.alloc (Keeps.refl (fun _ => False) w) _) _) _))
  have HV' : Hd (Bds (fun b => b < w.heap.size) W1 (.slice ba n bc) bs) := hid (HV.out.keep KS.out (fun _ _ _ h => h))
  have BS : Hd (Blk W1 w.heap.size #[(.slice ba n bc), (.int .i64 ac), (.int .u64 (k : Int)), (.int .i64 i)] 57) := hid (by rw [← hW]; exact (blk_alloc (blk_alloc (blk_new _ _ _) _) _))
  have BR1 : Hd (Blk W1 (w.heap.size + 1) #[(.int .i64 0), (.int .i64 0), (.bool false), (.slice none 0 0), (.int .u64 0)] 25) := hid (by rw [← hW]; exact (blk_alloc (blk_new' _ _ _ _ (by simp)) _))
  have BR2 : Hd (Blk W1 (w.heap.size + 1 + 1) #[(.slice none 0 0), (.int .i64 0), (.int .u64 0), (.int .i64 0)] 57) := hid (by rw [← hW]; exact (blk_new' _ _ _ _ (by simp)))
  clear HV
  have HV := HV'
  clear HV'
  have HK : Hd (Keeps (fun _ => False) w W1) := hid KS.out
  have z_W1 : w.heap.size + 3 ≤ W1.heap.size := by rw [← hW]; simp
  clear hW KS
  generalize hb_BR2 : w.heap.size + 1 + 1 = b_BR2 at *
  generalize hb_BR1 : w.heap.size + 1 = b_BR1 at *
  have o_BS_0 : W1.cell? ⟨w.heap.size, 0, none⟩ = some ((.slice ba n bc)) := blk_cell BS.out 0
  have o_BS_1 : W1.cell? ⟨w.heap.size, 1, none⟩ = some ((.int .i64 ac)) := blk_cell BS.out 1
  go_wp2_with fail
  refine (cloned_any _ _ bs _ HV.out (by rw [HN.out]; omega) (fun x hx => by have := HX.out x hx; omega)).mono ?_
  rw [HN.out]
  rintro e W2 ⟨a2, c2, rfl, hp, hk⟩
  have HP := hid hp
  clear hp
  clear o_BS_0 o_BS_1
  have HV' : Hd (Bds (fun b => b < w.heap.size) W2 (.slice ba n bc) bs) := hid (HV.out.keep hk (fun _ _ _ h => h))
  have BS' : Hd (Blk W2 w.heap.size #[(.slice ba n bc), (.int .i64 ac), (.int .u64 (k : Int)), (.int .i64 i)] 57) := hid (blk_keep BS.out hk (fun h => h))
  have BR1' : Hd (Blk W2 b_BR1 #[(.int .i64 0), (.int .i64 0), (.bool false), (.slice none 0 0), (.int .u64 0)] 25) := hid (blk_keep BR1.out hk (fun h => h))
  have BR2' : Hd (Blk W2 b_BR2 #[(.slice none 0 0), (.int .i64 0), (.int .u64 0), (.int .i64 0)] 57) := hid (blk_keep BR2.out hk (fun h => h))
  clear HV BS BR1 BR2
  have HV := HV'
  clear HV'
  have BS := BS'
  clear BS'
  have BR1 := BR1'
  clear BR1'
  have BR2 := BR2'
  clear BR2'
  have HK' : Hd (Keeps (fun _ => False) w W2) := hid (HK.out.trans hk)
  clear HK
  have HK := HK'
  clear HK'
  have z_W2 := hk.size
  clear hk
  clear HV
  have o_BS_0 : W2.cell? ⟨w.heap.size, 0, none⟩ = some ((.slice ba n bc)) := blk_cell BS.out 0
  have f_BS_0 : W2.frozen? ⟨w.heap.size, 0, none⟩ = false := blk_free BS.out 0
  go_upto_region 2 with fail
  clear o_BS_0 f_BS_0
  generalize hW : World.setCell W2 _ _ = W3
  have KS : Hd (Keeps (fun b => b = w.heap.size) W2 W3) := hid (by rw [← hW]; exact (Keeps.setCell (S := fun b => b = w.heap.size) (Keeps.refl (fun b => b = w.heap.size) W2) (.inl rfl) _))
  have BS' : Hd (Blk W3 w.heap.size #[(.slice a2 n c2), (.int .i64 ac), (.int .u64 (k : Int)), (.int .i64 i)] 57) := hid (by rw [← hW]; exact (blk_set BS.out 0 _))
  have BR1' : Hd (Blk W3 b_BR1 #[(.int .i64 0), (.int .i64 0), (.bool false), (.slice none 0 0), (.int .u64 0)] 25) := hid (by rw [← hW]; exact (blk_other BR1.out (by omega) _ _))
  have BR2' : Hd (Blk W3 b_BR2 #[(.slice none 0 0), (.int .i64 0), (.int .u64 0), (.int .i64 0)] 57) := hid (by rw [← hW]; exact (blk_other BR2.out (by omega) _ _))
  have HP' : Hd (BdP (fun b => W1.heap.size ≤ b) W1.heap.size W3 (.slice a2 n c2) bs) := hid (HP.out.keep KS.out (fun b _ h1 h2 => by omega))
  clear BS BR1 BR2 HP
  have BS := BS'
  clear BS'
  have BR1 := BR1'
  clear BR1'
  have BR2 := BR2'
  clear BR2'
  have HP := HP'
  clear HP'
  have HK' : Hd (Keeps (fun _ => False) w W3) := hid (HK.out.trans' KS.out (fun i hi h => by omega))
  clear HK
  have HK := HK'
  clear HK'
  have z_W3 : W2.heap.size + 0 ≤ W3.heap.size := by rw [← hW]; simp
  clear hW KS
  have o_BS_0 : W3.cell? ⟨w.heap.size, 0, none⟩ = some ((.slice a2 n c2)) := blk_cell BS.out 0
  have o_BS_1 : W3.cell? ⟨w.heap.size, 1, none⟩ = some ((.int .i64 ac)) := blk_cell BS.out 1
  have o_BS_2 : W3.cell? ⟨w.heap.size, 2, none⟩ = some ((.int .u64 (k : Int))) := blk_cell BS.out 2
  have o_BS_3 : W3.cell? ⟨w.heap.size, 3, none⟩ = some ((.int .i64 i)) := blk_cell BS.out 3
  go_wp2_with fail
  have hcall := sign_any ⟨k, i⟩ ⟨q, 0, true, [], 0⟩ ac a2 n c2 (fun _ => True) none 0 W3 HLO.out HFO.out (Sl.nil _ _)
  rw [HFT.out] at hcall
  simp only [HS.out, List.length_nil] at hcall
  have HC := hid hcall
  clear hcall
  refine (HC.out).mono ?_
  rintro e W4 ⟨rfl, hk⟩
  clear HC
  clear o_BS_0 o_BS_1 o_BS_2 o_BS_3
  have BS' : Hd (Blk W4 w.heap.size #[(.slice a2 n c2), (.int .i64 ac), (.int .u64 (k : Int)), (.int .i64 i)] 57) := hid (blk_keep BS.out hk (fun h => h))
  have BR1' : Hd (Blk W4 b_BR1 #[(.int .i64 0), (.int .i64 0), (.bool false), (.slice none 0 0), (.int .u64 0)] 25) := hid (blk_keep BR1.out hk (fun h => h))
  have BR2' : Hd (Blk W4 b_BR2 #[(.slice none 0 0), (.int .i64 0), (.int .u64 0), (.int .i64 0)] 57) := hid (blk_keep BR2.out hk (fun h => h))
  have HP' : Hd (BdP (fun b => W1.heap.size ≤ b) W1.heap.size W4 (.slice a2 n c2) bs) := hid (HP.out.keep hk (fun _ _ _ h => h))
  clear BS BR1 BR2 HP
  have BS := BS'
  clear BS'
  have BR1 := BR1'
  clear BR1'
  have BR2 := BR2'
  clear BR2'
  have HP := HP'
  clear HP'
  have HK' : Hd (Keeps (fun _ => False) w W4) := hid (HK.out.trans hk)
  clear HK
  have HK := HK'
  clear HK'
  have z_W4 := hk.size
  clear hk
  have o_BR1_0 : W4.cell? ⟨b_BR1, 0, none⟩ = some ((.int .i64 0)) := blk_cell BR1.out 0
  have o_BR1_1 : W4.cell? ⟨b_BR1, 1, none⟩ = some ((.int .i64 0)) := blk_cell BR1.out 1
  have o_BR1_2 : W4.cell? ⟨b_BR1, 2, none⟩ = some ((.bool false)) := blk_cell BR1.out 2
  have o_BR1_3 : W4.cell? ⟨b_BR1, 3, none⟩ = some ((.slice none 0 0)) := blk_cell BR1.out 3
  have o_BR1_4 : W4.cell? ⟨b_BR1, 4, none⟩ = some ((.int .u64 0)) := blk_cell BR1.out 4
  have o_BR2_0 : W4.cell? ⟨b_BR2, 0, none⟩ = some ((.slice none 0 0)) := blk_cell BR2.out 0
  have o_BR2_1 : W4.cell? ⟨b_BR2, 1, none⟩ = some ((.int .i64 0)) := blk_cell BR2.out 1
  have o_BR2_2 : W4.cell? ⟨b_BR2, 2, none⟩ = some ((.int .u64 0)) := blk_cell BR2.out 2
  have o_BR2_3 : W4.cell? ⟨b_BR2, 3, none⟩ = some ((.int .i64 0)) := blk_cell BR2.out 3
  have f_BR1_0 : W4.frozen? ⟨b_BR1, 0, none⟩ = false := blk_free BR1.out 0
  have f_BR1_1 : W4.frozen? ⟨b_BR1, 1, none⟩ = false := blk_free BR1.out 1
  have f_BR1_2 : W4.frozen? ⟨b_BR1, 2, none⟩ = false := blk_free BR1.out 2
  have f_BR1_3 : W4.frozen? ⟨b_BR1, 3, none⟩ = false := blk_free BR1.out 3
  have f_BR1_4 : W4.frozen? ⟨b_BR1, 4, none⟩ = false := blk_free BR1.out 4
  have f_BR2_0 : W4.frozen? ⟨b_BR2, 0, none⟩ = false := blk_free BR2.out 0
  have f_BR2_1 : W4.frozen? ⟨b_BR2, 1, none⟩ = false := blk_free BR2.out 1
  have f_BR2_2 : W4.frozen? ⟨b_BR2, 2, none⟩ = false := blk_free BR2.out 2
  have f_BR2_3 : W4.frozen? ⟨b_BR2, 3, none⟩ = false := blk_free BR2.out 3
  go_wp2
  clear o_BR1_0 o_BR1_1 o_BR1_2 o_BR1_3 o_BR1_4 o_BR2_0 o_BR2_1 o_BR2_2 o_BR2_3 f_BR1_0 f_BR1_1 f_BR1_2 f_BR1_3 f_BR1_4 f_BR2_0 f_BR2_1 f_BR2_2 f_BR2_3
  have k1 := keep5 W4 b_BR1 (.int .i64 q) (.int .i64 i) (.bool true) (.slice none 0 0) (.int .u64 (t : Int))
  have B1 := blkset5 BR1.out (u0 := (.int .i64 q)) (u1 := (.int .i64 i)) (u2 := (.bool true)) (u3 := (.slice none 0 0)) (u4 := (.int .u64 (t : Int)))
  have B2' := blk_keep BR2.out k1 (fun h => by omega)
  have B2 := blkset4 B2' (u0 := (.slice a2 n c2)) (u1 := (.int .i64 ac)) (u2 := (.int .u64 (s : Int))) (u3 := (.int .i64 (i + 1)))
  have B1' := blk_keep B1 (keep4 _ b_BR2 (.slice a2 n c2) (.int .i64 ac) (.int .u64 (s : Int)) (.int .i64 (i + 1))) (fun h => by omega)
  have r0 := blk_cell B1' 0
  have r1 := blk_cell B1' 1
  have r2 := blk_cell B1' 2
  have r3 := blk_cell B1' 3
  have r4 := blk_cell B1' 4
  have s0 := blk_cell B2 0
  have s1 := blk_cell B2 1
  have s2 := blk_cell B2 2
  have s3 := blk_cell B2 3
  refine bodyPost_ret (v := .tuple #[.agg #[(.int .i64 q), (.int .i64 i), (.bool true), (.slice none 0 0), (.int .u64 (t : Int))], .agg #[(.slice a2 n c2), (.int .i64 ac), (.int .u64 (s : Int)), (.int .i64 (i + 1))]]) (by simp [results, Tryd.results42, go_sem, r0, r1, r2, r3, r4, s0, s1, s2, s3]) rfl ?_
  obtain ⟨f0, f1, f2, f3⟩ := HF.out
  refine ⟨a2, c2, ?_, ?_, ?_⟩
  · rw [f0, f1, f2, HT.out, HN.out]; simp only [nextL, HS.out]
  · rw [HN.out]; exact (((HP.out.bds.keep k1 (fun b h1 h2 h3 => by rcases h2 with h2 | h2 <;> omega)).keep (keep4 _ b_BR2 (.slice a2 n c2) (.int .i64 ac) (.int .u64 (s : Int)) (.int .i64 (i + 1))) (fun b h1 h2 h3 => by rcases h2 with h2 | h2 <;> omega)).mono (fun b _ h => by rcases h with h | h <;> omega))
  · exact (HK.out.trans' k1 (fun b hb h => by omega)).trans' (keep4 _ b_BR2 (.slice a2 n c2) (.int .i64 ac) (.int .u64 (s : Int)) (.int .i64 (i + 1))) (fun b hb h => by omega)
end Go.Proofs.YthoikljmokkchaaDoor
