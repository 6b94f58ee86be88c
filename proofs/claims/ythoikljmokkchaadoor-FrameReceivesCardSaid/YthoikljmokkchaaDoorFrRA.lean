/- Frame: the reference's State and put. -/
import Derived.Test.YthoikljmokkchaaDoorFrRefS
import Derived.Test.YthoikljmokkchaaDoorFrPlain
import Derived.Test.YthoikljmokkchaaDoorFrS
import Derived.Deep.DrawnRows
import Derived.BigQuiet
namespace Go.Proofs.YthoikljmokkchaaDoor
open Go.RowKit
attribute [local go_sem ↓] Go.wp_at_zero Go.wp_at_succ
theorem havN_snoc (nx : Int) (l : List Fr) (x : Fr) : havN nx 0 (l ++ [x]) = havN nx 0 l ||| 2 ^ bitAt nx x.q := by unfold havN; rw [List.foldl_append]; rfl
theorem havN_small {nx : Int} : ∀ {l : List Fr} {h b : Nat}, h < 2 ^ b → (∀ x ∈ l, bitAt nx x.q < b) → havN nx h l < 2 ^ b := by
  intro l
  induction l with
  | nil => intro h b hh _; exact hh
  | cons x l ih =>
    intro h b hh hx
    refine ih (h := h ||| 2 ^ bitAt nx x.q) (Nat.or_lt_two_pow hh ?_) (fun y hy => hx y (List.mem_cons_of_mem _ hy))
    exact Nat.pow_lt_pow_right (by omega) (hx x List.mem_cons_self)
theorem havN_add {nx : Int} {l : List Fr} {x : Fr} (h : ∀ y ∈ l, bitAt nx y.q < bitAt nx x.q) : havN nx 0 (l ++ [x]) = havN nx 0 l + 2 ^ bitAt nx x.q := by
  rw [havN_snoc]
  have h1 : havN nx 0 l < 2 ^ bitAt nx x.q := havN_small (Nat.two_pow_pos _) h
  have h2 := Nat.two_pow_add_eq_or_of_lt h1 1
  rw [Nat.mul_one] at h2
  rw [Nat.or_comm, ← h2, Nat.add_comm]
theorem sorted_take {l : List Fr} (hs : l.Pairwise (fun x y => x.q < y.q)) {i : Nat} {x : Fr} (hx : l[i]? = some x) : ∀ y ∈ l.take i, y.q < x.q := by
  intro y hy
  obtain ⟨j, hj, rfl⟩ := List.getElem_of_mem hy
  have hj2 : j < i ∧ j < l.length := by rw [List.length_take] at hj; omega
  obtain ⟨hi, rfl⟩ := List.getElem?_eq_some_iff.1 hx
  rw [List.getElem_take]
  exact List.pairwise_iff_getElem.1 hs j i hj2.2 hi hj2.1
theorem take_snoc {α : Type} {l : List α} {i : Nat} {x : α} (hx : l[i]? = some x) : l.take (i + 1) = l.take i ++ [x] := by rw [List.take_add_one, hx]; rfl
set_option maxRecDepth 100000 in
set_option maxHeartbeats 4000000 in
theorem RState_any (fs : List Fr) (fa : Option Addr) (fc : Nat) (nx : Int) (lk : Bool) (l : Ld) (K : Nat → Prop) (w : World) (hv : Frs K w (.slice fa fs.length fc) fs) (hn : fs.length ≤ 100000) (hnx : 0 ≤ nx) (hnx2 : nx ≤ 1000000000) (hq : ∀ x ∈ fs, nx < x.q ∧ x.q ≤ nx + 15) (hs : fs.Pairwise (fun x y => x.q < y.q)) :
    Calls Tryd.prog 29 #[.agg #[.int .i64 nx, .slice fa fs.length fc, .bool lk, .int .u64 (l.k : Int), .int .i64 l.i]] w fun e w' => e = .returned (.agg #[.int .i64 nx, .int .i64 (havI nx fs), .int .i64 l.i, .bool lk]) ∧ Keeps (fun _ => False) w w' := by
  obtain ⟨k9, i9⟩ := l
  have HV := hid (hv.mono (K' := fun b => b < w.heap.size) (fun b h _ => h)); have HQ := hid hq; have HSO := hid hs
  have HHV : Hd (havI nx fs = ((havN nx 0 fs : Nat) : Int)) := hid (havI_eq (fun x h => by have := (hq x h).2; omega))
  have HHB : Hd (∀ i, havN nx 0 (fs.take i) < 65536) := hid (fun i => havN_small (b := 16) (by decide) (fun x hx => by have := hq x (List.mem_of_mem_take hx); unfold bitAt; omega))
  clear hv hq hs
  obtain ⟨n, hnn⟩ : ∃ n, fs.length = n := ⟨_, rfl⟩
  have HN := hid hnn
  rw [hnn] at HV hn ⊢
  clear hnn
  simp only []
  go_enter Tryd.func29, Tryd.ntmps29
  go_upto_region 1 with fail
  generalize hW : World.alloc (World.alloc w _) _ = W1
  have KS : Hd (Keeps (fun _ => False) w W1) := hid (by rw [← hW]; exact (Keeps.alloc (Keeps.alloc (Keeps.refl (fun _ => False) w) _) _))
  have HV' : Hd (Frs (fun b => b < w.heap.size) W1 (.slice fa n fc) fs) := hid (HV.out.keep KS.out (fun _ _ _ h => h))
  have BS : Hd (Blk W1 w.heap.size #[(.int .i64 nx), (.slice fa n fc), (.bool lk), (.int .u64 (k9 : Int)), (.int .i64 i9)] 35) := hid (by rw [← hW]; exact (blk_alloc (blk_new _ _ _) _))
  have BR : Hd (Blk W1 (w.heap.size + 1) #[(.int .i64 0), (.int .i64 0), (.int .i64 0), (.bool false)] 50) := hid (by rw [← hW]; exact (blk_new' _ _ _ _ (by simp)))
  clear HV
  have HV := HV'
  clear HV'
  have HK : Hd (Keeps (fun _ => False) w W1) := hid KS.out
  have z_W1 : w.heap.size + 2 ≤ W1.heap.size := by rw [← hW]; simp
  clear hW KS
  generalize hb_BR : w.heap.size + 1 = b_BR at *
  have ltS := blk_lt BS.out
  have ltR := blk_lt BR.out
  go_wp2_with fail
  go_loopw [3, 4] (fun hv iv wr => ∃ i : Nat, hv = .int .i64 ((havN nx 0 (fs.take i) : Nat) : Int) ∧ iv = .int .i64 (i : Int) ∧ i ≤ n ∧ Hd (Keeps (fun _ => False) W1 wr)) (fun _ iv _ => n - (intOf iv).toNat)
  case atStart => exact ⟨0, rfl, rfl, Nat.zero_le _, hid (Keeps.refl _ _)⟩
  case round =>
    obtain ⟨V, rfl⟩ : ∃ V, V = wr := ⟨_, rfl⟩
    obtain ⟨i, rfl, rfl, hi, HX⟩ := hrel
    have q0 : (0 : Int) ≤ i := by omega
    have s0 : V.cell? ⟨w.heap.size, 0, none⟩ = some (.int .i64 nx) := blk_cell (blk_keep BS.out HX.out (fun h => h)) 0
    have s1 : V.cell? ⟨w.heap.size, 1, none⟩ = some (.slice fa n fc) := blk_cell (blk_keep BS.out HX.out (fun h => h)) 1
    by_cases hlt : i < n
    · have q1 : (i : Int) < n := by omega
      have hil : i < fs.length := by rw [HN.out]; exact hlt
      obtain ⟨x, hxi⟩ : ∃ x, fs[i]? = some x := ⟨_, List.getElem?_eq_getElem hil⟩
      have hxq := HQ.out x (List.mem_of_getElem? hxi)
      have HV2 := hid (HV.out.keep HX.out (fun b h1 h2 h3 => h3))
      obtain ⟨bf, of, efa, -, -, hcell⟩ := frs_cells HV2.out (by omega)
      subst efa
      have hcq := (hcell i x hxi).1
      have HCQ := hid hcq
      clear hcell hcq HV2
      have HNX : Hd (havN nx 0 (fs.take (i + 1)) = havN nx 0 (fs.take i) + 2 ^ ((x.q - nx).toNat - 1)) := hid (by rw [take_snoc hxi]; exact havN_add (fun y hy => by have h1 := sorted_take HSO.out hxi y hy; have h2 := HQ.out y (List.mem_of_mem_take hy); unfold bitAt; omega))
      have hb1 := HHB.out (i + 1)
      have hb0 := HHB.out i
      rw [HNX.out] at hb1
      obtain ⟨h0, hh0⟩ : ∃ h0, havN nx 0 (fs.take i) = h0 := ⟨_, rfl⟩
      rw [hh0] at HNX hb0 hb1 ⊢
      clear hh0 hxi
      obtain ⟨d, hd⟩ : ∃ d, (x.q - nx).toNat - 1 = d := ⟨_, rfl⟩
      rw [hd] at HNX hb1
      have hd15 : d ≤ 14 := by omega
      have hqd : x.q = nx + 1 + (d : Int) := by omega
      obtain ⟨xq, hxq2⟩ : ∃ y, x.q = y := ⟨_, rfl⟩
      rw [hxq2] at HCQ hqd hxq
      clear hd hxq2
      have hw1 : IntKind.i64.wrap (nx + 1) = nx + 1 := IntWalk.i64_in _ (by omega)
      go_wp2_with fail
      go_loopw [5, 6] (fun bv kv wr => ∃ j : Nat, bv = .int .i64 ((2 ^ j : Nat) : Int) ∧ kv = .int .i64 (nx + 1 + (j : Int)) ∧ j ≤ d ∧ Hd (Keeps (fun _ => False) V wr)) (fun _ kv _ => (xq - intOf kv).toNat)
      case atStart => exact ⟨0, rfl, by simp, Nat.zero_le _, hid (Keeps.refl _ _)⟩
      case round =>
        obtain ⟨Y, rfl⟩ : ∃ Y, Y = wr := ⟨_, rfl⟩
        obtain ⟨j, rfl, rfl, hj, HY⟩ := hrel
        have t0 : Y.cell? ⟨w.heap.size, 0, none⟩ = some (.int .i64 nx) := keep_cell HY.out (fun h => h) s0
        have t1 : Y.cell? ⟨w.heap.size, 1, none⟩ = some (.slice (some ⟨bf, of, none⟩) n fc) := keep_cell HY.out (fun h => h) s1
        have t2 : Y.cell? ⟨bf, of + i * 5, none⟩ = some (.int .i64 xq) := keep_cell HY.out (fun h => h) HCQ.out
        by_cases hjd : j < d
        · have hk1 : nx + 1 + (j : Int) < xq := by omega
          have HP : Hd (2 ^ (j + 1) = 2 ^ j * 2) := hid (Nat.pow_succ 2 j)
          have hpb : 2 ^ j ≤ 16384 := by have h : 2 ^ j ≤ 2 ^ 14 := Nat.pow_le_pow_right (by omega) (by omega); simpa using h
          obtain ⟨z, hz⟩ : ∃ z, 2 ^ j = z := ⟨_, rfl⟩
          rw [hz] at HP hpb ⊢
          clear hz
          have e1 : IntKind.i64.wrap ((z : Int) * 2) = ((z * 2 : Nat) : Int) := by rw [IntWalk.i64_in _ (by omega)]; push_cast; rfl
          have e4 : IntKind.i64.wrap (nx + 1 + (j : Int) + 1) = nx + 1 + (j : Int) + 1 := IntWalk.i64_in _ (by omega)
          go_wp2_with fail
          go_roundw
          case rel => exact ⟨j + 1, by rw [HP.out]; first | rfl | (push_cast; rfl), by first | rfl | (congr 1; push_cast; omega), by omega, HY⟩
          case measure => simp [intOf]; omega
        · have hjd2 : j = d := by omega
          subst hjd2
          have hk1 : ¬ nx + 1 + (j : Int) < xq := by omega
          obtain ⟨z, hz⟩ : ∃ z, 2 ^ j = z := ⟨_, rfl⟩
          rw [hz] at HNX hb1 ⊢
          clear hz
          have e1 : IntKind.i64.wrap ((h0 : Int) + (z : Int)) = ((h0 + z : Nat) : Int) := by rw [IntWalk.i64_in _ (by omega)]; push_cast; rfl
          go_wp2_with fail
          go_roundw
          case rel => exact ⟨i + 1, by rw [HNX.out]; first | rfl | (push_cast; rfl), by go_num, by omega, hid (HX.out.trans HY.out)⟩
          case measure => simp [intOf]; omega
    · have hin : i = n := by omega
      have q1 : ¬ (i : Int) < n := by omega
      have HFT : Hd (havN nx 0 (fs.take i) = havN nx 0 fs) := hid (by rw [List.take_of_length_le (by rw [HN.out]; omega)])
      obtain ⟨hh, hhh⟩ : ∃ h, havN nx 0 fs = h := ⟨_, rfl⟩
      rw [hhh] at HFT HHV
      rw [HFT.out]
      clear hhh
      have BSX := hid (blk_keep BS.out HX.out (fun h => h))
      have BRX := hid (blk_keep BR.out HX.out (fun h => h))
      have s2 : V.cell? ⟨w.heap.size, 2, none⟩ = some (.bool lk) := blk_cell BSX.out 2
      have s4 : V.cell? ⟨w.heap.size, 4, none⟩ = some (.int .i64 i9) := blk_cell BSX.out 4
      have b0 : V.cell? ⟨b_BR, 0, none⟩ = some ((.int .i64 0)) := blk_cell BRX.out 0
      have b1 : V.cell? ⟨b_BR, 1, none⟩ = some ((.int .i64 0)) := blk_cell BRX.out 1
      have b2 : V.cell? ⟨b_BR, 2, none⟩ = some ((.int .i64 0)) := blk_cell BRX.out 2
      have b3 : V.cell? ⟨b_BR, 3, none⟩ = some ((.bool false)) := blk_cell BRX.out 3
      have y0 : V.frozen? ⟨b_BR, 0, none⟩ = false := blk_free BRX.out 0
      have y1 : V.frozen? ⟨b_BR, 1, none⟩ = false := blk_free BRX.out 1
      have y2 : V.frozen? ⟨b_BR, 2, none⟩ = false := blk_free BRX.out 2
      have y3 : V.frozen? ⟨b_BR, 3, none⟩ = false := blk_free BRX.out 3
      go_wp2
      clear s0 s1 s2 s4 b0 b1 b2 b3 y0 y1 y2 y3
      obtain ⟨HV2, B3⟩ := fin4 (HK.out.trans HX.out) (show w.heap.size ≤ b_BR by omega) BRX.out (.int .i64 nx) (.int .i64 (hh : Int)) (.int .i64 i9) (.bool lk)
      have r0 := blk_cell B3 0
      have r1 := blk_cell B3 1
      have r2 := blk_cell B3 2
      have r3 := blk_cell B3 3
      refine bodyPost_ret (v := .agg #[(.int .i64 nx), (.int .i64 (hh : Int)), (.int .i64 i9), (.bool lk)]) (by simp [results, Tryd.results29, go_sem, r0, r1, r2, r3]) rfl ?_
      exact ⟨by rw [HHV.out], HV2⟩
theorem src_blkR {V : World} {g : Nat} {cs : Array Value} {T : TypeId} (h : Blk V g cs T) (n size : Nat) (hl : cs.size = n * size) (hm : n ≤ maxLen) : Row (fun _ => True) V size (.slice (some ⟨g, 0, none⟩) n n) n cs.toList :=
  ⟨by simpa using hl, .inr ⟨_, n, rfl, Nat.le_refl _, hm, fun _ => ⟨g, 0, rfl, trivial, blk_lt h, fun j hj => by
    rw [Nat.zero_add, blk_cell h j]
    have : j < cs.size := by omega
    simp [List.getD, this]⟩⟩⟩
def putS (f : Fr) (s : List Fr × Bool) (x : Fr) : List Fr × Bool := if s.2 = false ∧ f.q ≤ x.q then ((if f.q < x.q then s.1 ++ [f] else s.1) ++ [x], true) else (s.1 ++ [x], s.2)
def putAt (f : Fr) (l : List Fr) (i : Nat) : List Fr × Bool := (l.take i).foldl (putS f) ([], false)
theorem putS_in (f : Fr) : ∀ (l out : List Fr), l.foldl (putS f) (out, true) = (out ++ l, true) := by
  intro l
  induction l with
  | nil => intro out; simp
  | cons x l ih =>
    intro out
    show List.foldl (putS f) (putS f (out, true) x) l = _
    rw [show putS f (out, true) x = (out ++ [x], true) by unfold putS; rw [if_neg (by simp)], ih]
    simp
theorem putS_ins (f : Fr) : ∀ (l out : List Fr), (if (l.foldl (putS f) (out, false)).2 then (l.foldl (putS f) (out, false)).1 else (l.foldl (putS f) (out, false)).1 ++ [f]) = out ++ insM f l := by
  intro l
  induction l with
  | nil => intro out; simp [insM]
  | cons x l ih =>
    intro out
    show (if (List.foldl (putS f) (putS f (out, false) x) l).2 then (List.foldl (putS f) (putS f (out, false) x) l).1 else (List.foldl (putS f) (putS f (out, false) x) l).1 ++ [f]) = _
    unfold insM
    by_cases h1 : x.q < f.q
    · rw [show putS f (out, false) x = (out ++ [x], false) by unfold putS; rw [if_neg (by simp; omega)], ih, if_pos h1]
      simp
    · rw [if_neg h1]
      by_cases h2 : x.q = f.q
      · rw [show putS f (out, false) x = (out ++ [x], true) by unfold putS; rw [if_pos ⟨rfl, by omega⟩, if_neg (by omega)], putS_in, if_pos h2]
        simp
      · rw [show putS f (out, false) x = (out ++ [f] ++ [x], true) by unfold putS; rw [if_pos ⟨rfl, by omega⟩, if_pos (by show f.q < x.q; omega)], putS_in, if_neg h2]
        simp
theorem putAt_all (f : Fr) (l : List Fr) : (if (putAt f l l.length).2 then (putAt f l l.length).1 else (putAt f l l.length).1 ++ [f]) = insM f l := by
  unfold putAt
  rw [List.take_length]
  exact (putS_ins f l []).trans (List.nil_append _)
theorem putAt_next {f : Fr} {l : List Fr} {i : Nat} {x : Fr} (h : l[i]? = some x) : putAt f l (i + 1) = putS f (putAt f l i) x := by
  unfold putAt
  rw [take_snoc h, List.foldl_append]; rfl
theorem putS_len (f : Fr) (s : List Fr × Bool) (x : Fr) : (putS f s x).1.length ≤ s.1.length + 2 := by
  unfold putS
  split
  · split <;> simp
  · simp
theorem putAt_len (f : Fr) (l : List Fr) : ∀ i, i ≤ l.length → (putAt f l i).1.length ≤ 2 * i := by
  intro i
  induction i with
  | zero => intro _; simp [putAt]
  | succ i ih =>
    intro hi
    have h := putS_len f (putAt f l i) l[i]
    rw [putAt_next (List.getElem?_eq_getElem (show i < l.length by omega))]
    have := ih (by omega)
    omega
set_option maxRecDepth 100000 in
set_option maxHeartbeats 8000000 in
theorem Rput_any (l : List Fr) (f : Fr) (la : Option Addr) (lc : Nat) (a : Option Addr) (c : Nat) (K : Nat → Prop) (w : World) (hv : Frs K w (.slice la l.length lc) l) (hs : Sl K w (.slice a f.b.length c) (u8s f.b)) (hn : l.length ≤ 100000) :
    Calls Tryd.prog 72 #[.slice la l.length lc, .agg #[.int .i64 f.q, .int .i64 f.k, .bool f.u, .slice a f.b.length c, .int .u64 (f.t : Int)]] w fun e w' => ∃ a2 c2, e = .returned (.slice a2 (insM f l).length c2) ∧ Frs (fun b => K b ∨ w.heap.size ≤ b) w' (.slice a2 (insM f l).length c2) (insM f l) ∧ Keeps (fun _ => False) w w' := by
  obtain ⟨i0, zz, hi, hz0, hz1, hz2, hz3⟩ := fr_parts
  have HV := hid (hv.mono (K' := fun b => K b ∧ b < w.heap.size) (fun b h h2 => ⟨h2, h⟩)); have HS := hid (hs.mono (K' := fun b => K b ∧ b < w.heap.size) (fun b h h2 => ⟨h2, h⟩))
  clear hv hs
  obtain ⟨I, hI⟩ : ∃ I, insM f l = I := ⟨_, rfl⟩
  have HPA : Hd ((if (putAt f l l.length).2 then (putAt f l l.length).1 else (putAt f l l.length).1 ++ [f]) = I) := hid (by rw [← hI]; exact putAt_all f l)
  have HPL : Hd (∀ i, i ≤ l.length → (putAt f l i).1.length ≤ 2 * i) := hid (putAt_len f l)
  rw [hI]
  clear hI
  obtain ⟨n, hnn⟩ : ∃ n, l.length = n := ⟨_, rfl⟩
  have HN := hid hnn
  rw [hnn] at HV hn HPA HPL ⊢
  clear hnn
  obtain ⟨m, hm⟩ : ∃ m, f.b.length = m := ⟨_, rfl⟩
  have HM := hid hm
  rw [hm] at HS ⊢
  clear hm
  go_enter Tryd.func72, Tryd.ntmps72
  go_upto_region 1 with fail
  generalize hW : World.alloc w _ = W1
  have KS : Hd (Keeps (fun _ => False) w W1) := hid (by rw [← hW]; exact (Keeps.alloc (Keeps.refl (fun _ => False) w) _))
  have HV' : Hd (Frs (fun b => K b ∧ b < w.heap.size) W1 (.slice la n lc) l) := hid (HV.out.keep KS.out (fun _ _ _ h => h))
  have HS' : Hd (Sl (fun b => K b ∧ b < w.heap.size) W1 (.slice a m c) (u8s f.b)) := hid (HS.out.keep KS.out (fun _ _ _ h => h))
  have BF : Hd (Blk W1 w.heap.size #[(.int .i64 f.q), (.int .i64 f.k), (.bool f.u), (.slice a m c), (.int .u64 (f.t : Int))] 25) := hid (by rw [← hW]; exact (blk_new _ _ _))
  clear HV HS
  have HV := HV'
  clear HV'
  have HS := HS'
  clear HS'
  have HK : Hd (Keeps (fun _ => False) w W1) := hid KS.out
  have z_W1 : w.heap.size + 1 ≤ W1.heap.size := by rw [← hW]; simp
  clear hW KS
  have ltF := blk_lt BF.out
  go_wp2_with fail
  go_loopw [5, 6, 7] (fun ov nv iv wr => ∃ (i M : Nat) (a1 : Option Addr) (c1 : Nat) (P : List Fr × Bool), ov = .slice a1 M c1 ∧ nv = .bool P.2 ∧ iv = .int .i64 (i : Int) ∧ i ≤ n ∧ M ≤ 2 * i ∧ Hd (putAt f l i = P) ∧ Hd (P.1.length = M) ∧ Hd (FrP (fun b => K b ∧ b < w.heap.size) W1.heap.size wr (.slice a1 M c1) P.1) ∧ Hd (Keeps (fun _ => False) W1 wr)) (fun _ _ iv _ => n - (intOf iv).toNat)
  case atStart => exact ⟨0, 0, none, 0, ([], false), rfl, rfl, rfl, Nat.zero_le _, Nat.zero_le _, hid (by simp [putAt]), hid rfl, hid (FrP.nil _ _ _), hid (Keeps.refl _ _)⟩
  case round =>
    obtain ⟨V, rfl⟩ : ∃ V, V = wr := ⟨_, rfl⟩
    obtain ⟨i, M, a1, c1, P, rfl, rfl, rfl, hi1, hM, HP, HPN, HFP, HX⟩ := hrel
    obtain ⟨po, pb⟩ := P
    simp only [] at HPN HFP
    have q0 : (0 : Int) ≤ i := by omega
    have zV := HX.out.size
    have HBF := hid (blk_keep BF.out HX.out (fun h => h))
    have hf0 : V.cell? ⟨w.heap.size, 0, none⟩ = some (.int .i64 f.q) := blk_cell HBF.out 0
    have HSV := hid (HS.out.keep HX.out (fun _ _ _ h => h))
    by_cases hlt : i < n
    · have q1 : (i : Int) < n := by omega
      have hil : i < l.length := by rw [HN.out]; exact hlt
      obtain ⟨x, hxi⟩ : ∃ x, l[i]? = some x := ⟨_, List.getElem?_eq_getElem hil⟩
      have HVV := hid (HV.out.keep HX.out (fun _ _ _ h => h))
      obtain ⟨bl, ol, ela, hblk, -, hcell⟩ := frs_cells HVV.out (by omega)
      have hblw : bl < w.heap.size := hblk.2
      clear hblk
      subst ela
      obtain ⟨x0, x1, x2, x4, ad, cd, x3, hsx⟩ := hcell i x hxi
      have HNX : Hd (putAt f l (i + 1) = putS f (po, pb) x) := hid (by rw [putAt_next hxi, HP.out])
      have HNL := HPL.out (i + 1) (by omega)
      have HSX := hid hsx
      obtain ⟨xm, hxm⟩ : ∃ y, x.b.length = y := ⟨_, rfl⟩
      have HXM := hid hxm
      rw [hxm] at x3 HSX
      clear hcell hxi hsx hxm HVV hil
      have HC0 := hid x0; have HC1 := hid x1; have HC2 := hid x2; have HC3 := hid x3; have HC4 := hid x4
      clear x0 x1 x2 x3 x4
      skip
      by_cases hin : pb = false ∧ f.q ≤ x.q
      · obtain ⟨rfl, hle⟩ := hin
        have hle2 : ¬ x.q < f.q := by omega
        have hge1 : decide (f.q ≤ x.q) = true := by simp; omega
        have hq0 : V.cell? ⟨bl, ol + i * 5, none⟩ = some (.int .i64 x.q) := HC0.out
        go_upto_region 6 with fail
        go_quiet (fail)
        skip
        generalize hWq : World.drewN V _ = V2
        have kq : Hd (Keeps (fun _ => False) V V2) := hid (by rw [← hWq]; exact Keeps.drewN (Keeps.refl _ _) _)
        clear hWq
        have HX' := hid (HX.out.trans kq.out); have HBF' := hid (blk_keep HBF.out kq.out (fun h => h)); have HSV' := hid (HSV.out.keep kq.out (fun _ _ _ h => h)); have HFP' := hid (HFP.out.keep kq.out (fun _ _ _ h => h)); have HSX' := hid (HSX.out.keep kq.out (fun _ _ _ h => h))
        have HC0' := hid (keep_cell kq.out (fun h => h) HC0.out)
        have HC1' := hid (keep_cell kq.out (fun h => h) HC1.out)
        have HC2' := hid (keep_cell kq.out (fun h => h) HC2.out)
        have HC3' := hid (keep_cell kq.out (fun h => h) HC3.out)
        have HC4' := hid (keep_cell kq.out (fun h => h) HC4.out)
        clear HX HBF HSV HFP HSX HC0 HC1 HC2 HC3 HC4 hf0 hq0 kq
        have HX := HX'; have HBF := HBF'; have HSV := HSV'; have HFP := HFP'; have HSX := HSX'; have HC0 := HC0'; have HC1 := HC1'; have HC2 := HC2'; have HC3 := HC3'; have HC4 := HC4'
        clear HX' HBF' HSV' HFP' HSX' HC0' HC1' HC2' HC3' HC4'
        have hf0 : V2.cell? ⟨w.heap.size, 0, none⟩ = some (.int .i64 f.q) := blk_cell HBF.out 0
        have hq0 : V2.cell? ⟨bl, ol + i * 5, none⟩ = some (.int .i64 x.q) := HC0.out
        have z_V2 := HX.out.size
        by_cases hgt : f.q < x.q
        · go_upto_region 7 with fail
          go_quiet (fail)
          skip
          generalize hWq : World.drewN V2 _ = V3
          have kq : Hd (Keeps (fun _ => False) V2 V3) := hid (by rw [← hWq]; exact Keeps.drewN (Keeps.refl _ _) _)
          clear hWq
          have HX' := hid (HX.out.trans kq.out); have HBF' := hid (blk_keep HBF.out kq.out (fun h => h)); have HSV' := hid (HSV.out.keep kq.out (fun _ _ _ h => h)); have HFP' := hid (HFP.out.keep kq.out (fun _ _ _ h => h)); have HSX' := hid (HSX.out.keep kq.out (fun _ _ _ h => h))
          have HC0' := hid (keep_cell kq.out (fun h => h) HC0.out)
          have HC1' := hid (keep_cell kq.out (fun h => h) HC1.out)
          have HC2' := hid (keep_cell kq.out (fun h => h) HC2.out)
          have HC3' := hid (keep_cell kq.out (fun h => h) HC3.out)
          have HC4' := hid (keep_cell kq.out (fun h => h) HC4.out)
          clear HX HBF HSV HFP HSX HC0 HC1 HC2 HC3 HC4 hf0 hq0 kq
          have HX := HX'; have HBF := HBF'; have HSV := HSV'; have HFP := HFP'; have HSX := HSX'; have HC0 := HC0'; have HC1 := HC1'; have HC2 := HC2'; have HC3 := HC3'; have HC4 := HC4'
          clear HX' HBF' HSV' HFP' HSX' HC0' HC1' HC2' HC3' HC4'
          have hf0 : V3.cell? ⟨w.heap.size, 0, none⟩ = some (.int .i64 f.q) := blk_cell HBF.out 0
          have hq0 : V3.cell? ⟨bl, ol + i * 5, none⟩ = some (.int .i64 x.q) := HC0.out
          have z_V3 := HX.out.size
          have HNX2 : Hd (putAt f l (i + 1) = (po ++ [f] ++ [x], true)) := hid (by rw [HNX.out]; unfold putS; rw [if_pos ⟨rfl, hle⟩, if_pos hgt])
          have g1 : V3.cell? ⟨w.heap.size, 1, none⟩ = some (.int .i64 f.k) := blk_cell HBF.out 1
          have g2 : V3.cell? ⟨w.heap.size, 2, none⟩ = some (.bool f.u) := blk_cell HBF.out 2
          have g3 : V3.cell? ⟨w.heap.size, 3, none⟩ = some (.slice a m c) := blk_cell HBF.out 3
          have g4 : V3.cell? ⟨w.heap.size, 4, none⟩ = some (.int .u64 (f.t : Int)) := blk_cell HBF.out 4
          obtain ⟨xs, hO, hge, hC⟩ := HFP.out
          have HOX := hid hO; have HGE := hid hge; have HCX := hid hC
          clear hO hge hC
          rw [HPN.out] at HOX
          have ka : Keeps (fun _ => False) V3 (V3.alloc (.cells #[(.int .i64 f.q), (.int .i64 f.k), (.bool f.u), (.slice a m c), (.int .u64 (f.t : Int))] 25)) := keeps_alloc _ _ _
          go_wp2_with (at_builtin; refine wpList_append_row rfl _ _ 31 rfl 25 i0 zz 5 56 Tryd.underlying31 hi hz0 hz1 hz2 hz3 (by decide) _ (fun _ => True) _ _ _ _ rfl (HOX.out.alloc _) 1 _ rfl (src_blkR (blk_new _ _ 25) 1 5 rfl (by decide)) (by intro u hu; simp at hu; rcases hu with rfl | rfl | rfl | rfl | rfl <;> rfl) ?h1 ?h2 ?_)
          case h1 => simp [maxLen]; omega
          case h2 => omega
          intro ua uc uw hown hgrow; try intro _
          have uP : Hd (FrP (fun b => K b ∧ b < w.heap.size) W1.heap.size uw (.slice ua (M + 1) uc) (po ++ [f])) := hid (by
            have hs : FrL (fun b => (K b ∧ b < w.heap.size) ∧ (Value.slice a1 M c1).ownBlock ≠ some b) (V3.alloc (.cells #[(.int .i64 f.q), (.int .i64 f.k), (.bool f.u), (.slice a m c), (.int .u64 (f.t : Int))] 25)) [(.int .i64 f.q), (.int .i64 f.k), (.bool f.u), (.slice a m c), (.int .u64 (f.t : Int))] [f] := by
              have h := FrL.one (x := f) (a := a) (c := c) (K := (fun b => (K b ∧ b < w.heap.size) ∧ (Value.slice a1 M c1).ownBlock ≠ some b)) (w := _) (by rw [HM.out]; exact (HSV.out.keep ka (fun _ _ _ h => h)).mono (fun b _ h => ⟨h, fun e => by have := HGE.out b e; have := h.2; omega⟩))
              rw [HM.out] at h
              exact h
            have h := frp_append (KD := (fun b => K b ∧ b < w.heap.size)) (v := .slice a1 M c1) (v7 := .slice ua (M + 1) uc) HGE.out HCX.out ka hs (by simp; omega) (by rw [HPN.out]; first | exact hown | (simp only [List.length_singleton]; exact hown) | simpa using hown) (by first | exact hgrow | exact hgrow.mono (fun _ _ h => h))
            exact h)
          have uK : Hd (Keeps (fun _ => False) W1 uw) := hid (HX.out.trans' (ka.mono (T := fun b => (Value.slice a1 M c1).ownBlock = some b) (fun _ _ h => h.elim)|>.trans hgrow) (fun b hb h => by have := HGE.out b h; omega))
          have uV : Hd (Keeps (fun b => (Value.slice a1 M c1).ownBlock = some b) V3 uw) := hid ((ka.mono (fun _ _ h => h.elim)).trans hgrow)
          have hgeo := HGE.out
          clear hown hgrow HOX HGE HCX ka
          clear hf0 hq0 g1 g2 g3 g4
          have hblo : ¬ (Value.slice a1 M c1).ownBlock = some bl := fun e => by have := hgeo bl e; omega
          have HPN2 : Hd ((po ++ [f]).length = M + 1) := hid (by rw [List.length_append, HPN.out]; rfl)
          have hkV : Keeps (fun _ => False) W1 uw := uK.out
          have HXW := hid (HX.out)
          have zu := uK.out.size
          have e0 : uw.cell? ⟨bl, ol + i * 5, none⟩ = some (.int .i64 x.q) := keep_cell uV.out hblo HC0.out
          have e1 : uw.cell? ⟨bl, ol + i * 5 + 1, none⟩ = some (.int .i64 x.k) := keep_cell uV.out hblo HC1.out
          have e2 : uw.cell? ⟨bl, ol + i * 5 + 2, none⟩ = some (.bool x.u) := keep_cell uV.out hblo HC2.out
          have e3 : uw.cell? ⟨bl, ol + i * 5 + 3, none⟩ = some (.slice ad xm cd) := keep_cell uV.out hblo HC3.out
          have e4 : uw.cell? ⟨bl, ol + i * 5 + 4, none⟩ = some (.int .u64 (x.t : Int)) := keep_cell uV.out hblo HC4.out
          have HSXu := hid (HSX.out.keep uV.out (fun b _ h e => by have := hgeo b e; have := h.2; omega))
          obtain ⟨xs, hO, hge, hC⟩ := uP.out
          have HOX := hid hO; have HGE := hid hge; have HCX := hid hC
          clear hO hge hC
          rw [HPN2.out] at HOX
          have ka : Keeps (fun _ => False) uw (uw.alloc (.cells #[(.int .i64 x.q), (.int .i64 x.k), (.bool x.u), (.slice ad xm cd), (.int .u64 (x.t : Int))] 25)) := keeps_alloc _ _ _
          go_wp2_with (at_builtin; refine wpList_append_row rfl _ _ 31 rfl 25 i0 zz 5 56 Tryd.underlying31 hi hz0 hz1 hz2 hz3 (by decide) _ (fun _ => True) _ _ _ _ rfl (HOX.out.alloc _) 1 _ rfl (src_blkR (blk_new _ _ 25) 1 5 rfl (by decide)) (by intro u hu; simp at hu; rcases hu with rfl | rfl | rfl | rfl | rfl <;> rfl) ?h1 ?h2 ?_)
          case h1 => simp [maxLen]; omega
          case h2 => omega
          intro ya yc yw hown hgrow; try intro _
          have yP : Hd (FrP (fun b => K b ∧ b < w.heap.size) W1.heap.size yw (.slice ya ((M + 1) + 1) yc) ((po ++ [f]) ++ [x])) := hid (by
            have hs : FrL (fun b => (K b ∧ b < w.heap.size) ∧ (Value.slice ua (M + 1) uc).ownBlock ≠ some b) (uw.alloc (.cells #[(.int .i64 x.q), (.int .i64 x.k), (.bool x.u), (.slice ad xm cd), (.int .u64 (x.t : Int))] 25)) [(.int .i64 x.q), (.int .i64 x.k), (.bool x.u), (.slice ad xm cd), (.int .u64 (x.t : Int))] [x] := by
              have h := FrL.one (x := x) (a := ad) (c := cd) (K := (fun b => (K b ∧ b < w.heap.size) ∧ (Value.slice ua (M + 1) uc).ownBlock ≠ some b)) (w := _) (by rw [HXM.out]; exact (HSXu.out.keep ka (fun _ _ _ h => h)).mono (fun b _ h => ⟨h, fun e => by have := HGE.out b e; have := h.2; omega⟩))
              rw [HXM.out] at h
              exact h
            have h := frp_append (KD := (fun b => K b ∧ b < w.heap.size)) (v := .slice ua (M + 1) uc) (v7 := .slice ya ((M + 1) + 1) yc) HGE.out HCX.out ka hs (by simp; omega) (by rw [HPN2.out]; first | exact hown | (simp only [List.length_singleton]; exact hown) | simpa using hown) (by first | exact hgrow | exact hgrow.mono (fun _ _ h => h))
            exact h)
          have yK : Hd (Keeps (fun _ => False) W1 yw) := hid (uK.out.trans' (ka.mono (T := fun b => (Value.slice ua (M + 1) uc).ownBlock = some b) (fun _ _ h => h.elim)|>.trans hgrow) (fun b hb h => by have := HGE.out b h; omega))
          have yV : Hd (Keeps (fun b => (Value.slice ua (M + 1) uc).ownBlock = some b) uw yw) := hid ((ka.mono (fun _ _ h => h.elim)).trans hgrow)
          have hgeo := HGE.out
          clear hown hgrow HOX HGE HCX ka
          go_wp2
          go_roundw
          case rel => exact ⟨i + 1, M + 1 + 1, ya, yc, (po ++ [f] ++ [x], true), by first | rfl | go_num, rfl, by go_num, by omega, by omega, HNX2, hid (by simp only [List.length_append, HPN.out, List.length_singleton]), yP, yK⟩
          case measure => simp [intOf]; omega
        · go_upto_region 7 with fail
          go_quiet (fail)
          skip
          generalize hWq : World.drewN V2 _ = V3
          have kq : Hd (Keeps (fun _ => False) V2 V3) := hid (by rw [← hWq]; exact Keeps.drewN (Keeps.refl _ _) _)
          clear hWq
          have HX' := hid (HX.out.trans kq.out); have HBF' := hid (blk_keep HBF.out kq.out (fun h => h)); have HSV' := hid (HSV.out.keep kq.out (fun _ _ _ h => h)); have HFP' := hid (HFP.out.keep kq.out (fun _ _ _ h => h)); have HSX' := hid (HSX.out.keep kq.out (fun _ _ _ h => h))
          have HC0' := hid (keep_cell kq.out (fun h => h) HC0.out)
          have HC1' := hid (keep_cell kq.out (fun h => h) HC1.out)
          have HC2' := hid (keep_cell kq.out (fun h => h) HC2.out)
          have HC3' := hid (keep_cell kq.out (fun h => h) HC3.out)
          have HC4' := hid (keep_cell kq.out (fun h => h) HC4.out)
          clear HX HBF HSV HFP HSX HC0 HC1 HC2 HC3 HC4 hf0 hq0 kq
          have HX := HX'; have HBF := HBF'; have HSV := HSV'; have HFP := HFP'; have HSX := HSX'; have HC0 := HC0'; have HC1 := HC1'; have HC2 := HC2'; have HC3 := HC3'; have HC4 := HC4'
          clear HX' HBF' HSV' HFP' HSX' HC0' HC1' HC2' HC3' HC4'
          have hf0 : V3.cell? ⟨w.heap.size, 0, none⟩ = some (.int .i64 f.q) := blk_cell HBF.out 0
          have hq0 : V3.cell? ⟨bl, ol + i * 5, none⟩ = some (.int .i64 x.q) := HC0.out
          have z_V3 := HX.out.size
          have hq3 : x.q = f.q := by omega
          have HNX2 : Hd (putAt f l (i + 1) = (po ++ [x], true)) := hid (by rw [HNX.out]; unfold putS; rw [if_pos ⟨rfl, hle⟩, if_neg hgt])
          clear hq3
          have e0 : V3.cell? ⟨bl, ol + i * 5, none⟩ = some (.int .i64 x.q) := HC0.out
          have e1 : V3.cell? ⟨bl, ol + i * 5 + 1, none⟩ = some (.int .i64 x.k) := HC1.out
          have e2 : V3.cell? ⟨bl, ol + i * 5 + 2, none⟩ = some (.bool x.u) := HC2.out
          have e3 : V3.cell? ⟨bl, ol + i * 5 + 3, none⟩ = some (.slice ad xm cd) := HC3.out
          have e4 : V3.cell? ⟨bl, ol + i * 5 + 4, none⟩ = some (.int .u64 (x.t : Int)) := HC4.out
          obtain ⟨xs, hO, hge, hC⟩ := HFP.out
          have HOX := hid hO; have HGE := hid hge; have HCX := hid hC
          clear hO hge hC
          rw [HPN.out] at HOX
          have ka : Keeps (fun _ => False) V3 (V3.alloc (.cells #[(.int .i64 x.q), (.int .i64 x.k), (.bool x.u), (.slice ad xm cd), (.int .u64 (x.t : Int))] 25)) := keeps_alloc _ _ _
          go_wp2_with (at_builtin; refine wpList_append_row rfl _ _ 31 rfl 25 i0 zz 5 56 Tryd.underlying31 hi hz0 hz1 hz2 hz3 (by decide) _ (fun _ => True) _ _ _ _ rfl (HOX.out.alloc _) 1 _ rfl (src_blkR (blk_new _ _ 25) 1 5 rfl (by decide)) (by intro u hu; simp at hu; rcases hu with rfl | rfl | rfl | rfl | rfl <;> rfl) ?h1 ?h2 ?_)
          case h1 => simp [maxLen]; omega
          case h2 => omega
          intro ya yc yw hown hgrow; try intro _
          have yP : Hd (FrP (fun b => K b ∧ b < w.heap.size) W1.heap.size yw (.slice ya (M + 1) yc) (po ++ [x])) := hid (by
            have hs : FrL (fun b => (K b ∧ b < w.heap.size) ∧ (Value.slice a1 M c1).ownBlock ≠ some b) (V3.alloc (.cells #[(.int .i64 x.q), (.int .i64 x.k), (.bool x.u), (.slice ad xm cd), (.int .u64 (x.t : Int))] 25)) [(.int .i64 x.q), (.int .i64 x.k), (.bool x.u), (.slice ad xm cd), (.int .u64 (x.t : Int))] [x] := by
              have h := FrL.one (x := x) (a := ad) (c := cd) (K := (fun b => (K b ∧ b < w.heap.size) ∧ (Value.slice a1 M c1).ownBlock ≠ some b)) (w := _) (by rw [HXM.out]; exact (HSX.out.keep ka (fun _ _ _ h => h)).mono (fun b _ h => ⟨h, fun e => by have := HGE.out b e; have := h.2; omega⟩))
              rw [HXM.out] at h
              exact h
            have h := frp_append (KD := (fun b => K b ∧ b < w.heap.size)) (v := .slice a1 M c1) (v7 := .slice ya (M + 1) yc) HGE.out HCX.out ka hs (by simp; omega) (by rw [HPN.out]; first | exact hown | (simp only [List.length_singleton]; exact hown) | simpa using hown) (by first | exact hgrow | exact hgrow.mono (fun _ _ h => h))
            exact h)
          have yK : Hd (Keeps (fun _ => False) W1 yw) := hid (HX.out.trans' (ka.mono (T := fun b => (Value.slice a1 M c1).ownBlock = some b) (fun _ _ h => h.elim)|>.trans hgrow) (fun b hb h => by have := HGE.out b h; omega))
          have yV : Hd (Keeps (fun b => (Value.slice a1 M c1).ownBlock = some b) V3 yw) := hid ((ka.mono (fun _ _ h => h.elim)).trans hgrow)
          have hgeo := HGE.out
          clear hown hgrow HOX HGE HCX ka
          go_wp2
          go_roundw
          case rel => exact ⟨i + 1, M + 1, ya, yc, (po ++ [x], true), by first | rfl | go_num, rfl, by go_num, by omega, by omega, HNX2, hid (by simp only [List.length_append, HPN.out, List.length_singleton]), yP, yK⟩
          case measure => simp [intOf]; omega
      · have HNX2 : Hd (putAt f l (i + 1) = (po ++ [x], pb)) := hid (by rw [HNX.out]; unfold putS; rw [if_neg hin])
        have hq0 : V.cell? ⟨bl, ol + i * 5, none⟩ = some (.int .i64 x.q) := HC0.out
        cases pb
        · have hlt3 : x.q < f.q := by have : ¬ f.q ≤ x.q := fun h => hin ⟨rfl, h⟩; omega
          have hge0 : decide (f.q ≤ x.q) = false := by simp; omega
          have hge2 : ¬ f.q ≤ x.q := by omega
          clear hin
          go_upto_region 6 with fail
          go_quiet (fail)
          skip
          generalize hWq : World.drewN V _ = V2
          have kq : Hd (Keeps (fun _ => False) V V2) := hid (by rw [← hWq]; exact Keeps.drewN (Keeps.refl _ _) _)
          clear hWq
          have HX' := hid (HX.out.trans kq.out); have HBF' := hid (blk_keep HBF.out kq.out (fun h => h)); have HSV' := hid (HSV.out.keep kq.out (fun _ _ _ h => h)); have HFP' := hid (HFP.out.keep kq.out (fun _ _ _ h => h)); have HSX' := hid (HSX.out.keep kq.out (fun _ _ _ h => h))
          have HC0' := hid (keep_cell kq.out (fun h => h) HC0.out)
          have HC1' := hid (keep_cell kq.out (fun h => h) HC1.out)
          have HC2' := hid (keep_cell kq.out (fun h => h) HC2.out)
          have HC3' := hid (keep_cell kq.out (fun h => h) HC3.out)
          have HC4' := hid (keep_cell kq.out (fun h => h) HC4.out)
          clear HX HBF HSV HFP HSX HC0 HC1 HC2 HC3 HC4 hf0 hq0 kq
          have HX := HX'; have HBF := HBF'; have HSV := HSV'; have HFP := HFP'; have HSX := HSX'; have HC0 := HC0'; have HC1 := HC1'; have HC2 := HC2'; have HC3 := HC3'; have HC4 := HC4'
          clear HX' HBF' HSV' HFP' HSX' HC0' HC1' HC2' HC3' HC4'
          have hf0 : V2.cell? ⟨w.heap.size, 0, none⟩ = some (.int .i64 f.q) := blk_cell HBF.out 0
          have hq0 : V2.cell? ⟨bl, ol + i * 5, none⟩ = some (.int .i64 x.q) := HC0.out
          have z_V2 := HX.out.size
          have e0 : V2.cell? ⟨bl, ol + i * 5, none⟩ = some (.int .i64 x.q) := HC0.out
          have e1 : V2.cell? ⟨bl, ol + i * 5 + 1, none⟩ = some (.int .i64 x.k) := HC1.out
          have e2 : V2.cell? ⟨bl, ol + i * 5 + 2, none⟩ = some (.bool x.u) := HC2.out
          have e3 : V2.cell? ⟨bl, ol + i * 5 + 3, none⟩ = some (.slice ad xm cd) := HC3.out
          have e4 : V2.cell? ⟨bl, ol + i * 5 + 4, none⟩ = some (.int .u64 (x.t : Int)) := HC4.out
          obtain ⟨xs, hO, hge, hC⟩ := HFP.out
          have HOX := hid hO; have HGE := hid hge; have HCX := hid hC
          clear hO hge hC
          rw [HPN.out] at HOX
          have ka : Keeps (fun _ => False) V2 (V2.alloc (.cells #[(.int .i64 x.q), (.int .i64 x.k), (.bool x.u), (.slice ad xm cd), (.int .u64 (x.t : Int))] 25)) := keeps_alloc _ _ _
          go_wp2_with (at_builtin; refine wpList_append_row rfl _ _ 31 rfl 25 i0 zz 5 56 Tryd.underlying31 hi hz0 hz1 hz2 hz3 (by decide) _ (fun _ => True) _ _ _ _ rfl (HOX.out.alloc _) 1 _ rfl (src_blkR (blk_new _ _ 25) 1 5 rfl (by decide)) (by intro u hu; simp at hu; rcases hu with rfl | rfl | rfl | rfl | rfl <;> rfl) ?h1 ?h2 ?_)
          case h1 => simp [maxLen]; omega
          case h2 => omega
          intro ya yc yw hown hgrow; try intro _
          have yP : Hd (FrP (fun b => K b ∧ b < w.heap.size) W1.heap.size yw (.slice ya (M + 1) yc) (po ++ [x])) := hid (by
            have hs : FrL (fun b => (K b ∧ b < w.heap.size) ∧ (Value.slice a1 M c1).ownBlock ≠ some b) (V2.alloc (.cells #[(.int .i64 x.q), (.int .i64 x.k), (.bool x.u), (.slice ad xm cd), (.int .u64 (x.t : Int))] 25)) [(.int .i64 x.q), (.int .i64 x.k), (.bool x.u), (.slice ad xm cd), (.int .u64 (x.t : Int))] [x] := by
              have h := FrL.one (x := x) (a := ad) (c := cd) (K := (fun b => (K b ∧ b < w.heap.size) ∧ (Value.slice a1 M c1).ownBlock ≠ some b)) (w := _) (by rw [HXM.out]; exact (HSX.out.keep ka (fun _ _ _ h => h)).mono (fun b _ h => ⟨h, fun e => by have := HGE.out b e; have := h.2; omega⟩))
              rw [HXM.out] at h
              exact h
            have h := frp_append (KD := (fun b => K b ∧ b < w.heap.size)) (v := .slice a1 M c1) (v7 := .slice ya (M + 1) yc) HGE.out HCX.out ka hs (by simp; omega) (by rw [HPN.out]; first | exact hown | (simp only [List.length_singleton]; exact hown) | simpa using hown) (by first | exact hgrow | exact hgrow.mono (fun _ _ h => h))
            exact h)
          have yK : Hd (Keeps (fun _ => False) W1 yw) := hid (HX.out.trans' (ka.mono (T := fun b => (Value.slice a1 M c1).ownBlock = some b) (fun _ _ h => h.elim)|>.trans hgrow) (fun b hb h => by have := HGE.out b h; omega))
          have yV : Hd (Keeps (fun b => (Value.slice a1 M c1).ownBlock = some b) V2 yw) := hid ((ka.mono (fun _ _ h => h.elim)).trans hgrow)
          have hgeo := HGE.out
          clear hown hgrow HOX HGE HCX ka
          go_wp2
          go_roundw
          case rel => exact ⟨i + 1, M + 1, ya, yc, (po ++ [x], false), by first | rfl | go_num, rfl, by go_num, by omega, by omega, HNX2, hid (by simp only [List.length_append, HPN.out, List.length_singleton]), yP, yK⟩
          case measure => simp [intOf]; omega
        · clear hin
          go_upto_region 6 with fail
          go_quiet (fail)
          skip
          generalize hWq : World.drewN V _ = V2
          have kq : Hd (Keeps (fun _ => False) V V2) := hid (by rw [← hWq]; exact Keeps.drewN (Keeps.refl _ _) _)
          clear hWq
          have HX' := hid (HX.out.trans kq.out); have HBF' := hid (blk_keep HBF.out kq.out (fun h => h)); have HSV' := hid (HSV.out.keep kq.out (fun _ _ _ h => h)); have HFP' := hid (HFP.out.keep kq.out (fun _ _ _ h => h)); have HSX' := hid (HSX.out.keep kq.out (fun _ _ _ h => h))
          have HC0' := hid (keep_cell kq.out (fun h => h) HC0.out)
          have HC1' := hid (keep_cell kq.out (fun h => h) HC1.out)
          have HC2' := hid (keep_cell kq.out (fun h => h) HC2.out)
          have HC3' := hid (keep_cell kq.out (fun h => h) HC3.out)
          have HC4' := hid (keep_cell kq.out (fun h => h) HC4.out)
          clear HX HBF HSV HFP HSX HC0 HC1 HC2 HC3 HC4 hf0 hq0 kq
          have HX := HX'; have HBF := HBF'; have HSV := HSV'; have HFP := HFP'; have HSX := HSX'; have HC0 := HC0'; have HC1 := HC1'; have HC2 := HC2'; have HC3 := HC3'; have HC4 := HC4'
          clear HX' HBF' HSV' HFP' HSX' HC0' HC1' HC2' HC3' HC4'
          have hf0 : V2.cell? ⟨w.heap.size, 0, none⟩ = some (.int .i64 f.q) := blk_cell HBF.out 0
          have hq0 : V2.cell? ⟨bl, ol + i * 5, none⟩ = some (.int .i64 x.q) := HC0.out
          have z_V2 := HX.out.size
          have e0 : V2.cell? ⟨bl, ol + i * 5, none⟩ = some (.int .i64 x.q) := HC0.out
          have e1 : V2.cell? ⟨bl, ol + i * 5 + 1, none⟩ = some (.int .i64 x.k) := HC1.out
          have e2 : V2.cell? ⟨bl, ol + i * 5 + 2, none⟩ = some (.bool x.u) := HC2.out
          have e3 : V2.cell? ⟨bl, ol + i * 5 + 3, none⟩ = some (.slice ad xm cd) := HC3.out
          have e4 : V2.cell? ⟨bl, ol + i * 5 + 4, none⟩ = some (.int .u64 (x.t : Int)) := HC4.out
          obtain ⟨xs, hO, hge, hC⟩ := HFP.out
          have HOX := hid hO; have HGE := hid hge; have HCX := hid hC
          clear hO hge hC
          rw [HPN.out] at HOX
          have ka : Keeps (fun _ => False) V2 (V2.alloc (.cells #[(.int .i64 x.q), (.int .i64 x.k), (.bool x.u), (.slice ad xm cd), (.int .u64 (x.t : Int))] 25)) := keeps_alloc _ _ _
          go_wp2_with (at_builtin; refine wpList_append_row rfl _ _ 31 rfl 25 i0 zz 5 56 Tryd.underlying31 hi hz0 hz1 hz2 hz3 (by decide) _ (fun _ => True) _ _ _ _ rfl (HOX.out.alloc _) 1 _ rfl (src_blkR (blk_new _ _ 25) 1 5 rfl (by decide)) (by intro u hu; simp at hu; rcases hu with rfl | rfl | rfl | rfl | rfl <;> rfl) ?h1 ?h2 ?_)
          case h1 => simp [maxLen]; omega
          case h2 => omega
          intro ya yc yw hown hgrow; try intro _
          have yP : Hd (FrP (fun b => K b ∧ b < w.heap.size) W1.heap.size yw (.slice ya (M + 1) yc) (po ++ [x])) := hid (by
            have hs : FrL (fun b => (K b ∧ b < w.heap.size) ∧ (Value.slice a1 M c1).ownBlock ≠ some b) (V2.alloc (.cells #[(.int .i64 x.q), (.int .i64 x.k), (.bool x.u), (.slice ad xm cd), (.int .u64 (x.t : Int))] 25)) [(.int .i64 x.q), (.int .i64 x.k), (.bool x.u), (.slice ad xm cd), (.int .u64 (x.t : Int))] [x] := by
              have h := FrL.one (x := x) (a := ad) (c := cd) (K := (fun b => (K b ∧ b < w.heap.size) ∧ (Value.slice a1 M c1).ownBlock ≠ some b)) (w := _) (by rw [HXM.out]; exact (HSX.out.keep ka (fun _ _ _ h => h)).mono (fun b _ h => ⟨h, fun e => by have := HGE.out b e; have := h.2; omega⟩))
              rw [HXM.out] at h
              exact h
            have h := frp_append (KD := (fun b => K b ∧ b < w.heap.size)) (v := .slice a1 M c1) (v7 := .slice ya (M + 1) yc) HGE.out HCX.out ka hs (by simp; omega) (by rw [HPN.out]; first | exact hown | (simp only [List.length_singleton]; exact hown) | simpa using hown) (by first | exact hgrow | exact hgrow.mono (fun _ _ h => h))
            exact h)
          have yK : Hd (Keeps (fun _ => False) W1 yw) := hid (HX.out.trans' (ka.mono (T := fun b => (Value.slice a1 M c1).ownBlock = some b) (fun _ _ h => h.elim)|>.trans hgrow) (fun b hb h => by have := HGE.out b h; omega))
          have yV : Hd (Keeps (fun b => (Value.slice a1 M c1).ownBlock = some b) V2 yw) := hid ((ka.mono (fun _ _ h => h.elim)).trans hgrow)
          have hgeo := HGE.out
          clear hown hgrow HOX HGE HCX ka
          go_wp2
          go_roundw
          case rel => exact ⟨i + 1, M + 1, ya, yc, (po ++ [x], true), by first | rfl | go_num, rfl, by go_num, by omega, by omega, HNX2, hid (by simp only [List.length_append, HPN.out, List.length_singleton]), yP, yK⟩
          case measure => simp [intOf]; omega
    · have hin : i = n := by omega
      subst hin
      have q1 : ¬ (i : Int) < i := by omega
      have HPE : Hd ((if pb then po else po ++ [f]) = I) := hid (by have h := HPA.out; rw [HP.out] at h; exact h)
      cases pb
      · have HPE2 : Hd (po ++ [f] = I) := hid HPE.out
        have g1 : V.cell? ⟨w.heap.size, 1, none⟩ = some (.int .i64 f.k) := blk_cell HBF.out 1
        have g2 : V.cell? ⟨w.heap.size, 2, none⟩ = some (.bool f.u) := blk_cell HBF.out 2
        have g3 : V.cell? ⟨w.heap.size, 3, none⟩ = some (.slice a m c) := blk_cell HBF.out 3
        have g4 : V.cell? ⟨w.heap.size, 4, none⟩ = some (.int .u64 (f.t : Int)) := blk_cell HBF.out 4
        obtain ⟨xs, hO, hge, hC⟩ := HFP.out
        have HOX := hid hO; have HGE := hid hge; have HCX := hid hC
        clear hO hge hC
        rw [HPN.out] at HOX
        have ka : Keeps (fun _ => False) V (V.alloc (.cells #[(.int .i64 f.q), (.int .i64 f.k), (.bool f.u), (.slice a m c), (.int .u64 (f.t : Int))] 25)) := keeps_alloc _ _ _
        go_wp2_with (at_builtin; refine wpList_append_row rfl _ _ 31 rfl 25 i0 zz 5 56 Tryd.underlying31 hi hz0 hz1 hz2 hz3 (by decide) _ (fun _ => True) _ _ _ _ rfl (HOX.out.alloc _) 1 _ rfl (src_blkR (blk_new _ _ 25) 1 5 rfl (by decide)) (by intro u hu; simp at hu; rcases hu with rfl | rfl | rfl | rfl | rfl <;> rfl) ?h1 ?h2 ?_)
        case h1 => simp [maxLen]; omega
        case h2 => omega
        intro ua uc uw hown hgrow; try intro _
        have uP : Hd (FrP (fun b => K b ∧ b < w.heap.size) W1.heap.size uw (.slice ua (M + 1) uc) (po ++ [f])) := hid (by
          have hs : FrL (fun b => (K b ∧ b < w.heap.size) ∧ (Value.slice a1 M c1).ownBlock ≠ some b) (V.alloc (.cells #[(.int .i64 f.q), (.int .i64 f.k), (.bool f.u), (.slice a m c), (.int .u64 (f.t : Int))] 25)) [(.int .i64 f.q), (.int .i64 f.k), (.bool f.u), (.slice a m c), (.int .u64 (f.t : Int))] [f] := by
            have h := FrL.one (x := f) (a := a) (c := c) (K := (fun b => (K b ∧ b < w.heap.size) ∧ (Value.slice a1 M c1).ownBlock ≠ some b)) (w := _) (by rw [HM.out]; exact (HSV.out.keep ka (fun _ _ _ h => h)).mono (fun b _ h => ⟨h, fun e => by have := HGE.out b e; have := h.2; omega⟩))
            rw [HM.out] at h
            exact h
          have h := frp_append (KD := (fun b => K b ∧ b < w.heap.size)) (v := .slice a1 M c1) (v7 := .slice ua (M + 1) uc) HGE.out HCX.out ka hs (by simp; omega) (by rw [HPN.out]; first | exact hown | (simp only [List.length_singleton]; exact hown) | simpa using hown) (by first | exact hgrow | exact hgrow.mono (fun _ _ h => h))
          exact h)
        have uK : Hd (Keeps (fun _ => False) W1 uw) := hid (HX.out.trans' (ka.mono (T := fun b => (Value.slice a1 M c1).ownBlock = some b) (fun _ _ h => h.elim)|>.trans hgrow) (fun b hb h => by have := HGE.out b h; omega))
        have uV : Hd (Keeps (fun b => (Value.slice a1 M c1).ownBlock = some b) V uw) := hid ((ka.mono (fun _ _ h => h.elim)).trans hgrow)
        have hgeo := HGE.out
        clear hown hgrow HOX HGE HCX ka
        clear hf0 g1 g2 g3 g4
        go_wp2
        go_ret
        have hil : I.length = M + 1 := by rw [← HPE2.out, List.length_append, HPN.out]; rfl
        exact ⟨ua, uc, by rw [hil]; rfl, by rw [hil, ← HPE2.out]; exact uP.out.sgs.mono (fun b _ h => by rcases h with h | h; exact .inl h.1; (have := HK.out.size; exact .inr (by omega))), HK.out.trans uK.out⟩
      · have HPE2 : Hd (po = I) := hid HPE.out
        go_wp2
        go_ret
        have hil : I.length = M := by rw [← HPE2.out, HPN.out]
        exact ⟨a1, c1, by rw [hil]; rfl, by rw [hil, ← HPE2.out]; exact HFP.out.sgs.mono (fun b _ h => by rcases h with h | h; exact .inl h.1; (have := HK.out.size; exact .inr (by omega))), HK.out.trans HX.out⟩
end Go.Proofs.YthoikljmokkchaaDoor
