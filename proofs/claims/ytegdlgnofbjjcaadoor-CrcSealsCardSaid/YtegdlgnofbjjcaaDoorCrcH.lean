/- The matrices: zero. -/
import Derived.Test.YtegdlgnofbjjcaaDoorCrcG
namespace Go.Proofs.YtegdlgnofbjjcaaDoor
open Go.RowKit
attribute [local go_sem ↓] Go.wp_at_zero Go.wp_at_succ
/-- the first k entries of the matrix of n steps -/
def parA (n k : Nat) : Array Value := ((List.range 32).map (fun i => Value.int .u32 ((if i < k then steps n (2 ^ i) else 0 : Nat) : Int))).toArray
theorem par_size (n k : Nat) : (parA n k).size = 32 := by simp [parA]
theorem par_all (n : Nat) : parA n 32 = matV n := by
  unfold parA matV matN
  rw [List.map_map]
  refine congrArg List.toArray (List.map_congr_left fun i hi => ?_)
  have := List.mem_range.mp hi
  simp [this]
theorem par_set (n k : Nat) (hk : k < 32) : (parA n k).setIfInBounds k (.int .u32 (steps n (2 ^ k) : Nat)) = parA n (k + 1) := by
  apply Array.ext
  · simp [parA]
  · intro i h1 h2
    have hi : i < 32 := by simpa [parA] using h2
    rw [Array.getElem_setIfInBounds (by simpa using h1)]
    by_cases h : k = i
    · subst h; simp [parA]
    · simp only [parA, List.getElem_toArray, List.getElem_map, List.getElem_range, if_neg h]
      by_cases h3 : i < k
      · rw [if_pos h3, if_pos (by omega)]
      · rw [if_neg h3, if_neg (by omega)]
theorem keeps_setCells {S : Nat → Prop} (b : Nat) : ∀ (vs : List Value) (o : Nat) {w w' : World}, Keeps S w w' → S b ∨ w.heap.size ≤ b → Keeps S w (w'.setCells b o vs)
  | [], _, _, _, h, _ => h
  | v :: r, o, _, _, h, hb => keeps_setCells b r (o + 1) (h.setCell hb v) hb
theorem blk_range {w : World} {b : Nat} {cs : Array Value} {T : TypeId} (h : Blk w b cs T) : w.rangeAt b 0 cs.toList := fun j v hv => by
  rw [Nat.zero_add, blk_cell h j]; simpa using hv
theorem blk_there {w : World} {b : Nat} {cs : Array Value} {T : TypeId} (h : Blk w b cs T) : w.there b 0 cs.size := fun j hj => by
  rw [Nat.zero_add, blk_cell h j]; exact ⟨by simp [hj], blk_free h j⟩
theorem results_cell1 {P : Program} {fn : Func} {t : Tmp} {T : TypeId} (h : fn.results = #[.cell t T]) (tmps : Array Value) (w : World) (a : Addr) (v : Value) (ht : tmps.getD t undef = .pointer (some a))
    (hl : (loadVar T a).run P w = .ok v w) : (results fn tmps).run P w = .ok v w := by
  have ht' : tmps[t]?.getD undef = .pointer (some a) := by simpa using ht
  simp [results, h, ht', asAddr, hl]
set_option maxRecDepth 100000 in set_option maxHeartbeats 400000 in
theorem zero_any (w : World) (hN : Nib w) :
    Calls Tryd.prog 33 #[] w fun e w' => e = .returned (.agg (matV 8)) ∧ Keeps (fun _ => False) w w' := by
  have HN := hid hN
  clear hN
  go_enter Tryd.func33, Tryd.ntmps33
  go_wp2_with fail
  have hz : Hd (∃ w1 : World, w1 = (w.alloc (.cells (parA 8 0) 57)).alloc (.cells (parA 8 0) 57)) := hid ⟨_, rfl⟩
  have B0 : Hd (Blk ((w.alloc (.cells (parA 8 0) 57)).alloc (.cells (parA 8 0) 57)) w.heap.size (parA 8 0) 57) := hid (blk_alloc (blk_new w _ _) _)
  have B1 : Hd (Blk ((w.alloc (.cells (parA 8 0) 57)).alloc (.cells (parA 8 0) 57)) (w.heap.size + 1) (parA 8 0) 57) := hid (blk_new' _ _ _ _ (by simp))
  have HK : Hd (Keeps (fun _ => False) w ((w.alloc (.cells (parA 8 0) 57)).alloc (.cells (parA 8 0) 57))) := hid ((keeps_alloc _ _ _).trans (keeps_alloc _ _ _))
  change Code.wp _ _ _ _ ((w.alloc (.cells (parA 8 0) 57)).alloc (.cells (parA 8 0) 57))
  generalize (w.alloc (.cells (parA 8 0) 57)).alloc (.cells (parA 8 0) 57) = w1 at *
  generalize hb : w.heap.size = b at *
  have HB := hid hb
  clear hb hz
  go_loopw [2, 3] (fun i2 i wr => ∃ k : Nat, k ≤ 32 ∧ i = .int .i64 k ∧ Hd (Blk wr b (parA 8 0) 57) ∧ Hd (Blk wr (b + 1) (parA 8 k) 57) ∧ Hd (Keeps (fun _ => False) w wr)) (fun _ i _ => 32 - (intOf i).toNat)
  case atStart => exact ⟨0, by omega, rfl, B0, B1, HK⟩
  case round =>
    obtain ⟨k, hk, rfl, C0, C1, CK⟩ := hrel
    by_cases hlt : k < 32
    · have k1 : (k : Int) < 32 := by omega
      have k2 : (0 : Int) ≤ k := by omega
      have hp : (2 : Int) ^ k % 4294967296 = ((2 ^ k : Nat) : Int) := by
        have h1 : (2 : Nat) ^ k < 4294967296 := Nat.pow_lt_pow_right (n := 32) (by decide) hlt
        rw [show (2 : Int) ^ k = ((2 ^ k : Nat) : Int) by simp]
        exact Int.emod_eq_of_lt (Int.natCast_nonneg _) (Int.ofNat_lt.mpr h1)
      have HPL : Hd (2 ^ k < 4294967296) := hid (Nat.pow_lt_pow_right (n := 32) (by decide) hlt)
      have HN2 : Hd (Nib wr) := hid (HN.out.keep CK.out (fun h => h))
      have HS := hid (par_set 8 k hlt)
      have HF : Hd (steps 8 (2 ^ k) = feed (2 ^ k) 0) := hid (feed_zero _).symm
      have hc : wr.cell? ⟨b + 1, k, none⟩ = some (.int .u32 0) := (blk_cell C1.out k).trans (by simp [parA, hlt])
      have hf : wr.frozen? ⟨b + 1, k, none⟩ = false := blk_free C1.out k
      have HP := hid hp; clear hp
      go_wp2_with fail
      rw [HP.out]
      generalize 2 ^ k = p at *
      refine (feed_any p 0 _ HN2.out HPL.out (by omega)).mono ?_
      rintro e w2 ⟨rfl, rfl⟩
      go_wp2
      go_roundw
      case rel =>
        refine ⟨k + 1, by omega, by go_num, hid (blk_other C0.out (by omega) _ _), hid ?_, hid (CK.out.setCell (.inr (by show _ ≤ b + 1; rw [HB.out]; omega)) _)⟩
        have := blk_set C1.out k (.int .u32 (feed p 0 : Nat))
        rw [← HF.out, HS.out] at this
        rw [← HF.out]; exact this
      case measure => simp [intOf]; omega
    · have hk2 : k = 32 := by omega
      have C2 : Hd (Blk wr (b + 1) (matV 8) 57) := hid (by have := C1.out; rw [hk2, par_all] at this; exact this)
      clear hk2 C1
      have HR : Hd (wr.rangeAt (b + 1) 0 (matV 8).toList) := hid (blk_range C2.out)
      have HT : Hd (wr.there b 0 (matV 8).size) := hid (by have := blk_there C0.out; rw [par_size] at this; rw [mat_size]; exact this)
      have HQ : Hd ((wr.setCells b 0 (matV 8).toList).rangeAt b 0 (matV 8).toList) := hid (World.rangeAt_setCells_same wr b 0 _ (by have := HT.out; rw [Array.length_toList]; exact this))
      have HKF : Hd (Keeps (fun _ => False) w (wr.setCells b 0 (matV 8).toList)) := hid (keeps_setCells b _ 0 CK.out (.inr (Nat.le_of_eq HB.out)))
      have HI : Hd ((Tryd.prog.info? 57).map (·.size) = some (matV 8).toList.length) := hid (by rw [Array.length_toList, mat_size]; kernel_rfl)
      have H1 : Hd ((matV 8).all (·.oneCell') = true) := hid (by simp [matV, Value.oneCell'])
      have HLd := hid (run_loadVar_mid (P := Tryd.prog) (wr.setCells b 0 (matV 8).toList) b 0 57 _ _ HQ.out Tryd.underlying57 rfl HI.out)
      generalize hm : matV 8 = m at *
      have HMM := hid hm; clear hm
      go_wp2_with (refine wpList_load_mid rfl _ _ rfl _ _ rfl _ _ HR.out Tryd.underlying57 rfl HI.out ?_; refine wpList_store_mid rfl _ _ _ rfl _ _ m rfl (by simp [go_sem]) HT.out (by rw [← Array.length_toList]; exact HI.out) H1.out ?_)
      have hld := HLd.out
      have hal : m.toList.toArray = m := by simp
      rw [hal] at hld
      refine bodyPost_ret (v := .agg m) (results_cell1 Tryd.results33 _ _ ⟨b, 0, none⟩ _ rfl hld) rfl ⟨by rw [HMM.out], HKF.out⟩
end Go.Proofs.YtegdlgnofbjjcaaDoor
