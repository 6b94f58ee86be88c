/- The walks of Seal and Open. -/
import Derived.Test.YtgeicbjlichdgaaDoorCrcA
import Derived.Lib.SliceRun
import Derived.Lib.AppendZerosOnto
namespace Go.Proofs.YtgeicbjlichdgaaDoor.Cr
open Go.RowKit

theorem infoU8 : (Tryd.prog.info? 5).map (fun i => (i.zero, i.size, i.bytes)) = some (some (.int .u8 0), 1, 1) := by kernel_rfl
def NewRet (w : World) (e : TypeId) (xs : List Value) (r : Ending) (w' : World) : Prop := ∃ a n c, r = .returned (.slice a n c) ∧ n = xs.length ∧ Own (fun k => w.heap.size ≤ k) w' e 1 (.slice a n c) n xs ∧ Keeps (fun _ => False) w w'
/-- the first k bytes of a checksum -/
theorem le4_take (s k : Nat) (hk : k < 4) : (le4 s).take (k + 1) = (le4 s).take k ++ [s / 2 ^ (8 * k) % 256] := by
  match k, hk with
  | 0, _ => simp [le4]
  | 1, _ => simp [le4]
  | 2, _ => simp [le4]
  | 3, _ => simp [le4]
set_option maxRecDepth 100000 in set_option maxHeartbeats 1000000 in
theorem bytes_any (s : Nat) (w : World) (hs : s < 4294967296) :
    Calls Tryd.prog 66 #[.int .u32 s] w fun e w' => NewRet w 5 (u8s (le4 s)) e w' := by
  obtain ⟨i0, hi, hz0, hz1, hz2⟩ := info_parts infoU8
  have HS := hid hs; clear hs
  go_enter Tryd.func66, Tryd.ntmps66
  go_wp2_with fail
  go_loopw [3, 5] (fun o i wr => ∃ (k : Nat) (a : Option Addr) (m c : Nat), i = .int .i64 k ∧ o = .slice a m c ∧ k ≤ 4 ∧ Hd (m = k)
      ∧ Hd (Own (fun b => w.heap.size ≤ b) wr 5 1 (.slice a m c) m (u8s ((le4 s).take k))) ∧ Hd (Keeps (fun _ => False) w wr)) (fun _ i _ => 4 - (intOf i).toNat)
  case atStart => exact ⟨0, none, 0, 0, rfl, rfl, by omega, hid rfl, hid (Own.nil _ _ _ _), hid (Keeps.refl _ _)⟩
  case round =>
    obtain ⟨k, a, m, c, rfl, rfl, hk, hm, hown, hkeep⟩ := hrel
    have hsz := hkeep.out.size
    have hm4 : m ≤ 4 := by have := hm.out; omega
    by_cases hlt : k < 4
    · have hcast : ((s / 2 ^ (8 * k) % 256 : Nat) : Int) = (s : Int) / 2 ^ (8 * k) % 256 := by simp
      have HC := hid hcast; clear hcast
      go_wp2_with (at_builtin; refine wpList_append_row rfl _ _ 22 rfl 5 i0 (.int .u8 0) 1 1 Tryd.underlying22 hi hz0 hz1 hz2 rfl (by decide) _ (fun _ => True) _ _ _ _ rfl (hown.out.alloc _) 1 _ rfl (src_one _ _ trivial) (by intro u hu; simp at hu; subst hu; rfl) ?h1 ?h2 ?_)
      case h1 => simp [maxLen]; omega
      case h2 => omega
      intro a1 cap1 w1 hown' hgrow; try intro _
      have H5 := hid hown'
      have HK5 : Hd (Keeps (fun b => w.heap.size ≤ b) wr w1) := hid ((keeps_alloc _ wr _).trans hgrow)
      clear hown' hgrow
      go_wp2
      go_roundw
      case rel =>
        refine ⟨k + 1, a1, m + 1, cap1, by go_num, rfl, by omega, hid (by have := hm.out; omega), hid ?_, hid (hkeep.out.after HK5.out)⟩
        have := H5.out.mono (K' := fun b => w.heap.size ≤ b) (fun b _ hb => by rcases hb with hb | hb <;> omega)
        rw [le4_take s k hlt, u8s_append]
        rw [show u8s [s / 2 ^ (8 * k) % 256] = [Value.int .u8 ((s : Int) / 2 ^ (8 * k) % 256)] by rw [← HC.out]; rfl]
        exact this
      case measure => simp [intOf]; omega
    · have hk4 : k = 4 := by omega
      have HM : Hd (m = 4) := hid (by have := hm.out; omega)
      have HO : Hd (Own (fun b => w.heap.size ≤ b) wr 5 1 (.slice a m c) m (u8s (le4 s))) := hid (by have := hown.out; rw [hk4] at this; exact this)
      clear hk4 hown
      go_wp2
      go_ret
      exact ⟨a, m, c, rfl, by rw [HM.out]; rfl, HO.out, hkeep.out⟩
/-- Grow at the nil slice: room, in a block of the call's own -/
def GrowRet (n : Nat) (w : World) (r : Ending) (w' : World) : Prop := ∃ a c, r = .returned (.slice a 0 c) ∧ Own (fun k => w.heap.size ≤ k) w' 5 1 (.slice a 0 c) 0 [] ∧ Keeps (fun _ => False) w w' ∧ (n = 0 → a = none ∧ c = 0)
set_option maxRecDepth 100000 in set_option maxHeartbeats 1000000 in
theorem Grow_any (n : Nat) (w : World) (hn : n ≤ 1000000000) : Calls Tryd.prog 71 #[.slice none 0 0, .int .i64 n] w fun e w' => GrowRet n w e w' := by
  obtain ⟨i0, hi, hz0, hz1, hz2⟩ := info_parts infoU8
  by_cases h0 : n = 0
  · subst h0
    go_enter Tryd.func71, Tryd.ntmps71
    go_wp2
    go_ret
    exact ⟨none, 0, rfl, Own.nil _ _ _ _, Keeps.refl _ _, fun _ => ⟨rfl, rfl⟩⟩
  · have hold : (Builtin.firstCells i0.size 0 (.slice none 0 0)).run Tryd.prog w.drew = .ok (#[] : Array Value) w.drew := run_firstCells_none w.drew i0.size 0 0 0
    have hrz : ∀ ty, (Builtin.append_ #[22, 3] ty #[.slice none 0 0, .int .i64 (n : Int)]).run Tryd.prog w =
      .ok (.slice (some ⟨w.heap.size, 0, none⟩) (0 + n) (grownCap w (0 + n) 0 5)) (w.drew.alloc (.cells (([] : List Value).toArray ++ Builtin.zeroCells (Value.int .u8 0).cells n ++ Builtin.zeroCells (Value.int .u8 0).cells (grownCap w (0 + n) 0 5 - (0 + n))) 5)) := fun ty =>
      Lib.run_append_grow_zeros w 22 3 ty 5 i0 (.int .u8 0) .i64 .i64 Tryd.underlying22 Tryd.underlying3 hi hz0 none 0 0 [] hold n (by omega) (by rw [hz1]; omega) (by omega) (by omega) (by rw [hz2]; omega) (by rw [Nat.zero_add]; exact growslice_fits (by omega) (by rw [hz2]; omega))
    have hGn : 0 + n ≤ grownCap w (0 + n) 0 5 := grownCap_ge w _ _ _
    have hG63 := grownCap_le_maxLen w (0 + n) 0 5 (by unfold maxLen; omega)
    generalize grownCap w (0 + n) 0 5 = G at *
    unfold maxLen at hG63
    generalize hcs : (([] : List Value).toArray ++ Builtin.zeroCells (Value.int .u8 0).cells n ++ Builtin.zeroCells (Value.int .u8 0).cells (G - (0 + n))) = cs at *
    have HCS := hid hcs
    clear hcs hold
    have h1 : (0 : Int) < n := by omega
    go_enter Tryd.func71, Tryd.ntmps71
    go_wp2_with (at_builtin; refine Lib.wpList_append_run _ rfl _ _ _ _ rfl _ _ rfl rfl _ _ (hrz _) ?_)
    go_ret
    refine ⟨_, _, rfl, ⟨⟨rfl, .inr ⟨w.heap.size, G, cs, rfl, Nat.zero_le _, ?_, Nat.zero_le _, by unfold maxLen; omega, ?_, by simp⟩⟩, fun k hk => ?_⟩, ?_, fun h => absurd h h0⟩
    · exact (blk_new w cs 5)
    · rw [← HCS.out]; simp [size_zeroCells, Value.cells]; omega
    · simp [Value.ownBlock] at hk; omega
    · repeat (first | (with_reducible assumption) | (with_reducible exact Keeps.refl _ _) | (with_reducible apply Keeps.drewN) | (with_reducible apply Keeps.drew) | (with_reducible apply Keeps.alloc) | refine Keeps.setCell ?_ (by first | (simp; done) | (simp; omega)) _)
theorem Grow_z (z : Int) (w : World) (h0 : 0 ≤ z) (h1 : z ≤ 1000000000) : Calls Tryd.prog 71 #[.slice none 0 0, .int .i64 z] w fun e w' => GrowRet z.toNat w e w' := by
  obtain ⟨n, rfl⟩ := Int.eq_ofNat_of_zero_le h0
  exact Grow_any n w (by omega)
def cat2 (x y : List Nat) (k : Nat) : List Nat := if k = 0 then [] else if k = 1 then x else x ++ y
set_option maxRecDepth 100000 in set_option maxHeartbeats 1000000 in
theorem Concat_any (K : Nat → Prop) (b : Nat) (v0 v1 : Value) (x y : List Nat) (w : World) (hb0 : w.cell? ⟨b, 0, none⟩ = some v0) (hb1 : w.cell? ⟨b, 1, none⟩ = some v1) (hv0 : Sl K w v0 (u8s x)) (hv1 : Sl K w v1 (u8s y)) (hm : x.length + y.length ≤ 1000000000) :
    Calls Tryd.prog 65 #[.slice (some ⟨b, 0, none⟩) 2 2] w fun e w' => NewRet w 5 (u8s (x ++ y)) e w' := by
  obtain ⟨i0, hi, hz0, hz1, hz2⟩ := info_parts infoU8
  have HV0 : Hd (Sl (fun b => b < w.heap.size) w v0 (u8s x)) := hid (hv0.mono (fun b h _ => h))
  have HV1 : Hd (Sl (fun b => b < w.heap.size) w v1 (u8s y)) := hid (hv1.mono (fun b h _ => h))
  obtain ⟨a0, c0, rfl, g1, g2, g3⟩ := hv0.bytes
  obtain ⟨a1, c1, rfl, g4, g5, g6⟩ := hv1.bytes
  have hblt := cell_lt hb0
  clear g3 g6 hv0 hv1
  have HB0 := hid hb0; have HB1 := hid hb1
  generalize hx : x.length = n0 at *
  generalize hy : y.length = n1 at *
  have HXL := hid hx; have HYL := hid hy
  clear hx hy g1 g2 g4 g5
  go_enter Tryd.func65, Tryd.ntmps65
  go_wp2_with fail
  go_loop [3, 11] (fun s i => (s = .int .i64 0 ∧ i = .int .i64 0) ∨ (s = .int .i64 n0 ∧ i = .int .i64 1) ∨ (s = .int .i64 (n0 + n1) ∧ i = .int .i64 2)) (fun _ i => 2 - (intOf i).toNat)
  case atStart => exact .inl ⟨rfl, rfl⟩
  case round =>
    rcases hrel with ⟨rfl, rfl⟩ | ⟨rfl, rfl⟩ | ⟨rfl, rfl⟩
    · go_wp2
      go_round
      case rel => exact .inr (.inl ⟨by go_num, rfl⟩)
      case measure => simp [intOf]
    · go_wp2
      go_round
      case rel => exact .inr (.inr ⟨rfl, rfl⟩)
      case measure => simp [intOf]
    · go_wp2_with fail
      refine (Grow_z _ _ (by omega) (by omega)).mono ?_
      rintro e w1 ⟨ag, cg, rfl, ho, hk, _⟩
      have HO := hid ho; have HK := hid hk
      clear ho hk
      go_wp2_with fail
      go_loopw [6, 27] (fun v i wr => ∃ (k : Nat) (a : Option Addr) (m c : Nat), i = .int .i64 k ∧ v = .slice a m c ∧ k ≤ 2 ∧ Hd (m = (cat2 x y k).length) ∧ Hd (Own (fun b => w.heap.size ≤ b) wr 5 1 (.slice a m c) m (u8s (cat2 x y k))) ∧ Hd (Keeps (fun _ => False) w wr)) (fun _ i _ => 2 - (intOf i).toNat)
      case atStart => exact ⟨0, ag, 0, cg, rfl, rfl, by omega, hid rfl, HO, HK⟩
      case round =>
        clear HO HK
        obtain ⟨k, a, m, c, rfl, rfl, hk, hml, hown, hkeep⟩ := hrel
        have hz := hkeep.out.size
        have gb0 := keep_cell hkeep.out (fun h => h) HB0.out
        have gb1 := keep_cell hkeep.out (fun h => h) HB1.out
        have hm1 : m ≤ 1000000000 := by
          have h1 := hml.out; have h2 := HXL.out; have h3 := HYL.out
          unfold cat2 at h1
          split at h1
          · simp at h1; omega
          · split at h1
            · omega
            · rw [List.length_append] at h1; omega
        by_cases hk2 : k < 2
        · by_cases hk0 : k = 0
          · subst hk0
            have hm0 : m = 0 := hml.out
            subst hm0
            have HSR := hid (HV0.out.keep hkeep.out (fun _ _ _ h => h))
            go_wp2_with (at_builtin; refine wpList_append_row rfl _ _ 22 rfl 5 i0 (.int .u8 0) 1 1 Tryd.underlying22 hi hz0 hz1 hz2 rfl (by decide) _ (fun b => b < w.heap.size) _ _ _ _ rfl hown.out n0 _ rfl (sl_row HSR.out (by rw [u8s_length]; exact HXL.out)) (u8s_one _) ?h1 ?h2 ?_)
            case h1 => simp [maxLen]; omega
            case h2 => omega
            intro a1 cap1 w2 hown' hgrow; try intro _
            have H5 := hid hown'
            have HK5 := hid hgrow
            clear hown' hgrow HSR
            go_wp2
            go_roundw
            case rel =>
              refine ⟨1, a1, n0, cap1, by go_num, rfl, by omega, hid (by have := HXL.out; simp [cat2]; omega), hid ?_, hid (hkeep.out.after HK5.out)⟩
              have := H5.out.mono (K' := fun b => w.heap.size ≤ b) (fun b _ hb => by rcases hb with hb | hb <;> omega)
              simpa [cat2, u8s] using this
            case measure => simp [intOf]
          · obtain rfl : k = 1 := by omega
            have hm0 : m = n0 := by have := hml.out; have := HXL.out; simp [cat2] at *; omega
            subst hm0
            have HSR := hid (HV1.out.keep hkeep.out (fun _ _ _ h => h))
            go_wp2_with (at_builtin; refine wpList_append_row rfl _ _ 22 rfl 5 i0 (.int .u8 0) 1 1 Tryd.underlying22 hi hz0 hz1 hz2 rfl (by decide) _ (fun b => b < w.heap.size) _ _ _ _ rfl hown.out n1 _ rfl (sl_row HSR.out (by rw [u8s_length]; exact HYL.out)) (u8s_one _) ?h1 ?h2 ?_)
            case h1 => simp [maxLen]; omega
            case h2 => omega
            intro a1 cap1 w2 hown' hgrow; try intro _
            have H5 := hid hown'
            have HK5 := hid hgrow
            clear hown' hgrow HSR
            go_wp2
            go_roundw
            case rel =>
              refine ⟨2, a1, m + n1, cap1, by go_num, rfl, by omega, hid (by have := HXL.out; have := HYL.out; simp [cat2]; omega), hid ?_, hid (hkeep.out.after HK5.out)⟩
              have := H5.out.mono (K' := fun b => w.heap.size ≤ b) (fun b _ hb => by rcases hb with hb | hb <;> omega)
              simpa [cat2, u8s] using this
            case measure => simp [intOf]
        · obtain rfl : k = 2 := by omega
          go_wp2
          go_ret
          exact ⟨a, m, c, rfl, by have := hml.out; simpa [cat2] using this, by simpa [cat2] using hown.out, hkeep.out⟩
end Go.Proofs.YtgeicbjlichdgaaDoor.Cr
