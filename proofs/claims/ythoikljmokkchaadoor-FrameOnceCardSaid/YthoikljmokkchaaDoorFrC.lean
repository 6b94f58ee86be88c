/- Frame: Signed and Encode. -/
import Derived.Test.YthoikljmokkchaaDoorFrB
import Derived.Test.YthoikljmokkchaaDoorWireAll
import Derived.Test.YthoikljmokkchaaDoorCrcAll
namespace Go.Proofs.YthoikljmokkchaaDoor
open Go.RowKit
structure Fr where
  q : Int
  k : Int
  u : Bool
  b : List Nat
  t : Nat
structure Fr.ok (f : Fr) : Prop where
  q0 : -9223372036854775808 ≤ f.q
  q1 : f.q ≤ 9223372036854775807
  k0 : -9223372036854775808 ≤ f.k
  k1 : f.k ≤ 9223372036854775807
  b : ∀ c ∈ f.b, c < 256
  t : f.t < 18446744073709551616
  n : f.b.length ≤ 140737488351232
def modN (n : Int) : Nat := (n % 256).toNat
theorem modN_lt (n : Int) : modN n < 256 := by unfold modN; omega
theorem modN_cast (n : Int) : ((modN n : Nat) : Int) = n % 256 := by unfold modN; omega
def unl (u : Bool) : Nat := if u then 1 else 0
theorem unl_lt (u : Bool) : unl u ≤ 1 := by unfold unl; split <;> omega
def covL (f : Fr) : List Nat := Wi.enc (modN f.q) ++ Wi.encI f.k ++ Wi.enc (unl f.u) ++ Wi.encB f.b
theorem covL_lt {f : Fr} (h : f.ok) : ∀ c ∈ covL f, c < 256 := by
  intro c hc
  unfold covL Wi.encI Wi.encB at hc
  simp only [List.mem_append] at hc
  rcases hc with ((hc | hc) | hc) | hc | hc
  · exact Wi.enc_lt _ _ hc
  · exact Wi.enc_lt _ _ hc
  · exact Wi.enc_lt _ _ hc
  · exact Wi.enc_lt _ _ hc
  · exact h.b c hc
theorem cov3_len {f : Fr} (h : f.ok) : (Wi.enc (modN f.q) ++ Wi.encI f.k ++ Wi.enc (unl f.u)).length ≤ 30 := by
  have h1 := Wi.enc_len10 (n := modN f.q) (by have := modN_lt f.q; omega)
  have h2 := Wi.enc_len10 (n := Wi.zig f.k) (Wi.zig_le h.k0 h.k1)
  have h3 := Wi.enc_len10 (n := unl f.u) (by have := unl_lt f.u; omega)
  unfold Wi.encI
  simp only [List.length_append]; omega
theorem covL_len {f : Fr} (h : f.ok) : (covL f).length ≤ f.b.length + 40 := by
  have h1 := cov3_len h
  have h2 := Wi.enc_len10 (n := f.b.length) (by have := h.n; omega)
  unfold covL Wi.encB
  simp only [List.length_append] at h1 ⊢; omega
def encF (f : Fr) : List Nat := Cr.seal_ (covL f ++ Wi.enc f.t)
def frC (f : Fr) (a : Option Addr) (c : Nat) : List Value := [.int .i64 f.q, .int .i64 f.k, .bool f.u, .slice a f.b.length c, .int .u64 (f.t : Int)]
theorem reduced_any (n : Int) (w : World) (h0 : -9223372036854775808 ≤ n) (h1 : n ≤ 9223372036854775807) :
    Calls Tryd.prog 68 #[.int .i64 n] w fun e w' => e = .returned (.int .i64 (modN n : Nat)) ∧ w = w' := by
  obtain ⟨r, hr⟩ : ∃ r, Int.tmod n 256 = r := ⟨_, rfl⟩
  have hr1 : -256 < r ∧ r < 256 ∧ (r + 256) % 256 = n % 256 := by
    rw [← hr]
    have h := Int.tmod_add_mul_tdiv n 256
    rcases Int.lt_or_le n 0 with hn | hn
    · have h3 := Int.neg_tmod (a := -n) (b := 256)
      rw [Int.neg_neg, Int.tmod_eq_emod_of_nonneg (a := -n) (b := 256) (by omega)] at h3
      omega
    · rw [Int.tmod_eq_emod_of_nonneg hn]; omega
  obtain ⟨hr2, hr3, hr4⟩ := hr1
  have HM : Hd (((modN n : Nat) : Int) = (r + 256) % 256) := hid (by rw [modN_cast, hr4])
  have hw1 : IntKind.i64.wrap r = r := IntWalk.i64_in _ (by omega)
  have hw2 : IntKind.i64.wrap (r + 256) = r + 256 := IntWalk.i64_in _ (by omega)
  have hw3 : Int.tmod (r + 256) 256 = (r + 256) % 256 := Int.tmod_eq_emod_of_nonneg (by omega)
  obtain ⟨z, hz⟩ : ∃ z, (r + 256) % 256 = z := ⟨_, rfl⟩
  rw [hz] at HM hw3
  have hw4 : IntKind.i64.wrap z = z := IntWalk.i64_in _ (by omega)
  clear hr4 hz
  go_enter Tryd.func68, Tryd.ntmps68
  go_wp2
  go_ret
  exact ⟨by rw [HM.out]; first | rfl | (simp only [hr, hw1, hw2, hw3, hw4]; rfl), rfl⟩
theorem Mod_any (n : Int) (w : World) (h0 : -9223372036854775808 ≤ n) (h1 : n ≤ 9223372036854775807) :
    Calls Tryd.prog 55 #[.int .i64 n] w fun e w' => e = .returned (.int .i64 (modN n : Nat)) ∧ w = w' := by
  obtain ⟨r, hr⟩ : ∃ r, Int.tmod n 256 = r := ⟨_, rfl⟩
  have hr1 : -256 < r ∧ r < 256 ∧ (r + 256) % 256 = n % 256 := by
    rw [← hr]
    rcases Int.lt_or_le n 0 with hn | hn
    · have h3 := Int.neg_tmod (a := -n) (b := 256)
      rw [Int.neg_neg, Int.tmod_eq_emod_of_nonneg (a := -n) (b := 256) (by omega)] at h3
      omega
    · rw [Int.tmod_eq_emod_of_nonneg hn]; omega
  obtain ⟨hr2, hr3, hr4⟩ := hr1
  have hw1 : IntKind.i64.wrap r = r := IntWalk.i64_in _ (by omega)
  have hw2 : IntKind.i64.wrap (r + 256) = r + 256 := IntWalk.i64_in _ (by omega)
  by_cases hn : r < 0
  · have HM : Hd (((modN n : Nat) : Int) = r + 256) := hid (by rw [modN_cast]; omega)
    clear hr4
    go_enter Tryd.func55, Tryd.ntmps55
    go_wp2
    go_ret
    exact ⟨by rw [HM.out]; first | rfl | (simp only [hr, hw1, hw2]; rfl), rfl⟩
  · have HM : Hd (((modN n : Nat) : Int) = r) := hid (by rw [modN_cast]; omega)
    clear hr4
    go_enter Tryd.func55, Tryd.ntmps55
    go_wp2
    go_ret
    exact ⟨by rw [HM.out]; first | rfl | (simp only [hr, hw1, hw2]; rfl), rfl⟩
def NibR (w : World) : Prop := Cr.Nib w
theorem NibR.keep {S : Nat → Prop} {w w' : World} (h : NibR w) (hk : Keeps S w w') (h0 : ∀ b, b < w.heap.size → b = 0 → ¬ S b) : NibR w' := Cr.Nib.keep h hk (fun hs => h0 0 (cell_lt (h 0 (by omega))) rfl hs)
theorem NibR.pos {w : World} (h : NibR w) : 0 < w.heap.size := cell_lt (h 0 (by omega))
theorem bufx_post {p bf : Nat} {w w' : World} {xs ys : List Nat} (h0 : Wi.Buf (fun k => p < k ∧ k ≠ bf) w p ys) (hb : bf < w.heap.size) (h : Wi.BufPost (fun k => p < k ∧ k ≠ bf) w p xs w') : Wi.Buf (fun k => p < k ∧ k ≠ bf) w' p xs ∧ Keeps (fun k => (p < k ∧ k ≠ bf) ∨ k = p) w w' := by
  have hp := h0.choose_spec.2.2.2.2
  obtain ⟨⟨v, h1, h2, h3, h4, h5⟩, h6⟩ := h
  exact ⟨⟨v, h1, h2, h3.mono (fun b _ hb => by rcases hb with hb | hb; exact hb; exact ⟨by omega, by omega⟩), by omega, h5⟩, h6⟩
set_option maxRecDepth 100000 in set_option maxHeartbeats 1000000 in
theorem cover_any (p : Nat) (xs : List Nat) (f : Fr) (a : Option Addr) (c : Nat) (w : World) (hb : Wi.BufAt w p xs) (hxl : xs.length ≤ 20) (hf : f.ok) (hx : Sl (fun k => k < p) w (.slice a f.b.length c) (u8s f.b)) :
    Calls Tryd.prog 57 #[.pointer (some ⟨p, 0, none⟩), .agg #[.int .i64 f.q, .int .i64 f.k, .bool f.u, .slice a f.b.length c, .int .u64 (f.t : Int)]] w fun e w' => e = .returned (.tuple #[]) ∧ Wi.BufAt w' p (xs ++ covL f) ∧ Keeps (fun k => p ≤ k) w w' := by
  have HB0 := hid hb.tight; have HX := hid hx; have HF := hid hf; have hpw := hb.lt
  clear hb hx hf
  have HXE : Hd (xs ++ covL f = xs ++ Wi.enc (modN f.q) ++ Wi.encI f.k ++ Wi.enc (unl f.u) ++ Wi.encB f.b) := hid (by unfold covL; simp only [List.append_assoc])
  have HL3 := hid (cov3_len HF.out)
  go_enter Tryd.func57, Tryd.ntmps57
  go_upto_region 1 with fail
  have HBX : Hd (Wi.Buf (fun k => p < k ∧ k ≠ w.heap.size) w p xs) := hid (by obtain ⟨v, h1, h2, h3, h4, h5⟩ := HB0.out; exact ⟨v, h1, h2, h3.mono (fun b hb h => ⟨h.1, by omega⟩), by omega, h5⟩)
  generalize hW : World.alloc w _ = W1
  have KS : Hd (Keeps (fun _ => False) w W1) := hid (by rw [← hW]; exact (Keeps.alloc (Keeps.refl (fun _ => False) w) _))
  have HX' : Hd (Sl (fun k => k < p) W1 (.slice a f.b.length c) (u8s f.b)) := hid (HX.out.keep KS.out (fun _ _ _ h => h))
  have BF : Hd (Blk W1 w.heap.size #[(.int .i64 f.q), (.int .i64 f.k), (.bool f.u), (.slice a f.b.length c), (.int .u64 (f.t : Int))] 25) := hid (by rw [← hW]; exact (blk_new _ _ _))
  clear HX
  have HX := HX'
  clear HX'
  have HK : Hd (Keeps (fun _ => False) w W1) := hid KS.out
  have z_W1 : w.heap.size + 1 ≤ W1.heap.size := by rw [← hW]; simp
  have HB : Hd (Wi.Buf (fun k => p < k ∧ k ≠ w.heap.size) W1 p xs) := hid (Wi.Buf.keep (HBX.out) KS.out (fun h => h) (fun _ _ _ h => h))
  clear hW KS
  obtain ⟨u, hu⟩ : ∃ u, f.u = u := ⟨_, rfl⟩
  have HU := hid hu
  rw [hu] at BF
  clear hu HB0 HBX
  have HUN : Hd (unl f.u = if u then 1 else 0) := hid (by rw [HU.out]; rfl)
  cases u
  · have HU1 : Hd (unl f.u = 0) := hid (by rw [HUN.out]; rfl)
    clear HUN
    have o_BF_0 : W1.cell? ⟨w.heap.size, 0, none⟩ = some ((.int .i64 f.q)) := blk_cell BF.out 0
    have o_BF_2 : W1.cell? ⟨w.heap.size, 2, none⟩ = some ((.bool false)) := blk_cell BF.out 2
    go_wp2_with fail
    refine (reduced_any f.q _ HF.out.q0 HF.out.q1).mono ?_
    rintro e wx ⟨rfl, rfl⟩
    obtain ⟨m, hm⟩ : ∃ m, modN f.q = m := ⟨_, rfl⟩
    rw [hm]
    have HM := hid hm
    have hm1 : m < 256 := by rw [← hm]; exact modN_lt _
    clear hm
    have hwm : IntKind.u64.wrap (m : Int) = (m : Int) := by simp [IntKind.wrap, IntKind.bits, IntKind.signed]; omega
    go_wp2_with fail
    try rw [hwm]
    refine (Wi.WUint_any _ p _ m _ HB.out (by omega) (by omega)).mono ?_
    rintro e W2 ⟨rfl, hp⟩
    obtain ⟨hb3, hk⟩ := bufx_post HB.out (by omega) hp
    clear HB hp
    have HB := hid hb3
    clear hb3
    clear o_BF_0 o_BF_2
    have HX' : Hd (Sl (fun k => k < p) W2 (.slice a f.b.length c) (u8s f.b)) := hid (HX.out.keep hk (fun b h1 h2 h3 => by rcases h3 with h3 | h3 <;> omega))
    have BF' : Hd (Blk W2 w.heap.size #[(.int .i64 f.q), (.int .i64 f.k), (.bool false), (.slice a f.b.length c), (.int .u64 (f.t : Int))] 25) := hid (blk_keep BF.out hk (fun h => by rcases h with h | h <;> omega))
    clear HX BF
    have HX := HX'
    clear HX'
    have BF := BF'
    clear BF'
    have HKP' : Hd (Keeps (fun k => p ≤ k) w W2) := hid ((hid (HK.out.mono (fun _ _ h => h.elim)) : Hd (Keeps (fun k => p ≤ k) w W1)).out.trans' hk (fun i hi h => by rcases h with h | h <;> omega))
    clear HK
    have HKP := HKP'
    clear HKP'
    have z_W2 := hk.size
    clear hk
    have o_BF_1 : W2.cell? ⟨w.heap.size, 1, none⟩ = some ((.int .i64 f.k)) := blk_cell BF.out 1
    have l1 := Wi.enc_len10 (n := m) (by omega)
    go_wp2_with fail
    refine (Wi.WInt_any _ p _ f.k _ HB.out HF.out.k0 HF.out.k1 (by rw [List.length_append]; omega)).mono ?_
    rintro e W3 ⟨rfl, hp⟩
    obtain ⟨hb3, hk⟩ := bufx_post HB.out (by omega) hp
    clear HB hp
    have HB := hid hb3
    clear hb3
    clear o_BF_1
    have HX' : Hd (Sl (fun k => k < p) W3 (.slice a f.b.length c) (u8s f.b)) := hid (HX.out.keep hk (fun b h1 h2 h3 => by rcases h3 with h3 | h3 <;> omega))
    have BF' : Hd (Blk W3 w.heap.size #[(.int .i64 f.q), (.int .i64 f.k), (.bool false), (.slice a f.b.length c), (.int .u64 (f.t : Int))] 25) := hid (blk_keep BF.out hk (fun h => by rcases h with h | h <;> omega))
    clear HX BF
    have HX := HX'
    clear HX'
    have BF := BF'
    clear BF'
    have HKP' : Hd (Keeps (fun k => p ≤ k) w W3) := hid (HKP.out.trans' hk (fun i hi h => by rcases h with h | h <;> omega))
    clear HKP
    have HKP := HKP'
    clear HKP'
    have z_W3 := hk.size
    clear hk
    have l2 : (xs ++ Wi.enc m ++ Wi.encI f.k).length ≤ 60 := by have h := Wi.enc_len10 (n := Wi.zig f.k) (Wi.zig_le HF.out.k0 HF.out.k1); unfold Wi.encI; rw [List.length_append, List.length_append]; omega
    go_wp2_with fail
    refine (Wi.WUint_any _ p _ 0 _ HB.out (by omega) (by omega)).mono ?_
    rintro e W4 ⟨rfl, hp⟩
    obtain ⟨hb3, hk⟩ := bufx_post HB.out (by omega) hp
    clear HB hp
    have HB := hid hb3
    clear hb3
    have HX' : Hd (Sl (fun k => k < p) W4 (.slice a f.b.length c) (u8s f.b)) := hid (HX.out.keep hk (fun b h1 h2 h3 => by rcases h3 with h3 | h3 <;> omega))
    have BF' : Hd (Blk W4 w.heap.size #[(.int .i64 f.q), (.int .i64 f.k), (.bool false), (.slice a f.b.length c), (.int .u64 (f.t : Int))] 25) := hid (blk_keep BF.out hk (fun h => by rcases h with h | h <;> omega))
    clear HX BF
    have HX := HX'
    clear HX'
    have BF := BF'
    clear BF'
    have HKP' : Hd (Keeps (fun k => p ≤ k) w W4) := hid (HKP.out.trans' hk (fun i hi h => by rcases h with h | h <;> omega))
    clear HKP
    have HKP := HKP'
    clear HKP'
    have z_W4 := hk.size
    clear hk
    have l3 : (xs ++ Wi.enc m ++ Wi.encI f.k ++ Wi.enc 0).length ≤ 80 := by have h := Wi.enc_len10 (n := 0) (by omega); rw [List.length_append]; omega
    have o_BF_3 : W4.cell? ⟨w.heap.size, 3, none⟩ = some ((.slice a f.b.length c)) := blk_cell BF.out 3
    go_wp2_with fail
    refine (Wi.WBytes_any _ (fun k => k < p) p _ _ f.b _ HB.out HX.out (fun k hk hK => ⟨fun h => by omega, by omega⟩) (by have := HF.out.n; omega)).mono ?_
    rintro e W5 ⟨rfl, hp⟩
    obtain ⟨hb3, hk⟩ := bufx_post HB.out (by omega) hp
    clear HB hp
    have HB := hid hb3
    clear hb3
    clear o_BF_3
    have HX' : Hd (Sl (fun k => k < p) W5 (.slice a f.b.length c) (u8s f.b)) := hid (HX.out.keep hk (fun b h1 h2 h3 => by rcases h3 with h3 | h3 <;> omega))
    have BF' : Hd (Blk W5 w.heap.size #[(.int .i64 f.q), (.int .i64 f.k), (.bool false), (.slice a f.b.length c), (.int .u64 (f.t : Int))] 25) := hid (blk_keep BF.out hk (fun h => by rcases h with h | h <;> omega))
    clear HX BF
    have HX := HX'
    clear HX'
    have BF := BF'
    clear BF'
    have HKP' : Hd (Keeps (fun k => p ≤ k) w W5) := hid (HKP.out.trans' hk (fun i hi h => by rcases h with h | h <;> omega))
    clear HKP
    have HKP := HKP'
    clear HKP'
    have z_W5 := hk.size
    clear hk
    rw [show xs ++ Wi.enc m ++ Wi.encI f.k ++ Wi.enc 0 ++ Wi.encB f.b = xs ++ covL f by rw [HXE.out, HM.out, HU1.out]] at HB
    have HBF : Hd (Wi.BufAt W5 p (xs ++ covL f)) := hid (by obtain ⟨v, h1, h2, h3, h4, h5⟩ := HB.out; exact ⟨v, h1, h2, h3.mono (fun b _ h => h.1), by omega, h5⟩)
    go_wp2
    go_end0
    exact ⟨rfl, HBF.out, HKP.out⟩
  · have HU1 : Hd (unl f.u = 1) := hid (by rw [HUN.out]; rfl)
    clear HUN
    have o_BF_0 : W1.cell? ⟨w.heap.size, 0, none⟩ = some ((.int .i64 f.q)) := blk_cell BF.out 0
    have o_BF_2 : W1.cell? ⟨w.heap.size, 2, none⟩ = some ((.bool true)) := blk_cell BF.out 2
    go_wp2_with fail
    refine (reduced_any f.q _ HF.out.q0 HF.out.q1).mono ?_
    rintro e wx ⟨rfl, rfl⟩
    obtain ⟨m, hm⟩ : ∃ m, modN f.q = m := ⟨_, rfl⟩
    rw [hm]
    have HM := hid hm
    have hm1 : m < 256 := by rw [← hm]; exact modN_lt _
    clear hm
    have hwm : IntKind.u64.wrap (m : Int) = (m : Int) := by simp [IntKind.wrap, IntKind.bits, IntKind.signed]; omega
    go_wp2_with fail
    try rw [hwm]
    refine (Wi.WUint_any _ p _ m _ HB.out (by omega) (by omega)).mono ?_
    rintro e W2 ⟨rfl, hp⟩
    obtain ⟨hb3, hk⟩ := bufx_post HB.out (by omega) hp
    clear HB hp
    have HB := hid hb3
    clear hb3
    clear o_BF_0 o_BF_2
    have HX' : Hd (Sl (fun k => k < p) W2 (.slice a f.b.length c) (u8s f.b)) := hid (HX.out.keep hk (fun b h1 h2 h3 => by rcases h3 with h3 | h3 <;> omega))
    have BF' : Hd (Blk W2 w.heap.size #[(.int .i64 f.q), (.int .i64 f.k), (.bool true), (.slice a f.b.length c), (.int .u64 (f.t : Int))] 25) := hid (blk_keep BF.out hk (fun h => by rcases h with h | h <;> omega))
    clear HX BF
    have HX := HX'
    clear HX'
    have BF := BF'
    clear BF'
    have HKP' : Hd (Keeps (fun k => p ≤ k) w W2) := hid ((hid (HK.out.mono (fun _ _ h => h.elim)) : Hd (Keeps (fun k => p ≤ k) w W1)).out.trans' hk (fun i hi h => by rcases h with h | h <;> omega))
    clear HK
    have HKP := HKP'
    clear HKP'
    have z_W2 := hk.size
    clear hk
    have o_BF_1 : W2.cell? ⟨w.heap.size, 1, none⟩ = some ((.int .i64 f.k)) := blk_cell BF.out 1
    have l1 := Wi.enc_len10 (n := m) (by omega)
    go_wp2_with fail
    refine (Wi.WInt_any _ p _ f.k _ HB.out HF.out.k0 HF.out.k1 (by rw [List.length_append]; omega)).mono ?_
    rintro e W3 ⟨rfl, hp⟩
    obtain ⟨hb3, hk⟩ := bufx_post HB.out (by omega) hp
    clear HB hp
    have HB := hid hb3
    clear hb3
    clear o_BF_1
    have HX' : Hd (Sl (fun k => k < p) W3 (.slice a f.b.length c) (u8s f.b)) := hid (HX.out.keep hk (fun b h1 h2 h3 => by rcases h3 with h3 | h3 <;> omega))
    have BF' : Hd (Blk W3 w.heap.size #[(.int .i64 f.q), (.int .i64 f.k), (.bool true), (.slice a f.b.length c), (.int .u64 (f.t : Int))] 25) := hid (blk_keep BF.out hk (fun h => by rcases h with h | h <;> omega))
    clear HX BF
    have HX := HX'
    clear HX'
    have BF := BF'
    clear BF'
    have HKP' : Hd (Keeps (fun k => p ≤ k) w W3) := hid (HKP.out.trans' hk (fun i hi h => by rcases h with h | h <;> omega))
    clear HKP
    have HKP := HKP'
    clear HKP'
    have z_W3 := hk.size
    clear hk
    have l2 : (xs ++ Wi.enc m ++ Wi.encI f.k).length ≤ 60 := by have h := Wi.enc_len10 (n := Wi.zig f.k) (Wi.zig_le HF.out.k0 HF.out.k1); unfold Wi.encI; rw [List.length_append, List.length_append]; omega
    go_wp2_with fail
    refine (Wi.WUint_any _ p _ 1 _ HB.out (by omega) (by omega)).mono ?_
    rintro e W4 ⟨rfl, hp⟩
    obtain ⟨hb3, hk⟩ := bufx_post HB.out (by omega) hp
    clear HB hp
    have HB := hid hb3
    clear hb3
    have HX' : Hd (Sl (fun k => k < p) W4 (.slice a f.b.length c) (u8s f.b)) := hid (HX.out.keep hk (fun b h1 h2 h3 => by rcases h3 with h3 | h3 <;> omega))
    have BF' : Hd (Blk W4 w.heap.size #[(.int .i64 f.q), (.int .i64 f.k), (.bool true), (.slice a f.b.length c), (.int .u64 (f.t : Int))] 25) := hid (blk_keep BF.out hk (fun h => by rcases h with h | h <;> omega))
    clear HX BF
    have HX := HX'
    clear HX'
    have BF := BF'
    clear BF'
    have HKP' : Hd (Keeps (fun k => p ≤ k) w W4) := hid (HKP.out.trans' hk (fun i hi h => by rcases h with h | h <;> omega))
    clear HKP
    have HKP := HKP'
    clear HKP'
    have z_W4 := hk.size
    clear hk
    have l3 : (xs ++ Wi.enc m ++ Wi.encI f.k ++ Wi.enc 1).length ≤ 80 := by have h := Wi.enc_len10 (n := 1) (by omega); rw [List.length_append]; omega
    have o_BF_3 : W4.cell? ⟨w.heap.size, 3, none⟩ = some ((.slice a f.b.length c)) := blk_cell BF.out 3
    go_wp2_with fail
    refine (Wi.WBytes_any _ (fun k => k < p) p _ _ f.b _ HB.out HX.out (fun k hk hK => ⟨fun h => by omega, by omega⟩) (by have := HF.out.n; omega)).mono ?_
    rintro e W5 ⟨rfl, hp⟩
    obtain ⟨hb3, hk⟩ := bufx_post HB.out (by omega) hp
    clear HB hp
    have HB := hid hb3
    clear hb3
    clear o_BF_3
    have HX' : Hd (Sl (fun k => k < p) W5 (.slice a f.b.length c) (u8s f.b)) := hid (HX.out.keep hk (fun b h1 h2 h3 => by rcases h3 with h3 | h3 <;> omega))
    have BF' : Hd (Blk W5 w.heap.size #[(.int .i64 f.q), (.int .i64 f.k), (.bool true), (.slice a f.b.length c), (.int .u64 (f.t : Int))] 25) := hid (blk_keep BF.out hk (fun h => by rcases h with h | h <;> omega))
    clear HX BF
    have HX := HX'
    clear HX'
    have BF := BF'
    clear BF'
    have HKP' : Hd (Keeps (fun k => p ≤ k) w W5) := hid (HKP.out.trans' hk (fun i hi h => by rcases h with h | h <;> omega))
    clear HKP
    have HKP := HKP'
    clear HKP'
    have z_W5 := hk.size
    clear hk
    rw [show xs ++ Wi.enc m ++ Wi.encI f.k ++ Wi.enc 1 ++ Wi.encB f.b = xs ++ covL f by rw [HXE.out, HM.out, HU1.out]] at HB
    have HBF : Hd (Wi.BufAt W5 p (xs ++ covL f)) := hid (by obtain ⟨v, h1, h2, h3, h4, h5⟩ := HB.out; exact ⟨v, h1, h2, h3.mono (fun b _ h => h.1), by omega, h5⟩)
    go_wp2
    go_end0
    exact ⟨rfl, HBF.out, HKP.out⟩
set_option maxRecDepth 100000 in set_option maxHeartbeats 1000000 in
theorem Signed_any (f : Fr) (K : Nat → Prop) (a : Option Addr) (c : Nat) (w : World) (hf : f.ok) (hx : Sl K w (.slice a f.b.length c) (u8s f.b)) :
    Calls Tryd.prog 14 #[.agg #[.int .i64 f.q, .int .i64 f.k, .bool f.u, .slice a f.b.length c, .int .u64 (f.t : Int)]] w fun e w' => Cr.NewRet w 5 (u8s (covL f)) e w' := by
  have HX := hid (hx.mono (K' := fun b => b < w.heap.size) (fun b h _ => h)); have HF := hid hf
  clear hx hf
  go_enter Tryd.func14, Tryd.ntmps14
  go_upto_region 1 with fail
  generalize hW : World.alloc w _ = W1
  have KS : Hd (Keeps (fun _ => False) w W1) := hid (by rw [← hW]; exact (Keeps.alloc (Keeps.refl (fun _ => False) w) _))
  have HX' : Hd (Sl (fun b => b < w.heap.size) W1 (.slice a f.b.length c) (u8s f.b)) := hid (HX.out.keep KS.out (fun _ _ _ h => h))
  have BF : Hd (Blk W1 w.heap.size #[(.int .i64 f.q), (.int .i64 f.k), (.bool f.u), (.slice a f.b.length c), (.int .u64 (f.t : Int))] 25) := hid (by rw [← hW]; exact (blk_new _ _ _))
  clear HX
  have HX := HX'
  clear HX'
  have HK : Hd (Keeps (fun _ => False) w W1) := hid KS.out
  have z_W1 : w.heap.size + 1 ≤ W1.heap.size := by rw [← hW]; simp
  clear hW KS
  go_upto_region 2 with fail
  generalize hW : World.alloc W1 _ = W2
  have HBF : Hd (Wi.BufAt W2 W1.heap.size []) := hid (by rw [← hW]; exact Wi.BufAt.new _ _)
  have hk : Keeps (fun _ => False) W1 W2 := by rw [← hW]; exact keeps_alloc _ _ _
  have zb := HBF.out.lt
  clear hW
  have HX' : Hd (Sl (fun b => b < w.heap.size) W2 (.slice a f.b.length c) (u8s f.b)) := hid (HX.out.keep hk (fun _ _ _ h => h))
  have BF' : Hd (Blk W2 w.heap.size #[(.int .i64 f.q), (.int .i64 f.k), (.bool f.u), (.slice a f.b.length c), (.int .u64 (f.t : Int))] 25) := hid (blk_keep BF.out hk (fun h => h))
  clear HX BF
  have HX := HX'
  clear HX'
  have BF := BF'
  clear BF'
  have HK' : Hd (Keeps (fun _ => False) w W2) := hid (HK.out.trans hk)
  clear HK
  have HK := HK'
  clear HK'
  have z_W2 := hk.size
  clear hk
  have o_BF_0 : W2.cell? ⟨w.heap.size, 0, none⟩ = some ((.int .i64 f.q)) := blk_cell BF.out 0
  have o_BF_1 : W2.cell? ⟨w.heap.size, 1, none⟩ = some ((.int .i64 f.k)) := blk_cell BF.out 1
  have o_BF_2 : W2.cell? ⟨w.heap.size, 2, none⟩ = some ((.bool f.u)) := blk_cell BF.out 2
  have o_BF_3 : W2.cell? ⟨w.heap.size, 3, none⟩ = some ((.slice a f.b.length c)) := blk_cell BF.out 3
  have o_BF_4 : W2.cell? ⟨w.heap.size, 4, none⟩ = some ((.int .u64 (f.t : Int))) := blk_cell BF.out 4
  go_wp2_with fail
  refine (cover_any W1.heap.size [] f a c _ HBF.out (by simp) HF.out (HX.out.mono (fun b _ h => by omega))).mono ?_
  rintro e W3 ⟨rfl, hb, hk⟩
  clear HBF
  have HBF := hid hb
  clear hb
  rw [List.nil_append] at HBF
  clear o_BF_0 o_BF_1 o_BF_2 o_BF_3 o_BF_4
  have HX' : Hd (Sl (fun b => b < w.heap.size) W3 (.slice a f.b.length c) (u8s f.b)) := hid (HX.out.keep hk (fun b h1 h2 h3 => by omega))
  have BF' : Hd (Blk W3 w.heap.size #[(.int .i64 f.q), (.int .i64 f.k), (.bool f.u), (.slice a f.b.length c), (.int .u64 (f.t : Int))] 25) := hid (blk_keep BF.out hk (fun h => by omega))
  clear HX BF
  have HX := HX'
  clear HX'
  have BF := BF'
  clear BF'
  have HK' : Hd (Keeps (fun _ => False) w W3) := hid (HK.out.trans' hk (fun i hi h => by omega))
  clear HK
  have HK := HK'
  clear HK'
  have z_W3 := hk.size
  clear hk
  have HCL := hid (covL_len HF.out)
  have HPL : Hd ((covL f).length ≤ 140737488351300) := hid (by have := HCL.out; have := HF.out.n; omega)
  obtain ⟨en, hen⟩ : ∃ en, covL f = en := ⟨_, rfl⟩
  rw [hen] at HPL HBF
  have HEN := hid hen
  clear hen
  go_wp2_with fail
  refine (Wi.WDone_any _ W1.heap.size en _ HBF.out (by have := HPL.out; omega)).mono ?_
  rintro e W4 ⟨ad, nd, cd, rfl, hnd, hod, hk⟩
  have HOD := hid hod; have HND := hid hnd; have HK9 := hid (HK.out.trans hk)
  have z9 := HK.out.size
  clear hod hnd hk
  go_wp2
  go_ret
  exact ⟨ad, nd, cd, rfl, by rw [HEN.out]; exact HND.out, by rw [HEN.out]; exact HOD.out.mono (fun b _ h => by omega), HK9.out⟩
set_option maxRecDepth 100000 in set_option maxHeartbeats 1000000 in
theorem Encode_any (f : Fr) (K : Nat → Prop) (a : Option Addr) (c : Nat) (w : World) (hN : Cr.Nib w) (hf : f.ok) (hx : Sl K w (.slice a f.b.length c) (u8s f.b)) :
    Calls Tryd.prog 16 #[.agg #[.int .i64 f.q, .int .i64 f.k, .bool f.u, .slice a f.b.length c, .int .u64 (f.t : Int)]] w fun e w' => Cr.NewRet w 5 (u8s (encF f)) e w' := by
  have HX := hid (hx.mono (K' := fun b => b < w.heap.size) (fun b h _ => h)); have HF := hid hf
  have HN : Hd (NibR w) := hid hN
  clear hx hf hN
  go_enter Tryd.func16, Tryd.ntmps16
  go_upto_region 1 with fail
  generalize hW : World.alloc w _ = W1
  have KS : Hd (Keeps (fun _ => False) w W1) := hid (by rw [← hW]; exact (Keeps.alloc (Keeps.refl (fun _ => False) w) _))
  have HX' : Hd (Sl (fun b => b < w.heap.size) W1 (.slice a f.b.length c) (u8s f.b)) := hid (HX.out.keep KS.out (fun _ _ _ h => h))
  have HN' : Hd (NibR W1) := hid (HN.out.keep KS.out (fun _ _ _ h => h))
  have BF : Hd (Blk W1 w.heap.size #[(.int .i64 f.q), (.int .i64 f.k), (.bool f.u), (.slice a f.b.length c), (.int .u64 (f.t : Int))] 25) := hid (by rw [← hW]; exact (blk_new _ _ _))
  clear HX HN
  have HX := HX'
  clear HX'
  have HN := HN'
  clear HN'
  have HK : Hd (Keeps (fun _ => False) w W1) := hid KS.out
  have z_W1 : w.heap.size + 1 ≤ W1.heap.size := by rw [← hW]; simp
  clear hW KS
  go_upto_region 2 with fail
  generalize hW : World.alloc W1 _ = W2
  have HBF : Hd (Wi.BufAt W2 W1.heap.size []) := hid (by rw [← hW]; exact Wi.BufAt.new _ _)
  have hk : Keeps (fun _ => False) W1 W2 := by rw [← hW]; exact keeps_alloc _ _ _
  have zb := HBF.out.lt
  clear hW
  have HX' : Hd (Sl (fun b => b < w.heap.size) W2 (.slice a f.b.length c) (u8s f.b)) := hid (HX.out.keep hk (fun _ _ _ h => h))
  have HN' : Hd (NibR W2) := hid (HN.out.keep hk (fun _ _ _ h => h))
  have BF' : Hd (Blk W2 w.heap.size #[(.int .i64 f.q), (.int .i64 f.k), (.bool f.u), (.slice a f.b.length c), (.int .u64 (f.t : Int))] 25) := hid (blk_keep BF.out hk (fun h => h))
  clear HX HN BF
  have HX := HX'
  clear HX'
  have HN := HN'
  clear HN'
  have BF := BF'
  clear BF'
  have HK' : Hd (Keeps (fun _ => False) w W2) := hid (HK.out.trans hk)
  clear HK
  have HK := HK'
  clear HK'
  have z_W2 := hk.size
  clear hk
  have o_BF_0 : W2.cell? ⟨w.heap.size, 0, none⟩ = some ((.int .i64 f.q)) := blk_cell BF.out 0
  have o_BF_1 : W2.cell? ⟨w.heap.size, 1, none⟩ = some ((.int .i64 f.k)) := blk_cell BF.out 1
  have o_BF_2 : W2.cell? ⟨w.heap.size, 2, none⟩ = some ((.bool f.u)) := blk_cell BF.out 2
  have o_BF_3 : W2.cell? ⟨w.heap.size, 3, none⟩ = some ((.slice a f.b.length c)) := blk_cell BF.out 3
  have o_BF_4 : W2.cell? ⟨w.heap.size, 4, none⟩ = some ((.int .u64 (f.t : Int))) := blk_cell BF.out 4
  go_wp2_with fail
  refine (cover_any W1.heap.size [] f a c _ HBF.out (by simp) HF.out (HX.out.mono (fun b _ h => by omega))).mono ?_
  rintro e W3 ⟨rfl, hb, hk⟩
  clear HBF
  have HBF := hid hb
  clear hb
  rw [List.nil_append] at HBF
  clear o_BF_0 o_BF_1 o_BF_2 o_BF_3 o_BF_4
  have HX' : Hd (Sl (fun b => b < w.heap.size) W3 (.slice a f.b.length c) (u8s f.b)) := hid (HX.out.keep hk (fun b h1 h2 h3 => by omega))
  have HN' : Hd (NibR W3) := hid (HN.out.keep hk (fun b h1 h2 h3 => by omega))
  have BF' : Hd (Blk W3 w.heap.size #[(.int .i64 f.q), (.int .i64 f.k), (.bool f.u), (.slice a f.b.length c), (.int .u64 (f.t : Int))] 25) := hid (blk_keep BF.out hk (fun h => by omega))
  clear HX HN BF
  have HX := HX'
  clear HX'
  have HN := HN'
  clear HN'
  have BF := BF'
  clear BF'
  have HK' : Hd (Keeps (fun _ => False) w W3) := hid (HK.out.trans' hk (fun i hi h => by omega))
  clear HK
  have HK := HK'
  clear HK'
  have z_W3 := hk.size
  clear hk
  have HCL := hid (covL_len HF.out)
  have o_BF_4 : W3.cell? ⟨w.heap.size, 4, none⟩ = some ((.int .u64 (f.t : Int))) := blk_cell BF.out 4
  have HB2 := HBF.out.tight
  go_wp2_with fail
  refine (Wi.WUint_any _ W1.heap.size _ f.t _ HB2 (by have := HF.out.t; omega) (by have := HCL.out; have := HF.out.n; omega)).mono ?_
  rintro e W4 ⟨rfl, hp⟩
  obtain ⟨hb3, hk⟩ := Wi.BufAt.post HB2 (fun b h => h.1) hp
  clear HBF HB2 hp
  have HBF := hid hb3
  clear hb3
  clear o_BF_4
  have HX' : Hd (Sl (fun b => b < w.heap.size) W4 (.slice a f.b.length c) (u8s f.b)) := hid (HX.out.keep hk (fun b h1 h2 h3 => by omega))
  have HN' : Hd (NibR W4) := hid (HN.out.keep hk (fun b h1 h2 h3 => by omega))
  have BF' : Hd (Blk W4 w.heap.size #[(.int .i64 f.q), (.int .i64 f.k), (.bool f.u), (.slice a f.b.length c), (.int .u64 (f.t : Int))] 25) := hid (blk_keep BF.out hk (fun h => by omega))
  clear HX HN BF
  have HX := HX'
  clear HX'
  have HN := HN'
  clear HN'
  have BF := BF'
  clear BF'
  have HK' : Hd (Keeps (fun _ => False) w W4) := hid (HK.out.trans' hk (fun i hi h => by omega))
  clear HK
  have HK := HK'
  clear HK'
  have z_W4 := hk.size
  clear hk
  have HPL : Hd ((covL f ++ Wi.enc f.t).length ≤ 140737488351300) := hid (by have h := Wi.enc_len10 (n := f.t) (by have := HF.out.t; omega); have := HCL.out; have := HF.out.n; rw [List.length_append]; omega)
  have HPT : Hd (∀ c ∈ covL f ++ Wi.enc f.t, c < 256) := hid (fun c hc => by rcases List.mem_append.1 hc with hc | hc; exact covL_lt HF.out c hc; exact Wi.enc_lt _ _ hc)
  have HDF : Hd (encF f = Cr.seal_ (covL f ++ Wi.enc f.t)) := hid rfl
  generalize covL f ++ Wi.enc f.t = en at *
  go_wp2_with fail
  refine (Wi.WDone_any _ W1.heap.size en _ HBF.out (by have := HPL.out; omega)).mono ?_
  rintro e W5 ⟨ad, nd, cd, rfl, hnd, hod, hk⟩
  have SD : Hd (Sl (fun _ => True) W5 (.slice ad nd cd) (u8s en)) := hid ((row_sl hod.row hnd.symm).mono (fun _ _ _ => trivial))
  clear hod hnd HBF
  have HX' : Hd (Sl (fun b => b < w.heap.size) W5 (.slice a f.b.length c) (u8s f.b)) := hid (HX.out.keep hk (fun _ _ _ h => h))
  have HN' : Hd (NibR W5) := hid (HN.out.keep hk (fun _ _ _ h => h))
  have BF' : Hd (Blk W5 w.heap.size #[(.int .i64 f.q), (.int .i64 f.k), (.bool f.u), (.slice a f.b.length c), (.int .u64 (f.t : Int))] 25) := hid (blk_keep BF.out hk (fun h => h))
  clear HX HN BF
  have HX := HX'
  clear HX'
  have HN := HN'
  clear HN'
  have BF := BF'
  clear BF'
  have HK' : Hd (Keeps (fun _ => False) w W5) := hid (HK.out.trans hk)
  clear HK
  have HK := HK'
  clear HK'
  have z_W5 := hk.size
  clear hk
  go_wp2_with fail
  refine (Cr.Seal_any _ _ en _ HN.out SD.out HPT.out (by have := HPL.out; omega)).mono ?_
  rw [← HDF.out]
  rintro e W6 ⟨a4, n4, c4, rfl, hn4, ho4, hk⟩
  have HO4 := hid ho4; have HN4 := hid hn4; have HK9 := hid (HK.out.trans hk)
  have z9 := HK.out.size
  clear ho4 hk hn4
  go_wp2
  go_ret
  exact ⟨a4, n4, c4, rfl, HN4.out, HO4.out.mono (fun b _ h => by omega), HK9.out⟩
end Go.Proofs.YthoikljmokkchaaDoor
