/- File: a part and its memory; NewPart, Known, valid. -/
import Derived.Test.YtgeicbjlichdgaaDoorFileF
namespace Go.Proofs.YtgeicbjlichdgaaDoor
open Go.RowKit
attribute [local go_sem ↓] Go.wp_at_zero Go.wp_at_succ
/-- a file that is being put together -/
structure Pm where
  id : Int
  kn : Bool
  sm : Nat
  hv : List Bool
  dt : List Nat
def bls (l : List Bool) : List Value := l.map Value.bool
@[simp] theorem bls_length (l : List Bool) : (bls l).length = l.length := by simp [bls]
theorem bls_one (l : List Bool) : ∀ u ∈ bls l, u.oneCell' = true := by intro u hu; simp [bls] at hu; rcases hu with ⟨_, rfl⟩ | ⟨_, rfl⟩ <;> rfl
structure Pm.ok (M : Pm) : Prop where
  len : M.hv.length = M.dt.length
  max : M.dt.length ≤ 65536
  b : ∀ c ∈ M.dt, c < 256
  s : M.sm < 4294967296
  un : M.kn = false → M.dt = []
def newM (id : Int) : Pm := ⟨id, false, 0, [], []⟩
theorem newM_ok (id : Int) : (newM id).ok := ⟨rfl, by simp [newM], by simp [newM], by simp [newM], fun _ => rfl⟩
/-- a part in memory: its blocks lie in Z, apart -/
def PartR (Z : Nat → Prop) (w : World) (p : Nat) (M : Pm) : Prop := ∃ (ah : Option Addr) (ch : Nat) (ad : Option Addr) (cd : Nat),
  Blk w p #[.int .i64 M.id, .bool M.kn, .int .u32 (M.sm : Int), .slice ah M.hv.length ch, .slice ad M.dt.length cd] 79 ∧ Z p ∧
  Own (fun b => Z b ∧ b ≠ p ∧ (Value.slice ad M.dt.length cd).ownBlock ≠ some b) w 4 1 (.slice ah M.hv.length ch) M.hv.length (bls M.hv) ∧
  Own (fun b => Z b ∧ b ≠ p) w 5 1 (.slice ad M.dt.length cd) M.dt.length (u8s M.dt)
theorem PartR.mono {Z Z' : Nat → Prop} {w : World} {p : Nat} {M : Pm} (h : PartR Z w p M) (hd : ∀ b, b < w.heap.size → Z b → Z' b) : PartR Z' w p M := by
  obtain ⟨ah, ch, ad, cd, h1, h2, h3, h4⟩ := h
  exact ⟨ah, ch, ad, cd, h1, hd p (blk_lt h1) h2, h3.mono (fun b hb h => ⟨hd b hb h.1, h.2⟩), h4.mono (fun b hb h => ⟨hd b hb h.1, h.2⟩)⟩
theorem PartR.keep {Z S : Nat → Prop} {w w' : World} {p : Nat} {M : Pm} (h : PartR Z w p M) (hk : Keeps S w w') (hd : ∀ b, b < w.heap.size → Z b → ¬ S b) : PartR Z w' p M := by
  obtain ⟨ah, ch, ad, cd, h1, h2, h3, h4⟩ := h
  exact ⟨ah, ch, ad, cd, blk_keep h1 hk (hd p (blk_lt h1) h2), h2, h3.keep hk (fun b hb h => hd b hb h.1), h4.keep hk (fun b hb h => hd b hb h.1)⟩
/-- a block known whole is a row of its own -/
theorem own_full {w : World} {b n : Nat} {xs : List Value} {T : TypeId} (h : Blk w b xs.toArray T) (hl : xs.length = n) (hm : n ≤ maxLen) : Own (fun i => i = b) w T 1 (.slice (some ⟨b, 0, none⟩) n n) n xs :=
  ⟨⟨by rw [hl, Nat.mul_one], .inr ⟨b, n, xs.toArray, rfl, Nat.zero_le _, h, Nat.le_refl _, hm, by simp [hl], by simp only [Nat.mul_one]; rw [List.take_of_length_le (by rw [hl]; exact Nat.le_refl _)]⟩⟩, fun i hi => by injection hi with hi; simp at hi; exact hi.symm⟩
set_option maxRecDepth 100000 in set_option maxHeartbeats 1000000 in
theorem NewPart_any (id : Int) (w : World) : Calls Tryd.prog 21 #[.int .i64 id] w fun e w' => e = .returned (.pointer (some ⟨w.heap.size, 0, none⟩)) ∧ PartR (fun b => b = w.heap.size) w' w.heap.size (newM id) ∧ Keeps (fun _ => False) w w' := by
  go_enter Tryd.func21, Tryd.ntmps21
  go_wp2
  go_ret
  exact ⟨rfl, ⟨none, 0, none, 0, blk_new _ _ _, rfl, Own.nil _ _ _ _, Own.nil _ _ _ _⟩, keeps_alloc _ _ _⟩
set_option maxRecDepth 100000 in set_option maxHeartbeats 1000000 in
theorem Known_any (Z : Nat → Prop) (p : Nat) (M : Pm) (w : World) (h : PartR Z w p M) : Calls Tryd.prog 35 #[.pointer (some ⟨p, 0, none⟩)] w fun e w' => e = .returned (.bool M.kn) ∧ w = w' := by
  obtain ⟨ah, ch, ad, cd, h1, -⟩ := h
  have o1 : w.cell? ⟨p, 1, none⟩ = some (.bool M.kn) := blk_cell h1 1
  clear h1
  go_enter Tryd.func35, Tryd.ntmps35
  go_wp2
  go_ret
  exact ⟨rfl, rfl⟩
def Valid (x : Seg) : Prop := 0 ≤ x.t ∧ x.t ≤ 65536 ∧ x.d.length ≤ 256 ∧ 0 ≤ x.o ∧ x.o ≤ x.t - x.d.length
instance (x : Seg) : Decidable (Valid x) := by unfold Valid; infer_instance
set_option maxRecDepth 100000 in set_option maxHeartbeats 1000000 in
theorem valid_any (x : Seg) (a : Option Addr) (c : Nat) (w : World) :
    Calls Tryd.prog 43 #[.agg #[.int .i64 x.f, .int .i64 x.o, .int .i64 x.t, .int .u32 (x.s : Int), .slice a x.d.length c]] w fun e w' => e = .returned (.bool (decide (Valid x))) ∧ Keeps (fun _ => False) w w' := by
  have KA := hid (keeps_alloc (fun _ => False) w (.cells #[.int .i64 x.f, .int .i64 x.o, .int .i64 x.t, .int .u32 (x.s : Int), .slice a x.d.length c] 44))
  have HV : Hd (Valid x ↔ 0 ≤ x.t ∧ x.t ≤ 65536 ∧ x.d.length ≤ 256 ∧ 0 ≤ x.o ∧ x.o ≤ x.t - x.d.length) := hid Iff.rfl
  obtain ⟨r, hr⟩ : ∃ r, decide (Valid x) = r := ⟨_, rfl⟩
  rw [hr]
  have HR : Hd (r = true ↔ 0 ≤ x.t ∧ x.t ≤ 65536 ∧ x.d.length ≤ 256 ∧ 0 ≤ x.o ∧ x.o ≤ x.t - x.d.length) := hid (by rw [← hr, decide_eq_true_iff]; exact HV.out)
  clear hr HV
  generalize x.d.length = n at *
  have RF : Hd (¬ (0 ≤ x.t ∧ x.t ≤ 65536 ∧ n ≤ 256 ∧ 0 ≤ x.o ∧ x.o ≤ x.t - n) → r = false) := hid (fun h => by cases r; rfl; exact absurd (HR.out.1 rfl) h)
  go_enter Tryd.func43, Tryd.ntmps43
  by_cases h1 : 0 ≤ x.t
  · have d1 : decide (0 ≤ x.t) = true := by simp; exact h1
    by_cases h2 : x.t ≤ 65536
    · have d2 : decide (x.t ≤ 65536) = true := by simp; exact h2
      by_cases h3 : n ≤ 256
      · have d3 : decide ((n : Int) ≤ 256) = true := by simp; omega
        by_cases h4 : 0 ≤ x.o
        · have d4 : decide (0 ≤ x.o) = true := by simp; exact h4
          have u1 : IntKind.i64.wrap (x.t - n) = x.t - n := IntWalk.i64_in _ (by omega)
          by_cases h5 : x.o ≤ x.t - n
          · have d5 : decide (x.o ≤ x.t - n) = true := by simp; exact h5
            have HT : Hd (r = true) := hid (HR.out.2 ⟨h1, h2, h3, h4, h5⟩)
            clear h1 h2 h3 h4 h5
            go_wp2
            go_ret
            exact ⟨by rw [HT.out]; rfl, KA.out⟩
          · have d5 : decide (x.o ≤ x.t - n) = false := by simp; omega
            have HT : Hd (r = false) := hid (RF.out (by omega))
            clear h1 h2 h3 h4 h5
            go_wp2
            go_ret
            exact ⟨by rw [HT.out]; rfl, KA.out⟩
        · have d4 : decide (0 ≤ x.o) = false := by simp; omega
          have HT : Hd (r = false) := hid (RF.out (by omega))
          clear h1 h2 h3 h4
          go_wp2
          go_ret
          exact ⟨by rw [HT.out]; rfl, KA.out⟩
      · have d3 : decide ((n : Int) ≤ 256) = false := by simp; omega
        have HT : Hd (r = false) := hid (RF.out (by omega))
        clear h1 h2 h3
        go_wp2
        go_ret
        exact ⟨by rw [HT.out]; rfl, KA.out⟩
    · have d2 : decide (x.t ≤ 65536) = false := by simp; omega
      have HT : Hd (r = false) := hid (RF.out (by omega))
      clear h1 h2
      go_wp2
      go_ret
      exact ⟨by rw [HT.out]; rfl, KA.out⟩
  · have d1 : decide (0 ≤ x.t) = false := by simp; omega
    have HT : Hd (r = false) := hid (RF.out (by omega))
    clear h1
    go_wp2
    go_ret
    exact ⟨by rw [HT.out]; rfl, KA.out⟩
end Go.Proofs.YtgeicbjlichdgaaDoor
