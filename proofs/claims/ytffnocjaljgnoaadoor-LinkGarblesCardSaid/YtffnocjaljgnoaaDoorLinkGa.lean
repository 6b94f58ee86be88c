/- Link: the plain law of LinkGarbles. -/
import Derived.Test.YtffnocjaljgnoaaDoorLinkL
import Derived.Test.YtffnocjaljgnoaaDoorLinkM
import Derived.Test.YtffnocjaljgnoaaDoorCrcT
import Derived.Test.YtffnocjaljgnoaaDoorCrcOS
namespace Go.Proofs.YtffnocjaljgnoaaDoor
open Go.RowKit
theorem num_set : ∀ (l : List Nat) (j q : Nat), j < l.length → Cr.num (l.set j (l.getD j 0 ^^^ q)) = Cr.num l ^^^ q * 2 ^ (8 * j)
  | [], j, q, h => by simp at h
  | c :: l, 0, q, _ => by
    show (c ^^^ q) ^^^ Cr.num l * 256 = (c ^^^ Cr.num l * 256) ^^^ q * 2 ^ 0
    rw [Nat.pow_zero, Nat.mul_one, Nat.xor_assoc, Nat.xor_assoc, Nat.xor_comm q]
  | c :: l, j + 1, q, h => by
    have ih := num_set l j q (by simpa using h)
    show c ^^^ Cr.num (l.set j (l.getD j 0 ^^^ q)) * 256 = (c ^^^ Cr.num l * 256) ^^^ q * 2 ^ (8 * (j + 1))
    have e : q * 2 ^ (8 * (j + 1)) = q * 2 ^ (8 * j) * 2 ^ 8 := by rw [show 8 * (j + 1) = 8 * j + 8 by omega, Nat.pow_add, Nat.mul_assoc]
    rw [ih, e, show (256 : Nat) = 2 ^ 8 from rfl, Cr.xor_mul, Nat.xor_assoc]
set_option maxRecDepth 100000 in
theorem not255 (c : Nat) (h : c < 256) : 255 - c = c ^^^ 255 := by
  have key : ∀ c : Fin 256, 255 - c.val = c.val ^^^ 255 := by decide
  exact key ⟨c, h⟩
def garF (arg dl : Int) : Ft := ⟨0, 4, dl, arg, []⟩
def plaF (dl : Int) : Ft := ⟨1, 0, dl, 0, []⟩
theorem garbled (few : List Nat) (hf : ∀ c ∈ few, c < 256) (arg dl : Int) : (Cr.opened (spoilL (Cr.seal_ few) (garF arg dl))).2 = 8 ∧ (spoilL (Cr.seal_ few) (garF arg dl)).length = few.length + 4 ∧ ∀ c ∈ spoilL (Cr.seal_ few) (garF arg dl), c < 256 := by
  have hs := Cr.seal_lt hf
  have hl := Cr.seal_len few
  have hne : Cr.seal_ few ≠ [] := fun h => by rw [h] at hl; simp at hl
  have e : spoilL (Cr.seal_ few) (garF arg dl) = (Cr.seal_ few).set (gPlace (Cr.seal_ few).length arg) (255 - (Cr.seal_ few).getD (gPlace (Cr.seal_ few).length arg) 0) := by
    unfold spoilL garF
    rw [if_neg (by show ¬ (4 : Int) = 5; omega), if_neg (by show ¬ (4 : Int) = 3; omega), if_pos ⟨rfl, hne⟩]
  rw [e]
  have hj : gPlace (Cr.seal_ few).length arg < (Cr.seal_ few).length := by
    unfold gPlace
    have h5 : 0 ≤ arg % ((Cr.seal_ few).length : Int) := Int.emod_nonneg _ (by omega)
    have h6 : arg % ((Cr.seal_ few).length : Int) < (Cr.seal_ few).length := Int.emod_lt_of_pos _ (by omega)
    omega
  generalize gPlace (Cr.seal_ few).length arg = j at *
  have hc : (Cr.seal_ few).getD j 0 < 256 := getD_lt hs j
  rw [not255 _ hc]
  have hx : ∀ c ∈ (Cr.seal_ few).set j ((Cr.seal_ few).getD j 0 ^^^ 255), c < 256 := fun c hc' => by
    rcases List.mem_or_eq_of_mem_set hc' with h | h
    · exact hs c h
    · rw [h]; exact Nat.xor_lt_two_pow (n := 8) hc (by decide)
  refine ⟨?_, by rw [List.length_set, hl], hx⟩
  have h := Cr.opened_burst (l := few) (x := (Cr.seal_ few).set j ((Cr.seal_ few).getD j 0 ^^^ 255)) hf hx (by rw [List.length_set, hl]) (8 * j) 255 (by decide) (by rw [hl] at hj; omega) (num_set _ _ _ hj)
  rw [h]; rfl
def conX : Win := ⟨2, 0, 1, 0, 9, 100⟩
theorem garb_law (data : List Nat) (hd : data.length ≤ 64) (arg dl : Int) : ∃ t : Int, 2 ≤ t ∧ t ≤ 1002 ∧
    sendL [] 0 [conX] [garF arg dl, plaF dl] 1 1 0 data = ([⟨t, 0, 1, 0, spoilL data (garF arg dl)⟩], 1, true) ∧
    sendL [⟨t, 0, 1, 0, spoilL data (garF arg dl)⟩] 1 [conX] [garF arg dl, plaF dl] 1 1 0 data = ([⟨t, 0, 1, 0, spoilL data (garF arg dl)⟩, ⟨t, 1, 1, 0, data⟩], 2, true) ∧
    stepK [⟨t, 0, 1, 0, spoilL data (garF arg dl)⟩, ⟨t, 1, 1, 0, data⟩] 1002 = 2 := by
  have hw : winW [conX] 1 0 1 = some conX := by unfold winW; rw [show min (1 : Int) 0 = 0 from rfl, show max (1 : Int) 0 = 1 from rfl]; rfl
  have hd0 : 0 ≤ dl0 (garF arg dl) ∧ dl0 (garF arg dl) ≤ 1000 := by unfold dl0; omega
  have he : dl0 (plaF dl) = dl0 (garF arg dl) := rfl
  have hlt : ¬ conX.r < (data.length : Int) := by show ¬ (100 : Int) < _; omega
  have hsp : spoilL data (plaF dl) = data := by
    unfold spoilL plaF
    rw [if_neg (by show ¬ (0 : Int) = 5; omega), if_neg (by show ¬ (0 : Int) = 3; omega), if_neg (fun h => by have := h.1; simp at this)]
  have f0 : fateL [garF arg dl, plaF dl] 0 = garF arg dl := rfl
  have f1 : fateL [garF arg dl, plaF dl] 1 = plaF dl := rfl
  refine ⟨2 + dl0 (garF arg dl), by omega, by omega, ?_, ?_, stepK_all (fun x hx => ?_)⟩
  · unfold sendL
    rw [hw]
    simp only [sendR]
    rw [if_neg hlt, f0]
    have : delays (garF arg dl) = [dl0 (garF arg dl)] := rfl
    rw [this]
    rfl
  · unfold sendL
    rw [hw]
    simp only [sendR]
    rw [if_neg hlt, f1]
    have : delays (plaF dl) = [dl0 (plaF dl)] := rfl
    rw [this, he]
    show (putL _ (flight (plaF dl) 1 1 1 0 data (dl0 (garF arg dl))), (2 : Int), true) = _
    have e2 : flight (plaF dl) 1 1 1 0 data (dl0 (garF arg dl)) = ⟨2 + dl0 (garF arg dl), 1, 1, 0, data⟩ := by
      unfold flight; rw [hsp]; rfl
    rw [e2]
    have hb : fBefore ⟨2 + dl0 (garF arg dl), 1, 1, 0, data⟩ ⟨2 + dl0 (garF arg dl), 0, 1, 0, spoilL data (garF arg dl)⟩ = true := by simp [fBefore]
    simp [putL, putK, hb]
  · simp at hx
    rcases hx with rfl | rfl
    · show 2 + dl0 (garF arg dl) ≤ 1002; omega
    · show 2 + dl0 (garF arg dl) ≤ 1002; omega
theorem fts_two {A : World} {g : Nat} {f f' : Ft} (hf : f.fg = []) (hf' : f'.fg = []) (h : Blk A g #[.int .i64 f.m, .int .i64 f.k, .int .i64 f.dl, .int .i64 f.a, .slice none 0 0, .int .i64 f'.m, .int .i64 f'.k, .int .i64 f'.dl, .int .i64 f'.a, .slice none 0 0] 36) : Fts (fun b => b < A.heap.size) A (.slice (some ⟨g, 0, none⟩) 2 2) [f, f'] := by
  refine ⟨[.int .i64 f.m, .int .i64 f.k, .int .i64 f.dl, .int .i64 f.a, .slice none 0 0, .int .i64 f'.m, .int .i64 f'.k, .int .i64 f'.dl, .int .i64 f'.a, .slice none 0 0], ⟨rfl, .inr ⟨_, 2, rfl, Nat.le_refl _, by decide, fun _ => ⟨g, 0, rfl, blk_lt h, blk_lt h, fun j hj => ?_⟩⟩⟩, fun i x hx => ?_⟩
  · rw [Nat.zero_add, blk_cell h j]
    match j, hj with
    | 0, _ => rfl
    | 1, _ => rfl
    | 2, _ => rfl
    | 3, _ => rfl
    | 4, _ => rfl
    | 5, _ => rfl
    | 6, _ => rfl
    | 7, _ => rfl
    | 8, _ => rfl
    | 9, _ => rfl
    | j + 10, hj => simp at hj; omega
  · match i, hx with
    | 0, hx =>
      simp at hx; subst hx
      refine ⟨rfl, rfl, rfl, rfl, ?_⟩
      show Sl _ A (.slice none 0 0) (u8s f.fl.d)
      rw [show f.fl.d = [] from hf]
      exact Sl.nil _ _
    | 1, hx =>
      simp at hx; subst hx
      refine ⟨rfl, rfl, rfl, rfl, ?_⟩
      show Sl _ A (.slice none 0 0) (u8s f'.fl.d)
      rw [show f'.fl.d = [] from hf']
      exact Sl.nil _ _
    | i + 2, hx => simp at hx
theorem wins_one {A : World} {g : Nat} {x : Win} (h : Blk A g #[.int .i64 x.k, .int .i64 x.a, .int .i64 x.b, .int .i64 x.f, .int .i64 x.u, .int .i64 x.r] 25) : Wins (fun b => b = g) A (.slice (some ⟨g, 0, none⟩) 1 1) [x] := by
  refine ⟨_, 1, rfl, Nat.le_refl _, by decide, fun k hk => ?_⟩
  obtain rfl : k = 0 := by simp at hk; exact hk
  exact ⟨g, 0, x, rfl, rfl, blk_lt h, rfl, blk_cell h 0, blk_cell h 1, blk_cell h 2, blk_cell h 3, blk_cell h 4, blk_cell h 5⟩
/-- the table of crc, kept -/
def NibX (w : World) : Prop := Cr.Nib w
theorem NibX.keep {S : Nat → Prop} {w w' : World} (h : NibX w) (hk : Keeps S w w') (hs : ∀ b : Nat, b = b → b = 0 → ¬ S b) : NibX w' := Cr.Nib.keep h hk (hs 0 rfl rfl)
theorem NibX.pos {w : World} (h : NibX w) : 0 < w.heap.size := by
  have h0 := h 0 (by omega)
  rcases Nat.eq_zero_or_pos w.heap.size with e | e
  · exfalso
    have : w.heap[0]? = none := by rw [Array.getElem?_eq_none]; omega
    simp [World.cell?, this] at h0
  · exact e
end Go.Proofs.YtffnocjaljgnoaaDoor
