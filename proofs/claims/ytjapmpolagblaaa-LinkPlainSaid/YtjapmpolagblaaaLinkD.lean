/- Flights: clones. -/
import Derived.Test.YtjapmpolagblaaaLinkC
import Derived.Laws.OwnMore
import Derived.Deep.DrawnRows
namespace Go.Proofs.Ytjapmpolagblaaa
open Go.RowKit
attribute [local go_sem ↓] Go.wp_at_zero Go.wp_at_succ
theorem infoU8 : (Try.prog.info? 5).map (fun i => (i.zero, i.size, i.bytes)) = some (some (.int .u8 0), 1, 1) := by kernel_rfl
theorem infoFl : (Try.prog.info? 59).map (fun i => (i.size, i.bytes)) = some (5, 56) := by kernel_rfl
theorem infoFlz : ((Try.prog.info? 59).bind (·.zero)).map (fun z => z.cells) = some #[.int .i64 0, .int .i64 0, .int .i64 0, .int .i64 0, .slice none 0 0] := by kernel_rfl
theorem fl_parts : ∃ i z, Try.prog.info? 59 = some i ∧ i.zero = some z ∧ i.size = 5 ∧ i.bytes = 56 ∧ z.cells.size = 5 := by
  obtain ⟨i, hi, h1⟩ := Option.map_eq_some_iff.1 infoFl
  have h2 := infoFlz
  rw [hi] at h2
  obtain ⟨z, hz, h3⟩ := Option.map_eq_some_iff.1 h2
  simp only [Prod.mk.injEq] at h1
  exact ⟨i, z, hi, hz, h1.1, h1.2, by rw [h3]; rfl⟩
def NewRet (w : World) (e : TypeId) (xs : List Value) (r : Ending) (w' : World) : Prop := ∃ a n c, r = .returned (.slice a n c) ∧ n = xs.length ∧ Own (fun k => w.heap.size ≤ k) w' e 1 (.slice a n c) n xs ∧ Keeps (fun _ => False) w w'
theorem own_sl {w : World} {a : Option Addr} {n c : Nat} {S : Nat → Prop} {xs : List Nat} (h : Own S w 5 1 (.slice a n c) n (u8s xs)) (hn : n = (u8s xs).length) : Sl S w (.slice a n c) (u8s xs) := row_sl h.row hn.symm
theorem own_none {S : Nat → Prop} {w : World} {e : TypeId} {size : Nat} {v : Value} {n : Nat} {xs : List Value} (h : Own S w e size v n xs) : Own (fun b => v.ownBlock = some b) w e size v n xs := ⟨h.1, fun _ hk => hk⟩
set_option maxRecDepth 100000 in
set_option maxHeartbeats 400000 in
theorem CloneB_any (K : Nat → Prop) (v : Value) (b : List Nat) (w : World) (hv : Sl K w v (u8s b)) (hm : b.length ≤ 140737488351232) :
    Calls Try.prog 35 #[v] w fun e w' => NewRet w 5 (u8s b) e w' := by
  obtain ⟨i0, hi, hz0, hz1, hz2⟩ := info_parts infoU8
  have hv0 := hid hv
  have HM := hid hm; clear hm
  rcases hv.bcases with ⟨rfl, rfl⟩ | ⟨bb, cap, rfl⟩
  · clear hv hv0
    have hq : ∀ (w : World) (a : Option Addr) (n c n' c' : Nat), (binOp .eql 35 (.slice a n c) (.slice none n' c')).run Try.prog w = .ok (.bool a.isNone) w := fun w a n c n' c' => Lib.run_eql_slice_nil w _ _ a n c n' c' Try.underlying35
    go_enter Try.func35, Try.ntmps35
    go_wp2
    go_ret
    exact ⟨none, 0, 0, rfl, rfl, Own.nil _ _ _ _, Keeps.refl _ _⟩
  · clear hv
    have hq : ∀ (w : World) (a : Option Addr) (n c n' c' : Nat), (binOp .eql 35 (.slice a n c) (.slice none n' c')).run Try.prog w = .ok (.bool a.isNone) w := fun w a n c n' c' => Lib.run_eql_slice_nil w _ _ a n c n' c' Try.underlying35
    have HS : Hd (Sl K (w.alloc (.cells #[] 5)) (.slice (some bb) b.length cap) (u8s b)) := hid (hv0.out.keep (keeps_alloc (fun _ => False) w (.cells #[] 5)) (fun _ _ _ h => h))
    generalize hbl : b.length = n at *
    have HBL := hid hbl; clear hbl
    have HO : Hd (Own (fun k => w.heap.size ≤ k) (w.alloc (.cells #[] 5)) 5 1 (.slice (some ⟨w.heap.size, 0, none⟩) 0 0) 0 []) :=
      hid ⟨World.ownsRow_lit w #[] 0 (Nat.zero_le _) (Nat.zero_le _) rfl, fun k hk => by injection hk with hk; simp at hk; omega⟩
    go_enter Try.func35, Try.ntmps35
    go_wp2_with (at_builtin; refine wpList_append_row rfl _ _ 35 rfl 5 i0 (.int .u8 0) 1 1 Try.underlying35 hi hz0 hz1 hz2 rfl (by decide) _ K _ _ _ _ rfl HO.out n _ rfl (sl_row HS.out (by simp [HBL.out])) (u8s_one _) ?h1 ?h2 ?_)
    case h1 => have := HM.out; simp [maxLen]; omega
    case h2 => have := HM.out; omega
    intro a1 cap1 w2 hown' hgrow; try intro _
    try simp only [Nat.zero_add, List.nil_append] at hown'
    have H1 := hid hown'; have H2 := hid hgrow; clear hown' hgrow
    go_wp2
    go_ret
    refine ⟨a1, n, cap1, by simp, by simp [HBL.out], ?_, ?_⟩
    · have h1 := H1.out.mono (K' := fun k => w.heap.size ≤ k) (fun b hb hh => by
        rcases hh with hh | hh
        · exact hh
        · omega)
      simpa [HBL.out] using h1
    · exact ((keeps_alloc _ w _).trans' H2.out (fun i hi hs => by omega))
/-- a flight: its tick, its number, from, to, its bytes -/
structure Flt where
  t : Int
  n : Int
  f : Int
  g : Int
  d : List Nat
def FlCells (K : Nat → Prop) (w : World) (c : Nat → Value) (x : Flt) : Prop :=
  c 0 = .int .i64 x.t ∧ c 1 = .int .i64 x.n ∧ c 2 = .int .i64 x.f ∧ c 3 = .int .i64 x.g ∧ Sl K w (c 4) (u8s x.d)
def Fls (K : Nat → Prop) (w : World) (v : Value) (l : List Flt) : Prop :=
  ∃ xs, Row K w 5 v l.length xs ∧ ∀ i x, l[i]? = some x → FlCells K w (fun j => xs.getD (i * 5 + j) undef) x
theorem FlCells.keep {K S : Nat → Prop} {w w' : World} {c : Nat → Value} {x : Flt} (h : FlCells K w c x) (hk : Keeps S w w') (hd : ∀ b, b < w.heap.size → K b → ¬ S b) : FlCells K w' c x := ⟨h.1, h.2.1, h.2.2.1, h.2.2.2.1, h.2.2.2.2.keep hk hd⟩
theorem FlCells.mono {K K' : Nat → Prop} {w : World} {c : Nat → Value} {x : Flt} (h : FlCells K w c x) (hd : ∀ b, b < w.heap.size → K b → K' b) : FlCells K' w c x := ⟨h.1, h.2.1, h.2.2.1, h.2.2.2.1, h.2.2.2.2.mono hd⟩
theorem Fls.keep {K S : Nat → Prop} {w w' : World} {v : Value} {l : List Flt} (h : Fls K w v l) (hk : Keeps S w w') (hd : ∀ b, b < w.heap.size → K b → ¬ S b) : Fls K w' v l := by
  obtain ⟨xs, h1, h2⟩ := h
  exact ⟨xs, h1.keep hk hd, fun i x hi => (h2 i x hi).keep hk hd⟩
theorem Fls.mono {K K' : Nat → Prop} {w : World} {v : Value} {l : List Flt} (h : Fls K w v l) (hd : ∀ b, b < w.heap.size → K b → K' b) : Fls K' w v l := by
  obtain ⟨xs, h1, h2⟩ := h
  exact ⟨xs, h1.mono hd, fun i x hi => (h2 i x hi).mono hd⟩
/-- flights in a row of the call's own, with bytes of its own -/
def FlO (B : Nat) (w : World) (v : Value) (l : List Flt) : Prop :=
  ∃ xs, Own (fun b => v.ownBlock = some b) w 59 5 v l.length xs ∧ (∀ b, v.ownBlock = some b → B ≤ b) ∧ ∀ i x, l[i]? = some x → FlCells (fun b => B ≤ b ∧ v.ownBlock ≠ some b) w (fun j => xs.getD (i * 5 + j) undef) x
theorem FlO.fls {B : Nat} {w : World} {v : Value} {l : List Flt} (h : FlO B w v l) : Fls (fun b => B ≤ b) w v l := by
  obtain ⟨xs, h1, h2, h3⟩ := h
  exact ⟨xs, h1.row.mono (fun b _ hb => h2 b hb), fun i x hi => (h3 i x hi).mono (fun b _ hb => hb.1)⟩
theorem FlO.keep {B : Nat} {S : Nat → Prop} {w w' : World} {v : Value} {l : List Flt} (h : FlO B w v l) (hk : Keeps S w w') (hd : ∀ b, b < w.heap.size → B ≤ b → ¬ S b) : FlO B w' v l := by
  obtain ⟨xs, h1, h2, h3⟩ := h
  exact ⟨xs, h1.keep hk (fun b hb hh => hd b hb (h2 b hh)), h2, fun i x hi => (h3 i x hi).keep hk (fun b hb hh => hd b hb hh.1)⟩
theorem fl_one {K : Nat → Prop} {w : World} {xs : List Value} {l : List Flt} (hl : xs.length = l.length * 5) (h : ∀ i x, l[i]? = some x → FlCells K w (fun j => xs.getD (i * 5 + j) undef) x) : ∀ u ∈ xs, u.oneCell' = true := by
  intro u hu
  obtain ⟨p, hp, rfl⟩ := List.getElem_of_mem hu
  have hi : p / 5 < l.length := by omega
  have key : ∀ j, p % 5 = j → xs[p] = xs.getD (p / 5 * 5 + j) undef := fun j hj => by
    have : p / 5 * 5 + j = p := by omega
    rw [this, List.getD, List.getElem?_eq_getElem hp]; rfl
  obtain ⟨c0, c1, c2, c3, c4⟩ := h _ _ (List.getElem?_eq_getElem hi)
  rcases (show p % 5 = 0 ∨ p % 5 = 1 ∨ p % 5 = 2 ∨ p % 5 = 3 ∨ p % 5 = 4 by omega) with hj | hj | hj | hj | hj
  · rw [key 0 hj]; exact (congrArg Value.oneCell' c0).trans rfl
  · rw [key 1 hj]; exact (congrArg Value.oneCell' c1).trans rfl
  · rw [key 2 hj]; exact (congrArg Value.oneCell' c2).trans rfl
  · rw [key 3 hj]; exact (congrArg Value.oneCell' c3).trans rfl
  · rw [key 4 hj]
    obtain ⟨a, cap, e, _⟩ := c4.bytes
    exact (congrArg Value.oneCell' e).trans rfl
def CloneFPost (w : World) (xs : List Value) (n : Nat) (r : Ending) (w' : World) : Prop := ∃ a c, r = .returned (.slice a n c) ∧ Own (fun k => w.heap.size ≤ k) w' 59 5 (.slice a n c) n xs ∧ Keeps (fun _ => False) w w'
set_option maxRecDepth 100000 in set_option maxHeartbeats 1000000 in
theorem CloneF_any (K : Nat → Prop) (v : Value) (l : List Flt) (xs : List Value) (w : World) (hv : Row K w 5 v l.length xs) (hone : ∀ u ∈ xs, u.oneCell' = true) (hm : l.length ≤ 1000000000) :
    Calls Try.prog 34 #[v] w fun e w' => CloneFPost w xs l.length e w' := by
  obtain ⟨i0, z, hi, hz0, hz1, hz2, hz3⟩ := fl_parts
  have hv0 := hid hv
  have HONE := hid hone; clear hone
  have hq : ∀ (w : World) (a : Option Addr) (n c n' c' : Nat), (binOp .eql 26 (.slice a n c) (.slice none n' c')).run Try.prog w = .ok (.bool a.isNone) w := fun w a n c n' c' => Lib.run_eql_slice_nil w _ _ a n c n' c' Try.underlying26
  generalize hbl : l.length = n at *
  rcases hv with ⟨hl, ⟨rfl, rfl⟩ | ⟨bb, cap, rfl, _, _, _⟩⟩
  · obtain rfl := List.eq_nil_of_length_eq_zero (by omega : xs.length = 0)
    clear hv0
    go_enter Try.func34, Try.ntmps34
    go_wp2
    go_ret
    exact ⟨none, 0, rfl, Own.nil _ _ _ _, Keeps.refl _ _⟩
  · have HS : Hd (Row K (w.alloc (.cells #[] 59)) 5 (.slice (some bb) n cap) n xs) := hid (hv0.out.keep (keeps_alloc (fun _ => False) w (.cells #[] 59)) (fun _ _ _ h => h))
    have HO : Hd (Own (fun k => w.heap.size ≤ k) (w.alloc (.cells #[] 59)) 59 5 (.slice (some ⟨w.heap.size, 0, none⟩) 0 0) 0 []) :=
      hid ⟨World.ownsRow_lit w #[] 0 (Nat.zero_le _) (Nat.zero_le _) rfl, fun k hk => by injection hk with hk; simp at hk; omega⟩
    go_enter Try.func34, Try.ntmps34
    go_wp2_with (at_builtin; refine wpList_append_row rfl _ _ 26 rfl 59 i0 z 5 56 Try.underlying26 hi hz0 hz1 hz2 hz3 (by decide) _ K _ _ _ _ rfl HO.out n _ rfl HS.out HONE.out ?h1 ?h2 ?_)
    case h1 => simp [maxLen]; omega
    case h2 => omega
    intro a1 cap1 w2 hown' hgrow; try intro _
    try simp only [Nat.zero_add, List.nil_append] at hown'
    have H1 := hid hown'; have H2 := hid hgrow; clear hown' hgrow
    go_wp2
    go_ret
    refine ⟨a1, cap1, by simp, ?_, ?_⟩
    · have h1 := H1.out.mono (K' := fun k => w.heap.size ≤ k) (fun b hb hh => by
        rcases hh with hh | hh
        · exact hh
        · omega)
      simpa using h1
    · exact ((keeps_alloc _ w _).trans' H2.out (fun i hi hs => by omega))
end Go.Proofs.Ytjapmpolagblaaa
