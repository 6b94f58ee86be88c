/- Custody: FileH, FileI, FileJ, FileK, FileL: walks and plain facts. -/
import Derived.Test.YtgfekgceeigdiaaDoorFileOne
import Derived.BigRegion
import Derived.Deep.CutRange
import Derived.Deep.OwnRows
import Derived.Deep.RegionHeld
import Derived.Laws.OwnMore
import Derived.RangeFuncNested
import Derived.RangeFuncBound
import Derived.RangeFuncLeaves
import Derived.Shelf.Abstract
import Derived.WalkKit
import Derived.OwnWalkIn
import Derived.TacticsInMore
import Derived.LoopNIn
import Derived.LoopIn
import Derived.Deep.RegionHeld3
namespace Go.Proofs.YtgfekgceeigdiaaDoor
open Go.RowKit
attribute [local go_sem ↓] Go.wp_at_zero Go.wp_at_succ
def confl (M : Pm) (x : Seg) (k : Nat) : Bool := M.hv.getD (x.o.toNat + k) false && (M.dt.getD (x.o.toNat + k) 0 != x.d.getD k 0)
def initM (M : Pm) (x : Seg) : Pm := if M.kn then M else ⟨M.id, true, x.s, List.replicate x.t.toNat false, List.replicate x.t.toNat 0⟩
def ovr {α : Type} (l : List α) (o : Nat) (d : List α) : List α := l.take o ++ d ++ l.drop (o + d.length)
def overM (M : Pm) (x : Seg) : Pm := ⟨M.id, M.kn, M.sm, ovr M.hv x.o.toNat (List.replicate x.d.length true), ovr M.dt x.o.toNat x.d⟩
def anyC (M : Pm) (x : Seg) : Bool := (List.range x.d.length).any (confl M x)
def putE (M : Pm) (x : Seg) : Int := if x.f ≠ M.id then 1 else if ¬ Valid x then 5 else if M.kn = true ∧ (x.t ≠ M.dt.length ∨ x.s ≠ M.sm) then 7 else if anyC (initM M x) x then 8 else 0
def putM (M : Pm) (x : Seg) : Pm := if putE M x = 0 then overM (initM M x) x else if putE M x = 8 then initM M x else M
def PutPost (Z : Nat → Prop) (w : World) (p : Nat) (M : Pm) (x : Seg) (e : Ending) (w' : World) : Prop := e = .returned (.int .i64 (putE M x)) ∧ PartR (fun b => Z b ∨ w.heap.size ≤ b) w' p (putM M x) ∧ Keeps Z w w'
theorem ovr_length {α : Type} {l : List α} {o : Nat} {d : List α} (h : o + d.length ≤ l.length) : (ovr l o d).length = l.length := by
  unfold ovr; rw [List.length_append, List.length_append, List.length_take, List.length_drop]; omega
theorem ovr_nil {α : Type} (l : List α) (o : Nat) : ovr l o [] = l := by unfold ovr; simp
theorem ovr_get {α : Type} {l d : List α} {o : Nat} (h : o + d.length ≤ l.length) (i : Nat) : (ovr l o d)[i]? = if i < o then l[i]? else if i < o + d.length then d[i - o]? else l[i]? := by
  unfold ovr
  have e3 : (l.take o).length = o := by rw [List.length_take]; omega
  rw [List.append_assoc]
  by_cases h1 : i < o
  · rw [if_pos h1, List.getElem?_append_left (by rw [e3]; exact h1), List.getElem?_take, if_pos h1]
  · rw [if_neg h1, List.getElem?_append_right (by rw [e3]; omega), e3]
    by_cases h2 : i < o + d.length
    · rw [if_pos h2, List.getElem?_append_left (by omega)]
    · rw [if_neg h2, List.getElem?_append_right (by omega), List.getElem?_drop]
      congr 1; omega
/-- one more of it -/
theorem ovr_set {α : Type} {l d : List α} {o k : Nat} {x : α} (hx : d[k]? = some x) (h : o + d.length ≤ l.length) : (ovr l o (d.take k)).set (o + k) x = ovr l o (d.take (k + 1)) := by
  have hk : k < d.length := (List.getElem?_eq_some_iff.1 hx).1
  have e1 : (d.take k).length = k := by rw [List.length_take]; omega
  have e2 : (d.take (k + 1)).length = k + 1 := by rw [List.length_take]; omega
  have el : (ovr l o (d.take k)).length = l.length := ovr_length (by rw [e1]; omega)
  refine List.ext_getElem? (fun i => ?_)
  rw [List.getElem?_set, el, ovr_get (by rw [e1]; omega), ovr_get (by rw [e2]; omega), e1, e2, List.getElem?_take, List.getElem?_take]
  by_cases hi : o + k = i
  · subst hi
    rw [if_pos rfl, if_pos (by omega), if_neg (by omega), if_pos (by omega), if_pos (by omega), show o + k - o = k by omega, hx]
  · rw [if_neg hi]
    by_cases h1 : i < o
    · rw [if_pos h1, if_pos h1]
    · rw [if_neg h1, if_neg h1]
      by_cases h2 : i < o + k
      · rw [if_pos h2, if_pos (by omega), if_pos (by omega), if_pos (by omega)]
      · rw [if_neg h2, if_neg (by omega)]
theorem initM_ok {M : Pm} {x : Seg} (h : M.ok) (hv : Valid x) (hs : x.s < 4294967296) : (initM M x).ok := by
  unfold initM
  split
  · exact h
  · exact ⟨by simp, by simp; have := hv.2.1; omega, fun c hc => by have := List.eq_of_mem_replicate hc; omega, hs, fun h => by cases h⟩
theorem initM_len {M : Pm} {x : Seg} (hv : Valid x) (h : ¬ (M.kn = true ∧ (x.t ≠ M.dt.length ∨ x.s ≠ M.sm))) : ((initM M x).dt.length : Int) = x.t := by
  unfold initM
  split
  · rename_i hk
    have : ¬ (x.t ≠ M.dt.length ∨ x.s ≠ M.sm) := fun h' => h ⟨hk, h'⟩
    omega
  · show ((List.replicate x.t.toNat 0).length : Int) = x.t
    rw [List.length_replicate]; have := hv.1; omega
theorem own_head {S : Nat → Prop} {w : World} {e : TypeId} {size : Nat} {a : Option Addr} {n m c : Nat} {xs : List Value} (h : Own S w e size (.slice a n c) m xs) (h0 : 0 < n) : ∃ g, a = some ⟨g, 0, none⟩ ∧ S g := by
  rcases h.1.2 with ⟨h1, _⟩ | ⟨g, cap, cur, h1, _⟩
  · injection h1 with h1 h2; omega
  · injection h1 with h1; exact ⟨g, h1, h.2 g (by rw [h1]; rfl)⟩
theorem own_self {S : Nat → Prop} {w : World} {e : TypeId} {size : Nat} {v : Value} {n : Nat} {xs : List Value} (h : Own S w e size v n xs) : Own (fun b => v.ownBlock = some b) w e size v n xs := ⟨h.1, fun _ hk => hk⟩
theorem own_set {S : Nat → Prop} {w : World} {e : TypeId} {g n c : Nat} {xs : List Value} (h : Own S w e 1 (.slice (some ⟨g, 0, none⟩) n c) n xs) (j : Nat) (u : Value) : Own S (w.setCell ⟨g, j, none⟩ u) e 1 (.slice (some ⟨g, 0, none⟩) n c) n (xs.set j u) := ⟨(h.1.stored j u).1, h.2⟩
/-- two stores into two rows of one's own -/
theorem own_two {w : World} {e1 e2 : TypeId} {g1 g2 n c1 c2 : Nat} {xs1 xs2 : List Value} (h1 : Own (fun b => (Value.slice (some ⟨g1, 0, none⟩) n c1).ownBlock = some b) w e1 1 (.slice (some ⟨g1, 0, none⟩) n c1) n xs1) (h2 : Own (fun b => (Value.slice (some ⟨g2, 0, none⟩) n c2).ownBlock = some b) w e2 1 (.slice (some ⟨g2, 0, none⟩) n c2) n xs2)
    (hne : g1 ≠ g2) (j : Nat) (u1 u2 : Value) : Own (fun b => (Value.slice (some ⟨g1, 0, none⟩) n c1).ownBlock = some b) ((w.setCell ⟨g1, j, none⟩ u1).setCell ⟨g2, j, none⟩ u2) e1 1 (.slice (some ⟨g1, 0, none⟩) n c1) n (xs1.set j u1) ∧
      Own (fun b => (Value.slice (some ⟨g2, 0, none⟩) n c2).ownBlock = some b) ((w.setCell ⟨g1, j, none⟩ u1).setCell ⟨g2, j, none⟩ u2) e2 1 (.slice (some ⟨g2, 0, none⟩) n c2) n (xs2.set j u2) :=
  ⟨(own_set h1 j u1).keep (keeps_set (fun b => b = g2) _ _ _ rfl) (fun b _ h hb => by injection h with h; exact hne (h.trans hb)),
   own_set (h2.keep (keeps_set (fun b => b = g1) _ _ _ rfl) (fun b _ h hb => by injection h with h; exact hne (hb.symm.trans h.symm))) j u2⟩
theorem bls_set (l : List Bool) (j : Nat) (b : Bool) : (bls l).set j (.bool b) = bls (l.set j b) := by simp [bls, List.map_set]
theorem u8s_set (l : List Nat) (j c : Nat) : (u8s l).set j (.int .u8 (c : Nat)) = u8s (l.set j c) := by simp [u8s, List.map_set]
/-- the second loop of Put: the first m bytes are laid over -/
def PutL (V : World) (p : Nat) (y : Pm) (x : Seg) (q nd n : Nat) (ah : Option Addr) (ch : Nat) (ad : Option Addr) (cd m : Nat) (w : World) : Prop :=
  Own (fun b => (Value.slice ah n ch).ownBlock = some b) w 4 1 (.slice ah n ch) n (bls (ovr y.hv q ((List.replicate nd true).take m))) ∧
  Own (fun b => (Value.slice ad n cd).ownBlock = some b) w 5 1 (.slice ad n cd) n (u8s (ovr y.dt q (x.d.take m))) ∧
  Blk w p #[.int .i64 y.id, .bool y.kn, .int .u32 (y.sm : Int), .slice ah n ch, .slice ad n cd] 93 ∧
  Keeps (fun b => (Value.slice ah n ch).ownBlock = some b ∨ (Value.slice ad n cd).ownBlock = some b) V w
theorem PutL.drew {V : World} {p : Nat} {y : Pm} {x : Seg} {q nd n : Nat} {ah : Option Addr} {ch : Nat} {ad : Option Addr} {cd m : Nat} {w : World} (h : PutL V p y x q nd n ah ch ad cd m w) : PutL V p y x q nd n ah ch ad cd m w.drew := ⟨h.1, h.2.1, blk_drew h.2.2.1, h.2.2.2.drew⟩
theorem infoBo : (Tryd.prog.info? 4).map (fun i => (i.zero, i.size, i.bytes)) = some (some (.bool false), 1, 1) := by kernel_rfl
theorem made_b (n : Nat) : madeCells #[.bool false] n = (bls (List.replicate n false)).toArray := by
  apply Array.toList_inj.mp
  rw [toList_madeCells_one]; simp [bls]
theorem made_u (n : Nat) : madeCells #[.int .u8 0] n = (u8s (List.replicate n 0)).toArray := by
  apply Array.toList_inj.mp
  rw [toList_madeCells_one]; simp [u8s]
/-- the part's two slices, made -/
def Mk9 (W wv : World) (p n : Nat) (id : Int) (s : Nat) (wx : World) : Prop := ∃ bh bd, bh ≠ bd ∧ W.heap.size ≤ bh ∧ W.heap.size ≤ bd ∧ Hd (Blk wx bh (bls (List.replicate n false)).toArray 4) ∧ Hd (Blk wx bd (u8s (List.replicate n 0)).toArray 5) ∧
  Hd (Blk wx p #[.int .i64 id, .bool true, .int .u32 (s : Int), .slice (some ⟨bh, 0, none⟩) n n, .slice (some ⟨bd, 0, none⟩) n n] 93) ∧ Hd (Keeps (fun b => b = p) wv wx)
set_option maxRecDepth 100000 in set_option maxHeartbeats 1000000 in
theorem Put_any (Z : Nat → Prop) (p : Nat) (M : Pm) (x : Seg) (a : Option Addr) (c : Nat) (w : World) (hP : PartR Z w p M) (hM : M.ok) (hx : Sl (fun b => ¬ Z b ∧ b < w.heap.size) w (.slice a x.d.length c) (u8s x.d)) (hx8 : ∀ c ∈ x.d, c < 256) (hxs : x.s < 4294967296) :
    Calls Tryd.prog 17 #[.pointer (some ⟨p, 0, none⟩), .agg #[.int .i64 x.f, .int .i64 x.o, .int .i64 x.t, .int .u32 (x.s : Int), .slice a x.d.length c]] w fun e w' => PutPost Z w p M x e w' := by
  have HP := hid hP; have HM := hid hM; have HX := hid hx; have HX8 := hid hx8
  obtain ⟨ah, ch, ad, cd, b1, zp, o1, o2⟩ := hP
  have hpw : p < w.heap.size := blk_lt b1
  have B0 := hid b1; have O1 := hid o1; have O2 := hid o2
  have HE : Hd (putE M x = if x.f ≠ M.id then 1 else if ¬ Valid x then 5 else if M.kn = true ∧ (x.t ≠ M.dt.length ∨ x.s ≠ M.sm) then 7 else if anyC (initM M x) x then 8 else 0) := hid rfl
  have HPM : Hd (putM M x = if putE M x = 0 then overM (initM M x) x else if putE M x = 8 then initM M x else M) := hid rfl
  have HINL := hid (fun h1 h2 => initM_len (M := M) (x := x) h1 h2); have HINO := hid (fun h => initM_ok (M := M) (x := x) hM h hxs)
  have HML := hid hM.len
  obtain ⟨E, hE⟩ : ∃ E, putE M x = E := ⟨_, rfl⟩
  have HEE := hid hE
  have RET : Hd (∀ (e : Int) (w' : World), putE M x = e → e ≠ 0 → e ≠ 8 → Keeps (fun _ => False) w w' → PutPost Z w p M x (.returned (.int .i64 e)) w') := hid (fun e w' h1 h2 h3 hk => by
    refine ⟨by rw [h1], ?_, hk.mono (fun _ _ h => h.elim)⟩
    rw [HPM.out, h1, if_neg h2, if_neg h3]
    exact (HP.out.keep hk (fun _ _ _ h => h)).mono (fun b _ h => .inl h))
  clear b1 o1 o2 hx hx8 hM hE
  obtain ⟨y, hy⟩ : ∃ y, initM M x = y := ⟨_, rfl⟩
  have HY := hid hy
  go_enter Tryd.func17, Tryd.ntmps17
  go_upto_region 1 with fail
  generalize hW : World.alloc w _ = W
  have BS : Hd (Blk W w.heap.size #[.int .i64 x.f, .int .i64 x.o, .int .i64 x.t, .int .u32 (x.s : Int), .slice a x.d.length c] 57) := hid (by rw [← hW]; exact blk_new _ _ _)
  have KW : Hd (Keeps (fun _ => False) w W) := hid (by rw [← hW]; exact keeps_alloc _ _ _)
  have zW : w.heap.size + 1 ≤ W.heap.size := by rw [← hW]; simp
  clear hW hy
  have BP := hid (blk_keep B0.out KW.out (fun h => h))
  have p0 : W.cell? ⟨p, 0, none⟩ = some (.int .i64 M.id) := blk_cell BP.out 0
  have s0 : W.cell? ⟨w.heap.size, 0, none⟩ = some (.int .i64 x.f) := blk_cell BS.out 0
  have s1 : W.cell? ⟨w.heap.size, 1, none⟩ = some (.int .i64 x.o) := blk_cell BS.out 1
  have s2 : W.cell? ⟨w.heap.size, 2, none⟩ = some (.int .i64 x.t) := blk_cell BS.out 2
  have s3 : W.cell? ⟨w.heap.size, 3, none⟩ = some (.int .u32 (x.s : Int)) := blk_cell BS.out 3
  have s4 : W.cell? ⟨w.heap.size, 4, none⟩ = some (.slice a x.d.length c) := blk_cell BS.out 4
  by_cases hf : x.f = M.id
  · have d0 : (x.f != M.id) = false := by simp; exact hf
    have HF := hid hf; clear hf
    go_quiet (fail)
    go_wp2_with fail
    refine (valid_any x a c _).mono ?_
    by_cases hv : Valid x
    · rw [decide_eq_true hv]
      rintro e w1 ⟨rfl, hk⟩
      have K1 : Hd (Keeps (fun _ => False) W w1) := hid (Keeps.trans (S := fun _ => False) (by repeat (first | (with_reducible exact Keeps.refl _ _) | (with_reducible apply Keeps.drewN) | (with_reducible apply Keeps.drew))) hk)
      have HVA := hid hv
      clear hk p0 s0 s1 s2 s3 s4
      have BP1 := hid (blk_keep BP.out K1.out (fun h => h)); have BS1 := hid (blk_keep BS.out K1.out (fun h => h))
      have p1 : w1.cell? ⟨p, 1, none⟩ = some (.bool M.kn) := blk_cell BP1.out 1
      have p2 : w1.cell? ⟨p, 2, none⟩ = some (.int .u32 (M.sm : Int)) := blk_cell BP1.out 2
      have p4 : w1.cell? ⟨p, 4, none⟩ = some (.slice ad M.dt.length cd) := blk_cell BP1.out 4
      have s2 : w1.cell? ⟨w.heap.size, 2, none⟩ = some (.int .i64 x.t) := blk_cell BS1.out 2
      have s3 : w1.cell? ⟨w.heap.size, 3, none⟩ = some (.int .u32 (x.s : Int)) := blk_cell BS1.out 3
      by_cases hform : M.kn = true ∧ (x.t ≠ M.dt.length ∨ x.s ≠ M.sm)
      · have HR : Hd (∀ w', Keeps (fun _ => False) w1 w' → PutPost Z w p M x (.returned (.int .i64 7)) w') := hid (fun w' hk => RET.out 7 w' (by rw [HE.out, if_neg (fun h => h HF.out), if_neg (fun h => h HVA.out), if_pos hform]) (by omega) (by omega) ((KW.out.trans K1.out).trans hk))
        obtain ⟨h1, h2⟩ := hform
        rw [h1] at p1
        by_cases h3 : x.t = M.dt.length
        · have e1 : (x.t != (M.dt.length : Int)) = false := by simp; exact h3
          have e2 : ((x.s : Int) != (M.sm : Int)) = true := by simp; omega
          clear h1 h2 h3
          go_upto_region 5 with fail
          go_quiet (fail)
          go_wp2
          go_ret
          exact HR.out _ (by repeat (first | (with_reducible exact Keeps.refl _ _) | (with_reducible apply Keeps.drewN) | (with_reducible apply Keeps.drew)))
        · have e1 : (x.t != (M.dt.length : Int)) = true := by simp; exact h3
          clear h1 h2 h3
          go_upto_region 5 with fail
          go_quiet (fail)
          go_wp2
          go_ret
          exact HR.out _ (by repeat (first | (with_reducible exact Keeps.refl _ _) | (with_reducible apply Keeps.drewN) | (with_reducible apply Keeps.drew)))
      · have HNF := hid hform
        have HXT : Hd ((y.dt.length : Int) = x.t) := hid (by rw [← HY.out]; exact HINL.out hv hform)
        have HYO : Hd y.ok := hid (by rw [← HY.out]; exact HINO.out hv)
        obtain ⟨q, hq⟩ : ∃ q : Nat, x.o = q := ⟨x.o.toNat, by have := hv.2.2.2.1; omega⟩
        have hb1 : q + x.d.length ≤ y.dt.length := by have := hv.2.2.2.2; have := HXT.out; omega
        have hb2 : x.d.length ≤ 256 := hv.2.2.1
        have HQ := hid hq
        have HQN : Hd (x.o.toNat = q) := hid (by rw [hq]; simp)
        have hE8 : ∀ e, putE M x = e → (e = if anyC y x then 8 else 0) := fun e he => by rw [← he, HE.out, if_neg (fun h => h HF.out), if_neg (fun h => h HVA.out), if_neg HNF.out, HY.out]
        have HE8 := hid hE8
        clear hE8 hq hform hv
        have kcases : M.kn = true ∨ M.kn = false := by cases M.kn <;> simp
        rcases kcases with hkn | hkn
        · rw [hkn] at p1
          obtain ⟨h3, h4⟩ : x.t = M.dt.length ∧ x.s = M.sm := by
              by_cases h3 : x.t = M.dt.length
              · by_cases h4 : x.s = M.sm
                · exact ⟨h3, h4⟩
                · exact absurd ⟨hkn, .inr h4⟩ HNF.out
              · exact absurd ⟨hkn, .inl h3⟩ HNF.out
          have e1 : (x.t != (M.dt.length : Int)) = false := by simp; exact h3
          have e2 : ((x.s : Int) != (M.sm : Int)) = false := by simp; omega
          have HYM : Hd (y = M) := hid (by rw [← HY.out]; unfold initM; rw [if_pos hkn])
          have HPV : Hd (PartR (fun b => (Z b ∧ b < w.heap.size) ∨ W.heap.size ≤ b) w1 p y) := hid (by rw [HYM.out]; exact (HP.out.mono (fun b h hz => .inl ⟨hz, h⟩)).keep (KW.out.trans K1.out) (fun _ _ _ h => h))
          have HKV : Hd (Keeps (fun b => Z b ∧ b < w.heap.size) w w1) := hid ((KW.out.trans K1.out).mono (fun _ _ h => h.elim))
          have BSV := hid BS1.out
          have zV : W.heap.size ≤ w1.heap.size := K1.out.size
          clear h3 h4 hkn
          go_upto_region 5 with fail
          go_quiet (fail)
          clear e1 e2 s2 s3 p2 p4
          have s4 : w1.cell? ⟨w.heap.size, 4, none⟩ = some (.slice a x.d.length c) := blk_cell BSV.out 4
          obtain ⟨ah', ch', ad', cd', bp, zp', oh, od⟩ := HPV.out
          have BPV := hid bp; have OH := hid oh; have OD := hid od
          have SXV : Hd (Sl (fun b => ¬ Z b ∧ b < w.heap.size) w1 (.slice a x.d.length c) (u8s x.d)) := hid (HX.out.keep HKV.out (fun b _ h1 h2 => h1.1 h2.1))
          clear bp oh od HPV
          have hyl : y.hv.length = y.dt.length := HYO.out.len
          obtain ⟨n, hn⟩ : ∃ n, y.dt.length = n := ⟨_, rfl⟩
          rw [hyl, hn] at BPV OH
          rw [hn] at OD hb1
          have hn6 : n ≤ 65536 := by rw [← hn]; exact HYO.out.max
          have HHL : Hd (y.hv.length = n) := hid (hyl.trans hn)
          have HDL := hid hn
          clear hyl hn
          obtain ⟨nd, hnd⟩ : ∃ nd, x.d.length = nd := ⟨_, rfl⟩
          rw [hnd] at s4 SXV hb1 hb2
          have HND := hid hnd
          clear hnd
          go_wp2_with fail
          go_loopw [74] (fun i wr => ∃ k : Nat, i = .int .i64 k ∧ k ≤ nd ∧ Hd (∀ j, j < k → confl y x j = false) ∧ Hd (Keeps (fun _ => False) w1 wr)) (fun i _ => nd - (intOf i).toNat)
          case atStart => exact ⟨0, rfl, Nat.zero_le _, hid (fun j hj => by omega), hid (by repeat (first | (with_reducible exact Keeps.refl _ _) | (with_reducible apply Keeps.drewN) | (with_reducible apply Keeps.drew)))⟩
          case round =>
            clear s4
            obtain ⟨k, rfl, hk, HC, KR⟩ := hrel
            have k2 : (0 : Int) ≤ k := by omega
            by_cases hkn : k < nd
            · have k1 : (k : Int) < nd := by omega
              obtain ⟨a9, c9, e9, _, _, hel⟩ := (sl_row SXV.out (by rw [u8s_length, HND.out])).form
              injection e9 with e91 e92 e93
              subst e91
              obtain ⟨bb, ob, rfl, hb3, hb4, hcell⟩ := hel (by omega)
              obtain ⟨dk, hdk⟩ : ∃ dk, x.d[k]? = some dk := ⟨x.d[k]'(by rw [HND.out]; exact hkn), List.getElem?_eq_getElem _⟩
              have g0 : wr.cell? ⟨bb, ob + k, none⟩ = some (.int .u8 (dk : Nat)) := keep_cell KR.out (fun h => h) ((hcell k (by omega)).trans (by rw [u8s_getD _ _ (by rw [HND.out]; exact hkn), List.getD, hdk]; rfl))
              obtain ⟨qk, hqk⟩ : ∃ m : Nat, x.o + (k : Int) = m := ⟨q + k, by rw [HQ.out]; omega⟩
              have hqn : qk = q + k := by have := HQ.out; omega
              have hqlt : qk < n := by omega
              have u1 : IntKind.i64.wrap (x.o + (k : Int)) = (qk : Int) := by rw [hqk]; exact IntWalk.i64_in _ (by omega)
              have u2 : IntKind.i64.wrap (qk : Int) = (qk : Int) := IntWalk.i64_in _ (by omega)
              have q1 : (qk : Int) < n := by omega
              have q2 : (0 : Int) ≤ qk := by omega
              obtain ⟨gh, ehh, zgh⟩ := own_head OH.out (by omega)
              subst ehh
              obtain ⟨gd, edd, zgd⟩ := own_head OD.out (by omega)
              subst edd
              have HQK := hid hqn
              have g1 : wr.cell? ⟨gh, qk, none⟩ = some (.bool (y.hv.getD qk false)) := keep_cell KR.out (fun h => h) (by rw [OH.out.1.cellAt qk (by omega)]; simp [bls, List.getD, List.getElem?_eq_getElem (show qk < y.hv.length by rw [HHL.out]; exact hqlt)])
              have g2 : wr.cell? ⟨gd, qk, none⟩ = some (.int .u8 (y.dt.getD qk 0 : Nat)) := keep_cell KR.out (fun h => h) (by rw [OD.out.1.cellAt qk (by omega)]; simp [u8s, List.getD, List.getElem?_eq_getElem (show qk < y.dt.length by rw [HDL.out]; exact hqlt)])
              have BPR := hid (blk_keep BPV.out KR.out (fun h => h)); have BSR := hid (blk_keep BSV.out KR.out (fun h => h))
              have p3 : wr.cell? ⟨p, 3, none⟩ = some (.slice (some ⟨gh, 0, none⟩) n ch') := blk_cell BPR.out 3
              have p4 : wr.cell? ⟨p, 4, none⟩ = some (.slice (some ⟨gd, 0, none⟩) n cd') := blk_cell BPR.out 4
              have s1 : wr.cell? ⟨w.heap.size, 1, none⟩ = some (.int .i64 x.o) := blk_cell BSR.out 1
              have HCO : Hd (confl y x k = (y.hv.getD qk false && (y.dt.getD qk 0 != dk))) := hid (by unfold confl; rw [HQN.out, ← HQK.out]; congr 2; rw [List.getD, hdk]; rfl)
              have HKN := hid hkn; have HDK := hid hdk; clear hdk hqn hel hcell
              generalize hbb : y.hv.getD qk false = hb at *
              generalize hdd : y.dt.getD qk 0 = dd at *
              clear hbb hdd
              cases hb with
              | false =>
                go_wp2
                go_roundw
                case rel => exact ⟨k + 1, by go_num, by omega, hid (fun j hj => by
                  rcases Nat.lt_or_ge j k with h | h
                  · exact HC.out j h
                  · obtain rfl : j = k := by omega
                    rw [HCO.out]; rfl), KR⟩
                case measure => simp [intOf]; omega
              | true =>
                by_cases hdc : dd = dk
                · have m1 : ((dd : Int) != (dk : Int)) = false := by simp; omega
                  have HDC : Hd ((dd != dk) = false) := hid (by simp; exact hdc)
                  clear hdc
                  go_wp2
                  go_roundw
                  case rel => exact ⟨k + 1, by go_num, by omega, hid (fun j hj => by
                  rcases Nat.lt_or_ge j k with h | h
                  · exact HC.out j h
                  · obtain rfl : j = k := by omega
                    rw [HCO.out]; rw [HDC.out]; rfl), KR⟩
                  case measure => simp [intOf]; omega
                · have m1 : ((dd : Int) != (dk : Int)) = true := by simp; omega
                  have HDC : Hd ((dd != dk) = true) := hid (by simp; exact hdc)
                  have HANY : Hd (anyC y x = true) := hid (by unfold anyC; rw [List.any_eq_true]; exact ⟨k, List.mem_range.2 (by rw [HND.out]; exact HKN.out), by rw [HCO.out, HDC.out]; rfl⟩)
                  have HE9 : Hd (putE M x = 8) := hid (by rw [HE8.out _ rfl, HANY.out]; rfl)
                  have HR : Hd (PutPost Z w p M x (.returned (.int .i64 8)) wr) := hid (by
                    refine ⟨by rw [HE9.out], ?_, ((HKV.out.mono (T := Z) (fun b _ h => h.1)).trans (KR.out.mono (fun _ _ h => h.elim)))⟩
                    rw [HPM.out, HE9.out, if_neg (by omega), if_pos rfl, HY.out]
                    refine PartR.mono (Z := fun b => (Z b ∧ b < w.heap.size) ∨ W.heap.size ≤ b) ⟨some ⟨gh, 0, none⟩, ch', some ⟨gd, 0, none⟩, cd', ?_, zp', ?_, ?_⟩ (fun b _ h => by rcases h with h | h; exact .inl h.1; exact .inr (by omega))
                    · rw [HHL.out, HDL.out]; exact BPR.out
                    · rw [HHL.out, HDL.out]; exact OH.out.keep KR.out (fun _ _ _ h => h)
                    · rw [HDL.out]; exact OD.out.keep KR.out (fun _ _ _ h => h))
                  clear hdc
                  go_wp2
                  go_ret
                  exact HR.out
            · have k0 : ¬ ((k : Int) < nd) := by omega
              obtain rfl : k = nd := by omega
              obtain ⟨V2, rfl⟩ : ∃ V2, V2 = wr := ⟨_, rfl⟩
              have HANY : Hd (anyC y x = false) := hid (by unfold anyC; rw [List.any_eq_false]; intro j hj; rw [List.mem_range, HND.out] at hj; rw [HC.out j hj]; simp)
              have HE9 : Hd (putE M x = 0) := hid (by rw [HE8.out _ rfl, HANY.out]; rfl)
              have HS1 : Hd (∀ b, (Value.slice ah' n ch').ownBlock = some b → ((Z b ∧ b < w.heap.size) ∨ W.heap.size ≤ b) ∧ b ≠ p ∧ (Value.slice ad' n cd').ownBlock ≠ some b) := hid (fun b hb => OH.out.2 b hb)
              have HS2 : Hd (∀ b, (Value.slice ad' n cd').ownBlock = some b → ((Z b ∧ b < w.heap.size) ∨ W.heap.size ≤ b) ∧ b ≠ p) := hid (fun b hb => OD.out.2 b hb)
              have BPR := hid (blk_keep BPV.out KR.out (fun h => h)); have BSR := hid (blk_keep BSV.out KR.out (fun h => h))
              have SXR := hid (SXV.out.keep KR.out (fun _ _ _ h => h))
              have OHR : Hd (Own (fun b => (Value.slice ah' n ch').ownBlock = some b) V2 4 1 (.slice ah' n ch') n (bls (ovr y.hv q ((List.replicate k true).take 0)))) := hid (by rw [List.take_zero, ovr_nil]; exact own_self (OH.out.keep KR.out (fun _ _ _ h => h)))
              have ODR : Hd (Own (fun b => (Value.slice ad' n cd').ownBlock = some b) V2 5 1 (.slice ad' n cd') n (u8s (ovr y.dt q (x.d.take 0)))) := hid (by rw [List.take_zero, ovr_nil]; exact own_self (OD.out.keep KR.out (fun _ _ _ h => h)))
              have s4 : V2.cell? ⟨w.heap.size, 4, none⟩ = some (.slice a k c) := by rw [← HND.out]; exact blk_cell BSR.out 4
              clear HC hk
              go_wp2_with fail
              go_loopw [105] (fun i wr => ∃ m : Nat, i = .int .i64 m ∧ m ≤ k ∧ Hd (PutL V2 p y x q k n ah' ch' ad' cd' m wr)) (fun i _ => k - (intOf i).toNat)
              case atStart => exact ⟨0, rfl, Nat.zero_le _, hid ⟨OHR.out, ODR.out, BPR.out, Keeps.refl _ _⟩⟩
              case round =>
                clear s4 OHR ODR
                obtain ⟨m, rfl, hm, PL⟩ := hrel
                obtain ⟨ohm, odm, bpm, km⟩ := PL.out
                have OHM := hid ohm; have ODM := hid odm; have BPM := hid bpm; have KM := hid km
                clear PL ohm odm bpm km
                have k2' : (0 : Int) ≤ m := by omega
                by_cases hkn : m < k
                · have k1 : (m : Int) < k := by omega
                  have SXM := hid (SXR.out.keep KM.out (fun b _ h1 h2 => by rcases h2 with h2 | h2; have := HS1.out b h2; rcases this.1 with h3 | h3; exact h1.1 h3.1; omega; have := HS2.out b h2; rcases this.1 with h3 | h3; exact h1.1 h3.1; omega))
                  have BSM := hid (blk_keep BSR.out KM.out (fun h2 => by rcases h2 with h2 | h2; have := HS1.out _ h2; rcases this.1 with h3 | h3; omega; omega; have := HS2.out _ h2; rcases this.1 with h3 | h3; omega; omega))
                  obtain ⟨a9, c9, e9, _, _, hel⟩ := (sl_row SXM.out (by rw [u8s_length, HND.out])).form
                  injection e9 with e91 e92 e93
                  subst e91
                  obtain ⟨bb, ob, rfl, hb3, hb4, hcell⟩ := hel (by omega)
                  obtain ⟨dk, hdk⟩ : ∃ dk, x.d[m]? = some dk := ⟨x.d[m]'(by rw [HND.out]; exact hkn), List.getElem?_eq_getElem _⟩
                  have g0 : wr.cell? ⟨bb, ob + m, none⟩ = some (.int .u8 (dk : Nat)) := (hcell m (by omega)).trans (by rw [u8s_getD _ _ (by rw [HND.out]; exact hkn), List.getD, hdk]; rfl)
                  obtain ⟨qk, hqk⟩ : ∃ z : Nat, x.o + (m : Int) = z := ⟨q + m, by rw [HQ.out]; omega⟩
                  have hqn : qk = q + m := by have := HQ.out; omega
                  have hqlt : qk < n := by omega
                  have u1 : IntKind.i64.wrap (x.o + (m : Int)) = (qk : Int) := by rw [hqk]; exact IntWalk.i64_in _ (by omega)
                  have u2 : IntKind.i64.wrap (qk : Int) = (qk : Int) := IntWalk.i64_in _ (by omega)
                  have q1 : (qk : Int) < n := by omega
                  have q2 : (0 : Int) ≤ qk := by omega
                  obtain ⟨gh, ehh, zgh⟩ := own_head OHM.out (by omega)
                  subst ehh
                  obtain ⟨gd, edd, zgd⟩ := own_head ODM.out (by omega)
                  subst edd
                  have hne : gh ≠ gd := fun e => (HS1.out gh rfl).2.2 (by rw [e]; rfl)
                  have hgp : gh ≠ p := (HS1.out gh rfl).2.1
                  have hdp : gd ≠ p := (HS2.out gd rfl).2
                  have HQK := hid hqn
                  obtain ⟨v1, g1⟩ : ∃ v, wr.cell? ⟨gh, qk, none⟩ = some v := by rw [OHM.out.1.cellAt qk (by omega)]; exact ⟨_, List.getElem?_eq_getElem (by rw [OHM.out.1.1]; omega)⟩
                  obtain ⟨v2, g2⟩ : ∃ v, wr.cell? ⟨gd, qk, none⟩ = some v := by rw [ODM.out.1.cellAt qk (by omega)]; exact ⟨_, List.getElem?_eq_getElem (by rw [ODM.out.1.1]; omega)⟩
                  have f1 : wr.frozen? ⟨gh, qk, none⟩ = false := OHM.out.1.frozenAt _
                  have f2 : wr.frozen? ⟨gd, qk, none⟩ = false := ODM.out.1.frozenAt _
                  have p3 : wr.cell? ⟨p, 3, none⟩ = some (.slice (some ⟨gh, 0, none⟩) n ch') := blk_cell BPM.out 3
                  have p4 : wr.cell? ⟨p, 4, none⟩ = some (.slice (some ⟨gd, 0, none⟩) n cd') := blk_cell BPM.out 4
                  have s1 : wr.cell? ⟨w.heap.size, 1, none⟩ = some (.int .i64 x.o) := blk_cell BSM.out 1
                  have HST : Hd (∀ w', w' = (wr.setCell ⟨gh, qk, none⟩ (.bool true)).setCell ⟨gd, qk, none⟩ (.int .u8 (dk : Nat)) ∨ w' = (wr.setCell ⟨gd, qk, none⟩ (.int .u8 (dk : Nat))).setCell ⟨gh, qk, none⟩ (.bool true) → (Hd (Own (fun b => (Value.slice (some ⟨gh, 0, none⟩) n ch').ownBlock = some b) w' 4 1 (.slice (some ⟨gh, 0, none⟩) n ch') n (bls (ovr y.hv q ((List.replicate k true).take (m + 1)))))) ∧ (Hd (Own (fun b => (Value.slice (some ⟨gd, 0, none⟩) n cd').ownBlock = some b) w' 5 1 (.slice (some ⟨gd, 0, none⟩) n cd') n (u8s (ovr y.dt q (x.d.take (m + 1)))))) ∧ (Hd (Blk w' p #[.int .i64 y.id, .bool y.kn, .int .u32 (y.sm : Int), .slice (some ⟨gh, 0, none⟩) n ch', .slice (some ⟨gd, 0, none⟩) n cd'] 93)) ∧ Hd (Keeps (fun b => (Value.slice (some ⟨gh, 0, none⟩) n ch').ownBlock = some b ∨ (Value.slice (some ⟨gd, 0, none⟩) n cd').ownBlock = some b) V2 w')) := hid (fun w' hw => by
                    have e1 : (bls (ovr y.hv q ((List.replicate k true).take m))).set qk (.bool true) = bls (ovr y.hv q ((List.replicate k true).take (m + 1))) := by rw [bls_set, HQK.out, ovr_set (by rw [List.getElem?_replicate, if_pos hkn]) (by rw [List.length_replicate, HHL.out]; exact hb1)]
                    have e2 : (u8s (ovr y.dt q (x.d.take m))).set qk (.int .u8 (dk : Nat)) = u8s (ovr y.dt q (x.d.take (m + 1))) := by rw [u8s_set, HQK.out, ovr_set hdk (by rw [HND.out, HDL.out]; exact hb1)]
                    rw [← e1, ← e2]
                    rcases hw with rfl | rfl
                    · obtain ⟨t1, t2⟩ := own_two OHM.out ODM.out hne qk (.bool true) (.int .u8 (dk : Nat))
                      exact ⟨hid t1, hid t2, hid (blk_other (blk_other BPM.out hgp _ _) hdp _ _), hid ((KM.out.setCell (p := ⟨gh, qk, none⟩) (.inl (.inl rfl)) _).setCell (p := ⟨gd, qk, none⟩) (.inl (.inr rfl)) _)⟩
                    · obtain ⟨t2, t1⟩ := own_two ODM.out OHM.out (Ne.symm hne) qk (.int .u8 (dk : Nat)) (.bool true)
                      exact ⟨hid t1, hid t2, hid (blk_other (blk_other BPM.out hdp _ _) hgp _ _), hid ((KM.out.setCell (p := ⟨gd, qk, none⟩) (.inl (.inr rfl)) _).setCell (p := ⟨gh, qk, none⟩) (.inl (.inl rfl)) _)⟩)
                  clear hdk hqn hel hcell hkn
                  have g1' : ∀ v, (wr.setCell ⟨gd, qk, none⟩ v).cell? ⟨gh, qk, none⟩ = some v1 := fun v => (World.cell?_setCell_other wr ⟨gd, qk, none⟩ ⟨gh, qk, none⟩ v (fun e => hne (by injection e with e; exact e.symm))).trans g1
                  have g2' : ∀ v, (wr.setCell ⟨gh, qk, none⟩ v).cell? ⟨gd, qk, none⟩ = some v2 := fun v => (World.cell?_setCell_other wr ⟨gh, qk, none⟩ ⟨gd, qk, none⟩ v (fun e => hne (by injection e with e))).trans g2
                  have HSS : Hd (∀ w', Keeps (fun b => b = gh ∨ b = gd) wr w' → (w'.cell? ⟨p, 3, none⟩ = some (.slice (some ⟨gh, 0, none⟩) n ch') ∧ w'.cell? ⟨p, 4, none⟩ = some (.slice (some ⟨gd, 0, none⟩) n cd') ∧ w'.cell? ⟨w.heap.size, 1, none⟩ = some (.int .i64 x.o))) := hid (fun w' hk => ⟨keep_cell hk (by omega) p3, keep_cell hk (by omega) p4, keep_cell hk (fun h => by rcases h with h | h; have := (HS1.out gh rfl).1; omega; have := (HS2.out gd rfl).1; omega) s1⟩)
                  clear p3 p4 s1
                  go_upto_region 20 with fail
                  go_region_held (fun w' => w'.cell? ⟨p, 3, none⟩ = some (.slice (some ⟨gh, 0, none⟩) n ch') ∧ w'.cell? ⟨p, 4, none⟩ = some (.slice (some ⟨gd, 0, none⟩) n cd') ∧ w'.cell? ⟨w.heap.size, 1, none⟩ = some (.int .i64 x.o)) (exact HSS.out _ (by repeat (first | (with_reducible exact Keeps.refl _ _) | (with_reducible apply Keeps.drewN) | (with_reducible apply Keeps.drew) | (refine Keeps.setCell ?_ (.inl (by first | exact .inl rfl | exact .inr rfl)) _)))) (fail)
                  have HT := HST.out _ (.inl rfl)
                  have HPL : Hd (PutL V2 p y x q k n (some ⟨gh, 0, none⟩) ch' (some ⟨gd, 0, none⟩) cd' (m + 1) (World.drew _)) := hid (PutL.drew ⟨HT.1.out, HT.2.1.out, HT.2.2.1.out, HT.2.2.2.out⟩)
                  clear HT
                  clear HST HSS g1 g2 g1' g2' OHM ODM BPM KM
                  go_wp2
                  go_roundw
                  case rel => first | exact ⟨m + 1, by go_num, by omega, HPL⟩ | exact ⟨_, _, _, ⟨m + 1, by go_num, by omega, HPL⟩, rfl, rfl, rfl⟩
                  case measure => simp [intOf]; omega
                · have k0' : ¬ ((m : Int) < k) := by omega
                  obtain rfl : m = k := by omega
                  have HR : Hd (PutPost Z w p M x (.returned (.int .i64 0)) wr) := hid (by
                    have e0 : (List.replicate m true).take m = List.replicate x.d.length true := by rw [List.take_of_length_le (by rw [List.length_replicate]; exact Nat.le_refl _), HND.out]
                    have e1 : x.d.take m = x.d := List.take_of_length_le (by rw [HND.out]; exact Nat.le_refl _)
                    have l1 : (ovr y.hv q (List.replicate x.d.length true)).length = n := by rw [ovr_length (by rw [List.length_replicate, HND.out, HHL.out]; exact hb1), HHL.out]
                    have l2 : (ovr y.dt q x.d).length = n := by rw [ovr_length (by rw [HND.out, HDL.out]; exact hb1), HDL.out]
                    refine ⟨by rw [HE9.out], ?_, (HKV.out.mono (T := Z) (fun b _ h => h.1)).trans' ((KR.out.mono (fun _ _ h => h.elim)).trans KM.out) (fun i hi h => by rcases h with h | h; have := HS1.out i h; rcases this.1 with h3 | h3; exact h3.1; omega; have := HS2.out i h; rcases this.1 with h3 | h3; exact h3.1; omega)⟩
                    rw [HPM.out, HE9.out, if_pos rfl, HY.out]
                    have hoh := OHM.out; have hod := ODM.out
                    rw [e0] at hoh; rw [e1] at hod
                    refine ⟨ah', ch', ad', cd', ?_, ?_, ?_, ?_⟩
                    · show Blk wr p #[.int .i64 y.id, .bool y.kn, .int .u32 (y.sm : Int), .slice ah' (ovr y.hv x.o.toNat (List.replicate x.d.length true)).length ch', .slice ad' (ovr y.dt x.o.toNat x.d).length cd'] _
                      rw [HQN.out, l1, l2]; exact BPM.out
                    · rcases zp' with h | h; exact .inl h.1; exact .inr (by omega)
                    · show Own _ wr _ 1 (.slice ah' (ovr y.hv x.o.toNat (List.replicate x.d.length true)).length ch') (ovr y.hv x.o.toNat (List.replicate x.d.length true)).length (bls (ovr y.hv x.o.toNat (List.replicate x.d.length true)))
                      rw [HQN.out, l1]
                      exact ⟨hoh.1, fun b hb => by have h := HS1.out b hb; refine ⟨?_, h.2.1, ?_⟩; rcases h.1 with h3 | h3; exact .inl h3.1; exact .inr (by omega); show (Value.slice ad' (ovr y.dt x.o.toNat x.d).length cd').ownBlock ≠ some b; rw [HQN.out, l2]; exact h.2.2⟩
                    · show Own _ wr _ 1 (.slice ad' (ovr y.dt x.o.toNat x.d).length cd') (ovr y.dt x.o.toNat x.d).length (u8s (ovr y.dt x.o.toNat x.d))
                      rw [HQN.out, l2]
                      exact ⟨hod.1, fun b hb => by have h := HS2.out b hb; refine ⟨?_, h.2⟩; rcases h.1 with h3 | h3; exact .inl h3.1; exact .inr (by omega)⟩)
                  clear OHM ODM BPM KM
                  go_wp2
                  go_ret
                  exact HR.out
        · rw [hkn] at p1
          have HYM : Hd (y = ⟨M.id, true, x.s, List.replicate x.t.toNat false, List.replicate x.t.toNat 0⟩) := hid (by rw [← HY.out]; unfold initM; rw [if_neg (by rw [hkn]; simp)])
          obtain ⟨n, hn⟩ : ∃ n : Nat, x.t = n := ⟨x.t.toNat, by have := HVA.out.1; omega⟩
          have hn6 : n ≤ 65536 := by have := HVA.out.2.1; omega
          have HYN : Hd (y = ⟨M.id, true, x.s, List.replicate n false, List.replicate n 0⟩) := hid (by rw [HYM.out, hn]; simp)
          have hmkb : ∀ w, (Instr.makeSlice 91 (.int .i64 x.t) (.int .i64 x.t)).run Tryd.prog w = .ok (.slice (some ⟨w.heap.size, 0, none⟩) n n) (w.alloc (.cells (bls (List.replicate n false)).toArray 4)) := fun w => by rw [hn, ← made_b]; exact run_make_row' (P := Tryd.prog) 91 4 (.bool false) 1 Tryd.underlying91 infoBo rfl .i64 .i64 n (by omega) (by omega) w
          have hmku : ∀ w, (Instr.makeSlice 22 (.int .i64 x.t) (.int .i64 x.t)).run Tryd.prog w = .ok (.slice (some ⟨w.heap.size, 0, none⟩) n n) (w.alloc (.cells (u8s (List.replicate n 0)).toArray 5)) := fun w => by rw [hn, ← made_u]; exact run_make_row' (P := Tryd.prog) 22 5 (.int .u8 0) 1 Tryd.underlying22 Cr.infoU8 rfl .i64 .i64 n (by omega) (by omega) w
          have HN := hid hn; clear hn hkn HYM
          go_upto_region 5 with fail
          go_quiet (fail)
          go_upto_region 8 with fail
          clear s2 s3 p1 p2 p4
          generalize hV1 : World.drewN w1 _ = V1
          have KV1 : Hd (Keeps (fun _ => False) w1 V1) := hid (by rw [← hV1]; exact (Keeps.refl _ _).drewN _)
          clear hV1
          have BPX := hid (blk_keep BP1.out KV1.out (fun h => h)); have BSX := hid (blk_keep BS1.out KV1.out (fun h => h))
          have hws : w.heap.size ≠ p := by omega
          go_cut [] from 51 to 58 (fun wx => Hd (Blk wx p #[.int .i64 M.id, .bool true, .int .u32 (x.s : Int), .slice ah M.hv.length ch, .slice ad M.dt.length cd] 93) ∧ Hd (Keeps (fun b => b = p) V1 wx))
          case first =>
            have p1 : V1.cell? ⟨p, 1, none⟩ = some (.bool M.kn) := blk_cell BPX.out 1
            have p2 : V1.cell? ⟨p, 2, none⟩ = some (.int .u32 (M.sm : Int)) := blk_cell BPX.out 2
            have f1 : V1.frozen? ⟨p, 1, none⟩ = false := blk_free BPX.out 1
            have f2 : V1.frozen? ⟨p, 2, none⟩ = false := blk_free BPX.out 2
            have HSS : Hd (∀ w', Keeps (fun b => b = p) V1 w' → w'.cell? ⟨w.heap.size, 3, none⟩ = some (.int .u32 (x.s : Int))) := hid (fun w' hk => keep_cell hk (by omega) (blk_cell BSX.out 3))
            go_region_held (fun w' => w'.cell? ⟨w.heap.size, 3, none⟩ = some (.int .u32 (x.s : Int))) (exact HSS.out _ (by repeat (first | (with_reducible exact Keeps.refl _ _) | (with_reducible apply Keeps.drewN) | (with_reducible apply Keeps.drew) | (with_reducible apply keq)))) (fail)
            all_goals
              go_wp2_with fail
              go_meet
              refine ⟨hid ?_, hid (by repeat (first | (with_reducible exact Keeps.refl _ _) | (with_reducible apply Keeps.drewN) | (with_reducible apply Keeps.drew) | (with_reducible apply keq)))⟩
              first | exact blk_drew (blk_set (blk_set BPX.out 1 (.bool true)) 2 (.int .u32 (x.s : Int))) | exact blk_drew (blk_set (blk_set BPX.out 2 (.int .u32 (x.s : Int))) 1 (.bool true)) | exact blk_set (blk_set BPX.out 1 (.bool true)) 2 (.int .u32 (x.s : Int)) | exact blk_set (blk_set BPX.out 2 (.int .u32 (x.s : Int))) 1 (.bool true)
          case rest =>
            obtain ⟨B8, K8⟩ := hcut
            obtain ⟨V8, rfl⟩ : ∃ V8, V8 = wc := ⟨_, rfl⟩
            have BS8 := hid (blk_keep BSX.out K8.out (by omega))
            have K18 : Hd (Keeps (fun b => b = p) w V8) := hid (((KW.out.trans (K1.out.trans KV1.out)).mono (fun _ _ h => h.elim)).trans K8.out)
            have zc : W.heap.size ≤ V8.heap.size := Nat.le_trans K1.out.size (Nat.le_trans KV1.out.size K8.out.size)
            clear BPX BSX
            go_upto_region 9 with fail
            go_cut [] from 59 to 70 (fun wx => Mk9 W V8 p n M.id x.s wx)
            case first =>
              have zp8 := blk_lt B8.out
              have c3 : V8.cell? ⟨p, 3, none⟩ = some (.slice ah M.hv.length ch) := blk_cell B8.out 3
              have c4 : V8.cell? ⟨p, 4, none⟩ = some (.slice ad M.dt.length cd) := blk_cell B8.out 4
              have f3 : V8.frozen? ⟨p, 3, none⟩ = false := blk_free B8.out 3
              have f4 : V8.frozen? ⟨p, 4, none⟩ = false := blk_free B8.out 4
              have c3a : ∀ o, (V8.alloc o).cell? ⟨p, 3, none⟩ = some (.slice ah M.hv.length ch) := fun o => blk_cell (blk_alloc B8.out o) 3
              have c4a : ∀ o, (V8.alloc o).cell? ⟨p, 4, none⟩ = some (.slice ad M.dt.length cd) := fun o => blk_cell (blk_alloc B8.out o) 4
              have f3a : ∀ o, (V8.alloc o).frozen? ⟨p, 3, none⟩ = false := fun o => blk_free (blk_alloc B8.out o) 3
              have f4a : ∀ o, (V8.alloc o).frozen? ⟨p, 4, none⟩ = false := fun o => blk_free (blk_alloc B8.out o) 4
              have c3b : ∀ o o', ((V8.alloc o).alloc o').cell? ⟨p, 3, none⟩ = some (.slice ah M.hv.length ch) := fun o o' => blk_cell (blk_alloc (blk_alloc B8.out o) o') 3
              have c4b : ∀ o o', ((V8.alloc o).alloc o').cell? ⟨p, 4, none⟩ = some (.slice ad M.dt.length cd) := fun o o' => blk_cell (blk_alloc (blk_alloc B8.out o) o') 4
              have f3b : ∀ o o', ((V8.alloc o).alloc o').frozen? ⟨p, 3, none⟩ = false := fun o o' => blk_free (blk_alloc (blk_alloc B8.out o) o') 3
              have f4b : ∀ o o', ((V8.alloc o).alloc o').frozen? ⟨p, 4, none⟩ = false := fun o o' => blk_free (blk_alloc (blk_alloc B8.out o) o') 4
              have HSS : Hd (∀ w', Keeps (fun b => b = p) V8 w' → w'.cell? ⟨w.heap.size, 2, none⟩ = some (.int .i64 x.t)) := hid (fun w' hk => keep_cell hk (by omega) (blk_cell BS8.out 2))
              go_region_held (fun w' => w'.cell? ⟨w.heap.size, 2, none⟩ = some (.int .i64 x.t)) (exact HSS.out _ (by repeat (first | (with_reducible exact Keeps.refl _ _) | (with_reducible apply Keeps.drewN) | (with_reducible apply Keeps.drew) | (with_reducible apply Keeps.alloc) | (with_reducible apply keq)))) (fail)
              all_goals
                go_wp2_with fail
                go_meet
                first
                | exact ⟨V8.heap.size, V8.heap.size + 1, by omega, by omega, by omega, hid (by repeat (first | (with_reducible apply blk_drew) | exact blk_new' _ _ _ _ (by simp) | (with_reducible apply blk_alloc))), hid (by repeat (first | (with_reducible apply blk_drew) | exact blk_new' _ _ _ _ (by simp) | (with_reducible apply blk_alloc))), hid (by first | exact blk_drew (blk_alloc (blk_alloc (blk_set (blk_set B8.out 3 _) 4 _) _) _) | exact blk_alloc (blk_alloc (blk_set (blk_set B8.out 3 _) 4 _) _) _), hid (by repeat (first | (with_reducible exact Keeps.refl _ _) | (with_reducible apply Keeps.drewN) | (with_reducible apply Keeps.drew) | (with_reducible apply Keeps.alloc) | (with_reducible apply keq)))⟩
                | exact ⟨V8.heap.size + 1, V8.heap.size, by omega, by omega, by omega, hid (by repeat (first | (with_reducible apply blk_drew) | exact blk_new' _ _ _ _ (by simp) | (with_reducible apply blk_alloc))), hid (by repeat (first | (with_reducible apply blk_drew) | exact blk_new' _ _ _ _ (by simp) | (with_reducible apply blk_alloc))), hid (by first | exact blk_drew (blk_alloc (blk_alloc (blk_set (blk_set B8.out 3 _) 4 _) _) _) | exact blk_alloc (blk_alloc (blk_set (blk_set B8.out 3 _) 4 _) _) _), hid (by repeat (first | (with_reducible exact Keeps.refl _ _) | (with_reducible apply Keeps.drewN) | (with_reducible apply Keeps.drew) | (with_reducible apply Keeps.alloc) | (with_reducible apply keq)))⟩
            case rest =>
              obtain ⟨bh, bd, hbn, hb3, hb4, BH, BD, BP9, K9⟩ := hcut
              clear hmkb hmku
              have HPV : Hd (PartR (fun b => (Z b ∧ b < w.heap.size) ∨ W.heap.size ≤ b) wc p y) := hid (by
                rw [HYN.out]
                have zb := zW
                refine ⟨some ⟨bh, 0, none⟩, n, some ⟨bd, 0, none⟩, n, ?_, .inl ⟨zp, hpw⟩, ?_, ?_⟩
                · simp only [List.length_replicate]; exact BP9.out
                · simp only [List.length_replicate]
                  exact (own_full BH.out (by simp) (by unfold maxLen; omega)).mono (fun b _ h => ⟨.inr (by omega), by omega, fun e => by injection e with e; simp at e; omega⟩)
                · simp only [List.length_replicate]
                  exact (own_full BD.out (by simp) (by unfold maxLen; omega)).mono (fun b _ h => ⟨.inr (by omega), by omega⟩))
              have HKV : Hd (Keeps (fun b => Z b ∧ b < w.heap.size) w wc) := hid ((K18.out.trans K9.out).mono (fun b hb h => by subst h; exact ⟨zp, hb⟩))
              have BSV := hid (blk_keep BS8.out K9.out (by omega))
              have zV : W.heap.size ≤ wc.heap.size := Nat.le_trans zc K9.out.size
              clear BH BD BP9 K9 K18 K8 B8 BS8 zc
              have s4 : wc.cell? ⟨w.heap.size, 4, none⟩ = some (.slice a x.d.length c) := blk_cell BSV.out 4
              obtain ⟨ah', ch', ad', cd', bp, zp', oh, od⟩ := HPV.out
              have BPV := hid bp; have OH := hid oh; have OD := hid od
              have SXV : Hd (Sl (fun b => ¬ Z b ∧ b < w.heap.size) wc (.slice a x.d.length c) (u8s x.d)) := hid (HX.out.keep HKV.out (fun b _ h1 h2 => h1.1 h2.1))
              clear bp oh od HPV
              have hyl : y.hv.length = y.dt.length := HYO.out.len
              obtain ⟨n, hn⟩ : ∃ n, y.dt.length = n := ⟨_, rfl⟩
              rw [hyl, hn] at BPV OH
              rw [hn] at OD hb1
              have hn6 : n ≤ 65536 := by rw [← hn]; exact HYO.out.max
              have HHL : Hd (y.hv.length = n) := hid (hyl.trans hn)
              have HDL := hid hn
              clear hyl hn
              obtain ⟨nd, hnd⟩ : ∃ nd, x.d.length = nd := ⟨_, rfl⟩
              rw [hnd] at s4 SXV hb1 hb2
              have HND := hid hnd
              clear hnd
              go_wp2_with fail
              go_loopw [74] (fun i wr => ∃ k : Nat, i = .int .i64 k ∧ k ≤ nd ∧ Hd (∀ j, j < k → confl y x j = false) ∧ Hd (Keeps (fun _ => False) wc wr)) (fun i _ => nd - (intOf i).toNat)
              case atStart => exact ⟨0, rfl, Nat.zero_le _, hid (fun j hj => by omega), hid (Keeps.refl _ _)⟩
              case round =>
                clear s4
                obtain ⟨k, rfl, hk, HC, KR⟩ := hrel
                have k2 : (0 : Int) ≤ k := by omega
                by_cases hkn : k < nd
                · have k1 : (k : Int) < nd := by omega
                  obtain ⟨a9, c9, e9, _, _, hel⟩ := (sl_row SXV.out (by rw [u8s_length, HND.out])).form
                  injection e9 with e91 e92 e93
                  subst e91
                  obtain ⟨bb, ob, rfl, hb3, hb4, hcell⟩ := hel (by omega)
                  obtain ⟨dk, hdk⟩ : ∃ dk, x.d[k]? = some dk := ⟨x.d[k]'(by rw [HND.out]; exact hkn), List.getElem?_eq_getElem _⟩
                  have g0 : wr.cell? ⟨bb, ob + k, none⟩ = some (.int .u8 (dk : Nat)) := keep_cell KR.out (fun h => h) ((hcell k (by omega)).trans (by rw [u8s_getD _ _ (by rw [HND.out]; exact hkn), List.getD, hdk]; rfl))
                  obtain ⟨qk, hqk⟩ : ∃ m : Nat, x.o + (k : Int) = m := ⟨q + k, by rw [HQ.out]; omega⟩
                  have hqn : qk = q + k := by have := HQ.out; omega
                  have hqlt : qk < n := by omega
                  have u1 : IntKind.i64.wrap (x.o + (k : Int)) = (qk : Int) := by rw [hqk]; exact IntWalk.i64_in _ (by omega)
                  have u2 : IntKind.i64.wrap (qk : Int) = (qk : Int) := IntWalk.i64_in _ (by omega)
                  have q1 : (qk : Int) < n := by omega
                  have q2 : (0 : Int) ≤ qk := by omega
                  obtain ⟨gh, ehh, zgh⟩ := own_head OH.out (by omega)
                  subst ehh
                  obtain ⟨gd, edd, zgd⟩ := own_head OD.out (by omega)
                  subst edd
                  have HQK := hid hqn
                  have g1 : wr.cell? ⟨gh, qk, none⟩ = some (.bool (y.hv.getD qk false)) := keep_cell KR.out (fun h => h) (by rw [OH.out.1.cellAt qk (by omega)]; simp [bls, List.getD, List.getElem?_eq_getElem (show qk < y.hv.length by rw [HHL.out]; exact hqlt)])
                  have g2 : wr.cell? ⟨gd, qk, none⟩ = some (.int .u8 (y.dt.getD qk 0 : Nat)) := keep_cell KR.out (fun h => h) (by rw [OD.out.1.cellAt qk (by omega)]; simp [u8s, List.getD, List.getElem?_eq_getElem (show qk < y.dt.length by rw [HDL.out]; exact hqlt)])
                  have BPR := hid (blk_keep BPV.out KR.out (fun h => h)); have BSR := hid (blk_keep BSV.out KR.out (fun h => h))
                  have p3 : wr.cell? ⟨p, 3, none⟩ = some (.slice (some ⟨gh, 0, none⟩) n ch') := blk_cell BPR.out 3
                  have p4 : wr.cell? ⟨p, 4, none⟩ = some (.slice (some ⟨gd, 0, none⟩) n cd') := blk_cell BPR.out 4
                  have s1 : wr.cell? ⟨w.heap.size, 1, none⟩ = some (.int .i64 x.o) := blk_cell BSR.out 1
                  have HCO : Hd (confl y x k = (y.hv.getD qk false && (y.dt.getD qk 0 != dk))) := hid (by unfold confl; rw [HQN.out, ← HQK.out]; congr 2; rw [List.getD, hdk]; rfl)
                  have HKN := hid hkn; have HDK := hid hdk; clear hdk hqn hel hcell
                  generalize hbb : y.hv.getD qk false = hb at *
                  generalize hdd : y.dt.getD qk 0 = dd at *
                  clear hbb hdd
                  cases hb with
                  | false =>
                    go_wp2
                    go_roundw
                    case rel => exact ⟨k + 1, by go_num, by omega, hid (fun j hj => by
                  rcases Nat.lt_or_ge j k with h | h
                  · exact HC.out j h
                  · obtain rfl : j = k := by omega
                    rw [HCO.out]; rfl), KR⟩
                    case measure => simp [intOf]; omega
                  | true =>
                    by_cases hdc : dd = dk
                    · have m1 : ((dd : Int) != (dk : Int)) = false := by simp; omega
                      have HDC : Hd ((dd != dk) = false) := hid (by simp; exact hdc)
                      clear hdc
                      go_wp2
                      go_roundw
                      case rel => exact ⟨k + 1, by go_num, by omega, hid (fun j hj => by
                  rcases Nat.lt_or_ge j k with h | h
                  · exact HC.out j h
                  · obtain rfl : j = k := by omega
                    rw [HCO.out]; rw [HDC.out]; rfl), KR⟩
                      case measure => simp [intOf]; omega
                    · have m1 : ((dd : Int) != (dk : Int)) = true := by simp; omega
                      have HDC : Hd ((dd != dk) = true) := hid (by simp; exact hdc)
                      have HANY : Hd (anyC y x = true) := hid (by unfold anyC; rw [List.any_eq_true]; exact ⟨k, List.mem_range.2 (by rw [HND.out]; exact HKN.out), by rw [HCO.out, HDC.out]; rfl⟩)
                      have HE9 : Hd (putE M x = 8) := hid (by rw [HE8.out _ rfl, HANY.out]; rfl)
                      have HR : Hd (PutPost Z w p M x (.returned (.int .i64 8)) wr) := hid (by
                    refine ⟨by rw [HE9.out], ?_, ((HKV.out.mono (T := Z) (fun b _ h => h.1)).trans (KR.out.mono (fun _ _ h => h.elim)))⟩
                    rw [HPM.out, HE9.out, if_neg (by omega), if_pos rfl, HY.out]
                    refine PartR.mono (Z := fun b => (Z b ∧ b < w.heap.size) ∨ W.heap.size ≤ b) ⟨some ⟨gh, 0, none⟩, ch', some ⟨gd, 0, none⟩, cd', ?_, zp', ?_, ?_⟩ (fun b _ h => by rcases h with h | h; exact .inl h.1; exact .inr (by omega))
                    · rw [HHL.out, HDL.out]; exact BPR.out
                    · rw [HHL.out, HDL.out]; exact OH.out.keep KR.out (fun _ _ _ h => h)
                    · rw [HDL.out]; exact OD.out.keep KR.out (fun _ _ _ h => h))
                      clear hdc
                      go_wp2
                      go_ret
                      exact HR.out
                · have k0 : ¬ ((k : Int) < nd) := by omega
                  obtain rfl : k = nd := by omega
                  obtain ⟨V2, rfl⟩ : ∃ V2, V2 = wr := ⟨_, rfl⟩
                  have HANY : Hd (anyC y x = false) := hid (by unfold anyC; rw [List.any_eq_false]; intro j hj; rw [List.mem_range, HND.out] at hj; rw [HC.out j hj]; simp)
                  have HE9 : Hd (putE M x = 0) := hid (by rw [HE8.out _ rfl, HANY.out]; rfl)
                  have HS1 : Hd (∀ b, (Value.slice ah' n ch').ownBlock = some b → ((Z b ∧ b < w.heap.size) ∨ W.heap.size ≤ b) ∧ b ≠ p ∧ (Value.slice ad' n cd').ownBlock ≠ some b) := hid (fun b hb => OH.out.2 b hb)
                  have HS2 : Hd (∀ b, (Value.slice ad' n cd').ownBlock = some b → ((Z b ∧ b < w.heap.size) ∨ W.heap.size ≤ b) ∧ b ≠ p) := hid (fun b hb => OD.out.2 b hb)
                  have BPR := hid (blk_keep BPV.out KR.out (fun h => h)); have BSR := hid (blk_keep BSV.out KR.out (fun h => h))
                  have SXR := hid (SXV.out.keep KR.out (fun _ _ _ h => h))
                  have OHR : Hd (Own (fun b => (Value.slice ah' n ch').ownBlock = some b) V2 4 1 (.slice ah' n ch') n (bls (ovr y.hv q ((List.replicate k true).take 0)))) := hid (by rw [List.take_zero, ovr_nil]; exact own_self (OH.out.keep KR.out (fun _ _ _ h => h)))
                  have ODR : Hd (Own (fun b => (Value.slice ad' n cd').ownBlock = some b) V2 5 1 (.slice ad' n cd') n (u8s (ovr y.dt q (x.d.take 0)))) := hid (by rw [List.take_zero, ovr_nil]; exact own_self (OD.out.keep KR.out (fun _ _ _ h => h)))
                  have s4 : V2.cell? ⟨w.heap.size, 4, none⟩ = some (.slice a k c) := by rw [← HND.out]; exact blk_cell BSR.out 4
                  clear HC hk
                  go_wp2_with fail
                  go_loopw [105] (fun i wr => ∃ m : Nat, i = .int .i64 m ∧ m ≤ k ∧ Hd (PutL V2 p y x q k n ah' ch' ad' cd' m wr)) (fun i _ => k - (intOf i).toNat)
                  case atStart => exact ⟨0, rfl, Nat.zero_le _, hid ⟨OHR.out, ODR.out, BPR.out, Keeps.refl _ _⟩⟩
                  case round =>
                    clear s4 OHR ODR
                    obtain ⟨m, rfl, hm, PL⟩ := hrel
                    obtain ⟨ohm, odm, bpm, km⟩ := PL.out
                    have OHM := hid ohm; have ODM := hid odm; have BPM := hid bpm; have KM := hid km
                    clear PL ohm odm bpm km
                    have k2' : (0 : Int) ≤ m := by omega
                    by_cases hkn : m < k
                    · have k1 : (m : Int) < k := by omega
                      have SXM := hid (SXR.out.keep KM.out (fun b _ h1 h2 => by rcases h2 with h2 | h2; have := HS1.out b h2; rcases this.1 with h3 | h3; exact h1.1 h3.1; omega; have := HS2.out b h2; rcases this.1 with h3 | h3; exact h1.1 h3.1; omega))
                      have BSM := hid (blk_keep BSR.out KM.out (fun h2 => by rcases h2 with h2 | h2; have := HS1.out _ h2; rcases this.1 with h3 | h3; omega; omega; have := HS2.out _ h2; rcases this.1 with h3 | h3; omega; omega))
                      obtain ⟨a9, c9, e9, _, _, hel⟩ := (sl_row SXM.out (by rw [u8s_length, HND.out])).form
                      injection e9 with e91 e92 e93
                      subst e91
                      obtain ⟨bb, ob, rfl, hb3, hb4, hcell⟩ := hel (by omega)
                      obtain ⟨dk, hdk⟩ : ∃ dk, x.d[m]? = some dk := ⟨x.d[m]'(by rw [HND.out]; exact hkn), List.getElem?_eq_getElem _⟩
                      have g0 : wr.cell? ⟨bb, ob + m, none⟩ = some (.int .u8 (dk : Nat)) := (hcell m (by omega)).trans (by rw [u8s_getD _ _ (by rw [HND.out]; exact hkn), List.getD, hdk]; rfl)
                      obtain ⟨qk, hqk⟩ : ∃ z : Nat, x.o + (m : Int) = z := ⟨q + m, by rw [HQ.out]; omega⟩
                      have hqn : qk = q + m := by have := HQ.out; omega
                      have hqlt : qk < n := by omega
                      have u1 : IntKind.i64.wrap (x.o + (m : Int)) = (qk : Int) := by rw [hqk]; exact IntWalk.i64_in _ (by omega)
                      have u2 : IntKind.i64.wrap (qk : Int) = (qk : Int) := IntWalk.i64_in _ (by omega)
                      have q1 : (qk : Int) < n := by omega
                      have q2 : (0 : Int) ≤ qk := by omega
                      obtain ⟨gh, ehh, zgh⟩ := own_head OHM.out (by omega)
                      subst ehh
                      obtain ⟨gd, edd, zgd⟩ := own_head ODM.out (by omega)
                      subst edd
                      have hne : gh ≠ gd := fun e => (HS1.out gh rfl).2.2 (by rw [e]; rfl)
                      have hgp : gh ≠ p := (HS1.out gh rfl).2.1
                      have hdp : gd ≠ p := (HS2.out gd rfl).2
                      have HQK := hid hqn
                      obtain ⟨v1, g1⟩ : ∃ v, wr.cell? ⟨gh, qk, none⟩ = some v := by rw [OHM.out.1.cellAt qk (by omega)]; exact ⟨_, List.getElem?_eq_getElem (by rw [OHM.out.1.1]; omega)⟩
                      obtain ⟨v2, g2⟩ : ∃ v, wr.cell? ⟨gd, qk, none⟩ = some v := by rw [ODM.out.1.cellAt qk (by omega)]; exact ⟨_, List.getElem?_eq_getElem (by rw [ODM.out.1.1]; omega)⟩
                      have f1 : wr.frozen? ⟨gh, qk, none⟩ = false := OHM.out.1.frozenAt _
                      have f2 : wr.frozen? ⟨gd, qk, none⟩ = false := ODM.out.1.frozenAt _
                      have p3 : wr.cell? ⟨p, 3, none⟩ = some (.slice (some ⟨gh, 0, none⟩) n ch') := blk_cell BPM.out 3
                      have p4 : wr.cell? ⟨p, 4, none⟩ = some (.slice (some ⟨gd, 0, none⟩) n cd') := blk_cell BPM.out 4
                      have s1 : wr.cell? ⟨w.heap.size, 1, none⟩ = some (.int .i64 x.o) := blk_cell BSM.out 1
                      have HST : Hd (∀ w', w' = (wr.setCell ⟨gh, qk, none⟩ (.bool true)).setCell ⟨gd, qk, none⟩ (.int .u8 (dk : Nat)) ∨ w' = (wr.setCell ⟨gd, qk, none⟩ (.int .u8 (dk : Nat))).setCell ⟨gh, qk, none⟩ (.bool true) → (Hd (Own (fun b => (Value.slice (some ⟨gh, 0, none⟩) n ch').ownBlock = some b) w' 4 1 (.slice (some ⟨gh, 0, none⟩) n ch') n (bls (ovr y.hv q ((List.replicate k true).take (m + 1)))))) ∧ (Hd (Own (fun b => (Value.slice (some ⟨gd, 0, none⟩) n cd').ownBlock = some b) w' 5 1 (.slice (some ⟨gd, 0, none⟩) n cd') n (u8s (ovr y.dt q (x.d.take (m + 1)))))) ∧ (Hd (Blk w' p #[.int .i64 y.id, .bool y.kn, .int .u32 (y.sm : Int), .slice (some ⟨gh, 0, none⟩) n ch', .slice (some ⟨gd, 0, none⟩) n cd'] 93)) ∧ Hd (Keeps (fun b => (Value.slice (some ⟨gh, 0, none⟩) n ch').ownBlock = some b ∨ (Value.slice (some ⟨gd, 0, none⟩) n cd').ownBlock = some b) V2 w')) := hid (fun w' hw => by
                        have e1 : (bls (ovr y.hv q ((List.replicate k true).take m))).set qk (.bool true) = bls (ovr y.hv q ((List.replicate k true).take (m + 1))) := by rw [bls_set, HQK.out, ovr_set (by rw [List.getElem?_replicate, if_pos hkn]) (by rw [List.length_replicate, HHL.out]; exact hb1)]
                        have e2 : (u8s (ovr y.dt q (x.d.take m))).set qk (.int .u8 (dk : Nat)) = u8s (ovr y.dt q (x.d.take (m + 1))) := by rw [u8s_set, HQK.out, ovr_set hdk (by rw [HND.out, HDL.out]; exact hb1)]
                        rw [← e1, ← e2]
                        rcases hw with rfl | rfl
                        · obtain ⟨t1, t2⟩ := own_two OHM.out ODM.out hne qk (.bool true) (.int .u8 (dk : Nat))
                          exact ⟨hid t1, hid t2, hid (blk_other (blk_other BPM.out hgp _ _) hdp _ _), hid ((KM.out.setCell (p := ⟨gh, qk, none⟩) (.inl (.inl rfl)) _).setCell (p := ⟨gd, qk, none⟩) (.inl (.inr rfl)) _)⟩
                        · obtain ⟨t2, t1⟩ := own_two ODM.out OHM.out (Ne.symm hne) qk (.int .u8 (dk : Nat)) (.bool true)
                          exact ⟨hid t1, hid t2, hid (blk_other (blk_other BPM.out hdp _ _) hgp _ _), hid ((KM.out.setCell (p := ⟨gd, qk, none⟩) (.inl (.inr rfl)) _).setCell (p := ⟨gh, qk, none⟩) (.inl (.inl rfl)) _)⟩)
                      clear hdk hqn hel hcell hkn
                      have g1' : ∀ v, (wr.setCell ⟨gd, qk, none⟩ v).cell? ⟨gh, qk, none⟩ = some v1 := fun v => (World.cell?_setCell_other wr ⟨gd, qk, none⟩ ⟨gh, qk, none⟩ v (fun e => hne (by injection e with e; exact e.symm))).trans g1
                      have g2' : ∀ v, (wr.setCell ⟨gh, qk, none⟩ v).cell? ⟨gd, qk, none⟩ = some v2 := fun v => (World.cell?_setCell_other wr ⟨gh, qk, none⟩ ⟨gd, qk, none⟩ v (fun e => hne (by injection e with e))).trans g2
                      have HSS : Hd (∀ w', Keeps (fun b => b = gh ∨ b = gd) wr w' → (w'.cell? ⟨p, 3, none⟩ = some (.slice (some ⟨gh, 0, none⟩) n ch') ∧ w'.cell? ⟨p, 4, none⟩ = some (.slice (some ⟨gd, 0, none⟩) n cd') ∧ w'.cell? ⟨w.heap.size, 1, none⟩ = some (.int .i64 x.o))) := hid (fun w' hk => ⟨keep_cell hk (by omega) p3, keep_cell hk (by omega) p4, keep_cell hk (fun h => by rcases h with h | h; have := (HS1.out gh rfl).1; omega; have := (HS2.out gd rfl).1; omega) s1⟩)
                      clear p3 p4 s1
                      go_upto_region 20 with fail
                      go_region_held (fun w' => w'.cell? ⟨p, 3, none⟩ = some (.slice (some ⟨gh, 0, none⟩) n ch') ∧ w'.cell? ⟨p, 4, none⟩ = some (.slice (some ⟨gd, 0, none⟩) n cd') ∧ w'.cell? ⟨w.heap.size, 1, none⟩ = some (.int .i64 x.o)) (exact HSS.out _ (by repeat (first | (with_reducible exact Keeps.refl _ _) | (with_reducible apply Keeps.drewN) | (with_reducible apply Keeps.drew) | (refine Keeps.setCell ?_ (.inl (by first | exact .inl rfl | exact .inr rfl)) _)))) (fail)
                      have HT := HST.out _ (.inl rfl)
                      have HPL : Hd (PutL V2 p y x q k n (some ⟨gh, 0, none⟩) ch' (some ⟨gd, 0, none⟩) cd' (m + 1) (World.drew _)) := hid (PutL.drew ⟨HT.1.out, HT.2.1.out, HT.2.2.1.out, HT.2.2.2.out⟩)
                      clear HT
                      clear HST HSS g1 g2 g1' g2' OHM ODM BPM KM
                      go_wp2
                      go_roundw
                      case rel => first | exact ⟨m + 1, by go_num, by omega, HPL⟩ | exact ⟨_, _, _, ⟨m + 1, by go_num, by omega, HPL⟩, rfl, rfl, rfl⟩
                      case measure => simp [intOf]; omega
                    · have k0' : ¬ ((m : Int) < k) := by omega
                      obtain rfl : m = k := by omega
                      have HR : Hd (PutPost Z w p M x (.returned (.int .i64 0)) wr) := hid (by
                        have e0 : (List.replicate m true).take m = List.replicate x.d.length true := by rw [List.take_of_length_le (by rw [List.length_replicate]; exact Nat.le_refl _), HND.out]
                        have e1 : x.d.take m = x.d := List.take_of_length_le (by rw [HND.out]; exact Nat.le_refl _)
                        have l1 : (ovr y.hv q (List.replicate x.d.length true)).length = n := by rw [ovr_length (by rw [List.length_replicate, HND.out, HHL.out]; exact hb1), HHL.out]
                        have l2 : (ovr y.dt q x.d).length = n := by rw [ovr_length (by rw [HND.out, HDL.out]; exact hb1), HDL.out]
                        refine ⟨by rw [HE9.out], ?_, (HKV.out.mono (T := Z) (fun b _ h => h.1)).trans' ((KR.out.mono (fun _ _ h => h.elim)).trans KM.out) (fun i hi h => by rcases h with h | h; have := HS1.out i h; rcases this.1 with h3 | h3; exact h3.1; omega; have := HS2.out i h; rcases this.1 with h3 | h3; exact h3.1; omega)⟩
                        rw [HPM.out, HE9.out, if_pos rfl, HY.out]
                        have hoh := OHM.out; have hod := ODM.out
                        rw [e0] at hoh; rw [e1] at hod
                        refine ⟨ah', ch', ad', cd', ?_, ?_, ?_, ?_⟩
                        · show Blk wr p #[.int .i64 y.id, .bool y.kn, .int .u32 (y.sm : Int), .slice ah' (ovr y.hv x.o.toNat (List.replicate x.d.length true)).length ch', .slice ad' (ovr y.dt x.o.toNat x.d).length cd'] _
                          rw [HQN.out, l1, l2]; exact BPM.out
                        · rcases zp' with h | h; exact .inl h.1; exact .inr (by omega)
                        · show Own _ wr _ 1 (.slice ah' (ovr y.hv x.o.toNat (List.replicate x.d.length true)).length ch') (ovr y.hv x.o.toNat (List.replicate x.d.length true)).length (bls (ovr y.hv x.o.toNat (List.replicate x.d.length true)))
                          rw [HQN.out, l1]
                          exact ⟨hoh.1, fun b hb => by have h := HS1.out b hb; refine ⟨?_, h.2.1, ?_⟩; rcases h.1 with h3 | h3; exact .inl h3.1; exact .inr (by omega); show (Value.slice ad' (ovr y.dt x.o.toNat x.d).length cd').ownBlock ≠ some b; rw [HQN.out, l2]; exact h.2.2⟩
                        · show Own _ wr _ 1 (.slice ad' (ovr y.dt x.o.toNat x.d).length cd') (ovr y.dt x.o.toNat x.d).length (u8s (ovr y.dt x.o.toNat x.d))
                          rw [HQN.out, l2]
                          exact ⟨hod.1, fun b hb => by have h := HS2.out b hb; refine ⟨?_, h.2⟩; rcases h.1 with h3 | h3; exact .inl h3.1; exact .inr (by omega)⟩)
                      clear OHM ODM BPM KM
                      go_wp2
                      go_ret
                      exact HR.out
    · rw [decide_eq_false hv]
      rintro e w1 ⟨rfl, hk⟩
      have HR := hid (RET.out 5 w1 (by rw [HE.out, if_neg (fun h => h HF.out), if_pos hv]) (by omega) (by omega) (KW.out.trans (Keeps.trans (S := fun _ => False) (by repeat (first | (with_reducible exact Keeps.refl _ _) | (with_reducible apply Keeps.drewN) | (with_reducible apply Keeps.drew))) hk)))
      clear hv hk
      go_wp2
      go_ret
      exact HR.out
  · have d0 : (x.f != M.id) = true := by simp; exact hf
    have HR : Hd (∀ w', Keeps (fun _ => False) W w' → PutPost Z w p M x (.returned (.int .i64 1)) w') := hid (fun w' hk => RET.out 1 w' (by rw [HE.out, if_pos hf]) (by omega) (by omega) (KW.out.trans hk))
    clear hf
    go_quiet (fail)
    go_wp2
    go_ret
    exact HR.out _ (by repeat (first | (with_reducible exact Keeps.refl _ _) | (with_reducible apply Keeps.drewN) | (with_reducible apply Keeps.drew)))
end Go.Proofs.YtgfekgceeigdiaaDoor
namespace Go.Proofs.YtgfekgceeigdiaaDoor
open Go.RowKit Go.Shelf
attribute [local go_sem] Oper.semAt_some
def gstep (st : Int × List (Int × Int)) (i : Nat) (is : Bool) : Int × List (Int × Int) :=
  if is = false ∧ st.1 < 0 then ((i : Int), st.2) else if is = true ∧ 0 ≤ st.1 then (-1, st.2 ++ [(st.1, (i : Int))]) else st
def gst (l : List Bool) : Nat → Int × List (Int × Int)
  | 0 => (-1, [])
  | k + 1 => gstep (gst l k) k (l.getD k false)
def gapsL (hv : List Bool) : List (Int × Int) := (gst (hv ++ [true]) (hv.length + 1)).2
theorem gst_s (l : List Bool) (k : Nat) : gst l (k + 1) = gstep (gst l k) k (l.getD k false) := rfl
theorem gst_b (l : List Bool) : ∀ k : Nat, -1 ≤ (gst l k).1 ∧ (gst l k).1 ≤ k ∧ (gst l k).2.length ≤ k := by
  intro k
  induction k with
  | zero => exact ⟨by show (-1 : Int) ≤ -1; omega, by show (-1 : Int) ≤ 0; omega, Nat.le_refl _⟩
  | succ k ih =>
    rw [gst_s]
    obtain ⟨h1, h2, h3⟩ := ih
    generalize gst l k = st at *
    obtain ⟨s1, s2⟩ := st
    simp only [] at h1 h2 h3
    unfold gstep
    split
    · exact ⟨by show (-1 : Int) ≤ (k : Int); omega, by show (k : Int) ≤ ((k + 1 : Nat) : Int); omega, by show s2.length ≤ _; omega⟩
    · split
      · exact ⟨by show (-1 : Int) ≤ -1; omega, by show (-1 : Int) ≤ ((k + 1 : Nat) : Int); omega, by show (s2 ++ [_]).length ≤ _; rw [List.length_append]; show _ + 1 ≤ _; omega⟩
      · exact ⟨h1, by show s1 ≤ ((k + 1 : Nat) : Int); omega, by show s2.length ≤ _; omega⟩
set_option maxRecDepth 100000 in
set_option maxHeartbeats 400000 in
theorem CloneBo_any (K : Nat → Prop) (v : Value) (l : List Bool) (w : World) (hv : Row K w 1 v l.length (bls l)) (hm : l.length ≤ 1000000000) :
    Calls Tryd.prog 64 #[v] w fun e w' => ∃ a c, e = .returned (.slice a l.length c) ∧ Own (fun k => w.heap.size ≤ k) w' 4 1 (.slice a l.length c) l.length (bls l) ∧ Keeps (fun _ => False) w w' := by
  obtain ⟨i0, hi, hz0, hz1, hz2⟩ := info_parts infoBo
  have hv0 := hid hv
  have hq : ∀ (w : World) (a : Option Addr) (n c n' c' : Nat), (binOp .eql 91 (.slice a n c) (.slice none n' c')).run Tryd.prog w = .ok (.bool a.isNone) w := fun w a n c n' c' => Lib.run_eql_slice_nil w _ _ a n c n' c' Tryd.underlying91
  have HB := hid (bls_one l)
  have HL := hid (bls_length l)
  generalize hbl : l.length = n at *
  generalize bls l = xs at *
  rcases hv with ⟨hl, ⟨rfl, rfl⟩ | ⟨bb, cap, rfl, _, _, _⟩⟩
  · obtain rfl := List.eq_nil_of_length_eq_zero (by omega : xs.length = 0)
    clear hv0
    go_enter Tryd.func64, Tryd.ntmps64
    go_wp2
    go_ret
    exact ⟨none, 0, rfl, Own.nil _ _ _ _, Keeps.refl _ _⟩
  · have HS : Hd (Row K (w.alloc (.cells #[] 4)) 1 (.slice (some bb) n cap) n xs) := hid (hv0.out.keep (keeps_alloc (fun _ => False) w (.cells #[] 4)) (fun _ _ _ h => h))
    have HO : Hd (Own (fun k => w.heap.size ≤ k) (w.alloc (.cells #[] 4)) 4 1 (.slice (some ⟨w.heap.size, 0, none⟩) 0 0) 0 []) :=
      hid ⟨World.ownsRow_lit w #[] 0 (Nat.zero_le _) (Nat.zero_le _) rfl, fun k hk => by injection hk with hk; simp at hk; omega⟩
    go_enter Tryd.func64, Tryd.ntmps64
    go_wp2_with (at_builtin; refine wpList_append_row rfl _ _ 91 rfl 4 i0 (.bool false) 1 1 Tryd.underlying91 hi hz0 hz1 hz2 rfl (by decide) _ K _ _ _ _ rfl HO.out n _ rfl HS.out HB.out ?h1 ?h2 ?_)
    case h1 => simp [maxLen]; omega
    case h2 => omega
    intro a1 cap1 w2 hown' hgrow; try intro _
    try simp only [Nat.zero_add, List.nil_append] at hown'
    have H1 := hid hown'; have H2 := hid hgrow; clear hown' hgrow
    go_wp2
    go_ret
    refine ⟨a1, cap1, by simp, ?_, ?_⟩
    · have h1 := H1.out.mono (K' := fun k => w.heap.size ≤ k) (fun b hb hh => by
        rcases hh with hh | hh
        · exact hh
        · omega)
      simpa using h1
    · exact ((keeps_alloc _ w _).trans' H2.out (fun i hi hs => by omega))
/-- blocks of truth values are left alone -/
def BoolK (W W' : World) : Prop := W.heap.size ≤ W'.heap.size ∧ ∀ b cs, Blk W b cs 4 → Blk W' b cs 4
theorem boolK_t {A B C : World} (h : BoolK A B) (k : BoolK B C) : BoolK A C := ⟨Nat.le_trans h.1 k.1, fun b cs hb => k.2 b cs (h.2 b cs hb)⟩
theorem boolK_b (W : World) (l : Nat) (o o' : Obj) (h : W.heap[l]? = some o) (ho : o.isCells = false) : BoolK W (W.putObj l o') := by
  have hg := grownBy_putObj' W l o'
  refine ⟨hg.size, fun b cs hb => ?_⟩
  refine (hg.block b (blk_lt hb) (fun e => ?_)).trans hb
  injection e with e; subst e
  rw [show W.heap[b]? = _ from hb] at h; cases h; cases ho
theorem grown_none {W W' : World} (hk : Keeps (fun _ => False) W W') : W.grownBy W' none := ⟨hk.os, hk.tape, hk.output, hk.size, fun k h1 _ => hk.block k h1 (fun h => h)⟩
set_option maxRecDepth 100000 in set_option maxHeartbeats 1000000 in
theorem missing1_in (n : Nat) (l Bt p : Nat) (hv : List Bool) (ah : Option Addr) (ch : Nat) (J Jx : List (Int × Int) → World → Prop)
    (hY : ∀ pre x W, J pre W → pre.length < hv.length + 2 → YieldAt Fence.wide (n - 1) Tryd.prog l #[.agg #[.int .i64 x.1, .int .i64 x.2]] W fun e W' =>
      (e = .returned (.bool true) ∧ J (pre ++ [x]) W' ∧ BoolK W W') ∨ (e = .returned (.bool false) ∧ Jx (pre ++ [x]) W'))
    (W : World) (hJ : AbidesFrom W.heap.size J) (hBt : W.cell? ⟨Bt, 0, none⟩ = some (.pointer (some ⟨p, 0, none⟩))) (hp3 : W.cell? ⟨p, 3, none⟩ = some (.slice ah hv.length ch)) (hrow : Row (fun _ => True) W 1 (.slice ah hv.length ch) hv.length (bls hv)) (hm : hv.length ≤ 65536) (h0 : J [] W) :
    CallsIn Fence.wide n Tryd.prog 63 #[.func (.yield l) #[] #[], .pointer (some ⟨Bt, 0, none⟩)] W fun e W' => (∃ v, e = .returned v) ∧
      ((∃ ys, ys = gapsL hv ∧ J ys W') ∨ (∃ pre, (∃ k, k ≤ hv.length + 1 ∧ pre = (gst (hv ++ [true]) k).2) ∧ Jx pre W')) := by
  obtain ⟨i0, hi, hz0, hz1, hz2⟩ := info_parts infoBo
  have HROW := hid hrow; clear hrow
  have HG : Hd (gapsL hv = (gst (hv ++ [true]) (hv.length + 1)).2) := hid rfl
  obtain ⟨L, hL⟩ : ∃ L, hv ++ [true] = L := ⟨_, rfl⟩
  rw [hL] at HG ⊢
  have HLE : Hd (bls L = bls hv ++ [.bool true]) := hid (by rw [← hL]; simp [bls])
  have HLL0 : L.length = hv.length + 1 := by rw [← hL]; simp
  clear hL
  generalize hml : hv.length = m at *
  have HLL := hid HLL0; clear HLL0
  have HML := hid hml; clear hml
  refine callsIn_of_wp Tryd.func63 rfl trivial ?_ rfl
  simp only [Tryd.ntmps63, List.size_toArray, List.length_cons, List.length_nil, Nat.reduceAdd, Nat.reduceSub, Array.replicate_succ, Array.replicate_zero, List.push_toArray, List.append_toArray, List.nil_append, List.cons_append]
  gi_wp2_with fail
  refine ⟨trivial, fun h => (by cases h), ?_⟩
  refine (callsIn_wide.2 (CloneBo_any _ _ hv _ (by rw [HML.out]; exact HROW.out) (by rw [HML.out]; omega))).mono ?_
  rw [HML.out]
  rintro e w2 ⟨a2, c2, rfl, ho2, hk2⟩
  have H2 := hid ho2; have K2 := hid hk2; clear ho2 hk2 hBt hp3
  have HA2 := hid (H2.out.alloc (.cells #[.bool true] 4))
  gi_wp2_with (gi_at_builtin; refine wpListIn_append_own _ rfl _ _ 91 rfl 0 4 i0 (.bool false) 1 1 Tryd.underlying91 hi hz0 hz1 hz2 rfl (by decide) _ _ _ rfl HA2.out.1 ⟨w2.heap.size, 0, none⟩ 1 1 [.bool true] rfl rfl (cell_one_new _ _ _) (by simp [Value.oneCell']) (by unfold maxLen; omega) (by omega) (Nat.zero_le _) ?_)
  intro v' w3 hown hg _
  rw [← HLE.out] at hown
  have K3 : Hd (Keeps (fun _ => False) W w3) := hid ((K2.out.alloc _).grown hg (fun k hk => .inr (H2.out.2 k hk |> fun h => by have := K2.out.size; omega)))
  have hJ3 : J [] w3 := hJ _ _ _ none h0 (grown_none K3.out) (by simp)
  obtain ⟨g, cap, cur, rfl, hBg, hn1, hn2, hn3, htk⟩ : ∃ g cap cur, v' = .slice (some ⟨g, 0, none⟩) (m + 1) cap ∧ Hd (Blk w3 g cur 4) ∧ m + 1 ≤ cap ∧ cap ≤ maxLen ∧ cur.size = cap * 1 ∧ cur.toList.take ((m + 1) * 1) = bls L := by
    rcases hown.2 with ⟨_, h⟩ | ⟨g, cap, cur, h1, _, h3, h4, h5, h6, h7⟩
    · omega
    · exact ⟨g, cap, cur, h1, hid h3, h4, h5, h6, h7⟩
  have HCELL : Hd (∀ wq, Blk wq g cur 4 → ∀ j, j < m + 1 → wq.cell? ⟨g, j, none⟩ = some (.bool (L.getD j false))) := hid (fun wq hb j hj => by
    rw [blk_cell hb j]
    have h1 : (cur.toList.take ((m + 1) * 1))[j]? = (bls L)[j]? := by rw [htk]
    rw [List.getElem?_take, if_pos (by omega), Array.getElem?_toList] at h1
    rw [h1, List.getD, List.getElem?_eq_getElem (by rw [bls_length, HLL.out]; omega)]
    simp [bls, List.getElem?_eq_getElem (show j < L.length by rw [HLL.out]; omega)])
  unfold maxLen at hn2
  clear hown hg htk hn3 HA2 H2 K2 K3 h0 HLE HROW
  gi_wp2
  gi_loopw [3, 14] (fun fv iv wr => ∃ k : Nat, k ≤ m + 1 ∧ iv = .int .i64 k ∧ fv = .int .i64 (gst L k).1 ∧ J (gst L k).2 wr ∧ Hd (Blk wr g cur 4)) (fun _ i _ => m + 1 - (intOf i).toNat)
  case atStart => exact ⟨0, Nat.zero_le _, rfl, rfl, hJ3, hBg⟩
  case round =>
    obtain ⟨k, hk, rfl, rfl, hJs, hB⟩ := hrel
    by_cases hkm : k < m + 1
    · have hc := HCELL.out wr hB.out k hkm
      obtain ⟨b1, b2, b3⟩ := gst_b L k
      have hs := gst_s L k
      generalize hst : gst L k = st at *
      obtain ⟨s1, s2⟩ := st
      have HS := hid hs
      clear hs hst
      simp only [] at b1 b2 b3 hJs
      have k1 : (k : Int) < m + 1 := by omega
      have k1' : (k : Int) < ((m + 1 : Nat) : Int) := by omega
      have k2 : (0 : Int) ≤ k := by omega
      generalize hbit : L.getD k false = bit at *
      clear hbit
      by_cases hs1 : s1 < 0
      · have d1 : decide (s1 < 0) = true := by simp; exact hs1
        have d2 : decide (0 ≤ s1) = false := by simp; omega
        cases bit with
        | false =>
          have HN : Hd (gst L (k + 1) = ((k : Int), s2)) := hid (by rw [HS.out]; unfold gstep; rw [if_pos ⟨rfl, hs1⟩])
          clear hs1
          gi_wp2
          go_roundw
          case rel => exact ⟨k + 1, by omega, by go_num, by rw [HN.out], by rw [HN.out]; exact hJs, hB⟩
          case measure => simp [intOf]; omega
        | true =>
          have HN : Hd (gst L (k + 1) = (s1, s2)) := hid (by rw [HS.out]; unfold gstep; rw [if_neg (fun h => by cases h.1), if_neg (fun h => by have := h.2; simp at this; omega)])
          clear hs1
          gi_wp2
          go_roundw
          case rel => exact ⟨k + 1, by omega, by go_num, by rw [HN.out], by rw [HN.out]; exact hJs, hB⟩
          case measure => simp [intOf]; omega
      · have d1 : decide (s1 < 0) = false := by simp; omega
        have d2 : decide (0 ≤ s1) = true := by simp; omega
        cases bit with
        | false =>
          have HN : Hd (gst L (k + 1) = (s1, s2)) := hid (by rw [HS.out]; unfold gstep; rw [if_neg (fun h => hs1 h.2), if_neg (fun h => by cases h.1)])
          clear hs1
          gi_wp2
          go_roundw
          case rel => exact ⟨k + 1, by omega, by go_num, by rw [HN.out], by rw [HN.out]; exact hJs, hB⟩
          case measure => simp [intOf]; omega
        | true =>
          have HN : Hd (gst L (k + 1) = (-1, s2 ++ [(s1, (k : Int))])) := hid (by rw [HS.out]; unfold gstep; rw [if_neg (fun h => by cases h.1), if_pos ⟨rfl, by simp; omega⟩])
          obtain ⟨fn, tmps, assign, body, hy, hR⟩ := hY _ (s1, (k : Int)) wr hJs (by first | omega | (rw [HML.out]; omega))
          clear hs1
          simp only [] at hy hR
          gi_wp2
          refine ⟨fun h => (by cases h), ?_⟩
          refine hR.mono ?_
          rintro e W3 (⟨rfl, hJ4, hk4⟩ | ⟨rfl, hJx4⟩)
          · gi_wp2
            go_roundw
            case rel => exact ⟨k + 1, by omega, by go_num, by rw [HN.out], by rw [HN.out]; exact hJ4, hid (hk4.2 _ _ hB.out)⟩
            case measure => simp [intOf]; omega
          · gi_wp2
            refine bodyPost_ret (results_none rfl _ _ _) rfl ?_
            exact ⟨⟨_, rfl⟩, .inr ⟨_, ⟨k + 1, by omega, by rw [HN.out]⟩, hJx4⟩⟩
    · obtain rfl : k = m + 1 := by omega
      have k0 : ¬ (((m + 1 : Nat) : Int) < ((m + 1 : Nat) : Int)) := by omega
      gi_wp2
      go_end0
      exact ⟨⟨_, rfl⟩, .inl (by first | exact ⟨_, HG.out.symm, hJs⟩ | (rw [HG.out]; exact hJs))⟩
end Go.Proofs.YtgfekgceeigdiaaDoor
namespace Go.Proofs.YtgfekgceeigdiaaDoor
open Go.RowKit Go.Shelf
attribute [local go_sem] Oper.semAt_some
def gapsM (M : Pm) : List (Int × Int) := if M.kn then gapsL M.hv else [(0, 65536)]
theorem missing_in (p : Nat) (n : Nat) (w : World) :
    CallsIn Fence.wide n Tryd.prog 39 #[.pointer (some ⟨p, 0, none⟩)] w fun e w' => e = .returned (.func (.func 63) #[] #[.pointer (some ⟨w.heap.size, 0, none⟩)]) ∧ w' = w.alloc (.cells #[.pointer (some ⟨p, 0, none⟩)] 61) := by
  refine callsIn_of_wp Tryd.func39 rfl trivial ?_ rfl
  simp only [Tryd.ntmps39, List.size_toArray, List.length_cons, List.length_nil, Nat.reduceAdd, Nat.reduceSub, Array.replicate_succ, Array.replicate_zero, List.push_toArray, List.append_toArray, List.nil_append, List.cons_append]
  gi_wp2
  go_ret
  exact ⟨rfl, rfl⟩
theorem missing_stops (n : Nat) (B0 p : Nat) (hv : List Bool) (ah : Option Addr) (ch : Nat) (w : World) (hBt : w.cell? ⟨B0, 0, none⟩ = some (.pointer (some ⟨p, 0, none⟩))) (hp3 : w.cell? ⟨p, 3, none⟩ = some (.slice ah hv.length ch)) (hrow : Row (fun _ => True) w 1 (.slice ah hv.length ch) hv.length (bls hv)) (hm : hv.length ≤ 65536) :
    SeqStopsK Fence.wide n Tryd.prog 63 #[.pointer (some ⟨B0, 0, none⟩)] (fun x : Int × Int => #[.agg #[.int .i64 x.1, .int .i64 x.2]]) BoolK (fun ys => ys = gapsL hv) (fun pre => ∃ k, k ≤ hv.length + 1 ∧ pre = (gst (hv ++ [true]) k).2) (hv.length + 2) w := fun l J Jx W hW hJ _ hY h0 =>
  missing1_in n l B0 p hv ah ch J Jx hY W hJ ((hW.cell (p := ⟨B0, 0, none⟩) (cell_lt hBt)).trans hBt) ((hW.cell (p := ⟨p, 3, none⟩) (cell_lt hp3)).trans hp3) (hrow.keep (Keeps.of_below hW) (fun b hb _ h => by omega)) hm h0
theorem grown_keeps {W W' : World} {row : Option Nat} (h : W.grownBy W' row) : Keeps (fun b => row = some b) W W' := ⟨h.os, h.tape, h.output, h.size, fun k hk hs => h.block k hk (fun e => hs e.symm)⟩
theorem own_cells {S : Nat → Prop} {w : World} {e : TypeId} {size : Nat} {v : Value} {n : Nat} {xs : List Value} (h : Own S w e size v n xs) {b : Nat} (hb : v.ownBlock = some b) : ∃ cs, Blk w b cs e := by
  rcases h.1.2 with ⟨h1, _⟩ | ⟨g, cap, cur, h1, _, h3, _⟩
  · rw [h1] at hb; simp [Value.ownBlock] at hb
  · rw [h1] at hb; injection hb with hb; subst hb; exact ⟨cur, h3⟩
theorem keepsOthers_of {S : Nat → Prop} {W W' : World} (hk : Keeps S W W') (h : ∀ b, b < W.heap.size → S b → ∃ cs T, Blk W b cs T) : KeepsOthers W W' :=
  ⟨hk.size, fun k o h1 h2 => (hk.block k (Array.getElem?_eq_some_iff.1 h1).1 (fun hs => by
    obtain ⟨cs, T, hb⟩ := h k (Array.getElem?_eq_some_iff.1 h1).1 hs
    rw [show W.heap[k]? = _ from hb] at h1; cases h1; cases h2)).trans h1⟩
theorem blk_own {β : Type} (B : Nat) (t : TypeId) (f : β → Array Value) : Go.Own (fun s W => Blk W B (f s) t) := fun s X Y row hs hg hrow => by
  refine (hg.block B (blk_lt hs) (fun e' => ?_)).trans hs
  obtain ⟨o, ho, hc⟩ := hrow B e'.symm
  rw [show X.heap[B]? = _ from hs] at ho; cases ho; cases hc
end Go.Proofs.YtgfekgceeigdiaaDoor
namespace Go.Proofs.YtgfekgceeigdiaaDoor
open Go.RowKit Go.Shelf
attribute [local go_sem] Oper.semAt_some
def bytesM (M : Pm) : List Nat × Int := if M.kn = false then ([], 3) else if gapsL M.hv ≠ [] then ([], 6) else if Cr.crc M.dt ≠ M.sm then ([], 8) else (M.dt, 0)
theorem gst_pre (l : List Bool) (k : Nat) : ∃ m, (gst l (k + 1)).2 = (gst l k).2 ++ m := by
  rw [gst_s]
  generalize gst l k = st
  unfold gstep
  split
  · exact ⟨[], by simp⟩
  · split
    · exact ⟨_, rfl⟩
    · exact ⟨[], by simp⟩
theorem gst_ne (l : List Bool) {k : Nat} (h : (gst l k).2 ≠ []) : ∀ j, (gst l (k + j)).2 ≠ []
  | 0 => h
  | j + 1 => fun e => by
    obtain ⟨m, hm⟩ := gst_pre l (k + j)
    rw [show k + (j + 1) = k + j + 1 by omega, hm] at e
    exact gst_ne l h j (List.append_eq_nil_iff.1 e).1
def BytesPost (w : World) (R : List Nat × Int) (e : Ending) (w' : World) : Prop := ∃ a n c, e = .returned (.tuple #[.slice a n c, .int .i64 R.2]) ∧ n = R.1.length ∧ Own (fun b => w.heap.size ≤ b) w' 5 1 (.slice a n c) n (u8s R.1) ∧ Below w.heap.size w w'
/-- the two results, in their cells -/
def BytI (w W0 : World) (e : Int) (W : World) : Prop := Blk W w.heap.size #[.slice none 0 0] 22 ∧ Blk W (w.heap.size + 1) #[.int .i64 e] 25 ∧ Below w.heap.size w W ∧ W0.heap.size ≤ W.heap.size
theorem bytI_grown {w W0 : World} {e : Int} {W W' : World} {row : Option Nat} (hw : w.heap.size ≤ W0.heap.size) (h : BytI w W0 e W) (hg : W.grownBy W' row) (hr : ∀ r, row = some r → W0.heap.size ≤ r ∧ ∃ o : Obj, W.heap[r]? = some o ∧ o.isCells = false) : BytI w W0 e W' := by
  obtain ⟨h1, h2, h4, h5⟩ := h
  have hk := grown_keeps hg
  have hne : ∀ b cs T, Blk W b cs T → row ≠ some b := fun b cs T hb e => by
    obtain ⟨_, o, ho, hc⟩ := hr b e
    rw [show W.heap[b]? = _ from hb] at ho; cases ho; cases hc
  exact ⟨blk_keep h1 hk (hne _ _ _ h1), blk_keep h2 hk (hne _ _ _ h2), h4.trans (hk.below (by have := h4.size; omega) (fun k hk' e => by have := (hr k e).1; omega)), Nat.le_trans h5 hk.size⟩
set_option maxRecDepth 100000 in set_option maxHeartbeats 1000000 in
theorem Bytes_in (Z : Nat → Prop) (p : Nat) (M : Pm) (w : World) (hN : Cr.Nib w) (hP : PartR Z w p M) (hM : M.ok) :
    CallsIn Fence.wide 3 Tryd.prog 18 #[.pointer (some ⟨p, 0, none⟩)] w fun e w' => BytesPost w (bytesM M) e w' := by
  obtain ⟨ah, ch, ad, cd, b1, zp, o1, o2⟩ := hP
  have HB := hid b1; have HR := hid o1.row; have HD := hid (row_sl o2.row (by rw [u8s_length])); have HN := hid hN
  have HBM : Hd (bytesM M = if M.kn = false then ([], 3) else if gapsL M.hv ≠ [] then ([], 6) else if Cr.crc M.dt ≠ M.sm then ([], 8) else (M.dt, 0)) := hid rfl
  have hm : M.hv.length ≤ 65536 := by rw [hM.len]; exact hM.max
  have HM := hid hM
  clear b1 o1 o2 hN hM
  have hpw := blk_lt HB.out
  refine callsIn_of_wp_marks Tryd.func18 rfl trivial ?_ rfl
  simp only [Tryd.ntmps18, List.size_toArray, List.length_cons, List.length_nil, Nat.reduceAdd, Nat.reduceSub, Array.replicate_succ, Array.replicate_zero, List.push_toArray, List.append_toArray, List.nil_append, List.cons_append]
  have kcases : M.kn = true ∨ M.kn = false := by cases M.kn <;> simp
  have p1 : ∀ o o', ((w.alloc o).alloc o').cell? ⟨p, 1, none⟩ = some (.bool M.kn) := fun o o' => blk_cell (blk_alloc (blk_alloc HB.out o) o') 1
  rcases kcases with hk | hk
  · rw [hk] at p1
    have HBN : Hd (bytesM M = if gapsL M.hv ≠ [] then ([], 6) else if Cr.crc M.dt ≠ M.sm then ([], 8) else (M.dt, 0)) := hid (by rw [HBM.out, hk]; rfl)
    clear hk
    gi_wp2_with fail
    refine ⟨trivial, ?_⟩
    refine (missing_in _ _ _).mono ?_
    rintro e w' ⟨rfl, rfl⟩
    gi_wp2
    obtain ⟨W0, hW0⟩ : ∃ W0, (((w.alloc (.cells #[.slice none 0 0] 22)).alloc (.cells #[.int .i64 0] 25)).alloc (.cells #[.pointer (some ⟨p, 0, none⟩)] 61)) = W0 := ⟨_, rfl⟩
    have b0 : Blk W0 w.heap.size #[.slice none 0 0] 22 := by rw [← hW0]; exact blk_alloc (blk_alloc (blk_new _ _ _) _) _
    have b1 : Blk W0 (w.heap.size + 1) #[.int .i64 0] 25 := by rw [← hW0]; exact blk_alloc (blk_new' _ _ _ _ (by simp)) _
    have b2 : Blk W0 (w.heap.size + 1 + 1) #[.pointer (some ⟨p, 0, none⟩)] 61 := by rw [← hW0]; exact blk_new' _ _ _ _ (by simp)
    have k0 : Keeps (fun _ => False) w W0 := by rw [← hW0]; exact ((keeps_alloc _ _ _).alloc _).alloc _
    have hB0 : Below w.heap.size w W0 := k0.below (Nat.le_refl _) (fun _ _ h => h)
    have hs0 := k0.size
    have hs2 := blk_lt b2
    rw [hW0]
    refine wpIn_rangeFunc_ownH rfl (by omega) (gf := 63) (lb := #[.pointer (some ⟨w.heap.size + 1 + 1, 0, none⟩)]) rfl trivial (enters_of Tryd.func63 (by kernel_rfl) rfl)
      (missing_stops 2 (w.heap.size + 1 + 1) p M.hv ah ch W0 (blk_cell b2 0) (blk_cell (blk_keep HB.out k0 (fun h => h)) 3) ((HR.out.keep k0 (fun _ _ _ h => h)).mono (fun _ _ _ => trivial)) hm) boolK_t (fun W l o o' _ h ho _ => boolK_b W l o o' h ho) (Below.refl _ _) (fun _ => rfl)
      (fun pre W => pre = [] ∧ BytI w W0 0 W) (fun c pre W => c = .ret ∧ pre ≠ [] ∧ BytI w W0 6 W) (fun pre W W' row h hg hr => ⟨h.1, bytI_grown hs0 h.2 hg hr⟩) (fun _ pre W W' row h hg hr => ⟨h.1, h.2.1, bytI_grown hs0 h.2.2 hg hr⟩) ⟨rfl, b0, b1, hB0, Nat.le_refl _⟩
      (fun x a' W => a' = { tmps := #[.pointer (some ⟨p, 0, none⟩), undef, .pointer (some ⟨w.heap.size, 0, none⟩), .pointer (some ⟨w.heap.size + 1, 0, none⟩), .pointer (some ⟨p, 0, none⟩), .pointer (some ⟨p, 0, none⟩), .pointer (some ⟨p, 1, none⟩), .bool true, .bool false, .pointer (some ⟨p, 0, none⟩), .func (.func 63) #[] #[.pointer (some ⟨w.heap.size + 1 + 1, 0, none⟩)], .agg #[.int .i64 x.1, .int .i64 x.2], undef, undef, undef, undef, undef, undef, undef, undef, undef, undef, undef, undef, undef, undef, undef], defers := [] })
      (fun x a' _ _ _ _ h _ _ => h)
      ?assign ?body ?done ?stop
    case assign =>
      rintro l pre x W K hI hK
      gi_wp2
      exact hK _ _ (KeepsFrom.refl _ _) ⟨Nat.le_refl _, fun _ _ h => h⟩ hI (by first | rfl | kernel_rfl | simp)
    case body =>
      rintro l pre x a' W hl ⟨r, hr⟩ ⟨rfl, h1, h2, h4, h5⟩ rfl hlt
      have o0 : W.cell? ⟨w.heap.size, 0, none⟩ = some (.slice none 0 0) := blk_cell h1 0
      have o1 : W.cell? ⟨w.heap.size + 1, 0, none⟩ = some (.int .i64 0) := blk_cell h2 0
      have f0 := blk_free h1 0
      have f1 := blk_free h2 0
      have H1 := hid h1; have H2 := hid h2; have H4 := hid h4
      clear h1 h2 h4
      gi_wp2
      refine ⟨((KeepsOthers.setCell _ _ _).trans (KeepsOthers.setCell _ _ _)).from _, rfl, by simp, ?_, ?_, ?_, ?_⟩
      · exact blk_other (blk_set H1.out 0 _) (by omega) 0 _
      · exact blk_set (blk_other H2.out (by omega) 0 _) 0 _
      · exact ((H4.out.setCell (p := ⟨w.heap.size, 0, none⟩) (by simp) _).setCell (p := ⟨w.heap.size + 1, 0, none⟩) (by simp) _)
      · simpa [World.setCell] using h5
    case done =>
      rintro D xs W hD rfl ⟨hg, h1, h2, h4, h5⟩ hK
      have hKB : Keeps (fun b => w.heap.size ≤ b) w W := Keeps.of_below h4
      have HBW := hid (blk_keep HB.out hKB (by omega)); have HDW := hid (HD.out.keep hKB (fun b hb _ h => by omega)); have HNW : Hd (Cr.Nib W) := hid (HN.out.keep hKB (by omega))
      have HBN2 : Hd (bytesM M = if Cr.crc M.dt ≠ M.sm then ([], 8) else (M.dt, 0)) := hid (by rw [HBN.out, if_neg (by rw [hg]; simp)])
      have p2 : W.cell? ⟨p, 2, none⟩ = some (.int .u32 (M.sm : Int)) := blk_cell HBW.out 2
      have p4 : W.cell? ⟨p, 4, none⟩ = some (.slice ad M.dt.length cd) := blk_cell HBW.out 4
      have HSS : Hd (∀ w', Keeps (fun _ => False) W w' → (w'.cell? ⟨p, 2, none⟩ = some (.int .u32 (M.sm : Int)) ∧ w'.cell? ⟨p, 4, none⟩ = some (.slice ad M.dt.length cd))) := hid (fun w' hk => ⟨keep_cell hk (fun h => h) p2, keep_cell hk (fun h => h) p4⟩)
      have H1 := hid h1; have H2 := hid h2; have H4 := hid h4; have HK := hid hK
      clear h1 h2 h4 hK hKB p2 p4
      gi_wp2_with fail
      refine wpIn_wide.2 ?_
      by_cases hc : Cr.crc M.dt = M.sm
      · have e1 : ((Cr.crc M.dt : Int) != (M.sm : Int)) = false := by simp; omega
        have HBN3 : Hd (bytesM M = (M.dt, 0)) := hid (by rw [HBN2.out, if_neg (fun h => h hc)])
        clear hc
        go_region_held3 (fun w' => w'.cell? ⟨p, 2, none⟩ = some (.int .u32 (M.sm : Int)) ∧ w'.cell? ⟨p, 4, none⟩ = some (.slice ad M.dt.length cd)) (exact HSS.out _ (by repeat (first | (with_reducible exact Keeps.refl _ _) | (with_reducible apply Keeps.drewN) | (with_reducible apply Keeps.drew))))
          (first
          | (go_at_call 10; refine (Cr.Sum_any _ _ M.dt _ (HNW.out.keep (S := fun _ => False) (by repeat (first | (with_reducible exact Keeps.refl _ _) | (with_reducible apply Keeps.drewN) | (with_reducible apply Keeps.drew))) (fun h => h)) (HDW.out.keep (S := fun _ => False) (by repeat (first | (with_reducible exact Keeps.refl _ _) | (with_reducible apply Keeps.drewN) | (with_reducible apply Keeps.drew))) (fun _ _ _ h => h)) HM.out.b (by have := HM.out.max; omega)).mono ?_; rintro e wx ⟨rfl, rfl⟩))
        all_goals
          have q4 : ∀ n, (W.drewN n).cell? ⟨p, 4, none⟩ = some (.slice ad M.dt.length cd) := fun n => (HSS.out _ ((Keeps.refl _ _).drewN n)).2
          have q5 : W.drew.cell? ⟨p, 4, none⟩ = some (.slice ad M.dt.length cd) := (HSS.out _ (Keeps.refl _ _).drew).2
          gi_wp2_with fail
          refine ⟨trivial, ?_⟩
          refine (callsIn_wide.2 (Cr.CloneB_any _ _ M.dt _ (HDW.out.keep (S := fun _ => False) (Keeps.refl _ _).drew (fun _ _ _ h => h)) (by have := HM.out.max; omega))).mono ?_
          rintro e w5 ⟨a5, n5, c5, rfl, hn5, ho5, hk5⟩
          obtain rfl : n5 = M.dt.length := by rw [hn5, u8s_length]
          have KW5 : Hd (Keeps (fun _ => False) W w5) := hid ((Keeps.refl _ _).drew.trans hk5)
          have HO5 := hid ho5
          have B1 := hid (blk_keep H1.out KW5.out (fun h => h)); have B2 := hid (blk_keep H2.out KW5.out (fun h => h))
          have o0 : w5.cell? ⟨w.heap.size, 0, none⟩ = some (.slice none 0 0) := blk_cell B1.out 0
          have o1 : w5.cell? ⟨w.heap.size + 1, 0, none⟩ = some (.int .i64 0) := blk_cell B2.out 0
          have f0 := blk_free B1.out 0
          have f1 := blk_free B2.out 0
          have z5 := KW5.out.size
          have HKD : w5.heap[D]? = some (.deferred (some [])) := (KW5.out.block D (Array.getElem?_eq_some_iff.1 HK.out).1 (fun h => h)).trans HK.out
          have hws : w.heap.size ≤ W.heap.size := by omega
          clear hn5 ho5 hk5 q4 q5
          gi_wp2
          have T1 := blk_other (blk_set B1.out 0 (.slice a5 M.dt.length c5)) (show w.heap.size + 1 ≠ w.heap.size by omega) 0 (.int .i64 0)
          have T2 := blk_set (blk_other B2.out (show w.heap.size ≠ w.heap.size + 1 by omega) 0 (.slice a5 M.dt.length c5)) 0 (.int .i64 0)
          have hKV := ((KeepsOthers.setCell w5 ⟨w.heap.size, 0, none⟩ (.slice a5 M.dt.length c5)).trans (KeepsOthers.setCell _ ⟨w.heap.size + 1, 0, none⟩ (.int .i64 0))).same D _ HKD rfl
          have hOV := ((HO5.out.keep (keeps_set (fun b => b = w.heap.size) w5 ⟨w.heap.size, 0, none⟩ (.slice a5 M.dt.length c5) rfl) (fun b _ h1 h2 => by have h1' : W.heap.size ≤ b := h1; omega)).keep (keeps_set (fun b => b = w.heap.size + 1) _ ⟨w.heap.size + 1, 0, none⟩ (.int .i64 0) rfl) (fun b _ h1 h2 => by have h1' : W.heap.size ≤ b := h1; omega))
          have hBV := ((H4.out.trans (KW5.out.below H4.out.size (fun _ _ h => h))).setCell (p := ⟨w.heap.size, 0, none⟩) (by simp) (.slice a5 M.dt.length c5)).setCell (p := ⟨w.heap.size + 1, 0, none⟩) (by simp) (.int .i64 0)
          generalize ((w5.setCell ⟨w.heap.size, 0, none⟩ (.slice a5 M.dt.length c5)).setCell ⟨w.heap.size + 1, 0, none⟩ (.int .i64 0)) = V at *
          have hnD : ∀ b cs T, Blk V b cs T → b ≠ D := fun b cs T hb e => by
            subst e
            rw [show V.heap[b]? = _ from hb] at hKV; cases hKV
          have hpk := grown_keeps (grownBy_putObj' V D (.deferred none))
          have c0 := blk_cell (blk_keep T1 hpk (fun e => by injection e with e; exact hnD _ _ _ T1 e.symm)) 0
          have c1 := blk_cell (blk_keep T2 hpk (fun e => by injection e with e; exact hnD _ _ _ T2 e.symm)) 0
          simp at c0 c1
          refine ⟨by simp, .inl ⟨_, _, rfl, run_takeDeferred hKV, ?_⟩⟩
          refine ⟨.tuple #[.slice a5 M.dt.length c5, .int .i64 0], by simp [results, Tryd.f18, go_sem, c0, c1], ?_⟩
          rw [HBN3.out]
          refine ⟨a5, _, c5, rfl, rfl, ((own_self hOV).keep hpk (fun b _ hb e => ?_)).mono (fun b _ h => by have h1 : W.heap.size ≤ b := hOV.2 b h; omega), hBV.trans (belowK_b (w := w) (Nat.le_refl _) V D _ _ (by omega) hKV rfl rfl)⟩
          obtain ⟨cs, hcs⟩ := own_cells hOV hb
          injection e with e
          exact hnD _ _ _ hcs e.symm
      · have e1 : ((Cr.crc M.dt : Int) != (M.sm : Int)) = true := by simp; omega
        have HBN3 : Hd (bytesM M = ([], 8)) := hid (by rw [HBN2.out, if_pos hc])
        clear hc
        go_region_held3 (fun w' => w'.cell? ⟨p, 2, none⟩ = some (.int .u32 (M.sm : Int)) ∧ w'.cell? ⟨p, 4, none⟩ = some (.slice ad M.dt.length cd)) (exact HSS.out _ (by repeat (first | (with_reducible exact Keeps.refl _ _) | (with_reducible apply Keeps.drewN) | (with_reducible apply Keeps.drew))))
          (first
          | (go_at_call 10; refine (Cr.Sum_any _ _ M.dt _ (HNW.out.keep (S := fun _ => False) (by repeat (first | (with_reducible exact Keeps.refl _ _) | (with_reducible apply Keeps.drewN) | (with_reducible apply Keeps.drew))) (fun h => h)) (HDW.out.keep (S := fun _ => False) (by repeat (first | (with_reducible exact Keeps.refl _ _) | (with_reducible apply Keeps.drewN) | (with_reducible apply Keeps.drew))) (fun _ _ _ h => h)) HM.out.b (by have := HM.out.max; omega)).mono ?_; rintro e wx ⟨rfl, rfl⟩))
        all_goals
          have o0 : W.cell? ⟨w.heap.size, 0, none⟩ = some (.slice none 0 0) := blk_cell H1.out 0
          have o1 : W.cell? ⟨w.heap.size + 1, 0, none⟩ = some (.int .i64 0) := blk_cell H2.out 0
          have f0 := blk_free H1.out 0
          have f1 := blk_free H2.out 0
          gi_wp2
          have T1 := blk_drew (blk_other (blk_set H1.out 0 (.slice none 0 0)) (show w.heap.size + 1 ≠ w.heap.size by omega) 0 (.int .i64 8))
          have T2 := blk_drew (blk_set (blk_other H2.out (show w.heap.size ≠ w.heap.size + 1 by omega) 0 (.slice none 0 0)) 0 (.int .i64 8))
          have hKV : ((W.setCell ⟨w.heap.size, 0, none⟩ (.slice none 0 0)).setCell ⟨w.heap.size + 1, 0, none⟩ (.int .i64 8)).drew.heap[D]? = some (.deferred (some [])) := ((KeepsOthers.setCell W ⟨w.heap.size, 0, none⟩ (.slice none 0 0)).trans (KeepsOthers.setCell _ ⟨w.heap.size + 1, 0, none⟩ (.int .i64 8))).same D _ HK.out rfl
          have hBV : Below w.heap.size w ((W.setCell ⟨w.heap.size, 0, none⟩ (.slice none 0 0)).setCell ⟨w.heap.size + 1, 0, none⟩ (.int .i64 8)).drew := H4.out.trans (Keeps.below (S := fun b => w.heap.size ≤ b) (((Keeps.refl _ W).setCell (p := ⟨w.heap.size, 0, none⟩) (.inl (by simp)) _).setCell (p := ⟨w.heap.size + 1, 0, none⟩) (.inl (by simp)) _).drew H4.out.size (fun k hk h => by omega))
          generalize ((W.setCell ⟨w.heap.size, 0, none⟩ (.slice none 0 0)).setCell ⟨w.heap.size + 1, 0, none⟩ (.int .i64 8)).drew = V at *
          have hnD : ∀ b cs T, Blk V b cs T → b ≠ D := fun b cs T hb e => by
            subst e
            rw [show V.heap[b]? = _ from hb] at hKV; cases hKV
          have hpk := grown_keeps (grownBy_putObj' V D (.deferred none))
          have c0 := blk_cell (blk_keep T1 hpk (fun e => by injection e with e; exact hnD _ _ _ T1 e.symm)) 0
          have c1 := blk_cell (blk_keep T2 hpk (fun e => by injection e with e; exact hnD _ _ _ T2 e.symm)) 0
          simp at c0 c1
          refine ⟨by simp, .inl ⟨_, _, rfl, run_takeDeferred hKV, ?_⟩⟩
          refine ⟨.tuple #[.slice none 0 0, .int .i64 8], by simp [results, Tryd.f18, go_sem, c0, c1], ?_⟩
          rw [HBN3.out]
          exact ⟨none, 0, 0, rfl, rfl, Own.nil _ _ _ _, hBV.trans (belowK_b (w := w) (Nat.le_refl _) V D _ _ (by omega) hKV rfl rfl)⟩
    case stop =>
      rintro D c pre W hD ⟨k, hk, rfl⟩ ⟨rfl, hne, hI⟩ hK
      have HGN : Hd (gapsL M.hv ≠ []) := hid (by
        have h := gst_ne (M.hv ++ [true]) hne (M.hv.length + 1 - k)
        rw [show k + (M.hv.length + 1 - k) = M.hv.length + 1 by omega] at h
        exact h)
      have hI2 := bytI_grown hs0 hI (grownBy_putObj' W D (.deferred none)) (fun r e => by cases e; exact ⟨hD, _, hK, rfl⟩)
      have c0 : (W.putObj D (.deferred none)).cell? ⟨w.heap.size, 0, none⟩ = some (.slice none 0 0) := blk_cell hI2.1 0
      have c1 : (W.putObj D (.deferred none)).cell? ⟨w.heap.size + 1, 0, none⟩ = some (.int .i64 6) := blk_cell hI2.2.1 0
      have HI2 := hid hI2
      clear hI hI2
      gi_wp2
      refine ⟨by simp, .inl ⟨_, _, rfl, run_takeDeferred hK, ?_⟩⟩
      refine ⟨.tuple #[.slice none 0 0, .int .i64 6], by simp [results, Tryd.f18, go_sem, c0, c1], ?_⟩
      rw [HBN.out, if_pos HGN.out]
      exact ⟨none, 0, 0, rfl, rfl, Own.nil _ _ _ _, HI2.out.2.2.1⟩
  · rw [hk] at p1
    have HBN : Hd (bytesM M = ([], 3)) := hid (by rw [HBM.out, if_pos hk])
    clear hk
    gi_wp2
    have c0 : ((w.alloc (.cells #[.slice none 0 0] 22)).alloc (.cells #[.int .i64 3] 25)).cell? ⟨w.heap.size, 0, none⟩ = some (.slice none 0 0) := blk_cell (blk_alloc (blk_new _ _ _) _) 0
    have c1 : ((w.alloc (.cells #[.slice none 0 0] 22)).alloc (.cells #[.int .i64 3] 25)).cell? ⟨w.heap.size + 1, 0, none⟩ = some (.int .i64 3) := blk_cell (blk_new' _ _ _ _ (by simp)) 0
    refine ⟨.tuple #[.slice none 0 0, .int .i64 3], by simp [results, Tryd.f18, go_sem, c0, c1], ?_⟩
    rw [HBN.out]
    exact ⟨none, 0, 0, rfl, rfl, Own.nil _ _ _ _, ((Below.refl _ w).alloc (Nat.le_refl _) _).alloc (by simp) _⟩
theorem Bytes_any (Z : Nat → Prop) (p : Nat) (M : Pm) (w : World) (hN : Cr.Nib w) (hP : PartR Z w p M) (hM : M.ok) :
    Calls Tryd.prog 18 #[.pointer (some ⟨p, 0, none⟩)] w fun e w' => ∃ a c, e = .returned (.tuple #[.slice a (bytesM M).1.length c, .int .i64 (bytesM M).2]) ∧ Own (fun b => w.heap.size ≤ b) w' 5 1 (.slice a (bytesM M).1.length c) (bytesM M).1.length (u8s (bytesM M).1) ∧ Keeps (fun _ => False) w w' := by
  refine ((callsIn_wide (n := 3)).1 (Bytes_in Z p M w hN hP hM)).mono ?_
  rintro e w' ⟨a, n, c, h1, rfl, h2, h3⟩
  exact ⟨a, c, h1, h2, (Keeps.of_below h3).mono (fun b hb h => by omega)⟩
end Go.Proofs.YtgfekgceeigdiaaDoor
namespace Go.Proofs.YtgfekgceeigdiaaDoor
open Go.RowKit
attribute [local go_sem ↓] Go.wp_at_zero Go.wp_at_succ
theorem Row.blk {V : World} {g : Nat} {cs : Array Value} {T : TypeId} (h : Blk V g cs T) (n size : Nat) (hl : cs.size = n * size) (hm : n ≤ maxLen) : Row (fun _ => True) V size (.slice (some ⟨g, 0, none⟩) n n) n cs.toList :=
  ⟨by simpa using hl, .inr ⟨_, n, rfl, Nat.le_refl _, hm, fun _ => ⟨g, 0, rfl, trivial, blk_lt h, fun j hj => by
    rw [Nat.zero_add, blk_cell h j]
    have : j < cs.size := by omega
    simp [List.getD, this]⟩⟩⟩
def NibF (w : World) : Prop := Cr.Nib w
theorem NibF.keep {S : Nat → Prop} {w w' : World} (h : NibF w) (hk : Keeps S w w') (hs : ∀ b : Nat, b = b → b = 0 → ¬ S b) : NibF w' := Cr.Nib.keep h hk (hs 0 rfl rfl)
theorem NibF.pos {w : World} (h : NibF w) : 0 < w.heap.size := by
  have h0 := h 0 (by omega)
  rcases Nat.eq_zero_or_pos w.heap.size with e | e
  · exfalso
    have : w.heap[0]? = none := by rw [Array.getElem?_eq_none]; omega
    simp [World.cell?, this] at h0
  · exact e
theorem Gps.keep {K S : Nat → Prop} {w w' : World} {v : Value} {l : List (Int × Int)} (h : Gps K w v l) (hk : Keeps S w w') (hd : ∀ b, b < w.heap.size → K b → ¬ S b) : Gps K w' v l := Row.keep h hk hd
end Go.Proofs.YtgfekgceeigdiaaDoor
