/- Frames: FrPB, FrPC, FrVP: walks and plain facts. -/
import Derived.Test.YthoikljmokkchaaDoorFrRcv
import Derived.Test.YthoikljmokkchaaDoorFrRun
namespace Go.Proofs.YthoikljmokkchaaDoor
open Go.RowKit
structure Rp where
  nx : Int
  ha : Int
  ky : Int
  lk : Bool
/-- the ladder of a key -/
def Keyed (key : Nat) (l : Ld) : Prop := 0 ≤ l.i ∧ l.k = iterN l.i.toNat key
theorem iterN_add (key : Nat) (m : Nat) : ∀ n, iterN n (iterN m key) = iterN (m + n) key
  | 0 => rfl
  | n + 1 => by show stepN (iterN n (iterN m key)) = stepN (iterN (m + n) key); rw [iterN_add key m n]
theorem Keyed.next {key : Nat} {l : Ld} (h : Keyed key l) : Keyed key (nextL l) := by
  obtain ⟨h1, h2⟩ := h
  refine ⟨by show 0 ≤ l.i + 1; omega, ?_⟩
  show stepN l.k = iterN (l.i + 1).toNat key
  rw [show (l.i + 1).toNat = l.i.toNat + 1 by omega, h2]; rfl
/-- a frame that was signed with a key of the ladder -/
def Made (key : Nat) (f : Fr) : Prop := 0 ≤ f.k ∧ f.t = tagN (iterN f.k.toNat key) (covL f)
theorem covL_sign (l : Ld) (f : Fr) : covL (signF l f) = covL (setK f l.i) := rfl
theorem made_sign {key : Nat} {l : Ld} (h : Keyed key l) (f : Fr) : Made key (signF l f) := by
  refine ⟨h.1, ?_⟩
  show tagN l.k (covL (setK f l.i)) = tagN (iterN l.i.toNat key) _
  rw [covL_sign, h.2]
theorem accept_made {key : Nat} {l : Ld} {f : Fr} (hl : Keyed key l) (hf : Made key f) :
    (acceptL l f.k (covL f) f.t = (⟨0, 0⟩, 30) ∧ (f.k < l.i ∨ l.i + 4096 < f.k)) ∨ (acceptL l f.k (covL f) f.t = (⟨iterN (f.k + 1).toNat key, f.k + 1⟩, 0) ∧ l.i ≤ f.k ∧ f.k ≤ l.i + 4096) := by
  by_cases h : f.k < l.i ∨ l.i + 4096 < f.k
  · exact .inl ⟨accept_key _ _ h, h⟩
  · have hf0 := hf.1
    have hl0 := hl.1
    have e : iterN (f.k - l.i).toNat l.k = iterN f.k.toNat key := by
      rw [hl.2, iterN_add]; congr 1; omega
    refine .inr ⟨?_, by omega, by omega⟩
    rw [accept_ok h (by rw [e]; exact hf.2.symm), e, show (f.k + 1).toNat = f.k.toNat + 1 by omega]; rfl
/-- the bodies that are known to the receiver -/
structure RInv (key : Nat) (bs : List (List Nat)) (r : Rv) (A : Int) : Prop where
  lk : r.lk = false
  n0 : 0 ≤ r.nx
  n1 : r.nx ≤ bs.length
  kd : Keyed key r.l
  ki : r.l.i ≤ A
  fs : ∀ x ∈ r.fs, r.nx < x.q ∧ x.q ≤ r.nx + 15 ∧ x.q < bs.length ∧ x.b = bs.getD x.q.toNat []
  so : r.fs.Pairwise (fun x y => x.q < y.q)
theorem RInv.bs {key : Nat} {bs cs : List (List Nat)} {r : Rv} {A : Int} (h : RInv key bs r A) : RInv key (bs ++ cs) r A := by
  refine ⟨h.lk, h.n0, by have := h.n1; rw [List.length_append]; push_cast; omega, h.kd, h.ki, fun x hx => ?_, h.so⟩
  obtain ⟨h1, h2, h3, h4⟩ := h.fs x hx
  have h0 := h.n0
  refine ⟨h1, h2, by rw [List.length_append]; push_cast; omega, ?_⟩
  rw [h4, List.getD, List.getD, List.getElem?_append_left (by omega)]
theorem RInv.mono {key : Nat} {bs : List (List Nat)} {r : Rv} {A B : Int} (h : RInv key bs r A) (hab : A ≤ B) : RInv key bs r B := ⟨h.lk, h.n0, h.n1, h.kd, by have := h.ki; omega, h.fs, h.so⟩
/-- a frame that carries a body of the sender -/
structure FGood (key : Nat) (bs : List (List Nat)) (f : Fr) (A : Int) : Prop where
  md : Made key f
  k1 : f.k < A
  u : f.u = false
  q0 : 0 ≤ f.q
  q1 : f.q < bs.length
  b : f.b = bs.getD f.q.toNat []
  l : f.b.length ≤ 512
theorem FGood.bs {key : Nat} {bs cs : List (List Nat)} {f : Fr} {A : Int} (h : FGood key bs f A) : FGood key (bs ++ cs) f A := by
  have h0 := h.q0; have h1 := h.q1
  exact ⟨h.md, h.k1, h.u, h.q0, by rw [List.length_append]; push_cast; omega, by rw [h.b, List.getD, List.getD, List.getElem?_append_left (by omega)], h.l⟩
theorem FGood.mono {key : Nat} {bs : List (List Nat)} {f : Fr} {A B : Int} (h : FGood key bs f A) (hab : A ≤ B) : FGood key bs f B := ⟨h.md, by have := h.k1; omega, h.u, h.q0, h.q1, h.b, h.l⟩
end Go.Proofs.YthoikljmokkchaaDoor
namespace Go.Proofs.YthoikljmokkchaaDoor
open Go.RowKit Go.Shelf
theorem i64_or_nat (a b : Nat) (ha : a < 4611686018427387904) (hb : b < 4611686018427387904) : bits .or .i64 (a : Int) (b : Int) = ((a ||| b : Nat) : Int) := by
  have hx : a ||| b < 2 ^ 62 := Nat.or_lt_two_pow (by omega) (by omega)
  show IntKind.i64.wrap ((BitVec.ofInt 64 (a : Int) ||| BitVec.ofInt 64 (b : Int)).toNat : Int) = _
  rw [BitVec.toNat_or, ofInt_u64 a (by omega), ofInt_u64 b (by omega)]
  exact IntWalk.i64_in _ (by omega)
/-- the place of a frame in a report -/
def bitAt (nx q : Int) : Nat := (q - nx).toNat - 1
def havN (nx : Int) (h : Nat) (l : List Fr) : Nat := l.foldl (fun h x => h ||| 2 ^ bitAt nx x.q) h
theorem pow_in {n : Nat} (h : n ≤ 60) : 2 ^ n < 4611686018427387904 := by
  have : 2 ^ n ≤ 2 ^ 60 := Nat.pow_le_pow_right (by omega) h
  exact Nat.lt_of_le_of_lt this (by decide)
theorem putI_nat {h : Nat} {d : Int} (hh : h < 4611686018427387904) (hd : d ≤ 61) : putI (h : Int) d = ((h ||| 2 ^ (d.toNat - 1) : Nat) : Int) := by
  have hp := pow_in (n := d.toNat - 1) (by omega)
  have e : wrap64 (2 ^ (d.toNat - 1)) = ((2 ^ (d.toNat - 1) : Nat) : Int) := by
    rw [show ((2 : Int) ^ (d.toNat - 1)) = ((2 ^ (d.toNat - 1) : Nat) : Int) by simp]
    generalize 2 ^ (d.toNat - 1) = p at hp ⊢
    exact IntWalk.wrap64_in _ (by omega)
  unfold putI
  rw [e]; exact i64_or_nat h _ hh hp
theorem havI_nat {nx : Int} : ∀ {l : List Fr} {h : Nat}, h < 4611686018427387904 → (∀ x ∈ l, x.q ≤ nx + 60) → l.foldl (fun h x => putI h (x.q - nx)) (h : Int) = ((havN nx h l : Nat) : Int) := by
  intro l
  induction l with
  | nil => intro h _ _; rfl
  | cons x l ih =>
    intro h hh hx
    have h1 := hx x List.mem_cons_self
    have hp : 2 ^ bitAt nx x.q < 4611686018427387904 := pow_in (by unfold bitAt; omega)
    show List.foldl _ (putI (h : Int) (x.q - nx)) l = _
    rw [putI_nat hh (by omega)]
    exact ih (h := h ||| 2 ^ bitAt nx x.q) (Nat.or_lt_two_pow (n := 62) (by omega) (by omega)) (fun y hy => hx y (List.mem_cons_of_mem _ hy))
theorem havI_eq {nx : Int} {l : List Fr} (hx : ∀ x ∈ l, x.q ≤ nx + 60) : havI nx l = ((havN nx 0 l : Nat) : Int) := havI_nat (h := 0) (by omega) hx
end Go.Proofs.YthoikljmokkchaaDoor
namespace Go.Proofs.YthoikljmokkchaaDoor
open Go.RowKit
def lF1 : Fr := signF ⟨7, 0⟩ ⟨1, 0, false, [98], 0⟩
def lF0 : Fr := signF (nextL ⟨7, 0⟩) ⟨0, 0, false, [97], 0⟩
theorem keyed0 : Keyed 7 ⟨7, 0⟩ := ⟨Int.le_refl _, rfl⟩
theorem lF1_f : lF1.q = 1 ∧ lF1.k = 0 ∧ lF1.u = false ∧ lF1.b = [98] := ⟨rfl, rfl, rfl, rfl⟩
theorem lF0_f : lF0.q = 0 ∧ lF0.k = 1 ∧ lF0.u = false ∧ lF0.b = [97] := ⟨rfl, rfl, rfl, rfl⟩
theorem lF1_ok : lF1.ok := signF_ok (f := ⟨1, 0, false, [98], 0⟩) ⟨by decide, by decide, by decide, by decide, by decide, by decide, by decide⟩ ⟨by decide, by decide, by decide⟩
theorem lF0_ok : lF0.ok := signF_ok (f := ⟨0, 0, false, [97], 0⟩) ⟨by decide, by decide, by decide, by decide, by decide, by decide, by decide⟩ (nextL_ok (l := ⟨7, 0⟩) ⟨by decide, by decide, by decide⟩ (by decide))
theorem lv1 : recvM ⟨0, [], false, ⟨7, 0⟩⟩ lF1 = (⟨0, [setQ lF1 1], false, ⟨iterN 1 7, 1⟩⟩, [], 0) := by
  obtain ⟨hq, hk, hu, hb⟩ := lF1_f
  have hm : Made 7 lF1 := made_sign keyed0 _
  unfold recvM
  rw [if_neg (by rw [hb]; decide)]
  rcases accept_made keyed0 hm with ⟨_, h⟩ | ⟨ha, _, _⟩
  · rw [hk] at h; exact absurd h (by decide)
  · rw [hk] at ha
    have hd : distM lF1.q 0 = 1 := by rw [hq]; decide
    rw [show acceptL ⟨7, 0⟩ lF1.k (covL lF1) lF1.t = (⟨iterN 1 7, 1⟩, 0) from by rw [hk]; exact ha]
    rw [if_neg (by simp)]
    unfold recv2
    rw [hu, hd]
    rfl
theorem lv2 : recvM ⟨0, [setQ lF1 1], false, ⟨iterN 1 7, 1⟩⟩ lF0 = (⟨2, [], false, ⟨iterN 2 7, 2⟩⟩, [[97], [98]], 0) := by
  obtain ⟨hq, hk, hu, hb⟩ := lF0_f
  obtain ⟨_, _, _, gb⟩ := lF1_f
  have hm : Made 7 lF0 := made_sign keyed0.next _
  have hkd : Keyed 7 ⟨iterN 1 7, 1⟩ := ⟨by decide, rfl⟩
  unfold recvM
  rw [if_neg (by rw [hb]; decide)]
  rcases accept_made hkd hm with ⟨_, h⟩ | ⟨ha, _, _⟩
  · rw [hk] at h; exact absurd h (by decide)
  · rw [hk] at ha
    have hd : distM lF0.q 0 = 0 := by rw [hq]; decide
    rw [show acceptL ⟨iterN 1 7, 1⟩ lF0.k (covL lF0) lF0.t = (⟨iterN 2 7, 2⟩, 0) from by rw [hk]; exact ha]
    rw [if_neg (by simp)]
    unfold recv2
    rw [hu, hd]
    have e : dlvN (0 + 1) [setQ lF1 1] = 1 := rfl
    unfold delivM
    simp only [Bool.false_eq_true, if_false, if_true, e, hb]
    show _ = ((⟨2, [], false, ⟨iterN 2 7, 2⟩⟩, [[97], lF1.b], 0) : Rv × List (List Nat) × Int)
    rfl
theorem lv3 : recvM ⟨2, [], false, ⟨iterN 2 7, 2⟩⟩ lF0 = (⟨2, [], false, ⟨iterN 2 7, 2⟩⟩, [], 30) := by
  obtain ⟨hq, hk, hu, hb⟩ := lF0_f
  unfold recvM
  rw [if_neg (by rw [hb]; decide)]
  rw [show acceptL ⟨iterN 2 7, 2⟩ lF0.k (covL lF0) lF0.t = (⟨0, 0⟩, 30) from accept_key _ _ (by rw [hk]; left; decide)]
  rw [if_pos (by decide)]
theorem lv4 : havI 0 [setQ lF1 1] = 1 := by
  rw [havI_eq (fun x hx => by simp at hx; subst hx; show (1 : Int) ≤ 0 + 60; decide)]; rfl
theorem lv6 (f : Fr) (hb : f.b = [98]) : 9 < (encF f).length := by
  have e : ∀ n, 0 < (Wi.enc n).length := fun n => by unfold Wi.enc; split <;> simp
  unfold encF Cr.seal_ covL Wi.encB Wi.encI
  have h1 := e (modN f.q); have h2 := e (Wi.zig f.k); have h3 := e (unl f.u); have h4 := e f.b.length; have h5 := e f.t
  simp only [List.length_append, hb, List.length_cons, List.length_nil] at *
  have h6 : ∀ s, (Cr.le4 s).length = 4 := fun s => by simp [Cr.le4]
  rw [h6]; omega
end Go.Proofs.YthoikljmokkchaaDoor
