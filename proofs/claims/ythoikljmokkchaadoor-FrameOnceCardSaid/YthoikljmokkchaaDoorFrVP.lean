/- Frame: what the examples of the chapter compute. -/
import Derived.Test.YthoikljmokkchaaDoorFrPC
namespace Go.Proofs.YthoikljmokkchaaDoor
open Go.RowKit
def lF1 : Fr := signF ⟨7, 0⟩ ⟨1, 0, false, [98], 0⟩
def lF0 : Fr := signF (nextL ⟨7, 0⟩) ⟨0, 0, false, [97], 0⟩
theorem keyed0 : Keyed 7 ⟨7, 0⟩ := ⟨Int.le_refl _, rfl⟩
theorem lF1_f : lF1.q = 1 ∧ lF1.k = 0 ∧ lF1.u = false ∧ lF1.b = [98] := ⟨rfl, rfl, rfl, rfl⟩
theorem lF0_f : lF0.q = 0 ∧ lF0.k = 1 ∧ lF0.u = false ∧ lF0.b = [97] := ⟨rfl, rfl, rfl, rfl⟩
theorem lF1_ok : lF1.ok := signF_ok (f := ⟨1, 0, false, [98], 0⟩) ⟨by decide, by decide, by decide, by decide, by decide, by decide, by decide⟩ ⟨by decide, by decide, by decide⟩
theorem lF0_ok : lF0.ok := signF_ok (f := ⟨0, 0, false, [97], 0⟩) ⟨by decide, by decide, by decide, by decide, by decide, by decide, by decide⟩ (nextL_ok (l := ⟨7, 0⟩) ⟨by decide, by decide, by decide⟩ (by decide))
theorem lv1 : recvM ⟨0, [], false, ⟨7, 0⟩⟩ lF1 = (⟨0, [setQ lF1 1], false, ⟨iterN 1 7, 1⟩⟩, [], 0) := by
  obtain ⟨hq, hk, hu, hb⟩ := lF1_f
  have hm : Made 7 lF1 := made_sign keyed0 _
  unfold recvM
  rw [if_neg (by rw [hb]; decide)]
  rcases accept_made keyed0 hm with ⟨_, h⟩ | ⟨ha, _, _⟩
  · rw [hk] at h; exact absurd h (by decide)
  · rw [hk] at ha
    have hd : distM lF1.q 0 = 1 := by rw [hq]; decide
    rw [show acceptL ⟨7, 0⟩ lF1.k (covL lF1) lF1.t = (⟨iterN 1 7, 1⟩, 0) from by rw [hk]; exact ha]
    rw [if_neg (by simp)]
    unfold recv2
    rw [hu, hd]
    rfl
theorem lv2 : recvM ⟨0, [setQ lF1 1], false, ⟨iterN 1 7, 1⟩⟩ lF0 = (⟨2, [], false, ⟨iterN 2 7, 2⟩⟩, [[97], [98]], 0) := by
  obtain ⟨hq, hk, hu, hb⟩ := lF0_f
  obtain ⟨_, _, _, gb⟩ := lF1_f
  have hm : Made 7 lF0 := made_sign keyed0.next _
  have hkd : Keyed 7 ⟨iterN 1 7, 1⟩ := ⟨by decide, rfl⟩
  unfold recvM
  rw [if_neg (by rw [hb]; decide)]
  rcases accept_made hkd hm with ⟨_, h⟩ | ⟨ha, _, _⟩
  · rw [hk] at h; exact absurd h (by decide)
  · rw [hk] at ha
    have hd : distM lF0.q 0 = 0 := by rw [hq]; decide
    rw [show acceptL ⟨iterN 1 7, 1⟩ lF0.k (covL lF0) lF0.t = (⟨iterN 2 7, 2⟩, 0) from by rw [hk]; exact ha]
    rw [if_neg (by simp)]
    unfold recv2
    rw [hu, hd]
    have e : dlvN (0 + 1) [setQ lF1 1] = 1 := rfl
    unfold delivM
    simp only [Bool.false_eq_true, if_false, if_true, e, hb]
    show _ = ((⟨2, [], false, ⟨iterN 2 7, 2⟩⟩, [[97], lF1.b], 0) : Rv × List (List Nat) × Int)
    rfl
theorem lv3 : recvM ⟨2, [], false, ⟨iterN 2 7, 2⟩⟩ lF0 = (⟨2, [], false, ⟨iterN 2 7, 2⟩⟩, [], 30) := by
  obtain ⟨hq, hk, hu, hb⟩ := lF0_f
  unfold recvM
  rw [if_neg (by rw [hb]; decide)]
  rw [show acceptL ⟨iterN 2 7, 2⟩ lF0.k (covL lF0) lF0.t = (⟨0, 0⟩, 30) from accept_key _ _ (by rw [hk]; left; decide)]
  rw [if_pos (by decide)]
theorem lv4 : havI 0 [setQ lF1 1] = 1 := by
  rw [havI_eq (fun x hx => by simp at hx; subst hx; show (1 : Int) ≤ 0 + 60; decide)]; rfl
theorem lv5 : missM ⟨[[97], [98], [99]], 0, ⟨0, 0⟩⟩ ⟨2, 0, 2, false⟩ = [2] := by decide
theorem lv6 (f : Fr) (hb : f.b = [98]) : 9 < (encF f).length := by
  have e : ∀ n, 0 < (Wi.enc n).length := fun n => by unfold Wi.enc; split <;> simp
  unfold encF Cr.seal_ covL Wi.encB Wi.encI
  have h1 := e (modN f.q); have h2 := e (Wi.zig f.k); have h3 := e (unl f.u); have h4 := e f.b.length; have h5 := e f.t
  simp only [List.length_append, hb, List.length_cons, List.length_nil] at *
  have h6 : ∀ s, (Cr.le4 s).length = 4 := fun s => by simp [Cr.le4]
  rw [h6]; omega
end Go.Proofs.YthoikljmokkchaaDoor
