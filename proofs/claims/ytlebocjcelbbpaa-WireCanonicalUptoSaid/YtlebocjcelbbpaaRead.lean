/- The walks of the wire laws' helpers: read, same, length. -/
import Derived.Test.YtlebocjcelbbpaaItem
import Derived.Test.YtlebocjcelbbpaaWireL2
namespace Go.Proofs.Ytlebocjcelbbpaa
open Go.RowKit

def rdIt (kind most : Int) (s : St) : St × It :=
  if kind = 0 then ((sU s).1, ⟨kind, (sU s).2, 0, [], [], 0⟩)
  else if kind = 1 then ((sI s).1, ⟨kind, 0, (sI s).2, [], [], 0⟩)
  else if kind = 2 then ((sB most s).1, ⟨kind, 0, 0, (sB most s).2, [], 0⟩)
  else ((sL most s).1, ⟨kind, 0, 0, [], (sL most s).2, 0⟩)
/-- an item as a value -/
def ItV (K : Nat → Prop) (w : World) (v : Value) (x : It) : Prop :=
  ∃ ab nb cb al nl cl, v = .agg #[.int .i64 x.kind, .int .u64 (x.u : Nat), .int .i64 x.n, .slice ab nb cb, .slice al nl cl, .int .i64 x.most] ∧ Sl K w (.slice ab nb cb) (u8s x.b) ∧ Sl K w (.slice al nl cl) (i64s x.l)
def ReadPost (K : Nat → Prop) (w : World) (p : Nat) (kind most : Int) (s : St) (r : Ending) (w' : World) : Prop :=
  ∃ v, r = .returned v ∧ ItV (fun k => w.heap.size ≤ k) w' v (rdIt kind most s).2 ∧ Rd K w' p (rdIt kind most s).1 ∧ Keeps (fun k => k = p) w w'
set_option maxRecDepth 100000 in set_option maxHeartbeats 1000000 in
theorem read_any (K : Nat → Prop) (p : Nat) (s : St) (kind u n m2 most : Int) (ab al : Option Addr) (nb cb nl cl : Nat) (w : World) (h : Rd K w p s) (hmo : most ≤ 9223372036854775807) (hlen : s.2.length ≤ 1000000000000) :
    Calls Try.prog 31 #[.pointer (some ⟨p, 0, none⟩), .agg #[.int .i64 kind, .int .u64 u, .int .i64 n, .slice ab nb cb, .slice al nl cl, .int .i64 m2], .int .i64 most] w fun e w' => ReadPost K w p kind most s e w' := by
  have HPK : Hd (¬ K p) := hid (by obtain ⟨bv, bs, at_, h1, h2, h3, h4, h5, h6, h7, h8⟩ := h; exact h7)
  have HR : Hd (Rd (fun b => K b ∧ b < w.heap.size) w p s) := hid (h.mono (fun b hb h => ⟨h, hb⟩) (fun h => HPK.out h.1))
  have HMO := hid hmo; have HLEN := hid hlen
  have hp := h.lt
  clear h hmo hlen
  by_cases h0 : kind = 0
  · have t0 : (kind == 0) = true := by simp; exact h0
    have HE : Hd (rdIt kind most s = ((sU s).1, ⟨kind, (sU s).2, 0, [], [], 0⟩)) := hid (by unfold rdIt; rw [if_pos h0])
    clear h0
    go_enter Try.func31, Try.ntmps31
    go_wp2_with fail
    generalize hW : World.alloc (World.alloc (World.alloc w _) _) _ = W
    have B1 : Blk W (w.heap.size + 1) #[.int .i64 0, .int .u64 0, .int .i64 0, .slice none 0 0, .slice none 0 0, .int .i64 0] 46 := by rw [← hW]; exact blk_alloc (blk_new' _ _ _ _ (by simp)) _
    have B2 : Blk W (w.heap.size + 2) #[.int .i64 kind, .int .u64 0, .int .i64 0, .slice none 0 0, .slice none 0 0, .int .i64 0] 46 := by rw [← hW]; exact blk_new' _ _ _ _ (by simp)
    have hkW : Keeps (fun _ => False) w W := by rw [← hW]; repeat (first | (with_reducible assumption) | (with_reducible exact Keeps.refl _ _) | (with_reducible apply Keeps.drewN) | (with_reducible apply Keeps.drew) | (with_reducible apply Keeps.alloc) | refine Keeps.setCell ?_ (by first | (simp; done) | (simp; omega)) _)
    have HKW := hid hkW; have HRW := hid (HR.out.keep hkW (fun h => h) (fun _ _ _ h => h)); have HB1 := hid B1; have HB2 := hid B2
    have zW : w.heap.size + 2 < W.heap.size := blk_lt B2
    clear hW hkW B1 B2
    refine (RUint_any _ p s _ HRW.out).mono ?_
    rintro e w1 ⟨rfl, hr1, hk1⟩
    have C1 := blk_keep HB1.out hk1 (by omega)
    have C2 := blk_keep HB2.out hk1 (by omega)
    have g0 : w1.cell? ⟨w.heap.size + 1, 0, none⟩ = some (.int .i64 0) := blk_cell C1 0
    have g1 : w1.cell? ⟨w.heap.size + 1, 1, none⟩ = some (.int .u64 0) := blk_cell C1 1
    have g2 : w1.cell? ⟨w.heap.size + 1, 2, none⟩ = some (.int .i64 0) := blk_cell C1 2
    have g3 : w1.cell? ⟨w.heap.size + 1, 3, none⟩ = some (.slice none 0 0) := blk_cell C1 3
    have g4 : w1.cell? ⟨w.heap.size + 1, 4, none⟩ = some (.slice none 0 0) := blk_cell C1 4
    have g5 : w1.cell? ⟨w.heap.size + 1, 5, none⟩ = some (.int .i64 0) := blk_cell C1 5
    have q0 : w1.frozen? ⟨w.heap.size + 1, 0, none⟩ = false := blk_free C1 0
    have q1 : w1.frozen? ⟨w.heap.size + 1, 1, none⟩ = false := blk_free C1 1
    have q2 : w1.frozen? ⟨w.heap.size + 1, 2, none⟩ = false := blk_free C1 2
    have q3 : w1.frozen? ⟨w.heap.size + 1, 3, none⟩ = false := blk_free C1 3
    have q4 : w1.frozen? ⟨w.heap.size + 1, 4, none⟩ = false := blk_free C1 4
    have q5 : w1.frozen? ⟨w.heap.size + 1, 5, none⟩ = false := blk_free C1 5
    have e0 : w1.cell? ⟨w.heap.size + 2, 0, none⟩ = some (.int .i64 kind) := blk_cell C2 0
    have e1 : w1.cell? ⟨w.heap.size + 2, 1, none⟩ = some (.int .u64 0) := blk_cell C2 1
    have e2 : w1.cell? ⟨w.heap.size + 2, 2, none⟩ = some (.int .i64 0) := blk_cell C2 2
    have e3 : w1.cell? ⟨w.heap.size + 2, 3, none⟩ = some (.slice none 0 0) := blk_cell C2 3
    have e4 : w1.cell? ⟨w.heap.size + 2, 4, none⟩ = some (.slice none 0 0) := blk_cell C2 4
    have e5 : w1.cell? ⟨w.heap.size + 2, 5, none⟩ = some (.int .i64 0) := blk_cell C2 5
    have qq : w1.frozen? ⟨w.heap.size + 2, 1, none⟩ = false := blk_free C2 1
    have HK1 := hid hk1; have HR1 := hid hr1
    clear C1 C2 hk1 hr1
    go_wp2
    refine bodyPost_ret (v := .agg #[.int .i64 kind, .int .u64 ((sU s).2 : Nat), .int .i64 0, .slice none 0 0, .slice none 0 0, .int .i64 0]) (by simp [results, Try.results31, go_sem, g0, g1, g2, g3, g4, g5]) rfl ?_
    have hww : Keeps (fun k => k = p) w w1 := (HKW.out.mono (fun _ _ h => h.elim)).trans' HK1.out (fun i hi h => by omega)
    have hs1 := HK1.out.size
    refine ⟨_, rfl, ?_, ?_, hww.trans' (T := fun k => w.heap.size ≤ k ∧ k < W.heap.size) ?_ (fun i hi h => by omega)⟩
    · rw [HE.out]
      exact ⟨_, _, _, _, _, _, rfl, Sl.nil _ _, Sl.nil _ _⟩
    · rw [HE.out]
      refine (HR1.out.keep (S := fun k => w.heap.size ≤ k ∧ k < W.heap.size) ?_ (by omega) (fun b hb h => by omega)).mono (fun b _ h => h.1) HPK.out
      repeat (first | (with_reducible assumption) | (with_reducible exact Keeps.refl _ _) | (with_reducible apply Keeps.drewN) | (with_reducible apply Keeps.drew) | (with_reducible apply Keeps.alloc) | refine Keeps.setCell ?_ (by first | (simp; done) | (simp; omega)) _)
    · repeat (first | (with_reducible assumption) | (with_reducible exact Keeps.refl _ _) | (with_reducible apply Keeps.drewN) | (with_reducible apply Keeps.drew) | (with_reducible apply Keeps.alloc) | refine Keeps.setCell ?_ (by first | (simp; done) | (simp; omega)) _)
  · by_cases h1 : kind = 1
    · have t0 : (kind == 0) = false := by simp; exact h0
      have t1 : (kind == 1) = true := by simp; exact h1
      have HE : Hd (rdIt kind most s = ((sI s).1, ⟨kind, 0, (sI s).2, [], [], 0⟩)) := hid (by unfold rdIt; rw [if_neg h0, if_pos h1])
      clear h0 h1
      go_enter Try.func31, Try.ntmps31
      go_wp2_with fail
      generalize hW : World.alloc (World.alloc (World.alloc w _) _) _ = W
      have B1 : Blk W (w.heap.size + 1) #[.int .i64 0, .int .u64 0, .int .i64 0, .slice none 0 0, .slice none 0 0, .int .i64 0] 46 := by rw [← hW]; exact blk_alloc (blk_new' _ _ _ _ (by simp)) _
      have B2 : Blk W (w.heap.size + 2) #[.int .i64 kind, .int .u64 0, .int .i64 0, .slice none 0 0, .slice none 0 0, .int .i64 0] 46 := by rw [← hW]; exact blk_new' _ _ _ _ (by simp)
      have hkW : Keeps (fun _ => False) w W := by rw [← hW]; repeat (first | (with_reducible assumption) | (with_reducible exact Keeps.refl _ _) | (with_reducible apply Keeps.drewN) | (with_reducible apply Keeps.drew) | (with_reducible apply Keeps.alloc) | refine Keeps.setCell ?_ (by first | (simp; done) | (simp; omega)) _)
      have HKW := hid hkW; have HRW := hid (HR.out.keep hkW (fun h => h) (fun _ _ _ h => h)); have HB1 := hid B1; have HB2 := hid B2
      have zW : w.heap.size + 2 < W.heap.size := blk_lt B2
      clear hW hkW B1 B2
      refine (RInt_any _ p s _ HRW.out).mono ?_
      rintro e w1 ⟨rfl, hr1, hk1⟩
      have C1 := blk_keep HB1.out hk1 (by omega)
      have C2 := blk_keep HB2.out hk1 (by omega)
      have g0 : w1.cell? ⟨w.heap.size + 1, 0, none⟩ = some (.int .i64 0) := blk_cell C1 0
      have g1 : w1.cell? ⟨w.heap.size + 1, 1, none⟩ = some (.int .u64 0) := blk_cell C1 1
      have g2 : w1.cell? ⟨w.heap.size + 1, 2, none⟩ = some (.int .i64 0) := blk_cell C1 2
      have g3 : w1.cell? ⟨w.heap.size + 1, 3, none⟩ = some (.slice none 0 0) := blk_cell C1 3
      have g4 : w1.cell? ⟨w.heap.size + 1, 4, none⟩ = some (.slice none 0 0) := blk_cell C1 4
      have g5 : w1.cell? ⟨w.heap.size + 1, 5, none⟩ = some (.int .i64 0) := blk_cell C1 5
      have q0 : w1.frozen? ⟨w.heap.size + 1, 0, none⟩ = false := blk_free C1 0
      have q1 : w1.frozen? ⟨w.heap.size + 1, 1, none⟩ = false := blk_free C1 1
      have q2 : w1.frozen? ⟨w.heap.size + 1, 2, none⟩ = false := blk_free C1 2
      have q3 : w1.frozen? ⟨w.heap.size + 1, 3, none⟩ = false := blk_free C1 3
      have q4 : w1.frozen? ⟨w.heap.size + 1, 4, none⟩ = false := blk_free C1 4
      have q5 : w1.frozen? ⟨w.heap.size + 1, 5, none⟩ = false := blk_free C1 5
      have e0 : w1.cell? ⟨w.heap.size + 2, 0, none⟩ = some (.int .i64 kind) := blk_cell C2 0
      have e1 : w1.cell? ⟨w.heap.size + 2, 1, none⟩ = some (.int .u64 0) := blk_cell C2 1
      have e2 : w1.cell? ⟨w.heap.size + 2, 2, none⟩ = some (.int .i64 0) := blk_cell C2 2
      have e3 : w1.cell? ⟨w.heap.size + 2, 3, none⟩ = some (.slice none 0 0) := blk_cell C2 3
      have e4 : w1.cell? ⟨w.heap.size + 2, 4, none⟩ = some (.slice none 0 0) := blk_cell C2 4
      have e5 : w1.cell? ⟨w.heap.size + 2, 5, none⟩ = some (.int .i64 0) := blk_cell C2 5
      have qq : w1.frozen? ⟨w.heap.size + 2, 2, none⟩ = false := blk_free C2 2
      have HK1 := hid hk1; have HR1 := hid hr1
      clear C1 C2 hk1 hr1
      go_wp2
      refine bodyPost_ret (v := .agg #[.int .i64 kind, .int .u64 0, .int .i64 (sI s).2, .slice none 0 0, .slice none 0 0, .int .i64 0]) (by simp [results, Try.results31, go_sem, g0, g1, g2, g3, g4, g5]) rfl ?_
      have hww : Keeps (fun k => k = p) w w1 := (HKW.out.mono (fun _ _ h => h.elim)).trans' HK1.out (fun i hi h => by omega)
      have hs1 := HK1.out.size
      refine ⟨_, rfl, ?_, ?_, hww.trans' (T := fun k => w.heap.size ≤ k ∧ k < W.heap.size) ?_ (fun i hi h => by omega)⟩
      · rw [HE.out]
        exact ⟨_, _, _, _, _, _, rfl, Sl.nil _ _, Sl.nil _ _⟩
      · rw [HE.out]
        refine (HR1.out.keep (S := fun k => w.heap.size ≤ k ∧ k < W.heap.size) ?_ (by omega) (fun b hb h => by omega)).mono (fun b _ h => h.1) HPK.out
        repeat (first | (with_reducible assumption) | (with_reducible exact Keeps.refl _ _) | (with_reducible apply Keeps.drewN) | (with_reducible apply Keeps.drew) | (with_reducible apply Keeps.alloc) | refine Keeps.setCell ?_ (by first | (simp; done) | (simp; omega)) _)
      · repeat (first | (with_reducible assumption) | (with_reducible exact Keeps.refl _ _) | (with_reducible apply Keeps.drewN) | (with_reducible apply Keeps.drew) | (with_reducible apply Keeps.alloc) | refine Keeps.setCell ?_ (by first | (simp; done) | (simp; omega)) _)
    · by_cases h2 : kind = 2
      · have t0 : (kind == 0) = false := by simp; exact h0
        have t1 : (kind == 1) = false := by simp; exact h1
        have t2 : (kind == 2) = true := by simp; exact h2
        have HE : Hd (rdIt kind most s = ((sB most s).1, ⟨kind, 0, 0, (sB most s).2, [], 0⟩)) := hid (by unfold rdIt; rw [if_neg h0, if_neg h1, if_pos h2])
        clear h0 h1 h2
        go_enter Try.func31, Try.ntmps31
        go_wp2_with fail
        generalize hW : World.alloc (World.alloc (World.alloc w _) _) _ = W
        have B1 : Blk W (w.heap.size + 1) #[.int .i64 0, .int .u64 0, .int .i64 0, .slice none 0 0, .slice none 0 0, .int .i64 0] 46 := by rw [← hW]; exact blk_alloc (blk_new' _ _ _ _ (by simp)) _
        have B2 : Blk W (w.heap.size + 2) #[.int .i64 kind, .int .u64 0, .int .i64 0, .slice none 0 0, .slice none 0 0, .int .i64 0] 46 := by rw [← hW]; exact blk_new' _ _ _ _ (by simp)
        have hkW : Keeps (fun _ => False) w W := by rw [← hW]; repeat (first | (with_reducible assumption) | (with_reducible exact Keeps.refl _ _) | (with_reducible apply Keeps.drewN) | (with_reducible apply Keeps.drew) | (with_reducible apply Keeps.alloc) | refine Keeps.setCell ?_ (by first | (simp; done) | (simp; omega)) _)
        have HKW := hid hkW; have HRW := hid (HR.out.keep hkW (fun h => h) (fun _ _ _ h => h)); have HB1 := hid B1; have HB2 := hid B2
        have zW : w.heap.size + 2 < W.heap.size := blk_lt B2
        clear hW hkW B1 B2
        refine (RBytes_any _ p most s _ HRW.out HMO.out).mono ?_
        rintro e w1 ⟨ax, nx, cx, rfl, hn, ho, hr1, hk1⟩
        have HX : Hd (Sl (fun k => W.heap.size ≤ k) w1 (.slice ax nx cx) (u8s (sB most s).2)) := hid (row_sl ho.row (by rw [u8s_length]; exact hn.symm))
        clear hn ho
        have C1 := blk_keep HB1.out hk1 (by omega)
        have C2 := blk_keep HB2.out hk1 (by omega)
        have g0 : w1.cell? ⟨w.heap.size + 1, 0, none⟩ = some (.int .i64 0) := blk_cell C1 0
        have g1 : w1.cell? ⟨w.heap.size + 1, 1, none⟩ = some (.int .u64 0) := blk_cell C1 1
        have g2 : w1.cell? ⟨w.heap.size + 1, 2, none⟩ = some (.int .i64 0) := blk_cell C1 2
        have g3 : w1.cell? ⟨w.heap.size + 1, 3, none⟩ = some (.slice none 0 0) := blk_cell C1 3
        have g4 : w1.cell? ⟨w.heap.size + 1, 4, none⟩ = some (.slice none 0 0) := blk_cell C1 4
        have g5 : w1.cell? ⟨w.heap.size + 1, 5, none⟩ = some (.int .i64 0) := blk_cell C1 5
        have q0 : w1.frozen? ⟨w.heap.size + 1, 0, none⟩ = false := blk_free C1 0
        have q1 : w1.frozen? ⟨w.heap.size + 1, 1, none⟩ = false := blk_free C1 1
        have q2 : w1.frozen? ⟨w.heap.size + 1, 2, none⟩ = false := blk_free C1 2
        have q3 : w1.frozen? ⟨w.heap.size + 1, 3, none⟩ = false := blk_free C1 3
        have q4 : w1.frozen? ⟨w.heap.size + 1, 4, none⟩ = false := blk_free C1 4
        have q5 : w1.frozen? ⟨w.heap.size + 1, 5, none⟩ = false := blk_free C1 5
        have e0 : w1.cell? ⟨w.heap.size + 2, 0, none⟩ = some (.int .i64 kind) := blk_cell C2 0
        have e1 : w1.cell? ⟨w.heap.size + 2, 1, none⟩ = some (.int .u64 0) := blk_cell C2 1
        have e2 : w1.cell? ⟨w.heap.size + 2, 2, none⟩ = some (.int .i64 0) := blk_cell C2 2
        have e3 : w1.cell? ⟨w.heap.size + 2, 3, none⟩ = some (.slice none 0 0) := blk_cell C2 3
        have e4 : w1.cell? ⟨w.heap.size + 2, 4, none⟩ = some (.slice none 0 0) := blk_cell C2 4
        have e5 : w1.cell? ⟨w.heap.size + 2, 5, none⟩ = some (.int .i64 0) := blk_cell C2 5
        have qq : w1.frozen? ⟨w.heap.size + 2, 3, none⟩ = false := blk_free C2 3
        have HK1 := hid hk1; have HR1 := hid hr1
        clear C1 C2 hk1 hr1
        go_wp2
        refine bodyPost_ret (v := .agg #[.int .i64 kind, .int .u64 0, .int .i64 0, .slice ax nx cx, .slice none 0 0, .int .i64 0]) (by simp [results, Try.results31, go_sem, g0, g1, g2, g3, g4, g5]) rfl ?_
        have hww : Keeps (fun k => k = p) w w1 := (HKW.out.mono (fun _ _ h => h.elim)).trans' HK1.out (fun i hi h => by omega)
        have hs1 := HK1.out.size
        refine ⟨_, rfl, ?_, ?_, hww.trans' (T := fun k => w.heap.size ≤ k ∧ k < W.heap.size) ?_ (fun i hi h => by omega)⟩
        · rw [HE.out]
          exact ⟨_, _, _, _, _, _, rfl, ((HX.out.keep (S := fun k => w.heap.size ≤ k ∧ k < W.heap.size) (by repeat (first | (with_reducible assumption) | (with_reducible exact Keeps.refl _ _) | (with_reducible apply Keeps.drewN) | (with_reducible apply Keeps.drew) | (with_reducible apply Keeps.alloc) | refine Keeps.setCell ?_ (by first | (simp; done) | (simp; omega)) _)) (fun b _ h => by omega)).mono (fun b _ h => by omega)), Sl.nil _ _⟩
        · rw [HE.out]
          refine (HR1.out.keep (S := fun k => w.heap.size ≤ k ∧ k < W.heap.size) ?_ (by omega) (fun b hb h => by omega)).mono (fun b _ h => h.1) HPK.out
          repeat (first | (with_reducible assumption) | (with_reducible exact Keeps.refl _ _) | (with_reducible apply Keeps.drewN) | (with_reducible apply Keeps.drew) | (with_reducible apply Keeps.alloc) | refine Keeps.setCell ?_ (by first | (simp; done) | (simp; omega)) _)
        · repeat (first | (with_reducible assumption) | (with_reducible exact Keeps.refl _ _) | (with_reducible apply Keeps.drewN) | (with_reducible apply Keeps.drew) | (with_reducible apply Keeps.alloc) | refine Keeps.setCell ?_ (by first | (simp; done) | (simp; omega)) _)
      · have t0 : (kind == 0) = false := by simp; exact h0
        have t1 : (kind == 1) = false := by simp; exact h1
        have t2 : (kind == 2) = false := by simp; exact h2
        have HE : Hd (rdIt kind most s = ((sL most s).1, ⟨kind, 0, 0, [], (sL most s).2, 0⟩)) := hid (by unfold rdIt; rw [if_neg h0, if_neg h1, if_neg h2])
        clear h0 h1 h2
        go_enter Try.func31, Try.ntmps31
        go_wp2_with fail
        generalize hW : World.alloc (World.alloc (World.alloc w _) _) _ = W
        have B1 : Blk W (w.heap.size + 1) #[.int .i64 0, .int .u64 0, .int .i64 0, .slice none 0 0, .slice none 0 0, .int .i64 0] 46 := by rw [← hW]; exact blk_alloc (blk_new' _ _ _ _ (by simp)) _
        have B2 : Blk W (w.heap.size + 2) #[.int .i64 kind, .int .u64 0, .int .i64 0, .slice none 0 0, .slice none 0 0, .int .i64 0] 46 := by rw [← hW]; exact blk_new' _ _ _ _ (by simp)
        have hkW : Keeps (fun _ => False) w W := by rw [← hW]; repeat (first | (with_reducible assumption) | (with_reducible exact Keeps.refl _ _) | (with_reducible apply Keeps.drewN) | (with_reducible apply Keeps.drew) | (with_reducible apply Keeps.alloc) | refine Keeps.setCell ?_ (by first | (simp; done) | (simp; omega)) _)
        have HKW := hid hkW; have HRW := hid (HR.out.keep hkW (fun h => h) (fun _ _ _ h => h)); have HB1 := hid B1; have HB2 := hid B2
        have zW : w.heap.size + 2 < W.heap.size := blk_lt B2
        clear hW hkW B1 B2
        refine (RInts_any _ p most s _ HRW.out HMO.out HLEN.out).mono ?_
        rintro e w1 ⟨ax, nx, cx, rfl, hn, ho, hr1, hk1⟩
        have HX : Hd (Sl (fun k => W.heap.size ≤ k) w1 (.slice ax nx cx) (i64s (sL most s).2)) := hid (row_sl ho.row (by rw [i64s_length]; exact hn.symm))
        clear hn ho
        have C1 := blk_keep HB1.out hk1 (by omega)
        have C2 := blk_keep HB2.out hk1 (by omega)
        have g0 : w1.cell? ⟨w.heap.size + 1, 0, none⟩ = some (.int .i64 0) := blk_cell C1 0
        have g1 : w1.cell? ⟨w.heap.size + 1, 1, none⟩ = some (.int .u64 0) := blk_cell C1 1
        have g2 : w1.cell? ⟨w.heap.size + 1, 2, none⟩ = some (.int .i64 0) := blk_cell C1 2
        have g3 : w1.cell? ⟨w.heap.size + 1, 3, none⟩ = some (.slice none 0 0) := blk_cell C1 3
        have g4 : w1.cell? ⟨w.heap.size + 1, 4, none⟩ = some (.slice none 0 0) := blk_cell C1 4
        have g5 : w1.cell? ⟨w.heap.size + 1, 5, none⟩ = some (.int .i64 0) := blk_cell C1 5
        have q0 : w1.frozen? ⟨w.heap.size + 1, 0, none⟩ = false := blk_free C1 0
        have q1 : w1.frozen? ⟨w.heap.size + 1, 1, none⟩ = false := blk_free C1 1
        have q2 : w1.frozen? ⟨w.heap.size + 1, 2, none⟩ = false := blk_free C1 2
        have q3 : w1.frozen? ⟨w.heap.size + 1, 3, none⟩ = false := blk_free C1 3
        have q4 : w1.frozen? ⟨w.heap.size + 1, 4, none⟩ = false := blk_free C1 4
        have q5 : w1.frozen? ⟨w.heap.size + 1, 5, none⟩ = false := blk_free C1 5
        have e0 : w1.cell? ⟨w.heap.size + 2, 0, none⟩ = some (.int .i64 kind) := blk_cell C2 0
        have e1 : w1.cell? ⟨w.heap.size + 2, 1, none⟩ = some (.int .u64 0) := blk_cell C2 1
        have e2 : w1.cell? ⟨w.heap.size + 2, 2, none⟩ = some (.int .i64 0) := blk_cell C2 2
        have e3 : w1.cell? ⟨w.heap.size + 2, 3, none⟩ = some (.slice none 0 0) := blk_cell C2 3
        have e4 : w1.cell? ⟨w.heap.size + 2, 4, none⟩ = some (.slice none 0 0) := blk_cell C2 4
        have e5 : w1.cell? ⟨w.heap.size + 2, 5, none⟩ = some (.int .i64 0) := blk_cell C2 5
        have qq : w1.frozen? ⟨w.heap.size + 2, 4, none⟩ = false := blk_free C2 4
        have HK1 := hid hk1; have HR1 := hid hr1
        clear C1 C2 hk1 hr1
        go_wp2
        refine bodyPost_ret (v := .agg #[.int .i64 kind, .int .u64 0, .int .i64 0, .slice none 0 0, .slice ax nx cx, .int .i64 0]) (by simp [results, Try.results31, go_sem, g0, g1, g2, g3, g4, g5]) rfl ?_
        have hww : Keeps (fun k => k = p) w w1 := (HKW.out.mono (fun _ _ h => h.elim)).trans' HK1.out (fun i hi h => by omega)
        have hs1 := HK1.out.size
        refine ⟨_, rfl, ?_, ?_, hww.trans' (T := fun k => w.heap.size ≤ k ∧ k < W.heap.size) ?_ (fun i hi h => by omega)⟩
        · rw [HE.out]
          exact ⟨_, _, _, _, _, _, rfl, Sl.nil _ _, ((HX.out.keep (S := fun k => w.heap.size ≤ k ∧ k < W.heap.size) (by repeat (first | (with_reducible assumption) | (with_reducible exact Keeps.refl _ _) | (with_reducible apply Keeps.drewN) | (with_reducible apply Keeps.drew) | (with_reducible apply Keeps.alloc) | refine Keeps.setCell ?_ (by first | (simp; done) | (simp; omega)) _)) (fun b _ h => by omega)).mono (fun b _ h => by omega))⟩
        · rw [HE.out]
          refine (HR1.out.keep (S := fun k => w.heap.size ≤ k ∧ k < W.heap.size) ?_ (by omega) (fun b hb h => by omega)).mono (fun b _ h => h.1) HPK.out
          repeat (first | (with_reducible assumption) | (with_reducible exact Keeps.refl _ _) | (with_reducible apply Keeps.drewN) | (with_reducible apply Keeps.drew) | (with_reducible apply Keeps.alloc) | refine Keeps.setCell ?_ (by first | (simp; done) | (simp; omega)) _)
        · repeat (first | (with_reducible assumption) | (with_reducible exact Keeps.refl _ _) | (with_reducible apply Keeps.drewN) | (with_reducible apply Keeps.drew) | (with_reducible apply Keeps.alloc) | refine Keeps.setCell ?_ (by first | (simp; done) | (simp; omega)) _)
end Go.Proofs.Ytlebocjcelbbpaa
