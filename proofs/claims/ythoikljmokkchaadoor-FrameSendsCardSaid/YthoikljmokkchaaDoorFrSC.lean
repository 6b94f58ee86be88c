/- Frame: FrameSends walked. -/
import Derived.Test.YthoikljmokkchaaDoorFrRefS
import Derived.Test.YthoikljmokkchaaDoorFrSM
import Derived.Test.YthoikljmokkchaaDoorFrWrl
import Derived.Test.YthoikljmokkchaaDoorFrRun
import Derived.Test.YthoikljmokkchaaDoorFrV
import Derived.Deep.DrawnRows
namespace Go.Proofs.YthoikljmokkchaaDoor
open Go.RowKit
attribute [local go_sem ↓] Go.wp_at_zero Go.wp_at_succ
def lSa : Op := Op.load 57 (.tmp 5)
theorem lSa_eq : Op.load 57 (.tmp 5) = lSa := rfl
attribute [local go_sem] lSa
def lSb : Op := Op.load 57 (.tmp 6)
theorem lSb_eq : Op.load 57 (.tmp 6) = lSb := rfl
attribute [local go_sem] lSb
/-- a call's result, its bytes where K says, and where D says -/
def CallFS (P : (Nat → Prop) → Value → World → Prop) (K : Nat → Prop) (w : World) (e : Ending) (w' : World) : Prop := ∃ r, e = .returned r ∧ P K r w' ∧ Keeps (fun _ => False) w w'
theorem PQueue_all (s : Sd) (ba : Option Addr) (bc : Nat) (body : List Nat) (a : Option Addr) (c : Nat) (K K2 : Nat → Prop) (w : World) (hv : Bds K w (.slice ba s.bs.length bc) s.bs) (hn : s.bs.length ≤ 100000) (hx : ∀ x ∈ s.bs, x.length ≤ 512) (hs : Sl K2 w (.slice a body.length c) (u8s body)) (D : Nat → Prop) (hD : ∀ b, w.heap.size ≤ b → D b) :
    Calls Tryd.prog 32 #[.agg #[.slice ba s.bs.length bc, .int .i64 s.a, .int .u64 (s.l.k : Int), .int .i64 s.l.i], .slice a body.length c] w fun e w' => CallFS (sdRD D (queueM s body).1 [.int .i64 (queueM s body).2]) (fun b => w.heap.size ≤ b) w e w' :=
  (Queue_all s ba bc body a c K K2 w hv hn hx hs).mono (fun e w' ⟨a2, c2, he, h1, h2⟩ => ⟨_, he, ⟨a2, c2, rfl, h1.mono (fun b _ h => ⟨h, hD b h⟩)⟩, h2⟩)
theorem RQueue_all (s : Sd) (ba : Option Addr) (bc : Nat) (body : List Nat) (a : Option Addr) (c : Nat) (D : Nat → Prop) (B : Nat) (w : World) (hv : Bds (fun b => D b ∧ b < B) w (.slice ba s.bs.length bc) s.bs) (hn : s.bs.length ≤ 100000) (hs : Sl (fun b => D b ∧ b < B) w (.slice a body.length c) (u8s body)) (hD : ∀ b, w.heap.size ≤ b → D b) :
    Calls Tryd.prog 37 #[.agg #[.slice ba s.bs.length bc, .int .i64 s.a, .int .u64 (s.l.k : Int), .int .i64 s.l.i], .slice a body.length c] w fun e w' => CallFS (sdRD D (queueM s body).1 [.int .i64 (queueM s body).2]) (fun b => b < B ∨ w.heap.size ≤ b) w e w' := by
  unfold queueM
  by_cases h : 512 < body.length
  · rw [if_pos h]
    exact (RQueue_no ba s.bs.length bc s.a s.l.k s.l.i body a c w h).mono (fun e w' ⟨he, hk⟩ => ⟨_, he, ⟨none, 0, rfl, Bds.nil _ _⟩, hk⟩)
  · rw [if_neg h]
    refine (RQueue_ok s.bs ba bc s.a s.l.k s.l.i body (fun b => D b ∧ b < B) (fun b => D b ∧ b < B) a c w hv hn (by omega) hs).mono (fun e w' ⟨a2, c2, he, h1, hk⟩ => ⟨_, he, ⟨a2, c2, ?_, ?_⟩, hk⟩)
    · show _ = Value.tuple #[.agg #[.slice a2 (s.bs ++ [body]).length c2, _, _, _], _]
      rw [List.length_append]; rfl
    · show Bds _ w' (.slice a2 (s.bs ++ [body]).length c2) (s.bs ++ [body])
      rw [List.length_append]
      exact h1.mono (fun b _ h => by rcases h with h | h | h; exact ⟨.inl h.2, h.1⟩; exact ⟨.inl h.2, h.1⟩; exact ⟨.inr h, hD b h⟩)
theorem PEmit_all (s : Sd) (ba : Option Addr) (bc : Nat) (q : Int) (K : Nat → Prop) (w : World) (hv : Bds K w (.slice ba s.bs.length bc) s.bs) (hn : s.bs.length ≤ 100000) (hx : ∀ x ∈ s.bs, x.length ≤ 512 ∧ ∀ c ∈ x, c < 256) (hl : s.l.ok) (ha : 0 ≤ s.a) (ha2 : s.a ≤ 1000000000000) (D : Nat → Prop) (hD : ∀ b, w.heap.size ≤ b → D b) :
    Calls Tryd.prog 39 #[.agg #[.slice ba s.bs.length bc, .int .i64 s.a, .int .u64 (s.l.k : Int), .int .i64 s.l.i], .int .i64 q] w fun e w' => CallFS (fsRD D (emitM s q).1 (emitM s q).2.1 [.int .i64 (emitM s q).2.2]) (fun b => w.heap.size ≤ b) w e w' :=
  (Emit_all s ba bc q K w hv hn hx hl ha ha2).mono (fun e w' ⟨a, c, a2, c2, he, h1, h2, h3⟩ => ⟨_, he, ⟨a, c, a2, c2, rfl, h1.mono (fun b _ h => ⟨h, hD b h⟩), h2.mono (fun b _ h => ⟨h, hD b h⟩)⟩, h3⟩)
theorem remit_err {D K : Nat → Prop} {w w' : World} {e : Ending} {er : Int} (h : e = .returned (.tuple #[.agg #[.int .i64 0, .int .i64 0, .bool false, .slice none 0 0, .int .u64 0], .agg #[.slice none 0 0, .int .i64 0, .int .u64 0, .int .i64 0], .int .i64 er]) ∧ Keeps (fun _ => False) w w') : CallFS (fsRD D zFr zSd [.int .i64 er]) K w e w' :=
  ⟨_, h.1, ⟨none, 0, none, 0, rfl, Sl.nil _ _, Bds.nil _ _⟩, h.2⟩
theorem REmit_all (s : Sd) (ba : Option Addr) (bc : Nat) (q : Int) (D : Nat → Prop) (B : Nat) (w : World) (hv : Bds (fun b => D b ∧ b < B) w (.slice ba s.bs.length bc) s.bs) (hn : s.bs.length ≤ 100000) (hx : ∀ x ∈ s.bs, x.length ≤ 512 ∧ ∀ c ∈ x, c < 256) (hl : s.l.ok) (ha : 0 ≤ s.a) :
    Calls Tryd.prog 40 #[.agg #[.slice ba s.bs.length bc, .int .i64 s.a, .int .u64 (s.l.k : Int), .int .i64 s.l.i], .int .i64 q] w fun e w' => CallFS (fsRD D (emitM s q).1 (emitM s q).2.1 [.int .i64 (emitM s q).2.2]) (fun b => b < B ∨ w.heap.size ≤ b) w e w' := by
  by_cases h0 : q < 0
  · rw [show emitM s q = (zFr, zSd, 5) by unfold emitM; rw [if_pos (.inl h0)]]
    exact (REmit_neg ba s.bs.length bc s.a s.l.k s.l.i q w h0).mono (fun e w' h => remit_err h)
  · by_cases h1 : (s.bs.length : Int) ≤ q
    · rw [show emitM s q = (zFr, zSd, 5) by unfold emitM; rw [if_pos (.inr h1)]]
      exact (REmit_big ba s.bs.length bc s.a s.l.k s.l.i q w (by omega) h1).mono (fun e w' h => remit_err h)
    · by_cases h2 : q < s.a
      · rw [show emitM s q = (zFr, zSd, 32) by unfold emitM; rw [if_neg (by omega), if_pos (.inl h2)]]
        exact (REmit_old ba s.bs.length bc s.a s.l.k s.l.i q w (by omega) (by omega) h2).mono (fun e w' h => remit_err h)
      · by_cases h3 : s.a + 16 ≤ q
        · rw [show emitM s q = (zFr, zSd, 32) by unfold emitM; rw [if_neg (by omega), if_pos (.inr h3)]]
          exact (REmit_far ba s.bs.length bc s.a s.l.k s.l.i q w (by omega) (by omega) hn ha h3).mono (fun e w' h => remit_err h)
        · rw [show emitM s q = (signF s.l ⟨q, 0, false, s.bs.getD q.toNat [], 0⟩, ⟨s.bs, s.a, nextL s.l⟩, 0) by unfold emitM; rw [if_neg (by omega), if_neg (by omega)]]
          have h := REmit_ok s.bs (s.bs.getD q.toNat []) ba bc s.a s.l q.toNat (fun b => D b ∧ b < B) w hv hn hx hl (by rw [List.getD, List.getElem?_eq_getElem (by omega)]; rfl) ha (by omega) (by omega)
          rw [show ((q.toNat : Nat) : Int) = q by omega] at h
          exact h.mono (fun e w' ⟨ad, cd, he, h1, hk⟩ => ⟨_, he, ⟨ad, cd, ba, bc, rfl, h1.mono (fun b _ h => ⟨.inl h.2, h.1⟩), (hv.keep hk (fun _ _ _ h => h)).mono (fun b _ h => ⟨.inl h.2, h.1⟩)⟩, hk⟩)
theorem PUnlock_all (s : Sd) (ba : Option Addr) (bc : Nat) (q : Int) (K : Nat → Prop) (w : World) (hv : Bds K w (.slice ba s.bs.length bc) s.bs) (hn : s.bs.length ≤ 100000) (hx : ∀ x ∈ s.bs, x.length ≤ 512) (hl : s.l.ok) (h0 : -9223372036854775808 ≤ q) (h1 : q ≤ 9223372036854775807) (D : Nat → Prop) (hD : ∀ b, w.heap.size ≤ b → D b) :
    Calls Tryd.prog 42 #[.agg #[.slice ba s.bs.length bc, .int .i64 s.a, .int .u64 (s.l.k : Int), .int .i64 s.l.i], .int .i64 q] w fun e w' => CallFS (fsRD D (unlockM s q).1 (unlockM s q).2 []) (fun b => w.heap.size ≤ b) w e w' :=
  (Unlock_any s.bs ba bc s.a s.l q K w hv hn hx hl h0 h1).mono (fun e w' ⟨a2, c2, he, g1, g2⟩ => ⟨_, he, ⟨none, 0, a2, c2, rfl, Sl.nil _ _, g1.mono (fun b _ h => ⟨h, hD b h⟩)⟩, g2⟩)
theorem RUnlock_all (s : Sd) (ba : Option Addr) (bc : Nat) (q : Int) (D : Nat → Prop) (B : Nat) (w : World) (hv : Bds (fun b => D b ∧ b < B) w (.slice ba s.bs.length bc) s.bs) (hl : s.l.ok) (h0 : -9223372036854775808 ≤ q) (h1 : q ≤ 9223372036854775807) :
    Calls Tryd.prog 43 #[.agg #[.slice ba s.bs.length bc, .int .i64 s.a, .int .u64 (s.l.k : Int), .int .i64 s.l.i], .int .i64 q] w fun e w' => CallFS (fsRD D (unlockM s q).1 (unlockM s q).2 []) (fun b => b < B ∨ w.heap.size ≤ b) w e w' :=
  (RUnlock_any s.bs.length ba bc s.a s.l q w hl h0 h1).mono (fun e w' ⟨he, hk⟩ => ⟨_, he, ⟨none, 0, ba, bc, rfl, Sl.nil _ _, (hv.keep hk (fun _ _ _ h => h)).mono (fun b _ h => ⟨.inl h.2, h.1⟩)⟩, hk⟩)
/-- what holds of a sender behind n acts -/
structure SOk (s : Sd) (N : Nat) : Prop where
  n : s.bs.length ≤ N
  a0 : 0 ≤ s.a
  a1 : s.a ≤ (N : Int)
  b : ∀ x ∈ s.bs, x.length ≤ 512 ∧ ∀ c ∈ x, c < 256
  l : s.l.ok
  li : s.l.i ≤ 100 + (N : Int)
theorem SOk.mono {s : Sd} {n m : Nat} (h : SOk s n) (hm : n ≤ m) : SOk s m := ⟨by have := h.n; omega, h.a0, by have := h.a1; omega, h.b, h.l, by have := h.li; omega⟩
theorem SOk.queue {s : Sd} {n : Nat} (h : SOk s n) {b : List Nat} (hb : ∀ c ∈ b, c < 256) (he : (queueM s b).2 = 0) : SOk (queueM s b).1 (n + 1) := by
  unfold queueM at he ⊢
  split at he
  · simp at he
  · rename_i hl
    rw [if_neg hl]
    refine ⟨by have := h.n; show (s.bs ++ [b]).length ≤ _; rw [List.length_append]; simp; omega, h.a0, by have := h.a1; show s.a ≤ _; push_cast; omega, fun x hx => ?_, h.l, by have := h.li; show s.l.i ≤ _; push_cast; omega⟩
    rcases List.mem_append.1 hx with hx | hx
    · exact h.b x hx
    · rw [List.mem_singleton.1 hx]; exact ⟨by omega, hb⟩
theorem SOk.next {s : Sd} {n : Nat} (h : SOk s n) (hn : n ≤ 1000) : SOk ⟨s.bs, s.a, nextL s.l⟩ (n + 1) :=
  ⟨by have := h.n; show s.bs.length ≤ _; omega, h.a0, by have := h.a1; show s.a ≤ _; push_cast; omega, h.b, nextL_ok h.l (by have := h.li; omega), by have := h.li; show s.l.i + 1 ≤ _; push_cast; omega⟩
theorem SOk.emit {s : Sd} {n : Nat} (h : SOk s n) (hn : n ≤ 1000) {q : Int} (he : (emitM s q).2.2 = 0) : SOk (emitM s q).2.1 (n + 1) := by
  unfold emitM at he ⊢
  split at he
  · simp at he
  · rename_i h1
    rw [if_neg h1]
    split at he
    · simp at he
    · rename_i h2
      rw [if_neg h2]
      exact h.next hn
theorem SOk.confirm {s : Sd} {n : Nat} (h : SOk s n) {p : Rp} (hk : p.ky ≤ 90) : SOk (confirmM s p) (n + 1) := by
  have h1 := h.n; have h2 := h.a0; have h3 := h.a1; have h4 := h.l.i0; have h5 := h.li
  exact ⟨by show s.bs.length ≤ _; omega, by show 0 ≤ ackN _ _ _; unfold ackN; omega, by show ackN _ _ _ ≤ _; unfold ackN; omega, h.b, confL_ok h.l (by omega), by show s.l.i + ((p.ky - s.l.i).toNat : Int) ≤ _; push_cast; omega⟩
theorem told_b (x : AC) : (0 ≤ (toldM x).nx ∧ (toldM x).nx < 60) ∧ (∃ h : Nat, (toldM x).ha = (h : Int) ∧ h < 32768) ∧ (0 ≤ (toldM x).ky ∧ (toldM x).ky < 90) := by
  have h1 := around_b x.n (show (1 : Int) ≤ 60 by omega)
  have h2 := around_b x.m (show (1 : Int) ≤ 32768 by omega)
  have h3 := around_b x.m (show (1 : Int) ≤ 90 by omega)
  exact ⟨h1, ⟨(around x.m 32768).toNat, by show around x.m 32768 = _; omega, by omega⟩, h3⟩
theorem emit_bytes {s : Sd} {n : Nat} (h : SOk s n) (q : Int) : (∀ c ∈ (emitM s q).1.b, c < 256) ∧ (∀ x ∈ (emitM s q).2.1.bs, ∀ c ∈ x, c < 256) ∧ (emitM s q).2.1.bs.length ≤ n := by
  rcases emitM_cases s q with ⟨e, he, hem⟩ | ⟨h0, h1, h2, h3, hem⟩
  · rw [hem]; exact ⟨fun c h => (by cases h), fun x h => (by cases h), Nat.zero_le _⟩
  · rw [hem]
    exact ⟨(h.b _ (getD_mem [] (by omega))).2, fun x hx => (h.b x hx).2, h.n⟩
theorem queue_bytes {s : Sd} {n : Nat} (h : SOk s n) {b : List Nat} (hb : ∀ c ∈ b, c < 256) : (∀ x ∈ (queueM s b).1.bs, ∀ c ∈ x, c < 256) ∧ (queueM s b).1.bs.length ≤ n + 1 := by
  unfold queueM
  split
  · exact ⟨fun x h => (by cases h), Nat.zero_le _⟩
  · refine ⟨fun x hx => ?_, by have := h.n; show (s.bs ++ [b]).length ≤ _; rw [List.length_append]; simp; omega⟩
    rcases List.mem_append.1 hx with hx | hx
    · exact (h.b x hx).2
    · rw [List.mem_singleton.1 hx]; exact hb
set_option maxRecDepth 100000 in
set_option maxHeartbeats 20000000 in
theorem sends_any (key : Nat) (l : List AC) (v : Value) (w : World) (hN : Cr.Nib w) (hkey : key < 18446744073709551616) (hv : Acs (fun b => b < w.heap.size) w v l) (hx : ∀ x ∈ l, AcOk x) (hb : ∀ x ∈ l, x.b.length ≤ 140737488351232) :
    Calls Tryd.prog 8 #[.int .u64 (key : Int), v] w fun e w' => e = .returned (.bool true) ∧ Keeps (fun _ => False) w w' := by
  have HN0 : Hd (NibR w) := hid hN
  have hpos := NibR.pos (hN : NibR w)
  have HX := hid hx; have HB := hid hb
  obtain ⟨va, vc, rfl, hvc, hvm⟩ := hv.form
  have HV0 := hid hv
  clear hN hx hb hv
  obtain ⟨L, hL⟩ : ∃ L, l.length = L := ⟨_, rfl⟩
  have HL := hid hL
  rw [hL] at HV0 hvc ⊢
  clear hL
  go_enter Tryd.func8, Tryd.ntmps8
  go_wp2_with fail
  refine (NewSender_any key _).mono ?_
  rintro e U1 ⟨rfl, hk⟩
  have HK : Hd (Keeps (fun _ => False) w U1) := hid hk
  have z_U1 := hk.size
  clear hk
  go_upto_region 2 with fail
  generalize hW : World.alloc U1 _ = W1
  have KS : Hd (Keeps (fun _ => False) U1 W1) := hid (by rw [← hW]; exact (Keeps.alloc (Keeps.refl (fun _ => False) U1) _))
  have BS : Hd (Blk W1 U1.heap.size #[(.slice none 0 0), (.int .i64 0), (.int .u64 (key : Int)), (.int .i64 0)] 57) := hid (by rw [← hW]; exact (blk_new _ _ _))
  have HK' : Hd (Keeps (fun _ => False) w W1) := hid (HK.out.trans KS.out)
  clear HK
  have HK := HK'
  clear HK'
  have z_W1 : U1.heap.size + 1 ≤ W1.heap.size := by rw [← hW]; simp
  clear hW KS
  generalize hb_BS : U1.heap.size = b_S at *
  have ltS0 := blk_lt BS.out
  go_wp2_with fail
  refine (RNewSender_any key _).mono ?_
  rintro e U2 ⟨rfl, hk⟩
  have BS' : Hd (Blk U2 b_S #[(.slice none 0 0), (.int .i64 0), (.int .u64 (key : Int)), (.int .i64 0)] 57) := hid (blk_keep BS.out hk (fun h => h))
  clear BS
  have BS := BS'
  clear BS'
  have HK' : Hd (Keeps (fun _ => False) w U2) := hid (HK.out.trans hk)
  clear HK
  have HK := HK'
  clear HK'
  have z_U2 := hk.size
  clear hk
  go_upto_region 3 with fail
  generalize hW : World.alloc U2 _ = W2
  have KS : Hd (Keeps (fun _ => False) U2 W2) := hid (by rw [← hW]; exact (Keeps.alloc (Keeps.refl (fun _ => False) U2) _))
  have BS' : Hd (Blk W2 b_S #[(.slice none 0 0), (.int .i64 0), (.int .u64 (key : Int)), (.int .i64 0)] 57) := hid (by rw [← hW]; exact (blk_alloc BS.out _))
  have BT : Hd (Blk W2 U2.heap.size #[(.slice none 0 0), (.int .i64 0), (.int .u64 (key : Int)), (.int .i64 0)] 57) := hid (by rw [← hW]; exact (blk_new _ _ _))
  clear BS
  have BS := BS'
  clear BS'
  have HK' : Hd (Keeps (fun _ => False) w W2) := hid (HK.out.trans KS.out)
  clear HK
  have HK := HK'
  clear HK'
  have z_W2 : U2.heap.size + 1 ≤ W2.heap.size := by rw [← hW]; simp
  clear hW KS
  generalize hb_BT : U2.heap.size = b_T at *
  have ltS := blk_lt BS.out
  have ltT := blk_lt BT.out
  have geS : w.heap.size ≤ b_S := by omega
  have geT : w.heap.size ≤ b_T := by omega
  have neST : b_S ≠ b_T := by omega
  have zK := HK.out.size
  go_wp2_with fail
  go_loopw [7] (fun iv wr => ∃ (i : Nat) (S : Sd) (sa : Option Addr) (sc : Nat) (ta : Option Addr) (tc : Nat), iv = .int .i64 (i : Int) ∧ i ≤ L ∧ i ≤ 50 ∧ Hd (Blk wr b_S #[.slice sa S.bs.length sc, .int .i64 S.a, .int .u64 (S.l.k : Int), .int .i64 S.l.i] 57) ∧ Hd (Blk wr b_T #[.slice ta S.bs.length tc, .int .i64 S.a, .int .u64 (S.l.k : Int), .int .i64 S.l.i] 57) ∧ Hd (Bds (fun b => b ≠ b_S ∧ b ≠ b_T) wr (.slice sa S.bs.length sc) S.bs) ∧ Hd (Bds (fun b => b ≠ b_S ∧ b ≠ b_T) wr (.slice ta S.bs.length tc) S.bs) ∧ Hd (SOk S i) ∧ Hd (Keeps (fun _ => False) w wr)) (fun iv _ => 50 - (intOf iv).toNat)
  case atStart => exact ⟨0, ⟨[], 0, ⟨key, 0⟩⟩, none, 0, none, 0, rfl, Nat.zero_le _, Nat.zero_le _, BS, BT, hid (Bds.nil _ _), hid (Bds.nil _ _), hid ⟨Nat.le_refl _, Int.le_refl _, Int.le_refl _, fun x h => (by cases h), ⟨hkey, by show (0 : Int) ≤ 0; omega, by show (0 : Int) ≤ _; omega⟩, by show (0 : Int) ≤ _; omega⟩, HK⟩
  case round =>
    obtain ⟨V, rfl⟩ : ∃ V, V = wr := ⟨_, rfl⟩
    obtain ⟨i, S, sa, sc, ta, tc, rfl, hi1, hi2, HBS, HBT, HSB, HTB, HOK, HKV⟩ := hrel
    clear BS BT HK
    have HK := HKV
    clear HKV
    have zS := blk_lt HBS.out
    have zT := blk_lt HBT.out
    have zV := HK.out.size
    have q0 : (0 : Int) ≤ i := by omega
    by_cases hgo : i < L ∧ i < 50
    · obtain ⟨hlt, hlt2⟩ := hgo
      have q1 : (i : Int) < L := by omega
      have q2 : (i : Int) < 50 := by omega
      have hil : i < l.length := by rw [HL.out]; exact hlt
      obtain ⟨x, hxi⟩ : ∃ x, l[i]? = some x := ⟨_, List.getElem?_eq_getElem hil⟩
      have hxm := List.mem_of_getElem? hxi
      have HXO := hid (HX.out x hxm)
      have HXB := hid (HB.out x hxm)
      obtain ⟨vb, vo, eva, hvb, hvb2, hcx⟩ := acs_cells HV0.out (by omega)
      subst eva
      obtain ⟨c0, c1, c2, ad, cd, c3, hsx⟩ := hcx i x hxi
      have HC0 := hid c0; have HC1 := hid c1; have HC2 := hid c2; have HC3 := hid c3
      have HSX := hid hsx
      clear hcx hxm hxi hil c0 c1 c2 c3 hsx
      obtain ⟨kk, hkk⟩ : ∃ k, around x.kd 5 = k := ⟨_, rfl⟩
      have HKK := hid hkk
      have hkb := around_b x.kd (show (1 : Int) ≤ 5 by omega)
      rw [hkk] at hkb
      clear hkk
      obtain ⟨bs, a, ⟨k2, i2⟩⟩ := S
      simp only [] at HBS HBT HSB HTB
      have hbn : bs.length ≤ i := HOK.out.n
      have hao : 0 ≤ a := HOK.out.a0
      have ha1 : a ≤ i := HOK.out.a1
      have ca : V.cell? ⟨vb, vo + i * 4, none⟩ = some (.int .i64 x.kd) := keep_cell HK.out (fun h => h) HC0.out
      go_wp2_with fail
      refine (Around_any x.kd 5 _ HXO.out.kd.1 HXO.out.kd.2 (by decide) (by decide)).mono ?_
      rw [HKK.out]
      rintro e wx ⟨rfl, rfl⟩
      clear ca
      have hk5 : kk = 0 ∨ kk = 1 ∨ kk = 2 ∨ kk = 3 ∨ kk = 4 := by omega
      rcases hk5 with rfl | rfl | rfl | rfl | rfl
      · obtain ⟨⟨⟨bs3, a3, ⟨k3, i3⟩⟩, er⟩, hQ⟩ : ∃ y, queueM ⟨bs, a, ⟨k2, i2⟩⟩ x.b = y := ⟨_, rfl⟩
        have HQ := hid hQ
        have HQB := hid (queue_bytes HOK.out HXO.out.b)
        rw [hQ] at HQB
        clear hQ
        have HP : Hd (∀ X, Keeps (fun _ => False) V X → Calls Tryd.prog 32 #[.agg #[.slice sa bs.length sc, .int .i64 a, .int .u64 (k2 : Int), .int .i64 i2], .slice ad x.b.length cd] X fun e w' => CallFS (sdRD (fun b => b ≠ b_S ∧ b ≠ b_T) ⟨bs3, a3, ⟨k3, i3⟩⟩ [.int .i64 er]) (fun b => X.heap.size ≤ b) X e w') := hid (fun X hx => by have h := PQueue_all ⟨bs, a, ⟨k2, i2⟩⟩ sa sc x.b ad cd _ _ X (HSB.out.keep hx (fun _ _ _ h => h)) (by simp only []; omega) (fun x hx => (HOK.out.b x hx).1) (HSX.out.keep (HK.out.trans hx) (fun _ _ _ h => h)) (fun b => b ≠ b_S ∧ b ≠ b_T) (fun b hb => by have := hx.size; exact ⟨by omega, by omega⟩); rw [HQ.out] at h; exact h)
        go_upto_region 10 with fail
        go_cut [10, 9] from 60 to 69 (fun ue ub wx => ∃ (a2 : Option Addr) (c2 : Nat), ue = .int .i64 er ∧ ∃ bA, ub = .pointer (some ⟨bA, 0, none⟩) ∧ V.heap.size ≤ bA ∧ Hd (Blk wx bA #[(.slice a2 bs3.length c2), (.int .i64 a3), (.int .u64 (k3 : Int)), (.int .i64 i3)] 57) ∧ Hd (Bds (fun b => b ≠ b_S ∧ b ≠ b_T) wx (.slice a2 bs3.length c2) bs3) ∧ Hd (Keeps (fun _ => False) V wx))
        case first =>
          refine wp_many (C := mkMC 6 [6, 7, 8, 9, 11, 12] [(10, 57, #[(.slice none 0 0), (.int .i64 0), (.int .u64 0), (.int .i64 0)])] [(11, 10, 8)] [(fun _ => .agg #[.slice sa bs.length sc, .int .i64 a, .int .u64 (k2 : Int), .int .i64 i2]), (fun _ => .slice (some ⟨vb, vo, none⟩) L vc), (fun _ => .int .i64 (i : Int)), (fun _ => .pointer (some ⟨vb, vo + i * 4, none⟩)), (fun _ => .pointer (some ⟨vb, vo + i * 4 + 3, none⟩)), (fun _ => .slice ad x.b.length cd), (fun r => r), (fun r => r), (fun r => tupAt r 0), (fun r => tupAt r 1), (fun _ => undef), (fun _ => undef), (fun r => tupAt r 1)] (fun _ r => aggCells (tupAt r 0)) (sdRD (fun b => b ≠ b_S ∧ b ≠ b_T) ⟨bs3, a3, ⟨k3, i3⟩⟩ [.int .i64 er])) (by kernel_rfl) ?H ?HV 6 rfl ?HC ?HE
          case H =>
            refine { back := by kernel_rfl, dst := uniqB_spec (by kernel_rfl), szd := underB_spec (by kernel_rfl), val := valB_spec3 (f := mkV [(10, 57, #[(.slice none 0 0), (.int .i64 0), (.int .u64 0), (.int .i64 0)])] [(11, 10, 8)]) (by kernel_rfl), alo := ?_, sto := ?_, stc := ?_, all := allB3_spec (f := mkV [(10, 57, #[(.slice none 0 0), (.int .i64 0), (.int .u64 0), (.int .i64 0)])] [(11, 10, 8)]) (g := mkA [(10, 57, #[(.slice none 0 0), (.int .i64 0), (.int .u64 0), (.int .i64 0)])]) (h := mkS [(11, 10, 8)]) (by kernel_rfl), nva := ?_, nvs := ?_, one := ?_, civ := rfl, nd := ?_, cd := rfl, dd := ?_, sem := sdSem _ _ _ _ _ _ _ rfl (sdRD_rk _ _ _) (sdRD_rm _ _ _) (sdRD_sh _ _ _) }
            · intro j o h0 ha
              have h1 : 10 = j := by simpa [mkMC] using ha
              subst h1
              all_goals
                have h2 := h0
                simp only [List.getElem?_cons_succ, List.getElem?_cons_zero, Option.some.injEq] at h2
                subst h2
                exact ⟨⟨_, rfl⟩, rfl, rfl⟩
            · intro s o h0 ha
              have h1 : 11 = s := by simpa [mkMC] using ha
              subst h1
              all_goals
                have h2 := h0
                simp only [List.getElem?_cons_succ, List.getElem?_cons_zero, Option.some.injEq] at h2
                subst h2
                exact ⟨_, _, _, _, rfl, rfl, rfl, rfl, rfl, rfl, rfl, waitsB_spec (by kernel_rfl), waitsB_spec (by kernel_rfl)⟩
            · intro s ha
              have h1 : 11 = s := by simpa [mkMC] using ha
              subst h1
              all_goals exact ⟨rfl, rfl, rfl, rfl⟩
            · intro s ha
              have h1 : 10 = s := by simpa [mkMC] using ha
              subst h1
              all_goals exact ⟨rfl, rfl, rfl⟩
            · intro s ha
              have h1 : 11 = s := by simpa [mkMC] using ha
              subst h1
              all_goals exact ⟨rfl, rfl⟩
            · intro s t ha hb hst
              have h1 : 11 = s := by simpa [mkMC] using ha
              subst h1
              all_goals (have h2 : 11 = t := by simpa [mkMC] using hb)
              exact h2
            · intro i r r' hv hD
              match i, hD with
              | 0, _ => rfl
              | 1, _ => rfl
              | 2, _ => rfl
              | 3, _ => rfl
              | 4, _ => rfl
              | 5, _ => rfl
              | 6, h => exact absurd h (by simp [mkMC])
              | 7, h => exact absurd h (by simp [mkMC])
              | 8, h => exact absurd h (by simp [mkMC])
              | 9, h => exact absurd h (by simp [mkMC])
              | 10, _ => rfl
              | 11, h => exact absurd h (by simp [mkMC])
              | 12, h => exact absurd h (by simp [mkMC])
              | n + 13, _ => rfl
            · intro i o h0 hD hne
              match i, h0, hD, hne with
              | 0, _, hD, _ => exact absurd hD (by simp [mkMC])
              | 1, _, hD, _ => exact absurd hD (by simp [mkMC])
              | 2, _, hD, _ => exact absurd hD (by simp [mkMC])
              | 3, _, hD, _ => exact absurd hD (by simp [mkMC])
              | 4, _, hD, _ => exact absurd hD (by simp [mkMC])
              | 5, _, hD, _ => exact absurd hD (by simp [mkMC])
              | 6, _, _, hne => exact absurd rfl hne
              | 7, h0, _, _ =>
                simp only [List.getElem?_cons_succ, List.getElem?_cons_zero, Option.some.injEq] at h0
                subst h0
                exact ⟨6, waitsB_spec (by kernel_rfl), rfl⟩
              | 8, h0, _, _ =>
                simp only [List.getElem?_cons_succ, List.getElem?_cons_zero, Option.some.injEq] at h0
                subst h0
                exact ⟨7, waitsB_spec (by kernel_rfl), rfl⟩
              | 9, h0, _, _ =>
                simp only [List.getElem?_cons_succ, List.getElem?_cons_zero, Option.some.injEq] at h0
                subst h0
                exact ⟨7, waitsB_spec (by kernel_rfl), rfl⟩
              | 10, _, hD, _ => exact absurd hD (by simp [mkMC])
              | 11, h0, _, _ =>
                simp only [List.getElem?_cons_succ, List.getElem?_cons_zero, Option.some.injEq] at h0
                subst h0
                exact ⟨8, waitsB_spec (by kernel_rfl), rfl⟩
              | 12, h0, _, _ =>
                simp only [List.getElem?_cons_succ, List.getElem?_cons_zero, Option.some.injEq] at h0
                subst h0
                exact ⟨9, waitsB_spec (by kernel_rfl), rfl⟩
              | n + 13, h0, _, _ => simp at h0
          case HV =>
            intro iq o hv hne hi aq w' r hk hd hR
            match iq, hv, hne, hi, hR with
            | 0, _, _, hi, hR =>
              have hi1 := hi
              simp only [List.getElem?_cons_succ, List.getElem?_cons_zero, Option.some.injEq] at hi1
              subst hi1
              have e0 : aq.eval (.tmp 5) = .pointer (some ⟨b_S, 0, none⟩) := (hd.out (by kernel_rfl)).trans rfl
              have c0 := keep_cell hk (fun h => h) (blk_cell HBS.out 0)
              have c1 := keep_cell hk (fun h => h) (blk_cell HBS.out 1)
              have c2 := keep_cell hk (fun h => h) (blk_cell HBS.out 2)
              have c3 := keep_cell hk (fun h => h) (blk_cell HBS.out 3)
              exact wpOp_ranL hi rfl (v := .agg #[.slice sa bs.length sc, .int .i64 a, .int .u64 (k2 : Int), .int .i64 i2]) (w' := w') (by simp only [execOp, e0]; go_simp) ⟨rfl, Keeps.refl _ _⟩
            | 1, _, _, hi, hR =>
              have hi1 := hi
              simp only [List.getElem?_cons_succ, List.getElem?_cons_zero, Option.some.injEq] at hi1
              subst hi1
              have e0 : aq.eval (.tmp 1) = .slice (some ⟨vb, vo, none⟩) L vc := (hd.out (by kernel_rfl)).trans rfl
              exact wpOp_ranL hi rfl (v := .slice (some ⟨vb, vo, none⟩) L vc) (w' := w') (by simp only [execOp, e0]; rfl) ⟨rfl, Keeps.refl _ _⟩
            | 2, _, _, hi, hR =>
              have hi1 := hi
              simp only [List.getElem?_cons_succ, List.getElem?_cons_zero, Option.some.injEq] at hi1
              subst hi1
              have e0 : aq.eval (.tmp 7) = .int .i64 (i : Int) := (hd.out (by kernel_rfl)).trans rfl
              exact wpOp_ranL hi rfl (v := .int .i64 (i : Int)) (w' := w') (by simp only [execOp, e0]; rfl) ⟨rfl, Keeps.refl _ _⟩
            | 3, _, _, hi, hR =>
              have hi1 := hi
              simp only [List.getElem?_cons_succ, List.getElem?_cons_zero, Option.some.injEq] at hi1
              subst hi1
              have e0 : aq.eval (.tmp 62) = .slice (some ⟨vb, vo, none⟩) L vc := hd.val (j := 1) (by kernel_rfl) rfl rfl rfl
              have e1 : aq.eval (.tmp 63) = .int .i64 (i : Int) := hd.val (j := 2) (by kernel_rfl) rfl rfl rfl
              exact wpOp_ranL hi rfl (v := .pointer (some ⟨vb, vo + i * 4, none⟩)) (w' := w') (by simp only [execOp, e0, e1]; go_simp) ⟨rfl, Keeps.refl _ _⟩
            | 4, _, _, hi, hR =>
              have hi1 := hi
              simp only [List.getElem?_cons_succ, List.getElem?_cons_zero, Option.some.injEq] at hi1
              subst hi1
              have e0 : aq.eval (.tmp 64) = .pointer (some ⟨vb, vo + i * 4, none⟩) := hd.val (j := 3) (by kernel_rfl) rfl rfl rfl
              exact wpOp_ranL hi rfl (v := .pointer (some ⟨vb, vo + i * 4 + 3, none⟩)) (w' := w') (by simp only [execOp, e0]; go_simp) ⟨rfl, Keeps.refl _ _⟩
            | 5, _, _, hi, hR =>
              have hi1 := hi
              simp only [List.getElem?_cons_succ, List.getElem?_cons_zero, Option.some.injEq] at hi1
              subst hi1
              have e0 : aq.eval (.tmp 65) = .pointer (some ⟨vb, vo + i * 4 + 3, none⟩) := hd.val (j := 4) (by kernel_rfl) rfl rfl rfl
              have c0 := keep_cell (HK.out.trans hk) (fun h => h) HC3.out
              exact wpOp_ranL hi rfl (v := .slice ad x.b.length cd) (w' := w') (by simp only [execOp, e0]; go_simp) ⟨rfl, Keeps.refl _ _⟩
            | 6, _, hne, _, _ => exact absurd rfl hne
            | 7, _, _, hi, hR =>
              have hi1 := hi
              simp only [List.getElem?_cons_succ, List.getElem?_cons_zero, Option.some.injEq] at hi1
              subst hi1
              obtain ⟨K, a2, c2, rfl, hbd⟩ := hR rfl
              have e0 : aq.eval (.tmp 67) = .tuple #[.agg #[(.slice a2 bs3.length c2), (.int .i64 a3), (.int .u64 (k3 : Int)), (.int .i64 i3)], .int .i64 er] := hd.val (j := 6) (by kernel_rfl) rfl rfl rfl
              exact wpOp_ranL hi rfl (v := .tuple #[.agg #[(.slice a2 bs3.length c2), (.int .i64 a3), (.int .u64 (k3 : Int)), (.int .i64 i3)], .int .i64 er]) (w' := w') (by simp only [execOp, e0]; rfl) ⟨rfl, Keeps.refl _ _⟩
            | 8, _, _, hi, hR =>
              have hi1 := hi
              simp only [List.getElem?_cons_succ, List.getElem?_cons_zero, Option.some.injEq] at hi1
              subst hi1
              obtain ⟨K, a2, c2, rfl, hbd⟩ := hR rfl
              have e0 : aq.eval (.tmp 60) = .tuple #[.agg #[(.slice a2 bs3.length c2), (.int .i64 a3), (.int .u64 (k3 : Int)), (.int .i64 i3)], .int .i64 er] := hd.val (j := 7) (by kernel_rfl) rfl rfl rfl
              exact wpOp_ranL hi rfl (v := .agg #[(.slice a2 bs3.length c2), (.int .i64 a3), (.int .u64 (k3 : Int)), (.int .i64 i3)]) (w' := w') (by simp only [execOp, e0]; rfl) ⟨rfl, Keeps.refl _ _⟩
            | 9, _, _, hi, hR =>
              have hi1 := hi
              simp only [List.getElem?_cons_succ, List.getElem?_cons_zero, Option.some.injEq] at hi1
              subst hi1
              obtain ⟨K, a2, c2, rfl, hbd⟩ := hR rfl
              have e0 : aq.eval (.tmp 60) = .tuple #[.agg #[(.slice a2 bs3.length c2), (.int .i64 a3), (.int .u64 (k3 : Int)), (.int .i64 i3)], .int .i64 er] := hd.val (j := 7) (by kernel_rfl) rfl rfl rfl
              exact wpOp_ranL hi rfl (v := .int .i64 er) (w' := w') (by simp only [execOp, e0]; rfl) ⟨rfl, Keeps.refl _ _⟩
            | 10, hv, _, _, _ => cases hv
            | 11, hv, _, _, _ => cases hv
            | 12, _, _, hi, hR =>
              have hi1 := hi
              simp only [List.getElem?_cons_succ, List.getElem?_cons_zero, Option.some.injEq] at hi1
              subst hi1
              obtain ⟨K, a2, c2, rfl, hbd⟩ := hR rfl
              have e0 : aq.eval (.tmp 69) = .int .i64 er := hd.val (j := 9) (by kernel_rfl) rfl rfl rfl
              exact wpOp_ranL hi rfl (v := .int .i64 er) (w' := w') (by simp only [execOp, e0]; rfl) ⟨rfl, Keeps.refl _ _⟩
            | n + 13, _, _, hi, _ => simp at hi
          case HC =>
            intro o hi aq w' r hk hd
            have hi1 := hi
            simp only [List.getElem?_cons_succ, List.getElem?_cons_zero, Option.some.injEq] at hi1
            subst hi1
            have e0 : aq.eval (.tmp 61) = .agg #[.slice sa bs.length sc, .int .i64 a, .int .u64 (k2 : Int), .int .i64 i2] := hd.val (j := 0) (by kernel_rfl) rfl rfl rfl
            have e1 : aq.eval (.tmp 66) = .slice ad x.b.length cd := hd.val (j := 5) (by kernel_rfl) rfl rfl rfl
            exact wpOp_callL hi rfl (f := 32) (args := #[.agg #[.slice sa bs.length sc, .int .i64 a, .int .u64 (k2 : Int), .int .i64 i2], .slice ad x.b.length cd]) (by simp only [execOp_call_go, List.map_toArray, List.map_cons, List.map_nil, e0, e1]; rfl) ((HP.out _ hk).mono (fun e w2 ⟨r, he, hR, hk2⟩ => ⟨_, he, _, rfl, hk2, sdRD_rm _ _ _ _ _ _ _ hR (fun b hb h => by omega)⟩))
          case HE =>
            intro L aq w' gg r hL hT
            have em := act_mix (bs := [true, true, true, true, true, true, true, true, true, false, false, true, true, true, true, true, true, true, true, true, true, true, true, true, true, true, true, true, true, true, true, true, true, true, true, true, true, true, true, true, true, true, true, true, true, true, true, true, true, true, true, true, true, true, true, true, true, true, true, true, false, false, false, false, false, false, false, false, false, false, true, true, true, true, true, true, true, true, true, true, true, true, true, true, true, true, true, true, true, true, true, true, true, true, true, true, true, true, true, true, true, true, true, true, true, true, true, true, true, true, true, true, true, true, true, true, true, true, true, true, true, true, true, true, true, true, true, true, true, true, true, true, true, true, true, true, true, true, true, true, true, true, true, true, true, true, true, true, true, true, true, true, true, true, true, true, true, true, true, true, true, true, true, true, true, true, true, true, true, true, true, true, true, true, true, true, true, true, true, true, true, true, true, true, true]) hT.sz hT.df hT.fr rfl (by kernel_rfl)
            have hR := hT.c (hL 6 (by decide))
            obtain ⟨a2, c2, rfl, hbd⟩ := hR
            have kW := hT.kp
            obtain ⟨eA10, zA10, cs10, -, bA10, sA10⟩ := hT.al 10 rfl (hL 10 (by decide)) _ 9 rfl rfl
            have sA10 := sA10 11 rfl (hL 11 (by decide)) rfl
            subst sA10
            change aq.tmps.getD 9 undef = _ at eA10
            generalize gg 10 = g10 at *
            have k10 : aq.tmps.getD 10 undef = .int .i64 er := hT.v 12 _ 10 rfl (hL 12 (by decide)) rfl rfl
            clear hT hL
            simp only [mix, eA10, k10] at em
            clear eA10 k10
            generalize aq.tmps.getD 61 undef = q61 at em
            generalize aq.tmps.getD 62 undef = q62 at em
            generalize aq.tmps.getD 63 undef = q63 at em
            generalize aq.tmps.getD 64 undef = q64 at em
            generalize aq.tmps.getD 65 undef = q65 at em
            generalize aq.tmps.getD 66 undef = q66 at em
            generalize aq.tmps.getD 67 undef = q67 at em
            generalize aq.tmps.getD 60 undef = q60 at em
            generalize aq.tmps.getD 68 undef = q68 at em
            generalize aq.tmps.getD 69 undef = q69 at em
            subst em
            simp only [Exit.then]
            go_wp2_with fail
            go_meet
            exact ⟨a2, c2, rfl, g10, rfl, zA10, hid bA10, hid (hbd.mono (fun b _ h => h.2)), hid kW⟩
        case rest =>
        obtain ⟨Aa, Ac, rfl, b_A, rfl, hb_A, B_A, D_A, hk⟩ := hcut
        replace hk := hk.out
        generalize wc = W21 at *
        have HBS' : Hd (Blk W21 b_S #[(.slice sa bs.length sc), (.int .i64 a), (.int .u64 (k2 : Int)), (.int .i64 i2)] 57) := hid (blk_keep HBS.out hk (fun h => h))
        have HBT' : Hd (Blk W21 b_T #[(.slice ta bs.length tc), (.int .i64 a), (.int .u64 (k2 : Int)), (.int .i64 i2)] 57) := hid (blk_keep HBT.out hk (fun h => h))
        have HSB' : Hd (Bds (fun b => b ≠ b_S ∧ b ≠ b_T) W21 (.slice sa bs.length sc) bs) := hid (HSB.out.keep hk (fun _ _ _ h => h))
        have HTB' : Hd (Bds (fun b => b ≠ b_S ∧ b ≠ b_T) W21 (.slice ta bs.length tc) bs) := hid (HTB.out.keep hk (fun _ _ _ h => h))
        clear HBS HBT HSB HTB
        have HBS := HBS'
        clear HBS'
        have HBT := HBT'
        clear HBT'
        have HSB := HSB'
        clear HSB'
        have HTB := HTB'
        clear HTB'
        have HK' : Hd (Keeps (fun _ => False) w W21) := hid (HK.out.trans hk)
        clear HK
        have HK := HK'
        clear HK'
        have z_W21 := hk.size
        clear hk
        have lt_A := blk_lt B_A.out
        clear HP
        have HR : Hd (∀ X, Keeps (fun _ => False) W21 X → Calls Tryd.prog 37 #[.agg #[.slice ta bs.length tc, .int .i64 a, .int .u64 (k2 : Int), .int .i64 i2], .slice ad x.b.length cd] X fun e w' => CallFS (sdRD (fun b => b ≠ b_S ∧ b ≠ b_T) ⟨bs3, a3, ⟨k3, i3⟩⟩ [.int .i64 er]) (fun b => b < W21.heap.size ∨ X.heap.size ≤ b) X e w') := hid (fun X hx => by have h := RQueue_all ⟨bs, a, ⟨k2, i2⟩⟩ ta tc x.b ad cd (fun b => b ≠ b_S ∧ b ≠ b_T) W21.heap.size X ((HTB.out.mono (fun b hb h => ⟨h, hb⟩)).keep hx (fun _ _ _ h => h)) (by simp only []; omega) ((HSX.out.keep (HK.out.trans hx) (fun _ _ _ h => h)).mono (fun b _ h => by have h' : b < w.heap.size := h; exact ⟨⟨by omega, by omega⟩, by omega⟩)) (fun b hb => by have := hx.size; exact ⟨by omega, by omega⟩); rw [HQ.out] at h; exact h)
        go_upto_region 11 with fail
        go_cut [12, 11] from 70 to 79 (fun ue ub wx => ∃ (a2 : Option Addr) (c2 : Nat), ue = .int .i64 er ∧ ∃ bA, ub = .pointer (some ⟨bA, 0, none⟩) ∧ W21.heap.size ≤ bA ∧ Hd (Blk wx bA #[(.slice a2 bs3.length c2), (.int .i64 a3), (.int .u64 (k3 : Int)), (.int .i64 i3)] 57) ∧ Hd (Bds (fun b => b ≠ b_S ∧ b ≠ b_T) wx (.slice a2 bs3.length c2) bs3) ∧ Hd (Keeps (fun _ => False) W21 wx))
        case first =>
          refine wp_many (C := mkMC 6 [6, 7, 8, 9, 11, 12] [(10, 57, #[(.slice none 0 0), (.int .i64 0), (.int .u64 0), (.int .i64 0)])] [(11, 10, 8)] [(fun _ => .agg #[.slice ta bs.length tc, .int .i64 a, .int .u64 (k2 : Int), .int .i64 i2]), (fun _ => .slice (some ⟨vb, vo, none⟩) L vc), (fun _ => .int .i64 (i : Int)), (fun _ => .pointer (some ⟨vb, vo + i * 4, none⟩)), (fun _ => .pointer (some ⟨vb, vo + i * 4 + 3, none⟩)), (fun _ => .slice ad x.b.length cd), (fun r => r), (fun r => r), (fun r => tupAt r 0), (fun r => tupAt r 1), (fun _ => undef), (fun _ => undef), (fun r => tupAt r 1)] (fun _ r => aggCells (tupAt r 0)) (sdRD (fun b => b ≠ b_S ∧ b ≠ b_T) ⟨bs3, a3, ⟨k3, i3⟩⟩ [.int .i64 er])) (by kernel_rfl) ?H ?HV 6 rfl ?HC ?HE
          case H =>
            refine { back := by kernel_rfl, dst := uniqB_spec (by kernel_rfl), szd := underB_spec (by kernel_rfl), val := valB_spec3 (f := mkV [(10, 57, #[(.slice none 0 0), (.int .i64 0), (.int .u64 0), (.int .i64 0)])] [(11, 10, 8)]) (by kernel_rfl), alo := ?_, sto := ?_, stc := ?_, all := allB3_spec (f := mkV [(10, 57, #[(.slice none 0 0), (.int .i64 0), (.int .u64 0), (.int .i64 0)])] [(11, 10, 8)]) (g := mkA [(10, 57, #[(.slice none 0 0), (.int .i64 0), (.int .u64 0), (.int .i64 0)])]) (h := mkS [(11, 10, 8)]) (by kernel_rfl), nva := ?_, nvs := ?_, one := ?_, civ := rfl, nd := ?_, cd := rfl, dd := ?_, sem := sdSem _ _ _ _ _ _ _ rfl (sdRD_rk _ _ _) (sdRD_rm _ _ _) (sdRD_sh _ _ _) }
            · intro j o h0 ha
              have h1 : 10 = j := by simpa [mkMC] using ha
              subst h1
              all_goals
                have h2 := h0
                simp only [List.getElem?_cons_succ, List.getElem?_cons_zero, Option.some.injEq] at h2
                subst h2
                exact ⟨⟨_, rfl⟩, rfl, rfl⟩
            · intro s o h0 ha
              have h1 : 11 = s := by simpa [mkMC] using ha
              subst h1
              all_goals
                have h2 := h0
                simp only [List.getElem?_cons_succ, List.getElem?_cons_zero, Option.some.injEq] at h2
                subst h2
                exact ⟨_, _, _, _, rfl, rfl, rfl, rfl, rfl, rfl, rfl, waitsB_spec (by kernel_rfl), waitsB_spec (by kernel_rfl)⟩
            · intro s ha
              have h1 : 11 = s := by simpa [mkMC] using ha
              subst h1
              all_goals exact ⟨rfl, rfl, rfl, rfl⟩
            · intro s ha
              have h1 : 10 = s := by simpa [mkMC] using ha
              subst h1
              all_goals exact ⟨rfl, rfl, rfl⟩
            · intro s ha
              have h1 : 11 = s := by simpa [mkMC] using ha
              subst h1
              all_goals exact ⟨rfl, rfl⟩
            · intro s t ha hb hst
              have h1 : 11 = s := by simpa [mkMC] using ha
              subst h1
              all_goals (have h2 : 11 = t := by simpa [mkMC] using hb)
              exact h2
            · intro i r r' hv hD
              match i, hD with
              | 0, _ => rfl
              | 1, _ => rfl
              | 2, _ => rfl
              | 3, _ => rfl
              | 4, _ => rfl
              | 5, _ => rfl
              | 6, h => exact absurd h (by simp [mkMC])
              | 7, h => exact absurd h (by simp [mkMC])
              | 8, h => exact absurd h (by simp [mkMC])
              | 9, h => exact absurd h (by simp [mkMC])
              | 10, _ => rfl
              | 11, h => exact absurd h (by simp [mkMC])
              | 12, h => exact absurd h (by simp [mkMC])
              | n + 13, _ => rfl
            · intro i o h0 hD hne
              match i, h0, hD, hne with
              | 0, _, hD, _ => exact absurd hD (by simp [mkMC])
              | 1, _, hD, _ => exact absurd hD (by simp [mkMC])
              | 2, _, hD, _ => exact absurd hD (by simp [mkMC])
              | 3, _, hD, _ => exact absurd hD (by simp [mkMC])
              | 4, _, hD, _ => exact absurd hD (by simp [mkMC])
              | 5, _, hD, _ => exact absurd hD (by simp [mkMC])
              | 6, _, _, hne => exact absurd rfl hne
              | 7, h0, _, _ =>
                simp only [List.getElem?_cons_succ, List.getElem?_cons_zero, Option.some.injEq] at h0
                subst h0
                exact ⟨6, waitsB_spec (by kernel_rfl), rfl⟩
              | 8, h0, _, _ =>
                simp only [List.getElem?_cons_succ, List.getElem?_cons_zero, Option.some.injEq] at h0
                subst h0
                exact ⟨7, waitsB_spec (by kernel_rfl), rfl⟩
              | 9, h0, _, _ =>
                simp only [List.getElem?_cons_succ, List.getElem?_cons_zero, Option.some.injEq] at h0
                subst h0
                exact ⟨7, waitsB_spec (by kernel_rfl), rfl⟩
              | 10, _, hD, _ => exact absurd hD (by simp [mkMC])
              | 11, h0, _, _ =>
                simp only [List.getElem?_cons_succ, List.getElem?_cons_zero, Option.some.injEq] at h0
                subst h0
                exact ⟨8, waitsB_spec (by kernel_rfl), rfl⟩
              | 12, h0, _, _ =>
                simp only [List.getElem?_cons_succ, List.getElem?_cons_zero, Option.some.injEq] at h0
                subst h0
                exact ⟨9, waitsB_spec (by kernel_rfl), rfl⟩
              | n + 13, h0, _, _ => simp at h0
          case HV =>
            intro iq o hv hne hi aq w' r hk hd hR
            match iq, hv, hne, hi, hR with
            | 0, _, _, hi, hR =>
              have hi1 := hi
              simp only [List.getElem?_cons_succ, List.getElem?_cons_zero, Option.some.injEq] at hi1
              subst hi1
              have e0 : aq.eval (.tmp 6) = .pointer (some ⟨b_T, 0, none⟩) := (hd.out (by kernel_rfl)).trans rfl
              have c0 := keep_cell hk (fun h => h) (blk_cell HBT.out 0)
              have c1 := keep_cell hk (fun h => h) (blk_cell HBT.out 1)
              have c2 := keep_cell hk (fun h => h) (blk_cell HBT.out 2)
              have c3 := keep_cell hk (fun h => h) (blk_cell HBT.out 3)
              exact wpOp_ranL hi rfl (v := .agg #[.slice ta bs.length tc, .int .i64 a, .int .u64 (k2 : Int), .int .i64 i2]) (w' := w') (by simp only [execOp, e0]; go_simp) ⟨rfl, Keeps.refl _ _⟩
            | 1, _, _, hi, hR =>
              have hi1 := hi
              simp only [List.getElem?_cons_succ, List.getElem?_cons_zero, Option.some.injEq] at hi1
              subst hi1
              have e0 : aq.eval (.tmp 1) = .slice (some ⟨vb, vo, none⟩) L vc := (hd.out (by kernel_rfl)).trans rfl
              exact wpOp_ranL hi rfl (v := .slice (some ⟨vb, vo, none⟩) L vc) (w' := w') (by simp only [execOp, e0]; rfl) ⟨rfl, Keeps.refl _ _⟩
            | 2, _, _, hi, hR =>
              have hi1 := hi
              simp only [List.getElem?_cons_succ, List.getElem?_cons_zero, Option.some.injEq] at hi1
              subst hi1
              have e0 : aq.eval (.tmp 7) = .int .i64 (i : Int) := (hd.out (by kernel_rfl)).trans rfl
              exact wpOp_ranL hi rfl (v := .int .i64 (i : Int)) (w' := w') (by simp only [execOp, e0]; rfl) ⟨rfl, Keeps.refl _ _⟩
            | 3, _, _, hi, hR =>
              have hi1 := hi
              simp only [List.getElem?_cons_succ, List.getElem?_cons_zero, Option.some.injEq] at hi1
              subst hi1
              have e0 : aq.eval (.tmp 72) = .slice (some ⟨vb, vo, none⟩) L vc := hd.val (j := 1) (by kernel_rfl) rfl rfl rfl
              have e1 : aq.eval (.tmp 73) = .int .i64 (i : Int) := hd.val (j := 2) (by kernel_rfl) rfl rfl rfl
              exact wpOp_ranL hi rfl (v := .pointer (some ⟨vb, vo + i * 4, none⟩)) (w' := w') (by simp only [execOp, e0, e1]; go_simp) ⟨rfl, Keeps.refl _ _⟩
            | 4, _, _, hi, hR =>
              have hi1 := hi
              simp only [List.getElem?_cons_succ, List.getElem?_cons_zero, Option.some.injEq] at hi1
              subst hi1
              have e0 : aq.eval (.tmp 74) = .pointer (some ⟨vb, vo + i * 4, none⟩) := hd.val (j := 3) (by kernel_rfl) rfl rfl rfl
              exact wpOp_ranL hi rfl (v := .pointer (some ⟨vb, vo + i * 4 + 3, none⟩)) (w' := w') (by simp only [execOp, e0]; go_simp) ⟨rfl, Keeps.refl _ _⟩
            | 5, _, _, hi, hR =>
              have hi1 := hi
              simp only [List.getElem?_cons_succ, List.getElem?_cons_zero, Option.some.injEq] at hi1
              subst hi1
              have e0 : aq.eval (.tmp 75) = .pointer (some ⟨vb, vo + i * 4 + 3, none⟩) := hd.val (j := 4) (by kernel_rfl) rfl rfl rfl
              have c0 := keep_cell (HK.out.trans hk) (fun h => h) HC3.out
              exact wpOp_ranL hi rfl (v := .slice ad x.b.length cd) (w' := w') (by simp only [execOp, e0]; go_simp) ⟨rfl, Keeps.refl _ _⟩
            | 6, _, hne, _, _ => exact absurd rfl hne
            | 7, _, _, hi, hR =>
              have hi1 := hi
              simp only [List.getElem?_cons_succ, List.getElem?_cons_zero, Option.some.injEq] at hi1
              subst hi1
              obtain ⟨K, a2, c2, rfl, hbd⟩ := hR rfl
              have e0 : aq.eval (.tmp 77) = .tuple #[.agg #[(.slice a2 bs3.length c2), (.int .i64 a3), (.int .u64 (k3 : Int)), (.int .i64 i3)], .int .i64 er] := hd.val (j := 6) (by kernel_rfl) rfl rfl rfl
              exact wpOp_ranL hi rfl (v := .tuple #[.agg #[(.slice a2 bs3.length c2), (.int .i64 a3), (.int .u64 (k3 : Int)), (.int .i64 i3)], .int .i64 er]) (w' := w') (by simp only [execOp, e0]; rfl) ⟨rfl, Keeps.refl _ _⟩
            | 8, _, _, hi, hR =>
              have hi1 := hi
              simp only [List.getElem?_cons_succ, List.getElem?_cons_zero, Option.some.injEq] at hi1
              subst hi1
              obtain ⟨K, a2, c2, rfl, hbd⟩ := hR rfl
              have e0 : aq.eval (.tmp 70) = .tuple #[.agg #[(.slice a2 bs3.length c2), (.int .i64 a3), (.int .u64 (k3 : Int)), (.int .i64 i3)], .int .i64 er] := hd.val (j := 7) (by kernel_rfl) rfl rfl rfl
              exact wpOp_ranL hi rfl (v := .agg #[(.slice a2 bs3.length c2), (.int .i64 a3), (.int .u64 (k3 : Int)), (.int .i64 i3)]) (w' := w') (by simp only [execOp, e0]; rfl) ⟨rfl, Keeps.refl _ _⟩
            | 9, _, _, hi, hR =>
              have hi1 := hi
              simp only [List.getElem?_cons_succ, List.getElem?_cons_zero, Option.some.injEq] at hi1
              subst hi1
              obtain ⟨K, a2, c2, rfl, hbd⟩ := hR rfl
              have e0 : aq.eval (.tmp 70) = .tuple #[.agg #[(.slice a2 bs3.length c2), (.int .i64 a3), (.int .u64 (k3 : Int)), (.int .i64 i3)], .int .i64 er] := hd.val (j := 7) (by kernel_rfl) rfl rfl rfl
              exact wpOp_ranL hi rfl (v := .int .i64 er) (w' := w') (by simp only [execOp, e0]; rfl) ⟨rfl, Keeps.refl _ _⟩
            | 10, hv, _, _, _ => cases hv
            | 11, hv, _, _, _ => cases hv
            | 12, _, _, hi, hR =>
              have hi1 := hi
              simp only [List.getElem?_cons_succ, List.getElem?_cons_zero, Option.some.injEq] at hi1
              subst hi1
              obtain ⟨K, a2, c2, rfl, hbd⟩ := hR rfl
              have e0 : aq.eval (.tmp 79) = .int .i64 er := hd.val (j := 9) (by kernel_rfl) rfl rfl rfl
              exact wpOp_ranL hi rfl (v := .int .i64 er) (w' := w') (by simp only [execOp, e0]; rfl) ⟨rfl, Keeps.refl _ _⟩
            | n + 13, _, _, hi, _ => simp at hi
          case HC =>
            intro o hi aq w' r hk hd
            have hi1 := hi
            simp only [List.getElem?_cons_succ, List.getElem?_cons_zero, Option.some.injEq] at hi1
            subst hi1
            have e0 : aq.eval (.tmp 71) = .agg #[.slice ta bs.length tc, .int .i64 a, .int .u64 (k2 : Int), .int .i64 i2] := hd.val (j := 0) (by kernel_rfl) rfl rfl rfl
            have e1 : aq.eval (.tmp 76) = .slice ad x.b.length cd := hd.val (j := 5) (by kernel_rfl) rfl rfl rfl
            exact wpOp_callL hi rfl (f := 37) (args := #[.agg #[.slice ta bs.length tc, .int .i64 a, .int .u64 (k2 : Int), .int .i64 i2], .slice ad x.b.length cd]) (by simp only [execOp_call_go, List.map_toArray, List.map_cons, List.map_nil, e0, e1]; rfl) ((HR.out _ hk).mono (fun e w2 ⟨r, he, hR, hk2⟩ => ⟨_, he, _, rfl, hk2, sdRD_rm _ _ _ _ _ _ _ hR (fun b hb h => by omega)⟩))
          case HE =>
            intro L aq w' gg r hL hT
            have em := act_mix (bs := [true, true, true, true, true, true, true, true, true, true, true, false, false, true, true, true, true, true, true, true, true, true, true, true, true, true, true, true, true, true, true, true, true, true, true, true, true, true, true, true, true, true, true, true, true, true, true, true, true, true, true, true, true, true, true, true, true, true, true, true, true, true, true, true, true, true, true, true, true, true, false, false, false, false, false, false, false, false, false, false, true, true, true, true, true, true, true, true, true, true, true, true, true, true, true, true, true, true, true, true, true, true, true, true, true, true, true, true, true, true, true, true, true, true, true, true, true, true, true, true, true, true, true, true, true, true, true, true, true, true, true, true, true, true, true, true, true, true, true, true, true, true, true, true, true, true, true, true, true, true, true, true, true, true, true, true, true, true, true, true, true, true, true, true, true, true, true, true, true, true, true, true, true, true, true, true, true, true, true, true, true, true, true, true, true]) hT.sz hT.df hT.fr rfl (by kernel_rfl)
            have hR := hT.c (hL 6 (by decide))
            obtain ⟨a2, c2, rfl, hbd⟩ := hR
            have kW := hT.kp
            obtain ⟨eA10, zA10, cs10, -, bA10, sA10⟩ := hT.al 10 rfl (hL 10 (by decide)) _ 11 rfl rfl
            have sA10 := sA10 11 rfl (hL 11 (by decide)) rfl
            subst sA10
            change aq.tmps.getD 11 undef = _ at eA10
            generalize gg 10 = g10 at *
            have k12 : aq.tmps.getD 12 undef = .int .i64 er := hT.v 12 _ 12 rfl (hL 12 (by decide)) rfl rfl
            clear hT hL
            simp only [mix, eA10, k12] at em
            clear eA10 k12
            generalize aq.tmps.getD 71 undef = q71 at em
            generalize aq.tmps.getD 72 undef = q72 at em
            generalize aq.tmps.getD 73 undef = q73 at em
            generalize aq.tmps.getD 74 undef = q74 at em
            generalize aq.tmps.getD 75 undef = q75 at em
            generalize aq.tmps.getD 76 undef = q76 at em
            generalize aq.tmps.getD 77 undef = q77 at em
            generalize aq.tmps.getD 70 undef = q70 at em
            generalize aq.tmps.getD 78 undef = q78 at em
            generalize aq.tmps.getD 79 undef = q79 at em
            subst em
            simp only [Exit.then]
            go_wp2_with fail
            go_meet
            exact ⟨a2, c2, rfl, g10, rfl, zA10, hid bA10, hid (hbd.mono (fun b _ h => h.2)), hid kW⟩
        case rest =>
        obtain ⟨Ba, Bc, rfl, b_B, rfl, hb_B, B_B, D_B, hk⟩ := hcut
        replace hk := hk.out
        generalize wc = W22 at *
        have HBS' : Hd (Blk W22 b_S #[(.slice sa bs.length sc), (.int .i64 a), (.int .u64 (k2 : Int)), (.int .i64 i2)] 57) := hid (blk_keep HBS.out hk (fun h => h))
        have HBT' : Hd (Blk W22 b_T #[(.slice ta bs.length tc), (.int .i64 a), (.int .u64 (k2 : Int)), (.int .i64 i2)] 57) := hid (blk_keep HBT.out hk (fun h => h))
        have HSB' : Hd (Bds (fun b => b ≠ b_S ∧ b ≠ b_T) W22 (.slice sa bs.length sc) bs) := hid (HSB.out.keep hk (fun _ _ _ h => h))
        have HTB' : Hd (Bds (fun b => b ≠ b_S ∧ b ≠ b_T) W22 (.slice ta bs.length tc) bs) := hid (HTB.out.keep hk (fun _ _ _ h => h))
        have B_A' : Hd (Blk W22 b_A #[(.slice Aa bs3.length Ac), (.int .i64 a3), (.int .u64 (k3 : Int)), (.int .i64 i3)] 57) := hid (blk_keep B_A.out hk (fun h => h))
        have D_A' : Hd (Bds (fun b => b ≠ b_S ∧ b ≠ b_T) W22 (.slice Aa bs3.length Ac) bs3) := hid (D_A.out.keep hk (fun _ _ _ h => h))
        clear HBS HBT HSB HTB B_A D_A
        have HBS := HBS'
        clear HBS'
        have HBT := HBT'
        clear HBT'
        have HSB := HSB'
        clear HSB'
        have HTB := HTB'
        clear HTB'
        have B_A := B_A'
        clear B_A'
        have D_A := D_A'
        clear D_A'
        have HK' : Hd (Keeps (fun _ => False) w W22) := hid (HK.out.trans hk)
        clear HK
        have HK := HK'
        clear HK'
        have z_W22 := hk.size
        clear hk
        have lt_B := blk_lt B_B.out
        clear HR
        have hee : (er == er) = true := by simp
        have HSS : Hd (∀ X, Keeps (fun _ => False) W22 X → Calls Tryd.prog 38 #[.agg #[(.slice Aa bs3.length Ac), (.int .i64 a3), (.int .u64 (k3 : Int)), (.int .i64 i3)], .agg #[(.slice Ba bs3.length Bc), (.int .i64 a3), (.int .u64 (k3 : Int)), (.int .i64 i3)]] X fun e w' => e = .returned (.bool true) ∧ Keeps (fun _ => False) X w') := hid (fun X hx => SameSender_true bs3 a3 ⟨k3, i3⟩ Aa Ba Ac Bc _ _ X (D_A.out.keep hx (fun _ _ _ h => h)) (D_B.out.keep hx (fun _ _ _ h => h)) HQB.out.1 (by have := HQB.out.2; omega))
        have o_B_A_0 : W22.cell? ⟨b_A, 0, none⟩ = some ((.slice Aa bs3.length Ac)) := blk_cell B_A.out 0
        have o_B_A_1 : W22.cell? ⟨b_A, 1, none⟩ = some ((.int .i64 a3)) := blk_cell B_A.out 1
        have o_B_A_2 : W22.cell? ⟨b_A, 2, none⟩ = some ((.int .u64 (k3 : Int))) := blk_cell B_A.out 2
        have o_B_A_3 : W22.cell? ⟨b_A, 3, none⟩ = some ((.int .i64 i3)) := blk_cell B_A.out 3
        have o_B_B_0 : W22.cell? ⟨b_B, 0, none⟩ = some ((.slice Ba bs3.length Bc)) := blk_cell B_B.out 0
        have o_B_B_1 : W22.cell? ⟨b_B, 1, none⟩ = some ((.int .i64 a3)) := blk_cell B_B.out 1
        have o_B_B_2 : W22.cell? ⟨b_B, 2, none⟩ = some ((.int .u64 (k3 : Int))) := blk_cell B_B.out 2
        have o_B_B_3 : W22.cell? ⟨b_B, 3, none⟩ = some ((.int .i64 i3)) := blk_cell B_B.out 3
        go_wp2_with fail
        refine (HSS.out _ (by repeat (first | (with_reducible exact Keeps.refl _ _) | (with_reducible apply Keeps.drewN) | (with_reducible apply Keeps.drew)))).mono ?_
        rintro e X1 ⟨rfl, hk1⟩
        clear o_B_A_0 o_B_A_1 o_B_A_2 o_B_A_3 o_B_B_0 o_B_B_1 o_B_B_2 o_B_B_3
        have hk : Keeps (fun _ => False) W22 X1 := Keeps.trans (S := fun _ => False) (by repeat (first | (with_reducible exact Keeps.refl _ _) | (with_reducible apply Keeps.drewN) | (with_reducible apply Keeps.drew))) hk1
        clear hk1 HSS
        have HBS' : Hd (Blk X1 b_S #[(.slice sa bs.length sc), (.int .i64 a), (.int .u64 (k2 : Int)), (.int .i64 i2)] 57) := hid (blk_keep HBS.out hk (fun h => h))
        have HBT' : Hd (Blk X1 b_T #[(.slice ta bs.length tc), (.int .i64 a), (.int .u64 (k2 : Int)), (.int .i64 i2)] 57) := hid (blk_keep HBT.out hk (fun h => h))
        have HSB' : Hd (Bds (fun b => b ≠ b_S ∧ b ≠ b_T) X1 (.slice sa bs.length sc) bs) := hid (HSB.out.keep hk (fun _ _ _ h => h))
        have HTB' : Hd (Bds (fun b => b ≠ b_S ∧ b ≠ b_T) X1 (.slice ta bs.length tc) bs) := hid (HTB.out.keep hk (fun _ _ _ h => h))
        have B_A' : Hd (Blk X1 b_A #[(.slice Aa bs3.length Ac), (.int .i64 a3), (.int .u64 (k3 : Int)), (.int .i64 i3)] 57) := hid (blk_keep B_A.out hk (fun h => h))
        have D_A' : Hd (Bds (fun b => b ≠ b_S ∧ b ≠ b_T) X1 (.slice Aa bs3.length Ac) bs3) := hid (D_A.out.keep hk (fun _ _ _ h => h))
        have B_B' : Hd (Blk X1 b_B #[(.slice Ba bs3.length Bc), (.int .i64 a3), (.int .u64 (k3 : Int)), (.int .i64 i3)] 57) := hid (blk_keep B_B.out hk (fun h => h))
        have D_B' : Hd (Bds (fun b => b ≠ b_S ∧ b ≠ b_T) X1 (.slice Ba bs3.length Bc) bs3) := hid (D_B.out.keep hk (fun _ _ _ h => h))
        clear HBS HBT HSB HTB B_A D_A B_B D_B
        have HBS := HBS'
        clear HBS'
        have HBT := HBT'
        clear HBT'
        have HSB := HSB'
        clear HSB'
        have HTB := HTB'
        clear HTB'
        have B_A := B_A'
        clear B_A'
        have D_A := D_A'
        clear D_A'
        have B_B := B_B'
        clear B_B'
        have D_B := D_B'
        clear D_B'
        have HK' : Hd (Keeps (fun _ => False) w X1) := hid (HK.out.trans hk)
        clear HK
        have HK := HK'
        clear HK'
        have z_X1 := hk.size
        clear hk
        by_cases her : er = 0
        · subst her
          have HOK2 : Hd (SOk ⟨bs3, a3, ⟨k3, i3⟩⟩ (i + 1)) := hid (by have h := HOK.out.queue (b := x.b) HXO.out.b (by rw [HQ.out]); rw [HQ.out] at h; exact h)
          have o_B_A_0 : X1.cell? ⟨b_A, 0, none⟩ = some ((.slice Aa bs3.length Ac)) := blk_cell B_A.out 0
          have o_B_A_1 : X1.cell? ⟨b_A, 1, none⟩ = some ((.int .i64 a3)) := blk_cell B_A.out 1
          have o_B_A_2 : X1.cell? ⟨b_A, 2, none⟩ = some ((.int .u64 (k3 : Int))) := blk_cell B_A.out 2
          have o_B_A_3 : X1.cell? ⟨b_A, 3, none⟩ = some ((.int .i64 i3)) := blk_cell B_A.out 3
          have o_B_B_0 : X1.cell? ⟨b_B, 0, none⟩ = some ((.slice Ba bs3.length Bc)) := blk_cell B_B.out 0
          have o_B_B_1 : X1.cell? ⟨b_B, 1, none⟩ = some ((.int .i64 a3)) := blk_cell B_B.out 1
          have o_B_B_2 : X1.cell? ⟨b_B, 2, none⟩ = some ((.int .u64 (k3 : Int))) := blk_cell B_B.out 2
          have o_B_B_3 : X1.cell? ⟨b_B, 3, none⟩ = some ((.int .i64 i3)) := blk_cell B_B.out 3
          have o_HBS_0 : X1.cell? ⟨b_S, 0, none⟩ = some ((.slice sa bs.length sc)) := blk_cell HBS.out 0
          have o_HBS_1 : X1.cell? ⟨b_S, 1, none⟩ = some ((.int .i64 a)) := blk_cell HBS.out 1
          have o_HBS_2 : X1.cell? ⟨b_S, 2, none⟩ = some ((.int .u64 (k2 : Int))) := blk_cell HBS.out 2
          have o_HBS_3 : X1.cell? ⟨b_S, 3, none⟩ = some ((.int .i64 i2)) := blk_cell HBS.out 3
          have o_HBT_0 : X1.cell? ⟨b_T, 0, none⟩ = some ((.slice ta bs.length tc)) := blk_cell HBT.out 0
          have o_HBT_1 : X1.cell? ⟨b_T, 1, none⟩ = some ((.int .i64 a)) := blk_cell HBT.out 1
          have o_HBT_2 : X1.cell? ⟨b_T, 2, none⟩ = some ((.int .u64 (k2 : Int))) := blk_cell HBT.out 2
          have o_HBT_3 : X1.cell? ⟨b_T, 3, none⟩ = some ((.int .i64 i2)) := blk_cell HBT.out 3
          have f_HBS_0 : X1.frozen? ⟨b_S, 0, none⟩ = false := blk_free HBS.out 0
          have f_HBS_1 : X1.frozen? ⟨b_S, 1, none⟩ = false := blk_free HBS.out 1
          have f_HBS_2 : X1.frozen? ⟨b_S, 2, none⟩ = false := blk_free HBS.out 2
          have f_HBS_3 : X1.frozen? ⟨b_S, 3, none⟩ = false := blk_free HBS.out 3
          have f_HBT_0 : X1.frozen? ⟨b_T, 0, none⟩ = false := blk_free HBT.out 0
          have f_HBT_1 : X1.frozen? ⟨b_T, 1, none⟩ = false := blk_free HBT.out 1
          have f_HBT_2 : X1.frozen? ⟨b_T, 2, none⟩ = false := blk_free HBT.out 2
          have f_HBT_3 : X1.frozen? ⟨b_T, 3, none⟩ = false := blk_free HBT.out 3
          go_upto_region 32 with fail
          clear o_B_A_0 o_B_A_1 o_B_A_2 o_B_A_3 o_B_B_0 o_B_B_1 o_B_B_2 o_B_B_3 o_HBS_0 o_HBS_1 o_HBS_2 o_HBS_3 o_HBT_0 o_HBT_1 o_HBT_2 o_HBT_3 f_HBS_0 f_HBS_1 f_HBS_2 f_HBS_3 f_HBT_0 f_HBT_1 f_HBT_2 f_HBT_3
          clear HSB HTB
          generalize hW : World.setCell (World.setCell (World.setCell (World.setCell (World.setCell (World.setCell (World.setCell (World.setCell X1 _ _) _ _) _ _) _ _) _ _) _ _) _ _) _ _ = W23
          have KS : Hd (Keeps (fun b => b = b_S ∨ b = b_T) X1 W23) := hid (by rw [← hW]; exact (Keeps.setCell (S := fun b => b = b_S ∨ b = b_T) (p := ⟨b_T, 3, none⟩) (Keeps.setCell (S := fun b => b = b_S ∨ b = b_T) (p := ⟨b_T, 2, none⟩) (Keeps.setCell (S := fun b => b = b_S ∨ b = b_T) (p := ⟨b_T, 1, none⟩) (Keeps.setCell (S := fun b => b = b_S ∨ b = b_T) (p := ⟨b_T, 0, none⟩) (Keeps.setCell (S := fun b => b = b_S ∨ b = b_T) (p := ⟨b_S, 3, none⟩) (Keeps.setCell (S := fun b => b = b_S ∨ b = b_T) (p := ⟨b_S, 2, none⟩) (Keeps.setCell (S := fun b => b = b_S ∨ b = b_T) (p := ⟨b_S, 1, none⟩) (Keeps.setCell (S := fun b => b = b_S ∨ b = b_T) (p := ⟨b_S, 0, none⟩) (Keeps.refl (fun b => b = b_S ∨ b = b_T) X1) (.inl (.inl rfl)) _) (.inl (.inl rfl)) _) (.inl (.inl rfl)) _) (.inl (.inl rfl)) _) (.inl (.inr rfl)) _) (.inl (.inr rfl)) _) (.inl (.inr rfl)) _) (.inl (.inr rfl)) _))
          have HBS' : Hd (Blk W23 b_S #[(.slice Aa bs3.length Ac), (.int .i64 a3), (.int .u64 (k3 : Int)), (.int .i64 i3)] 57) := hid (by rw [← hW]; exact (blk_other (blk_other (blk_other (blk_other (blk_set (blk_set (blk_set (blk_set HBS.out 0 _) 1 _) 2 _) 3 _) (by omega) _ _) (by omega) _ _) (by omega) _ _) (by omega) _ _))
          have HBT' : Hd (Blk W23 b_T #[(.slice Ba bs3.length Bc), (.int .i64 a3), (.int .u64 (k3 : Int)), (.int .i64 i3)] 57) := hid (by rw [← hW]; exact (blk_set (blk_set (blk_set (blk_set (blk_other (blk_other (blk_other (blk_other HBT.out (by omega) _ _) (by omega) _ _) (by omega) _ _) (by omega) _ _) 0 _) 1 _) 2 _) 3 _))
          have B_A' : Hd (Blk W23 b_A #[(.slice Aa bs3.length Ac), (.int .i64 a3), (.int .u64 (k3 : Int)), (.int .i64 i3)] 57) := hid (by rw [← hW]; exact (blk_other (blk_other (blk_other (blk_other (blk_other (blk_other (blk_other (blk_other B_A.out (by omega) _ _) (by omega) _ _) (by omega) _ _) (by omega) _ _) (by omega) _ _) (by omega) _ _) (by omega) _ _) (by omega) _ _))
          have D_A' : Hd (Bds (fun b => b ≠ b_S ∧ b ≠ b_T) W23 (.slice Aa bs3.length Ac) bs3) := hid (D_A.out.keep KS.out (fun b _ h1 h2 => by first | exact h1.1 h2 | exact h1.2 h2 | exact h2.elim h1.1 h1.2))
          have B_B' : Hd (Blk W23 b_B #[(.slice Ba bs3.length Bc), (.int .i64 a3), (.int .u64 (k3 : Int)), (.int .i64 i3)] 57) := hid (by rw [← hW]; exact (blk_other (blk_other (blk_other (blk_other (blk_other (blk_other (blk_other (blk_other B_B.out (by omega) _ _) (by omega) _ _) (by omega) _ _) (by omega) _ _) (by omega) _ _) (by omega) _ _) (by omega) _ _) (by omega) _ _))
          have D_B' : Hd (Bds (fun b => b ≠ b_S ∧ b ≠ b_T) W23 (.slice Ba bs3.length Bc) bs3) := hid (D_B.out.keep KS.out (fun b _ h1 h2 => by first | exact h1.1 h2 | exact h1.2 h2 | exact h2.elim h1.1 h1.2))
          clear HBS HBT B_A D_A B_B D_B
          have HBS := HBS'
          clear HBS'
          have HBT := HBT'
          clear HBT'
          have B_A := B_A'
          clear B_A'
          have D_A := D_A'
          clear D_A'
          have B_B := B_B'
          clear B_B'
          have D_B := D_B'
          clear D_B'
          have HK' : Hd (Keeps (fun _ => False) w W23) := hid (HK.out.trans' KS.out (fun i hi h => by omega))
          clear HK
          have HK := HK'
          clear HK'
          have z_W23 : X1.heap.size + 0 ≤ W23.heap.size := by rw [← hW]; simp
          clear hW KS
          have HSS : Hd (∀ X, Keeps (fun _ => False) W23 X → Calls Tryd.prog 38 #[.agg #[(.slice Aa bs3.length Ac), (.int .i64 a3), (.int .u64 (k3 : Int)), (.int .i64 i3)], .agg #[(.slice Ba bs3.length Bc), (.int .i64 a3), (.int .u64 (k3 : Int)), (.int .i64 i3)]] X fun e w' => e = .returned (.bool true) ∧ Keeps (fun _ => False) X w') := hid (fun X hx => SameSender_true bs3 a3 ⟨k3, i3⟩ Aa Ba Ac Bc _ _ X (D_A.out.keep hx (fun _ _ _ h => h)) (D_B.out.keep hx (fun _ _ _ h => h)) (fun x hx => (HOK2.out.b x hx).2) (by have := HOK2.out.n; simp only [] at this; omega))
          have o_HBS_0 : W23.cell? ⟨b_S, 0, none⟩ = some ((.slice Aa bs3.length Ac)) := blk_cell HBS.out 0
          have o_HBS_1 : W23.cell? ⟨b_S, 1, none⟩ = some ((.int .i64 a3)) := blk_cell HBS.out 1
          have o_HBS_2 : W23.cell? ⟨b_S, 2, none⟩ = some ((.int .u64 (k3 : Int))) := blk_cell HBS.out 2
          have o_HBS_3 : W23.cell? ⟨b_S, 3, none⟩ = some ((.int .i64 i3)) := blk_cell HBS.out 3
          have o_HBT_0 : W23.cell? ⟨b_T, 0, none⟩ = some ((.slice Ba bs3.length Bc)) := blk_cell HBT.out 0
          have o_HBT_1 : W23.cell? ⟨b_T, 1, none⟩ = some ((.int .i64 a3)) := blk_cell HBT.out 1
          have o_HBT_2 : W23.cell? ⟨b_T, 2, none⟩ = some ((.int .u64 (k3 : Int))) := blk_cell HBT.out 2
          have o_HBT_3 : W23.cell? ⟨b_T, 3, none⟩ = some ((.int .i64 i3)) := blk_cell HBT.out 3
          go_wp2_with fail
          refine (HSS.out _ (by repeat (first | (with_reducible exact Keeps.refl _ _) | (with_reducible apply Keeps.drewN) | (with_reducible apply Keeps.drew)))).mono ?_
          rintro e X9 ⟨rfl, hk9⟩
          clear o_HBS_0 o_HBS_1 o_HBS_2 o_HBS_3 o_HBT_0 o_HBT_1 o_HBT_2 o_HBT_3
          have hk8 : Keeps (fun _ => False) W23 X9 := Keeps.trans (S := fun _ => False) (by repeat (first | (with_reducible exact Keeps.refl _ _) | (with_reducible apply Keeps.drewN) | (with_reducible apply Keeps.drew))) hk9
          clear hk9 HSS
          go_wp2
          go_roundw
          case rel => exact ⟨i + 1, ⟨bs3, a3, ⟨k3, i3⟩⟩, Aa, Ac, Ba, Bc, by go_num, by omega, by omega, hid (blk_keep HBS.out hk8 (fun h => h)), hid (blk_keep HBT.out hk8 (fun h => h)), hid (D_A.out.keep hk8 (fun _ _ _ h => h)), hid (D_B.out.keep hk8 (fun _ _ _ h => h)), HOK2, hid (HK.out.trans hk8)⟩
          case measure => simp [intOf]; omega
        · have he1 : (er == 0) = false := by simp; exact her
          have he2 : ¬ er = 0 := her
          have HOK2 := hid (HOK.out.mono (Nat.le_succ i))
          clear her
          go_upto_region 32 with fail
          have HSS : Hd (∀ X, Keeps (fun _ => False) X1 X → Calls Tryd.prog 38 #[.agg #[(.slice sa bs.length sc), (.int .i64 a), (.int .u64 (k2 : Int)), (.int .i64 i2)], .agg #[(.slice ta bs.length tc), (.int .i64 a), (.int .u64 (k2 : Int)), (.int .i64 i2)]] X fun e w' => e = .returned (.bool true) ∧ Keeps (fun _ => False) X w') := hid (fun X hx => SameSender_true bs a ⟨k2, i2⟩ sa ta sc tc _ _ X (HSB.out.keep hx (fun _ _ _ h => h)) (HTB.out.keep hx (fun _ _ _ h => h)) (fun x hx => (HOK2.out.b x hx).2) (by have := HOK2.out.n; simp only [] at this; omega))
          have o_HBS_0 : X1.cell? ⟨b_S, 0, none⟩ = some ((.slice sa bs.length sc)) := blk_cell HBS.out 0
          have o_HBS_1 : X1.cell? ⟨b_S, 1, none⟩ = some ((.int .i64 a)) := blk_cell HBS.out 1
          have o_HBS_2 : X1.cell? ⟨b_S, 2, none⟩ = some ((.int .u64 (k2 : Int))) := blk_cell HBS.out 2
          have o_HBS_3 : X1.cell? ⟨b_S, 3, none⟩ = some ((.int .i64 i2)) := blk_cell HBS.out 3
          have o_HBT_0 : X1.cell? ⟨b_T, 0, none⟩ = some ((.slice ta bs.length tc)) := blk_cell HBT.out 0
          have o_HBT_1 : X1.cell? ⟨b_T, 1, none⟩ = some ((.int .i64 a)) := blk_cell HBT.out 1
          have o_HBT_2 : X1.cell? ⟨b_T, 2, none⟩ = some ((.int .u64 (k2 : Int))) := blk_cell HBT.out 2
          have o_HBT_3 : X1.cell? ⟨b_T, 3, none⟩ = some ((.int .i64 i2)) := blk_cell HBT.out 3
          go_wp2_with fail
          refine (HSS.out _ (by repeat (first | (with_reducible exact Keeps.refl _ _) | (with_reducible apply Keeps.drewN) | (with_reducible apply Keeps.drew)))).mono ?_
          rintro e X9 ⟨rfl, hk9⟩
          clear o_HBS_0 o_HBS_1 o_HBS_2 o_HBS_3 o_HBT_0 o_HBT_1 o_HBT_2 o_HBT_3
          have hk8 : Keeps (fun _ => False) X1 X9 := Keeps.trans (S := fun _ => False) (by repeat (first | (with_reducible exact Keeps.refl _ _) | (with_reducible apply Keeps.drewN) | (with_reducible apply Keeps.drew))) hk9
          clear hk9 HSS
          go_wp2
          go_roundw
          case rel => exact ⟨i + 1, ⟨bs, a, ⟨k2, i2⟩⟩, sa, sc, ta, tc, by go_num, by omega, by omega, hid (blk_keep HBS.out hk8 (fun h => h)), hid (blk_keep HBT.out hk8 (fun h => h)), hid (HSB.out.keep hk8 (fun _ _ _ h => h)), hid (HTB.out.keep hk8 (fun _ _ _ h => h)), HOK2, hid (HK.out.trans hk8)⟩
          case measure => simp [intOf]; omega
      · obtain ⟨⟨F, ⟨bs3, a3, ⟨k3, i3⟩⟩, er⟩, hQ⟩ : ∃ y, emitM ⟨bs, a, ⟨k2, i2⟩⟩ x.n = y := ⟨_, rfl⟩
        have HQ := hid hQ
        have HQB := hid (emit_bytes HOK.out x.n)
        rw [hQ] at HQB
        clear hQ
        have HP : Hd (∀ X, Keeps (fun _ => False) V X → Calls Tryd.prog 39 #[.agg #[.slice sa bs.length sc, .int .i64 a, .int .u64 (k2 : Int), .int .i64 i2], .int .i64 x.n] X fun e w' => CallFS (fsRD (fun b => b ≠ b_S ∧ b ≠ b_T) F ⟨bs3, a3, ⟨k3, i3⟩⟩ [.int .i64 er]) (fun b => X.heap.size ≤ b) X e w') := hid (fun X hx => by have h := PEmit_all ⟨bs, a, ⟨k2, i2⟩⟩ sa sc x.n _ X (HSB.out.keep hx (fun _ _ _ h => h)) (by simp only []; omega) HOK.out.b HOK.out.l hao (by simp only []; omega) (fun b => b ≠ b_S ∧ b ≠ b_T) (fun b hb => by have := hx.size; exact ⟨by omega, by omega⟩); rw [HQ.out] at h; exact h)
        go_upto_region 17 with fail
        go_cut [15, 13, 14] from 94 to 104 (fun ue uf us wx => ∃ (a1 : Option Addr) (c1 : Nat) (a2 : Option Addr) (c2 : Nat), ue = .int .i64 er ∧ ∃ bF, uf = .pointer (some ⟨bF, 0, none⟩) ∧ ∃ bA, us = .pointer (some ⟨bA, 0, none⟩) ∧ V.heap.size ≤ bF ∧ V.heap.size ≤ bA ∧ Hd (Blk wx bF #[(.int .i64 F.q), (.int .i64 F.k), (.bool F.u), (.slice a1 F.b.length c1), (.int .u64 (F.t : Int))] 25) ∧ Hd (Blk wx bA #[(.slice a2 bs3.length c2), (.int .i64 a3), (.int .u64 (k3 : Int)), (.int .i64 i3)] 57) ∧ Hd (Sl (fun b => b ≠ b_S ∧ b ≠ b_T) wx (.slice a1 F.b.length c1) (u8s F.b)) ∧ Hd (Bds (fun b => b ≠ b_S ∧ b ≠ b_T) wx (.slice a2 bs3.length c2) bs3) ∧ Hd (Keeps (fun _ => False) V wx))
        case first =>
          refine wp_many (C := mkMC 6 [6, 7, 8, 9, 10, 13, 14, 15] [(11, 25, #[(.int .i64 0), (.int .i64 0), (.bool false), (.slice none 0 0), (.int .u64 0)]), (12, 57, #[(.slice none 0 0), (.int .i64 0), (.int .u64 0), (.int .i64 0)])] [(13, 11, 8), (14, 12, 9)] [(fun _ => .agg #[.slice sa bs.length sc, .int .i64 a, .int .u64 (k2 : Int), .int .i64 i2]), (fun _ => .slice (some ⟨vb, vo, none⟩) L vc), (fun _ => .int .i64 (i : Int)), (fun _ => .pointer (some ⟨vb, vo + i * 4, none⟩)), (fun _ => .pointer (some ⟨vb, vo + i * 4 + 1, none⟩)), (fun _ => .int .i64 x.n), (fun r => r), (fun r => r), (fun r => tupAt r 0), (fun r => tupAt r 1), (fun r => tupAt r 2), (fun _ => undef), (fun _ => undef), (fun _ => undef), (fun _ => undef), (fun r => tupAt r 2)] (fun s r => if s = 13 then aggCells (tupAt r 0) else aggCells (tupAt r 1)) (fsRD (fun b => b ≠ b_S ∧ b ≠ b_T) F ⟨bs3, a3, ⟨k3, i3⟩⟩ [.int .i64 er])) (by kernel_rfl) ?H ?HV 6 rfl ?HC ?HE
          case H =>
            refine { back := by kernel_rfl, dst := uniqB_spec (by kernel_rfl), szd := underB_spec (by kernel_rfl), val := valB_spec3 (f := mkV [(11, 25, #[(.int .i64 0), (.int .i64 0), (.bool false), (.slice none 0 0), (.int .u64 0)]), (12, 57, #[(.slice none 0 0), (.int .i64 0), (.int .u64 0), (.int .i64 0)])] [(13, 11, 8), (14, 12, 9)]) (by kernel_rfl), alo := ?_, sto := ?_, stc := ?_, all := allB3_spec (f := mkV [(11, 25, #[(.int .i64 0), (.int .i64 0), (.bool false), (.slice none 0 0), (.int .u64 0)]), (12, 57, #[(.slice none 0 0), (.int .i64 0), (.int .u64 0), (.int .i64 0)])] [(13, 11, 8), (14, 12, 9)]) (g := mkA [(11, 25, #[(.int .i64 0), (.int .i64 0), (.bool false), (.slice none 0 0), (.int .u64 0)]), (12, 57, #[(.slice none 0 0), (.int .i64 0), (.int .u64 0), (.int .i64 0)])]) (h := mkS [(13, 11, 8), (14, 12, 9)]) (by kernel_rfl), nva := ?_, nvs := ?_, one := ?_, civ := rfl, nd := ?_, cd := rfl, dd := ?_, sem := fsSem _ _ _ _ _ _ _ _ _ _ (by decide) (by decide) rfl rfl (fsRD_rk _ _ _ _) (fsRD_rm _ _ _ _) (fsRD_sh _ _ _ _) }
            · intro j o h0 ha
              have h1 : 11 = j ∨ 12 = j := by simpa [mkMC] using ha
              rcases h1 with rfl | rfl
              all_goals
                have h2 := h0
                simp only [List.getElem?_cons_succ, List.getElem?_cons_zero, Option.some.injEq] at h2
                subst h2
                exact ⟨⟨_, rfl⟩, rfl, rfl⟩
            · intro s o h0 ha
              have h1 : 13 = s ∨ 14 = s := by simpa [mkMC] using ha
              rcases h1 with rfl | rfl
              all_goals
                have h2 := h0
                simp only [List.getElem?_cons_succ, List.getElem?_cons_zero, Option.some.injEq] at h2
                subst h2
                exact ⟨_, _, _, _, rfl, rfl, rfl, rfl, rfl, rfl, rfl, waitsB_spec (by kernel_rfl), waitsB_spec (by kernel_rfl)⟩
            · intro s ha
              have h1 : 13 = s ∨ 14 = s := by simpa [mkMC] using ha
              rcases h1 with rfl | rfl
              all_goals exact ⟨rfl, rfl, rfl, rfl⟩
            · intro s ha
              have h1 : 11 = s ∨ 12 = s := by simpa [mkMC] using ha
              rcases h1 with rfl | rfl
              all_goals exact ⟨rfl, rfl, rfl⟩
            · intro s ha
              have h1 : 13 = s ∨ 14 = s := by simpa [mkMC] using ha
              rcases h1 with rfl | rfl
              all_goals exact ⟨rfl, rfl⟩
            · intro s t ha hb hst
              have h1 : 13 = s ∨ 14 = s := by simpa [mkMC] using ha
              rcases h1 with rfl | rfl
              all_goals (have h2 : 13 = t ∨ 14 = t := by simpa [mkMC] using hb)
              all_goals (rcases h2 with rfl | rfl <;> first | rfl | (simp [mkMC] at hst))
            · intro i r r' hv hD
              match i, hD with
              | 0, _ => rfl
              | 1, _ => rfl
              | 2, _ => rfl
              | 3, _ => rfl
              | 4, _ => rfl
              | 5, _ => rfl
              | 6, h => exact absurd h (by simp [mkMC])
              | 7, h => exact absurd h (by simp [mkMC])
              | 8, h => exact absurd h (by simp [mkMC])
              | 9, h => exact absurd h (by simp [mkMC])
              | 10, h => exact absurd h (by simp [mkMC])
              | 11, _ => rfl
              | 12, _ => rfl
              | 13, h => exact absurd h (by simp [mkMC])
              | 14, h => exact absurd h (by simp [mkMC])
              | 15, h => exact absurd h (by simp [mkMC])
              | n + 16, _ => rfl
            · intro i o h0 hD hne
              match i, h0, hD, hne with
              | 0, _, hD, _ => exact absurd hD (by simp [mkMC])
              | 1, _, hD, _ => exact absurd hD (by simp [mkMC])
              | 2, _, hD, _ => exact absurd hD (by simp [mkMC])
              | 3, _, hD, _ => exact absurd hD (by simp [mkMC])
              | 4, _, hD, _ => exact absurd hD (by simp [mkMC])
              | 5, _, hD, _ => exact absurd hD (by simp [mkMC])
              | 6, _, _, hne => exact absurd rfl hne
              | 7, h0, _, _ =>
                simp only [List.getElem?_cons_succ, List.getElem?_cons_zero, Option.some.injEq] at h0
                subst h0
                exact ⟨6, waitsB_spec (by kernel_rfl), rfl⟩
              | 8, h0, _, _ =>
                simp only [List.getElem?_cons_succ, List.getElem?_cons_zero, Option.some.injEq] at h0
                subst h0
                exact ⟨7, waitsB_spec (by kernel_rfl), rfl⟩
              | 9, h0, _, _ =>
                simp only [List.getElem?_cons_succ, List.getElem?_cons_zero, Option.some.injEq] at h0
                subst h0
                exact ⟨7, waitsB_spec (by kernel_rfl), rfl⟩
              | 10, h0, _, _ =>
                simp only [List.getElem?_cons_succ, List.getElem?_cons_zero, Option.some.injEq] at h0
                subst h0
                exact ⟨7, waitsB_spec (by kernel_rfl), rfl⟩
              | 11, _, hD, _ => exact absurd hD (by simp [mkMC])
              | 12, _, hD, _ => exact absurd hD (by simp [mkMC])
              | 13, h0, _, _ =>
                simp only [List.getElem?_cons_succ, List.getElem?_cons_zero, Option.some.injEq] at h0
                subst h0
                exact ⟨8, waitsB_spec (by kernel_rfl), rfl⟩
              | 14, h0, _, _ =>
                simp only [List.getElem?_cons_succ, List.getElem?_cons_zero, Option.some.injEq] at h0
                subst h0
                exact ⟨9, waitsB_spec (by kernel_rfl), rfl⟩
              | 15, h0, _, _ =>
                simp only [List.getElem?_cons_succ, List.getElem?_cons_zero, Option.some.injEq] at h0
                subst h0
                exact ⟨10, waitsB_spec (by kernel_rfl), rfl⟩
              | n + 16, h0, _, _ => simp at h0
          case HV =>
            intro iq o hv hne hi aq w' r hk hd hR
            match iq, hv, hne, hi, hR with
            | 0, _, _, hi, hR =>
              have hi1 := hi
              simp only [List.getElem?_cons_succ, List.getElem?_cons_zero, Option.some.injEq] at hi1
              subst hi1
              have e0 : aq.eval (.tmp 5) = .pointer (some ⟨b_S, 0, none⟩) := (hd.out (by kernel_rfl)).trans rfl
              have c0 := keep_cell hk (fun h => h) (blk_cell HBS.out 0)
              have c1 := keep_cell hk (fun h => h) (blk_cell HBS.out 1)
              have c2 := keep_cell hk (fun h => h) (blk_cell HBS.out 2)
              have c3 := keep_cell hk (fun h => h) (blk_cell HBS.out 3)
              exact wpOp_ranL hi rfl (v := .agg #[.slice sa bs.length sc, .int .i64 a, .int .u64 (k2 : Int), .int .i64 i2]) (w' := w') (by simp only [execOp, e0]; go_simp) ⟨rfl, Keeps.refl _ _⟩
            | 1, _, _, hi, hR =>
              have hi1 := hi
              simp only [List.getElem?_cons_succ, List.getElem?_cons_zero, Option.some.injEq] at hi1
              subst hi1
              have e0 : aq.eval (.tmp 1) = .slice (some ⟨vb, vo, none⟩) L vc := (hd.out (by kernel_rfl)).trans rfl
              exact wpOp_ranL hi rfl (v := .slice (some ⟨vb, vo, none⟩) L vc) (w' := w') (by simp only [execOp, e0]; rfl) ⟨rfl, Keeps.refl _ _⟩
            | 2, _, _, hi, hR =>
              have hi1 := hi
              simp only [List.getElem?_cons_succ, List.getElem?_cons_zero, Option.some.injEq] at hi1
              subst hi1
              have e0 : aq.eval (.tmp 7) = .int .i64 (i : Int) := (hd.out (by kernel_rfl)).trans rfl
              exact wpOp_ranL hi rfl (v := .int .i64 (i : Int)) (w' := w') (by simp only [execOp, e0]; rfl) ⟨rfl, Keeps.refl _ _⟩
            | 3, _, _, hi, hR =>
              have hi1 := hi
              simp only [List.getElem?_cons_succ, List.getElem?_cons_zero, Option.some.injEq] at hi1
              subst hi1
              have e0 : aq.eval (.tmp 96) = .slice (some ⟨vb, vo, none⟩) L vc := hd.val (j := 1) (by kernel_rfl) rfl rfl rfl
              have e1 : aq.eval (.tmp 97) = .int .i64 (i : Int) := hd.val (j := 2) (by kernel_rfl) rfl rfl rfl
              exact wpOp_ranL hi rfl (v := .pointer (some ⟨vb, vo + i * 4, none⟩)) (w' := w') (by simp only [execOp, e0, e1]; go_simp) ⟨rfl, Keeps.refl _ _⟩
            | 4, _, _, hi, hR =>
              have hi1 := hi
              simp only [List.getElem?_cons_succ, List.getElem?_cons_zero, Option.some.injEq] at hi1
              subst hi1
              have e0 : aq.eval (.tmp 98) = .pointer (some ⟨vb, vo + i * 4, none⟩) := hd.val (j := 3) (by kernel_rfl) rfl rfl rfl
              exact wpOp_ranL hi rfl (v := .pointer (some ⟨vb, vo + i * 4 + 1, none⟩)) (w' := w') (by simp only [execOp, e0]; go_simp) ⟨rfl, Keeps.refl _ _⟩
            | 5, _, _, hi, hR =>
              have hi1 := hi
              simp only [List.getElem?_cons_succ, List.getElem?_cons_zero, Option.some.injEq] at hi1
              subst hi1
              have e0 : aq.eval (.tmp 99) = .pointer (some ⟨vb, vo + i * 4 + 1, none⟩) := hd.val (j := 4) (by kernel_rfl) rfl rfl rfl
              have c0 := keep_cell (HK.out.trans hk) (fun h => h) HC1.out
              exact wpOp_ranL hi rfl (v := .int .i64 x.n) (w' := w') (by simp only [execOp, e0]; go_simp) ⟨rfl, Keeps.refl _ _⟩
            | 6, _, hne, _, _ => exact absurd rfl hne
            | 7, _, _, hi, hR =>
              have hi1 := hi
              simp only [List.getElem?_cons_succ, List.getElem?_cons_zero, Option.some.injEq] at hi1
              subst hi1
              obtain ⟨K, a1, c1, a2, c2, rfl, hsl, hbd⟩ := hR rfl
              have e0 : aq.eval (.tmp 101) = .tuple #[.agg #[(.int .i64 F.q), (.int .i64 F.k), (.bool F.u), (.slice a1 F.b.length c1), (.int .u64 (F.t : Int))], .agg #[(.slice a2 bs3.length c2), (.int .i64 a3), (.int .u64 (k3 : Int)), (.int .i64 i3)], .int .i64 er] := hd.val (j := 6) (by kernel_rfl) rfl rfl rfl
              exact wpOp_ranL hi rfl (v := .tuple #[.agg #[(.int .i64 F.q), (.int .i64 F.k), (.bool F.u), (.slice a1 F.b.length c1), (.int .u64 (F.t : Int))], .agg #[(.slice a2 bs3.length c2), (.int .i64 a3), (.int .u64 (k3 : Int)), (.int .i64 i3)], .int .i64 er]) (w' := w') (by simp only [execOp, e0]; rfl) ⟨rfl, Keeps.refl _ _⟩
            | 8, _, _, hi, hR =>
              have hi1 := hi
              simp only [List.getElem?_cons_succ, List.getElem?_cons_zero, Option.some.injEq] at hi1
              subst hi1
              obtain ⟨K, a1, c1, a2, c2, rfl, hsl, hbd⟩ := hR rfl
              have e0 : aq.eval (.tmp 94) = .tuple #[.agg #[(.int .i64 F.q), (.int .i64 F.k), (.bool F.u), (.slice a1 F.b.length c1), (.int .u64 (F.t : Int))], .agg #[(.slice a2 bs3.length c2), (.int .i64 a3), (.int .u64 (k3 : Int)), (.int .i64 i3)], .int .i64 er] := hd.val (j := 7) (by kernel_rfl) rfl rfl rfl
              exact wpOp_ranL hi rfl (v := .agg #[(.int .i64 F.q), (.int .i64 F.k), (.bool F.u), (.slice a1 F.b.length c1), (.int .u64 (F.t : Int))]) (w' := w') (by simp only [execOp, e0]; rfl) ⟨rfl, Keeps.refl _ _⟩
            | 9, _, _, hi, hR =>
              have hi1 := hi
              simp only [List.getElem?_cons_succ, List.getElem?_cons_zero, Option.some.injEq] at hi1
              subst hi1
              obtain ⟨K, a1, c1, a2, c2, rfl, hsl, hbd⟩ := hR rfl
              have e0 : aq.eval (.tmp 94) = .tuple #[.agg #[(.int .i64 F.q), (.int .i64 F.k), (.bool F.u), (.slice a1 F.b.length c1), (.int .u64 (F.t : Int))], .agg #[(.slice a2 bs3.length c2), (.int .i64 a3), (.int .u64 (k3 : Int)), (.int .i64 i3)], .int .i64 er] := hd.val (j := 7) (by kernel_rfl) rfl rfl rfl
              exact wpOp_ranL hi rfl (v := .agg #[(.slice a2 bs3.length c2), (.int .i64 a3), (.int .u64 (k3 : Int)), (.int .i64 i3)]) (w' := w') (by simp only [execOp, e0]; rfl) ⟨rfl, Keeps.refl _ _⟩
            | 10, _, _, hi, hR =>
              have hi1 := hi
              simp only [List.getElem?_cons_succ, List.getElem?_cons_zero, Option.some.injEq] at hi1
              subst hi1
              obtain ⟨K, a1, c1, a2, c2, rfl, hsl, hbd⟩ := hR rfl
              have e0 : aq.eval (.tmp 94) = .tuple #[.agg #[(.int .i64 F.q), (.int .i64 F.k), (.bool F.u), (.slice a1 F.b.length c1), (.int .u64 (F.t : Int))], .agg #[(.slice a2 bs3.length c2), (.int .i64 a3), (.int .u64 (k3 : Int)), (.int .i64 i3)], .int .i64 er] := hd.val (j := 7) (by kernel_rfl) rfl rfl rfl
              exact wpOp_ranL hi rfl (v := .int .i64 er) (w' := w') (by simp only [execOp, e0]; rfl) ⟨rfl, Keeps.refl _ _⟩
            | 11, hv, _, _, _ => cases hv
            | 12, hv, _, _, _ => cases hv
            | 13, hv, _, _, _ => cases hv
            | 14, hv, _, _, _ => cases hv
            | 15, _, _, hi, hR =>
              have hi1 := hi
              simp only [List.getElem?_cons_succ, List.getElem?_cons_zero, Option.some.injEq] at hi1
              subst hi1
              obtain ⟨K, a1, c1, a2, c2, rfl, hsl, hbd⟩ := hR rfl
              have e0 : aq.eval (.tmp 104) = .int .i64 er := hd.val (j := 10) (by kernel_rfl) rfl rfl rfl
              exact wpOp_ranL hi rfl (v := .int .i64 er) (w' := w') (by simp only [execOp, e0]; rfl) ⟨rfl, Keeps.refl _ _⟩
            | n + 16, _, _, hi, _ => simp at hi
          case HC =>
            intro o hi aq w' r hk hd
            have hi1 := hi
            simp only [List.getElem?_cons_succ, List.getElem?_cons_zero, Option.some.injEq] at hi1
            subst hi1
            have e0 : aq.eval (.tmp 95) = .agg #[.slice sa bs.length sc, .int .i64 a, .int .u64 (k2 : Int), .int .i64 i2] := hd.val (j := 0) (by kernel_rfl) rfl rfl rfl
            have e1 : aq.eval (.tmp 100) = .int .i64 x.n := hd.val (j := 5) (by kernel_rfl) rfl rfl rfl
            exact wpOp_callL hi rfl (f := 39) (args := #[.agg #[.slice sa bs.length sc, .int .i64 a, .int .u64 (k2 : Int), .int .i64 i2], .int .i64 x.n]) (by simp only [execOp_call_go, List.map_toArray, List.map_cons, List.map_nil, e0, e1]; rfl) ((HP.out _ hk).mono (fun e w2 ⟨r, he, hR, hk2⟩ => ⟨_, he, _, rfl, hk2, fsRD_rm _ _ _ _ _ _ _ _ hR (fun b hb h => by omega)⟩))
          case HE =>
            intro L aq w' gg r hL hT
            have em := act_mix (bs := [true, true, true, true, true, true, true, true, true, true, true, true, true, false, false, false, true, true, true, true, true, true, true, true, true, true, true, true, true, true, true, true, true, true, true, true, true, true, true, true, true, true, true, true, true, true, true, true, true, true, true, true, true, true, true, true, true, true, true, true, true, true, true, true, true, true, true, true, true, true, true, true, true, true, true, true, true, true, true, true, true, true, true, true, true, true, true, true, true, true, true, true, true, true, false, false, false, false, false, false, false, false, false, false, false, true, true, true, true, true, true, true, true, true, true, true, true, true, true, true, true, true, true, true, true, true, true, true, true, true, true, true, true, true, true, true, true, true, true, true, true, true, true, true, true, true, true, true, true, true, true, true, true, true, true, true, true, true, true, true, true, true, true, true, true, true, true, true, true, true, true, true, true, true, true, true, true, true, true, true, true, true, true, true, true]) hT.sz hT.df hT.fr rfl (by kernel_rfl)
            have hR := hT.c (hL 6 (by decide))
            obtain ⟨a1, c1, a2, c2, rfl, hsl, hbd⟩ := hR
            have kW := hT.kp
            obtain ⟨eA11, zA11, cs11, -, bA11, sA11⟩ := hT.al 11 rfl (hL 11 (by decide)) _ 13 rfl rfl
            have sA11 := sA11 13 rfl (hL 13 (by decide)) rfl
            subst sA11
            change aq.tmps.getD 13 undef = _ at eA11
            generalize gg 11 = g11 at *
            obtain ⟨eA12, zA12, cs12, -, bA12, sA12⟩ := hT.al 12 rfl (hL 12 (by decide)) _ 14 rfl rfl
            have sA12 := sA12 14 rfl (hL 14 (by decide)) rfl
            subst sA12
            change aq.tmps.getD 14 undef = _ at eA12
            generalize gg 12 = g12 at *
            have k15 : aq.tmps.getD 15 undef = .int .i64 er := hT.v 15 _ 15 rfl (hL 15 (by decide)) rfl rfl
            clear hT hL
            simp only [mix, eA11, eA12, k15] at em
            clear eA11 eA12 k15
            generalize aq.tmps.getD 95 undef = q95 at em
            generalize aq.tmps.getD 96 undef = q96 at em
            generalize aq.tmps.getD 97 undef = q97 at em
            generalize aq.tmps.getD 98 undef = q98 at em
            generalize aq.tmps.getD 99 undef = q99 at em
            generalize aq.tmps.getD 100 undef = q100 at em
            generalize aq.tmps.getD 101 undef = q101 at em
            generalize aq.tmps.getD 94 undef = q94 at em
            generalize aq.tmps.getD 102 undef = q102 at em
            generalize aq.tmps.getD 103 undef = q103 at em
            generalize aq.tmps.getD 104 undef = q104 at em
            subst em
            simp only [Exit.then]
            go_wp2_with fail
            go_meet
            exact ⟨a1, c1, a2, c2, rfl, g11, rfl, g12, rfl, zA11, zA12, hid bA11, hid bA12, hid (hsl.mono (fun b _ h => h.2)), hid (hbd.mono (fun b _ h => h.2)), hid kW⟩
        case rest =>
        obtain ⟨Af, Ag, Aa, Ac, rfl, b_FA, rfl, b_A, rfl, hb_FA, hb_A, B_FA, B_A, E_A, D_A, hk⟩ := hcut
        replace hk := hk.out
        generalize wc = W21 at *
        have HBS' : Hd (Blk W21 b_S #[(.slice sa bs.length sc), (.int .i64 a), (.int .u64 (k2 : Int)), (.int .i64 i2)] 57) := hid (blk_keep HBS.out hk (fun h => h))
        have HBT' : Hd (Blk W21 b_T #[(.slice ta bs.length tc), (.int .i64 a), (.int .u64 (k2 : Int)), (.int .i64 i2)] 57) := hid (blk_keep HBT.out hk (fun h => h))
        have HSB' : Hd (Bds (fun b => b ≠ b_S ∧ b ≠ b_T) W21 (.slice sa bs.length sc) bs) := hid (HSB.out.keep hk (fun _ _ _ h => h))
        have HTB' : Hd (Bds (fun b => b ≠ b_S ∧ b ≠ b_T) W21 (.slice ta bs.length tc) bs) := hid (HTB.out.keep hk (fun _ _ _ h => h))
        clear HBS HBT HSB HTB
        have HBS := HBS'
        clear HBS'
        have HBT := HBT'
        clear HBT'
        have HSB := HSB'
        clear HSB'
        have HTB := HTB'
        clear HTB'
        have HK' : Hd (Keeps (fun _ => False) w W21) := hid (HK.out.trans hk)
        clear HK
        have HK := HK'
        clear HK'
        have z_W21 := hk.size
        clear hk
        have lt_A := blk_lt B_A.out
        have lt_FA := blk_lt B_FA.out
        clear HP
        have HR : Hd (∀ X, Keeps (fun _ => False) W21 X → Calls Tryd.prog 40 #[.agg #[.slice ta bs.length tc, .int .i64 a, .int .u64 (k2 : Int), .int .i64 i2], .int .i64 x.n] X fun e w' => CallFS (fsRD (fun b => b ≠ b_S ∧ b ≠ b_T) F ⟨bs3, a3, ⟨k3, i3⟩⟩ [.int .i64 er]) (fun b => b < W21.heap.size ∨ X.heap.size ≤ b) X e w') := hid (fun X hx => by have h := REmit_all ⟨bs, a, ⟨k2, i2⟩⟩ ta tc x.n (fun b => b ≠ b_S ∧ b ≠ b_T) W21.heap.size X ((HTB.out.mono (fun b hb h => ⟨h, hb⟩)).keep hx (fun _ _ _ h => h)) (by simp only []; omega) HOK.out.b HOK.out.l hao; rw [HQ.out] at h; exact h)
        go_upto_region 18 with fail
        go_cut [18, 16, 17] from 105 to 115 (fun ue uf us wx => ∃ (a1 : Option Addr) (c1 : Nat) (a2 : Option Addr) (c2 : Nat), ue = .int .i64 er ∧ ∃ bF, uf = .pointer (some ⟨bF, 0, none⟩) ∧ ∃ bA, us = .pointer (some ⟨bA, 0, none⟩) ∧ W21.heap.size ≤ bF ∧ W21.heap.size ≤ bA ∧ Hd (Blk wx bF #[(.int .i64 F.q), (.int .i64 F.k), (.bool F.u), (.slice a1 F.b.length c1), (.int .u64 (F.t : Int))] 25) ∧ Hd (Blk wx bA #[(.slice a2 bs3.length c2), (.int .i64 a3), (.int .u64 (k3 : Int)), (.int .i64 i3)] 57) ∧ Hd (Sl (fun b => b ≠ b_S ∧ b ≠ b_T) wx (.slice a1 F.b.length c1) (u8s F.b)) ∧ Hd (Bds (fun b => b ≠ b_S ∧ b ≠ b_T) wx (.slice a2 bs3.length c2) bs3) ∧ Hd (Keeps (fun _ => False) W21 wx))
        case first =>
          refine wp_many (C := mkMC 6 [6, 7, 8, 9, 10, 13, 14, 15] [(11, 25, #[(.int .i64 0), (.int .i64 0), (.bool false), (.slice none 0 0), (.int .u64 0)]), (12, 57, #[(.slice none 0 0), (.int .i64 0), (.int .u64 0), (.int .i64 0)])] [(13, 11, 8), (14, 12, 9)] [(fun _ => .agg #[.slice ta bs.length tc, .int .i64 a, .int .u64 (k2 : Int), .int .i64 i2]), (fun _ => .slice (some ⟨vb, vo, none⟩) L vc), (fun _ => .int .i64 (i : Int)), (fun _ => .pointer (some ⟨vb, vo + i * 4, none⟩)), (fun _ => .pointer (some ⟨vb, vo + i * 4 + 1, none⟩)), (fun _ => .int .i64 x.n), (fun r => r), (fun r => r), (fun r => tupAt r 0), (fun r => tupAt r 1), (fun r => tupAt r 2), (fun _ => undef), (fun _ => undef), (fun _ => undef), (fun _ => undef), (fun r => tupAt r 2)] (fun s r => if s = 13 then aggCells (tupAt r 0) else aggCells (tupAt r 1)) (fsRD (fun b => b ≠ b_S ∧ b ≠ b_T) F ⟨bs3, a3, ⟨k3, i3⟩⟩ [.int .i64 er])) (by kernel_rfl) ?H ?HV 6 rfl ?HC ?HE
          case H =>
            refine { back := by kernel_rfl, dst := uniqB_spec (by kernel_rfl), szd := underB_spec (by kernel_rfl), val := valB_spec3 (f := mkV [(11, 25, #[(.int .i64 0), (.int .i64 0), (.bool false), (.slice none 0 0), (.int .u64 0)]), (12, 57, #[(.slice none 0 0), (.int .i64 0), (.int .u64 0), (.int .i64 0)])] [(13, 11, 8), (14, 12, 9)]) (by kernel_rfl), alo := ?_, sto := ?_, stc := ?_, all := allB3_spec (f := mkV [(11, 25, #[(.int .i64 0), (.int .i64 0), (.bool false), (.slice none 0 0), (.int .u64 0)]), (12, 57, #[(.slice none 0 0), (.int .i64 0), (.int .u64 0), (.int .i64 0)])] [(13, 11, 8), (14, 12, 9)]) (g := mkA [(11, 25, #[(.int .i64 0), (.int .i64 0), (.bool false), (.slice none 0 0), (.int .u64 0)]), (12, 57, #[(.slice none 0 0), (.int .i64 0), (.int .u64 0), (.int .i64 0)])]) (h := mkS [(13, 11, 8), (14, 12, 9)]) (by kernel_rfl), nva := ?_, nvs := ?_, one := ?_, civ := rfl, nd := ?_, cd := rfl, dd := ?_, sem := fsSem _ _ _ _ _ _ _ _ _ _ (by decide) (by decide) rfl rfl (fsRD_rk _ _ _ _) (fsRD_rm _ _ _ _) (fsRD_sh _ _ _ _) }
            · intro j o h0 ha
              have h1 : 11 = j ∨ 12 = j := by simpa [mkMC] using ha
              rcases h1 with rfl | rfl
              all_goals
                have h2 := h0
                simp only [List.getElem?_cons_succ, List.getElem?_cons_zero, Option.some.injEq] at h2
                subst h2
                exact ⟨⟨_, rfl⟩, rfl, rfl⟩
            · intro s o h0 ha
              have h1 : 13 = s ∨ 14 = s := by simpa [mkMC] using ha
              rcases h1 with rfl | rfl
              all_goals
                have h2 := h0
                simp only [List.getElem?_cons_succ, List.getElem?_cons_zero, Option.some.injEq] at h2
                subst h2
                exact ⟨_, _, _, _, rfl, rfl, rfl, rfl, rfl, rfl, rfl, waitsB_spec (by kernel_rfl), waitsB_spec (by kernel_rfl)⟩
            · intro s ha
              have h1 : 13 = s ∨ 14 = s := by simpa [mkMC] using ha
              rcases h1 with rfl | rfl
              all_goals exact ⟨rfl, rfl, rfl, rfl⟩
            · intro s ha
              have h1 : 11 = s ∨ 12 = s := by simpa [mkMC] using ha
              rcases h1 with rfl | rfl
              all_goals exact ⟨rfl, rfl, rfl⟩
            · intro s ha
              have h1 : 13 = s ∨ 14 = s := by simpa [mkMC] using ha
              rcases h1 with rfl | rfl
              all_goals exact ⟨rfl, rfl⟩
            · intro s t ha hb hst
              have h1 : 13 = s ∨ 14 = s := by simpa [mkMC] using ha
              rcases h1 with rfl | rfl
              all_goals (have h2 : 13 = t ∨ 14 = t := by simpa [mkMC] using hb)
              all_goals (rcases h2 with rfl | rfl <;> first | rfl | (simp [mkMC] at hst))
            · intro i r r' hv hD
              match i, hD with
              | 0, _ => rfl
              | 1, _ => rfl
              | 2, _ => rfl
              | 3, _ => rfl
              | 4, _ => rfl
              | 5, _ => rfl
              | 6, h => exact absurd h (by simp [mkMC])
              | 7, h => exact absurd h (by simp [mkMC])
              | 8, h => exact absurd h (by simp [mkMC])
              | 9, h => exact absurd h (by simp [mkMC])
              | 10, h => exact absurd h (by simp [mkMC])
              | 11, _ => rfl
              | 12, _ => rfl
              | 13, h => exact absurd h (by simp [mkMC])
              | 14, h => exact absurd h (by simp [mkMC])
              | 15, h => exact absurd h (by simp [mkMC])
              | n + 16, _ => rfl
            · intro i o h0 hD hne
              match i, h0, hD, hne with
              | 0, _, hD, _ => exact absurd hD (by simp [mkMC])
              | 1, _, hD, _ => exact absurd hD (by simp [mkMC])
              | 2, _, hD, _ => exact absurd hD (by simp [mkMC])
              | 3, _, hD, _ => exact absurd hD (by simp [mkMC])
              | 4, _, hD, _ => exact absurd hD (by simp [mkMC])
              | 5, _, hD, _ => exact absurd hD (by simp [mkMC])
              | 6, _, _, hne => exact absurd rfl hne
              | 7, h0, _, _ =>
                simp only [List.getElem?_cons_succ, List.getElem?_cons_zero, Option.some.injEq] at h0
                subst h0
                exact ⟨6, waitsB_spec (by kernel_rfl), rfl⟩
              | 8, h0, _, _ =>
                simp only [List.getElem?_cons_succ, List.getElem?_cons_zero, Option.some.injEq] at h0
                subst h0
                exact ⟨7, waitsB_spec (by kernel_rfl), rfl⟩
              | 9, h0, _, _ =>
                simp only [List.getElem?_cons_succ, List.getElem?_cons_zero, Option.some.injEq] at h0
                subst h0
                exact ⟨7, waitsB_spec (by kernel_rfl), rfl⟩
              | 10, h0, _, _ =>
                simp only [List.getElem?_cons_succ, List.getElem?_cons_zero, Option.some.injEq] at h0
                subst h0
                exact ⟨7, waitsB_spec (by kernel_rfl), rfl⟩
              | 11, _, hD, _ => exact absurd hD (by simp [mkMC])
              | 12, _, hD, _ => exact absurd hD (by simp [mkMC])
              | 13, h0, _, _ =>
                simp only [List.getElem?_cons_succ, List.getElem?_cons_zero, Option.some.injEq] at h0
                subst h0
                exact ⟨8, waitsB_spec (by kernel_rfl), rfl⟩
              | 14, h0, _, _ =>
                simp only [List.getElem?_cons_succ, List.getElem?_cons_zero, Option.some.injEq] at h0
                subst h0
                exact ⟨9, waitsB_spec (by kernel_rfl), rfl⟩
              | 15, h0, _, _ =>
                simp only [List.getElem?_cons_succ, List.getElem?_cons_zero, Option.some.injEq] at h0
                subst h0
                exact ⟨10, waitsB_spec (by kernel_rfl), rfl⟩
              | n + 16, h0, _, _ => simp at h0
          case HV =>
            intro iq o hv hne hi aq w' r hk hd hR
            match iq, hv, hne, hi, hR with
            | 0, _, _, hi, hR =>
              have hi1 := hi
              simp only [List.getElem?_cons_succ, List.getElem?_cons_zero, Option.some.injEq] at hi1
              subst hi1
              have e0 : aq.eval (.tmp 6) = .pointer (some ⟨b_T, 0, none⟩) := (hd.out (by kernel_rfl)).trans rfl
              have c0 := keep_cell hk (fun h => h) (blk_cell HBT.out 0)
              have c1 := keep_cell hk (fun h => h) (blk_cell HBT.out 1)
              have c2 := keep_cell hk (fun h => h) (blk_cell HBT.out 2)
              have c3 := keep_cell hk (fun h => h) (blk_cell HBT.out 3)
              exact wpOp_ranL hi rfl (v := .agg #[.slice ta bs.length tc, .int .i64 a, .int .u64 (k2 : Int), .int .i64 i2]) (w' := w') (by simp only [execOp, e0]; go_simp) ⟨rfl, Keeps.refl _ _⟩
            | 1, _, _, hi, hR =>
              have hi1 := hi
              simp only [List.getElem?_cons_succ, List.getElem?_cons_zero, Option.some.injEq] at hi1
              subst hi1
              have e0 : aq.eval (.tmp 1) = .slice (some ⟨vb, vo, none⟩) L vc := (hd.out (by kernel_rfl)).trans rfl
              exact wpOp_ranL hi rfl (v := .slice (some ⟨vb, vo, none⟩) L vc) (w' := w') (by simp only [execOp, e0]; rfl) ⟨rfl, Keeps.refl _ _⟩
            | 2, _, _, hi, hR =>
              have hi1 := hi
              simp only [List.getElem?_cons_succ, List.getElem?_cons_zero, Option.some.injEq] at hi1
              subst hi1
              have e0 : aq.eval (.tmp 7) = .int .i64 (i : Int) := (hd.out (by kernel_rfl)).trans rfl
              exact wpOp_ranL hi rfl (v := .int .i64 (i : Int)) (w' := w') (by simp only [execOp, e0]; rfl) ⟨rfl, Keeps.refl _ _⟩
            | 3, _, _, hi, hR =>
              have hi1 := hi
              simp only [List.getElem?_cons_succ, List.getElem?_cons_zero, Option.some.injEq] at hi1
              subst hi1
              have e0 : aq.eval (.tmp 107) = .slice (some ⟨vb, vo, none⟩) L vc := hd.val (j := 1) (by kernel_rfl) rfl rfl rfl
              have e1 : aq.eval (.tmp 108) = .int .i64 (i : Int) := hd.val (j := 2) (by kernel_rfl) rfl rfl rfl
              exact wpOp_ranL hi rfl (v := .pointer (some ⟨vb, vo + i * 4, none⟩)) (w' := w') (by simp only [execOp, e0, e1]; go_simp) ⟨rfl, Keeps.refl _ _⟩
            | 4, _, _, hi, hR =>
              have hi1 := hi
              simp only [List.getElem?_cons_succ, List.getElem?_cons_zero, Option.some.injEq] at hi1
              subst hi1
              have e0 : aq.eval (.tmp 109) = .pointer (some ⟨vb, vo + i * 4, none⟩) := hd.val (j := 3) (by kernel_rfl) rfl rfl rfl
              exact wpOp_ranL hi rfl (v := .pointer (some ⟨vb, vo + i * 4 + 1, none⟩)) (w' := w') (by simp only [execOp, e0]; go_simp) ⟨rfl, Keeps.refl _ _⟩
            | 5, _, _, hi, hR =>
              have hi1 := hi
              simp only [List.getElem?_cons_succ, List.getElem?_cons_zero, Option.some.injEq] at hi1
              subst hi1
              have e0 : aq.eval (.tmp 110) = .pointer (some ⟨vb, vo + i * 4 + 1, none⟩) := hd.val (j := 4) (by kernel_rfl) rfl rfl rfl
              have c0 := keep_cell (HK.out.trans hk) (fun h => h) HC1.out
              exact wpOp_ranL hi rfl (v := .int .i64 x.n) (w' := w') (by simp only [execOp, e0]; go_simp) ⟨rfl, Keeps.refl _ _⟩
            | 6, _, hne, _, _ => exact absurd rfl hne
            | 7, _, _, hi, hR =>
              have hi1 := hi
              simp only [List.getElem?_cons_succ, List.getElem?_cons_zero, Option.some.injEq] at hi1
              subst hi1
              obtain ⟨K, a1, c1, a2, c2, rfl, hsl, hbd⟩ := hR rfl
              have e0 : aq.eval (.tmp 112) = .tuple #[.agg #[(.int .i64 F.q), (.int .i64 F.k), (.bool F.u), (.slice a1 F.b.length c1), (.int .u64 (F.t : Int))], .agg #[(.slice a2 bs3.length c2), (.int .i64 a3), (.int .u64 (k3 : Int)), (.int .i64 i3)], .int .i64 er] := hd.val (j := 6) (by kernel_rfl) rfl rfl rfl
              exact wpOp_ranL hi rfl (v := .tuple #[.agg #[(.int .i64 F.q), (.int .i64 F.k), (.bool F.u), (.slice a1 F.b.length c1), (.int .u64 (F.t : Int))], .agg #[(.slice a2 bs3.length c2), (.int .i64 a3), (.int .u64 (k3 : Int)), (.int .i64 i3)], .int .i64 er]) (w' := w') (by simp only [execOp, e0]; rfl) ⟨rfl, Keeps.refl _ _⟩
            | 8, _, _, hi, hR =>
              have hi1 := hi
              simp only [List.getElem?_cons_succ, List.getElem?_cons_zero, Option.some.injEq] at hi1
              subst hi1
              obtain ⟨K, a1, c1, a2, c2, rfl, hsl, hbd⟩ := hR rfl
              have e0 : aq.eval (.tmp 105) = .tuple #[.agg #[(.int .i64 F.q), (.int .i64 F.k), (.bool F.u), (.slice a1 F.b.length c1), (.int .u64 (F.t : Int))], .agg #[(.slice a2 bs3.length c2), (.int .i64 a3), (.int .u64 (k3 : Int)), (.int .i64 i3)], .int .i64 er] := hd.val (j := 7) (by kernel_rfl) rfl rfl rfl
              exact wpOp_ranL hi rfl (v := .agg #[(.int .i64 F.q), (.int .i64 F.k), (.bool F.u), (.slice a1 F.b.length c1), (.int .u64 (F.t : Int))]) (w' := w') (by simp only [execOp, e0]; rfl) ⟨rfl, Keeps.refl _ _⟩
            | 9, _, _, hi, hR =>
              have hi1 := hi
              simp only [List.getElem?_cons_succ, List.getElem?_cons_zero, Option.some.injEq] at hi1
              subst hi1
              obtain ⟨K, a1, c1, a2, c2, rfl, hsl, hbd⟩ := hR rfl
              have e0 : aq.eval (.tmp 105) = .tuple #[.agg #[(.int .i64 F.q), (.int .i64 F.k), (.bool F.u), (.slice a1 F.b.length c1), (.int .u64 (F.t : Int))], .agg #[(.slice a2 bs3.length c2), (.int .i64 a3), (.int .u64 (k3 : Int)), (.int .i64 i3)], .int .i64 er] := hd.val (j := 7) (by kernel_rfl) rfl rfl rfl
              exact wpOp_ranL hi rfl (v := .agg #[(.slice a2 bs3.length c2), (.int .i64 a3), (.int .u64 (k3 : Int)), (.int .i64 i3)]) (w' := w') (by simp only [execOp, e0]; rfl) ⟨rfl, Keeps.refl _ _⟩
            | 10, _, _, hi, hR =>
              have hi1 := hi
              simp only [List.getElem?_cons_succ, List.getElem?_cons_zero, Option.some.injEq] at hi1
              subst hi1
              obtain ⟨K, a1, c1, a2, c2, rfl, hsl, hbd⟩ := hR rfl
              have e0 : aq.eval (.tmp 105) = .tuple #[.agg #[(.int .i64 F.q), (.int .i64 F.k), (.bool F.u), (.slice a1 F.b.length c1), (.int .u64 (F.t : Int))], .agg #[(.slice a2 bs3.length c2), (.int .i64 a3), (.int .u64 (k3 : Int)), (.int .i64 i3)], .int .i64 er] := hd.val (j := 7) (by kernel_rfl) rfl rfl rfl
              exact wpOp_ranL hi rfl (v := .int .i64 er) (w' := w') (by simp only [execOp, e0]; rfl) ⟨rfl, Keeps.refl _ _⟩
            | 11, hv, _, _, _ => cases hv
            | 12, hv, _, _, _ => cases hv
            | 13, hv, _, _, _ => cases hv
            | 14, hv, _, _, _ => cases hv
            | 15, _, _, hi, hR =>
              have hi1 := hi
              simp only [List.getElem?_cons_succ, List.getElem?_cons_zero, Option.some.injEq] at hi1
              subst hi1
              obtain ⟨K, a1, c1, a2, c2, rfl, hsl, hbd⟩ := hR rfl
              have e0 : aq.eval (.tmp 115) = .int .i64 er := hd.val (j := 10) (by kernel_rfl) rfl rfl rfl
              exact wpOp_ranL hi rfl (v := .int .i64 er) (w' := w') (by simp only [execOp, e0]; rfl) ⟨rfl, Keeps.refl _ _⟩
            | n + 16, _, _, hi, _ => simp at hi
          case HC =>
            intro o hi aq w' r hk hd
            have hi1 := hi
            simp only [List.getElem?_cons_succ, List.getElem?_cons_zero, Option.some.injEq] at hi1
            subst hi1
            have e0 : aq.eval (.tmp 106) = .agg #[.slice ta bs.length tc, .int .i64 a, .int .u64 (k2 : Int), .int .i64 i2] := hd.val (j := 0) (by kernel_rfl) rfl rfl rfl
            have e1 : aq.eval (.tmp 111) = .int .i64 x.n := hd.val (j := 5) (by kernel_rfl) rfl rfl rfl
            exact wpOp_callL hi rfl (f := 40) (args := #[.agg #[.slice ta bs.length tc, .int .i64 a, .int .u64 (k2 : Int), .int .i64 i2], .int .i64 x.n]) (by simp only [execOp_call_go, List.map_toArray, List.map_cons, List.map_nil, e0, e1]; rfl) ((HR.out _ hk).mono (fun e w2 ⟨r, he, hR, hk2⟩ => ⟨_, he, _, rfl, hk2, fsRD_rm _ _ _ _ _ _ _ _ hR (fun b hb h => by omega)⟩))
          case HE =>
            intro L aq w' gg r hL hT
            have em := act_mix (bs := [true, true, true, true, true, true, true, true, true, true, true, true, true, true, true, true, false, false, false, true, true, true, true, true, true, true, true, true, true, true, true, true, true, true, true, true, true, true, true, true, true, true, true, true, true, true, true, true, true, true, true, true, true, true, true, true, true, true, true, true, true, true, true, true, true, true, true, true, true, true, true, true, true, true, true, true, true, true, true, true, true, true, true, true, true, true, true, true, true, true, true, true, true, true, true, true, true, true, true, true, true, true, true, true, true, false, false, false, false, false, false, false, false, false, false, false, true, true, true, true, true, true, true, true, true, true, true, true, true, true, true, true, true, true, true, true, true, true, true, true, true, true, true, true, true, true, true, true, true, true, true, true, true, true, true, true, true, true, true, true, true, true, true, true, true, true, true, true, true, true, true, true, true, true, true, true, true, true, true, true, true, true, true, true, true]) hT.sz hT.df hT.fr rfl (by kernel_rfl)
            have hR := hT.c (hL 6 (by decide))
            obtain ⟨a1, c1, a2, c2, rfl, hsl, hbd⟩ := hR
            have kW := hT.kp
            obtain ⟨eA11, zA11, cs11, -, bA11, sA11⟩ := hT.al 11 rfl (hL 11 (by decide)) _ 16 rfl rfl
            have sA11 := sA11 13 rfl (hL 13 (by decide)) rfl
            subst sA11
            change aq.tmps.getD 16 undef = _ at eA11
            generalize gg 11 = g11 at *
            obtain ⟨eA12, zA12, cs12, -, bA12, sA12⟩ := hT.al 12 rfl (hL 12 (by decide)) _ 17 rfl rfl
            have sA12 := sA12 14 rfl (hL 14 (by decide)) rfl
            subst sA12
            change aq.tmps.getD 17 undef = _ at eA12
            generalize gg 12 = g12 at *
            have k18 : aq.tmps.getD 18 undef = .int .i64 er := hT.v 15 _ 18 rfl (hL 15 (by decide)) rfl rfl
            clear hT hL
            simp only [mix, eA11, eA12, k18] at em
            clear eA11 eA12 k18
            generalize aq.tmps.getD 106 undef = q106 at em
            generalize aq.tmps.getD 107 undef = q107 at em
            generalize aq.tmps.getD 108 undef = q108 at em
            generalize aq.tmps.getD 109 undef = q109 at em
            generalize aq.tmps.getD 110 undef = q110 at em
            generalize aq.tmps.getD 111 undef = q111 at em
            generalize aq.tmps.getD 112 undef = q112 at em
            generalize aq.tmps.getD 105 undef = q105 at em
            generalize aq.tmps.getD 113 undef = q113 at em
            generalize aq.tmps.getD 114 undef = q114 at em
            generalize aq.tmps.getD 115 undef = q115 at em
            subst em
            simp only [Exit.then]
            go_wp2_with fail
            go_meet
            exact ⟨a1, c1, a2, c2, rfl, g11, rfl, g12, rfl, zA11, zA12, hid bA11, hid bA12, hid (hsl.mono (fun b _ h => h.2)), hid (hbd.mono (fun b _ h => h.2)), hid kW⟩
        case rest =>
        obtain ⟨Bf, Bg, Ba, Bc, rfl, b_FB, rfl, b_B, rfl, hb_FB, hb_B, B_FB, B_B, E_B, D_B, hk⟩ := hcut
        replace hk := hk.out
        generalize wc = W22 at *
        have HBS' : Hd (Blk W22 b_S #[(.slice sa bs.length sc), (.int .i64 a), (.int .u64 (k2 : Int)), (.int .i64 i2)] 57) := hid (blk_keep HBS.out hk (fun h => h))
        have HBT' : Hd (Blk W22 b_T #[(.slice ta bs.length tc), (.int .i64 a), (.int .u64 (k2 : Int)), (.int .i64 i2)] 57) := hid (blk_keep HBT.out hk (fun h => h))
        have HSB' : Hd (Bds (fun b => b ≠ b_S ∧ b ≠ b_T) W22 (.slice sa bs.length sc) bs) := hid (HSB.out.keep hk (fun _ _ _ h => h))
        have HTB' : Hd (Bds (fun b => b ≠ b_S ∧ b ≠ b_T) W22 (.slice ta bs.length tc) bs) := hid (HTB.out.keep hk (fun _ _ _ h => h))
        have B_FA' : Hd (Blk W22 b_FA #[(.int .i64 F.q), (.int .i64 F.k), (.bool F.u), (.slice Af F.b.length Ag), (.int .u64 (F.t : Int))] 25) := hid (blk_keep B_FA.out hk (fun h => h))
        have B_A' : Hd (Blk W22 b_A #[(.slice Aa bs3.length Ac), (.int .i64 a3), (.int .u64 (k3 : Int)), (.int .i64 i3)] 57) := hid (blk_keep B_A.out hk (fun h => h))
        have D_A' : Hd (Bds (fun b => b ≠ b_S ∧ b ≠ b_T) W22 (.slice Aa bs3.length Ac) bs3) := hid (D_A.out.keep hk (fun _ _ _ h => h))
        have E_A' : Hd (Sl (fun b => b ≠ b_S ∧ b ≠ b_T) W22 (.slice Af F.b.length Ag) (u8s F.b)) := hid (E_A.out.keep hk (fun _ _ _ h => h))
        clear HBS HBT HSB HTB B_FA B_A D_A E_A
        have HBS := HBS'
        clear HBS'
        have HBT := HBT'
        clear HBT'
        have HSB := HSB'
        clear HSB'
        have HTB := HTB'
        clear HTB'
        have B_FA := B_FA'
        clear B_FA'
        have B_A := B_A'
        clear B_A'
        have D_A := D_A'
        clear D_A'
        have E_A := E_A'
        clear E_A'
        have HK' : Hd (Keeps (fun _ => False) w W22) := hid (HK.out.trans hk)
        clear HK
        have HK := HK'
        clear HK'
        have z_W22 := hk.size
        clear hk
        have lt_B := blk_lt B_B.out
        have lt_FB := blk_lt B_FB.out
        clear HR
        have hee : (er == er) = true := by simp
        have HSS : Hd (∀ X, Keeps (fun _ => False) W22 X → Calls Tryd.prog 38 #[.agg #[(.slice Aa bs3.length Ac), (.int .i64 a3), (.int .u64 (k3 : Int)), (.int .i64 i3)], .agg #[(.slice Ba bs3.length Bc), (.int .i64 a3), (.int .u64 (k3 : Int)), (.int .i64 i3)]] X fun e w' => e = .returned (.bool true) ∧ Keeps (fun _ => False) X w') := hid (fun X hx => SameSender_true bs3 a3 ⟨k3, i3⟩ Aa Ba Ac Bc _ _ X (D_A.out.keep hx (fun _ _ _ h => h)) (D_B.out.keep hx (fun _ _ _ h => h)) HQB.out.2.1 (by have := HQB.out.2.2; omega))
        have HSF : Hd (∀ X, Keeps (fun _ => False) W22 X → Calls Tryd.prog 41 #[.agg #[(.int .i64 F.q), (.int .i64 F.k), (.bool F.u), (.slice Af F.b.length Ag), (.int .u64 (F.t : Int))], .agg #[(.int .i64 F.q), (.int .i64 F.k), (.bool F.u), (.slice Bf F.b.length Bg), (.int .u64 (F.t : Int))]] X fun e w' => e = .returned (.bool true) ∧ Keeps (fun _ => False) X w') := hid (fun X hx => SameFrame_true F Af Bf Ag Bg _ _ X (E_A.out.keep hx (fun _ _ _ h => h)) (E_B.out.keep hx (fun _ _ _ h => h)) HQB.out.1)
        have o_B_FA_0 : W22.cell? ⟨b_FA, 0, none⟩ = some ((.int .i64 F.q)) := blk_cell B_FA.out 0
        have o_B_FA_1 : W22.cell? ⟨b_FA, 1, none⟩ = some ((.int .i64 F.k)) := blk_cell B_FA.out 1
        have o_B_FA_2 : W22.cell? ⟨b_FA, 2, none⟩ = some ((.bool F.u)) := blk_cell B_FA.out 2
        have o_B_FA_3 : W22.cell? ⟨b_FA, 3, none⟩ = some ((.slice Af F.b.length Ag)) := blk_cell B_FA.out 3
        have o_B_FA_4 : W22.cell? ⟨b_FA, 4, none⟩ = some ((.int .u64 (F.t : Int))) := blk_cell B_FA.out 4
        have o_B_FB_0 : W22.cell? ⟨b_FB, 0, none⟩ = some ((.int .i64 F.q)) := blk_cell B_FB.out 0
        have o_B_FB_1 : W22.cell? ⟨b_FB, 1, none⟩ = some ((.int .i64 F.k)) := blk_cell B_FB.out 1
        have o_B_FB_2 : W22.cell? ⟨b_FB, 2, none⟩ = some ((.bool F.u)) := blk_cell B_FB.out 2
        have o_B_FB_3 : W22.cell? ⟨b_FB, 3, none⟩ = some ((.slice Bf F.b.length Bg)) := blk_cell B_FB.out 3
        have o_B_FB_4 : W22.cell? ⟨b_FB, 4, none⟩ = some ((.int .u64 (F.t : Int))) := blk_cell B_FB.out 4
        go_wp2_with fail
        refine (HSF.out _ (by repeat (first | (with_reducible exact Keeps.refl _ _) | (with_reducible apply Keeps.drewN) | (with_reducible apply Keeps.drew)))).mono ?_
        rintro e X1 ⟨rfl, hk1⟩
        clear o_B_FA_0 o_B_FA_1 o_B_FA_2 o_B_FA_3 o_B_FA_4 o_B_FB_0 o_B_FB_1 o_B_FB_2 o_B_FB_3 o_B_FB_4
        have hk : Keeps (fun _ => False) W22 X1 := Keeps.trans (S := fun _ => False) (by repeat (first | (with_reducible exact Keeps.refl _ _) | (with_reducible apply Keeps.drewN) | (with_reducible apply Keeps.drew))) hk1
        clear hk1 HSF
        have HKX := hid hk
        have HBS' : Hd (Blk X1 b_S #[(.slice sa bs.length sc), (.int .i64 a), (.int .u64 (k2 : Int)), (.int .i64 i2)] 57) := hid (blk_keep HBS.out hk (fun h => h))
        have HBT' : Hd (Blk X1 b_T #[(.slice ta bs.length tc), (.int .i64 a), (.int .u64 (k2 : Int)), (.int .i64 i2)] 57) := hid (blk_keep HBT.out hk (fun h => h))
        have HSB' : Hd (Bds (fun b => b ≠ b_S ∧ b ≠ b_T) X1 (.slice sa bs.length sc) bs) := hid (HSB.out.keep hk (fun _ _ _ h => h))
        have HTB' : Hd (Bds (fun b => b ≠ b_S ∧ b ≠ b_T) X1 (.slice ta bs.length tc) bs) := hid (HTB.out.keep hk (fun _ _ _ h => h))
        have B_FA' : Hd (Blk X1 b_FA #[(.int .i64 F.q), (.int .i64 F.k), (.bool F.u), (.slice Af F.b.length Ag), (.int .u64 (F.t : Int))] 25) := hid (blk_keep B_FA.out hk (fun h => h))
        have B_A' : Hd (Blk X1 b_A #[(.slice Aa bs3.length Ac), (.int .i64 a3), (.int .u64 (k3 : Int)), (.int .i64 i3)] 57) := hid (blk_keep B_A.out hk (fun h => h))
        have D_A' : Hd (Bds (fun b => b ≠ b_S ∧ b ≠ b_T) X1 (.slice Aa bs3.length Ac) bs3) := hid (D_A.out.keep hk (fun _ _ _ h => h))
        have E_A' : Hd (Sl (fun b => b ≠ b_S ∧ b ≠ b_T) X1 (.slice Af F.b.length Ag) (u8s F.b)) := hid (E_A.out.keep hk (fun _ _ _ h => h))
        have B_FB' : Hd (Blk X1 b_FB #[(.int .i64 F.q), (.int .i64 F.k), (.bool F.u), (.slice Bf F.b.length Bg), (.int .u64 (F.t : Int))] 25) := hid (blk_keep B_FB.out hk (fun h => h))
        have B_B' : Hd (Blk X1 b_B #[(.slice Ba bs3.length Bc), (.int .i64 a3), (.int .u64 (k3 : Int)), (.int .i64 i3)] 57) := hid (blk_keep B_B.out hk (fun h => h))
        have D_B' : Hd (Bds (fun b => b ≠ b_S ∧ b ≠ b_T) X1 (.slice Ba bs3.length Bc) bs3) := hid (D_B.out.keep hk (fun _ _ _ h => h))
        have E_B' : Hd (Sl (fun b => b ≠ b_S ∧ b ≠ b_T) X1 (.slice Bf F.b.length Bg) (u8s F.b)) := hid (E_B.out.keep hk (fun _ _ _ h => h))
        clear HBS HBT HSB HTB B_FA B_A D_A E_A B_FB B_B D_B E_B
        have HBS := HBS'
        clear HBS'
        have HBT := HBT'
        clear HBT'
        have HSB := HSB'
        clear HSB'
        have HTB := HTB'
        clear HTB'
        have B_FA := B_FA'
        clear B_FA'
        have B_A := B_A'
        clear B_A'
        have D_A := D_A'
        clear D_A'
        have E_A := E_A'
        clear E_A'
        have B_FB := B_FB'
        clear B_FB'
        have B_B := B_B'
        clear B_B'
        have D_B := D_B'
        clear D_B'
        have E_B := E_B'
        clear E_B'
        have HK' : Hd (Keeps (fun _ => False) w X1) := hid (HK.out.trans hk)
        clear HK
        have HK := HK'
        clear HK'
        have z_X1 := hk.size
        clear hk
        have o_B_A_0 : X1.cell? ⟨b_A, 0, none⟩ = some ((.slice Aa bs3.length Ac)) := blk_cell B_A.out 0
        have o_B_A_1 : X1.cell? ⟨b_A, 1, none⟩ = some ((.int .i64 a3)) := blk_cell B_A.out 1
        have o_B_A_2 : X1.cell? ⟨b_A, 2, none⟩ = some ((.int .u64 (k3 : Int))) := blk_cell B_A.out 2
        have o_B_A_3 : X1.cell? ⟨b_A, 3, none⟩ = some ((.int .i64 i3)) := blk_cell B_A.out 3
        have o_B_B_0 : X1.cell? ⟨b_B, 0, none⟩ = some ((.slice Ba bs3.length Bc)) := blk_cell B_B.out 0
        have o_B_B_1 : X1.cell? ⟨b_B, 1, none⟩ = some ((.int .i64 a3)) := blk_cell B_B.out 1
        have o_B_B_2 : X1.cell? ⟨b_B, 2, none⟩ = some ((.int .u64 (k3 : Int))) := blk_cell B_B.out 2
        have o_B_B_3 : X1.cell? ⟨b_B, 3, none⟩ = some ((.int .i64 i3)) := blk_cell B_B.out 3
        go_wp2_with fail
        refine (HSS.out _ (Keeps.trans (S := fun _ => False) HKX.out (by repeat (first | (with_reducible exact Keeps.refl _ _) | (with_reducible apply Keeps.drewN) | (with_reducible apply Keeps.drew))))).mono ?_
        rintro e X2 ⟨rfl, hk1⟩
        clear o_B_A_0 o_B_A_1 o_B_A_2 o_B_A_3 o_B_B_0 o_B_B_1 o_B_B_2 o_B_B_3
        have hk : Keeps (fun _ => False) X1 X2 := Keeps.trans (S := fun _ => False) (by repeat (first | (with_reducible exact Keeps.refl _ _) | (with_reducible apply Keeps.drewN) | (with_reducible apply Keeps.drew))) hk1
        clear hk1 HSS HKX
        have HBS' : Hd (Blk X2 b_S #[(.slice sa bs.length sc), (.int .i64 a), (.int .u64 (k2 : Int)), (.int .i64 i2)] 57) := hid (blk_keep HBS.out hk (fun h => h))
        have HBT' : Hd (Blk X2 b_T #[(.slice ta bs.length tc), (.int .i64 a), (.int .u64 (k2 : Int)), (.int .i64 i2)] 57) := hid (blk_keep HBT.out hk (fun h => h))
        have HSB' : Hd (Bds (fun b => b ≠ b_S ∧ b ≠ b_T) X2 (.slice sa bs.length sc) bs) := hid (HSB.out.keep hk (fun _ _ _ h => h))
        have HTB' : Hd (Bds (fun b => b ≠ b_S ∧ b ≠ b_T) X2 (.slice ta bs.length tc) bs) := hid (HTB.out.keep hk (fun _ _ _ h => h))
        have B_FA' : Hd (Blk X2 b_FA #[(.int .i64 F.q), (.int .i64 F.k), (.bool F.u), (.slice Af F.b.length Ag), (.int .u64 (F.t : Int))] 25) := hid (blk_keep B_FA.out hk (fun h => h))
        have B_A' : Hd (Blk X2 b_A #[(.slice Aa bs3.length Ac), (.int .i64 a3), (.int .u64 (k3 : Int)), (.int .i64 i3)] 57) := hid (blk_keep B_A.out hk (fun h => h))
        have D_A' : Hd (Bds (fun b => b ≠ b_S ∧ b ≠ b_T) X2 (.slice Aa bs3.length Ac) bs3) := hid (D_A.out.keep hk (fun _ _ _ h => h))
        have E_A' : Hd (Sl (fun b => b ≠ b_S ∧ b ≠ b_T) X2 (.slice Af F.b.length Ag) (u8s F.b)) := hid (E_A.out.keep hk (fun _ _ _ h => h))
        have B_FB' : Hd (Blk X2 b_FB #[(.int .i64 F.q), (.int .i64 F.k), (.bool F.u), (.slice Bf F.b.length Bg), (.int .u64 (F.t : Int))] 25) := hid (blk_keep B_FB.out hk (fun h => h))
        have B_B' : Hd (Blk X2 b_B #[(.slice Ba bs3.length Bc), (.int .i64 a3), (.int .u64 (k3 : Int)), (.int .i64 i3)] 57) := hid (blk_keep B_B.out hk (fun h => h))
        have D_B' : Hd (Bds (fun b => b ≠ b_S ∧ b ≠ b_T) X2 (.slice Ba bs3.length Bc) bs3) := hid (D_B.out.keep hk (fun _ _ _ h => h))
        have E_B' : Hd (Sl (fun b => b ≠ b_S ∧ b ≠ b_T) X2 (.slice Bf F.b.length Bg) (u8s F.b)) := hid (E_B.out.keep hk (fun _ _ _ h => h))
        clear HBS HBT HSB HTB B_FA B_A D_A E_A B_FB B_B D_B E_B
        have HBS := HBS'
        clear HBS'
        have HBT := HBT'
        clear HBT'
        have HSB := HSB'
        clear HSB'
        have HTB := HTB'
        clear HTB'
        have B_FA := B_FA'
        clear B_FA'
        have B_A := B_A'
        clear B_A'
        have D_A := D_A'
        clear D_A'
        have E_A := E_A'
        clear E_A'
        have B_FB := B_FB'
        clear B_FB'
        have B_B := B_B'
        clear B_B'
        have D_B := D_B'
        clear D_B'
        have E_B := E_B'
        clear E_B'
        have HK' : Hd (Keeps (fun _ => False) w X2) := hid (HK.out.trans hk)
        clear HK
        have HK := HK'
        clear HK'
        have z_X2 := hk.size
        clear hk
        by_cases her : er = 0
        · subst her
          have HOK2 : Hd (SOk ⟨bs3, a3, ⟨k3, i3⟩⟩ (i + 1)) := hid (by have h := HOK.out.emit (by omega) (q := x.n) (by rw [HQ.out]); rw [HQ.out] at h; exact h)
          have o_B_A_0 : X2.cell? ⟨b_A, 0, none⟩ = some ((.slice Aa bs3.length Ac)) := blk_cell B_A.out 0
          have o_B_A_1 : X2.cell? ⟨b_A, 1, none⟩ = some ((.int .i64 a3)) := blk_cell B_A.out 1
          have o_B_A_2 : X2.cell? ⟨b_A, 2, none⟩ = some ((.int .u64 (k3 : Int))) := blk_cell B_A.out 2
          have o_B_A_3 : X2.cell? ⟨b_A, 3, none⟩ = some ((.int .i64 i3)) := blk_cell B_A.out 3
          have o_B_B_0 : X2.cell? ⟨b_B, 0, none⟩ = some ((.slice Ba bs3.length Bc)) := blk_cell B_B.out 0
          have o_B_B_1 : X2.cell? ⟨b_B, 1, none⟩ = some ((.int .i64 a3)) := blk_cell B_B.out 1
          have o_B_B_2 : X2.cell? ⟨b_B, 2, none⟩ = some ((.int .u64 (k3 : Int))) := blk_cell B_B.out 2
          have o_B_B_3 : X2.cell? ⟨b_B, 3, none⟩ = some ((.int .i64 i3)) := blk_cell B_B.out 3
          have o_HBS_0 : X2.cell? ⟨b_S, 0, none⟩ = some ((.slice sa bs.length sc)) := blk_cell HBS.out 0
          have o_HBS_1 : X2.cell? ⟨b_S, 1, none⟩ = some ((.int .i64 a)) := blk_cell HBS.out 1
          have o_HBS_2 : X2.cell? ⟨b_S, 2, none⟩ = some ((.int .u64 (k2 : Int))) := blk_cell HBS.out 2
          have o_HBS_3 : X2.cell? ⟨b_S, 3, none⟩ = some ((.int .i64 i2)) := blk_cell HBS.out 3
          have o_HBT_0 : X2.cell? ⟨b_T, 0, none⟩ = some ((.slice ta bs.length tc)) := blk_cell HBT.out 0
          have o_HBT_1 : X2.cell? ⟨b_T, 1, none⟩ = some ((.int .i64 a)) := blk_cell HBT.out 1
          have o_HBT_2 : X2.cell? ⟨b_T, 2, none⟩ = some ((.int .u64 (k2 : Int))) := blk_cell HBT.out 2
          have o_HBT_3 : X2.cell? ⟨b_T, 3, none⟩ = some ((.int .i64 i2)) := blk_cell HBT.out 3
          have f_HBS_0 : X2.frozen? ⟨b_S, 0, none⟩ = false := blk_free HBS.out 0
          have f_HBS_1 : X2.frozen? ⟨b_S, 1, none⟩ = false := blk_free HBS.out 1
          have f_HBS_2 : X2.frozen? ⟨b_S, 2, none⟩ = false := blk_free HBS.out 2
          have f_HBS_3 : X2.frozen? ⟨b_S, 3, none⟩ = false := blk_free HBS.out 3
          have f_HBT_0 : X2.frozen? ⟨b_T, 0, none⟩ = false := blk_free HBT.out 0
          have f_HBT_1 : X2.frozen? ⟨b_T, 1, none⟩ = false := blk_free HBT.out 1
          have f_HBT_2 : X2.frozen? ⟨b_T, 2, none⟩ = false := blk_free HBT.out 2
          have f_HBT_3 : X2.frozen? ⟨b_T, 3, none⟩ = false := blk_free HBT.out 3
          go_upto_region 32 with fail
          clear o_B_A_0 o_B_A_1 o_B_A_2 o_B_A_3 o_B_B_0 o_B_B_1 o_B_B_2 o_B_B_3 o_HBS_0 o_HBS_1 o_HBS_2 o_HBS_3 o_HBT_0 o_HBT_1 o_HBT_2 o_HBT_3 f_HBS_0 f_HBS_1 f_HBS_2 f_HBS_3 f_HBT_0 f_HBT_1 f_HBT_2 f_HBT_3
          clear HSB HTB
          generalize hW : World.setCell (World.setCell (World.setCell (World.setCell (World.setCell (World.setCell (World.setCell (World.setCell X2 _ _) _ _) _ _) _ _) _ _) _ _) _ _) _ _ = W23
          have KS : Hd (Keeps (fun b => b = b_S ∨ b = b_T) X2 W23) := hid (by rw [← hW]; exact (Keeps.setCell (S := fun b => b = b_S ∨ b = b_T) (p := ⟨b_T, 3, none⟩) (Keeps.setCell (S := fun b => b = b_S ∨ b = b_T) (p := ⟨b_T, 2, none⟩) (Keeps.setCell (S := fun b => b = b_S ∨ b = b_T) (p := ⟨b_T, 1, none⟩) (Keeps.setCell (S := fun b => b = b_S ∨ b = b_T) (p := ⟨b_T, 0, none⟩) (Keeps.setCell (S := fun b => b = b_S ∨ b = b_T) (p := ⟨b_S, 3, none⟩) (Keeps.setCell (S := fun b => b = b_S ∨ b = b_T) (p := ⟨b_S, 2, none⟩) (Keeps.setCell (S := fun b => b = b_S ∨ b = b_T) (p := ⟨b_S, 1, none⟩) (Keeps.setCell (S := fun b => b = b_S ∨ b = b_T) (p := ⟨b_S, 0, none⟩) (Keeps.refl (fun b => b = b_S ∨ b = b_T) X2) (.inl (.inl rfl)) _) (.inl (.inl rfl)) _) (.inl (.inl rfl)) _) (.inl (.inl rfl)) _) (.inl (.inr rfl)) _) (.inl (.inr rfl)) _) (.inl (.inr rfl)) _) (.inl (.inr rfl)) _))
          have HBS' : Hd (Blk W23 b_S #[(.slice Aa bs3.length Ac), (.int .i64 a3), (.int .u64 (k3 : Int)), (.int .i64 i3)] 57) := hid (by rw [← hW]; exact (blk_other (blk_other (blk_other (blk_other (blk_set (blk_set (blk_set (blk_set HBS.out 0 _) 1 _) 2 _) 3 _) (by omega) _ _) (by omega) _ _) (by omega) _ _) (by omega) _ _))
          have HBT' : Hd (Blk W23 b_T #[(.slice Ba bs3.length Bc), (.int .i64 a3), (.int .u64 (k3 : Int)), (.int .i64 i3)] 57) := hid (by rw [← hW]; exact (blk_set (blk_set (blk_set (blk_set (blk_other (blk_other (blk_other (blk_other HBT.out (by omega) _ _) (by omega) _ _) (by omega) _ _) (by omega) _ _) 0 _) 1 _) 2 _) 3 _))
          have B_FA' : Hd (Blk W23 b_FA #[(.int .i64 F.q), (.int .i64 F.k), (.bool F.u), (.slice Af F.b.length Ag), (.int .u64 (F.t : Int))] 25) := hid (by rw [← hW]; exact (blk_other (blk_other (blk_other (blk_other (blk_other (blk_other (blk_other (blk_other B_FA.out (by omega) _ _) (by omega) _ _) (by omega) _ _) (by omega) _ _) (by omega) _ _) (by omega) _ _) (by omega) _ _) (by omega) _ _))
          have B_A' : Hd (Blk W23 b_A #[(.slice Aa bs3.length Ac), (.int .i64 a3), (.int .u64 (k3 : Int)), (.int .i64 i3)] 57) := hid (by rw [← hW]; exact (blk_other (blk_other (blk_other (blk_other (blk_other (blk_other (blk_other (blk_other B_A.out (by omega) _ _) (by omega) _ _) (by omega) _ _) (by omega) _ _) (by omega) _ _) (by omega) _ _) (by omega) _ _) (by omega) _ _))
          have D_A' : Hd (Bds (fun b => b ≠ b_S ∧ b ≠ b_T) W23 (.slice Aa bs3.length Ac) bs3) := hid (D_A.out.keep KS.out (fun b _ h1 h2 => by first | exact h1.1 h2 | exact h1.2 h2 | exact h2.elim h1.1 h1.2))
          have E_A' : Hd (Sl (fun b => b ≠ b_S ∧ b ≠ b_T) W23 (.slice Af F.b.length Ag) (u8s F.b)) := hid (E_A.out.keep KS.out (fun b _ h1 h2 => by first | exact h1.1 h2 | exact h1.2 h2 | exact h2.elim h1.1 h1.2))
          have B_FB' : Hd (Blk W23 b_FB #[(.int .i64 F.q), (.int .i64 F.k), (.bool F.u), (.slice Bf F.b.length Bg), (.int .u64 (F.t : Int))] 25) := hid (by rw [← hW]; exact (blk_other (blk_other (blk_other (blk_other (blk_other (blk_other (blk_other (blk_other B_FB.out (by omega) _ _) (by omega) _ _) (by omega) _ _) (by omega) _ _) (by omega) _ _) (by omega) _ _) (by omega) _ _) (by omega) _ _))
          have B_B' : Hd (Blk W23 b_B #[(.slice Ba bs3.length Bc), (.int .i64 a3), (.int .u64 (k3 : Int)), (.int .i64 i3)] 57) := hid (by rw [← hW]; exact (blk_other (blk_other (blk_other (blk_other (blk_other (blk_other (blk_other (blk_other B_B.out (by omega) _ _) (by omega) _ _) (by omega) _ _) (by omega) _ _) (by omega) _ _) (by omega) _ _) (by omega) _ _) (by omega) _ _))
          have D_B' : Hd (Bds (fun b => b ≠ b_S ∧ b ≠ b_T) W23 (.slice Ba bs3.length Bc) bs3) := hid (D_B.out.keep KS.out (fun b _ h1 h2 => by first | exact h1.1 h2 | exact h1.2 h2 | exact h2.elim h1.1 h1.2))
          have E_B' : Hd (Sl (fun b => b ≠ b_S ∧ b ≠ b_T) W23 (.slice Bf F.b.length Bg) (u8s F.b)) := hid (E_B.out.keep KS.out (fun b _ h1 h2 => by first | exact h1.1 h2 | exact h1.2 h2 | exact h2.elim h1.1 h1.2))
          clear HBS HBT B_FA B_A D_A E_A B_FB B_B D_B E_B
          have HBS := HBS'
          clear HBS'
          have HBT := HBT'
          clear HBT'
          have B_FA := B_FA'
          clear B_FA'
          have B_A := B_A'
          clear B_A'
          have D_A := D_A'
          clear D_A'
          have E_A := E_A'
          clear E_A'
          have B_FB := B_FB'
          clear B_FB'
          have B_B := B_B'
          clear B_B'
          have D_B := D_B'
          clear D_B'
          have E_B := E_B'
          clear E_B'
          have HK' : Hd (Keeps (fun _ => False) w W23) := hid (HK.out.trans' KS.out (fun i hi h => by omega))
          clear HK
          have HK := HK'
          clear HK'
          have z_W23 : X2.heap.size + 0 ≤ W23.heap.size := by rw [← hW]; simp
          clear hW KS
          have HSS : Hd (∀ X, Keeps (fun _ => False) W23 X → Calls Tryd.prog 38 #[.agg #[(.slice Aa bs3.length Ac), (.int .i64 a3), (.int .u64 (k3 : Int)), (.int .i64 i3)], .agg #[(.slice Ba bs3.length Bc), (.int .i64 a3), (.int .u64 (k3 : Int)), (.int .i64 i3)]] X fun e w' => e = .returned (.bool true) ∧ Keeps (fun _ => False) X w') := hid (fun X hx => SameSender_true bs3 a3 ⟨k3, i3⟩ Aa Ba Ac Bc _ _ X (D_A.out.keep hx (fun _ _ _ h => h)) (D_B.out.keep hx (fun _ _ _ h => h)) (fun x hx => (HOK2.out.b x hx).2) (by have := HOK2.out.n; simp only [] at this; omega))
          have o_HBS_0 : W23.cell? ⟨b_S, 0, none⟩ = some ((.slice Aa bs3.length Ac)) := blk_cell HBS.out 0
          have o_HBS_1 : W23.cell? ⟨b_S, 1, none⟩ = some ((.int .i64 a3)) := blk_cell HBS.out 1
          have o_HBS_2 : W23.cell? ⟨b_S, 2, none⟩ = some ((.int .u64 (k3 : Int))) := blk_cell HBS.out 2
          have o_HBS_3 : W23.cell? ⟨b_S, 3, none⟩ = some ((.int .i64 i3)) := blk_cell HBS.out 3
          have o_HBT_0 : W23.cell? ⟨b_T, 0, none⟩ = some ((.slice Ba bs3.length Bc)) := blk_cell HBT.out 0
          have o_HBT_1 : W23.cell? ⟨b_T, 1, none⟩ = some ((.int .i64 a3)) := blk_cell HBT.out 1
          have o_HBT_2 : W23.cell? ⟨b_T, 2, none⟩ = some ((.int .u64 (k3 : Int))) := blk_cell HBT.out 2
          have o_HBT_3 : W23.cell? ⟨b_T, 3, none⟩ = some ((.int .i64 i3)) := blk_cell HBT.out 3
          go_wp2_with fail
          refine (HSS.out _ (by repeat (first | (with_reducible exact Keeps.refl _ _) | (with_reducible apply Keeps.drewN) | (with_reducible apply Keeps.drew)))).mono ?_
          rintro e X9 ⟨rfl, hk9⟩
          clear o_HBS_0 o_HBS_1 o_HBS_2 o_HBS_3 o_HBT_0 o_HBT_1 o_HBT_2 o_HBT_3
          have hk8 : Keeps (fun _ => False) W23 X9 := Keeps.trans (S := fun _ => False) (by repeat (first | (with_reducible exact Keeps.refl _ _) | (with_reducible apply Keeps.drewN) | (with_reducible apply Keeps.drew))) hk9
          clear hk9 HSS
          go_wp2
          go_roundw
          case rel => exact ⟨i + 1, ⟨bs3, a3, ⟨k3, i3⟩⟩, Aa, Ac, Ba, Bc, by go_num, by omega, by omega, hid (blk_keep HBS.out hk8 (fun h => h)), hid (blk_keep HBT.out hk8 (fun h => h)), hid (D_A.out.keep hk8 (fun _ _ _ h => h)), hid (D_B.out.keep hk8 (fun _ _ _ h => h)), HOK2, hid (HK.out.trans hk8)⟩
          case measure => simp [intOf]; omega
        · have he1 : (er == 0) = false := by simp; exact her
          have he2 : ¬ er = 0 := her
          have HOK2 := hid (HOK.out.mono (Nat.le_succ i))
          clear her
          go_upto_region 32 with fail
          have HSS : Hd (∀ X, Keeps (fun _ => False) X2 X → Calls Tryd.prog 38 #[.agg #[(.slice sa bs.length sc), (.int .i64 a), (.int .u64 (k2 : Int)), (.int .i64 i2)], .agg #[(.slice ta bs.length tc), (.int .i64 a), (.int .u64 (k2 : Int)), (.int .i64 i2)]] X fun e w' => e = .returned (.bool true) ∧ Keeps (fun _ => False) X w') := hid (fun X hx => SameSender_true bs a ⟨k2, i2⟩ sa ta sc tc _ _ X (HSB.out.keep hx (fun _ _ _ h => h)) (HTB.out.keep hx (fun _ _ _ h => h)) (fun x hx => (HOK2.out.b x hx).2) (by have := HOK2.out.n; simp only [] at this; omega))
          have o_HBS_0 : X2.cell? ⟨b_S, 0, none⟩ = some ((.slice sa bs.length sc)) := blk_cell HBS.out 0
          have o_HBS_1 : X2.cell? ⟨b_S, 1, none⟩ = some ((.int .i64 a)) := blk_cell HBS.out 1
          have o_HBS_2 : X2.cell? ⟨b_S, 2, none⟩ = some ((.int .u64 (k2 : Int))) := blk_cell HBS.out 2
          have o_HBS_3 : X2.cell? ⟨b_S, 3, none⟩ = some ((.int .i64 i2)) := blk_cell HBS.out 3
          have o_HBT_0 : X2.cell? ⟨b_T, 0, none⟩ = some ((.slice ta bs.length tc)) := blk_cell HBT.out 0
          have o_HBT_1 : X2.cell? ⟨b_T, 1, none⟩ = some ((.int .i64 a)) := blk_cell HBT.out 1
          have o_HBT_2 : X2.cell? ⟨b_T, 2, none⟩ = some ((.int .u64 (k2 : Int))) := blk_cell HBT.out 2
          have o_HBT_3 : X2.cell? ⟨b_T, 3, none⟩ = some ((.int .i64 i2)) := blk_cell HBT.out 3
          go_wp2_with fail
          refine (HSS.out _ (by repeat (first | (with_reducible exact Keeps.refl _ _) | (with_reducible apply Keeps.drewN) | (with_reducible apply Keeps.drew)))).mono ?_
          rintro e X9 ⟨rfl, hk9⟩
          clear o_HBS_0 o_HBS_1 o_HBS_2 o_HBS_3 o_HBT_0 o_HBT_1 o_HBT_2 o_HBT_3
          have hk8 : Keeps (fun _ => False) X2 X9 := Keeps.trans (S := fun _ => False) (by repeat (first | (with_reducible exact Keeps.refl _ _) | (with_reducible apply Keeps.drewN) | (with_reducible apply Keeps.drew))) hk9
          clear hk9 HSS
          go_wp2
          go_roundw
          case rel => exact ⟨i + 1, ⟨bs, a, ⟨k2, i2⟩⟩, sa, sc, ta, tc, by go_num, by omega, by omega, hid (blk_keep HBS.out hk8 (fun h => h)), hid (blk_keep HBT.out hk8 (fun h => h)), hid (HSB.out.keep hk8 (fun _ _ _ h => h)), hid (HTB.out.keep hk8 (fun _ _ _ h => h)), HOK2, hid (HK.out.trans hk8)⟩
          case measure => simp [intOf]; omega
      · obtain ⟨⟨F, ⟨bs3, a3, ⟨k3, i3⟩⟩⟩, hQ⟩ : ∃ y, unlockM ⟨bs, a, ⟨k2, i2⟩⟩ x.n = y := ⟨_, rfl⟩
        have HQ := hid hQ
        have HFB : Hd (∀ c ∈ F.b, c < 256) := hid (by have h : F.b = [] := (congrArg (fun y : Fr × Sd => y.1.b) hQ).symm; rw [h]; exact fun c hc => (by cases hc))
        have HOK2 : Hd (SOk ⟨bs3, a3, ⟨k3, i3⟩⟩ (i + 1)) := hid (by have h := HOK.out.next (by omega); rw [← show (unlockM ⟨bs, a, ⟨k2, i2⟩⟩ x.n).2 = ⟨bs3, a3, ⟨k3, i3⟩⟩ by rw [hQ]]; exact h)
        clear hQ
        have HP : Hd (∀ X, Keeps (fun _ => False) V X → Calls Tryd.prog 42 #[.agg #[.slice sa bs.length sc, .int .i64 a, .int .u64 (k2 : Int), .int .i64 i2], .int .i64 x.n] X fun e w' => CallFS (fsRD (fun b => b ≠ b_S ∧ b ≠ b_T) F ⟨bs3, a3, ⟨k3, i3⟩⟩ []) (fun b => X.heap.size ≤ b) X e w') := hid (fun X hx => by have h := PUnlock_all ⟨bs, a, ⟨k2, i2⟩⟩ sa sc x.n _ X (HSB.out.keep hx (fun _ _ _ h => h)) (by simp only []; omega) (fun x hx => (HOK.out.b x hx).1) HOK.out.l HXO.out.n.1 HXO.out.n.2 (fun b => b ≠ b_S ∧ b ≠ b_T) (fun b hb => by have := hx.size; exact ⟨by omega, by omega⟩); rw [HQ.out] at h; exact h)
        go_upto_region 24 with fail
        go_cut [19, 20] from 135 to 144 (fun uf us wx => ∃ (a1 : Option Addr) (c1 : Nat) (a2 : Option Addr) (c2 : Nat), ∃ bF, uf = .pointer (some ⟨bF, 0, none⟩) ∧ ∃ bA, us = .pointer (some ⟨bA, 0, none⟩) ∧ V.heap.size ≤ bF ∧ V.heap.size ≤ bA ∧ Hd (Blk wx bF #[(.int .i64 F.q), (.int .i64 F.k), (.bool F.u), (.slice a1 F.b.length c1), (.int .u64 (F.t : Int))] 25) ∧ Hd (Blk wx bA #[(.slice a2 bs3.length c2), (.int .i64 a3), (.int .u64 (k3 : Int)), (.int .i64 i3)] 57) ∧ Hd (Sl (fun b => b ≠ b_S ∧ b ≠ b_T) wx (.slice a1 F.b.length c1) (u8s F.b)) ∧ Hd (Bds (fun b => b ≠ b_S ∧ b ≠ b_T) wx (.slice a2 bs3.length c2) bs3) ∧ Hd (Keeps (fun _ => False) V wx))
        case first =>
          refine wp_many (C := mkMC 6 [6, 7, 8, 9, 12, 13] [(10, 25, #[(.int .i64 0), (.int .i64 0), (.bool false), (.slice none 0 0), (.int .u64 0)]), (11, 57, #[(.slice none 0 0), (.int .i64 0), (.int .u64 0), (.int .i64 0)])] [(12, 10, 8), (13, 11, 9)] [(fun _ => .agg #[.slice sa bs.length sc, .int .i64 a, .int .u64 (k2 : Int), .int .i64 i2]), (fun _ => .slice (some ⟨vb, vo, none⟩) L vc), (fun _ => .int .i64 (i : Int)), (fun _ => .pointer (some ⟨vb, vo + i * 4, none⟩)), (fun _ => .pointer (some ⟨vb, vo + i * 4 + 1, none⟩)), (fun _ => .int .i64 x.n), (fun r => r), (fun r => r), (fun r => tupAt r 0), (fun r => tupAt r 1), (fun _ => undef), (fun _ => undef), (fun _ => undef), (fun _ => undef)] (fun s r => if s = 12 then aggCells (tupAt r 0) else aggCells (tupAt r 1)) (fsRD (fun b => b ≠ b_S ∧ b ≠ b_T) F ⟨bs3, a3, ⟨k3, i3⟩⟩ [])) (by kernel_rfl) ?H ?HV 6 rfl ?HC ?HE
          case H =>
            refine { back := by kernel_rfl, dst := uniqB_spec (by kernel_rfl), szd := underB_spec (by kernel_rfl), val := valB_spec3 (f := mkV [(10, 25, #[(.int .i64 0), (.int .i64 0), (.bool false), (.slice none 0 0), (.int .u64 0)]), (11, 57, #[(.slice none 0 0), (.int .i64 0), (.int .u64 0), (.int .i64 0)])] [(12, 10, 8), (13, 11, 9)]) (by kernel_rfl), alo := ?_, sto := ?_, stc := ?_, all := allB3_spec (f := mkV [(10, 25, #[(.int .i64 0), (.int .i64 0), (.bool false), (.slice none 0 0), (.int .u64 0)]), (11, 57, #[(.slice none 0 0), (.int .i64 0), (.int .u64 0), (.int .i64 0)])] [(12, 10, 8), (13, 11, 9)]) (g := mkA [(10, 25, #[(.int .i64 0), (.int .i64 0), (.bool false), (.slice none 0 0), (.int .u64 0)]), (11, 57, #[(.slice none 0 0), (.int .i64 0), (.int .u64 0), (.int .i64 0)])]) (h := mkS [(12, 10, 8), (13, 11, 9)]) (by kernel_rfl), nva := ?_, nvs := ?_, one := ?_, civ := rfl, nd := ?_, cd := rfl, dd := ?_, sem := fsSem _ _ _ _ _ _ _ _ _ _ (by decide) (by decide) rfl rfl (fsRD_rk _ _ _ _) (fsRD_rm _ _ _ _) (fsRD_sh _ _ _ _) }
            · intro j o h0 ha
              have h1 : 10 = j ∨ 11 = j := by simpa [mkMC] using ha
              rcases h1 with rfl | rfl
              all_goals
                have h2 := h0
                simp only [List.getElem?_cons_succ, List.getElem?_cons_zero, Option.some.injEq] at h2
                subst h2
                exact ⟨⟨_, rfl⟩, rfl, rfl⟩
            · intro s o h0 ha
              have h1 : 12 = s ∨ 13 = s := by simpa [mkMC] using ha
              rcases h1 with rfl | rfl
              all_goals
                have h2 := h0
                simp only [List.getElem?_cons_succ, List.getElem?_cons_zero, Option.some.injEq] at h2
                subst h2
                exact ⟨_, _, _, _, rfl, rfl, rfl, rfl, rfl, rfl, rfl, waitsB_spec (by kernel_rfl), waitsB_spec (by kernel_rfl)⟩
            · intro s ha
              have h1 : 12 = s ∨ 13 = s := by simpa [mkMC] using ha
              rcases h1 with rfl | rfl
              all_goals exact ⟨rfl, rfl, rfl, rfl⟩
            · intro s ha
              have h1 : 10 = s ∨ 11 = s := by simpa [mkMC] using ha
              rcases h1 with rfl | rfl
              all_goals exact ⟨rfl, rfl, rfl⟩
            · intro s ha
              have h1 : 12 = s ∨ 13 = s := by simpa [mkMC] using ha
              rcases h1 with rfl | rfl
              all_goals exact ⟨rfl, rfl⟩
            · intro s t ha hb hst
              have h1 : 12 = s ∨ 13 = s := by simpa [mkMC] using ha
              rcases h1 with rfl | rfl
              all_goals (have h2 : 12 = t ∨ 13 = t := by simpa [mkMC] using hb)
              all_goals (rcases h2 with rfl | rfl <;> first | rfl | (simp [mkMC] at hst))
            · intro i r r' hv hD
              match i, hD with
              | 0, _ => rfl
              | 1, _ => rfl
              | 2, _ => rfl
              | 3, _ => rfl
              | 4, _ => rfl
              | 5, _ => rfl
              | 6, h => exact absurd h (by simp [mkMC])
              | 7, h => exact absurd h (by simp [mkMC])
              | 8, h => exact absurd h (by simp [mkMC])
              | 9, h => exact absurd h (by simp [mkMC])
              | 10, _ => rfl
              | 11, _ => rfl
              | 12, h => exact absurd h (by simp [mkMC])
              | 13, h => exact absurd h (by simp [mkMC])
              | n + 14, _ => rfl
            · intro i o h0 hD hne
              match i, h0, hD, hne with
              | 0, _, hD, _ => exact absurd hD (by simp [mkMC])
              | 1, _, hD, _ => exact absurd hD (by simp [mkMC])
              | 2, _, hD, _ => exact absurd hD (by simp [mkMC])
              | 3, _, hD, _ => exact absurd hD (by simp [mkMC])
              | 4, _, hD, _ => exact absurd hD (by simp [mkMC])
              | 5, _, hD, _ => exact absurd hD (by simp [mkMC])
              | 6, _, _, hne => exact absurd rfl hne
              | 7, h0, _, _ =>
                simp only [List.getElem?_cons_succ, List.getElem?_cons_zero, Option.some.injEq] at h0
                subst h0
                exact ⟨6, waitsB_spec (by kernel_rfl), rfl⟩
              | 8, h0, _, _ =>
                simp only [List.getElem?_cons_succ, List.getElem?_cons_zero, Option.some.injEq] at h0
                subst h0
                exact ⟨7, waitsB_spec (by kernel_rfl), rfl⟩
              | 9, h0, _, _ =>
                simp only [List.getElem?_cons_succ, List.getElem?_cons_zero, Option.some.injEq] at h0
                subst h0
                exact ⟨7, waitsB_spec (by kernel_rfl), rfl⟩
              | 10, _, hD, _ => exact absurd hD (by simp [mkMC])
              | 11, _, hD, _ => exact absurd hD (by simp [mkMC])
              | 12, h0, _, _ =>
                simp only [List.getElem?_cons_succ, List.getElem?_cons_zero, Option.some.injEq] at h0
                subst h0
                exact ⟨8, waitsB_spec (by kernel_rfl), rfl⟩
              | 13, h0, _, _ =>
                simp only [List.getElem?_cons_succ, List.getElem?_cons_zero, Option.some.injEq] at h0
                subst h0
                exact ⟨9, waitsB_spec (by kernel_rfl), rfl⟩
              | n + 14, h0, _, _ => simp at h0
          case HV =>
            intro iq o hv hne hi aq w' r hk hd hR
            match iq, hv, hne, hi, hR with
            | 0, _, _, hi, hR =>
              have hi1 := hi
              simp only [List.getElem?_cons_succ, List.getElem?_cons_zero, Option.some.injEq] at hi1
              subst hi1
              have e0 : aq.eval (.tmp 5) = .pointer (some ⟨b_S, 0, none⟩) := (hd.out (by kernel_rfl)).trans rfl
              have c0 := keep_cell hk (fun h => h) (blk_cell HBS.out 0)
              have c1 := keep_cell hk (fun h => h) (blk_cell HBS.out 1)
              have c2 := keep_cell hk (fun h => h) (blk_cell HBS.out 2)
              have c3 := keep_cell hk (fun h => h) (blk_cell HBS.out 3)
              exact wpOp_ranL hi rfl (v := .agg #[.slice sa bs.length sc, .int .i64 a, .int .u64 (k2 : Int), .int .i64 i2]) (w' := w') (by simp only [execOp, e0]; go_simp) ⟨rfl, Keeps.refl _ _⟩
            | 1, _, _, hi, hR =>
              have hi1 := hi
              simp only [List.getElem?_cons_succ, List.getElem?_cons_zero, Option.some.injEq] at hi1
              subst hi1
              have e0 : aq.eval (.tmp 1) = .slice (some ⟨vb, vo, none⟩) L vc := (hd.out (by kernel_rfl)).trans rfl
              exact wpOp_ranL hi rfl (v := .slice (some ⟨vb, vo, none⟩) L vc) (w' := w') (by simp only [execOp, e0]; rfl) ⟨rfl, Keeps.refl _ _⟩
            | 2, _, _, hi, hR =>
              have hi1 := hi
              simp only [List.getElem?_cons_succ, List.getElem?_cons_zero, Option.some.injEq] at hi1
              subst hi1
              have e0 : aq.eval (.tmp 7) = .int .i64 (i : Int) := (hd.out (by kernel_rfl)).trans rfl
              exact wpOp_ranL hi rfl (v := .int .i64 (i : Int)) (w' := w') (by simp only [execOp, e0]; rfl) ⟨rfl, Keeps.refl _ _⟩
            | 3, _, _, hi, hR =>
              have hi1 := hi
              simp only [List.getElem?_cons_succ, List.getElem?_cons_zero, Option.some.injEq] at hi1
              subst hi1
              have e0 : aq.eval (.tmp 137) = .slice (some ⟨vb, vo, none⟩) L vc := hd.val (j := 1) (by kernel_rfl) rfl rfl rfl
              have e1 : aq.eval (.tmp 138) = .int .i64 (i : Int) := hd.val (j := 2) (by kernel_rfl) rfl rfl rfl
              exact wpOp_ranL hi rfl (v := .pointer (some ⟨vb, vo + i * 4, none⟩)) (w' := w') (by simp only [execOp, e0, e1]; go_simp) ⟨rfl, Keeps.refl _ _⟩
            | 4, _, _, hi, hR =>
              have hi1 := hi
              simp only [List.getElem?_cons_succ, List.getElem?_cons_zero, Option.some.injEq] at hi1
              subst hi1
              have e0 : aq.eval (.tmp 139) = .pointer (some ⟨vb, vo + i * 4, none⟩) := hd.val (j := 3) (by kernel_rfl) rfl rfl rfl
              exact wpOp_ranL hi rfl (v := .pointer (some ⟨vb, vo + i * 4 + 1, none⟩)) (w' := w') (by simp only [execOp, e0]; go_simp) ⟨rfl, Keeps.refl _ _⟩
            | 5, _, _, hi, hR =>
              have hi1 := hi
              simp only [List.getElem?_cons_succ, List.getElem?_cons_zero, Option.some.injEq] at hi1
              subst hi1
              have e0 : aq.eval (.tmp 140) = .pointer (some ⟨vb, vo + i * 4 + 1, none⟩) := hd.val (j := 4) (by kernel_rfl) rfl rfl rfl
              have c0 := keep_cell (HK.out.trans hk) (fun h => h) HC1.out
              exact wpOp_ranL hi rfl (v := .int .i64 x.n) (w' := w') (by simp only [execOp, e0]; go_simp) ⟨rfl, Keeps.refl _ _⟩
            | 6, _, hne, _, _ => exact absurd rfl hne
            | 7, _, _, hi, hR =>
              have hi1 := hi
              simp only [List.getElem?_cons_succ, List.getElem?_cons_zero, Option.some.injEq] at hi1
              subst hi1
              obtain ⟨K, a1, c1, a2, c2, rfl, hsl, hbd⟩ := hR rfl
              have e0 : aq.eval (.tmp 142) = .tuple #[.agg #[(.int .i64 F.q), (.int .i64 F.k), (.bool F.u), (.slice a1 F.b.length c1), (.int .u64 (F.t : Int))], .agg #[(.slice a2 bs3.length c2), (.int .i64 a3), (.int .u64 (k3 : Int)), (.int .i64 i3)]] := hd.val (j := 6) (by kernel_rfl) rfl rfl rfl
              exact wpOp_ranL hi rfl (v := .tuple #[.agg #[(.int .i64 F.q), (.int .i64 F.k), (.bool F.u), (.slice a1 F.b.length c1), (.int .u64 (F.t : Int))], .agg #[(.slice a2 bs3.length c2), (.int .i64 a3), (.int .u64 (k3 : Int)), (.int .i64 i3)]]) (w' := w') (by simp only [execOp, e0]; rfl) ⟨rfl, Keeps.refl _ _⟩
            | 8, _, _, hi, hR =>
              have hi1 := hi
              simp only [List.getElem?_cons_succ, List.getElem?_cons_zero, Option.some.injEq] at hi1
              subst hi1
              obtain ⟨K, a1, c1, a2, c2, rfl, hsl, hbd⟩ := hR rfl
              have e0 : aq.eval (.tmp 135) = .tuple #[.agg #[(.int .i64 F.q), (.int .i64 F.k), (.bool F.u), (.slice a1 F.b.length c1), (.int .u64 (F.t : Int))], .agg #[(.slice a2 bs3.length c2), (.int .i64 a3), (.int .u64 (k3 : Int)), (.int .i64 i3)]] := hd.val (j := 7) (by kernel_rfl) rfl rfl rfl
              exact wpOp_ranL hi rfl (v := .agg #[(.int .i64 F.q), (.int .i64 F.k), (.bool F.u), (.slice a1 F.b.length c1), (.int .u64 (F.t : Int))]) (w' := w') (by simp only [execOp, e0]; rfl) ⟨rfl, Keeps.refl _ _⟩
            | 9, _, _, hi, hR =>
              have hi1 := hi
              simp only [List.getElem?_cons_succ, List.getElem?_cons_zero, Option.some.injEq] at hi1
              subst hi1
              obtain ⟨K, a1, c1, a2, c2, rfl, hsl, hbd⟩ := hR rfl
              have e0 : aq.eval (.tmp 135) = .tuple #[.agg #[(.int .i64 F.q), (.int .i64 F.k), (.bool F.u), (.slice a1 F.b.length c1), (.int .u64 (F.t : Int))], .agg #[(.slice a2 bs3.length c2), (.int .i64 a3), (.int .u64 (k3 : Int)), (.int .i64 i3)]] := hd.val (j := 7) (by kernel_rfl) rfl rfl rfl
              exact wpOp_ranL hi rfl (v := .agg #[(.slice a2 bs3.length c2), (.int .i64 a3), (.int .u64 (k3 : Int)), (.int .i64 i3)]) (w' := w') (by simp only [execOp, e0]; rfl) ⟨rfl, Keeps.refl _ _⟩
            | 10, hv, _, _, _ => cases hv
            | 11, hv, _, _, _ => cases hv
            | 12, hv, _, _, _ => cases hv
            | 13, hv, _, _, _ => cases hv
            | n + 14, _, _, hi, _ => simp at hi
          case HC =>
            intro o hi aq w' r hk hd
            have hi1 := hi
            simp only [List.getElem?_cons_succ, List.getElem?_cons_zero, Option.some.injEq] at hi1
            subst hi1
            have e0 : aq.eval (.tmp 136) = .agg #[.slice sa bs.length sc, .int .i64 a, .int .u64 (k2 : Int), .int .i64 i2] := hd.val (j := 0) (by kernel_rfl) rfl rfl rfl
            have e1 : aq.eval (.tmp 141) = .int .i64 x.n := hd.val (j := 5) (by kernel_rfl) rfl rfl rfl
            exact wpOp_callL hi rfl (f := 42) (args := #[.agg #[.slice sa bs.length sc, .int .i64 a, .int .u64 (k2 : Int), .int .i64 i2], .int .i64 x.n]) (by simp only [execOp_call_go, List.map_toArray, List.map_cons, List.map_nil, e0, e1]; rfl) ((HP.out _ hk).mono (fun e w2 ⟨r, he, hR, hk2⟩ => ⟨_, he, _, rfl, hk2, fsRD_rm _ _ _ _ _ _ _ _ hR (fun b hb h => by omega)⟩))
          case HE =>
            intro L aq w' gg r hL hT
            have em := act_mix (bs := [true, true, true, true, true, true, true, true, true, true, true, true, true, true, true, true, true, true, true, false, false, true, true, true, true, true, true, true, true, true, true, true, true, true, true, true, true, true, true, true, true, true, true, true, true, true, true, true, true, true, true, true, true, true, true, true, true, true, true, true, true, true, true, true, true, true, true, true, true, true, true, true, true, true, true, true, true, true, true, true, true, true, true, true, true, true, true, true, true, true, true, true, true, true, true, true, true, true, true, true, true, true, true, true, true, true, true, true, true, true, true, true, true, true, true, true, true, true, true, true, true, true, true, true, true, true, true, true, true, true, true, true, true, true, true, false, false, false, false, false, false, false, false, false, false, true, true, true, true, true, true, true, true, true, true, true, true, true, true, true, true, true, true, true, true, true, true, true, true, true, true, true, true, true, true, true, true, true, true, true, true, true, true, true, true]) hT.sz hT.df hT.fr rfl (by kernel_rfl)
            have hR := hT.c (hL 6 (by decide))
            obtain ⟨a1, c1, a2, c2, rfl, hsl, hbd⟩ := hR
            have kW := hT.kp
            obtain ⟨eA10, zA10, cs10, -, bA10, sA10⟩ := hT.al 10 rfl (hL 10 (by decide)) _ 19 rfl rfl
            have sA10 := sA10 12 rfl (hL 12 (by decide)) rfl
            subst sA10
            change aq.tmps.getD 19 undef = _ at eA10
            generalize gg 10 = g10 at *
            obtain ⟨eA11, zA11, cs11, -, bA11, sA11⟩ := hT.al 11 rfl (hL 11 (by decide)) _ 20 rfl rfl
            have sA11 := sA11 13 rfl (hL 13 (by decide)) rfl
            subst sA11
            change aq.tmps.getD 20 undef = _ at eA11
            generalize gg 11 = g11 at *
            clear hT hL
            simp only [mix, eA10, eA11] at em
            clear eA10 eA11
            generalize aq.tmps.getD 136 undef = q136 at em
            generalize aq.tmps.getD 137 undef = q137 at em
            generalize aq.tmps.getD 138 undef = q138 at em
            generalize aq.tmps.getD 139 undef = q139 at em
            generalize aq.tmps.getD 140 undef = q140 at em
            generalize aq.tmps.getD 141 undef = q141 at em
            generalize aq.tmps.getD 142 undef = q142 at em
            generalize aq.tmps.getD 135 undef = q135 at em
            generalize aq.tmps.getD 143 undef = q143 at em
            generalize aq.tmps.getD 144 undef = q144 at em
            subst em
            simp only [Exit.then]
            go_wp2_with fail
            go_meet
            exact ⟨a1, c1, a2, c2, g10, rfl, g11, rfl, zA10, zA11, hid bA10, hid bA11, hid (hsl.mono (fun b _ h => h.2)), hid (hbd.mono (fun b _ h => h.2)), hid kW⟩
        case rest =>
        obtain ⟨Af, Ag, Aa, Ac, b_FA, rfl, b_A, rfl, hb_FA, hb_A, B_FA, B_A, E_A, D_A, hk⟩ := hcut
        replace hk := hk.out
        generalize wc = W21 at *
        have HBS' : Hd (Blk W21 b_S #[(.slice sa bs.length sc), (.int .i64 a), (.int .u64 (k2 : Int)), (.int .i64 i2)] 57) := hid (blk_keep HBS.out hk (fun h => h))
        have HBT' : Hd (Blk W21 b_T #[(.slice ta bs.length tc), (.int .i64 a), (.int .u64 (k2 : Int)), (.int .i64 i2)] 57) := hid (blk_keep HBT.out hk (fun h => h))
        have HSB' : Hd (Bds (fun b => b ≠ b_S ∧ b ≠ b_T) W21 (.slice sa bs.length sc) bs) := hid (HSB.out.keep hk (fun _ _ _ h => h))
        have HTB' : Hd (Bds (fun b => b ≠ b_S ∧ b ≠ b_T) W21 (.slice ta bs.length tc) bs) := hid (HTB.out.keep hk (fun _ _ _ h => h))
        clear HBS HBT HSB HTB
        have HBS := HBS'
        clear HBS'
        have HBT := HBT'
        clear HBT'
        have HSB := HSB'
        clear HSB'
        have HTB := HTB'
        clear HTB'
        have HK' : Hd (Keeps (fun _ => False) w W21) := hid (HK.out.trans hk)
        clear HK
        have HK := HK'
        clear HK'
        have z_W21 := hk.size
        clear hk
        have lt_A := blk_lt B_A.out
        have lt_FA := blk_lt B_FA.out
        clear HP
        have HR : Hd (∀ X, Keeps (fun _ => False) W21 X → Calls Tryd.prog 43 #[.agg #[.slice ta bs.length tc, .int .i64 a, .int .u64 (k2 : Int), .int .i64 i2], .int .i64 x.n] X fun e w' => CallFS (fsRD (fun b => b ≠ b_S ∧ b ≠ b_T) F ⟨bs3, a3, ⟨k3, i3⟩⟩ []) (fun b => b < W21.heap.size ∨ X.heap.size ≤ b) X e w') := hid (fun X hx => by have h := RUnlock_all ⟨bs, a, ⟨k2, i2⟩⟩ ta tc x.n (fun b => b ≠ b_S ∧ b ≠ b_T) W21.heap.size X ((HTB.out.mono (fun b hb h => ⟨h, hb⟩)).keep hx (fun _ _ _ h => h)) HOK.out.l HXO.out.n.1 HXO.out.n.2; rw [HQ.out] at h; exact h)
        go_upto_region 25 with fail
        go_cut [21, 22] from 145 to 154 (fun uf us wx => ∃ (a1 : Option Addr) (c1 : Nat) (a2 : Option Addr) (c2 : Nat), ∃ bF, uf = .pointer (some ⟨bF, 0, none⟩) ∧ ∃ bA, us = .pointer (some ⟨bA, 0, none⟩) ∧ W21.heap.size ≤ bF ∧ W21.heap.size ≤ bA ∧ Hd (Blk wx bF #[(.int .i64 F.q), (.int .i64 F.k), (.bool F.u), (.slice a1 F.b.length c1), (.int .u64 (F.t : Int))] 25) ∧ Hd (Blk wx bA #[(.slice a2 bs3.length c2), (.int .i64 a3), (.int .u64 (k3 : Int)), (.int .i64 i3)] 57) ∧ Hd (Sl (fun b => b ≠ b_S ∧ b ≠ b_T) wx (.slice a1 F.b.length c1) (u8s F.b)) ∧ Hd (Bds (fun b => b ≠ b_S ∧ b ≠ b_T) wx (.slice a2 bs3.length c2) bs3) ∧ Hd (Keeps (fun _ => False) W21 wx))
        case first =>
          refine wp_many (C := mkMC 6 [6, 7, 8, 9, 12, 13] [(10, 25, #[(.int .i64 0), (.int .i64 0), (.bool false), (.slice none 0 0), (.int .u64 0)]), (11, 57, #[(.slice none 0 0), (.int .i64 0), (.int .u64 0), (.int .i64 0)])] [(12, 10, 8), (13, 11, 9)] [(fun _ => .agg #[.slice ta bs.length tc, .int .i64 a, .int .u64 (k2 : Int), .int .i64 i2]), (fun _ => .slice (some ⟨vb, vo, none⟩) L vc), (fun _ => .int .i64 (i : Int)), (fun _ => .pointer (some ⟨vb, vo + i * 4, none⟩)), (fun _ => .pointer (some ⟨vb, vo + i * 4 + 1, none⟩)), (fun _ => .int .i64 x.n), (fun r => r), (fun r => r), (fun r => tupAt r 0), (fun r => tupAt r 1), (fun _ => undef), (fun _ => undef), (fun _ => undef), (fun _ => undef)] (fun s r => if s = 12 then aggCells (tupAt r 0) else aggCells (tupAt r 1)) (fsRD (fun b => b ≠ b_S ∧ b ≠ b_T) F ⟨bs3, a3, ⟨k3, i3⟩⟩ [])) (by kernel_rfl) ?H ?HV 6 rfl ?HC ?HE
          case H =>
            refine { back := by kernel_rfl, dst := uniqB_spec (by kernel_rfl), szd := underB_spec (by kernel_rfl), val := valB_spec3 (f := mkV [(10, 25, #[(.int .i64 0), (.int .i64 0), (.bool false), (.slice none 0 0), (.int .u64 0)]), (11, 57, #[(.slice none 0 0), (.int .i64 0), (.int .u64 0), (.int .i64 0)])] [(12, 10, 8), (13, 11, 9)]) (by kernel_rfl), alo := ?_, sto := ?_, stc := ?_, all := allB3_spec (f := mkV [(10, 25, #[(.int .i64 0), (.int .i64 0), (.bool false), (.slice none 0 0), (.int .u64 0)]), (11, 57, #[(.slice none 0 0), (.int .i64 0), (.int .u64 0), (.int .i64 0)])] [(12, 10, 8), (13, 11, 9)]) (g := mkA [(10, 25, #[(.int .i64 0), (.int .i64 0), (.bool false), (.slice none 0 0), (.int .u64 0)]), (11, 57, #[(.slice none 0 0), (.int .i64 0), (.int .u64 0), (.int .i64 0)])]) (h := mkS [(12, 10, 8), (13, 11, 9)]) (by kernel_rfl), nva := ?_, nvs := ?_, one := ?_, civ := rfl, nd := ?_, cd := rfl, dd := ?_, sem := fsSem _ _ _ _ _ _ _ _ _ _ (by decide) (by decide) rfl rfl (fsRD_rk _ _ _ _) (fsRD_rm _ _ _ _) (fsRD_sh _ _ _ _) }
            · intro j o h0 ha
              have h1 : 10 = j ∨ 11 = j := by simpa [mkMC] using ha
              rcases h1 with rfl | rfl
              all_goals
                have h2 := h0
                simp only [List.getElem?_cons_succ, List.getElem?_cons_zero, Option.some.injEq] at h2
                subst h2
                exact ⟨⟨_, rfl⟩, rfl, rfl⟩
            · intro s o h0 ha
              have h1 : 12 = s ∨ 13 = s := by simpa [mkMC] using ha
              rcases h1 with rfl | rfl
              all_goals
                have h2 := h0
                simp only [List.getElem?_cons_succ, List.getElem?_cons_zero, Option.some.injEq] at h2
                subst h2
                exact ⟨_, _, _, _, rfl, rfl, rfl, rfl, rfl, rfl, rfl, waitsB_spec (by kernel_rfl), waitsB_spec (by kernel_rfl)⟩
            · intro s ha
              have h1 : 12 = s ∨ 13 = s := by simpa [mkMC] using ha
              rcases h1 with rfl | rfl
              all_goals exact ⟨rfl, rfl, rfl, rfl⟩
            · intro s ha
              have h1 : 10 = s ∨ 11 = s := by simpa [mkMC] using ha
              rcases h1 with rfl | rfl
              all_goals exact ⟨rfl, rfl, rfl⟩
            · intro s ha
              have h1 : 12 = s ∨ 13 = s := by simpa [mkMC] using ha
              rcases h1 with rfl | rfl
              all_goals exact ⟨rfl, rfl⟩
            · intro s t ha hb hst
              have h1 : 12 = s ∨ 13 = s := by simpa [mkMC] using ha
              rcases h1 with rfl | rfl
              all_goals (have h2 : 12 = t ∨ 13 = t := by simpa [mkMC] using hb)
              all_goals (rcases h2 with rfl | rfl <;> first | rfl | (simp [mkMC] at hst))
            · intro i r r' hv hD
              match i, hD with
              | 0, _ => rfl
              | 1, _ => rfl
              | 2, _ => rfl
              | 3, _ => rfl
              | 4, _ => rfl
              | 5, _ => rfl
              | 6, h => exact absurd h (by simp [mkMC])
              | 7, h => exact absurd h (by simp [mkMC])
              | 8, h => exact absurd h (by simp [mkMC])
              | 9, h => exact absurd h (by simp [mkMC])
              | 10, _ => rfl
              | 11, _ => rfl
              | 12, h => exact absurd h (by simp [mkMC])
              | 13, h => exact absurd h (by simp [mkMC])
              | n + 14, _ => rfl
            · intro i o h0 hD hne
              match i, h0, hD, hne with
              | 0, _, hD, _ => exact absurd hD (by simp [mkMC])
              | 1, _, hD, _ => exact absurd hD (by simp [mkMC])
              | 2, _, hD, _ => exact absurd hD (by simp [mkMC])
              | 3, _, hD, _ => exact absurd hD (by simp [mkMC])
              | 4, _, hD, _ => exact absurd hD (by simp [mkMC])
              | 5, _, hD, _ => exact absurd hD (by simp [mkMC])
              | 6, _, _, hne => exact absurd rfl hne
              | 7, h0, _, _ =>
                simp only [List.getElem?_cons_succ, List.getElem?_cons_zero, Option.some.injEq] at h0
                subst h0
                exact ⟨6, waitsB_spec (by kernel_rfl), rfl⟩
              | 8, h0, _, _ =>
                simp only [List.getElem?_cons_succ, List.getElem?_cons_zero, Option.some.injEq] at h0
                subst h0
                exact ⟨7, waitsB_spec (by kernel_rfl), rfl⟩
              | 9, h0, _, _ =>
                simp only [List.getElem?_cons_succ, List.getElem?_cons_zero, Option.some.injEq] at h0
                subst h0
                exact ⟨7, waitsB_spec (by kernel_rfl), rfl⟩
              | 10, _, hD, _ => exact absurd hD (by simp [mkMC])
              | 11, _, hD, _ => exact absurd hD (by simp [mkMC])
              | 12, h0, _, _ =>
                simp only [List.getElem?_cons_succ, List.getElem?_cons_zero, Option.some.injEq] at h0
                subst h0
                exact ⟨8, waitsB_spec (by kernel_rfl), rfl⟩
              | 13, h0, _, _ =>
                simp only [List.getElem?_cons_succ, List.getElem?_cons_zero, Option.some.injEq] at h0
                subst h0
                exact ⟨9, waitsB_spec (by kernel_rfl), rfl⟩
              | n + 14, h0, _, _ => simp at h0
          case HV =>
            intro iq o hv hne hi aq w' r hk hd hR
            match iq, hv, hne, hi, hR with
            | 0, _, _, hi, hR =>
              have hi1 := hi
              simp only [List.getElem?_cons_succ, List.getElem?_cons_zero, Option.some.injEq] at hi1
              subst hi1
              have e0 : aq.eval (.tmp 6) = .pointer (some ⟨b_T, 0, none⟩) := (hd.out (by kernel_rfl)).trans rfl
              have c0 := keep_cell hk (fun h => h) (blk_cell HBT.out 0)
              have c1 := keep_cell hk (fun h => h) (blk_cell HBT.out 1)
              have c2 := keep_cell hk (fun h => h) (blk_cell HBT.out 2)
              have c3 := keep_cell hk (fun h => h) (blk_cell HBT.out 3)
              exact wpOp_ranL hi rfl (v := .agg #[.slice ta bs.length tc, .int .i64 a, .int .u64 (k2 : Int), .int .i64 i2]) (w' := w') (by simp only [execOp, e0]; go_simp) ⟨rfl, Keeps.refl _ _⟩
            | 1, _, _, hi, hR =>
              have hi1 := hi
              simp only [List.getElem?_cons_succ, List.getElem?_cons_zero, Option.some.injEq] at hi1
              subst hi1
              have e0 : aq.eval (.tmp 1) = .slice (some ⟨vb, vo, none⟩) L vc := (hd.out (by kernel_rfl)).trans rfl
              exact wpOp_ranL hi rfl (v := .slice (some ⟨vb, vo, none⟩) L vc) (w' := w') (by simp only [execOp, e0]; rfl) ⟨rfl, Keeps.refl _ _⟩
            | 2, _, _, hi, hR =>
              have hi1 := hi
              simp only [List.getElem?_cons_succ, List.getElem?_cons_zero, Option.some.injEq] at hi1
              subst hi1
              have e0 : aq.eval (.tmp 7) = .int .i64 (i : Int) := (hd.out (by kernel_rfl)).trans rfl
              exact wpOp_ranL hi rfl (v := .int .i64 (i : Int)) (w' := w') (by simp only [execOp, e0]; rfl) ⟨rfl, Keeps.refl _ _⟩
            | 3, _, _, hi, hR =>
              have hi1 := hi
              simp only [List.getElem?_cons_succ, List.getElem?_cons_zero, Option.some.injEq] at hi1
              subst hi1
              have e0 : aq.eval (.tmp 147) = .slice (some ⟨vb, vo, none⟩) L vc := hd.val (j := 1) (by kernel_rfl) rfl rfl rfl
              have e1 : aq.eval (.tmp 148) = .int .i64 (i : Int) := hd.val (j := 2) (by kernel_rfl) rfl rfl rfl
              exact wpOp_ranL hi rfl (v := .pointer (some ⟨vb, vo + i * 4, none⟩)) (w' := w') (by simp only [execOp, e0, e1]; go_simp) ⟨rfl, Keeps.refl _ _⟩
            | 4, _, _, hi, hR =>
              have hi1 := hi
              simp only [List.getElem?_cons_succ, List.getElem?_cons_zero, Option.some.injEq] at hi1
              subst hi1
              have e0 : aq.eval (.tmp 149) = .pointer (some ⟨vb, vo + i * 4, none⟩) := hd.val (j := 3) (by kernel_rfl) rfl rfl rfl
              exact wpOp_ranL hi rfl (v := .pointer (some ⟨vb, vo + i * 4 + 1, none⟩)) (w' := w') (by simp only [execOp, e0]; go_simp) ⟨rfl, Keeps.refl _ _⟩
            | 5, _, _, hi, hR =>
              have hi1 := hi
              simp only [List.getElem?_cons_succ, List.getElem?_cons_zero, Option.some.injEq] at hi1
              subst hi1
              have e0 : aq.eval (.tmp 150) = .pointer (some ⟨vb, vo + i * 4 + 1, none⟩) := hd.val (j := 4) (by kernel_rfl) rfl rfl rfl
              have c0 := keep_cell (HK.out.trans hk) (fun h => h) HC1.out
              exact wpOp_ranL hi rfl (v := .int .i64 x.n) (w' := w') (by simp only [execOp, e0]; go_simp) ⟨rfl, Keeps.refl _ _⟩
            | 6, _, hne, _, _ => exact absurd rfl hne
            | 7, _, _, hi, hR =>
              have hi1 := hi
              simp only [List.getElem?_cons_succ, List.getElem?_cons_zero, Option.some.injEq] at hi1
              subst hi1
              obtain ⟨K, a1, c1, a2, c2, rfl, hsl, hbd⟩ := hR rfl
              have e0 : aq.eval (.tmp 152) = .tuple #[.agg #[(.int .i64 F.q), (.int .i64 F.k), (.bool F.u), (.slice a1 F.b.length c1), (.int .u64 (F.t : Int))], .agg #[(.slice a2 bs3.length c2), (.int .i64 a3), (.int .u64 (k3 : Int)), (.int .i64 i3)]] := hd.val (j := 6) (by kernel_rfl) rfl rfl rfl
              exact wpOp_ranL hi rfl (v := .tuple #[.agg #[(.int .i64 F.q), (.int .i64 F.k), (.bool F.u), (.slice a1 F.b.length c1), (.int .u64 (F.t : Int))], .agg #[(.slice a2 bs3.length c2), (.int .i64 a3), (.int .u64 (k3 : Int)), (.int .i64 i3)]]) (w' := w') (by simp only [execOp, e0]; rfl) ⟨rfl, Keeps.refl _ _⟩
            | 8, _, _, hi, hR =>
              have hi1 := hi
              simp only [List.getElem?_cons_succ, List.getElem?_cons_zero, Option.some.injEq] at hi1
              subst hi1
              obtain ⟨K, a1, c1, a2, c2, rfl, hsl, hbd⟩ := hR rfl
              have e0 : aq.eval (.tmp 145) = .tuple #[.agg #[(.int .i64 F.q), (.int .i64 F.k), (.bool F.u), (.slice a1 F.b.length c1), (.int .u64 (F.t : Int))], .agg #[(.slice a2 bs3.length c2), (.int .i64 a3), (.int .u64 (k3 : Int)), (.int .i64 i3)]] := hd.val (j := 7) (by kernel_rfl) rfl rfl rfl
              exact wpOp_ranL hi rfl (v := .agg #[(.int .i64 F.q), (.int .i64 F.k), (.bool F.u), (.slice a1 F.b.length c1), (.int .u64 (F.t : Int))]) (w' := w') (by simp only [execOp, e0]; rfl) ⟨rfl, Keeps.refl _ _⟩
            | 9, _, _, hi, hR =>
              have hi1 := hi
              simp only [List.getElem?_cons_succ, List.getElem?_cons_zero, Option.some.injEq] at hi1
              subst hi1
              obtain ⟨K, a1, c1, a2, c2, rfl, hsl, hbd⟩ := hR rfl
              have e0 : aq.eval (.tmp 145) = .tuple #[.agg #[(.int .i64 F.q), (.int .i64 F.k), (.bool F.u), (.slice a1 F.b.length c1), (.int .u64 (F.t : Int))], .agg #[(.slice a2 bs3.length c2), (.int .i64 a3), (.int .u64 (k3 : Int)), (.int .i64 i3)]] := hd.val (j := 7) (by kernel_rfl) rfl rfl rfl
              exact wpOp_ranL hi rfl (v := .agg #[(.slice a2 bs3.length c2), (.int .i64 a3), (.int .u64 (k3 : Int)), (.int .i64 i3)]) (w' := w') (by simp only [execOp, e0]; rfl) ⟨rfl, Keeps.refl _ _⟩
            | 10, hv, _, _, _ => cases hv
            | 11, hv, _, _, _ => cases hv
            | 12, hv, _, _, _ => cases hv
            | 13, hv, _, _, _ => cases hv
            | n + 14, _, _, hi, _ => simp at hi
          case HC =>
            intro o hi aq w' r hk hd
            have hi1 := hi
            simp only [List.getElem?_cons_succ, List.getElem?_cons_zero, Option.some.injEq] at hi1
            subst hi1
            have e0 : aq.eval (.tmp 146) = .agg #[.slice ta bs.length tc, .int .i64 a, .int .u64 (k2 : Int), .int .i64 i2] := hd.val (j := 0) (by kernel_rfl) rfl rfl rfl
            have e1 : aq.eval (.tmp 151) = .int .i64 x.n := hd.val (j := 5) (by kernel_rfl) rfl rfl rfl
            exact wpOp_callL hi rfl (f := 43) (args := #[.agg #[.slice ta bs.length tc, .int .i64 a, .int .u64 (k2 : Int), .int .i64 i2], .int .i64 x.n]) (by simp only [execOp_call_go, List.map_toArray, List.map_cons, List.map_nil, e0, e1]; rfl) ((HR.out _ hk).mono (fun e w2 ⟨r, he, hR, hk2⟩ => ⟨_, he, _, rfl, hk2, fsRD_rm _ _ _ _ _ _ _ _ hR (fun b hb h => by omega)⟩))
          case HE =>
            intro L aq w' gg r hL hT
            have em := act_mix (bs := [true, true, true, true, true, true, true, true, true, true, true, true, true, true, true, true, true, true, true, true, true, false, false, true, true, true, true, true, true, true, true, true, true, true, true, true, true, true, true, true, true, true, true, true, true, true, true, true, true, true, true, true, true, true, true, true, true, true, true, true, true, true, true, true, true, true, true, true, true, true, true, true, true, true, true, true, true, true, true, true, true, true, true, true, true, true, true, true, true, true, true, true, true, true, true, true, true, true, true, true, true, true, true, true, true, true, true, true, true, true, true, true, true, true, true, true, true, true, true, true, true, true, true, true, true, true, true, true, true, true, true, true, true, true, true, true, true, true, true, true, true, true, true, true, true, false, false, false, false, false, false, false, false, false, false, true, true, true, true, true, true, true, true, true, true, true, true, true, true, true, true, true, true, true, true, true, true, true, true, true, true, true, true, true, true]) hT.sz hT.df hT.fr rfl (by kernel_rfl)
            have hR := hT.c (hL 6 (by decide))
            obtain ⟨a1, c1, a2, c2, rfl, hsl, hbd⟩ := hR
            have kW := hT.kp
            obtain ⟨eA10, zA10, cs10, -, bA10, sA10⟩ := hT.al 10 rfl (hL 10 (by decide)) _ 21 rfl rfl
            have sA10 := sA10 12 rfl (hL 12 (by decide)) rfl
            subst sA10
            change aq.tmps.getD 21 undef = _ at eA10
            generalize gg 10 = g10 at *
            obtain ⟨eA11, zA11, cs11, -, bA11, sA11⟩ := hT.al 11 rfl (hL 11 (by decide)) _ 22 rfl rfl
            have sA11 := sA11 13 rfl (hL 13 (by decide)) rfl
            subst sA11
            change aq.tmps.getD 22 undef = _ at eA11
            generalize gg 11 = g11 at *
            clear hT hL
            simp only [mix, eA10, eA11] at em
            clear eA10 eA11
            generalize aq.tmps.getD 146 undef = q146 at em
            generalize aq.tmps.getD 147 undef = q147 at em
            generalize aq.tmps.getD 148 undef = q148 at em
            generalize aq.tmps.getD 149 undef = q149 at em
            generalize aq.tmps.getD 150 undef = q150 at em
            generalize aq.tmps.getD 151 undef = q151 at em
            generalize aq.tmps.getD 152 undef = q152 at em
            generalize aq.tmps.getD 145 undef = q145 at em
            generalize aq.tmps.getD 153 undef = q153 at em
            generalize aq.tmps.getD 154 undef = q154 at em
            subst em
            simp only [Exit.then]
            go_wp2_with fail
            go_meet
            exact ⟨a1, c1, a2, c2, g10, rfl, g11, rfl, zA10, zA11, hid bA10, hid bA11, hid (hsl.mono (fun b _ h => h.2)), hid (hbd.mono (fun b _ h => h.2)), hid kW⟩
        case rest =>
        obtain ⟨Bf, Bg, Ba, Bc, b_FB, rfl, b_B, rfl, hb_FB, hb_B, B_FB, B_B, E_B, D_B, hk⟩ := hcut
        replace hk := hk.out
        generalize wc = W22 at *
        have HBS' : Hd (Blk W22 b_S #[(.slice sa bs.length sc), (.int .i64 a), (.int .u64 (k2 : Int)), (.int .i64 i2)] 57) := hid (blk_keep HBS.out hk (fun h => h))
        have HBT' : Hd (Blk W22 b_T #[(.slice ta bs.length tc), (.int .i64 a), (.int .u64 (k2 : Int)), (.int .i64 i2)] 57) := hid (blk_keep HBT.out hk (fun h => h))
        have HSB' : Hd (Bds (fun b => b ≠ b_S ∧ b ≠ b_T) W22 (.slice sa bs.length sc) bs) := hid (HSB.out.keep hk (fun _ _ _ h => h))
        have HTB' : Hd (Bds (fun b => b ≠ b_S ∧ b ≠ b_T) W22 (.slice ta bs.length tc) bs) := hid (HTB.out.keep hk (fun _ _ _ h => h))
        have B_FA' : Hd (Blk W22 b_FA #[(.int .i64 F.q), (.int .i64 F.k), (.bool F.u), (.slice Af F.b.length Ag), (.int .u64 (F.t : Int))] 25) := hid (blk_keep B_FA.out hk (fun h => h))
        have B_A' : Hd (Blk W22 b_A #[(.slice Aa bs3.length Ac), (.int .i64 a3), (.int .u64 (k3 : Int)), (.int .i64 i3)] 57) := hid (blk_keep B_A.out hk (fun h => h))
        have D_A' : Hd (Bds (fun b => b ≠ b_S ∧ b ≠ b_T) W22 (.slice Aa bs3.length Ac) bs3) := hid (D_A.out.keep hk (fun _ _ _ h => h))
        have E_A' : Hd (Sl (fun b => b ≠ b_S ∧ b ≠ b_T) W22 (.slice Af F.b.length Ag) (u8s F.b)) := hid (E_A.out.keep hk (fun _ _ _ h => h))
        clear HBS HBT HSB HTB B_FA B_A D_A E_A
        have HBS := HBS'
        clear HBS'
        have HBT := HBT'
        clear HBT'
        have HSB := HSB'
        clear HSB'
        have HTB := HTB'
        clear HTB'
        have B_FA := B_FA'
        clear B_FA'
        have B_A := B_A'
        clear B_A'
        have D_A := D_A'
        clear D_A'
        have E_A := E_A'
        clear E_A'
        have HK' : Hd (Keeps (fun _ => False) w W22) := hid (HK.out.trans hk)
        clear HK
        have HK := HK'
        clear HK'
        have z_W22 := hk.size
        clear hk
        have lt_B := blk_lt B_B.out
        have lt_FB := blk_lt B_FB.out
        clear HR
        have HSF : Hd (∀ X, Keeps (fun _ => False) W22 X → Calls Tryd.prog 41 #[.agg #[(.int .i64 F.q), (.int .i64 F.k), (.bool F.u), (.slice Af F.b.length Ag), (.int .u64 (F.t : Int))], .agg #[(.int .i64 F.q), (.int .i64 F.k), (.bool F.u), (.slice Bf F.b.length Bg), (.int .u64 (F.t : Int))]] X fun e w' => e = .returned (.bool true) ∧ Keeps (fun _ => False) X w') := hid (fun X hx => SameFrame_true F Af Bf Ag Bg _ _ X (E_A.out.keep hx (fun _ _ _ h => h)) (E_B.out.keep hx (fun _ _ _ h => h)) HFB.out)
        have o_B_FA_0 : W22.cell? ⟨b_FA, 0, none⟩ = some ((.int .i64 F.q)) := blk_cell B_FA.out 0
        have o_B_FA_1 : W22.cell? ⟨b_FA, 1, none⟩ = some ((.int .i64 F.k)) := blk_cell B_FA.out 1
        have o_B_FA_2 : W22.cell? ⟨b_FA, 2, none⟩ = some ((.bool F.u)) := blk_cell B_FA.out 2
        have o_B_FA_3 : W22.cell? ⟨b_FA, 3, none⟩ = some ((.slice Af F.b.length Ag)) := blk_cell B_FA.out 3
        have o_B_FA_4 : W22.cell? ⟨b_FA, 4, none⟩ = some ((.int .u64 (F.t : Int))) := blk_cell B_FA.out 4
        have o_B_FB_0 : W22.cell? ⟨b_FB, 0, none⟩ = some ((.int .i64 F.q)) := blk_cell B_FB.out 0
        have o_B_FB_1 : W22.cell? ⟨b_FB, 1, none⟩ = some ((.int .i64 F.k)) := blk_cell B_FB.out 1
        have o_B_FB_2 : W22.cell? ⟨b_FB, 2, none⟩ = some ((.bool F.u)) := blk_cell B_FB.out 2
        have o_B_FB_3 : W22.cell? ⟨b_FB, 3, none⟩ = some ((.slice Bf F.b.length Bg)) := blk_cell B_FB.out 3
        have o_B_FB_4 : W22.cell? ⟨b_FB, 4, none⟩ = some ((.int .u64 (F.t : Int))) := blk_cell B_FB.out 4
        go_wp2_with fail
        refine (HSF.out _ (by repeat (first | (with_reducible exact Keeps.refl _ _) | (with_reducible apply Keeps.drewN) | (with_reducible apply Keeps.drew)))).mono ?_
        rintro e X1 ⟨rfl, hk1⟩
        clear o_B_FA_0 o_B_FA_1 o_B_FA_2 o_B_FA_3 o_B_FA_4 o_B_FB_0 o_B_FB_1 o_B_FB_2 o_B_FB_3 o_B_FB_4
        have hk : Keeps (fun _ => False) W22 X1 := Keeps.trans (S := fun _ => False) (by repeat (first | (with_reducible exact Keeps.refl _ _) | (with_reducible apply Keeps.drewN) | (with_reducible apply Keeps.drew))) hk1
        clear hk1 HSF
        have HBS' : Hd (Blk X1 b_S #[(.slice sa bs.length sc), (.int .i64 a), (.int .u64 (k2 : Int)), (.int .i64 i2)] 57) := hid (blk_keep HBS.out hk (fun h => h))
        have HBT' : Hd (Blk X1 b_T #[(.slice ta bs.length tc), (.int .i64 a), (.int .u64 (k2 : Int)), (.int .i64 i2)] 57) := hid (blk_keep HBT.out hk (fun h => h))
        have HSB' : Hd (Bds (fun b => b ≠ b_S ∧ b ≠ b_T) X1 (.slice sa bs.length sc) bs) := hid (HSB.out.keep hk (fun _ _ _ h => h))
        have HTB' : Hd (Bds (fun b => b ≠ b_S ∧ b ≠ b_T) X1 (.slice ta bs.length tc) bs) := hid (HTB.out.keep hk (fun _ _ _ h => h))
        have B_FA' : Hd (Blk X1 b_FA #[(.int .i64 F.q), (.int .i64 F.k), (.bool F.u), (.slice Af F.b.length Ag), (.int .u64 (F.t : Int))] 25) := hid (blk_keep B_FA.out hk (fun h => h))
        have B_A' : Hd (Blk X1 b_A #[(.slice Aa bs3.length Ac), (.int .i64 a3), (.int .u64 (k3 : Int)), (.int .i64 i3)] 57) := hid (blk_keep B_A.out hk (fun h => h))
        have D_A' : Hd (Bds (fun b => b ≠ b_S ∧ b ≠ b_T) X1 (.slice Aa bs3.length Ac) bs3) := hid (D_A.out.keep hk (fun _ _ _ h => h))
        have E_A' : Hd (Sl (fun b => b ≠ b_S ∧ b ≠ b_T) X1 (.slice Af F.b.length Ag) (u8s F.b)) := hid (E_A.out.keep hk (fun _ _ _ h => h))
        have B_FB' : Hd (Blk X1 b_FB #[(.int .i64 F.q), (.int .i64 F.k), (.bool F.u), (.slice Bf F.b.length Bg), (.int .u64 (F.t : Int))] 25) := hid (blk_keep B_FB.out hk (fun h => h))
        have B_B' : Hd (Blk X1 b_B #[(.slice Ba bs3.length Bc), (.int .i64 a3), (.int .u64 (k3 : Int)), (.int .i64 i3)] 57) := hid (blk_keep B_B.out hk (fun h => h))
        have D_B' : Hd (Bds (fun b => b ≠ b_S ∧ b ≠ b_T) X1 (.slice Ba bs3.length Bc) bs3) := hid (D_B.out.keep hk (fun _ _ _ h => h))
        have E_B' : Hd (Sl (fun b => b ≠ b_S ∧ b ≠ b_T) X1 (.slice Bf F.b.length Bg) (u8s F.b)) := hid (E_B.out.keep hk (fun _ _ _ h => h))
        clear HBS HBT HSB HTB B_FA B_A D_A E_A B_FB B_B D_B E_B
        have HBS := HBS'
        clear HBS'
        have HBT := HBT'
        clear HBT'
        have HSB := HSB'
        clear HSB'
        have HTB := HTB'
        clear HTB'
        have B_FA := B_FA'
        clear B_FA'
        have B_A := B_A'
        clear B_A'
        have D_A := D_A'
        clear D_A'
        have E_A := E_A'
        clear E_A'
        have B_FB := B_FB'
        clear B_FB'
        have B_B := B_B'
        clear B_B'
        have D_B := D_B'
        clear D_B'
        have E_B := E_B'
        clear E_B'
        have HK' : Hd (Keeps (fun _ => False) w X1) := hid (HK.out.trans hk)
        clear HK
        have HK := HK'
        clear HK'
        have z_X1 := hk.size
        clear hk
        have o_B_A_0 : X1.cell? ⟨b_A, 0, none⟩ = some ((.slice Aa bs3.length Ac)) := blk_cell B_A.out 0
        have o_B_A_1 : X1.cell? ⟨b_A, 1, none⟩ = some ((.int .i64 a3)) := blk_cell B_A.out 1
        have o_B_A_2 : X1.cell? ⟨b_A, 2, none⟩ = some ((.int .u64 (k3 : Int))) := blk_cell B_A.out 2
        have o_B_A_3 : X1.cell? ⟨b_A, 3, none⟩ = some ((.int .i64 i3)) := blk_cell B_A.out 3
        have o_B_B_0 : X1.cell? ⟨b_B, 0, none⟩ = some ((.slice Ba bs3.length Bc)) := blk_cell B_B.out 0
        have o_B_B_1 : X1.cell? ⟨b_B, 1, none⟩ = some ((.int .i64 a3)) := blk_cell B_B.out 1
        have o_B_B_2 : X1.cell? ⟨b_B, 2, none⟩ = some ((.int .u64 (k3 : Int))) := blk_cell B_B.out 2
        have o_B_B_3 : X1.cell? ⟨b_B, 3, none⟩ = some ((.int .i64 i3)) := blk_cell B_B.out 3
        have o_HBS_0 : X1.cell? ⟨b_S, 0, none⟩ = some ((.slice sa bs.length sc)) := blk_cell HBS.out 0
        have o_HBS_1 : X1.cell? ⟨b_S, 1, none⟩ = some ((.int .i64 a)) := blk_cell HBS.out 1
        have o_HBS_2 : X1.cell? ⟨b_S, 2, none⟩ = some ((.int .u64 (k2 : Int))) := blk_cell HBS.out 2
        have o_HBS_3 : X1.cell? ⟨b_S, 3, none⟩ = some ((.int .i64 i2)) := blk_cell HBS.out 3
        have o_HBT_0 : X1.cell? ⟨b_T, 0, none⟩ = some ((.slice ta bs.length tc)) := blk_cell HBT.out 0
        have o_HBT_1 : X1.cell? ⟨b_T, 1, none⟩ = some ((.int .i64 a)) := blk_cell HBT.out 1
        have o_HBT_2 : X1.cell? ⟨b_T, 2, none⟩ = some ((.int .u64 (k2 : Int))) := blk_cell HBT.out 2
        have o_HBT_3 : X1.cell? ⟨b_T, 3, none⟩ = some ((.int .i64 i2)) := blk_cell HBT.out 3
        have f_HBS_0 : X1.frozen? ⟨b_S, 0, none⟩ = false := blk_free HBS.out 0
        have f_HBS_1 : X1.frozen? ⟨b_S, 1, none⟩ = false := blk_free HBS.out 1
        have f_HBS_2 : X1.frozen? ⟨b_S, 2, none⟩ = false := blk_free HBS.out 2
        have f_HBS_3 : X1.frozen? ⟨b_S, 3, none⟩ = false := blk_free HBS.out 3
        have f_HBT_0 : X1.frozen? ⟨b_T, 0, none⟩ = false := blk_free HBT.out 0
        have f_HBT_1 : X1.frozen? ⟨b_T, 1, none⟩ = false := blk_free HBT.out 1
        have f_HBT_2 : X1.frozen? ⟨b_T, 2, none⟩ = false := blk_free HBT.out 2
        have f_HBT_3 : X1.frozen? ⟨b_T, 3, none⟩ = false := blk_free HBT.out 3
        go_upto_region 32 with fail
        clear o_B_A_0 o_B_A_1 o_B_A_2 o_B_A_3 o_B_B_0 o_B_B_1 o_B_B_2 o_B_B_3 o_HBS_0 o_HBS_1 o_HBS_2 o_HBS_3 o_HBT_0 o_HBT_1 o_HBT_2 o_HBT_3 f_HBS_0 f_HBS_1 f_HBS_2 f_HBS_3 f_HBT_0 f_HBT_1 f_HBT_2 f_HBT_3
        clear HSB HTB
        generalize hW : World.setCell (World.setCell (World.setCell (World.setCell (World.setCell (World.setCell (World.setCell (World.setCell X1 _ _) _ _) _ _) _ _) _ _) _ _) _ _) _ _ = W23
        have KS : Hd (Keeps (fun b => b = b_S ∨ b = b_T) X1 W23) := hid (by rw [← hW]; exact (Keeps.setCell (S := fun b => b = b_S ∨ b = b_T) (p := ⟨b_T, 3, none⟩) (Keeps.setCell (S := fun b => b = b_S ∨ b = b_T) (p := ⟨b_T, 2, none⟩) (Keeps.setCell (S := fun b => b = b_S ∨ b = b_T) (p := ⟨b_T, 1, none⟩) (Keeps.setCell (S := fun b => b = b_S ∨ b = b_T) (p := ⟨b_T, 0, none⟩) (Keeps.setCell (S := fun b => b = b_S ∨ b = b_T) (p := ⟨b_S, 3, none⟩) (Keeps.setCell (S := fun b => b = b_S ∨ b = b_T) (p := ⟨b_S, 2, none⟩) (Keeps.setCell (S := fun b => b = b_S ∨ b = b_T) (p := ⟨b_S, 1, none⟩) (Keeps.setCell (S := fun b => b = b_S ∨ b = b_T) (p := ⟨b_S, 0, none⟩) (Keeps.refl (fun b => b = b_S ∨ b = b_T) X1) (.inl (.inl rfl)) _) (.inl (.inl rfl)) _) (.inl (.inl rfl)) _) (.inl (.inl rfl)) _) (.inl (.inr rfl)) _) (.inl (.inr rfl)) _) (.inl (.inr rfl)) _) (.inl (.inr rfl)) _))
        have HBS' : Hd (Blk W23 b_S #[(.slice Aa bs3.length Ac), (.int .i64 a3), (.int .u64 (k3 : Int)), (.int .i64 i3)] 57) := hid (by rw [← hW]; exact (blk_other (blk_other (blk_other (blk_other (blk_set (blk_set (blk_set (blk_set HBS.out 0 _) 1 _) 2 _) 3 _) (by omega) _ _) (by omega) _ _) (by omega) _ _) (by omega) _ _))
        have HBT' : Hd (Blk W23 b_T #[(.slice Ba bs3.length Bc), (.int .i64 a3), (.int .u64 (k3 : Int)), (.int .i64 i3)] 57) := hid (by rw [← hW]; exact (blk_set (blk_set (blk_set (blk_set (blk_other (blk_other (blk_other (blk_other HBT.out (by omega) _ _) (by omega) _ _) (by omega) _ _) (by omega) _ _) 0 _) 1 _) 2 _) 3 _))
        have B_FA' : Hd (Blk W23 b_FA #[(.int .i64 F.q), (.int .i64 F.k), (.bool F.u), (.slice Af F.b.length Ag), (.int .u64 (F.t : Int))] 25) := hid (by rw [← hW]; exact (blk_other (blk_other (blk_other (blk_other (blk_other (blk_other (blk_other (blk_other B_FA.out (by omega) _ _) (by omega) _ _) (by omega) _ _) (by omega) _ _) (by omega) _ _) (by omega) _ _) (by omega) _ _) (by omega) _ _))
        have B_A' : Hd (Blk W23 b_A #[(.slice Aa bs3.length Ac), (.int .i64 a3), (.int .u64 (k3 : Int)), (.int .i64 i3)] 57) := hid (by rw [← hW]; exact (blk_other (blk_other (blk_other (blk_other (blk_other (blk_other (blk_other (blk_other B_A.out (by omega) _ _) (by omega) _ _) (by omega) _ _) (by omega) _ _) (by omega) _ _) (by omega) _ _) (by omega) _ _) (by omega) _ _))
        have D_A' : Hd (Bds (fun b => b ≠ b_S ∧ b ≠ b_T) W23 (.slice Aa bs3.length Ac) bs3) := hid (D_A.out.keep KS.out (fun b _ h1 h2 => by first | exact h1.1 h2 | exact h1.2 h2 | exact h2.elim h1.1 h1.2))
        have E_A' : Hd (Sl (fun b => b ≠ b_S ∧ b ≠ b_T) W23 (.slice Af F.b.length Ag) (u8s F.b)) := hid (E_A.out.keep KS.out (fun b _ h1 h2 => by first | exact h1.1 h2 | exact h1.2 h2 | exact h2.elim h1.1 h1.2))
        have B_FB' : Hd (Blk W23 b_FB #[(.int .i64 F.q), (.int .i64 F.k), (.bool F.u), (.slice Bf F.b.length Bg), (.int .u64 (F.t : Int))] 25) := hid (by rw [← hW]; exact (blk_other (blk_other (blk_other (blk_other (blk_other (blk_other (blk_other (blk_other B_FB.out (by omega) _ _) (by omega) _ _) (by omega) _ _) (by omega) _ _) (by omega) _ _) (by omega) _ _) (by omega) _ _) (by omega) _ _))
        have B_B' : Hd (Blk W23 b_B #[(.slice Ba bs3.length Bc), (.int .i64 a3), (.int .u64 (k3 : Int)), (.int .i64 i3)] 57) := hid (by rw [← hW]; exact (blk_other (blk_other (blk_other (blk_other (blk_other (blk_other (blk_other (blk_other B_B.out (by omega) _ _) (by omega) _ _) (by omega) _ _) (by omega) _ _) (by omega) _ _) (by omega) _ _) (by omega) _ _) (by omega) _ _))
        have D_B' : Hd (Bds (fun b => b ≠ b_S ∧ b ≠ b_T) W23 (.slice Ba bs3.length Bc) bs3) := hid (D_B.out.keep KS.out (fun b _ h1 h2 => by first | exact h1.1 h2 | exact h1.2 h2 | exact h2.elim h1.1 h1.2))
        have E_B' : Hd (Sl (fun b => b ≠ b_S ∧ b ≠ b_T) W23 (.slice Bf F.b.length Bg) (u8s F.b)) := hid (E_B.out.keep KS.out (fun b _ h1 h2 => by first | exact h1.1 h2 | exact h1.2 h2 | exact h2.elim h1.1 h1.2))
        clear HBS HBT B_FA B_A D_A E_A B_FB B_B D_B E_B
        have HBS := HBS'
        clear HBS'
        have HBT := HBT'
        clear HBT'
        have B_FA := B_FA'
        clear B_FA'
        have B_A := B_A'
        clear B_A'
        have D_A := D_A'
        clear D_A'
        have E_A := E_A'
        clear E_A'
        have B_FB := B_FB'
        clear B_FB'
        have B_B := B_B'
        clear B_B'
        have D_B := D_B'
        clear D_B'
        have E_B := E_B'
        clear E_B'
        have HK' : Hd (Keeps (fun _ => False) w W23) := hid (HK.out.trans' KS.out (fun i hi h => by omega))
        clear HK
        have HK := HK'
        clear HK'
        have z_W23 : X1.heap.size + 0 ≤ W23.heap.size := by rw [← hW]; simp
        clear hW KS
        have HSS : Hd (∀ X, Keeps (fun _ => False) W23 X → Calls Tryd.prog 38 #[.agg #[(.slice Aa bs3.length Ac), (.int .i64 a3), (.int .u64 (k3 : Int)), (.int .i64 i3)], .agg #[(.slice Ba bs3.length Bc), (.int .i64 a3), (.int .u64 (k3 : Int)), (.int .i64 i3)]] X fun e w' => e = .returned (.bool true) ∧ Keeps (fun _ => False) X w') := hid (fun X hx => SameSender_true bs3 a3 ⟨k3, i3⟩ Aa Ba Ac Bc _ _ X (D_A.out.keep hx (fun _ _ _ h => h)) (D_B.out.keep hx (fun _ _ _ h => h)) (fun x hx => (HOK2.out.b x hx).2) (by have := HOK2.out.n; simp only [] at this; omega))
        have o_HBS_0 : W23.cell? ⟨b_S, 0, none⟩ = some ((.slice Aa bs3.length Ac)) := blk_cell HBS.out 0
        have o_HBS_1 : W23.cell? ⟨b_S, 1, none⟩ = some ((.int .i64 a3)) := blk_cell HBS.out 1
        have o_HBS_2 : W23.cell? ⟨b_S, 2, none⟩ = some ((.int .u64 (k3 : Int))) := blk_cell HBS.out 2
        have o_HBS_3 : W23.cell? ⟨b_S, 3, none⟩ = some ((.int .i64 i3)) := blk_cell HBS.out 3
        have o_HBT_0 : W23.cell? ⟨b_T, 0, none⟩ = some ((.slice Ba bs3.length Bc)) := blk_cell HBT.out 0
        have o_HBT_1 : W23.cell? ⟨b_T, 1, none⟩ = some ((.int .i64 a3)) := blk_cell HBT.out 1
        have o_HBT_2 : W23.cell? ⟨b_T, 2, none⟩ = some ((.int .u64 (k3 : Int))) := blk_cell HBT.out 2
        have o_HBT_3 : W23.cell? ⟨b_T, 3, none⟩ = some ((.int .i64 i3)) := blk_cell HBT.out 3
        go_wp2_with fail
        refine (HSS.out _ (by repeat (first | (with_reducible exact Keeps.refl _ _) | (with_reducible apply Keeps.drewN) | (with_reducible apply Keeps.drew)))).mono ?_
        rintro e X9 ⟨rfl, hk9⟩
        clear o_HBS_0 o_HBS_1 o_HBS_2 o_HBS_3 o_HBT_0 o_HBT_1 o_HBT_2 o_HBT_3
        have hk8 : Keeps (fun _ => False) W23 X9 := Keeps.trans (S := fun _ => False) (by repeat (first | (with_reducible exact Keeps.refl _ _) | (with_reducible apply Keeps.drewN) | (with_reducible apply Keeps.drew))) hk9
        clear hk9 HSS
        go_wp2
        go_roundw
        case rel => exact ⟨i + 1, ⟨bs3, a3, ⟨k3, i3⟩⟩, Aa, Ac, Ba, Bc, by go_num, by omega, by omega, hid (blk_keep HBS.out hk8 (fun h => h)), hid (blk_keep HBT.out hk8 (fun h => h)), hid (D_A.out.keep hk8 (fun _ _ _ h => h)), hid (D_B.out.keep hk8 (fun _ _ _ h => h)), HOK2, hid (HK.out.trans hk8)⟩
        case measure => simp [intOf]; omega
      · have HTO : Hd (∀ X, Calls Tryd.prog 45 #[.agg #[.int .i64 x.kd, .int .i64 x.n, .int .i64 x.m, .slice ad x.b.length cd]] X fun e w' => e = .returned (.agg #[.int .i64 (toldM x).nx, .int .i64 (toldM x).ha, .int .i64 (toldM x).ky, .bool (toldM x).lk]) ∧ Keeps (fun _ => False) X w') := hid (fun X => told_any x ad x.b.length cd X HXO.out)
        obtain ⟨⟨p0, p1⟩, ⟨hh, hha, hhb⟩, ⟨p4, p5⟩⟩ := told_b x
        obtain ⟨⟨rn, rh, rk, rl⟩, hP⟩ : ∃ p, toldM x = p := ⟨_, rfl⟩
        rw [hP] at HTO p0 p1 hha p4 p5
        simp only [] at HTO p0 p1 hha p4 p5
        subst hha
        have HOK2 : Hd (SOk (confirmM ⟨bs, a, ⟨k2, i2⟩⟩ ⟨rn, (hh : Int), rk, rl⟩) (i + 1)) := hid (HOK.out.confirm (by show rk ≤ 90; omega))
        obtain ⟨a3, ha3⟩ : ∃ z, ackN a rn bs.length = z := ⟨_, rfl⟩
        obtain ⟨⟨k3, i3⟩, hl3⟩ : ∃ z, confL ⟨k2, i2⟩ rk = z := ⟨_, rfl⟩
        have HA3 := hid ha3; have HL3 := hid hl3
        unfold confirmM at HOK2
        simp only [] at HOK2
        rw [ha3, hl3] at HOK2
        clear ha3 hl3
        clear hP
        have HCF : Hd (∀ X, Keeps (fun _ => False) V X → Calls Tryd.prog 44 #[.agg #[.slice sa bs.length sc, .int .i64 a, .int .u64 (k2 : Int), .int .i64 i2], .agg #[.int .i64 rn, .int .i64 (hh : Int), .int .i64 rk, .bool rl]] X fun e w' => ∃ a2 c2, e = .returned (.agg #[.slice a2 bs.length c2, .int .i64 a3, .int .u64 (k3 : Int), .int .i64 i3]) ∧ Bds (fun b => X.heap.size ≤ b) w' (.slice a2 bs.length c2) bs ∧ Keeps (fun _ => False) X w') := hid (fun X hx => by have h := Confirm_any bs sa sc a ⟨k2, i2⟩ rn (hh : Int) rk rl _ X (HSB.out.keep hx (fun _ _ _ h => h)) (by omega) (fun x hx => (HOK.out.b x hx).1) HOK.out.l (by omega); unfold ConfR at h; rw [HA3.out, HL3.out] at h; exact h)
        go_upto_region 30 with fail
        go_cut [] from 162 to 168 (fun wx => ∃ (a2 : Option Addr) (c2 : Nat), Hd (Blk wx b_S #[(.slice a2 bs.length c2), (.int .i64 a3), (.int .u64 (k3 : Int)), (.int .i64 i3)] 57) ∧ Hd (Bds (fun b => V.heap.size ≤ b) wx (.slice a2 bs.length c2) bs) ∧ Hd (Keeps (fun b => b = b_S) V wx))
        case first =>
          have KC : Hd (Keeps (fun _ => False) V V) := hid (Keeps.refl _ _)
          have HSS : Hd (∀ w', Keeps (fun b => b = b_S) V w' → (w'.cell? ⟨vb, vo + i * 4, none⟩ = some (.int .i64 x.kd) ∧ w'.cell? ⟨vb, vo + i * 4 + 1, none⟩ = some (.int .i64 x.n) ∧ w'.cell? ⟨vb, vo + i * 4 + 2, none⟩ = some (.int .i64 x.m) ∧ w'.cell? ⟨vb, vo + i * 4 + 3, none⟩ = some (.slice ad x.b.length cd))) := hid (fun w' hk => ⟨keep_cell (HK.out.trans' hk (fun b h1 h2 => by omega)) (fun h => h) HC0.out, keep_cell (HK.out.trans' hk (fun b h1 h2 => by omega)) (fun h => h) HC1.out, keep_cell (HK.out.trans' hk (fun b h1 h2 => by omega)) (fun h => h) HC2.out, keep_cell (HK.out.trans' hk (fun b h1 h2 => by omega)) (fun h => h) HC3.out⟩)
          have o_HBS_0 : V.cell? ⟨b_S, 0, none⟩ = some ((.slice sa bs.length sc)) := blk_cell HBS.out 0
          have o_HBS_1 : V.cell? ⟨b_S, 1, none⟩ = some ((.int .i64 a)) := blk_cell HBS.out 1
          have o_HBS_2 : V.cell? ⟨b_S, 2, none⟩ = some ((.int .u64 (k2 : Int))) := blk_cell HBS.out 2
          have o_HBS_3 : V.cell? ⟨b_S, 3, none⟩ = some ((.int .i64 i2)) := blk_cell HBS.out 3
          have f_HBS_0 : V.frozen? ⟨b_S, 0, none⟩ = false := blk_free HBS.out 0
          have f_HBS_1 : V.frozen? ⟨b_S, 1, none⟩ = false := blk_free HBS.out 1
          have f_HBS_2 : V.frozen? ⟨b_S, 2, none⟩ = false := blk_free HBS.out 2
          have f_HBS_3 : V.frozen? ⟨b_S, 3, none⟩ = false := blk_free HBS.out 3
          rw [lSa_eq]
          go_region_held (fun w' => w'.cell? ⟨vb, vo + i * 4, none⟩ = some (.int .i64 x.kd) ∧ w'.cell? ⟨vb, vo + i * 4 + 1, none⟩ = some (.int .i64 x.n) ∧ w'.cell? ⟨vb, vo + i * 4 + 2, none⟩ = some (.int .i64 x.m) ∧ w'.cell? ⟨vb, vo + i * 4 + 3, none⟩ = some (.slice ad x.b.length cd)) ((refine HSS.out _ ?_; (repeat (first | (with_reducible exact KC.out.mono (fun _ _ h => h.elim)) | (with_reducible exact Keeps.refl _ _) | (with_reducible apply Keeps.drewN) | (with_reducible apply Keeps.drew) | (with_reducible refine Keeps.setCell (S := fun b => b = b_S) ?_ (.inl rfl) _))); done))
            (first
            | (go_at_call 45; (refine (HTO.out _).mono ?_); rintro e wy0 ⟨rfl, hk⟩; have KC2 : Hd (Keeps (fun _ => False) V wy0) := hid (Keeps.trans (S := fun _ => False) (by repeat (first | (with_reducible exact KC.out) | (with_reducible exact Keeps.refl _ _) | (with_reducible apply Keeps.drewN) | (with_reducible apply Keeps.drew) | (with_reducible apply Keeps.alloc))) hk); replace KC := KC2; clear KC2; replace hk := hid hk; have cz0 : wy0.cell? ⟨b_S, 0, none⟩ = some (.slice sa bs.length sc) := blk_cell (blk_keep HBS.out KC.out (fun h => h)) 0; have fz0 : wy0.frozen? ⟨b_S, 0, none⟩ = false := blk_free (blk_keep HBS.out KC.out (fun h => h)) 0; have cz1 : wy0.cell? ⟨b_S, 1, none⟩ = some (.int .i64 a) := blk_cell (blk_keep HBS.out KC.out (fun h => h)) 1; have fz1 : wy0.frozen? ⟨b_S, 1, none⟩ = false := blk_free (blk_keep HBS.out KC.out (fun h => h)) 1; have cz2 : wy0.cell? ⟨b_S, 2, none⟩ = some (.int .u64 (k2 : Int)) := blk_cell (blk_keep HBS.out KC.out (fun h => h)) 2; have fz2 : wy0.frozen? ⟨b_S, 2, none⟩ = false := blk_free (blk_keep HBS.out KC.out (fun h => h)) 2; have cz3 : wy0.cell? ⟨b_S, 3, none⟩ = some (.int .i64 i2) := blk_cell (blk_keep HBS.out KC.out (fun h => h)) 3; have fz3 : wy0.frozen? ⟨b_S, 3, none⟩ = false := blk_free (blk_keep HBS.out KC.out (fun h => h)) 3)
            | (go_at_call 44; (refine (HCF.out _ (by repeat (first | (with_reducible exact KC.out) | (with_reducible exact Keeps.refl _ _) | (with_reducible apply Keeps.drewN) | (with_reducible apply Keeps.drew) | (with_reducible apply Keeps.alloc)))).mono ?_); rintro e wy1 ⟨a2, c2, rfl, hbd, hk⟩; have HBD := hid ((bds_after hbd (n := V.heap.size) (by first | exact Nat.le_refl _ | (simp; done) | (simp; omega) | (have := KC.out.size; (try simp); omega) | fail)) _ (Keeps.refl _ _)); clear hbd; have KC2 : Hd (Keeps (fun _ => False) V wy1) := hid (Keeps.trans (S := fun _ => False) (by repeat (first | (with_reducible exact KC.out) | (with_reducible exact Keeps.refl _ _) | (with_reducible apply Keeps.drewN) | (with_reducible apply Keeps.drew) | (with_reducible apply Keeps.alloc))) hk); replace KC := KC2; clear KC2; replace hk := hid hk; have cz0 : wy1.cell? ⟨b_S, 0, none⟩ = some (.slice sa bs.length sc) := blk_cell (blk_keep HBS.out KC.out (fun h => h)) 0; have fz0 : wy1.frozen? ⟨b_S, 0, none⟩ = false := blk_free (blk_keep HBS.out KC.out (fun h => h)) 0; have cz1 : wy1.cell? ⟨b_S, 1, none⟩ = some (.int .i64 a) := blk_cell (blk_keep HBS.out KC.out (fun h => h)) 1; have fz1 : wy1.frozen? ⟨b_S, 1, none⟩ = false := blk_free (blk_keep HBS.out KC.out (fun h => h)) 1; have cz2 : wy1.cell? ⟨b_S, 2, none⟩ = some (.int .u64 (k2 : Int)) := blk_cell (blk_keep HBS.out KC.out (fun h => h)) 2; have fz2 : wy1.frozen? ⟨b_S, 2, none⟩ = false := blk_free (blk_keep HBS.out KC.out (fun h => h)) 2; have cz3 : wy1.cell? ⟨b_S, 3, none⟩ = some (.int .i64 i2) := blk_cell (blk_keep HBS.out KC.out (fun h => h)) 3; have fz3 : wy1.frozen? ⟨b_S, 3, none⟩ = false := blk_free (blk_keep HBS.out KC.out (fun h => h)) 3))
          all_goals
            go_wp2_with fail
            go_meet
            have k9 := keep4' wy1 b_S 0 1 2 3 (.slice a2 bs.length c2) (.int .i64 a3) (.int .u64 (k3 : Int)) (.int .i64 i3)
            exact ⟨a2, c2, hid (blk_set (blk_set (blk_set (blk_set (blk_keep HBS.out KC.out (fun h => h)) 0 _) 1 _) 2 _) 3 _), hid (HBD.out.keep k9 (fun b _ h1 h2 => by omega)), hid ((KC.out.mono (fun _ _ h => h.elim)).trans' k9 (fun _ _ h => h))⟩
        case rest =>
        obtain ⟨a2, c2, HB9, HD9, HK9⟩ := hcut
        generalize wc = W21 at *
        have z_W21 := HK9.out.size
        have HO9 := hid (blk_keep HBT.out HK9.out (fun h => by omega))
        have HT9 := hid (HTB.out.keep HK9.out (fun b _ h1 h2 => by first | exact h1.1 h2 | exact h1.2 h2))
        have HS9 : Hd (Bds (fun b => b ≠ b_S ∧ b ≠ b_T) W21 (.slice a2 bs.length c2) bs) := hid (HD9.out.mono (fun b _ h => ⟨by omega, by omega⟩))
        have HK8 : Hd (Keeps (fun _ => False) w W21) := hid (HK.out.trans' HK9.out (fun b h1 h2 => by omega))
        clear HCF HBS HBT HSB HTB HK HK9 HD9
        have HBS := HB9; have HBT := HO9; have HSB := HS9; have HTB := HT9; have HK := HK8
        clear HB9 HO9 HS9 HT9 HK8
        have HCF : Hd (∀ X, Keeps (fun _ => False) W21 X → Calls Tryd.prog 46 #[.agg #[.slice ta bs.length tc, .int .i64 a, .int .u64 (k2 : Int), .int .i64 i2], .agg #[.int .i64 rn, .int .i64 (hh : Int), .int .i64 rk, .bool rl]] X fun e w' => e = .returned (.agg #[.slice ta bs.length tc, .int .i64 a3, .int .u64 (k3 : Int), .int .i64 i3]) ∧ Keeps (fun _ => False) X w') := hid (fun X hx => by have h := RConfirm_any bs.length ta tc a ⟨k2, i2⟩ rn (hh : Int) rk rl X HOK.out.l (by omega); rw [HA3.out, HL3.out] at h; exact h)
        go_upto_region 31 with fail
        have KC : Hd (Keeps (fun _ => False) W21 W21) := hid (Keeps.refl _ _)
        have HSS : Hd (∀ w', Keeps (fun b => b = b_T) W21 w' → (w'.cell? ⟨vb, vo + i * 4, none⟩ = some (.int .i64 x.kd) ∧ w'.cell? ⟨vb, vo + i * 4 + 1, none⟩ = some (.int .i64 x.n) ∧ w'.cell? ⟨vb, vo + i * 4 + 2, none⟩ = some (.int .i64 x.m) ∧ w'.cell? ⟨vb, vo + i * 4 + 3, none⟩ = some (.slice ad x.b.length cd))) := hid (fun w' hk => ⟨keep_cell (HK.out.trans' hk (fun b h1 h2 => by omega)) (fun h => h) HC0.out, keep_cell (HK.out.trans' hk (fun b h1 h2 => by omega)) (fun h => h) HC1.out, keep_cell (HK.out.trans' hk (fun b h1 h2 => by omega)) (fun h => h) HC2.out, keep_cell (HK.out.trans' hk (fun b h1 h2 => by omega)) (fun h => h) HC3.out⟩)
        have o_HBT_0 : W21.cell? ⟨b_T, 0, none⟩ = some ((.slice ta bs.length tc)) := blk_cell HBT.out 0
        have o_HBT_1 : W21.cell? ⟨b_T, 1, none⟩ = some ((.int .i64 a)) := blk_cell HBT.out 1
        have o_HBT_2 : W21.cell? ⟨b_T, 2, none⟩ = some ((.int .u64 (k2 : Int))) := blk_cell HBT.out 2
        have o_HBT_3 : W21.cell? ⟨b_T, 3, none⟩ = some ((.int .i64 i2)) := blk_cell HBT.out 3
        have f_HBT_0 : W21.frozen? ⟨b_T, 0, none⟩ = false := blk_free HBT.out 0
        have f_HBT_1 : W21.frozen? ⟨b_T, 1, none⟩ = false := blk_free HBT.out 1
        have f_HBT_2 : W21.frozen? ⟨b_T, 2, none⟩ = false := blk_free HBT.out 2
        have f_HBT_3 : W21.frozen? ⟨b_T, 3, none⟩ = false := blk_free HBT.out 3
        rw [lSb_eq]
        go_region_held (fun w' => w'.cell? ⟨vb, vo + i * 4, none⟩ = some (.int .i64 x.kd) ∧ w'.cell? ⟨vb, vo + i * 4 + 1, none⟩ = some (.int .i64 x.n) ∧ w'.cell? ⟨vb, vo + i * 4 + 2, none⟩ = some (.int .i64 x.m) ∧ w'.cell? ⟨vb, vo + i * 4 + 3, none⟩ = some (.slice ad x.b.length cd)) ((refine HSS.out _ ?_; (repeat (first | (with_reducible exact KC.out.mono (fun _ _ h => h.elim)) | (with_reducible exact Keeps.refl _ _) | (with_reducible apply Keeps.drewN) | (with_reducible apply Keeps.drew) | (with_reducible refine Keeps.setCell (S := fun b => b = b_T) ?_ (.inl rfl) _))); done))
          (first
          | (go_at_call 45; (refine (HTO.out _).mono ?_); rintro e wy0 ⟨rfl, hk⟩; have KC2 : Hd (Keeps (fun _ => False) W21 wy0) := hid (Keeps.trans (S := fun _ => False) (by repeat (first | (with_reducible exact KC.out) | (with_reducible exact Keeps.refl _ _) | (with_reducible apply Keeps.drewN) | (with_reducible apply Keeps.drew) | (with_reducible apply Keeps.alloc))) hk); replace KC := KC2; clear KC2; replace hk := hid hk; have cz0 : wy0.cell? ⟨b_T, 0, none⟩ = some (.slice ta bs.length tc) := blk_cell (blk_keep HBT.out KC.out (fun h => h)) 0; have fz0 : wy0.frozen? ⟨b_T, 0, none⟩ = false := blk_free (blk_keep HBT.out KC.out (fun h => h)) 0; have cz1 : wy0.cell? ⟨b_T, 1, none⟩ = some (.int .i64 a) := blk_cell (blk_keep HBT.out KC.out (fun h => h)) 1; have fz1 : wy0.frozen? ⟨b_T, 1, none⟩ = false := blk_free (blk_keep HBT.out KC.out (fun h => h)) 1; have cz2 : wy0.cell? ⟨b_T, 2, none⟩ = some (.int .u64 (k2 : Int)) := blk_cell (blk_keep HBT.out KC.out (fun h => h)) 2; have fz2 : wy0.frozen? ⟨b_T, 2, none⟩ = false := blk_free (blk_keep HBT.out KC.out (fun h => h)) 2; have cz3 : wy0.cell? ⟨b_T, 3, none⟩ = some (.int .i64 i2) := blk_cell (blk_keep HBT.out KC.out (fun h => h)) 3; have fz3 : wy0.frozen? ⟨b_T, 3, none⟩ = false := blk_free (blk_keep HBT.out KC.out (fun h => h)) 3)
          | (go_at_call 46; (refine (HCF.out _ (by repeat (first | (with_reducible exact KC.out) | (with_reducible exact Keeps.refl _ _) | (with_reducible apply Keeps.drewN) | (with_reducible apply Keeps.drew) | (with_reducible apply Keeps.alloc)))).mono ?_); rintro e wy1 ⟨rfl, hk⟩; have KC2 : Hd (Keeps (fun _ => False) W21 wy1) := hid (Keeps.trans (S := fun _ => False) (by repeat (first | (with_reducible exact KC.out) | (with_reducible exact Keeps.refl _ _) | (with_reducible apply Keeps.drewN) | (with_reducible apply Keeps.drew) | (with_reducible apply Keeps.alloc))) hk); replace KC := KC2; clear KC2; replace hk := hid hk; have cz0 : wy1.cell? ⟨b_T, 0, none⟩ = some (.slice ta bs.length tc) := blk_cell (blk_keep HBT.out KC.out (fun h => h)) 0; have fz0 : wy1.frozen? ⟨b_T, 0, none⟩ = false := blk_free (blk_keep HBT.out KC.out (fun h => h)) 0; have cz1 : wy1.cell? ⟨b_T, 1, none⟩ = some (.int .i64 a) := blk_cell (blk_keep HBT.out KC.out (fun h => h)) 1; have fz1 : wy1.frozen? ⟨b_T, 1, none⟩ = false := blk_free (blk_keep HBT.out KC.out (fun h => h)) 1; have cz2 : wy1.cell? ⟨b_T, 2, none⟩ = some (.int .u64 (k2 : Int)) := blk_cell (blk_keep HBT.out KC.out (fun h => h)) 2; have fz2 : wy1.frozen? ⟨b_T, 2, none⟩ = false := blk_free (blk_keep HBT.out KC.out (fun h => h)) 2; have cz3 : wy1.cell? ⟨b_T, 3, none⟩ = some (.int .i64 i2) := blk_cell (blk_keep HBT.out KC.out (fun h => h)) 3; have fz3 : wy1.frozen? ⟨b_T, 3, none⟩ = false := blk_free (blk_keep HBT.out KC.out (fun h => h)) 3))
        all_goals
          go_upto_region 32 with fail
          have k9 := keep4' wy1 b_T 0 1 2 3 (.slice ta bs.length tc) (.int .i64 a3) (.int .u64 (k3 : Int)) (.int .i64 i3)
          generalize hW : World.setCell (World.setCell (World.setCell (World.setCell wy1 _ _) _ _) _ _) _ _ = Z9
          rw [hW] at k9
          have HB9 : Hd (Blk Z9 b_T #[(.slice ta bs.length tc), (.int .i64 a3), (.int .u64 (k3 : Int)), (.int .i64 i3)] 57) := hid (by rw [← hW]; exact blk_set (blk_set (blk_set (blk_set (blk_keep HBT.out KC.out (fun h => h)) 0 _) 1 _) 2 _) 3 _)
          have HK9 : Hd (Keeps (fun b => b = b_T) W21 Z9) := hid ((KC.out.mono (fun _ _ h => h.elim)).trans' k9 (fun _ _ h => h))
          clear hW k9
          have HO9 := hid (blk_keep HBS.out HK9.out (fun h => by omega))
          have HT9 := hid (HTB.out.keep HK9.out (fun b _ h1 h2 => h1.2 h2))
          have HS9 := hid (HSB.out.keep HK9.out (fun b _ h1 h2 => h1.2 h2))
          have HK8 : Hd (Keeps (fun _ => False) w Z9) := hid (HK.out.trans' HK9.out (fun b h1 h2 => by omega))
          clear HCF HBS HBT HSB HTB HK HK9 KC HSS
          have HBT := HB9; have HBS := HO9; have HSB := HS9; have HTB := HT9; have HK := HK8
          clear HB9 HO9 HS9 HT9 HK8
          skip
          have HSS : Hd (∀ X, Keeps (fun _ => False) Z9 X → Calls Tryd.prog 38 #[.agg #[(.slice a2 bs.length c2), (.int .i64 a3), (.int .u64 (k3 : Int)), (.int .i64 i3)], .agg #[(.slice ta bs.length tc), (.int .i64 a3), (.int .u64 (k3 : Int)), (.int .i64 i3)]] X fun e w' => e = .returned (.bool true) ∧ Keeps (fun _ => False) X w') := hid (fun X hx => SameSender_true bs a3 ⟨k3, i3⟩ a2 ta c2 tc _ _ X (HSB.out.keep hx (fun _ _ _ h => h)) (HTB.out.keep hx (fun _ _ _ h => h)) (fun x hx => (HOK2.out.b x hx).2) (by have := HOK2.out.n; simp only [] at this; omega))
          have o_HBS_0 : Z9.cell? ⟨b_S, 0, none⟩ = some ((.slice a2 bs.length c2)) := blk_cell HBS.out 0
          have o_HBS_1 : Z9.cell? ⟨b_S, 1, none⟩ = some ((.int .i64 a3)) := blk_cell HBS.out 1
          have o_HBS_2 : Z9.cell? ⟨b_S, 2, none⟩ = some ((.int .u64 (k3 : Int))) := blk_cell HBS.out 2
          have o_HBS_3 : Z9.cell? ⟨b_S, 3, none⟩ = some ((.int .i64 i3)) := blk_cell HBS.out 3
          have o_HBT_0 : Z9.cell? ⟨b_T, 0, none⟩ = some ((.slice ta bs.length tc)) := blk_cell HBT.out 0
          have o_HBT_1 : Z9.cell? ⟨b_T, 1, none⟩ = some ((.int .i64 a3)) := blk_cell HBT.out 1
          have o_HBT_2 : Z9.cell? ⟨b_T, 2, none⟩ = some ((.int .u64 (k3 : Int))) := blk_cell HBT.out 2
          have o_HBT_3 : Z9.cell? ⟨b_T, 3, none⟩ = some ((.int .i64 i3)) := blk_cell HBT.out 3
          go_wp2_with fail
          refine (HSS.out _ (by repeat (first | (with_reducible exact Keeps.refl _ _) | (with_reducible apply Keeps.drewN) | (with_reducible apply Keeps.drew)))).mono ?_
          rintro e X9 ⟨rfl, hk9⟩
          clear o_HBS_0 o_HBS_1 o_HBS_2 o_HBS_3 o_HBT_0 o_HBT_1 o_HBT_2 o_HBT_3
          have hk8 : Keeps (fun _ => False) Z9 X9 := Keeps.trans (S := fun _ => False) (by repeat (first | (with_reducible exact Keeps.refl _ _) | (with_reducible apply Keeps.drewN) | (with_reducible apply Keeps.drew))) hk9
          clear hk9 HSS
          go_wp2
          go_roundw
          case rel => exact ⟨i + 1, ⟨bs, a3, ⟨k3, i3⟩⟩, a2, c2, ta, tc, by go_num, by omega, by omega, hid (blk_keep HBS.out hk8 (fun h => h)), hid (blk_keep HBT.out hk8 (fun h => h)), hid (HSB.out.keep hk8 (fun _ _ _ h => h)), hid (HTB.out.keep hk8 (fun _ _ _ h => h)), HOK2, hid (HK.out.trans hk8)⟩
          case measure => simp [intOf]; omega
      · have HTO : Hd (∀ X, Calls Tryd.prog 45 #[.agg #[.int .i64 x.kd, .int .i64 x.n, .int .i64 x.m, .slice ad x.b.length cd]] X fun e w' => e = .returned (.agg #[.int .i64 (toldM x).nx, .int .i64 (toldM x).ha, .int .i64 (toldM x).ky, .bool (toldM x).lk]) ∧ Keeps (fun _ => False) X w') := hid (fun X => told_any x ad x.b.length cd X HXO.out)
        obtain ⟨⟨p0, p1⟩, ⟨hh, hha, hhb⟩, ⟨p4, p5⟩⟩ := told_b x
        obtain ⟨⟨rn, rh, rk, rl⟩, hP⟩ : ∃ p, toldM x = p := ⟨_, rfl⟩
        rw [hP] at HTO p0 p1 hha p4 p5
        simp only [] at HTO p0 p1 hha p4 p5
        clear hP
        subst hha
        obtain ⟨ML, hML⟩ : ∃ l, (if rl then [] else misI rn (hh : Int) (max a rn) (min (max a rn + 16) (bs.length : Int) - max a rn).toNat) = l := ⟨_, rfl⟩
        have HMLL : Hd (ML.length ≤ 100) := hid (by rw [← hML]; split; simp; (have := misI_len rn (hh : Int) (max a rn) (min (max a rn + 16) (bs.length : Int) - max a rn).toNat; omega))
        have HML := hid hML
        clear hML
        have HMA : Hd (∀ X, Calls Tryd.prog 48 #[.agg #[.slice sa bs.length sc, .int .i64 a, .int .u64 (k2 : Int), .int .i64 i2], .agg #[.int .i64 rn, .int .i64 (hh : Int), .int .i64 rk, .bool rl]] X fun e w' => ∃ am cm, e = .returned (.slice am ML.length cm) ∧ Sl (fun _ => True) w' (.slice am ML.length cm) (i64s ML) ∧ Keeps (fun _ => False) X w') := hid (fun X => by have h := Missing_any bs.length sa sc a ⟨k2, i2⟩ rn (hh : Int) rk rl X (by omega) (.inl (by omega)) p0 (by omega) hao (by omega) (by omega) (by omega); rw [HML.out] at h; exact h.mono (fun e w' ⟨a, m, c, h1, h2, h3, h4⟩ => ⟨a, c, by rw [h1, h3], by rw [← h3]; exact (row_sl h2.row (by rw [i64s_length]; exact h3.symm)).mono (fun _ _ _ => trivial), h4⟩))
        have HMB : Hd (∀ X, Calls Tryd.prog 49 #[.agg #[.slice ta bs.length tc, .int .i64 a, .int .u64 (k2 : Int), .int .i64 i2], .agg #[.int .i64 rn, .int .i64 (hh : Int), .int .i64 rk, .bool rl]] X fun e w' => ∃ am cm, e = .returned (.slice am ML.length cm) ∧ Sl (fun _ => True) w' (.slice am ML.length cm) (i64s ML) ∧ Keeps (fun _ => False) X w') := hid (fun X => by have h := RMissing_any bs.length ta tc a ⟨k2, i2⟩ rn hh rk rl X (by omega) p0 (by omega) hao (by omega) (by omega); rw [HML.out] at h; exact h.mono (fun e w' ⟨a, m, c, h1, h2, h3, h4⟩ => ⟨a, c, by rw [h1, h3], by rw [← h3]; exact (row_sl h2.row (by rw [i64s_length]; exact h3.symm)).mono (fun _ _ _ => trivial), h4⟩))
        have HSI : Hd (∀ X a1 c1 a2 c2, Sl (fun _ => True) X (.slice a1 ML.length c1) (i64s ML) → Sl (fun _ => True) X (.slice a2 ML.length c2) (i64s ML) → Calls Tryd.prog 47 #[.slice a1 ML.length c1, .slice a2 ML.length c2] X fun e w' => e = .returned (.bool true) ∧ Keeps (fun _ => False) X w') := hid (fun X a1 c1 a2 c2 h1 h2 => by have h := SameInts_any _ _ _ _ ML ML X h1 h2 (by have := HMLL.out; omega); exact h.mono (fun e w' he => ⟨by simpa using he.1, drawn_keeps _ he.2⟩))
        go_upto_region 8 with fail
        have KC : Hd (Keeps (fun _ => False) V V) := hid (Keeps.refl _ _)
        have HSS : Hd (∀ w', Keeps (fun _ => False) V w' → (w'.cell? ⟨vb, vo + i * 4, none⟩ = some (.int .i64 x.kd) ∧ w'.cell? ⟨vb, vo + i * 4 + 1, none⟩ = some (.int .i64 x.n) ∧ w'.cell? ⟨vb, vo + i * 4 + 2, none⟩ = some (.int .i64 x.m) ∧ w'.cell? ⟨vb, vo + i * 4 + 3, none⟩ = some (.slice ad x.b.length cd) ∧ w'.cell? ⟨b_S, 0, none⟩ = some ((.slice sa bs.length sc)) ∧ w'.cell? ⟨b_S, 1, none⟩ = some ((.int .i64 a)) ∧ w'.cell? ⟨b_S, 2, none⟩ = some ((.int .u64 (k2 : Int))) ∧ w'.cell? ⟨b_S, 3, none⟩ = some ((.int .i64 i2)) ∧ w'.cell? ⟨b_T, 0, none⟩ = some ((.slice ta bs.length tc)) ∧ w'.cell? ⟨b_T, 1, none⟩ = some ((.int .i64 a)) ∧ w'.cell? ⟨b_T, 2, none⟩ = some ((.int .u64 (k2 : Int))) ∧ w'.cell? ⟨b_T, 3, none⟩ = some ((.int .i64 i2)))) := hid (fun w' hk => ⟨keep_cell (HK.out.trans' hk (fun b h1 h2 => by omega)) (fun h => h) HC0.out, keep_cell (HK.out.trans' hk (fun b h1 h2 => by omega)) (fun h => h) HC1.out, keep_cell (HK.out.trans' hk (fun b h1 h2 => by omega)) (fun h => h) HC2.out, keep_cell (HK.out.trans' hk (fun b h1 h2 => by omega)) (fun h => h) HC3.out, blk_cell (blk_keep HBS.out hk (fun h => h)) 0, blk_cell (blk_keep HBS.out hk (fun h => h)) 1, blk_cell (blk_keep HBS.out hk (fun h => h)) 2, blk_cell (blk_keep HBS.out hk (fun h => h)) 3, blk_cell (blk_keep HBT.out hk (fun h => h)) 0, blk_cell (blk_keep HBT.out hk (fun h => h)) 1, blk_cell (blk_keep HBT.out hk (fun h => h)) 2, blk_cell (blk_keep HBT.out hk (fun h => h)) 3⟩)
        go_region_held (fun w' => w'.cell? ⟨vb, vo + i * 4, none⟩ = some (.int .i64 x.kd) ∧ w'.cell? ⟨vb, vo + i * 4 + 1, none⟩ = some (.int .i64 x.n) ∧ w'.cell? ⟨vb, vo + i * 4 + 2, none⟩ = some (.int .i64 x.m) ∧ w'.cell? ⟨vb, vo + i * 4 + 3, none⟩ = some (.slice ad x.b.length cd) ∧ w'.cell? ⟨b_S, 0, none⟩ = some ((.slice sa bs.length sc)) ∧ w'.cell? ⟨b_S, 1, none⟩ = some ((.int .i64 a)) ∧ w'.cell? ⟨b_S, 2, none⟩ = some ((.int .u64 (k2 : Int))) ∧ w'.cell? ⟨b_S, 3, none⟩ = some ((.int .i64 i2)) ∧ w'.cell? ⟨b_T, 0, none⟩ = some ((.slice ta bs.length tc)) ∧ w'.cell? ⟨b_T, 1, none⟩ = some ((.int .i64 a)) ∧ w'.cell? ⟨b_T, 2, none⟩ = some ((.int .u64 (k2 : Int))) ∧ w'.cell? ⟨b_T, 3, none⟩ = some ((.int .i64 i2))) (exact HSS.out _ (by repeat (first | (with_reducible exact KC.out) | (with_reducible exact Keeps.refl _ _) | (with_reducible apply Keeps.drewN) | (with_reducible apply Keeps.drew))))
          (first
          | (go_at_call 45; (refine (HTO.out _).mono ?_); rintro e wy0 ⟨rfl, hk⟩; (try (replace LA := hid (Keeps.trans (S := fun _ => False) (by repeat (first | (with_reducible exact LA.out) | (with_reducible exact Keeps.refl _ _) | (with_reducible apply Keeps.drewN) | (with_reducible apply Keeps.drew))) hk))); (try (replace LB := hid (Keeps.trans (S := fun _ => False) (by repeat (first | (with_reducible exact LB.out) | (with_reducible exact Keeps.refl _ _) | (with_reducible apply Keeps.drewN) | (with_reducible apply Keeps.drew))) hk))); have KC2 : Hd (Keeps (fun _ => False) V wy0) := hid (Keeps.trans (S := fun _ => False) (by repeat (first | (with_reducible exact KC.out) | (with_reducible exact Keeps.refl _ _) | (with_reducible apply Keeps.drewN) | (with_reducible apply Keeps.drew))) hk); replace KC := KC2; clear KC2 hk)
          | (go_at_call 48; (refine (HMA.out _).mono ?_); rintro e wy1 ⟨am1, cm1, rfl, hsl, hk⟩; have HLA : Hd (∀ X, Keeps (fun _ => False) wy1 X → Sl (fun _ => True) X (.slice am1 ML.length cm1) (i64s ML)) := hid (fun X hx => hsl.keep hx (fun _ _ _ h => h)); have LA : Hd (Keeps (fun _ => False) wy1 wy1) := hid (Keeps.refl _ _); clear hsl; (try (replace LB := hid (Keeps.trans (S := fun _ => False) (by repeat (first | (with_reducible exact LB.out) | (with_reducible exact Keeps.refl _ _) | (with_reducible apply Keeps.drewN) | (with_reducible apply Keeps.drew))) hk))); have KC2 : Hd (Keeps (fun _ => False) V wy1) := hid (Keeps.trans (S := fun _ => False) (by repeat (first | (with_reducible exact KC.out) | (with_reducible exact Keeps.refl _ _) | (with_reducible apply Keeps.drewN) | (with_reducible apply Keeps.drew))) hk); replace KC := KC2; clear KC2 hk)
          | (go_at_call 49; (refine (HMB.out _).mono ?_); rintro e wy2 ⟨am2, cm2, rfl, hsl, hk⟩; have HLB : Hd (∀ X, Keeps (fun _ => False) wy2 X → Sl (fun _ => True) X (.slice am2 ML.length cm2) (i64s ML)) := hid (fun X hx => hsl.keep hx (fun _ _ _ h => h)); have LB : Hd (Keeps (fun _ => False) wy2 wy2) := hid (Keeps.refl _ _); clear hsl; (try (replace LA := hid (Keeps.trans (S := fun _ => False) (by repeat (first | (with_reducible exact LA.out) | (with_reducible exact Keeps.refl _ _) | (with_reducible apply Keeps.drewN) | (with_reducible apply Keeps.drew))) hk))); have KC2 : Hd (Keeps (fun _ => False) V wy2) := hid (Keeps.trans (S := fun _ => False) (by repeat (first | (with_reducible exact KC.out) | (with_reducible exact Keeps.refl _ _) | (with_reducible apply Keeps.drewN) | (with_reducible apply Keeps.drew))) hk); replace KC := KC2; clear KC2 hk)
          | (go_at_call 47; (refine (HSI.out _ _ _ _ _ (HLA.out _ (by repeat (first | (with_reducible exact LA.out) | (with_reducible exact Keeps.refl _ _) | (with_reducible apply Keeps.drewN) | (with_reducible apply Keeps.drew)))) (HLB.out _ (by repeat (first | (with_reducible exact LB.out) | (with_reducible exact Keeps.refl _ _) | (with_reducible apply Keeps.drewN) | (with_reducible apply Keeps.drew))))).mono ?_); rintro e wy3 ⟨rfl, hk⟩; have KC2 : Hd (Keeps (fun _ => False) V wy3) := hid (Keeps.trans (S := fun _ => False) (by repeat (first | (with_reducible exact KC.out) | (with_reducible exact Keeps.refl _ _) | (with_reducible apply Keeps.drewN) | (with_reducible apply Keeps.drew))) hk); replace KC := KC2; clear KC2 hk))
        all_goals
          go_upto_region 32 with fail
          have hk : Keeps (fun _ => False) V wy3 := KC.out
          have HBS' : Hd (Blk wy3 b_S #[(.slice sa bs.length sc), (.int .i64 a), (.int .u64 (k2 : Int)), (.int .i64 i2)] 57) := hid (blk_keep HBS.out hk (fun h => h))
          have HBT' : Hd (Blk wy3 b_T #[(.slice ta bs.length tc), (.int .i64 a), (.int .u64 (k2 : Int)), (.int .i64 i2)] 57) := hid (blk_keep HBT.out hk (fun h => h))
          have HSB' : Hd (Bds (fun b => b ≠ b_S ∧ b ≠ b_T) wy3 (.slice sa bs.length sc) bs) := hid (HSB.out.keep hk (fun _ _ _ h => h))
          have HTB' : Hd (Bds (fun b => b ≠ b_S ∧ b ≠ b_T) wy3 (.slice ta bs.length tc) bs) := hid (HTB.out.keep hk (fun _ _ _ h => h))
          clear HBS HBT HSB HTB
          have HBS := HBS'
          clear HBS'
          have HBT := HBT'
          clear HBT'
          have HSB := HSB'
          clear HSB'
          have HTB := HTB'
          clear HTB'
          have HK' : Hd (Keeps (fun _ => False) w wy3) := hid (HK.out.trans hk)
          clear HK
          have HK := HK'
          clear HK'
          have z_wy3 := hk.size
          clear hk
          clear HMA HMB HML HMLL HTO HSS KC HLA HLB LA LB
          have HOK2 := hid (HOK.out.mono (Nat.le_succ i))
          have HSS : Hd (∀ X, Keeps (fun _ => False) wy3 X → Calls Tryd.prog 38 #[.agg #[(.slice sa bs.length sc), (.int .i64 a), (.int .u64 (k2 : Int)), (.int .i64 i2)], .agg #[(.slice ta bs.length tc), (.int .i64 a), (.int .u64 (k2 : Int)), (.int .i64 i2)]] X fun e w' => e = .returned (.bool true) ∧ Keeps (fun _ => False) X w') := hid (fun X hx => SameSender_true bs a ⟨k2, i2⟩ sa ta sc tc _ _ X (HSB.out.keep hx (fun _ _ _ h => h)) (HTB.out.keep hx (fun _ _ _ h => h)) (fun x hx => (HOK2.out.b x hx).2) (by have := HOK2.out.n; simp only [] at this; omega))
          have o_HBS_0 : wy3.cell? ⟨b_S, 0, none⟩ = some ((.slice sa bs.length sc)) := blk_cell HBS.out 0
          have o_HBS_1 : wy3.cell? ⟨b_S, 1, none⟩ = some ((.int .i64 a)) := blk_cell HBS.out 1
          have o_HBS_2 : wy3.cell? ⟨b_S, 2, none⟩ = some ((.int .u64 (k2 : Int))) := blk_cell HBS.out 2
          have o_HBS_3 : wy3.cell? ⟨b_S, 3, none⟩ = some ((.int .i64 i2)) := blk_cell HBS.out 3
          have o_HBT_0 : wy3.cell? ⟨b_T, 0, none⟩ = some ((.slice ta bs.length tc)) := blk_cell HBT.out 0
          have o_HBT_1 : wy3.cell? ⟨b_T, 1, none⟩ = some ((.int .i64 a)) := blk_cell HBT.out 1
          have o_HBT_2 : wy3.cell? ⟨b_T, 2, none⟩ = some ((.int .u64 (k2 : Int))) := blk_cell HBT.out 2
          have o_HBT_3 : wy3.cell? ⟨b_T, 3, none⟩ = some ((.int .i64 i2)) := blk_cell HBT.out 3
          go_wp2_with fail
          refine (HSS.out _ (by repeat (first | (with_reducible exact Keeps.refl _ _) | (with_reducible apply Keeps.drewN) | (with_reducible apply Keeps.drew)))).mono ?_
          rintro e X9 ⟨rfl, hk9⟩
          clear o_HBS_0 o_HBS_1 o_HBS_2 o_HBS_3 o_HBT_0 o_HBT_1 o_HBT_2 o_HBT_3
          have hk8 : Keeps (fun _ => False) wy3 X9 := Keeps.trans (S := fun _ => False) (by repeat (first | (with_reducible exact Keeps.refl _ _) | (with_reducible apply Keeps.drewN) | (with_reducible apply Keeps.drew))) hk9
          clear hk9 HSS
          go_wp2
          go_roundw
          case rel => exact ⟨i + 1, ⟨bs, a, ⟨k2, i2⟩⟩, sa, sc, ta, tc, by go_num, by omega, by omega, hid (blk_keep HBS.out hk8 (fun h => h)), hid (blk_keep HBT.out hk8 (fun h => h)), hid (HSB.out.keep hk8 (fun _ _ _ h => h)), hid (HTB.out.keep hk8 (fun _ _ _ h => h)), HOK2, hid (HK.out.trans hk8)⟩
          case measure => simp [intOf]; omega
    · clear HBS HBT HSB HTB HOK
      by_cases hlt : i < L
      · have q1 : (i : Int) < L := by omega
        have q2 : ¬ ((i : Int) < 50) := by omega
        go_wp2_with fail
        refine (lives_any _ (HN0.out.keep HK.out (fun _ _ _ h => h))).mono ?_
        rintro e w9 ⟨rfl, hk⟩
        go_wp2
        go_ret
        exact ⟨rfl, HK.out.trans hk⟩
      · have q1 : ¬ ((i : Int) < L) := by omega
        go_wp2_with fail
        refine (lives_any _ (HN0.out.keep HK.out (fun _ _ _ h => h))).mono ?_
        rintro e w9 ⟨rfl, hk⟩
        go_wp2
        go_ret
        exact ⟨rfl, HK.out.trans hk⟩
end Go.Proofs.YthoikljmokkchaaDoor
