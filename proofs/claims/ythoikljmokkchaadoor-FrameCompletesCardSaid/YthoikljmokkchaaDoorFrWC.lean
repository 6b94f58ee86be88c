/- Frame: the senders' contracts in one form; bounds in a history. -/
import Derived.Test.YthoikljmokkchaaDoorFrWB
import Derived.Test.YthoikljmokkchaaDoorFrI
namespace Go.Proofs.YthoikljmokkchaaDoor
open Go.RowKit
theorem sl_after {X w' : World} {n : Nat} {v : Value} {l : List Value} (h : Sl (fun b => X.heap.size ≤ b) w' v l) (hn : n ≤ X.heap.size) : ∀ Y, Keeps (fun b => n ≤ b ∧ b < X.heap.size) w' Y → Sl (fun b => n ≤ b) Y v l := fun Y hk =>
  (h.keep hk (fun b _ h1 h2 => by omega)).mono (fun b _ h => by omega)
def SdR (w w' : World) (s : Sd) (a : Option Addr) (c : Nat) : Prop := Bds (fun b => w.heap.size ≤ b) w' (.slice a s.bs.length c) s.bs ∧ Keeps (fun _ => False) w w'
def EmitAll (w : World) (m : Fr × Sd × Int) (e : Ending) (w' : World) : Prop := ∃ a c a2 c2, e = .returned (.tuple #[.agg #[.int .i64 m.1.q, .int .i64 m.1.k, .bool m.1.u, .slice a m.1.b.length c, .int .u64 (m.1.t : Int)], .agg #[.slice a2 m.2.1.bs.length c2, .int .i64 m.2.1.a, .int .u64 (m.2.1.l.k : Int), .int .i64 m.2.1.l.i], .int .i64 m.2.2]) ∧
  Sl (fun b => w.heap.size ≤ b) w' (.slice a m.1.b.length c) (u8s m.1.b) ∧ Bds (fun b => w.heap.size ≤ b) w' (.slice a2 m.2.1.bs.length c2) m.2.1.bs ∧ Keeps (fun _ => False) w w'
theorem emit_err {w w' : World} {e : Ending} {er : Int} (h : e = .returned (.tuple #[.agg #[.int .i64 0, .int .i64 0, .bool false, .slice none 0 0, .int .u64 0], .agg #[.slice none 0 0, .int .i64 0, .int .u64 0, .int .i64 0], .int .i64 er]) ∧ Keeps (fun _ => False) w w') : EmitAll w (zFr, zSd, er) e w' :=
  ⟨none, 0, none, 0, h.1, Sl.nil _ _, Bds.nil _ _, h.2⟩
theorem Emit_all (s : Sd) (ba : Option Addr) (bc : Nat) (q : Int) (K : Nat → Prop) (w : World) (hv : Bds K w (.slice ba s.bs.length bc) s.bs) (hn : s.bs.length ≤ 100000) (hx : ∀ x ∈ s.bs, x.length ≤ 512 ∧ ∀ c ∈ x, c < 256) (hl : s.l.ok) (ha : 0 ≤ s.a) (ha2 : s.a ≤ 1000000000000) :
    Calls Tryd.prog 39 #[.agg #[.slice ba s.bs.length bc, .int .i64 s.a, .int .u64 (s.l.k : Int), .int .i64 s.l.i], .int .i64 q] w fun e w' => EmitAll w (emitM s q) e w' := by
  by_cases h0 : q < 0
  · rw [show emitM s q = (zFr, zSd, 5) by unfold emitM; rw [if_pos (.inl h0)]]
    exact (Emit_neg ba s.bs.length bc s.a s.l.k s.l.i q w (by omega) h0).mono (fun e w' h => emit_err h)
  · by_cases h1 : (s.bs.length : Int) ≤ q
    · rw [show emitM s q = (zFr, zSd, 5) by unfold emitM; rw [if_pos (.inr h1)]]
      exact (Emit_big ba s.bs.length bc s.a s.l.k s.l.i q w (by omega) (by omega) h1).mono (fun e w' h => emit_err h)
    · by_cases h2 : q < s.a
      · rw [show emitM s q = (zFr, zSd, 32) by unfold emitM; rw [if_neg (by omega), if_pos (.inl h2)]]
        exact (Emit_old ba s.bs.length bc s.a s.l.k s.l.i q w (by omega) (by omega) (by omega) h2).mono (fun e w' h => emit_err h)
      · by_cases h3 : s.a + 16 ≤ q
        · rw [show emitM s q = (zFr, zSd, 32) by unfold emitM; rw [if_neg (by omega), if_pos (.inr h3)]]
          exact (Emit_far ba s.bs.length bc s.a s.l.k s.l.i q w (by omega) (by omega) (by omega) (by omega) ha ha2 h3).mono (fun e w' h => emit_err h)
        · rw [show emitM s q = (signF s.l ⟨q, 0, false, s.bs.getD q.toNat [], 0⟩, ⟨s.bs, s.a, nextL s.l⟩, 0) by unfold emitM; rw [if_neg (by omega), if_neg (by omega)]]
          have h := Emit_ok s.bs (s.bs.getD q.toNat []) ba bc s.a s.l q.toNat K w hv hn hx hl (by rw [List.getD, List.getElem?_eq_getElem (by omega)]; rfl) ha (by omega) (by omega)
          rw [show ((q.toNat : Nat) : Int) = q by omega] at h
          exact h
def QueueAll (w : World) (m : Sd × Int) (e : Ending) (w' : World) : Prop := ∃ a2 c2, e = .returned (.tuple #[.agg #[.slice a2 m.1.bs.length c2, .int .i64 m.1.a, .int .u64 (m.1.l.k : Int), .int .i64 m.1.l.i], .int .i64 m.2]) ∧ Bds (fun b => w.heap.size ≤ b) w' (.slice a2 m.1.bs.length c2) m.1.bs ∧ Keeps (fun _ => False) w w'
theorem Queue_all (s : Sd) (ba : Option Addr) (bc : Nat) (body : List Nat) (a : Option Addr) (c : Nat) (K K2 : Nat → Prop) (w : World) (hv : Bds K w (.slice ba s.bs.length bc) s.bs) (hn : s.bs.length ≤ 100000) (hx : ∀ x ∈ s.bs, x.length ≤ 512) (hs : Sl K2 w (.slice a body.length c) (u8s body)) :
    Calls Tryd.prog 32 #[.agg #[.slice ba s.bs.length bc, .int .i64 s.a, .int .u64 (s.l.k : Int), .int .i64 s.l.i], .slice a body.length c] w fun e w' => QueueAll w (queueM s body) e w' := by
  unfold queueM
  by_cases h : 512 < body.length
  · rw [if_pos h]
    exact (Queue_no ba s.bs.length bc s.a s.l.k s.l.i body a c w h).mono (fun e w' h => ⟨none, 0, h.1, Bds.nil _ _, h.2⟩)
  · rw [if_neg h]
    refine (Queue_ok s.bs ba bc s.a s.l.k s.l.i body K K2 a c w hv hn hx (by omega) hs).mono (fun e w' h => ?_)
    obtain ⟨a2, c2, h1, h2, h3⟩ := h
    refine ⟨a2, c2, ?_, ?_, h3⟩
    · show e = .returned (.tuple #[.agg #[.slice a2 (s.bs ++ [body]).length c2, _, _, _], _])
      rw [List.length_append]; exact h1
    · show Bds _ w' (.slice a2 (s.bs ++ [body]).length c2) (s.bs ++ [body])
      rw [List.length_append]; exact h2
/-- bounds -/
structure WOk (m : WM) (n : Nat) : Prop where
  r : m.r.ok (5000 * (n : Int))
  f : ∀ x ∈ m.fs, x.ok
  b : ∀ x ∈ m.s.bs, ∀ c ∈ x, c < 256
  l : m.s.l.k < 18446744073709551616
theorem wok_begin {key : Nat} (h : key < 18446744073709551616) : WOk (beginM key) 0 :=
  ⟨⟨Int.le_refl _, Int.le_refl _, fun x h => (by cases h), List.Pairwise.nil, h, Int.le_refl _, Int.le_refl _⟩, fun x h => (by cases h), fun x h => (by cases h), h⟩
theorem WOk.mono {m : WM} {n k : Nat} (h : WOk m n) (hk : n ≤ k) : WOk m k := ⟨h.r.mono (by omega), h.f, h.b, h.l⟩
theorem WOk.arrive {m : WM} {n : Nat} {f : Fr} (h : WOk m n) (hn : n ≤ 100000) (hf : f.ok) : WOk (arriveM m f) (n + 1) :=
  ⟨by have := recvM_ok h.r (by omega) hf; rw [show 5000 * ((n + 1 : Nat) : Int) = 5000 * (n : Int) + 5000 by push_cast; omega]; exact this, h.f, h.b, h.l⟩
theorem WOk.lok {key : Nat} {m : WM} {n : Nat} (h : WOk m n) (hi : WInv key m n) (hn : n ≤ 100000) : m.s.l.ok := ⟨h.l, hi.l.1, by have := hi.li; omega⟩
theorem signF_okx {l : Ld} {f : Fr} (hl : l.ok) (q0 : -9223372036854775808 ≤ f.q) (q1 : f.q ≤ 9223372036854775807) (hb : ∀ c ∈ f.b, c < 256) (hn : f.b.length ≤ 512) : (signF l f).ok := by
  have h0 := hl.i0; have h1 := hl.i1
  exact ⟨q0, q1, by show _ ≤ l.i; omega, by show l.i ≤ _; omega, hb, tagN_lt _ _, by show f.b.length ≤ _; omega⟩
theorem wok_act {key : Nat} {m : WM} {n : Nat} {a : AC} (hi : WInv key m n) (h : WOk m n) (hn : n ≤ 1000) (ha : ∀ c ∈ a.b, c < 256) : WOk (actM m a) (n + 1) := by
  unfold actM
  split
  · refine ⟨(h.mono (Nat.le_succ n)).r, h.f, fun x hx => ?_, h.l⟩
    rcases List.mem_append.1 hx with hx | hx
    · exact h.b x hx
    · rw [List.mem_singleton.1 hx]; exact fun c hc => ha c (List.mem_of_mem_take hc)
  · split
    · rcases emitM_cases m.s (emitQ m a) with ⟨e, he, hem⟩ | ⟨h0, h1, h2, h3, hem⟩
      · rw [hem, if_neg he]; exact h.mono (by omega)
      · rw [hem, if_pos rfl]
        refine ⟨(h.mono (Nat.le_succ n)).r, fun x hx => ?_, h.b, stepN_lt _⟩
        rcases List.mem_append.1 hx with hx | hx
        · exact h.f x hx
        · rw [List.mem_singleton.1 hx]
          have hm := getD_mem (l := m.s.bs) (k := (emitQ m a).toNat) [] (by omega)
          exact signF_okx (h.lok hi (by omega)) (by show _ ≤ emitQ m a; omega) (by show emitQ m a ≤ _; have := hi.bn; omega) (h.b _ hm) (hi.bl _ hm)
    · split
      · split
        · rename_i hf
          have hb := around_b a.n (most := (m.fs.length : Int)) (by omega)
          exact h.arrive (by omega) (h.f _ (getD_mem zFr (show (around a.n m.fs.length).toNat < m.fs.length by omega)))
        · exact h.mono (by omega)
      · split
        · exact ⟨(h.mono (Nat.le_succ n)).r, h.f, h.b, h.l⟩
        · split
          · exact ⟨(h.mono (Nat.le_succ n)).r, h.f, h.b, by
              show iterN _ m.s.l.k < _
              exact iterN_lt h.l _⟩
          · exact h.mono (by omega)
theorem winv_gt {key : Nat} {m : WM} {n : Nat} (h : WInv key m n) : m.gt.length = m.r.nx.toNat ∧ m.gt.length ≤ n := by
  have h1 := h.r.n1; have h2 := h.bn; have h0 := h.r.n0
  have e : m.gt.length = m.r.nx.toNat := by rw [h.g, List.length_take]; omega
  exact ⟨e, by omega⟩
end Go.Proofs.YthoikljmokkchaaDoor
