/- Custody: TopP, TopQ, TopR, TopS, TopT, TopU: walks and plain facts. -/
import Derived.Test.YtgfekgceeigdiaaDoorBaseAll
namespace Go.Proofs.YtgfekgceeigdiaaDoor
/-- what a message is -/
inductive Mg where
  | off (i : Nat)
  | con (i : Nat)
  | junk
/-- a message on its way -/
structure Fg where
  t : Int
  n : Int
  to : Nat
  m : Mg
/-- a store: its bundles, those passed on, those seen -/
structure Sto where
  bs : List Nat
  ps : List Nat
  sn : List Nat
structure Rl where
  s0 : Sto
  s1 : Sto
  s2 : Sto
  fl : List Fg
  cn : Nat
def Rl.s (r : Rl) : Nat → Sto
  | 0 => r.s0
  | 1 => r.s1
  | _ => r.s2
def Rl.put (r : Rl) (k : Nat) (x : Sto) : Rl := match k with
  | 0 => { r with s0 := x }
  | 1 => { r with s1 := x }
  | _ => { r with s2 := x }
def insS : List Nat → Nat → List Nat
  | [], x => [x]
  | y :: l, x => if x < y then x :: y :: l else if x = y then y :: l else y :: insS l x
theorem mem_insS {x j : Nat} : ∀ {l : List Nat}, j ∈ insS l x ↔ j = x ∨ j ∈ l := by
  intro l
  induction l with
  | nil => simp [insS]
  | cons y l ih =>
    unfold insS
    split
    · simp
    · split
      · rename_i h; subst h; simp
      · simp only [List.mem_cons, ih]
        constructor
        · rintro (h | h | h)
          · exact .inr (.inl h)
          · exact .inl h
          · exact .inr (.inr h)
        · rintro (h | h | h)
          · exact .inr (.inl h)
          · exact .inl h
          · exact .inr (.inr h)
theorem len_insS {x : Nat} : ∀ {l : List Nat}, x ∉ l → (insS l x).length = l.length + 1 := by
  intro l
  induction l with
  | nil => intro _; rfl
  | cons y l ih =>
    intro h
    simp only [List.mem_cons, not_or] at h
    unfold insS
    split
    · rfl
    · rw [if_neg h.1, List.length_cons, ih h.2, List.length_cons]
theorem sorted_insS {x : Nat} : ∀ {l : List Nat}, l.Pairwise (· < ·) → (insS l x).Pairwise (· < ·) := by
  intro l
  induction l with
  | nil => intro _; simp [insS]
  | cons y l ih =>
    intro h
    obtain ⟨h1, h2⟩ := List.pairwise_cons.1 h
    unfold insS
    split
    · rename_i hx
      refine List.pairwise_cons.2 ⟨fun z hz => ?_, h⟩
      rcases List.mem_cons.1 hz with rfl | hz
      · exact hx
      · exact Nat.lt_trans hx (h1 z hz)
    · split
      · exact h
      · rename_i h3 h4
        refine List.pairwise_cons.2 ⟨fun z hz => ?_, ih h2⟩
        rcases mem_insS.1 hz with rfl | hz
        · omega
        · exact h1 z hz
/-- accepting a bundle -/
def accS (s : Sto) (i : Nat) : Sto := if i ∈ s.sn then s else ⟨s.bs ++ [i], s.ps, insS s.sn i⟩
/-- a bundle's end -/
def conS (s : Sto) (i : Nat) : Sto := if i ∈ s.bs then ⟨s.bs.erase i, s.ps.erase i, s.sn⟩ else s
def passS (s : Sto) (i : Nat) : Sto := { s with ps := insS s.ps i }
def retryS (s : Sto) : Sto := { s with ps := [] }
/-- the bundle that is offered next -/
def nextS (s : Sto) : Option Nat := s.bs.find? (fun i => !(s.ps.contains i))
structure Sto.ok (s : Sto) (N : Nat) : Prop where
  nd : s.bs.Nodup
  sub : ∀ i ∈ s.bs, i ∈ s.sn
  lt : ∀ i ∈ s.sn, i < N
  srt : s.sn.Pairwise (· < ·)
  srp : s.ps.Pairwise (· < ·)
theorem sorted_lenN {N : Nat} : ∀ {l : List Nat} {a : Nat}, l.Pairwise (· < ·) → (∀ x ∈ l, a ≤ x ∧ x < N) → l.length + a ≤ max N a := by
  intro l
  induction l with
  | nil => intro a _ _; simp; omega
  | cons x l ih =>
    intro a h1 h2
    obtain ⟨g1, g2⟩ := List.pairwise_cons.1 h1
    have h3 := h2 x (List.mem_cons_self ..)
    have h4 := ih (a := x + 1) g2 (fun y hy => ⟨g1 y hy, (h2 y (List.mem_cons_of_mem _ hy)).2⟩)
    rw [List.length_cons]; omega
theorem Sto.ok.len {s : Sto} {N : Nat} (h : s.ok N) : s.sn.length ≤ N := by
  have := sorted_lenN (a := 0) h.srt (fun x hx => ⟨Nat.zero_le _, h.lt x hx⟩); omega
theorem accS_ok {s : Sto} {N i : Nat} (h : s.ok N) (hi : i < N) : (accS s i).ok N := by
  unfold accS
  split
  · exact h
  · rename_i hn
    refine ⟨?_, fun j hj => ?_, fun j hj => ?_, sorted_insS h.srt, h.srp⟩
    · refine List.nodup_append.2 ⟨h.nd, by simp, fun a ha b hb e => ?_⟩
      rw [List.mem_singleton.1 hb] at e; subst e; exact hn (h.sub _ ha)
    · rcases List.mem_append.1 hj with hj | hj
      · exact mem_insS.2 (.inr (h.sub j hj))
      · exact mem_insS.2 (.inl (List.mem_singleton.1 hj))
    · rcases mem_insS.1 hj with rfl | hj
      · exact hi
      · exact h.lt j hj
theorem conS_ok {s : Sto} {N i : Nat} (h : s.ok N) : (conS s i).ok N := by
  unfold conS
  split
  · exact ⟨h.nd.sublist (List.erase_sublist ..), fun j hj => h.sub j (List.mem_of_mem_erase hj), h.lt, h.srt, h.srp.sublist (List.erase_sublist ..)⟩
  · exact h
theorem passS_ok {s : Sto} {N i : Nat} (h : s.ok N) : (passS s i).ok N := ⟨h.nd, h.sub, h.lt, h.srt, sorted_insS h.srp⟩
theorem retryS_ok {s : Sto} {N : Nat} (h : s.ok N) : (retryS s).ok N := ⟨h.nd, h.sub, h.lt, h.srt, List.Pairwise.nil⟩
theorem accS_sn {s : Sto} {i j : Nat} : j ∈ (accS s i).sn ↔ j = i ∨ j ∈ s.sn := by
  unfold accS
  split
  · rename_i h; exact ⟨.inr, fun e => by rcases e with rfl | e; exact h; exact e⟩
  · exact mem_insS
theorem conS_sn {s : Sto} {i : Nat} : (conS s i).sn = s.sn := by unfold conS; split <;> rfl
end Go.Proofs.YtgfekgceeigdiaaDoor
namespace Go.Proofs.YtgfekgceeigdiaaDoor
def fOk (N : Nat) (r : Rl) (f : Fg) : Prop := match f.m with
  | .off i => i < N ∧ (f.to = 1 ∨ f.to = 2)
  | .con i => (f.to = 0 ∧ i ∈ r.s1.sn) ∨ (f.to = 1 ∧ i ∈ r.s2.sn)
  | .junk => True
structure TInvR (N : Nat) (r : Rl) : Prop where
  k0 : r.s0.ok N
  k1 : r.s1.ok N
  k2 : r.s2.ok N
  all0 : ∀ i, i < N → i ∈ r.s0.bs ∨ i ∈ r.s1.sn
  all1 : ∀ i ∈ r.s1.sn, i ∈ r.s1.bs ∨ i ∈ r.s2.sn
  all2 : ∀ i ∈ r.s2.sn, i ∈ r.s2.bs
  fl : ∀ f ∈ r.fl, fOk N r f
theorem fOk_mono {N : Nat} {r r' : Rl} {f : Fg} (h : fOk N r f) (h1 : ∀ i ∈ r.s1.sn, i ∈ r'.s1.sn) (h2 : ∀ i ∈ r.s2.sn, i ∈ r'.s2.sn) : fOk N r' f := by
  unfold fOk at h ⊢
  cases hm : f.m with
  | off i => rw [hm] at h; exact h
  | con i =>
    rw [hm] at h
    rcases h with ⟨h, g⟩ | ⟨h, g⟩
    · exact .inl ⟨h, h1 i g⟩
    · exact .inr ⟨h, h2 i g⟩
  | junk => trivial
/-- each bundle is in some store -/
theorem TInvR.held {N : Nat} {r : Rl} (h : TInvR N r) {i : Nat} (hi : i < N) : i ∈ r.s0.bs ∨ i ∈ r.s1.bs ∨ i ∈ r.s2.bs := by
  rcases h.all0 i hi with g | g
  · exact .inl g
  · rcases h.all1 i g with g | g
    · exact .inr (.inl g)
    · exact .inr (.inr (h.all2 i g))
/-- how much is over: the bundles taken out of the first two stores -/
def doneR (N : Nat) (r : Rl) : Int := (N : Int) - r.s0.bs.length + r.s1.sn.length - r.s1.bs.length
theorem doneR_le {N : Nat} {r : Rl} (h : TInvR N r) : doneR N r ≤ 2 * N := by
  have := h.k1.len
  unfold doneR; omega
/-- a bundle arrives at node 1 -/
theorem acc1 {N i : Nat} {r : Rl} (h : TInvR N r) (hi : i < N) : TInvR N { r with s1 := accS r.s1 i } ∧ doneR N { r with s1 := accS r.s1 i } = doneR N r ∧ i ∈ (accS r.s1 i).sn ∧ (∀ j ∈ r.s1.bs, j ∈ (accS r.s1 i).bs) := by
  have e : ∀ j ∈ r.s1.sn, j ∈ (accS r.s1 i).sn := fun j hj => accS_sn.2 (.inr hj)
  refine ⟨⟨h.k0, accS_ok h.k1 hi, h.k2, fun j hj => (h.all0 j hj).imp id (e j), fun j hj => ?_, h.all2, fun f hf => fOk_mono (h.fl f hf) e (fun _ h => h)⟩, ?_, accS_sn.2 (.inl rfl), fun j hj => ?_⟩
  · show j ∈ (accS r.s1 i).bs ∨ j ∈ r.s2.sn
    have hj' : j ∈ (accS r.s1 i).sn := hj
    unfold accS at hj' ⊢
    split
    · rename_i g; rw [if_pos g] at hj'; exact h.all1 j hj'
    · rename_i g; rw [if_neg g] at hj'
      rcases mem_insS.1 hj' with rfl | hj'
      · exact .inl (by simp)
      · exact (h.all1 j hj').imp (fun g => List.mem_append.2 (.inl g)) id
  · unfold doneR accS
    simp only []
    split
    · rfl
    · rename_i g
      simp only [List.length_append, List.length_cons, List.length_nil, len_insS g]; push_cast; omega
  · unfold accS; split
    · exact hj
    · exact List.mem_append.2 (.inl hj)
/-- a bundle arrives at node 2 -/
theorem acc2 {N i : Nat} {r : Rl} (h : TInvR N r) (hi : i < N) : TInvR N { r with s2 := accS r.s2 i } ∧ doneR N { r with s2 := accS r.s2 i } = doneR N r ∧ i ∈ (accS r.s2 i).sn := by
  have e : ∀ j ∈ r.s2.sn, j ∈ (accS r.s2 i).sn := fun j hj => accS_sn.2 (.inr hj)
  refine ⟨⟨h.k0, h.k1, accS_ok h.k2 hi, h.all0, fun j hj => (h.all1 j hj).imp id (e j), fun j hj => ?_, fun f hf => fOk_mono (h.fl f hf) (fun _ h => h) e⟩, rfl, accS_sn.2 (.inl rfl)⟩
  show j ∈ (accS r.s2 i).bs
  have hj' : j ∈ (accS r.s2 i).sn := hj
  unfold accS at hj' ⊢
  split
  · rename_i g; rw [if_pos g] at hj'; exact h.all2 j hj'
  · rename_i g; rw [if_neg g] at hj'
    rcases mem_insS.1 hj' with rfl | hj'
    · simp
    · exact List.mem_append.2 (.inl (h.all2 j hj'))
theorem conS_bs {s : Sto} {i j : Nat} (hj : j ∈ s.bs) (hne : j ≠ i) : j ∈ (conS s i).bs := by
  unfold conS; split
  · exact (List.mem_erase_of_ne hne).2 hj
  · exact hj
theorem conS_len {s : Sto} {i : Nat} : ((conS s i).bs.length : Int) = s.bs.length - (if i ∈ s.bs then 1 else 0) := by
  unfold conS; split
  · rename_i h
    have h1 := List.length_erase_of_mem h
    have h2 := List.length_pos_of_mem h
    show ((s.bs.erase i).length : Int) = _
    omega
  · simp
/-- a confirmation arrives at node 0 -/
theorem con0 {N i : Nat} {r : Rl} (h : TInvR N r) (hi : i ∈ r.s1.sn) : TInvR N { r with s0 := conS r.s0 i } ∧ doneR N { r with s0 := conS r.s0 i } = doneR N r + (if i ∈ r.s0.bs then 1 else 0) := by
  refine ⟨⟨conS_ok h.k0, h.k1, h.k2, fun j hj => ?_, h.all1, h.all2, fun f hf => fOk_mono (h.fl f hf) (fun _ h => h) (fun _ h => h)⟩, ?_⟩
  · by_cases e : j = i
    · subst e; exact .inr hi
    · exact (h.all0 j hj).imp (fun g => conS_bs g e) id
  · unfold doneR; simp only [conS_len]; omega
/-- a confirmation arrives at node 1 -/
theorem con1 {N i : Nat} {r : Rl} (h : TInvR N r) (hi : i ∈ r.s2.sn) : TInvR N { r with s1 := conS r.s1 i } ∧ doneR N { r with s1 := conS r.s1 i } = doneR N r + (if i ∈ r.s1.bs then 1 else 0) := by
  refine ⟨⟨h.k0, conS_ok h.k1, h.k2, fun j hj => ?_, fun j hj => ?_, h.all2, fun f hf => fOk_mono (h.fl f hf) (fun j hj => by show j ∈ (conS r.s1 i).sn; rw [conS_sn]; exact hj) (fun _ h => h)⟩, ?_⟩
  · show j ∈ r.s0.bs ∨ j ∈ (conS r.s1 i).sn
    rw [conS_sn]; exact h.all0 j hj
  · have hj' : j ∈ r.s1.sn := by rw [← conS_sn (i := i)]; exact hj
    by_cases e : j = i
    · subst e; exact .inr hi
    · exact (h.all1 j hj').imp (fun g => conS_bs g e) id
  · unfold doneR; simp only [conS_len, conS_sn]; omega
/-- a message is sent -/
structure Sent (K : Nat → Prop) (tick : Int) (to : Nat) (m : Mg) (r r' : Rl) : Prop where
  s0 : r'.s0 = r.s0
  s1 : r'.s1 = r.s1
  s2 : r'.s2 = r.s2
  cn : r'.cn = r.cn + 1
  sub : ∀ f ∈ r.fl, f ∈ r'.fl
  new : ∀ f ∈ r'.fl, f ∈ r.fl ∨ (tick + 1 ≤ f.t ∧ f.to = to ∧ (f.m = m ∨ f.m = .junk))
  due : ¬ K r.cn → ∃ f ∈ r'.fl, f.t = tick + 1 ∧ f.to = to ∧ f.m = m
theorem Sent.inv {N : Nat} {K : Nat → Prop} {tick : Int} {to : Nat} {m : Mg} {r r' : Rl} (h : Sent K tick to m r r') (hr : TInvR N r) (hm : ∀ t n, fOk N r ⟨t, n, to, m⟩) : TInvR N r' := by
  refine ⟨by rw [h.s0]; exact hr.k0, by rw [h.s1]; exact hr.k1, by rw [h.s2]; exact hr.k2, by rw [h.s0, h.s1]; exact hr.all0, by rw [h.s1, h.s2]; exact hr.all1, by rw [h.s2]; exact hr.all2, fun f hf => ?_⟩
  have e1 : ∀ i ∈ r.s1.sn, i ∈ r'.s1.sn := by rw [h.s1]; exact fun _ h => h
  have e2 : ∀ i ∈ r.s2.sn, i ∈ r'.s2.sn := by rw [h.s2]; exact fun _ h => h
  rcases h.new f hf with g | ⟨-, g1, g2⟩
  · exact fOk_mono (hr.fl f g) e1 e2
  · rcases g2 with g2 | g2
    · refine fOk_mono (r := r) ?_ e1 e2
      have := hm f.t f.n
      unfold fOk at this ⊢
      rw [g1, g2]; exact this
    · unfold fOk; rw [g2]; trivial
theorem Sent.done {N : Nat} {K : Nat → Prop} {tick : Int} {to : Nat} {m : Mg} {r r' : Rl} (h : Sent K tick to m r r') : doneR N r' = doneR N r := by unfold doneR; rw [h.s0, h.s1]
theorem pass0 {N i : Nat} {r : Rl} (h : TInvR N r) : TInvR N { r with s0 := passS r.s0 i } ∧ doneR N { r with s0 := passS r.s0 i } = doneR N r :=
  ⟨⟨passS_ok h.k0, h.k1, h.k2, h.all0, h.all1, h.all2, fun f hf => fOk_mono (h.fl f hf) (fun _ h => h) (fun _ h => h)⟩, rfl⟩
theorem pass1 {N i : Nat} {r : Rl} (h : TInvR N r) : TInvR N { r with s1 := passS r.s1 i } ∧ doneR N { r with s1 := passS r.s1 i } = doneR N r :=
  ⟨⟨h.k0, passS_ok h.k1, h.k2, h.all0, h.all1, h.all2, fun f hf => fOk_mono (h.fl f hf) (fun _ h => h) (fun _ h => h)⟩, rfl⟩
theorem retry0 {N : Nat} {r : Rl} (h : TInvR N r) : TInvR N { r with s0 := retryS r.s0 } ∧ doneR N { r with s0 := retryS r.s0 } = doneR N r :=
  ⟨⟨retryS_ok h.k0, h.k1, h.k2, h.all0, h.all1, h.all2, fun f hf => fOk_mono (h.fl f hf) (fun _ h => h) (fun _ h => h)⟩, rfl⟩
theorem retry1 {N : Nat} {r : Rl} (h : TInvR N r) : TInvR N { r with s1 := retryS r.s1 } ∧ doneR N { r with s1 := retryS r.s1 } = doneR N r :=
  ⟨⟨h.k0, retryS_ok h.k1, h.k2, h.all0, h.all1, h.all2, fun f hf => fOk_mono (h.fl f hf) (fun _ h => h) (fun _ h => h)⟩, rfl⟩
end Go.Proofs.YtgfekgceeigdiaaDoor
namespace Go.Proofs.YtgfekgceeigdiaaDoor
theorem nodup_le : ∀ {l ks : List Nat}, l.Nodup → (∀ x ∈ l, x ∈ ks) → l.length ≤ ks.length := by
  intro l
  induction l with
  | nil => intro ks _ _; exact Nat.zero_le _
  | cons x l ih =>
    intro ks h1 h2
    obtain ⟨g1, g2⟩ := List.nodup_cons.1 h1
    have hx : x ∈ ks := h2 x (List.mem_cons_self ..)
    have h3 := ih (ks := ks.erase x) g2 (fun y hy => (List.mem_erase_of_ne (fun e => g1 (by subst e; exact hy))).2 (h2 y (List.mem_cons_of_mem _ hy)))
    rw [List.length_erase_of_mem hx] at h3
    have h4 := List.length_pos_of_mem hx
    rw [List.length_cons]; omega
/-- the struck numbers below n -/
def struck (ks : List Nat) (n : Nat) : Nat := ((List.range n).filter (fun c => ks.contains c)).length
theorem struck_le (ks : List Nat) (n : Nat) : struck ks n ≤ ks.length :=
  nodup_le (List.nodup_range.sublist (List.filter_sublist ..)) (fun x hx => by simpa using (List.mem_filter.1 hx).2)
theorem struck_succ (ks : List Nat) (n : Nat) : struck ks (n + 1) = struck ks n + (if n ∈ ks then 1 else 0) := by
  unfold struck
  rw [List.range_succ, List.filter_append, List.length_append]
  by_cases h : n ∈ ks
  · rw [if_pos h]; simp [h]
  · rw [if_neg h]; simp [h]
def mR (N : Nat) (ks : List Nat) (r : Rl) : Int := doneR N r + struck ks r.cn
def bsAt (r : Rl) (n : Nat) : List Nat := if n = 0 then r.s0.bs else r.s1.bs
/-- a step in which nothing is lost, but by getting on -/
structure Good (N : Nat) (ks : List Nat) (r r' : Rl) : Prop where
  le : mR N ks r ≤ mR N ks r'
  bs : ∀ n i, i ∈ bsAt r n → i ∈ bsAt r' n ∨ mR N ks r + 1 ≤ mR N ks r'
  fl : ∀ f ∈ r.fl, f ∈ r'.fl
theorem Good.refl (N : Nat) (ks : List Nat) (r : Rl) : Good N ks r r := ⟨Int.le_refl _, fun _ _ h => .inl h, fun _ h => h⟩
theorem Good.trans {N : Nat} {ks : List Nat} {a b c : Rl} (h : Good N ks a b) (g : Good N ks b c) : Good N ks a c := by
  have h1 := h.le; have h2 := g.le
  refine ⟨Int.le_trans h1 h2, fun n i hi => ?_, fun f hf => g.fl f (h.fl f hf)⟩
  rcases h.bs n i hi with e | e
  · rcases g.bs n i e with e | e
    · exact .inl e
    · exact .inr (by omega)
  · exact .inr (by omega)
theorem good_sent {N : Nat} {ks : List Nat} {K : Nat → Prop} {tick : Int} {to : Nat} {m : Mg} {r r' : Rl} (h : Sent K tick to m r r') : Good N ks r r' := by
  refine ⟨?_, fun n i hi => .inl (by unfold bsAt at hi ⊢; rw [h.s0, h.s1]; exact hi), h.sub⟩
  unfold mR; rw [h.done, h.cn, struck_succ]; split <;> omega
/-- a message that is sent is due at the next tick, or struck -/
theorem sent_due {N : Nat} {ks : List Nat} {tick : Int} {to : Nat} {m : Mg} {r r' : Rl} (h : Sent (fun c => c ∈ ks) tick to m r r') : (∃ f ∈ r'.fl, f.t = tick + 1 ∧ f.to = to ∧ f.m = m) ∨ mR N ks r + 1 ≤ mR N ks r' := by
  by_cases hk : r.cn ∈ ks
  · refine .inr ?_
    unfold mR; rw [h.done, h.cn, struck_succ, if_pos hk]; omega
  · exact .inl (h.due hk)
theorem good_acc1 {N i : Nat} {ks : List Nat} {r : Rl} (h : TInvR N r) (hi : i < N) : Good N ks r { r with s1 := accS r.s1 i } := by
  obtain ⟨-, h2, -, h4⟩ := acc1 h hi
  refine ⟨by unfold mR; rw [h2]; exact Int.le_refl _, fun n j hj => .inl ?_, fun _ h => h⟩
  unfold bsAt at hj ⊢
  split
  · rename_i e; rw [if_pos e] at hj; exact hj
  · rename_i e; rw [if_neg e] at hj; exact h4 j hj
theorem good_acc2 {N i : Nat} {ks : List Nat} {r : Rl} : Good N ks r { r with s2 := accS r.s2 i } := ⟨Int.le_refl _, fun _ _ h => .inl h, fun _ h => h⟩
theorem good_con0 {N i : Nat} {ks : List Nat} {r : Rl} (h : TInvR N r) (hi : i ∈ r.s1.sn) : Good N ks r { r with s0 := conS r.s0 i } ∧ (i ∈ bsAt r 0 → mR N ks r + 1 ≤ mR N ks { r with s0 := conS r.s0 i }) := by
  obtain ⟨-, h2⟩ := con0 h hi
  have e : mR N ks { r with s0 := conS r.s0 i } = mR N ks r + (if i ∈ r.s0.bs then 1 else 0) := by
    show doneR N { r with s0 := conS r.s0 i } + (struck ks r.cn : Int) = _
    rw [h2]; unfold mR; omega
  refine ⟨⟨by rw [e]; split <;> omega, fun n j hj => ?_, fun _ h => h⟩, fun hj => by rw [e, if_pos (show i ∈ r.s0.bs from hj)]; omega⟩
  by_cases hn : n = 0
  · subst hn
    by_cases hji : j = i
    · subst hji; exact .inr (by rw [e, if_pos (show j ∈ r.s0.bs from hj)]; omega)
    · exact .inl (conS_bs hj hji)
  · refine .inl ?_
    unfold bsAt at hj ⊢; rw [if_neg hn] at hj ⊢; exact hj
theorem good_con1 {N i : Nat} {ks : List Nat} {r : Rl} (h : TInvR N r) (hi : i ∈ r.s2.sn) : Good N ks r { r with s1 := conS r.s1 i } ∧ (i ∈ bsAt r 1 → mR N ks r + 1 ≤ mR N ks { r with s1 := conS r.s1 i }) := by
  obtain ⟨-, h2⟩ := con1 h hi
  have e : mR N ks { r with s1 := conS r.s1 i } = mR N ks r + (if i ∈ r.s1.bs then 1 else 0) := by
    show doneR N { r with s1 := conS r.s1 i } + (struck ks r.cn : Int) = _
    rw [h2]; unfold mR; omega
  refine ⟨⟨by rw [e]; split <;> omega, fun n j hj => ?_, fun _ h => h⟩, fun hj => by rw [e, if_pos (show i ∈ r.s1.bs from hj)]; omega⟩
  by_cases hn : n = 0
  · refine .inl ?_
    unfold bsAt at hj ⊢; rw [if_pos hn] at hj ⊢; exact hj
  · unfold bsAt at hj ⊢; rw [if_neg hn] at hj ⊢
    by_cases hji : j = i
    · subst hji; exact .inr (by rw [e, if_pos hj]; omega)
    · exact .inl (conS_bs hj hji)
theorem good_bs {N : Nat} {ks : List Nat} {r r' : Rl} (h0 : r'.s0.bs = r.s0.bs) (h1 : r'.s1.bs = r.s1.bs) (h2 : r'.s1.sn = r.s1.sn) (hc : r'.cn = r.cn) (hf : r'.fl = r.fl) : Good N ks r r' := by
  refine ⟨?_, fun n i hi => .inl (by unfold bsAt at hi ⊢; rw [h0, h1]; exact hi), fun f h => by rw [hf]; exact h⟩
  unfold mR doneR; rw [h0, h1, h2, hc]; exact Int.le_refl _
/-- an offering, or its confirmation, is due -/
def ConDue (N : Nat) (ks : List Nat) (X t : Int) (r : Rl) : Prop := X + 1 ≤ mR N ks r ∨ ∃ n i, n ≤ 1 ∧ i ∈ bsAt r n ∧ ∃ f ∈ r.fl, f.t = t ∧ f.to = n ∧ f.m = .con i
def OffDue (N : Nat) (ks : List Nat) (X t : Int) (r : Rl) : Prop := X + 1 ≤ mR N ks r ∨ ∃ n i, n ≤ 1 ∧ i ∈ bsAt r n ∧ ∃ f ∈ r.fl, f.t = t ∧ f.to = n + 1 ∧ f.m = .off i
theorem ConDue.good {N : Nat} {ks : List Nat} {X t : Int} {r r' : Rl} (h : ConDue N ks X t r) (hX : X ≤ mR N ks r) (g : Good N ks r r') : ConDue N ks X t r' := by
  have g1 := g.le
  rcases h with h | ⟨n, i, hn, hi, f, hf, h1, h2, h3⟩
  · exact .inl (by omega)
  · rcases g.bs n i hi with e | e
    · exact .inr ⟨n, i, hn, e, f, g.fl f hf, h1, h2, h3⟩
    · exact .inl (by omega)
theorem OffDue.good {N : Nat} {ks : List Nat} {X t : Int} {r r' : Rl} (h : OffDue N ks X t r) (hX : X ≤ mR N ks r) (g : Good N ks r r') : OffDue N ks X t r' := by
  have g1 := g.le
  rcases h with h | ⟨n, i, hn, hi, f, hf, h1, h2, h3⟩
  · exact .inl (by omega)
  · rcases g.bs n i hi with e | e
    · exact .inr ⟨n, i, hn, e, f, g.fl f hf, h1, h2, h3⟩
    · exact .inl (by omega)
end Go.Proofs.YtgfekgceeigdiaaDoor
namespace Go.Proofs.YtgfekgceeigdiaaDoor
/-- what a message that arrives does -/
def ArrE (ks : List Nat) (T : Int) (f : Fg) (r r' : Rl) : Prop := match f.m with
  | .off i => (f.to = 1 ∧ Sent (fun c => c ∈ ks) T 0 (.con i) { r with s1 := accS r.s1 i } r') ∨ (f.to = 2 ∧ Sent (fun c => c ∈ ks) T 1 (.con i) { r with s2 := accS r.s2 i } r')
  | .con i => (f.to = 0 ∧ r' = { r with s0 := conS r.s0 i }) ∨ (f.to = 1 ∧ r' = { r with s1 := conS r.s1 i })
  | .junk => r' = r
theorem arr_one {N : Nat} {ks : List Nat} {T : Int} {f : Fg} {r r' : Rl} (hr : TInvR N r) (hf : fOk N r f) (h : ArrE ks T f r r') :
    TInvR N r' ∧ Good N ks r r' ∧ (∀ n i, f.to = n + 1 → f.m = .off i → (∃ g ∈ r'.fl, g.t = T + 1 ∧ g.to = n ∧ g.m = .con i) ∨ mR N ks r + 1 ≤ mR N ks r') ∧
      (∀ n i, f.to = n → f.m = .con i → i ∈ bsAt r n → mR N ks r + 1 ≤ mR N ks r') ∧ (∀ i ∈ r.s1.sn, i ∈ r'.s1.sn) ∧ (∀ i ∈ r.s2.sn, i ∈ r'.s2.sn) := by
  unfold ArrE at h
  unfold fOk at hf
  cases hm : f.m with
  | off i =>
    rw [hm] at h hf
    obtain ⟨hi, -⟩ := hf
    rcases h with ⟨ht, h⟩ | ⟨ht, h⟩
    · obtain ⟨a1, a2, a3, -⟩ := acc1 hr hi
      have hg := good_acc1 (ks := ks) hr hi
      have hs := good_sent (N := N) (ks := ks) h
      refine ⟨h.inv a1 (fun t n => .inl ⟨rfl, a3⟩), hg.trans hs, fun n j hn hj => ?_, fun n j hn hj => (by cases hj), fun j hj => ?_, fun j hj => ?_⟩
      · injection hj with hj; subst hj
        obtain rfl : n = 0 := by omega
        rcases sent_due (N := N) h with e | e
        · exact .inl e
        · exact .inr (Int.le_trans (Int.add_le_add_right hg.le 1) e)
      · rw [h.s1]; exact accS_sn.2 (.inr hj)
      · rw [h.s2]; exact hj
    · obtain ⟨a1, a2, a3⟩ := acc2 hr hi
      have hg := good_acc2 (N := N) (i := i) (ks := ks) (r := r)
      have hs := good_sent (N := N) (ks := ks) h
      refine ⟨h.inv a1 (fun t n => .inr ⟨rfl, a3⟩), hg.trans hs, fun n j hn hj => ?_, fun n j hn hj => (by cases hj), fun j hj => ?_, fun j hj => ?_⟩
      · injection hj with hj; subst hj
        obtain rfl : n = 1 := by omega
        rcases sent_due (N := N) h with e | e
        · exact .inl e
        · exact .inr (Int.le_trans (Int.add_le_add_right hg.le 1) e)
      · rw [h.s1]; exact hj
      · rw [h.s2]; exact accS_sn.2 (.inr hj)
  | con i =>
    rw [hm] at h hf
    rcases h with ⟨ht, rfl⟩ | ⟨ht, rfl⟩
    · have hi : i ∈ r.s1.sn := by
        rcases hf with ⟨_, g⟩ | ⟨g, _⟩
        · exact g
        · omega
      obtain ⟨g1, g2⟩ := good_con0 (ks := ks) hr hi
      refine ⟨(con0 hr hi).1, g1, fun n j _ hj => (by cases hj), fun n j hn hj hb => ?_, fun _ h => h, fun _ h => h⟩
      injection hj with hj; subst hj
      obtain rfl : n = 0 := by omega
      exact g2 hb
    · have hi : i ∈ r.s2.sn := by
        rcases hf with ⟨g, _⟩ | ⟨_, g⟩
        · omega
        · exact g
      obtain ⟨g1, g2⟩ := good_con1 (ks := ks) hr hi
      refine ⟨(con1 hr hi).1, g1, fun n j _ hj => (by cases hj), fun n j hn hj hb => ?_, fun j hj => ?_, fun _ h => h⟩
      · injection hj with hj; subst hj
        obtain rfl : n = 1 := by omega
        exact g2 hb
      · show j ∈ (conS r.s1 i).sn
        rw [conS_sn]; exact hj
  | junk =>
    rw [hm] at h
    subst h
    exact ⟨hr, Good.refl .., fun n j _ hj => (by cases hj), fun n j _ hj => (by cases hj), fun _ h => h, fun _ h => h⟩
/-- the messages that arrive, one after the other -/
def Arrs (ks : List Nat) (T : Int) : List Fg → Rl → Rl → Prop
  | [], r, r' => r' = r
  | f :: l, r, r' => ∃ m, ArrE ks T f r m ∧ Arrs ks T l m r'
theorem arrs_snoc {ks : List Nat} {T : Int} {f : Fg} : ∀ {l : List Fg} {r m r' : Rl}, Arrs ks T l r m → ArrE ks T f m r' → Arrs ks T (l ++ [f]) r r' := by
  intro l
  induction l with
  | nil => intro r m r' h g; obtain rfl : m = r := h; exact ⟨r', g, rfl⟩
  | cons x l ih => intro r m r' h g; obtain ⟨a, h1, h2⟩ := h; exact ⟨a, h1, ih h2 g⟩
theorem arrs_all {N : Nat} {ks : List Nat} {T : Int} : ∀ {l : List Fg} {r r' : Rl}, TInvR N r → (∀ f ∈ l, fOk N r f) → Arrs ks T l r r' →
    TInvR N r' ∧ Good N ks r r' ∧ (∀ n i, n ≤ 1 → i ∈ bsAt r n → (∃ f ∈ l, f.to = n + 1 ∧ f.m = .off i) → ConDue N ks (mR N ks r) (T + 1) r') ∧
      (∀ n i, i ∈ bsAt r n → (∃ f ∈ l, f.to = n ∧ f.m = .con i) → mR N ks r + 1 ≤ mR N ks r') := by
  intro l
  induction l with
  | nil =>
    intro r r' hr _ h
    obtain rfl : r' = r := h
    exact ⟨hr, Good.refl .., fun n i _ _ ⟨f, hf, _⟩ => (by cases hf), fun n i _ ⟨f, hf, _⟩ => (by cases hf)⟩
  | cons x l ih =>
    intro r r' hr hl h
    obtain ⟨m, h1, h2⟩ := h
    obtain ⟨a1, a2, a3, a4, a5, a6⟩ := arr_one hr (hl x (List.mem_cons_self ..)) h1
    obtain ⟨b1, b2, b3, b4⟩ := ih a1 (fun f hf => fOk_mono (hl f (List.mem_cons_of_mem _ hf)) a5 a6) h2
    have l1 := a2.le; have l2 := b2.le
    refine ⟨b1, a2.trans b2, fun n i hn hi ⟨f, hf, h3, h4⟩ => ?_, fun n i hi ⟨f, hf, h3, h4⟩ => ?_⟩
    · rcases a2.bs n i hi with e | e
      · rcases List.mem_cons.1 hf with rfl | hf
        · rcases a3 n i h3 h4 with g | g
          · exact ConDue.good (r := m) (.inr ⟨n, i, hn, e, g⟩) l1 b2
          · exact .inl (by omega)
        · rcases b3 n i hn e ⟨f, hf, h3, h4⟩ with g | g
          · exact .inl (by omega)
          · exact .inr g
      · exact .inl (by omega)
    · rcases a2.bs n i hi with e | e
      · rcases List.mem_cons.1 hf with rfl | hf
        · have := a4 n i h3 h4 hi; omega
        · have := b4 n i e ⟨f, hf, h3, h4⟩; omega
      · omega
end Go.Proofs.YtgfekgceeigdiaaDoor
namespace Go.Proofs.YtgfekgceeigdiaaDoor
def Fin (r : Rl) : Prop := r.s0.bs = [] ∧ r.s1.bs = []
/-- what a craft offers at a tick -/
def Node0 (ks : List Nat) (T : Nat) (r r' : Rl) : Prop := ∃ s, s = (if T % 7 = 0 then retryS r.s0 else r.s0) ∧ ((nextS s = none ∧ r' = { r with s0 := s }) ∨ ∃ i, nextS s = some i ∧ Sent (fun c => c ∈ ks) (T : Int) 1 (.off i) { r with s0 := passS s i } r')
def Node1 (ks : List Nat) (T : Nat) (r r' : Rl) : Prop := ∃ s, s = (if T % 7 = 0 then retryS r.s1 else r.s1) ∧ ((nextS s = none ∧ r' = { r with s1 := s }) ∨ ∃ i, nextS s = some i ∧ Sent (fun c => c ∈ ks) (T : Int) 2 (.off i) { r with s1 := passS s i } r')
theorem nextS_mem {s : Sto} {i : Nat} (h : nextS s = some i) : i ∈ s.bs := List.mem_of_find?_eq_some h
theorem nextS_some {s : Sto} (h : s.bs ≠ []) : ∃ i, nextS (retryS s) = some i := by
  obtain ⟨x, l, e⟩ := List.exists_cons_of_ne_nil h
  exact ⟨x, by unfold nextS retryS; simp [e]⟩
theorem ret_bs (b : Prop) [Decidable b] (s : Sto) : (if b then retryS s else s).bs = s.bs := by split <;> rfl
theorem ret_sn (b : Prop) [Decidable b] (s : Sto) : (if b then retryS s else s).sn = s.sn := by split <;> rfl
theorem node0 {N : Nat} {ks : List Nat} {T : Nat} {r r' : Rl} (hr : TInvR N r) (h : Node0 ks T r r') :
    TInvR N r' ∧ Good N ks r r' ∧ r'.s0.bs = r.s0.bs ∧ r'.s1.bs = r.s1.bs ∧ (T % 7 = 0 → r.s0.bs ≠ [] → OffDue N ks (mR N ks r) (T + 1) r') := by
  obtain ⟨s, hs, h⟩ := h
  have hb : s.bs = r.s0.bs := by rw [hs]; exact ret_bs _ _
  have hsn : s.sn = r.s0.sn := by rw [hs]; exact ret_sn _ _
  have hi : TInvR N { r with s0 := s } := by
    rw [hs]; split
    · exact (retry0 hr).1
    · exact hr
  rcases h with ⟨h0, rfl⟩ | ⟨i, h0, h⟩
  · refine ⟨hi, good_bs hb rfl rfl rfl rfl, hb, rfl, fun h7 hne => ?_⟩
    obtain ⟨i, e⟩ := nextS_some hne
    rw [if_pos h7] at hs; rw [hs, e] at h0; cases h0
  · have hm : i ∈ r.s0.bs := by rw [← hb]; exact nextS_mem h0
    have hlt : i < N := hr.k0.lt i (hr.k0.sub i hm)
    have hp := (pass0 (i := i) hi).1
    have g1 : Good N ks r { r with s0 := passS s i } := good_bs hb rfl rfl rfl rfl
    have g2 := good_sent (N := N) (ks := ks) h
    refine ⟨h.inv hp (fun t n => ⟨hlt, .inl rfl⟩), g1.trans g2, by rw [h.s0]; exact hb, by rw [h.s1], fun _ _ => ?_⟩
    have l1 := g1.le; have l2 := g2.le
    rcases sent_due (N := N) h with ⟨f, hf, e1, e2, e3⟩ | e
    · exact .inr ⟨0, i, by omega, by show i ∈ r'.s0.bs; rw [h.s0]; show i ∈ s.bs; rw [hb]; exact hm, f, hf, e1, e2, e3⟩
    · exact .inl (by omega)
theorem node1 {N : Nat} {ks : List Nat} {T : Nat} {r r' : Rl} (hr : TInvR N r) (h : Node1 ks T r r') :
    TInvR N r' ∧ Good N ks r r' ∧ r'.s0.bs = r.s0.bs ∧ r'.s1.bs = r.s1.bs ∧ (T % 7 = 0 → r.s1.bs ≠ [] → OffDue N ks (mR N ks r) (T + 1) r') := by
  obtain ⟨s, hs, h⟩ := h
  have hb : s.bs = r.s1.bs := by rw [hs]; exact ret_bs _ _
  have hsn : s.sn = r.s1.sn := by rw [hs]; exact ret_sn _ _
  have hi : TInvR N { r with s1 := s } := by
    rw [hs]; split
    · exact (retry1 hr).1
    · exact hr
  rcases h with ⟨h0, rfl⟩ | ⟨i, h0, h⟩
  · refine ⟨hi, good_bs rfl hb hsn rfl rfl, rfl, hb, fun h7 hne => ?_⟩
    obtain ⟨i, e⟩ := nextS_some hne
    rw [if_pos h7] at hs; rw [hs, e] at h0; cases h0
  · have hm : i ∈ r.s1.bs := by rw [← hb]; exact nextS_mem h0
    have hlt : i < N := hr.k1.lt i (hr.k1.sub i hm)
    have hp := (pass1 (i := i) hi).1
    have g1 : Good N ks r { r with s1 := passS s i } := good_bs rfl hb hsn rfl rfl
    have g2 := good_sent (N := N) (ks := ks) h
    refine ⟨h.inv hp (fun t n => ⟨hlt, .inr rfl⟩), g1.trans g2, by rw [h.s0], by rw [h.s1]; exact hb, fun _ _ => ?_⟩
    have l1 := g1.le; have l2 := g2.le
    rcases sent_due (N := N) h with ⟨f, hf, e1, e2, e3⟩ | e
    · exact .inr ⟨1, i, by omega, by show i ∈ r'.s1.bs; rw [h.s1]; show i ∈ s.bs; rw [hb]; exact hm, f, hf, e1, e2, e3⟩
    · exact .inl (by omega)
end Go.Proofs.YtgfekgceeigdiaaDoor
namespace Go.Proofs.YtgfekgceeigdiaaDoor
theorem fin_arr {N : Nat} {ks : List Nat} {T : Int} {f : Fg} {r r' : Rl} (hr : TInvR N r) (hf : fOk N r f) (h : ArrE ks T f r r') (hF : Fin r) : Fin r' := by
  obtain ⟨f0, f1⟩ := hF
  have key : ∀ i, i < N → i ∈ r.s1.sn := fun i hi => by
    rcases hr.all0 i hi with g | g
    · rw [f0] at g; cases g
    · exact g
  unfold ArrE at h
  unfold fOk at hf
  cases hm : f.m with
  | off i =>
    rw [hm] at h hf
    rcases h with ⟨_, h⟩ | ⟨_, h⟩
    · have e : accS r.s1 i = r.s1 := by unfold accS; rw [if_pos (key i hf.1)]
      exact ⟨by rw [h.s0]; exact f0, by rw [h.s1]; show (accS r.s1 i).bs = []; rw [e]; exact f1⟩
    · exact ⟨by rw [h.s0]; exact f0, by rw [h.s1]; exact f1⟩
  | con i =>
    rw [hm] at h
    rcases h with ⟨_, rfl⟩ | ⟨_, rfl⟩
    · exact ⟨by show (conS r.s0 i).bs = []; unfold conS; rw [if_neg (by rw [f0]; simp)]; exact f0, f1⟩
    · exact ⟨f0, by show (conS r.s1 i).bs = []; unfold conS; rw [if_neg (by rw [f1]; simp)]; exact f1⟩
  | junk => rw [hm] at h; subst h; exact ⟨f0, f1⟩
theorem fin_arrs {N : Nat} {ks : List Nat} {T : Int} : ∀ {l : List Fg} {r r' : Rl}, TInvR N r → (∀ f ∈ l, fOk N r f) → Arrs ks T l r r' → Fin r → Fin r' := by
  intro l
  induction l with
  | nil => intro r r' _ _ h hF; obtain rfl : r' = r := h; exact hF
  | cons x l ih =>
    intro r r' hr hl h hF
    obtain ⟨m, h1, h2⟩ := h
    obtain ⟨a1, _, _, _, a5, a6⟩ := arr_one hr (hl x (List.mem_cons_self ..)) h1
    exact ih a1 (fun f hf => fOk_mono (hl f (List.mem_cons_of_mem _ hf)) a5 a6) h2 (fin_arr hr (hl x (List.mem_cons_self ..)) h1 hF)
/-- a tick -/
def Tick (ks : List Nat) (T : Nat) (r r' : Rl) : Prop := ∃ l rest a b, r.fl = l ++ rest ∧ (∀ f ∈ l, f.t ≤ T) ∧ (∀ f ∈ rest, (T : Int) < f.t) ∧ Arrs ks T l { r with fl := rest } a ∧ Node0 ks T a b ∧ Node1 ks T b r'
/-- what is known ahead of a tick -/
def PH (N : Nat) (ks : List Nat) (T : Nat) (r : Rl) : Prop := Fin r ∨
  ((T % 7 = 0 → ((T / 7 : Nat) : Int) ≤ mR N ks r) ∧ (T % 7 = 1 → ((T / 7 : Nat) : Int) ≤ mR N ks r ∧ OffDue N ks ((T / 7 : Nat) : Int) T r) ∧
   (T % 7 = 2 → ((T / 7 : Nat) : Int) ≤ mR N ks r ∧ ConDue N ks ((T / 7 : Nat) : Int) T r) ∧ (3 ≤ T % 7 → ((T / 7 : Nat) : Int) + 1 ≤ mR N ks r))
theorem OffDue.weak {N : Nat} {ks : List Nat} {X Y t : Int} {r : Rl} (h : OffDue N ks X t r) (hY : Y ≤ X) : OffDue N ks Y t r := by
  rcases h with h | h
  · exact .inl (by omega)
  · exact .inr h
theorem ConDue.weak {N : Nat} {ks : List Nat} {X Y t : Int} {r : Rl} (h : ConDue N ks X t r) (hY : Y ≤ X) : ConDue N ks Y t r := by
  rcases h with h | h
  · exact .inl (by omega)
  · exact .inr h
theorem tick_all {N : Nat} {ks : List Nat} {T : Nat} {r r' : Rl} (hr : TInvR N r) (hp : PH N ks T r) (h : Tick ks T r r') : TInvR N r' ∧ PH N ks (T + 1) r' := by
  obtain ⟨l, rest, a, b, hfl, hl, hrest, hA, h0, h1⟩ := h
  have hr1 : TInvR N { r with fl := rest } := ⟨hr.k0, hr.k1, hr.k2, hr.all0, hr.all1, hr.all2, fun f hf => fOk_mono (hr.fl f (by rw [hfl]; exact List.mem_append.2 (.inr hf))) (fun _ h => h) (fun _ h => h)⟩
  have hlk : ∀ f ∈ l, fOk N { r with fl := rest } f := fun f hf => fOk_mono (hr.fl f (by rw [hfl]; exact List.mem_append.2 (.inl hf))) (fun _ h => h) (fun _ h => h)
  have em : mR N ks { r with fl := rest } = mR N ks r := rfl
  obtain ⟨a1, a2, a3, a4⟩ := arrs_all hr1 hlk hA
  obtain ⟨b1, b2, b3, b4, b5⟩ := node0 a1 h0
  obtain ⟨c1, c2, c3, c4, c5⟩ := node1 b1 h1
  have l1 := a2.le; have l2 := b2.le; have l3 := c2.le
  rw [em] at l1 a3 a4
  refine ⟨c1, ?_⟩
  have due : ∀ f ∈ r.fl, f.t = (T : Int) → f ∈ l := fun f hf ht => by
    rw [hfl] at hf
    rcases List.mem_append.1 hf with g | g
    · exact g
    · have := hrest f g; omega
  rcases hp with hF | ⟨p0, p1, p2, p3⟩
  · have f1 := fin_arrs hr1 hlk hA hF
    exact .inl ⟨by rw [c3, b3]; exact f1.1, by rw [c4, b4]; exact f1.2⟩
  · by_cases hFa : Fin a
    · exact .inl ⟨by rw [c3, b3]; exact hFa.1, by rw [c4, b4]; exact hFa.2⟩
    · rcases (show T % 7 = 0 ∨ T % 7 = 1 ∨ T % 7 = 2 ∨ (3 ≤ T % 7 ∧ T % 7 < 6) ∨ T % 7 = 6 by omega) with e | e | e | e | e
      · have q := p0 e
        have d : (T + 1) / 7 = T / 7 := by omega
        refine .inr ⟨fun g => by omega, fun _ => ?_, fun g => by omega, fun g => by omega⟩
        rw [d]
        refine ⟨by omega, ?_⟩
        by_cases hb0 : a.s0.bs = []
        · have hb1 : b.s1.bs ≠ [] := fun g => hFa ⟨hb0, by rw [← b4]; exact g⟩
          have g := (c5 e hb1).weak (Y := ((T / 7 : Nat) : Int)) (by omega)
          exact g
        · have g := ((b5 e hb0).weak (Y := ((T / 7 : Nat) : Int)) (by omega)).good (by omega) c2
          exact g
      · obtain ⟨q, q2⟩ := p1 e
        have d : (T + 1) / 7 = T / 7 := by omega
        refine .inr ⟨fun g => by omega, fun g => by omega, fun _ => ?_, fun g => by omega⟩
        rw [d]
        refine ⟨by omega, ?_⟩
        have g : ConDue N ks ((T / 7 : Nat) : Int) ((T : Int) + 1) a := by
          rcases q2 with q2 | ⟨n, i, hn, hi, f, hf, h2, h3, h4⟩
          · exact .inl (by omega)
          · exact (a3 n i hn hi ⟨f, due f hf h2, h3, h4⟩).weak (by omega)
        exact (g.good (by omega) b2).good (by omega) c2
      · obtain ⟨q, q2⟩ := p2 e
        have d : (T + 1) / 7 = T / 7 := by omega
        refine .inr ⟨fun g => by omega, fun g => by omega, fun g => by omega, fun _ => ?_⟩
        rw [d]
        rcases q2 with q2 | ⟨n, i, hn, hi, f, hf, h2, h3, h4⟩
        · omega
        · have := a4 n i hi ⟨f, due f hf h2, h3, h4⟩; omega
      · have q := p3 e.1
        have d : (T + 1) / 7 = T / 7 := by omega
        refine .inr ⟨fun g => by omega, fun g => by omega, fun g => by omega, fun _ => ?_⟩
        rw [d]; omega
      · have q := p3 (by omega)
        have d : (T + 1) / 7 = T / 7 + 1 := by omega
        refine .inr ⟨fun _ => ?_, fun g => by omega, fun g => by omega, fun g => by omega⟩
        rw [d]; push_cast; omega
/-- behind 400 ticks the station holds everything -/
theorem ticks_end {N : Nat} {ks : List Nat} {r : Rl} (hr : TInvR N r) (hp : PH N ks 400 r) (hN : N ≤ 8) (hk : ks.length ≤ 40) : r.s0.bs = [] ∧ r.s1.bs = [] ∧ r.s2.bs.length = N ∧ ∀ i, i < N → i ∈ r.s2.bs := by
  have hF : Fin r := by
    rcases hp with h | ⟨_, h, _, _⟩
    · exact h
    · have h1 := (h (by decide)).1
      have h2 := doneR_le hr
      have h3 := struck_le ks r.cn
      unfold mR at h1
      simp at h1
      omega
  have key : ∀ i, i < N → i ∈ r.s2.bs := fun i hi => by
    rcases hr.held hi with g | g | g
    · rw [hF.1] at g; cases g
    · rw [hF.2] at g; cases g
    · exact g
  refine ⟨hF.1, hF.2, ?_, key⟩
  have h1 := nodup_le (ks := List.range N) hr.k2.nd (fun x hx => List.mem_range.2 (hr.k2.lt x (hr.k2.sub x hx)))
  have h2 := nodup_le (l := List.range N) (ks := r.s2.bs) List.nodup_range (fun x hx => key x (List.mem_range.1 hx))
  rw [List.length_range] at h1 h2; omega
end Go.Proofs.YtgfekgceeigdiaaDoor
