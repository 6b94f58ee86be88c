/- Custody: Two, Much: walks and plain facts. -/
import Derived.Test.YtgfekgceeigdiaaDoorBaseAll
import Derived.Deep.Quiet
namespace Go.Proofs.YtgfekgceeigdiaaDoor
open Go.RowKit
section
variable {P : Program} {Q : Exit → Act → World → Prop} {ops : Array Oper}
def backB (ops : Array Oper) : Bool := (List.range ops.size).all fun i => ((ops[i]?).map (·.after.all fun e => !Region.binds .any e || decide (e.on < i))).getD true
theorem backB_spec (h : backB ops = true) {i : Nat} {o : Oper} (hi : ops[i]? = some o) : ∀ e ∈ o.after, Region.binds .any e = true → e.on < i := by
  unfold backB at h
  rw [List.all_eq_true] at h
  have hlt : i < ops.size := (Array.getElem?_eq_some_iff.1 hi).1
  have := h i (List.mem_range.2 hlt)
  rw [hi] at this
  simp only [Option.map_some, Option.getD_some] at this
  intro e he hb
  have h2 := (Array.all_eq_true_iff_forall_mem.1 this) e he
  simpa [hb] using h2
theorem all_listed (hb : backB ops = true) {listed : Array Bool} (hs : listed.size = ops.size) (hr : Region.ready .any ops listed = []) : ∀ i, i < ops.size → listed.getD i false = true := by
  intro i
  induction i using Nat.strongRecOn with
  | ind i ih =>
    intro hi
    have hsz : i < listed.size := by omega
    cases hc : listed.getD i false with
    | true => rfl
    | false =>
      exfalso
      have : i ∈ Region.ready .any ops listed := mem_ready.2 ⟨by simp only [Array.getD, hsz, dif_pos] at hc ⊢; exact hc, _, Array.getElem?_eq_getElem hi, fun e he hbe => by
        have h1 := backB_spec hb (Array.getElem?_eq_getElem hi) e he hbe
        exact ih e.on h1 (by omega)⟩
      rw [hr] at this; cases this
def unlst (listed : Array Bool) : Nat := listed.toList.count false
theorem unlst_set {listed : Array Bool} {i : Nat} (h : listed.getD i true = false) : unlst (listed.setIfInBounds i true) + 1 = unlst listed := by
  have hi : i < listed.size := by
    rcases Nat.lt_or_ge i listed.size with h1 | h1
    · exact h1
    · simp [Array.getD, Nat.not_lt.2 h1] at h
  have hv : listed[i] = false := by simpa [Array.getD, hi] using h
  unfold unlst
  rw [Array.toList_setIfInBounds]
  have h2 : listed.toList[i]? = some false := by simp [hi, hv]
  generalize listed.toList = l at h2
  clear hv hi h
  induction l generalizing i with
  | nil => simp at h2
  | cons b l ih =>
    cases i with
    | zero => simp at h2; subst h2; simp [List.count_cons]
    | succ i => simp only [List.set_cons_succ, List.count_cons]; have := ih (by simpa using h2); omega
theorem wpAny_J (J : Array Bool → Act → World → Prop)
    (hs : ∀ listed a w, listed.size = ops.size → J listed a w → ∀ i ∈ Region.ready .any ops listed, wpOp P ops Q i (fun a' w' => J (listed.setIfInBounds i true) a' w') a w)
    (he : ∀ listed a w, listed.size = ops.size → J listed a w → Region.ready .any ops listed = [] → Q .normal a w) :
    ∀ (fuel : Nat) (listed : Array Bool) (a : Act) (w : World), listed.size = ops.size → unlst listed ≤ fuel → J listed a w → wpAny P .any ops Q fuel listed a w := by
  intro fuel
  induction fuel with
  | zero =>
    intro listed a w hsz hu hj
    have hr : Region.ready .any ops listed = [] := by
      apply List.eq_nil_iff_forall_not_mem.2
      intro i hi
      have := unlst_set (mem_ready.1 hi).1
      omega
    exact ⟨hr, he _ _ _ hsz hj hr⟩
  | succ fuel ih =>
    intro listed a w hsz hu hj
    refine ⟨he _ _ _ hsz hj, fun i hi => ?_⟩
    have hun := unlst_set (mem_ready.1 hi).1
    have h1 := hs _ _ _ hsz hj i hi
    unfold wpOp at h1 ⊢
    cases ho : ops[i]? with
    | none => simp only [ho] at h1 ⊢; exact ih _ _ _ (by simpa using hsz) (by omega) h1
    | some o =>
      simp only [ho] at h1 ⊢
      split
      · rename_i hw
        simp only [hw, if_true] at h1
        rcases h1 with h1 | h1
        · exact .inl (Oper.wp_mono (fun a' w' hj => ih _ _ _ (by simpa using hsz) (by omega) hj) h1)
        · exact .inr h1
      · rename_i hw
        simp only [hw] at h1
        exact ih _ _ _ (by simpa using hsz) (by omega) h1
theorem wp_region_J {id : Nat} {a : Act} {w : World} (hm : P.follows .mixedOrders = true) (J : Array Bool → Act → World → Prop) (h0 : J (Array.replicate ops.size false) a w.drew)
    (hs : ∀ listed a w, listed.size = ops.size → J listed a w → ∀ i ∈ Region.ready .any ops listed, wpOp P ops Q i (fun a' w' => J (listed.setIfInBounds i true) a' w') a w)
    (he : ∀ listed a w, listed.size = ops.size → J listed a w → Region.ready .any ops listed = [] → Q .normal a w) : (Code.region id ops true).wp P Q a w :=
  wp_region_any hm (wpAny_J J hs he _ _ _ _ (by simp) (by simp [unlst]) h0)
theorem wpOp_ran {i : Nat} {o : Oper} {a : Act} {w w' : World} {v : Value} {K : Act → World → Prop} (ho : ops[i]? = some o) (hg : o.guard = none) (h : (execOp a.eval o).run P w = .ok (.value v) w') (hK : K (a.put o.dst v) w') : wpOp P ops Q i K a w := by
  unfold wpOp
  simp only [ho]
  rw [if_pos (by simp [Region.wanted, hg])]
  left
  unfold Oper.wp
  rw [h]; exact hK
theorem wpOp_ranL {l : List Oper} {i : Nat} {o : Oper} {a : Act} {w w' : World} {v : Value} {K : Act → World → Prop} (ho : l[i]? = some o) (hg : o.guard = none) (h : (execOp a.eval o).run P w = .ok (.value v) w') (hK : K (a.put o.dst v) w') : wpOp P l.toArray Q i K a w := wpOp_ran (by rw [List.getElem?_toArray]; exact ho) hg h hK
theorem wpOp_skip {i : Nat} {o : Oper} {a : Act} {w w' : World} {K : Act → World → Prop} (ho : ops[i]? = some o) (hg : o.guard = none) (hd : o.dst = none) (h : (execOp a.eval o).run P w = .ok .skip w') (hK : K a w') : wpOp P ops Q i K a w := by
  unfold wpOp
  simp only [ho]
  rw [if_pos (by simp [Region.wanted, hg])]
  left
  unfold Oper.wp
  rw [h]
  show K (a.put o.dst undef) w'
  rw [hd]; exact hK
theorem wpOp_call {i : Nat} {o : Oper} {a : Act} {w : World} {K : Act → World → Prop} {f : FuncId} {args : Array Value} (ho : ops[i]? = some o) (hg : o.guard = none) (h : (execOp a.eval o).run P w = .ok (.enter f args) w) (hc : Calls P f args w fun e w' => ∃ v, e = .returned v ∧ K (a.put o.dst v) w') : wpOp P ops Q i K a w := by
  unfold wpOp
  simp only [ho]
  rw [if_pos (by simp [Region.wanted, hg])]
  left
  unfold Oper.wp
  rw [h]
  exact hc.mono (fun e w' ⟨v, he, hK⟩ => by subst he; exact hK)
theorem wpOp_callL {l : List Oper} {i : Nat} {o : Oper} {a : Act} {w : World} {K : Act → World → Prop} {f : FuncId} {args : Array Value} (ho : l[i]? = some o) (hg : o.guard = none) (h : (execOp a.eval o).run P w = .ok (.enter f args) w) (hc : Calls P f args w fun e w' => ∃ v, e = .returned v ∧ K (a.put o.dst v) w') : wpOp P l.toArray Q i K a w := wpOp_call (by rw [List.getElem?_toArray]; exact ho) hg h hc
theorem wpOp_imp {i : Nat} {a : Act} {w : World} {K K' : Act → World → Prop} (h : wpOp P ops Q i K a w) (hK : ∀ a w, K a w → K' a w) : wpOp P ops Q i K' a w := by
  unfold wpOp at *
  cases ho : ops[i]? with
  | none => simp only [ho] at h ⊢; exact hK _ _ h
  | some o =>
    simp only [ho] at h ⊢
    split
    · rename_i hw
      simp only [hw, if_true] at h
      rcases h with h | h
      · exact .inl (Oper.wp_mono hK h)
      · exact .inr h
    · rename_i hw
      simp only [hw] at h
      exact hK _ _ h
theorem run_value {s : Sem Value} {w w' : World} {v : Value} (h : s.run P w = .ok v w') : (do pure (Next.value (← s)) : Sem Next).run P w = .ok (.value v) w' := by
  simp [go_sem, h, Result.andThen]
theorem run_unit {s : Sem Unit} {w w' : World} (h : s.run P w = .ok () w') : (do s; pure Next.skip : Sem Next).run P w = .ok .skip w' := by
  simp [go_sem, h, Result.andThen]
theorem eval_put {a : Act} {d t : Nat} {v : Value} : (a.put (some d) v).eval (.tmp t) = if t = d ∧ d < a.tmps.size then v else a.eval (.tmp t) := by
  show ((a.tmps.setIfInBounds d v).getD t undef) = _
  by_cases h : t = d
  · subst h
    by_cases h2 : t < a.tmps.size
    · simp [Array.getD, h2]
    · simp [Array.getD, h2, Act.eval]
  · rw [if_neg (fun e => h e.1)]
    show (a.tmps.setIfInBounds d v).getD t undef = a.tmps.getD t undef
    by_cases h2 : t < a.tmps.size
    · simp only [Array.getD, Array.size_setIfInBounds, h2, dif_pos]
      exact Array.getElem_setIfInBounds_ne h2 (Ne.symm h)
    · simp [Array.getD, h2]
end
/-- the places of a region 'p, q, .. := f(..)' -/
structure TwoC where
  ci : Nat
  mi : Nat
  x0i : Nat
  x1i : Nat
  fi : Nat
  si : Nat
  sfi : Nat
  ssi : Nat
  tC : Nat
  tM : Nat
  t0 : Nat
  t1 : Nat
  tF : Nat
  tS : Nat
  TF : TypeId
  TS : TypeId
  zF : Array Value
  zS : Array Value
  tup : Value → Value → Value
  cF : Value → Array Value
  cS : Value → Array Value
  isV : Nat → Bool
  V : Nat → Value
  R : (Nat → Prop) → Value → Value → World → Prop
structure TInv (C : TwoC) (l : List Oper) (W0 : World) (a0 : Act) (L : Nat → Bool) (gF gS : Nat) (x y : Value) (a : Act) (w : World) : Prop where
  kp : Keeps (fun _ => False) W0 w
  sz : a.tmps.size = a0.tmps.size
  df : a.defers = a0.defers
  fr : ∀ t, (∀ (i : Nat) o, l[i]? = some o → o.dst ≠ some t) → a.tmps[t]? = a0.tmps[t]?
  v : ∀ (i : Nat) o d, C.isV i = true → L i = true → l[i]? = some o → o.dst = some d → a.eval (.tmp d) = C.V i
  c : L C.ci = true → a.eval (.tmp C.tC) = C.tup x y ∧ C.R (fun b => W0.heap.size ≤ b ∧ (L C.fi = true → b ≠ gF) ∧ (L C.si = true → b ≠ gS)) x y w
  m : L C.mi = true → a.eval (.tmp C.tM) = C.tup x y ∧ L C.ci = true
  x0 : L C.x0i = true → a.eval (.tmp C.t0) = x ∧ L C.mi = true
  x1 : L C.x1i = true → a.eval (.tmp C.t1) = y ∧ L C.mi = true
  f : L C.fi = true → a.eval (.tmp C.tF) = .pointer (some ⟨gF, 0, none⟩) ∧ W0.heap.size ≤ gF ∧ ∃ cs, cs.size = C.zF.size ∧ Blk w gF cs C.TF ∧ (L C.sfi = true → cs = C.cF x)
  s : L C.si = true → a.eval (.tmp C.tS) = .pointer (some ⟨gS, 0, none⟩) ∧ W0.heap.size ≤ gS ∧ ∃ cs, cs.size = C.zS.size ∧ Blk w gS cs C.TS ∧ (L C.ssi = true → cs = C.cS y)
  ne : L C.fi = true → L C.si = true → gF ≠ gS
  sf : L C.sfi = true → L C.x0i = true ∧ L C.fi = true
  ss : L C.ssi = true → L C.x1i = true ∧ L C.si = true
/-- what the two variables' types do -/
structure TwoSem (P : Program) (C : TwoC) : Prop where
  e0 : ∀ x y, Instr.extract (C.tup x y) 0 = (pure x : Sem Value)
  e1 : ∀ x y, Instr.extract (C.tup x y) 1 = (pure y : Sem Value)
  aF : ∀ w, (Instr.alloc C.TF true (.tuple #[])).run P w = .ok (.pointer (some ⟨w.heap.size, 0, none⟩)) (w.alloc (.cells C.zF C.TF))
  aS : ∀ w, (Instr.alloc C.TS true (.tuple #[])).run P w = .ok (.pointer (some ⟨w.heap.size, 0, none⟩)) (w.alloc (.cells C.zS C.TS))
  rk : ∀ (K S : Nat → Prop) x y w w', C.R K x y w → Keeps S w w' → (∀ b, b < w.heap.size → K b → ¬ S b) → C.R K x y w'
  rm : ∀ (K K' : Nat → Prop) x y w, C.R K x y w → (∀ b, b < w.heap.size → K b → K' b) → C.R K' x y w
  stF : ∀ K x y w b cs, C.R K x y w → Blk w b cs C.TF → cs.size = C.zF.size → ∃ w', (Instr.storeAt C.TF (.pointer (some ⟨b, 0, none⟩)) x).run P w = .ok () w' ∧ Keeps (fun k => k = b) w w' ∧ Blk w' b (C.cF x) C.TF ∧ (C.cF x).size = C.zF.size
  stS : ∀ K x y w b cs, C.R K x y w → Blk w b cs C.TS → cs.size = C.zS.size → ∃ w', (Instr.storeAt C.TS (.pointer (some ⟨b, 0, none⟩)) y).run P w = .ok () w' ∧ Keeps (fun k => k = b) w w' ∧ Blk w' b (C.cS y) C.TS ∧ (C.cS y).size = C.zS.size
/-- an operation waits for another -/
def waits (o : Oper) (i : Nat) : Prop := ∃ e ∈ o.after, Region.binds .any e = true ∧ e.on = i
structure TwoH (P : Program) (C : TwoC) (l : List Oper) (W0 : World) (a0 : Act) : Prop where
  back : backB l.toArray = true
  dst : ∀ (i j : Nat) oi oj d, l[i]? = some oi → l[j]? = some oj → oi.dst = some d → oj.dst = some d → i = j
  szd : ∀ (i : Nat) o d, l[i]? = some o → o.dst = some d → d < a0.tmps.size
  hC : ∃ o, l[C.ci]? = some o ∧ o.dst = some C.tC
  hM : ∃ o, l[C.mi]? = some o ∧ o.dst = some C.tM ∧ o.op = .move (.tmp C.tC) ∧ o.guard = none ∧ waits o C.ci
  hX0 : ∃ o, l[C.x0i]? = some o ∧ o.dst = some C.t0 ∧ o.op = .extract (.tmp C.tM) 0 ∧ o.guard = none ∧ waits o C.mi
  hX1 : ∃ o, l[C.x1i]? = some o ∧ o.dst = some C.t1 ∧ o.op = .extract (.tmp C.tM) 1 ∧ o.guard = none ∧ waits o C.mi
  hF : ∃ o, l[C.fi]? = some o ∧ o.dst = some C.tF ∧ o.op = .alloc C.TF ∧ o.guard = none
  hS : ∃ o, l[C.si]? = some o ∧ o.dst = some C.tS ∧ o.op = .alloc C.TS ∧ o.guard = none
  hSF : ∃ o, l[C.sfi]? = some o ∧ o.dst = none ∧ o.op = .store C.TF (.tmp C.tF) (.tmp C.t0) ∧ o.guard = none ∧ waits o C.fi ∧ waits o C.x0i
  hSS : ∃ o, l[C.ssi]? = some o ∧ o.dst = none ∧ o.op = .store C.TS (.tmp C.tS) (.tmp C.t1) ∧ o.guard = none ∧ waits o C.si ∧ waits o C.x1i
  val : ∀ (i : Nat) o, l[i]? = some o → C.isV i = true → ∃ d, o.dst = some d
  all : ∀ i, i < l.length → C.isV i = true ∨ i = C.ci ∨ i = C.mi ∨ i = C.x0i ∨ i = C.x1i ∨ i = C.fi ∨ i = C.si ∨ i = C.sfi ∨ i = C.ssi
  nv : C.isV C.ci = false ∧ C.isV C.mi = false ∧ C.isV C.x0i = false ∧ C.isV C.x1i = false ∧ C.isV C.fi = false ∧ C.isV C.si = false ∧ C.isV C.sfi = false ∧ C.isV C.ssi = false
  ij : [C.ci, C.mi, C.x0i, C.x1i, C.fi, C.si, C.sfi, C.ssi].Nodup
  sem : TwoSem P C
/-- what an operation may count on -/
def TDeps (C : TwoC) (l : List Oper) (a0 : Act) (o : Oper) (a : Act) : Prop :=
  (∀ t, (∀ (i : Nat) o, l[i]? = some o → o.dst ≠ some t) → a.eval (.tmp t) = a0.eval (.tmp t)) ∧
  ∀ e ∈ o.after, Region.binds .any e = true → (C.isV e.on = true → ∀ o' d, l[e.on]? = some o' → o'.dst = some d → a.eval (.tmp d) = C.V e.on) ∧ (e.on = C.mi → ∃ x y, a.eval (.tmp C.tM) = C.tup x y)
section
variable {P : Program} {C : TwoC} {l : List Oper} {W0 : World} {a0 : Act} {L : Nat → Bool} {gF gS : Nat} {x y : Value} {a : Act} {w w' : World}
/-- a slot that is written anew, a world that has grown: nothing that is listed changes -/
theorem TInv.put (H : TwoH P C l W0 a0) (h : TInv C l W0 a0 L gF gS x y a w) {i : Nat} {o : Oper} {d : Nat} (hi : l[i]? = some o) (hd : o.dst = some d) (hL : L i = false) (hk : Keeps (fun _ => False) w w') (u : Value) :
    TInv C l W0 a0 L gF gS x y (a.put (some d) u) w' ∧ (a.put (some d) u).eval (.tmp d) = u := by
  have hne : ∀ (j : Nat) oj t, l[j]? = some oj → oj.dst = some t → L j = true → (a.put (some d) u).eval (.tmp t) = a.eval (.tmp t) := fun j oj t hj ht hLj => by
    rw [eval_put, if_neg]
    rintro ⟨rfl, _⟩
    have := H.dst i j o oj t hi hj hd ht
    subst this
    rw [hL] at hLj; cases hLj
  obtain ⟨oC, hC, hCd⟩ := H.hC
  obtain ⟨oM, hM, hMd, -⟩ := H.hM
  obtain ⟨o0, h0, h0d, -⟩ := H.hX0
  obtain ⟨o1, h1, h1d, -⟩ := H.hX1
  obtain ⟨oF, hF, hFd, -⟩ := H.hF
  obtain ⟨oS, hS, hSd, -⟩ := H.hS
  refine ⟨⟨h.kp.trans hk, ?_, h.df, fun t ht => ?_, fun j oj t hv hLj hj ht => (hne j oj t hj ht hLj).trans (h.v j oj t hv hLj hj ht), fun e => ?_, fun e => ?_, fun e => ?_, fun e => ?_, fun e => ?_, fun e => ?_, h.ne, h.sf, h.ss⟩, ?_⟩
  · show (a.tmps.setIfInBounds d u).size = _
    rw [Array.size_setIfInBounds]; exact h.sz
  · show (a.tmps.setIfInBounds d u)[t]? = _
    rw [Array.getElem?_setIfInBounds_ne (fun e => by subst e; exact ht i o hi hd)]
    exact h.fr t ht
  · exact ⟨(hne _ _ _ hC hCd e).trans (h.c e).1, H.sem.rk _ _ _ _ _ _ (h.c e).2 hk (fun _ _ _ h => h)⟩
  · exact ⟨(hne _ _ _ hM hMd e).trans (h.m e).1, (h.m e).2⟩
  · exact ⟨(hne _ _ _ h0 h0d e).trans (h.x0 e).1, (h.x0 e).2⟩
  · exact ⟨(hne _ _ _ h1 h1d e).trans (h.x1 e).1, (h.x1 e).2⟩
  · obtain ⟨e1, e2, cs, e3, e4, e5⟩ := h.f e
    exact ⟨(hne _ _ _ hF hFd e).trans e1, e2, cs, e3, blk_keep e4 hk (fun h => h), e5⟩
  · obtain ⟨e1, e2, cs, e3, e4, e5⟩ := h.s e
    exact ⟨(hne _ _ _ hS hSd e).trans e1, e2, cs, e3, blk_keep e4 hk (fun h => h), e5⟩
  · rw [eval_put, if_pos ⟨rfl, by rw [h.sz]; exact H.szd i o d hi hd⟩]
end
/-- checks on a list of operations, by reckoning -/
def noDst (l : List Oper) (t : Nat) : Bool := l.all fun o => o.dst != some t
theorem noDst_spec {l : List Oper} {t : Nat} (h : noDst l t = true) : ∀ (i : Nat) o, l[i]? = some o → o.dst ≠ some t := fun i o hi e => by
  have := List.all_eq_true.1 h o (List.mem_of_getElem? hi)
  simp [e] at this
def uniqB (l : List Oper) : Bool := (List.range l.length).all fun i => (List.range l.length).all fun j => i == j || match l[i]?, l[j]? with
  | some oi, some oj => (oi.dst.isNone || oi.dst != oj.dst)
  | _, _ => true
theorem uniqB_spec {l : List Oper} (h : uniqB l = true) : ∀ (i j : Nat) oi oj d, l[i]? = some oi → l[j]? = some oj → oi.dst = some d → oj.dst = some d → i = j := by
  intro i j oi oj d hi hj h1 h2
  have hil := (List.getElem?_eq_some_iff.1 hi).1
  have hjl := (List.getElem?_eq_some_iff.1 hj).1
  have := List.all_eq_true.1 (List.all_eq_true.1 h i (List.mem_range.2 hil)) j (List.mem_range.2 hjl)
  simp only [hi, hj, h1, h2, Bool.or_eq_true, beq_iff_eq] at this
  rcases this with h | h
  · exact h
  · simp at h
def underB (l : List Oper) (n : Nat) : Bool := l.all fun o => match o.dst with
  | some d => decide (d < n)
  | none => true
theorem underB_spec {l : List Oper} {n : Nat} (h : underB l n = true) : ∀ (i : Nat) o d, l[i]? = some o → o.dst = some d → d < n := by
  intro i o d hi hd
  have := List.all_eq_true.1 h o (List.mem_of_getElem? hi)
  simpa [hd] using this
def waitsB (o : Oper) (j : Nat) : Bool := o.after.any fun e => Region.binds .any e && e.on == j
theorem waitsB_spec {o : Oper} {j : Nat} (h : waitsB o j = true) : waits o j := by
  unfold waitsB at h
  rw [Array.any_eq_true'] at h
  obtain ⟨e, he, h1⟩ := h
  simp only [Bool.and_eq_true, beq_iff_eq] at h1
  exact ⟨e, he, h1.1, h1.2⟩
theorem TDeps.val {C : TwoC} {l : List Oper} {a0 a : Act} {o o' : Oper} {j d : Nat} (h : TDeps C l a0 o a) (hw : waitsB o j = true) (hv : C.isV j = true) (hj : l[j]? = some o') (hd : o'.dst = some d) : a.eval (.tmp d) = C.V j := by
  obtain ⟨e, he, hb, rfl⟩ := waitsB_spec hw
  exact (h.2 e he hb).1 hv o' d hj hd
theorem TDeps.tup {C : TwoC} {l : List Oper} {a0 a : Act} {o : Oper} (h : TDeps C l a0 o a) (hw : waitsB o C.mi = true) : ∃ x y, a.eval (.tmp C.tM) = C.tup x y := by
  obtain ⟨e, he, hb, hj⟩ := waitsB_spec hw
  exact (h.2 e he hb).2 hj
theorem TDeps.out {C : TwoC} {l : List Oper} {a0 a : Act} {o : Oper} {t : Nat} (h : TDeps C l a0 o a) (hn : noDst l t = true) : a.eval (.tmp t) = a0.eval (.tmp t) := h.1 t (noDst_spec hn)
def valB (f : Nat → Bool) (l : List Oper) : Bool := (List.range l.length).all fun i => !f i || match l[i]? with
  | some o => o.dst.isSome
  | none => true
def aggCells : Value → Array Value
  | .agg vs => vs
  | _ => #[]
/-- a frame whose written slots are unknown -/
def mix (f : Nat → Value) : List Bool → List Value → Nat → List Value
  | true :: bs, v :: vs, k => v :: mix f bs vs (k + 1)
  | false :: bs, _ :: vs, k => f k :: mix f bs vs (k + 1)
  | _, _, _ => []
theorem mix_get (f : Nat → Value) : ∀ (bs : List Bool) (vs : List Value) (k i : Nat), bs.length = vs.length → (mix f bs vs k)[i]? = match bs[i]? with
    | some true => vs[i]?
    | some false => some (f (k + i))
    | none => none := by
  intro bs
  induction bs with
  | nil => intro vs k i h; cases vs with
    | nil => simp [mix]
    | cons v vs => simp at h
  | cons b bs ih =>
    intro vs k i h
    cases vs with
    | nil => simp at h
    | cons v vs =>
      have h' : bs.length = vs.length := by simpa using h
      cases b <;> cases i with
      | zero => simp [mix]
      | succ i => simp only [mix, List.getElem?_cons_succ]; rw [ih vs (k + 1) i h']; congr 1; funext _; congr 2; omega
theorem act_mix {a a0 : Act} {l : List Oper} {bs : List Bool} (hsz : a.tmps.size = a0.tmps.size) (hdf : a.defers = a0.defers) (hfr : ∀ t, (∀ (i : Nat) o, l[i]? = some o → o.dst ≠ some t) → a.tmps[t]? = a0.tmps[t]?)
    (hl : bs.length = a0.tmps.size) (hb : (List.range bs.length).map (noDst l) = bs) : a = ⟨(mix (fun k => a.tmps.getD k undef) bs a0.tmps.toList 0).toArray, a0.defers⟩ := by
  have key : a.tmps = (mix (fun k => a.tmps.getD k undef) bs a0.tmps.toList 0).toArray := by
    apply Array.ext_getElem?
    intro i
    have hm := mix_get (fun k => a.tmps.getD k undef) bs a0.tmps.toList 0 i (by rw [hl]; simp)
    have e : (mix (fun k => a.tmps.getD k undef) bs a0.tmps.toList 0).toArray[i]? = (mix (fun k => a.tmps.getD k undef) bs a0.tmps.toList 0)[i]? := List.getElem?_toArray
    rw [e, hm]
    cases hbi : bs[i]? with
    | none =>
      have := List.getElem?_eq_none_iff.1 hbi
      simp only []
      rw [Array.getElem?_eq_none (by omega)]
    | some b =>
      have hi := (List.getElem?_eq_some_iff.1 hbi).1
      have hbi2 := hbi
      rw [← hb] at hbi2
      simp only [List.getElem?_map, List.getElem?_range hi, Option.map_some, Option.some.injEq] at hbi2
      cases b with
      | true => simp only []; rw [hfr i (noDst_spec hbi2)]; simp
      | false =>
        simp only [Nat.zero_add]
        have : i < a.tmps.size := by omega
        simp [Array.getD, this]
  obtain ⟨t, d⟩ := a
  simp only [] at key hdf ⊢
  rw [← key, hdf]
end Go.Proofs.YtgfekgceeigdiaaDoor
namespace Go.Proofs.YtgfekgceeigdiaaDoor.Mm
open Go.RowKit
structure MC where
  isC : Nat → Bool
  isV : Nat → Bool
  P : Nat → Nat → Bool
  isA : Nat → Bool
  isS : Nat → Bool
  V : Nat → (Nat → Value) → Value
  T : Nat → TypeId
  z : Nat → Array Value
  tgt : Nat → Nat
  src : Nat → Nat
  cF : Nat → (Nat → Value) → Array Value
  R : Nat → (Nat → Prop) → Value → World → Prop
def KM (C : MC) (L : Nat → Bool) (g : Nat → Nat) (b : Nat) : Prop := ∀ j, C.isA j = true → L j = true → b ≠ g j
def AFact (C : MC) (l : List Oper) (W0 : World) (L : Nat → Bool) (g : Nat → Nat) (r : Nat → Value) (a : Act) (w : World) (j : Nat) : Prop :=
  ∀ o d, l[j]? = some o → o.dst = some d → a.eval (.tmp d) = .pointer (some ⟨g j, 0, none⟩) ∧ W0.heap.size ≤ g j ∧ ∃ cs, cs.size = (C.z j).size ∧ Blk w (g j) cs (C.T j) ∧ (∀ s, C.isS s = true → L s = true → C.tgt s = j → cs = C.cF s r)
structure MInv (C : MC) (l : List Oper) (W0 : World) (a0 : Act) (L : Nat → Bool) (g : Nat → Nat) (r : Nat → Value) (a : Act) (w : World) : Prop where
  kp : Keeps (fun _ => False) W0 w
  sz : a.tmps.size = a0.tmps.size
  df : a.defers = a0.defers
  fr : ∀ t, (∀ (i : Nat) o, l[i]? = some o → o.dst ≠ some t) → a.tmps[t]? = a0.tmps[t]?
  v : ∀ (i : Nat) o d, C.isV i = true → L i = true → l[i]? = some o → o.dst = some d → a.eval (.tmp d) = C.V i r
  c : ∀ c, C.isC c = true → L c = true → C.R c (KM C L g) (r c) w
  al : ∀ j, C.isA j = true → L j = true → AFact C l W0 L g r a w j
  ne : ∀ j k, C.isA j = true → C.isA k = true → L j = true → L k = true → j ≠ k → g j ≠ g k
  dp : ∀ i c, C.P i c = true → L i = true → L c = true
  sp : ∀ s, C.isS s = true → L s = true → L (C.tgt s) = true
structure MSem (P : Program) (C : MC) : Prop where
  al : ∀ j w, C.isA j = true → (Instr.alloc (C.T j) true (.tuple #[])).run P w = .ok (.pointer (some ⟨w.heap.size, 0, none⟩)) (w.alloc (.cells (C.z j) (C.T j)))
  rk : ∀ c (K S : Nat → Prop) r w w', C.R c K r w → Keeps S w w' → (∀ b, b < w.heap.size → K b → ¬ S b) → C.R c K r w'
  rm : ∀ c (K K' : Nat → Prop) r w, C.R c K r w → (∀ b, b < w.heap.size → K b → K' b) → C.R c K' r w
  st : ∀ s r w b cs, C.isS s = true → (∀ c, C.P s c = true → ∃ K, C.R c K (r c) w) → Blk w b cs (C.T (C.tgt s)) → cs.size = (C.z (C.tgt s)).size → ∃ w', (Instr.storeAt (C.T (C.tgt s)) (.pointer (some ⟨b, 0, none⟩)) (C.V (C.src s) r)).run P w = .ok () w' ∧ Keeps (fun k => k = b) w w' ∧ Blk w' b (C.cF s r) (C.T (C.tgt s)) ∧ (C.cF s r).size = (C.z (C.tgt s)).size
structure MH (P : Program) (C : MC) (l : List Oper) (a0 : Act) : Prop where
  back : backB l.toArray = true
  dst : ∀ (i j : Nat) oi oj d, l[i]? = some oi → l[j]? = some oj → oi.dst = some d → oj.dst = some d → i = j
  szd : ∀ (i : Nat) o d, l[i]? = some o → o.dst = some d → d < a0.tmps.size
  val : ∀ (i : Nat) o, l[i]? = some o → C.isV i = true → ∃ d, o.dst = some d
  alo : ∀ (j : Nat) o, l[j]? = some o → C.isA j = true → (∃ d, o.dst = some d) ∧ o.op = .alloc (C.T j) ∧ o.guard = none
  sto : ∀ (s : Nat) o, l[s]? = some o → C.isS s = true → ∃ ot dt os ds, o.dst = none ∧ o.guard = none ∧ l[C.tgt s]? = some ot ∧ ot.dst = some dt ∧ l[C.src s]? = some os ∧ os.dst = some ds ∧ o.op = .store (C.T (C.tgt s)) (.tmp dt) (.tmp ds) ∧ waits o (C.tgt s) ∧ waits o (C.src s)
  stc : ∀ s, C.isS s = true → C.isA (C.tgt s) = true ∧ C.isV (C.src s) = true
  all : ∀ i, i < l.length → C.isV i = true ∨ C.isA i = true ∨ C.isS i = true
  nva : ∀ i, C.isA i = true → C.isV i = false ∧ C.isS i = false ∧ ∀ c, C.P i c = false
  nvs : ∀ i, C.isS i = true → C.isV i = false ∧ C.isA i = false
  one : ∀ s t, C.isS s = true → C.isS t = true → C.tgt s = C.tgt t → s = t
  civ : ∀ c, C.isC c = true → C.isV c = true ∧ C.P c c = true ∧ ∀ r, C.V c r = r c
  nd : ∀ i r r', C.isV i = true → (∀ c, C.P i c = true → r c = r' c) → C.V i r = C.V i r'
  ndc : ∀ s r r', C.isS s = true → (∀ c, C.P s c = true → r c = r' c) → C.cF s r = C.cF s r'
  pc : ∀ i c, C.P i c = true → C.isC c = true
  dd : ∀ (i : Nat) o c, l[i]? = some o → C.P i c = true → i ≠ c → ∃ j, waits o j ∧ C.P j c = true
  sem : MSem P C
def MDeps (C : MC) (l : List Oper) (a0 : Act) (o : Oper) (a : Act) (r : Nat → Value) : Prop :=
  (∀ t, (∀ (i : Nat) o, l[i]? = some o → o.dst ≠ some t) → a.eval (.tmp t) = a0.eval (.tmp t)) ∧
  ∀ e ∈ o.after, Region.binds .any e = true → C.isV e.on = true → ∀ o' d, l[e.on]? = some o' → o'.dst = some d → a.eval (.tmp d) = C.V e.on r
section
variable {P : Program} {C : MC} {l : List Oper} {W0 : World} {a0 : Act} {L : Nat → Bool} {g : Nat → Nat} {r : Nat → Value} {a : Act} {w w' : World}
theorem MInv.put (H : MH P C l a0) (h : MInv C l W0 a0 L g r a w) {i : Nat} {o : Oper} {d : Nat} (hi : l[i]? = some o) (hd : o.dst = some d) (hL : L i = false) (hk : Keeps (fun _ => False) w w') (u : Value) :
    MInv C l W0 a0 L g r (a.put (some d) u) w' ∧ (a.put (some d) u).eval (.tmp d) = u := by
  have hne : ∀ (j : Nat) oj t, l[j]? = some oj → oj.dst = some t → L j = true → (a.put (some d) u).eval (.tmp t) = a.eval (.tmp t) := fun j oj t hj ht hLj => by
    rw [eval_put, if_neg]
    rintro ⟨rfl, _⟩
    have := H.dst i j o oj t hi hj hd ht
    subst this
    rw [hL] at hLj; cases hLj
  refine ⟨⟨h.kp.trans hk, ?_, h.df, fun t ht => ?_, fun j oj t hv hLj hj ht => (hne j oj t hj ht hLj).trans (h.v j oj t hv hLj hj ht), fun c hc e => H.sem.rk _ _ _ _ _ _ (h.c c hc e) hk (fun _ _ _ h => h), fun j ha hLj oj t hj ht => ?_, h.ne, h.dp, h.sp⟩, ?_⟩
  · show (a.tmps.setIfInBounds d u).size = _
    rw [Array.size_setIfInBounds]; exact h.sz
  · show (a.tmps.setIfInBounds d u)[t]? = _
    rw [Array.getElem?_setIfInBounds_ne (fun e => by subst e; exact ht i o hi hd)]
    exact h.fr t ht
  · obtain ⟨e1, e2, cs, e3, e4, e5⟩ := h.al j ha hLj oj t hj ht
    exact ⟨(hne _ _ _ hj ht hLj).trans e1, e2, cs, e3, blk_keep e4 hk (fun h => h), e5⟩
  · rw [eval_put, if_pos ⟨rfl, by rw [h.sz]; exact H.szd i o d hi hd⟩]
theorem wp_many {id : Nat} {Q : Exit → Act → World → Prop} (hm : P.follows .mixedOrders = true) (H : MH P C l a0)
    (HV : ∀ (i : Nat) o, C.isV i = true → C.isC i = false → l[i]? = some o → ∀ a w r, Keeps (fun _ => False) W0 w → MDeps C l a0 o a r → (∀ c, C.P i c = true → ∃ K, C.R c K (r c) w) → wpOp P l.toArray Q i (fun a' w' => a' = a.put o.dst (C.V i r) ∧ Keeps (fun _ => False) w w') a w)
    (HC : ∀ c o, C.isC c = true → l[c]? = some o → ∀ a w r, Keeps (fun _ => False) W0 w → MDeps C l a0 o a r → (∀ c', C.P c c' = true → c' ≠ c → ∃ K, C.R c' K (r c') w) → wpOp P l.toArray Q c (fun a' w' => ∃ v, a' = a.put o.dst v ∧ Keeps (fun _ => False) w w' ∧ C.R c (fun b => b < W0.heap.size ∨ w.heap.size ≤ b) v w') a w)
    (HE : ∀ L a w g r, (∀ i, i < l.length → L i = true) → MInv C l W0 a0 L g r a w → Q .normal a w) : (Code.region id l.toArray true).wp P Q a0 W0 := by
  refine wp_region_J hm (fun listed a w => ∃ g r, MInv C l W0 a0 (fun i => listed.getD i false) g r a w) ?_ ?_ ?_
  · have hz : ∀ i, (Array.replicate l.toArray.size false).getD i false = false := fun i => by simp [Array.getD]
    refine ⟨fun _ => 0, fun _ => undef, ⟨(Keeps.refl _ _).drew, rfl, rfl, fun _ _ => rfl, ?_, ?_, ?_, ?_, ?_, ?_⟩⟩
    · intro i o d _ h; rw [hz] at h; cases h
    · intro c _ h; rw [hz] at h; cases h
    · intro j _ h; rw [hz] at h; cases h
    · intro j k _ _ h; rw [hz] at h; cases h
    · intro i c _ h; rw [hz] at h; cases h
    · intro i _ h; rw [hz] at h; cases h
  · rintro listed a w hsz ⟨g, r, h⟩ i hi
    obtain ⟨hun, o, ho, hdep⟩ := mem_ready.1 hi
    have hil : i < listed.size := by
      rcases Nat.lt_or_ge i listed.size with h1 | h1
      · exact h1
      · simp [Array.getD, Nat.not_lt.2 h1] at hun
    have hL : (fun k => listed.getD k false) i = false := by simp only [Array.getD, hil, dif_pos] at hun ⊢; exact hun
    have hol : l[i]? = some o := by simpa using ho
    generalize hLL : (fun k => listed.getD k false) = L at h hL
    have hdl : ∀ j, waits o j → L j = true := fun j ⟨e, he, hb, hj⟩ => by rw [← hLL, ← hj]; exact hdep e he hb
    have hdL : ∀ e ∈ o.after, Region.binds .any e = true → L e.on = true := fun e he hb => by rw [← hLL]; exact hdep e he hb
    obtain ⟨L', hL'⟩ : ∃ L', L' = fun k => (listed.setIfInBounds i true).getD k false := ⟨_, rfl⟩
    have on : L' i = true := by rw [hL']; simp [Array.getD, hil]
    have of : ∀ k, k ≠ i → L' k = L k := fun k hk => by
      rw [hL', ← hLL]
      by_cases h2 : k < listed.size
      · simp only [Array.getD, Array.size_setIfInBounds, h2, dif_pos]
        exact Array.getElem_setIfInBounds_ne h2 (Ne.symm hk)
      · simp [Array.getD, h2]
    have dn : ∀ k, L' k = true → k = i ∨ L k = true := fun k hk => by
      by_cases e : k = i
      · exact .inl e
      · right; rw [← of k e]; exact hk
    have up : ∀ k, L k = true → L' k = true := fun k hk => by
      by_cases e : k = i
      · rw [e]; exact on
      · rw [of k e]; exact hk
    rw [← hL']
    clear hdep hun hi
    have hTD : MDeps C l a0 o a r := by
      refine ⟨fun t ht => ?_, fun e he hb hv o' d ho' hd => h.v e.on o' d hv (hdL e he hb) ho' hd⟩
      show a.tmps.getD t undef = a0.tmps.getD t undef
      have := h.fr t ht
      simp only [Array.getD_eq_getD_getElem?] at *
      rw [this]
    have hex : ∀ j, j < l.length → ∃ oj, l[j]? = some oj := fun j hj => ⟨l[j], List.getElem?_eq_getElem hj⟩
    have hLt : ∀ j, L j = true → j < l.length := fun j hj => by
      rw [← hLL] at hj
      rcases Nat.lt_or_ge j listed.size with h1 | h1
      · rw [hsz] at h1; simpa using h1
      · simp [Array.getD, Nat.not_lt.2 h1] at hj
    have hst : ∀ s, C.isS s = true → L s = true → L (C.tgt s) = true := fun s hs hLs => h.sp s hs hLs
    have zW := h.kp.size
    have hDC : ∀ c, C.P i c = true → i ≠ c → L c = true := fun c hd hne => by
      obtain ⟨j, hj, hjd⟩ := H.dd i o c hol hd hne
      exact h.dp j c hjd (hdl j hj)
    by_cases hic : C.isC i = true
    · -- a call
      obtain ⟨ciV, ciP, ciE⟩ := H.civ i hic
      obtain ⟨d, hd⟩ := H.val _ o hol ciV
      refine wpOp_imp (HC i o hic hol a w r h.kp hTD (fun c' hp hne => ⟨_, h.c c' (H.pc _ _ hp) (hDC c' hp (Ne.symm hne))⟩)) ?_
      rintro a' w' ⟨v0, rfl, hk, hR⟩
      rw [hd]
      obtain ⟨r', hr'⟩ : ∃ r' : Nat → Value, r' = fun k => if k = i then v0 else r k := ⟨_, rfl⟩
      have r1 : r' i = v0 := by rw [hr']; simp
      have r2 : ∀ k, k ≠ i → r' k = r k := fun k hk => by rw [hr']; simp [hk]
      have hv0 : C.V i r' = v0 := (ciE r').trans r1
      have hnd : ∀ j c, C.P j c = true → L j = true → c ≠ i := fun j c hj hLj e => by
        subst e
        have := h.dp j _ hj hLj
        rw [hL] at this; cases this
      have h' : MInv C l W0 a0 L g r' a w := ⟨h.kp, h.sz, h.df, h.fr, fun j oj t hv hLj hj ht => by
          rw [h.v j oj t hv hLj hj ht]; exact H.nd j r r' hv (fun c hc => (r2 c (hnd j c hc hLj)).symm), fun c hc hLc => by
          rw [r2 c (fun e => by subst e; rw [hL] at hLc; cases hLc)]; exact h.c c hc hLc, fun j ha hLj oj t hj ht => by
          obtain ⟨e1, e2, cs, e3, e4, e5⟩ := h.al j ha hLj oj t hj ht
          exact ⟨e1, e2, cs, e3, e4, fun s hs hLs e6 => by rw [e5 s hs hLs e6]; exact H.ndc s r r' hs (fun c hc => (r2 c (hnd s c hc hLs)).symm)⟩, h.ne, h.dp, h.sp⟩
      obtain ⟨h2, he⟩ := h'.put H hol hd hL hk v0
      refine ⟨g, r', ⟨h2.kp, h2.sz, h2.df, h2.fr, fun j oj t hv hLj hj ht => ?_, fun c hc hLc => ?_, fun j ha hLj => ?_, fun j k hj hk hLj hLk hjk => ?_, fun j c hP hLj => ?_, fun s hs hLs => by
        rcases dn s hLs with rfl | hLs
        · have := (H.nvs _ hs).1; rw [ciV] at this; cases this
        · exact up _ (h.sp s hs hLs)⟩⟩
      · rcases dn j hLj with rfl | hLj
        · rw [hol] at hj; injection hj with hj; subst hj
          rw [hd] at ht; injection ht with ht; subst ht
          rw [he, hv0]
        · exact h2.v j oj t hv hLj hj ht
      · rcases dn c hLc with rfl | hLc
        · rw [r1]
          refine H.sem.rm _ _ _ _ _ hR (fun b _ hb j ha hLj e => ?_)
          rcases dn j hLj with rfl | hLj
          · have := (H.nva _ ha).1; rw [ciV] at this; cases this
          · obtain ⟨oj, hoj⟩ : ∃ oj, l[j]? = some oj := hex j (hLt j hLj)
            obtain ⟨t, ht⟩ := (H.alo j oj hoj ha).1
            obtain ⟨_, e3, cs, _, e4, _⟩ := h.al j ha hLj oj t hoj ht
            have := blk_lt e4
            rcases hb with hb | hb <;> omega
        · refine H.sem.rm _ _ _ _ _ (h2.c c hc hLc) (fun b _ hb j ha hLj => ?_)
          rcases dn j hLj with rfl | hLj
          · have := (H.nva _ ha).1; rw [ciV] at this; cases this
          · exact hb j ha hLj
      · rcases dn j hLj with rfl | hLj
        · have := (H.nva _ ha).1; rw [ciV] at this; cases this
        · intro oj t hj ht
          obtain ⟨e1, e2, cs, e3, e4, e5⟩ := h2.al j ha hLj oj t hj ht
          exact ⟨e1, e2, cs, e3, e4, fun s hs hLs e6 => by
            rcases dn s hLs with rfl | hLs
            · have := (H.nvs _ hs).1; rw [ciV] at this; cases this
            · exact e5 s hs hLs e6⟩
      · rcases dn j hLj with rfl | hLj
        · have := (H.nva _ hj).1; rw [ciV] at this; cases this
        · rcases dn k hLk with rfl | hLk
          · have := (H.nva _ hk).1; rw [ciV] at this; cases this
          · exact h.ne j k hj hk hLj hLk hjk
      · rcases dn j hLj with rfl | hLj
        · by_cases e : j = c
          · subst e; exact on
          · exact up _ (hDC c hP e)
        · exact up _ (h.dp j c hP hLj)
    · have hic2 : C.isC i = false := by simpa using hic
      rcases H.all i (List.getElem?_eq_some_iff.1 hol).1 with hv | ha | hs
      · -- a value
        obtain ⟨d, hd⟩ := H.val i o hol hv
        have hne : ∀ c, C.P i c = true → i ≠ c := fun c hp e => by subst e; rw [H.pc _ _ hp] at hic2; cases hic2
        refine wpOp_imp (HV i o hv hic2 hol a w r h.kp hTD (fun c hp => ⟨_, h.c c (H.pc _ _ hp) (hDC c hp (hne c hp))⟩)) ?_
        rintro a' w' ⟨rfl, hk⟩
        rw [hd]
        obtain ⟨h2, he⟩ := h.put H hol hd hL hk (C.V i r)
        have nA : C.isA i = false := by
          cases e : C.isA i with
          | false => rfl
          | true => have := (H.nva i e).1; rw [hv] at this; cases this
        have nS : C.isS i = false := by
          cases e : C.isS i with
          | false => rfl
          | true => have := (H.nvs i e).1; rw [hv] at this; cases this
        refine ⟨g, r, ⟨h2.kp, h2.sz, h2.df, h2.fr, fun j oj t hv2 hLj hj ht => ?_, fun c hc hLc => ?_, fun j ha hLj => ?_, fun j k hj hk hLj hLk hjk => ?_, fun j c hP hLj => ?_, fun s hs hLs => by
          rcases dn s hLs with rfl | hLs
          · rw [nS] at hs; cases hs
          · exact up _ (h.sp s hs hLs)⟩⟩
        · rcases dn j hLj with rfl | hLj
          · rw [hol] at hj; injection hj with hj; subst hj
            rw [hd] at ht; injection ht with ht; subst ht
            exact he
          · exact h2.v j oj t hv2 hLj hj ht
        · have hLc2 : L c = true := by
            rcases dn c hLc with rfl | hLc
            · rw [hc] at hic2; cases hic2
            · exact hLc
          refine H.sem.rm _ _ _ _ _ (h2.c c hc hLc2) (fun b _ hb j ha hLj => ?_)
          rcases dn j hLj with rfl | hLj
          · rw [nA] at ha; cases ha
          · exact hb j ha hLj
        · rcases dn j hLj with rfl | hLj
          · rw [nA] at ha; cases ha
          · intro oj t hj ht
            obtain ⟨e1, e2, cs, e3, e4, e5⟩ := h2.al j ha hLj oj t hj ht
            exact ⟨e1, e2, cs, e3, e4, fun s hs hLs e6 => by
              rcases dn s hLs with rfl | hLs
              · rw [nS] at hs; cases hs
              · exact e5 s hs hLs e6⟩
        · rcases dn j hLj with rfl | hLj
          · rw [nA] at hj; cases hj
          · rcases dn k hLk with rfl | hLk
            · rw [nA] at hk; cases hk
            · exact h.ne j k hj hk hLj hLk hjk
        · rcases dn j hLj with rfl | hLj
          · exact up _ (hDC c hP (hne c hP))
          · exact up _ (h.dp j c hP hLj)
      · -- a variable
        obtain ⟨⟨d, hd⟩, hop, hgd⟩ := H.alo i o hol ha
        have nV := (H.nva i ha).1; have nD := (H.nva i ha).2.2; have nS := (H.nva i ha).2.1
        refine wpOp_ran ho hgd (v := .pointer (some ⟨w.heap.size, 0, none⟩)) (w' := w.alloc (.cells (C.z i) (C.T i))) (by unfold execOp; rw [hop]; exact run_value (H.sem.al i w ha)) ?_
        rw [hd]
        obtain ⟨h2, he⟩ := h.put H hol hd hL (keeps_alloc _ w (.cells (C.z i) (C.T i))) (.pointer (some ⟨w.heap.size, 0, none⟩))
        have hlt : ∀ j, C.isA j = true → L j = true → g j < w.heap.size := fun j haj hLj => by
          obtain ⟨oj, hoj⟩ : ∃ oj, l[j]? = some oj := hex j (hLt j hLj)
          obtain ⟨t, ht⟩ := (H.alo j oj hoj haj).1
          obtain ⟨_, _, cs, _, e4, _⟩ := h.al j haj hLj oj t hoj ht
          exact blk_lt e4
        have gne : ∀ j, L j = true → j ≠ i := fun j hLj e => by subst e; rw [hL] at hLj; cases hLj
        refine ⟨fun j => if j = i then w.heap.size else g j, r, ⟨h2.kp, h2.sz, h2.df, h2.fr, fun j oj t hv2 hLj hj ht => ?_, fun c hc hLc => ?_, fun j haj hLj => ?_, fun j k hj hk hLj hLk hjk => ?_, fun j c hP hLj => ?_, fun s hs hLs => by
          rcases dn s hLs with rfl | hLs
          · rw [nS] at hs; cases hs
          · exact up _ (h.sp s hs hLs)⟩⟩
        · rcases dn j hLj with rfl | hLj
          · rw [nV] at hv2; cases hv2
          · exact h2.v j oj t hv2 hLj hj ht
        · have hLc2 : L c = true := by
            rcases dn c hLc with rfl | hLc
            · rw [hc] at hic2; cases hic2
            · exact hLc
          have h3 := h.c c hc hLc2
          refine H.sem.rk _ _ _ _ _ _ (H.sem.rm _ _ (KM C L' (fun j => if j = i then w.heap.size else g j)) _ _ h3 (fun b hb hk j haj hLj => ?_)) (keeps_alloc (fun _ => False) w _) (fun _ _ _ h => h)
          rcases dn j hLj with rfl | hLj
          · simp only [if_true]; omega
          · simp only [if_neg (gne j hLj)]; exact hk j haj hLj
        · rcases dn j hLj with rfl | hLj
          · intro oj t hj ht
            rw [hol] at hj; injection hj with hj; subst hj
            rw [hd] at ht; injection ht with ht; subst ht
            simp only [if_true]
            exact ⟨he, zW, C.z j, rfl, blk_new _ _ _, fun s hs hLs e6 => by
              rcases dn s hLs with rfl | hLs
              · rw [nS] at hs; cases hs
              · have hw := hst s hs hLs
                rw [e6, hL] at hw; cases hw⟩
          · intro oj t hj ht
            simp only [if_neg (gne j hLj)]
            obtain ⟨e1, e2, cs, e3, e4, e5⟩ := h2.al j haj hLj oj t hj ht
            exact ⟨e1, e2, cs, e3, e4, fun s hs hLs e6 => by
              rcases dn s hLs with rfl | hLs
              · rw [nS] at hs; cases hs
              · exact e5 s hs hLs e6⟩
        · rcases dn j hLj with rfl | hLj
          · rcases dn k hLk with rfl | hLk
            · exact absurd rfl hjk
            · simp only [if_true, if_neg (gne k hLk)]
              have := hlt k hk hLk; omega
          · rcases dn k hLk with rfl | hLk
            · simp only [if_true, if_neg (gne j hLj)]
              have := hlt j hj hLj; omega
            · simp only [if_neg (gne j hLj), if_neg (gne k hLk)]
              exact h.ne j k hj hk hLj hLk hjk
        · rcases dn j hLj with rfl | hLj
          · rw [nD] at hP; cases hP
          · exact up _ (h.dp j c hP hLj)
      · -- a variable is set
        obtain ⟨ot, dt, os, ds, hdn, hgd, hot, hdt, hos, hds, hop, hwt, hws⟩ := H.sto i o hol hs
        obtain ⟨cA, cV⟩ := H.stc i hs
        have hne : ∀ c, C.P i c = true → i ≠ c := fun c hp e => by subst e; rw [H.pc _ _ hp] at hic2; cases hic2
        have nV := (H.nvs i hs).1; have nA := (H.nvs i hs).2
        have hLt' := hdl _ hwt; have hLs' := hdl _ hws
        obtain ⟨e1, e2, cs, e3, e4, e5⟩ := h.al _ cA hLt' ot dt hot hdt
        obtain ⟨w', r1, r2, r3, r4⟩ := H.sem.st i r w _ cs hs (fun c hp => ⟨_, h.c c (H.pc _ _ hp) (hDC c hp (hne c hp))⟩) e4 e3
        refine wpOp_skip ho hgd hdn (w' := w') (by unfold execOp; rw [hop]; simp only [e1, h.v _ os ds cV hLs' hos hds]; exact run_unit r1) ?_
        refine ⟨g, r, ⟨h.kp.trans' r2 (fun k hk e => by omega), h.sz, h.df, h.fr, fun j oj t hv2 hLj hj ht => ?_, fun c hc hLc => ?_, fun j haj hLj => ?_, fun j k hj hk hLj hLk hjk => ?_, fun j c hP hLj => by
          rcases dn j hLj with rfl | hLj
          · exact up _ (hDC c hP (hne c hP))
          · exact up _ (h.dp j c hP hLj), fun s hs2 hLs => by
          rcases dn s hLs with rfl | hLs
          · exact up _ hLt'
          · exact up _ (h.sp s hs2 hLs)⟩⟩
        · rcases dn j hLj with rfl | hLj
          · rw [nV] at hv2; cases hv2
          · exact h.v j oj t hv2 hLj hj ht
        · have hLc2 : L c = true := by
            rcases dn c hLc with rfl | hLc
            · rw [hc] at hic2; cases hic2
            · exact hLc
          refine H.sem.rk _ _ _ _ _ _ (H.sem.rm _ _ (KM C L' g) _ _ (h.c c hc hLc2) (fun b hb hk j haj hLj => ?_)) r2 (fun b _ hb => hb _ cA (up _ hLt'))
          rcases dn j hLj with rfl | hLj
          · rw [nA] at haj; cases haj
          · exact hk j haj hLj
        · rcases dn j hLj with rfl | hLj
          · rw [nA] at haj; cases haj
          · intro oj t hj ht
            obtain ⟨s1, s2, cs2, s3, s4, s5⟩ := h.al j haj hLj oj t hj ht
            by_cases hjt : j = C.tgt i
            · subst hjt
              exact ⟨s1, s2, C.cF i r, r4, r3, fun s hs2 hLs e6 => by rw [H.one s i hs2 hs e6]⟩
            · exact ⟨s1, s2, cs2, s3, blk_keep s4 r2 (h.ne _ _ haj cA hLj hLt' hjt), fun s hs2 hLs e6 => by
                rcases dn s hLs with rfl | hLs
                · exact absurd e6.symm hjt
                · exact s5 s hs2 hLs e6⟩
        · rcases dn j hLj with rfl | hLj
          · rw [nA] at hj; cases hj
          · rcases dn k hLk with rfl | hLk
            · rw [nA] at hk; cases hk
            · exact h.ne j k hj hk hLj hLk hjk
  · rintro listed a w hsz ⟨g, r, h⟩ hr
    exact HE _ a w g r (fun i hi => all_listed H.back hsz hr i (by simpa using hi)) h
end
def tupAt (r : Value) (i : Nat) : Value := match r with
  | .tuple vs => vs.getD i undef
  | _ => undef
def mkV (alo : List (Nat × TypeId × Array Value)) (sto : List (Nat × Nat × Nat)) (i : Nat) : Bool := !(alo.any (fun x => x.1 == i)) && !(sto.any (fun x => x.1 == i))
def mkA (alo : List (Nat × TypeId × Array Value)) (i : Nat) : Bool := alo.any (fun x => x.1 == i)
def mkS (sto : List (Nat × Nat × Nat)) (i : Nat) : Bool := sto.any (fun x => x.1 == i)
theorem valB_spec3 {f : Nat → Bool} {l : List Oper} (h : valB f l = true) : ∀ (i : Nat) o, l[i]? = some o → f i = true → ∃ d, o.dst = some d := by
  intro i o hi hv
  have := List.all_eq_true.1 h i (List.mem_range.2 (List.getElem?_eq_some_iff.1 hi).1)
  simp only [hv, hi, Bool.not_true, Bool.false_or] at this
  exact Option.isSome_iff_exists.1 this
def mkMC (calls : List Nat) (deps : List (Nat × List Nat)) (alo : List (Nat × TypeId × Array Value)) (sto : List (Nat × Nat × Nat)) (fl : List ((Nat → Value) → Value)) (cF : Nat → (Nat → Value) → Array Value) (R : Nat → (Nat → Prop) → Value → World → Prop) : MC where
  isC := fun i => calls.contains i
  isV := fun i => !(alo.any (fun x => x.1 == i)) && !(sto.any (fun x => x.1 == i))
  P := fun i c => deps.any (fun x => x.1 == i && x.2.contains c)
  isA := fun i => alo.any (fun x => x.1 == i)
  isS := fun i => sto.any (fun x => x.1 == i)
  V := fun i r => fl.getD i (fun _ => undef) r
  T := fun j => ((alo.find? (fun x => x.1 == j)).map (fun x => x.2.1)).getD 0
  z := fun j => ((alo.find? (fun x => x.1 == j)).map (fun x => x.2.2)).getD #[]
  tgt := fun s => ((sto.find? (fun x => x.1 == s)).map (fun x => x.2.1)).getD 0
  src := fun s => ((sto.find? (fun x => x.1 == s)).map (fun x => x.2.2)).getD 0
  cF := cF
  R := R
def allB3 (f g h : Nat → Bool) (n : Nat) : Bool := (List.range n).all fun i => f i || g i || h i
theorem allB3_spec {f g h : Nat → Bool} {n : Nat} (hh : allB3 f g h n = true) : ∀ i, i < n → f i = true ∨ g i = true ∨ h i = true := by
  intro i hi
  have := List.all_eq_true.1 hh i (List.mem_range.2 hi)
  simpa [or_assoc] using this
def pcB (deps : List (Nat × List Nat)) (calls : List Nat) : Bool := deps.all (fun x => x.2.all (fun c => calls.contains c))
theorem pcB_spec {calls : List Nat} {deps : List (Nat × List Nat)} (h : pcB deps calls = true) : ∀ i c, deps.any (fun x => x.1 == i && x.2.contains c) = true → calls.contains c = true := by
  intro i c hh
  obtain ⟨x, hx, h2⟩ := List.any_eq_true.1 hh
  have h3 := List.all_eq_true.1 h x hx
  simp only [Bool.and_eq_true] at h2
  have h4 : c ∈ x.2 := by simpa using h2.2
  exact List.all_eq_true.1 h3 c h4
def ddB (l : List Oper) (deps : List (Nat × List Nat)) : Bool := deps.all (fun x => x.2.all (fun c => x.1 == c || (List.range l.length).any (fun j => (match l[x.1]? with | some o => waitsB o j | none => true) && deps.any (fun y => y.1 == j && y.2.contains c))))
theorem ddB_spec {l : List Oper} {deps : List (Nat × List Nat)} (h : ddB l deps = true) : ∀ (i : Nat) o c, l[i]? = some o → deps.any (fun x => x.1 == i && x.2.contains c) = true → i ≠ c → ∃ j, waits o j ∧ deps.any (fun x => x.1 == j && x.2.contains c) = true := by
  intro i o c hi hh hne
  obtain ⟨x, hx, h2⟩ := List.any_eq_true.1 hh
  simp only [Bool.and_eq_true] at h2
  have h4 : c ∈ x.2 := by simpa using h2.2
  have h5 : x.1 = i := by simpa using h2.1
  have h3 := List.all_eq_true.1 (List.all_eq_true.1 h x hx) c h4
  rw [h5, hi] at h3
  simp only [Bool.or_eq_true] at h3
  rcases h3 with h3 | h3
  · exact absurd (by simpa using h3) hne
  · obtain ⟨j, _, h6⟩ := List.any_eq_true.1 h3
    simp only [Bool.and_eq_true] at h6
    exact ⟨j, waitsB_spec h6.1, h6.2⟩
theorem MDeps.val {C : MC} {l : List Oper} {a0 a : Act} {r : Nat → Value} {o o' : Oper} {j d : Nat} (h : MDeps C l a0 o a r) (hw : waitsB o j = true) (hv : C.isV j = true) (hj : l[j]? = some o') (hd : o'.dst = some d) : a.eval (.tmp d) = C.V j r := by
  obtain ⟨e, he, hb, rfl⟩ := waitsB_spec hw
  exact h.2 e he hb hv o' d hj hd
theorem MDeps.out {C : MC} {l : List Oper} {a0 a : Act} {r : Nat → Value} {o : Oper} {t : Nat} (h : MDeps C l a0 o a r) (hn : noDst l t = true) : a.eval (.tmp t) = a0.eval (.tmp t) := h.1 t (noDst_spec hn)
end Go.Proofs.YtgfekgceeigdiaaDoor.Mm
