/- The hash and its tags: walks and plain facts. -/
import Derived.Test.YthoikljmokkchaaDoorProg
import Derived.Test.YthoikljmokkchaaDoorBase
import Derived.Laws.BitsAllLaws
import Derived.Test.YthoikljmokkchaaDoorRegion
import Derived.Lib.ConvBytes
import Derived.RangeFuncNested
import Derived.RangeFuncBound
import Derived.RangeFuncLeaves
import Derived.Shelf.Abstract
import Derived.WalkKit
import Derived.OwnWalkIn
import Derived.TacticsInMore
import Derived.LoopNIn
import Derived.LoopIn
import Derived.RangeFuncCalls
namespace Go.Proofs.YthoikljmokkchaaDoor
open Go.RowKit
def mixM (s x : Nat) : Nat := 15485907386658061715 * (s ^^^ x) % 18446744073709551616
def mixN (s x : Nat) : Nat := mixM s x ^^^ (mixM s x / 4294967296)
def stepN (k : Nat) : Nat := mixN k 11400714819323198485
theorem mixM_lt (s x : Nat) : mixM s x < 18446744073709551616 := Nat.mod_lt _ (by decide)
theorem mixN_lt (s x : Nat) : mixN s x < 18446744073709551616 := by
  unfold mixN
  have h := mixM_lt s x
  exact Nat.xor_lt_two_pow (n := 64) h (by have := Nat.div_le_self (mixM s x) 4294967296; omega)
theorem stepN_lt (k : Nat) : stepN k < 18446744073709551616 := mixN_lt _ _
theorem mixM_walk (s x : Nat) (hs : s < 18446744073709551616) (hx : x < 18446744073709551616) : IntKind.u64.wrap (bits BinOp.xor IntKind.u64 (s : Int) (x : Int) * 15485907386658061715) = ((mixM s x : Nat) : Int) := by
  rw [u64_xor_nat s x hs hx]
  unfold mixM
  rw [show IntKind.u64.wrap (((s ^^^ x : Nat) : Int) * 15485907386658061715) = (((s ^^^ x : Nat) : Int) * 15485907386658061715) % 18446744073709551616 by simp [IntKind.wrap, IntKind.bits, IntKind.signed]]
  omega
theorem mixN_walk (s x : Nat) : bits BinOp.xor IntKind.u64 ((mixM s x : Nat) : Int) (((mixM s x : Nat) : Int) / 4294967296) = ((mixN s x : Nat) : Int) := by
  have h := mixM_lt s x
  rw [show ((mixM s x : Nat) : Int) / 4294967296 = ((mixM s x / 4294967296 : Nat) : Int) by omega, u64_xor_nat _ _ h (by have := Nat.div_le_self (mixM s x) 4294967296; omega)]
  rfl
theorem mixN_walk2 (s x : Nat) : bits BinOp.xor IntKind.u64 ((mixM s x : Nat) : Int) (IntKind.u64.wrap (((mixM s x : Nat) : Int).tdiv 4294967296)) = ((mixN s x : Nat) : Int) := by
  have h := mixM_lt s x
  rw [← mixN_walk]
  rw [show ((mixM s x : Nat) : Int).tdiv 4294967296 = ((mixM s x : Nat) : Int) / 4294967296 from Int.tdiv_eq_ediv_of_nonneg (by omega)]
  rw [show IntKind.u64.wrap (((mixM s x : Nat) : Int) / 4294967296) = (((mixM s x : Nat) : Int) / 4294967296) % 18446744073709551616 by simp [IntKind.wrap, IntKind.bits, IntKind.signed]]
  rw [show (((mixM s x : Nat) : Int) / 4294967296) % 18446744073709551616 = ((mixM s x : Nat) : Int) / 4294967296 by omega]
set_option maxRecDepth 100000 in set_option maxHeartbeats 1000000 in
theorem mix_any (s x : Nat) (hs : s < 18446744073709551616) (hx : x < 18446744073709551616) (w : World) :
    Calls Tryd.prog 123 #[.int .u64 s, .int .u64 x] w fun e w' => e = .returned (.int .u64 (mixN s x : Nat)) ∧ w = w' := by
  go_enter Tryd.func123, Tryd.ntmps123
  go_wp2
  go_ret
  exact ⟨by rw [← mixN_walk, ← mixM_walk s x hs hx]; rfl, rfl⟩
set_option maxRecDepth 100000 in set_option maxHeartbeats 1000000 in
theorem Rmix_any (s x : Nat) (hs : s < 18446744073709551616) (hx : x < 18446744073709551616) (w : World) :
    Calls Tryd.prog 121 #[.int .u64 s, .int .u64 x] w fun e w' => e = .returned (.int .u64 (mixN s x : Nat)) ∧ w = w' := by
  go_enter Tryd.func121, Tryd.ntmps121
  go_wp2
  go_ret
  exact ⟨by rw [← mixN_walk2, ← mixM_walk s x hs hx]; rfl, rfl⟩
set_option maxRecDepth 100000 in set_option maxHeartbeats 1000000 in
theorem Step_any (k : Nat) (hk : k < 18446744073709551616) (w : World) :
    Calls Tryd.prog 111 #[.int .u64 k] w fun e w' => e = .returned (.int .u64 (stepN k : Nat)) ∧ w = w' := by
  go_enter Tryd.func111, Tryd.ntmps111
  go_wp2_with fail
  refine (mix_any k 11400714819323198485 hk (by decide) _).mono ?_
  rintro e w1 ⟨rfl, rfl⟩
  go_wp2
  go_ret
  exact ⟨rfl, rfl⟩
set_option maxRecDepth 100000 in set_option maxHeartbeats 1000000 in
theorem RStep_any (k : Nat) (hk : k < 18446744073709551616) (w : World) :
    Calls Tryd.prog 108 #[.int .u64 k] w fun e w' => e = .returned (.int .u64 (stepN k : Nat)) ∧ w = w' := by
  go_enter Tryd.func108, Tryd.ntmps108
  go_wp2_with fail
  refine (Rmix_any k 11400714819323198485 hk (by decide) _).mono ?_
  rintro e w1 ⟨rfl, rfl⟩
  go_wp2
  go_ret
  exact ⟨rfl, rfl⟩
end Go.Proofs.YthoikljmokkchaaDoor
namespace Go.Proofs.YthoikljmokkchaaDoor
open Go.RowKit
def le8 : List Nat → Nat
  | [] => 0
  | c :: l => c + 256 * le8 l
def wd (b : List Nat) (i : Nat) : Nat := le8 ((b.drop (8 * i)).take 8)
def wordsP (b : List Nat) (k : Nat) : List Nat := (List.range k).map (wd b)
def wordsL (b : List Nat) : List Nat := wordsP b ((b.length + 7) / 8)
theorem wordsP_succ (b : List Nat) (k : Nat) : wordsP b (k + 1) = wordsP b k ++ [wd b k] := by unfold wordsP; rw [List.range_succ, List.map_append]; rfl
theorem wordsP_length (b : List Nat) (k : Nat) : (wordsP b k).length = k := by unfold wordsP; simp
theorem wordsL_length (b : List Nat) : (wordsL b).length = (b.length + 7) / 8 := wordsP_length _ _
theorem le8_lt : ∀ l : List Nat, (∀ c ∈ l, c < 256) → le8 l < 256 ^ l.length
  | [], _ => by simp [le8]
  | c :: l, h => by
    have ih := le8_lt l (fun x hx => h x (List.mem_cons_of_mem _ hx))
    have hc := h c List.mem_cons_self
    rw [le8, List.length_cons, Nat.pow_succ]
    omega
theorem le8_lt8 {l : List Nat} (h : ∀ c ∈ l, c < 256) (hl : l.length ≤ 8) : le8 l < 18446744073709551616 :=
  Nat.lt_of_lt_of_le (le8_lt l h) (Nat.le_trans (Nat.pow_le_pow_right (by decide) hl) (by decide))
theorem le8_lt7 {l : List Nat} (h : ∀ c ∈ l, c < 256) (hl : l.length ≤ 7) : le8 l < 72057594037927936 :=
  Nat.lt_of_lt_of_le (le8_lt l h) (Nat.le_trans (Nat.pow_le_pow_right (by decide) hl) (by decide))
theorem cut_mem {b : List Nat} (hb : ∀ c ∈ b, c < 256) (i n : Nat) : ∀ c ∈ (b.drop i).take n, c < 256 := fun c hc => hb c (List.mem_of_mem_drop (List.mem_of_mem_take hc))
theorem cut_len (b : List Nat) (i n : Nat) : ((b.drop i).take n).length ≤ n := by rw [List.length_take]; omega
theorem wd_lt {b : List Nat} (hb : ∀ c ∈ b, c < 256) (i : Nat) : wd b i < 18446744073709551616 := le8_lt8 (cut_mem hb _ _) (cut_len _ _ _)
theorem cut_step (b : List Nat) (i n : Nat) (h : i < b.length) : (b.drop i).take (n + 1) = b.getD i 0 :: (b.drop (i + 1)).take n := by
  rw [List.drop_eq_getElem_cons h, List.take_succ_cons]
  simp [List.getD, h]
theorem wd_end (b : List Nat) (k e : Nat) (he : e = min (8 * k + 8) b.length) : wd b k = le8 ((b.drop (8 * k)).take (e - 8 * k)) := by
  unfold wd
  congr 1
  rcases Nat.lt_or_ge b.length (8 * k + 8) with h | h
  · rw [List.take_of_length_le (by rw [List.length_drop]; omega), List.take_of_length_le (by rw [List.length_drop]; omega)]
  · rw [show e - 8 * k = 8 by omega]
def u64n (x : Int) : Nat := (x % 18446744073709551616).toNat
theorem u64n_lt (x : Int) : u64n x < 18446744073709551616 := by unfold u64n; omega
theorem u64n_cast (x : Int) : ((u64n x : Nat) : Int) = x % 18446744073709551616 := by unfold u64n; omega
def foldM (s : Nat) (l : List Int) : Nat := l.foldl (fun s x => mixN s (u64n x)) s
theorem foldM_lt {s : Nat} (h : s < 18446744073709551616) (l : List Int) : foldM s l < 18446744073709551616 := by
  rcases List.eq_nil_or_concat l with rfl | ⟨l', x, rfl⟩
  · unfold foldM; rw [List.foldl_nil]; exact h
  · unfold foldM; rw [List.concat_eq_append, List.foldl_append, List.foldl_cons, List.foldl_nil]; exact mixN_lt _ _
theorem foldM_take {s : Nat} {l : List Int} {k : Nat} (h : k < l.length) : foldM s (l.take (k + 1)) = mixN (foldM s (l.take k)) (u64n (l.getD k 0)) := by
  have e : l.getD k 0 = l[k] := by simp [List.getD, h]
  unfold foldM
  rw [List.take_add_one, List.getElem?_eq_getElem h, List.foldl_append, e]
  simp only [Option.toList, List.foldl_cons, List.foldl_nil]
@[irreducible] def s0 (n : Nat) : Nat := mixN (mixN (mixN 0 6775156) 3) n
def sumT (l : List Int) : Nat := foldM (s0 l.length) l
def wI (l : List Nat) : List Int := l.map (fun u => wrap64 ((u : Nat) : Int))
def msgI (k : Nat) (b : List Nat) : List Int := [wrap64 (k : Int)] ++ wI (wordsL b) ++ [(b.length : Int)]
def tagN (k : Nat) (b : List Nat) : Nat := sumT (msgI k b)
theorem s0_lt (n : Nat) : s0 n < 18446744073709551616 := by unfold s0; exact mixN_lt _ _
theorem sumT_lt (l : List Int) : sumT l < 18446744073709551616 := foldM_lt (s0_lt _) _
theorem tagN_lt (k : Nat) (b : List Nat) : tagN k b < 18446744073709551616 := sumT_lt _
theorem tag_word : wordsL [116, 97, 103] = [6775156] := by decide
theorem infoU64 : (Tryd.prog.info? 23).map (fun i => (i.zero, i.size, i.bytes)) = some (some (.int .u64 0), 1, 8) := by kernel_rfl
theorem infoI64h : (Tryd.prog.info? 3).map (fun i => (i.zero, i.size, i.bytes)) = some (some (.int .i64 0), 1, 8) := by kernel_rfl
theorem parts1 {t : TypeId} {z : Value} {s b : Nat} (h : (Tryd.prog.info? t).map (fun i => (i.zero, i.size, i.bytes)) = some (some z, s, b)) : ∃ i, Tryd.prog.info? t = some i ∧ i.zero = some z ∧ i.size = s ∧ i.bytes = b := by
  obtain ⟨i, hi, h1⟩ := Option.map_eq_some_iff.1 h
  simp only [Prod.mk.injEq] at h1
  exact ⟨i, hi, h1.1, h1.2.1, h1.2.2⟩
def NR (w : World) (e : TypeId) (xs : List Value) (r : Ending) (w' : World) : Prop := ∃ a c, r = .returned (.slice a xs.length c) ∧ Own (fun k => w.heap.size ≤ k) w' e 1 (.slice a xs.length c) xs.length xs ∧ Keeps (fun _ => False) w w'
theorem one_src (w : World) (x : Value) (t : TypeId) : Row (fun _ => True) (w.alloc (.cells #[x] t)) 1 (.slice (some ⟨w.heap.size, 0, none⟩) 1 1) 1 [x] := src_one x t trivial
theorem keeps_grow {w wr w1 : World} {o : Obj} (h : Keeps (fun _ => False) w wr) (hg : Keeps (fun k => w.heap.size ≤ k) (wr.alloc o) w1) : Keeps (fun _ => False) w w1 := h.after ((keeps_alloc _ wr o).trans hg)
set_option maxRecDepth 100000 in set_option maxHeartbeats 1000000 in
theorem RWords_any (K : Nat → Prop) (v : Value) (b : List Nat) (w : World) (hv : Sl K w v (u8s b)) (hb : ∀ c ∈ b, c < 256) (hm : b.length ≤ 140737488355200) :
    Calls Tryd.prog 126 #[v] w fun e w' => NR w 23 (u64s (wordsL b)) e w' := by
  obtain ⟨i0, hi, hz0, hz1, hz2⟩ := parts1 infoU64
  obtain ⟨a, cap, rfl, h1, h2, h3⟩ := hv.bytes
  have HB := hid hb; have HV := hid h3
  clear hb hv h3
  unfold maxLen at h2
  obtain ⟨n, hn⟩ : ∃ n, b.length = n := ⟨_, rfl⟩
  have HN := hid hn
  obtain ⟨m, hmm⟩ : ∃ m, (n + 7) / 8 = m := ⟨_, rfl⟩
  have HM : Hd (wordsL b = wordsP b m) := hid (by unfold wordsL; rw [hn, hmm])
  rw [hn] at HV h1 hm ⊢
  have hm1 : n ≤ 8 * m := by omega
  have hm2 : 8 * m ≤ n + 7 := by omega
  clear hn hmm
  go_enter Tryd.func126, Tryd.ntmps126
  go_wp2_with fail
  go_loopw [3, 4] (fun ov iv wr => ∃ (k : Nat) (a2 : Option Addr) (c2 : Nat), ov = .slice a2 k c2 ∧ iv = .int .i64 (((8 * k : Nat)) : Int) ∧ k ≤ m ∧ Hd (Own (fun b => w.heap.size ≤ b) wr 23 1 (.slice a2 k c2) k (u64s (wordsP b k))) ∧ Hd (Keeps (fun _ => False) w wr)) (fun _ iv _ => n + 7 - (intOf iv).toNat)
  case atStart => exact ⟨0, none, 0, rfl, rfl, Nat.zero_le _, hid (Own.nil _ _ _ _), hid (Keeps.refl _ _)⟩
  case round =>
    obtain ⟨V, rfl⟩ : ∃ V, V = wr := ⟨_, rfl⟩
    obtain ⟨k, a2, c2, rfl, rfl, hk, HO, HK⟩ := hrel
    obtain ⟨p, hp⟩ : ∃ p, 8 * k = p := ⟨_, rfl⟩
    rw [hp]
    have HP := hid hp
    have hlt0 : k < m ↔ p < n := by omega
    clear hp
    by_cases hlt : p < n
    · have hkm : k < m := hlt0.2 hlt
      have q1 : (p : Int) < n := by omega
      obtain ⟨bx, ox, rfl, _, _, hc⟩ := HV.out (by omega)
      have HC : Hd (∀ j, j < n → V.cell? ⟨bx, ox + j, none⟩ = some (.int .u8 (b.getD j 0 : Nat))) := hid (fun j hj => keep_cell HK.out (fun h => h) (hc j (by omega)))
      clear hc hlt0
      rcases Nat.lt_or_ge n (p + 8) with hq | hq
      · have HE : Hd (wd b k = le8 ((b.drop p).take (n - p))) := hid (by rw [← HP.out]; exact wd_end b k _ (by rw [HP.out, HN.out]; omega))
        obtain ⟨e, he⟩ : ∃ e, n = e := ⟨_, rfl⟩
        rw [he] at HE
        have e1 : p < e := by omega
        have e2 : e ≤ n := by omega
        have e3 : e ≤ p + 8 := by omega
        go_wp2_with fail
        go_loop [5, 6] (fun wv jv => ∃ j : Nat, j ≤ 8 ∧ p + j ≤ e ∧ jv = .int .i64 ((p : Int) + j - 1) ∧ wv = .int .u64 ((le8 ((b.drop (p + j)).take (e - (p + j))) : Nat) : Int)) (fun _ jv => (intOf jv + 1 - p).toNat)
        case atStart => exact ⟨e - p, by omega, by omega, by go_num, by rw [show p + (e - p) = e by omega, Nat.sub_self, List.take_zero]; rfl⟩
        case round =>
          obtain ⟨j, hj, hje, rfl, rfl⟩ := hrel
          by_cases hj0 : 0 < j
          · obtain ⟨i, rfl⟩ : ∃ i, j = i + 1 := ⟨j - 1, by omega⟩
            have hin : p + i < n := by omega
            have hcell := HC.out (p + i) hin
            have HS : Hd (le8 ((b.drop (p + i)).take (e - (p + i))) = b.getD (p + i) 0 + 256 * le8 ((b.drop (p + (i + 1))).take (e - (p + (i + 1))))) := hid (by rw [show e - (p + i) = (e - (p + (i + 1))) + 1 by omega, cut_step b (p + i) _ (by rw [HN.out]; exact hin)]; rfl)
            have hl7 := le8_lt7 (cut_mem HB.out (p + (i + 1)) (e - (p + (i + 1)))) (by have := cut_len b (p + (i + 1)) (e - (p + (i + 1))); omega)
            have hc8 : b.getD (p + i) 0 < 256 := by have hh : p + i < b.length := by (rw [HN.out]; exact hin)
                                                    simp only [List.getD, List.getElem?_eq_getElem hh]; exact HB.out _ (List.getElem_mem hh)
            generalize le8 ((b.drop (p + (i + 1))).take (e - (p + (i + 1)))) = u at *
            generalize b.getD (p + i) 0 = cc at *
            obtain ⟨q, hq9⟩ : ∃ q, p + i = q := ⟨_, rfl⟩
            have hqi : (p : Int) + ((i + 1 : Nat) : Int) - 1 = (q : Int) := by omega
            rw [hqi]
            rw [hq9] at hcell hin HS
            have HQ := hid hq9
            have k1 : (p : Int) ≤ (q : Int) := by omega
            have k2 : (0 : Int) ≤ (q : Int) := by omega
            have k3 : (q : Int) < n := by omega
            clear hqi he hq
            go_wp2
            go_round
            case rel => exact ⟨i, by omega, by omega, by rw [← HQ.out]; go_num, by rw [HQ.out, HS.out]; go_num⟩
            case measure => simp [intOf]; omega
          · obtain rfl : j = 0 := by omega
            have hw : le8 ((b.drop (p + 0)).take (e - (p + 0))) = wd b k := by rw [HE.out]; rfl
            rw [hw]
            have k0 : ¬ ((p : Int) ≤ (p : Int) + ((0 : Nat) : Int) - 1) := by omega
            clear he hq hj hje HC hw
            go_wp2_with (at_builtin; refine wpList_append_row rfl _ _ 155 rfl 23 i0 (.int .u64 0) 1 8 Tryd.underlying155 hi hz0 hz1 hz2 rfl (by decide) _ (fun _ => True) _ _ _ _ rfl (HO.out.alloc _) 1 _ rfl (one_src _ _ _) (by intro u hu; simp at hu; subst hu; rfl) ?h1 ?h2 ?_)
            case h1 => simp [maxLen]; omega
            case h2 => omega
            intro a3 c3 w1 hown hgrow; try intro _
            have HO1 : Hd (Own (fun b => w.heap.size ≤ b) w1 23 1 (.slice a3 (k + 1) c3) (k + 1) (u64s (wordsP b (k + 1)))) := hid (by rw [wordsP_succ]; have := hown.mono (K' := fun b => w.heap.size ≤ b) (fun b _ hb => by rcases hb with hb | hb; exact hb; have := HK.out.size; omega); simpa [u64s] using this)
            have HK1 := hid (keeps_grow HK.out hgrow)
            clear hown hgrow HO HK
            go_wp2
            go_roundw
            case rel => exact ⟨k + 1, a3, c3, by first | rfl | go_num, by rw [← HP.out]; go_num, by omega, HO1, HK1⟩
            case measure => simp [intOf]; omega
      · have HE : Hd (wd b k = le8 ((b.drop p).take (p + 8 - p))) := hid (by rw [← HP.out]; exact wd_end b k _ (by rw [HP.out, HN.out]; omega))
        obtain ⟨e, he⟩ : ∃ e, p + 8 = e := ⟨_, rfl⟩
        rw [he] at HE
        have e1 : p < e := by omega
        have e2 : e ≤ n := by omega
        have e3 : e ≤ p + 8 := by omega
        go_wp2_with fail
        go_loop [5, 6] (fun wv jv => ∃ j : Nat, j ≤ 8 ∧ p + j ≤ e ∧ jv = .int .i64 ((p : Int) + j - 1) ∧ wv = .int .u64 ((le8 ((b.drop (p + j)).take (e - (p + j))) : Nat) : Int)) (fun _ jv => (intOf jv + 1 - p).toNat)
        case atStart => exact ⟨e - p, by omega, by omega, by go_num, by rw [show p + (e - p) = e by omega, Nat.sub_self, List.take_zero]; rfl⟩
        case round =>
          obtain ⟨j, hj, hje, rfl, rfl⟩ := hrel
          by_cases hj0 : 0 < j
          · obtain ⟨i, rfl⟩ : ∃ i, j = i + 1 := ⟨j - 1, by omega⟩
            have hin : p + i < n := by omega
            have hcell := HC.out (p + i) hin
            have HS : Hd (le8 ((b.drop (p + i)).take (e - (p + i))) = b.getD (p + i) 0 + 256 * le8 ((b.drop (p + (i + 1))).take (e - (p + (i + 1))))) := hid (by rw [show e - (p + i) = (e - (p + (i + 1))) + 1 by omega, cut_step b (p + i) _ (by rw [HN.out]; exact hin)]; rfl)
            have hl7 := le8_lt7 (cut_mem HB.out (p + (i + 1)) (e - (p + (i + 1)))) (by have := cut_len b (p + (i + 1)) (e - (p + (i + 1))); omega)
            have hc8 : b.getD (p + i) 0 < 256 := by have hh : p + i < b.length := by (rw [HN.out]; exact hin)
                                                    simp only [List.getD, List.getElem?_eq_getElem hh]; exact HB.out _ (List.getElem_mem hh)
            generalize le8 ((b.drop (p + (i + 1))).take (e - (p + (i + 1)))) = u at *
            generalize b.getD (p + i) 0 = cc at *
            obtain ⟨q, hq9⟩ : ∃ q, p + i = q := ⟨_, rfl⟩
            have hqi : (p : Int) + ((i + 1 : Nat) : Int) - 1 = (q : Int) := by omega
            rw [hqi]
            rw [hq9] at hcell hin HS
            have HQ := hid hq9
            have k1 : (p : Int) ≤ (q : Int) := by omega
            have k2 : (0 : Int) ≤ (q : Int) := by omega
            have k3 : (q : Int) < n := by omega
            clear hqi he hq
            go_wp2
            go_round
            case rel => exact ⟨i, by omega, by omega, by rw [← HQ.out]; go_num, by rw [HQ.out, HS.out]; go_num⟩
            case measure => simp [intOf]; omega
          · obtain rfl : j = 0 := by omega
            have hw : le8 ((b.drop (p + 0)).take (e - (p + 0))) = wd b k := by rw [HE.out]; rfl
            rw [hw]
            have k0 : ¬ ((p : Int) ≤ (p : Int) + ((0 : Nat) : Int) - 1) := by omega
            clear he hq hj hje HC hw
            go_wp2_with (at_builtin; refine wpList_append_row rfl _ _ 155 rfl 23 i0 (.int .u64 0) 1 8 Tryd.underlying155 hi hz0 hz1 hz2 rfl (by decide) _ (fun _ => True) _ _ _ _ rfl (HO.out.alloc _) 1 _ rfl (one_src _ _ _) (by intro u hu; simp at hu; subst hu; rfl) ?h1 ?h2 ?_)
            case h1 => simp [maxLen]; omega
            case h2 => omega
            intro a3 c3 w1 hown hgrow; try intro _
            have HO1 : Hd (Own (fun b => w.heap.size ≤ b) w1 23 1 (.slice a3 (k + 1) c3) (k + 1) (u64s (wordsP b (k + 1)))) := hid (by rw [wordsP_succ]; have := hown.mono (K' := fun b => w.heap.size ≤ b) (fun b _ hb => by rcases hb with hb | hb; exact hb; have := HK.out.size; omega); simpa [u64s] using this)
            have HK1 := hid (keeps_grow HK.out hgrow)
            clear hown hgrow HO HK
            go_wp2
            go_roundw
            case rel => exact ⟨k + 1, a3, c3, by first | rfl | go_num, by rw [← HP.out]; go_num, by omega, HO1, HK1⟩
            case measure => simp [intOf]; omega
    · have hkm : k = m := by omega
      have q1 : ¬ ((p : Int) < n) := by omega
      subst hkm
      clear hlt0
      go_wp2
      go_ret
      exact ⟨a2, c2, by rw [HM.out]; simp [u64s, wordsP_length], by rw [HM.out]; simpa [u64s, wordsP_length] using HO.out, HK.out⟩
end Go.Proofs.YthoikljmokkchaaDoor
namespace Go.Proofs.YthoikljmokkchaaDoor
open Go.RowKit
def bl (s : ByteArray) : List Nat := s.data.toList.map UInt8.toNat
theorem bl_length (s : ByteArray) : (bl s).length = s.size := by unfold bl; rw [List.length_map, Array.length_toList]; rfl
theorem conv_str (w : World) (s : ByteArray) (hl : s.size ≤ 1000) : ∃ c W, (convert 9 22 (.string s)).run Tryd.prog w = .ok (.slice (some ⟨w.heap.size, 0, none⟩) s.size c) W ∧ Sl (fun b => b = w.heap.size) W (.slice (some ⟨w.heap.size, 0, none⟩) s.size c) (u8s (bl s)) ∧
    Keeps (fun _ => False) w W ∧ W.heap.size = w.heap.size + 1 ∧ ∃ cs fr, W.heap[w.heap.size]? = some (.cells cs 5 fr) := by
  refine ⟨_, _, Lib.run_convert_string_bytes w 9 22 5 s Tryd.underlying9 Tryd.underlying22 Tryd.underlying5, ?_, ⟨rfl, rfl, rfl, by rw [Lib.bytesWorld_size]; omega, fun k hk _ => Lib.bytesWorld_at_old w _ s k hk⟩, Lib.bytesWorld_size _ _ _, ⟨_, _, Lib.bytesWorld_at_new w _ s⟩⟩
  have hn : (u8s (bl s)).length = s.size := by rw [u8s_length, bl_length]
  refine row_sl (n := s.size) ⟨by rw [hn]; omega, .inr ⟨_, _, rfl, grownCap_ge _ _ _ _, grownCap_le_maxLen _ _ _ _ (by unfold maxLen; omega), fun h0 => ⟨w.heap.size, 0, rfl, rfl, by rw [Lib.bytesWorld_size]; omega, fun j hj => ?_⟩⟩⟩ hn
  have hj2 : j < s.size := by omega
  rw [Nat.zero_add, Lib.bytesWorld_cell w _ s j hj2, u8s_getD _ _ (by rw [bl_length]; exact hj2)]
  have e : (bl s).getD j 0 = (s.data.toList.getD j 0).toNat := by
    unfold bl List.getD
    rw [List.getElem?_map]
    cases s.data.toList[j]? <;> rfl
  rw [e]
theorem wI_append (a b : List Nat) : wI (a ++ b) = wI a ++ wI b := by simp [wI]
theorem wI_take {L : List Nat} {k : Nat} (h : k < L.length) : wI (L.take (k + 1)) = wI (L.take k) ++ [wrap64 ((L.getD k 0 : Nat) : Int)] := by
  rw [List.take_add_one, List.getElem?_eq_getElem h, wI_append]
  simp [wI, List.getD, h]
theorem row_ints {K : Nat → Prop} {w : World} {a : Option Addr} {n c : Nat} {xs : List Value} (h : Row K w 1 (.slice a n c) n xs) (h0 : 0 < n) : ∃ b o, a = some ⟨b, o, none⟩ ∧ K b ∧ b < w.heap.size ∧ ∀ k, k < n → w.cell? ⟨b, o + k, none⟩ = some (xs.getD k undef) := by
  obtain ⟨a', c', e, _, _, hel⟩ := h.form
  injection e with e1 e2 e3
  subst e1
  obtain ⟨b, o, ea, hK, hb, hcell⟩ := hel (by omega)
  exact ⟨b, o, ea, hK, hb, fun k hk => hcell k (by omega)⟩
theorem u64s_len (l : List Nat) : (u64s l).length = l.length := by simp [u64s]
set_option maxRecDepth 100000 in set_option maxHeartbeats 1000000 in
theorem Rlist_any (S K : Nat → Prop) (a0 : Option Addr) (n0 c0 : Nat) (l : List Int) (vb : Value) (b : List Nat) (w : World) (hl : Own S w 3 1 (.slice a0 n0 c0) n0 (i64s l)) (hn0 : n0 ≤ 8) (hS : ∀ k, S k → k < w.heap.size) (hv : Sl K w vb (u8s b)) (hK : ∀ k, k < w.heap.size → K k → ¬ S k) (hb : ∀ c ∈ b, c < 256) (hm : b.length ≤ 140737488355200) :
    Calls Tryd.prog 120 #[.slice a0 n0 c0, vb] w fun e w' => ∃ a n c, e = .returned (.slice a n c) ∧ n = n0 + ((wordsL b).length + 1) ∧ Own (fun k => S k ∨ w.heap.size ≤ k) w' 3 1 (.slice a n c) n (i64s (l ++ wI (wordsL b) ++ [(b.length : Int)])) ∧ Keeps S w w' := by
  obtain ⟨i0, hi, hz0, hz1, hz2⟩ := parts1 infoI64h
  obtain ⟨ab, cb, rfl, h1, h2, -⟩ := hv.bytes
  have HL := hid hl; have HV := hid hv; have HB := hid hb; have HS := hid hS
  clear hl hv hb hS hK
  unfold maxLen at h2
  obtain ⟨n, hn⟩ : ∃ n, b.length = n := ⟨_, rfl⟩
  obtain ⟨m, hmm⟩ : ∃ m, (wordsL b).length = m := ⟨_, rfl⟩
  have hmn : 8 * m ≤ n + 7 := by rw [← hmm, wordsL_length, hn]; omega
  have HN := hid hn; have HM := hid hmm
  rw [hn] at h1 hm ⊢
  rw [hmm]
  go_enter Tryd.func120, Tryd.ntmps120
  go_wp2_with fail
  rw [← hn]
  refine (RWords_any _ _ b _ HV.out HB.out (by omega)).mono ?_
  rintro e W ⟨a1, c1, rfl, ho, hk⟩
  rw [hn]
  have hl1 : (u64s (wordsL b)).length = m := by rw [u64s_len, hmm]
  rw [hl1] at ho ⊢
  have HR := hid ho.row; have HK := hid hk; have zW := hk.size
  have HL1 : Hd (Own S W 3 1 (.slice a0 n0 c0) n0 (i64s l)) := hid (HL.out.keep hk (fun _ _ _ h => h))
  clear ho hk hl1 hn hmm HV HB HL
  go_wp2_with fail
  go_loopw [0, 6] (fun ov iv wr => ∃ (k : Nat) (a2 : Option Addr) (c2 : Nat), ov = .slice a2 (n0 + k) c2 ∧ iv = .int .i64 (k : Int) ∧ k ≤ m ∧ Hd (Own (fun b => S b ∨ W.heap.size ≤ b) wr 3 1 (.slice a2 (n0 + k) c2) (n0 + k) (i64s (l ++ wI ((wordsL b).take k)))) ∧ Hd (Keeps S W wr)) (fun _ iv _ => m - (intOf iv).toNat)
  case atStart => exact ⟨0, a0, c0, rfl, rfl, Nat.zero_le _, hid (by rw [List.take_zero]; simpa [wI] using HL1.out.mono (fun b _ h => .inl h)), hid (Keeps.refl _ _)⟩
  case round =>
    obtain ⟨V, rfl⟩ : ∃ V, V = wr := ⟨_, rfl⟩
    obtain ⟨k, a2, c2, rfl, rfl, hk, HO, HK2⟩ := hrel
    by_cases hlt : k < m
    · have q1 : (k : Int) < m := by omega
      have q2 : (0 : Int) ≤ k := by omega
      obtain ⟨bx, ox, rfl, hx1, hx2, hc⟩ := row_ints HR.out (by omega)
      have hcell := keep_cell HK2.out (fun h => by have := HS.out bx h; omega) (hc k hlt)
      have hkl : k < (wordsL b).length := by rw [HM.out]; exact hlt
      rw [u64s_getD _ _ hkl] at hcell
      have HW := hid (wI_take hkl)
      clear hc hkl
      generalize (wordsL b).getD k 0 = u at *
      obtain ⟨u2, hu2⟩ : ∃ u2, wrap64 ((u : Nat) : Int) = u2 := ⟨_, rfl⟩
      rw [hu2] at HW
      go_wp2_with (at_builtin; refine wpList_append_row rfl _ _ 61 rfl 3 i0 (.int .i64 0) 1 8 Tryd.underlying61 hi hz0 hz1 hz2 rfl (by decide) _ (fun _ => True) _ _ _ _ rfl (HO.out.alloc _) 1 _ rfl (one_src _ _ _) (by intro u hu; simp at hu; subst hu; rfl) ?h1 ?h2 ?_)
      case h1 => simp [maxLen]; omega
      case h2 => omega
      intro a3 c3 w1 hown hgrow; try intro _
      have HO1 : Hd (Own (fun b => S b ∨ W.heap.size ≤ b) w1 3 1 (.slice a3 (n0 + k + 1) c3) (n0 + k + 1) (i64s (l ++ wI ((wordsL b).take (k + 1))))) := hid (by
        rw [HW.out, ← List.append_assoc, i64s_append]
        have := hown.mono (K' := fun b => S b ∨ W.heap.size ≤ b) (fun b _ hb => by rcases hb with hb | hb; exact hb; have := HK2.out.size; exact .inr (by omega))
        simpa [i64s, hu2] using this)
      have HK3 : Hd (Keeps S W w1) := hid (HK2.out.trans' ((keeps_alloc _ V _).trans hgrow) (fun i hi h => by rcases h with h | h; exact h; omega))
      clear hown hgrow HO HK2 HW hu2
      go_wp2
      go_roundw
      case rel => exact ⟨k + 1, a3, c3, by first | rfl | go_num, by go_num, by omega, HO1, HK3⟩
      case measure => simp [intOf]; omega
    · have hkm : k = m := by omega
      have q1 : ¬ ((k : Int) < m) := by omega
      have HT : Hd ((wordsL b).take k = wordsL b) := hid (List.take_of_length_le (by rw [HM.out, hkm]; exact Nat.le_refl _))
      rw [HT.out] at HO
      subst hkm
      go_wp2_with (at_builtin; refine wpList_append_row rfl _ _ 61 rfl 3 i0 (.int .i64 0) 1 8 Tryd.underlying61 hi hz0 hz1 hz2 rfl (by decide) _ (fun _ => True) _ _ _ _ rfl (HO.out.alloc _) 1 _ rfl (one_src _ _ _) (by intro u hu; simp at hu; subst hu; rfl) ?h1 ?h2 ?_)
      case h1 => simp [maxLen]; omega
      case h2 => omega
      intro a3 c3 w1 hown hgrow; try intro _
      have HO1 : Hd (Own (fun b => S b ∨ w.heap.size ≤ b) w1 3 1 (.slice a3 (n0 + k + 1) c3) (n0 + k + 1) (i64s (l ++ wI (wordsL b) ++ [(n : Int)]))) := hid (by
        rw [i64s_append]
        have := hown.mono (K' := fun b => S b ∨ w.heap.size ≤ b) (fun b _ hb => by rcases hb with (hb | hb) | hb; exact .inl hb; exact .inr (by omega); have := HK2.out.size; exact .inr (by omega))
        simpa [i64s] using this)
      have HK3 : Hd (Keeps S w w1) := hid (((HK.out.mono (fun _ _ h => h.elim)).trans HK2.out).trans' ((keeps_alloc _ V _).trans hgrow) (fun i hi h => by rcases h with h | h; exact h; omega))
      clear hown hgrow HO HK2
      go_wp2
      go_ret
      exact ⟨a3, n0 + k + 1, c3, by first | rfl | go_num, by omega, HO1.out, HK3.out⟩
end Go.Proofs.YthoikljmokkchaaDoor
namespace Go.Proofs.YthoikljmokkchaaDoor
open Go.RowKit
def tagS : ByteArray := { data := #[116, 97, 103] }
theorem bl_tag : bl tagS = [116, 97, 103] := by decide
theorem s0_eq (n : Nat) : s0 n = mixN (mixN (mixN 0 6775156) 3) n := by unfold s0; rfl
set_option maxRecDepth 100000 in set_option maxHeartbeats 1000000 in
theorem RHSum_any (K : Nat → Prop) (v : Value) (l : List Int) (w : World) (hl : Sl K w v (i64s l)) (hm : l.length ≤ 1000000000000000) :
    Calls Tryd.prog 119 #[.string { data := #[116, 97, 103] }, v] w fun e w' => e = .returned (.int .u64 (sumT l : Nat)) ∧ Keeps (fun _ => False) w w' := by
  obtain ⟨a, cap, rfl, h1, h2, h3⟩ := hl.ints
  have HV := hid h3
  clear hl h3
  unfold maxLen at h2
  obtain ⟨c, W, hcv, hs, hk, hz, -⟩ := conv_str w tagS (by decide)
  rw [bl_tag] at hs
  have hs3 : tagS.size = 3 := by decide
  rw [hs3] at hcv hs
  unfold tagS at hcv
  have HS := hid hs; have HK := hid hk
  clear hs hk hs3
  obtain ⟨n, hn⟩ : ∃ n, l.length = n := ⟨_, rfl⟩
  have HN := hid hn
  have HE : Hd (sumT l = foldM (s0 n) l) := hid (by unfold sumT; rw [hn])
  have HS0 : Hd (s0 n = mixN (mixN (mixN 0 6775156) 3) n) := hid (s0_eq n)
  rw [hn] at h1 hm HV ⊢
  clear hn
  go_enter Tryd.func119, Tryd.ntmps119
  go_wp2_with fail
  refine (RWords_any _ _ [116, 97, 103] _ HS.out (by decide) (by decide)).mono ?_
  rw [tag_word]
  rintro e W2 ⟨a2, c2, rfl, ho, hk⟩
  have HR : Hd (Row (fun b => W.heap.size ≤ b) W2 1 (.slice a2 1 c2) 1 (u64s [6775156])) := hid ho.row
  have hlen : (u64s [6775156]).length = 1 := rfl
  rw [hlen]
  have HK2 : Hd (Keeps (fun _ => False) w W2) := hid (HK.out.trans hk)
  clear ho hk hlen HS HK hcv
  obtain ⟨bx, ox, rfl, -, -, hc⟩ := row_ints HR.out (by omega)
  have hc0 : W2.cell? ⟨bx, ox, none⟩ = some (.int .u64 (6775156 : Nat)) := hc 0 (by omega)
  clear hc HR
  have HC0 := hid hc0
  clear hc0
  go_wp2_with fail
  go_loop [5, 7] (fun sv iv => (sv = .int .u64 0 ∧ iv = .int .i64 0) ∨ (∃ s : Nat, Hd (s = mixN 0 6775156) ∧ sv = .int .u64 (s : Int) ∧ iv = .int .i64 1)) (fun _ iv => 1 - (intOf iv).toNat)
  case atStart => exact .inl ⟨rfl, rfl⟩
  case round =>
    rcases hrel with ⟨rfl, rfl⟩ | ⟨s, HSV, rfl, rfl⟩
    · have hc0 := HC0.out
      go_wp2_with fail
      refine (Rmix_any 0 6775156 (by decide) (by decide) _).mono ?_
      rintro e w1 ⟨rfl, rfl⟩
      obtain ⟨s, hs⟩ : ∃ s, mixN 0 6775156 = s := ⟨_, rfl⟩
      rw [hs]
      have HSV := hid hs.symm
      clear hs
      go_wp2
      go_round
      case rel => exact .inr ⟨s, HSV, rfl, by go_num⟩
      case measure => simp [intOf]
    · have hs1 : s < 18446744073709551616 := by rw [HSV.out]; exact mixN_lt _ _
      have HS1 := hid hs1
      clear hs1
      go_wp2_with fail
      refine (Rmix_any s 3 HS1.out (by decide) _).mono ?_
      rintro e w1 ⟨rfl, rfl⟩
      obtain ⟨t, ht⟩ : ∃ t, mixN s 3 = t := ⟨_, rfl⟩
      rw [ht]
      have HT := hid ht.symm
      have HT1 : Hd (t < 18446744073709551616) := hid (by rw [← ht]; exact mixN_lt _ _)
      clear ht
      go_wp2_with fail
      refine (Rmix_any t n HT1.out (by omega) _).mono ?_
      rintro e w1 ⟨rfl, rfl⟩
      obtain ⟨u, hu⟩ : ∃ u, mixN t n = u := ⟨_, rfl⟩
      rw [hu]
      have HU : Hd (s0 n = u) := hid (by rw [HS0.out, ← hu, HT.out, HSV.out])
      have HU1 : Hd (u < 18446744073709551616) := hid (by rw [← hu]; exact mixN_lt _ _)
      rw [HU.out] at HE
      clear hu HT HT1 HS1 HSV HS0 HU HC0
      go_wp2_with fail
      go_loop [5, 8] (fun sv iv => ∃ k : Nat, k ≤ n ∧ sv = .int .u64 ((foldM u (l.take k) : Nat) : Int) ∧ iv = .int .i64 (k : Int)) (fun _ iv => n - (intOf iv).toNat)
      case atStart => exact ⟨0, Nat.zero_le _, by rw [List.take_zero]; rfl, rfl⟩
      case round =>
        obtain ⟨k, hk, rfl, rfl⟩ := hrel
        by_cases hlt : k < n
        · have q1 : (k : Int) < n := by omega
          have q2 : (0 : Int) ≤ k := by omega
          obtain ⟨by_, oy, rfl, -, -, hcy⟩ := HV.out (by omega)
          have hcell := keep_cell HK2.out (fun h => h) (hcy k hlt)
          have HF := hid (foldM_take (s := u) (l := l) (k := k) (by rw [HN.out]; exact hlt))
          have HX := hid (u64n_cast (l.getD k 0)); have HXL := hid (u64n_lt (l.getD k 0)); have HFL := hid (foldM_lt HU1.out (l.take k))
          generalize foldM u (l.take k) = f at *
          generalize l.getD k 0 = y at *
          generalize u64n y = yn at *
          have hy : IntKind.u64.wrap y = (yn : Int) := by rw [HX.out]; simp [IntKind.wrap, IntKind.bits, IntKind.signed]
          clear hcy
          go_wp2_with fail
          try rw [hy]
          try rw [← HX.out]
          refine (Rmix_any f yn HFL.out HXL.out _).mono ?_
          rintro e w1 ⟨rfl, rfl⟩
          rw [← HF.out]
          obtain ⟨f2, hf2⟩ : ∃ f2, foldM u (l.take (k + 1)) = f2 := ⟨_, rfl⟩
          rw [hf2]
          have HF2 := hid hf2
          clear hf2
          clear hy
          go_wp2
          go_round
          case rel => exact ⟨k + 1, by omega, by rw [HF2.out], by go_num⟩
          case measure => simp [intOf]; omega
        · have hkn : k = n := by omega
          have q1 : ¬ ((k : Int) < n) := by omega
          have HT : Hd (l.take k = l) := hid (List.take_of_length_le (by rw [HN.out, hkn]; exact Nat.le_refl _))
          rw [HT.out, ← HE.out]
          obtain ⟨f, hf⟩ : ∃ f, sumT l = f := ⟨_, rfl⟩
          rw [hf]
          have HSF := hid hf
          clear hf
          subst hkn
          go_wp2
          go_ret
          exact ⟨by rw [HSF.out]; rfl, HK2.out⟩
set_option maxRecDepth 100000 in set_option maxHeartbeats 1000000 in
theorem RTag_any (K : Nat → Prop) (k : Nat) (v : Value) (b : List Nat) (w : World) (hk : k < 18446744073709551616) (hv : Sl K w v (u8s b)) (hb : ∀ c ∈ b, c < 256) (hm : b.length ≤ 140737488355200) :
    Calls Tryd.prog 107 #[.int .u64 k, v] w fun e w' => e = .returned (.int .u64 (tagN k b : Nat)) ∧ Keeps (fun _ => False) w w' := by
  have HV := hid (hv.mono (K' := fun b => b < w.heap.size) (fun b h _ => h)); have HB := hid hb
  have HT : Hd (tagN k b = sumT ([wrap64 (k : Int)] ++ wI (wordsL b) ++ [(b.length : Int)])) := hid rfl
  obtain ⟨x, hx⟩ : ∃ x, wrap64 (k : Int) = x := ⟨_, rfl⟩
  have hx2 : IntKind.i64.wrap (k : Int) = x := by rw [← hx]; exact IntWalk.i64_left _
  rw [hx] at HT
  clear hv hb
  go_enter Tryd.func107, Tryd.ntmps107
  go_wp2_with fail
  try rw [hx2]
  have HO : Own (fun k => k = w.heap.size) (w.alloc (.cells #[.int .i64 x] 3)) 3 1 (.slice (some ⟨w.heap.size, 0, none⟩) 1 1) 1 (i64s [x]) := ⟨World.ownsRow_lit w #[.int .i64 x] 1 (Nat.zero_le _) (by decide) rfl, fun k hk => by injection hk with hk; simp at hk; omega⟩
  have HV1 : Sl (fun b => b < w.heap.size) (w.alloc (.cells #[.int .i64 x] 3)) v (u8s b) := HV.out.keep (keeps_alloc (fun _ => False) w _) (fun _ _ _ h => h)
  refine (Rlist_any (fun k => k = w.heap.size) (fun b => b < w.heap.size) _ 1 1 [x] v b _ HO (by omega) (fun k h => by subst h; simp) HV1 (fun k _ h h2 => by omega) HB.out hm).mono ?_
  rintro e W ⟨a, n, c, rfl, hn, ho, hk2⟩
  have HO2 : Hd (Sl (fun _ => True) W (.slice a n c) (i64s ([x] ++ wI (wordsL b) ++ [(b.length : Int)]))) := hid (row_sl (ho.row.mono (fun _ _ _ => trivial)) (by rw [i64s_length]; simp [wI]; omega))
  have HK : Hd (Keeps (fun _ => False) w W) := hid ((keeps_alloc (fun _ => False) w _).trans' hk2 (fun i hi h => by omega))
  have hlen : ([x] ++ wI (wordsL b) ++ [(b.length : Int)]).length ≤ 1000000000000000 := by
    simp [wI, wordsL_length]; omega
  have HLE := hid hlen
  clear hn ho hk2 HO HV1 hlen
  obtain ⟨L, hL⟩ : ∃ L, [x] ++ wI (wordsL b) ++ [(b.length : Int)] = L := ⟨_, rfl⟩
  rw [hL] at HO2 HLE HT
  clear hL
  go_wp2_with fail
  refine (RHSum_any _ _ L _ HO2.out HLE.out).mono ?_
  rintro e W2 ⟨rfl, hk3⟩
  rw [← HT.out]
  obtain ⟨f, hf⟩ : ∃ f, tagN k b = f := ⟨_, rfl⟩
  rw [hf]
  have HK3 := hid (HK.out.trans hk3)
  have HF := hid hf
  clear hk3 hf HT
  go_wp2
  go_ret
  exact ⟨by rw [HF.out]; rfl, HK3.out⟩
end Go.Proofs.YthoikljmokkchaaDoor
namespace Go.Proofs.YthoikljmokkchaaDoor
open Go.RowKit Go.Shelf
/-- an iterator's contract, where every round goes on; the caller's invariant abides, beside what it must abide anyway, a store into the cell Bt, which is the iterator's own -/
def SeqBox {α : Type} (F : Fence) (n : Nat) (P : Program) (g : Nat) (lb : Array Value) (encs : α → Array Value) (Kp : World → World → Prop) (S : List α → Prop) (Ex : α → Prop) (N Bt : Nat) (w : World) : Prop :=
  ∀ (l : Nat) (J : List α → World → Prop) (W : World), Below w.heap.size w W → AbidesFrom W.heap.size J → (∀ pre A v, J pre A → J pre (A.setCell ⟨Bt, 0, none⟩ v)) →
    (∀ pre x W1, J pre W1 → pre.length < N → Ex x → YieldAt F (n - 1) P l (encs x) W1 fun e W' => e = .returned (.bool true) ∧ J (pre ++ [x]) W' ∧ Kp W1 W') →
    J [] W → CallsIn F n P g (#[.func (.yield l) #[] #[]] ++ lb) W fun e W' => (∃ v, e = .returned v) ∧ ∃ xs, S xs ∧ J xs W'
theorem setCell_else {A : World} {Bt k : Nat} (v : Value) (h : k ≠ Bt) : (A.setCell ⟨Bt, 0, none⟩ v).heap[k]? = A.heap[k]? := Below.heap_setCell A ⟨Bt, 0, none⟩ v k h
section
variable {F : Fence} {n : Nat} {P : Program}
/-- how the body of a round is left -/
def roundPost {α : Type} (B : Nat) (Kp : World → World → Prop) (I : List α → World → Prop) (xs : List α) (W : World) : Exit → Act → World → Prop
  | .normal, _, W' => KeepsFrom B W W' ∧ Kp W W' ∧ I xs W'
  | _, _, _ => False
theorem wpIn_rangeFunc_box {α : Type} {g : Operand} {ps : Array Tmp} {assign body : Code} {Q : Exit → Act → World → Prop} {a : Act} {w : World}
    (hro : F.round = none) (h1 : 1 ≤ n) {gf : Nat} {lb : Array Value} (hg : a.eval g = .func (.func gf) #[] lb) (hFg : F.fn gf) (eg : ∀ args w, (callFunc gf args).run P w = .ok (.enter gf args) w)
    {encs : α → Array Value} {Kp : World → World → Prop} {S : List α → Prop} {Ex : α → Prop} {N Bt : Nat} {w0 : World} (hBt : Bt < w.heap.size) (hseq : SeqBox F (n - 1) P gf lb encs Kp S Ex N Bt w0)
    (hKt : ∀ {A B C : World}, Kp A B → Kp B C → Kp A C) (hKb : ∀ (W : World) (l : Nat) (o o' : Obj), w.heap.size ≤ l → W.heap[l]? = some o → o.isCells = false → o.isWalk = false → Kp W (W.putObj l o')) (hb0 : Below w0.heap.size w0 w) (hps : ∀ x, (encs x).size = ps.size)
    (I : List α → World → Prop) (hI : OwnFrom w.heap.size I) (hIb : ∀ pre A v, I pre A → I pre (A.setCell ⟨Bt, 0, none⟩ v)) (h0 : I [] w) (Ax : α → Act → World → Prop) (hAx : ∀ x a', OwnFrom w.heap.size (fun (_ : Unit) W => Ax x a' W))
    (hassign : ∀ (l : Nat) (pre : List α) (x : α) (W : World) (K : Act → World → Prop), I pre W → (∀ a' W', KeepsFrom w.heap.size W W' → Kp W W' → I pre W' → Ax x a' W' → K a' W') →
      assign.wpIn (F.inRound l) (n - 1 - 1) P (Exit.then K (fun _ _ _ => False)) { tmps := (ps.zip (encs x)).foldl (fun t (p, v) => t.setIfInBounds p v) a.tmps, defers := [] } W)
    (hbody : ∀ (l : Nat) (pre : List α) (x : α) (a' : Act) (W : World), w.heap.size ≤ l → (∃ r, W.heap[l]? = some (.loop r)) → I pre W → Ax x a' W → pre.length < N → Ex x → body.wpIn (F.inRound l) (n - 1 - 1) P (roundPost w.heap.size Kp I (pre ++ [x]) W) a' W)
    (hdone : ∀ (D : Nat) (xs : List α) (W : World), w.heap.size ≤ D → S xs → I xs W → W.heap[D]? = some (.deferred (some [])) → Q .normal { a with defers := { target := .collected D, args := #[] } :: a.defers } W) :
    (Code.rangeFunc g ps assign body).wpIn F n P Q a w := by
  refine wpIn_rangeFunc fun fn hfn => ?_
  rw [hro]
  -- two blocks: the rounds' deferred calls, the loop's record
  obtain ⟨rec, hrec⟩ : ∃ rec : LoopState → Option Code → Loop, rec = fun st pe => { state := st, pending := pe, fn, tmps := a.tmps, params := ps, assign, body, defers := w.heap.size } := ⟨_, rfl⟩
  obtain ⟨V, hV⟩ : ∃ V, (w.alloc (.deferred (some []))).alloc (.loop (rec .ready none)) = V := ⟨_, rfl⟩
  have hVs : V.heap.size = w.heap.size + 2 := by rw [← hV]; simp
  have bL : V.heap[w.heap.size + 1]? = some (.loop (rec .ready none)) := by
    rw [← hV]; have := World.alloc_heap_new (w.alloc (.deferred (some []))) (.loop (rec .ready none)); rwa [World.size_alloc] at this
  have bD : V.heap[w.heap.size]? = some (.deferred (some [])) := by
    rw [← hV]; exact (Below.heap_alloc _ _ _ (by simp)).trans (World.alloc_heap_new w _)
  have iV : I [] V := by rw [← hV]; exact hI.alloc _ (hI.alloc _ h0)
  have wV : Below w0.heap.size w0 V := by
    rw [← hV]; exact hb0.trans ((((Below.refl _ w).alloc (Nat.le_refl _) _).alloc (by simp) _).mono hb0.size)
  refine ⟨w.heap.size + 1, [{ target := .collected w.heap.size, args := #[] }], V, { target := .fn (.func gf) lb, args := #[.func (.yield (w.heap.size + 1)) #[] #[]] }, V, gf,
    #[.func (.yield (w.heap.size + 1)) #[] #[]] ++ lb, V, ?_, ?_, ?_, ?_, fun _ => h1, ?_⟩
  · rw [← hV, hrec]; exact run_enterLoop_outer _ _ _ _ _
  · simp only [resolve, hg]
    simp [go_sem]
  · intro f' hf'
    simp [Target.leads] at hf'
    subst hf'
    exact hFg
  · simp [invoke, go_sem, eg]
  refine (hseq (w.heap.size + 1) (fun pre W => I pre W ∧ W.heap[w.heap.size + 1]? = some (.loop (rec .ready none)) ∧ W.heap[w.heap.size]? = some (.deferred (some []))) V wV ?_ ?_ ?_ ⟨iV, bL, bD⟩).mono ?_
  · intro s A B row hs hg' hr
    have hw : ∀ r, row = some r → w.heap.size ≤ r ∧ ∃ o : Obj, A.heap[r]? = some o ∧ o.isCells = false := fun r e => by
      obtain ⟨hB, o, ho, hw⟩ := hr r e
      exact ⟨by omega, o, ho, Obj.not_cells_of_walk hw⟩
    exact ⟨hI s A B row hs.1 hg' hw, (grownBy_keeps hg' (fun r e => (hr r e).2) hs.2.1 rfl).trans hs.2.1, (grownBy_keeps hg' (fun r e => (hr r e).2) hs.2.2 rfl).trans hs.2.2⟩
  · intro pre A v hs
    exact ⟨hIb pre A v hs.1, (setCell_else v (by omega)).trans hs.2.1, (setCell_else v (by omega)).trans hs.2.2⟩
  · rintro pre x W ⟨hi, hl, hd⟩ hlen hex
    have hy := run_yield (P := P) (args := encs x) hl (by rw [hrec]; exact hps x)
    rw [hrec] at hy
    refine ⟨fn, _, assign, body, hy, roundIn_of_wpIn hfn (hassign _ pre x W _ hi ?_)⟩
    clear hy
    intro a' U hkf hkp hiU hax
    have lU := hkf.same _ _ (by omega) hl rfl
    have dU := hkf.same _ _ (Nat.le_refl _) hd rfl
    have szU : w.heap.size + 1 < U.heap.size := (Array.getElem?_eq_some_iff.1 lU).1
    refine ⟨_, run_beginRound lU (by rw [hrec]), ?_⟩
    obtain ⟨busy, hbusy⟩ : ∃ busy : Loop, busy = { rec .ready none with state := .busy } := ⟨_, rfl⟩
    rw [← hbusy]
    have l2 : (U.putObj (w.heap.size + 1) (.loop busy)).heap[w.heap.size + 1]? = some (.loop busy) := World.putObj_heap_same szU
    have d2 : (U.putObj (w.heap.size + 1) (.loop busy)).heap[w.heap.size]? = some (.deferred (some [])) := (World.putObj_heap_other (by omega)).trans dU
    have k2 : Kp U (U.putObj (w.heap.size + 1) (.loop busy)) := hKb _ _ _ _ (by omega) lU rfl rfl
    refine wpIn_mono (hbody _ pre x a' _ (by omega) ⟨_, l2⟩ (hI.putObj _ hiU (by omega) lU rfl) ((hAx x a').putObj (s := ()) _ hax (by omega) lU rfl) hlen hex) ?_
    rintro e a3 W3 hp
    cases e with
    | normal =>
      obtain ⟨hk3, hkp3, hi3⟩ := hp
      have l3 := hk3.same _ _ (by omega) l2 rfl
      have d3 := hk3.same _ _ (Nat.le_refl _) d2 rfl
      have hr := run_endRound (P := P) none l3
      rw [hbusy, hrec] at hr
      refine ⟨_, _, hr, rfl, ⟨hI.putObj _ hi3 (by omega) l3 rfl, ?_, (World.putObj_heap_other (by omega)).trans d3⟩, hKt hkp (hKt (hKt k2 hkp3) (hKb _ _ _ _ (by omega) l3 rfl rfl))⟩
      rw [hrec]
      exact World.putObj_heap_same (Array.getElem?_eq_some_iff.1 l3).1
    | _ => exact hp.elim
  · rintro e W2 ⟨⟨v, rfl⟩, xs, hS, hi, hl, hd⟩
    exact ⟨none, _, by have := run_endLoop (P := P) hl (by rw [hrec]; simp); rw [hrec] at this; exact this, hdone _ xs _ (Nat.le_refl _) hS (hI.putObj _ hi (by omega) hl rfl) ((World.putObj_heap_other (by omega)).trans hd)⟩
end
end Go.Proofs.YthoikljmokkchaaDoor
namespace Go.Proofs.YthoikljmokkchaaDoor
open Go.RowKit Go.Shelf
attribute [local go_sem] Oper.semAt_some
/-- the blocks below B, and the byte rows, are left alone -/
def DtK (B : Nat) (W W' : World) : Prop := W.heap.size ≤ W'.heap.size ∧ (∀ k : Nat, k < B → W'.heap[k]? = W.heap[k]?) ∧ ∀ (k : Nat) (cs : Array Value) (fr : Nat × Nat), W.heap[k]? = some (Obj.cells cs 5 fr) → W'.heap[k]? = W.heap[k]?
/-- and the boxes of byte slices -/
def ByK (B : Nat) (W W' : World) : Prop := DtK B W W' ∧ ∀ (k : Nat) (cs : Array Value), Blk W k cs 22 → Blk W' k cs 22
theorem dtK_r (B : Nat) (W : World) : DtK B W W := ⟨Nat.le_refl _, fun _ _ => rfl, fun _ _ _ _ => rfl⟩
theorem dtK_t {B : Nat} {X Y Z : World} (h : DtK B X Y) (k : DtK B Y Z) : DtK B X Z :=
  ⟨Nat.le_trans h.1 k.1, fun i hi => (k.2.1 i hi).trans (h.2.1 i hi), fun i cs fr hi => (k.2.2 i cs fr ((h.2.2 i cs fr hi).trans hi)).trans (h.2.2 i cs fr hi)⟩
theorem byK_t {B : Nat} {X Y Z : World} (h : ByK B X Y) (k : ByK B Y Z) : ByK B X Z := ⟨dtK_t h.1 k.1, fun i cs hi => k.2 i cs (h.2 i cs hi)⟩
theorem dtK_of {B : Nat} {S : Nat → Prop} {W W' : World} (hB : B ≤ W.heap.size) (hk : Keeps S W W') (hS : ∀ k, k < W.heap.size → S k → B ≤ k ∧ ∃ cs T fr, W.heap[k]? = some (Obj.cells cs T fr) ∧ T ≠ 5) : DtK B W W' :=
  ⟨hk.size, fun k hkB => hk.block k (by omega) (fun h => by have := (hS k (by omega) h).1; omega), fun k cs fr h => hk.block k (Array.getElem?_eq_some_iff.1 h).1 (fun hs => by
    obtain ⟨-, cs', T, fr', h1, h2⟩ := hS k (Array.getElem?_eq_some_iff.1 h).1 hs
    rw [h] at h1; cases h1; exact h2 rfl)⟩
theorem byK_of {B : Nat} {S : Nat → Prop} {W W' : World} (hB : B ≤ W.heap.size) (hk : Keeps S W W') (hS : ∀ k, k < W.heap.size → S k → B ≤ k ∧ ∃ cs T, Blk W k cs T ∧ T ≠ 5 ∧ T ≠ 22) : ByK B W W' :=
  ⟨dtK_of hB hk (fun k h1 h2 => by obtain ⟨hB, cs, T, h3, h4, _⟩ := hS k h1 h2; exact ⟨hB, cs, T, _, h3, h4⟩), fun k cs h => blk_keep h hk (fun hs => by
    obtain ⟨-, cs', T, h1, -, h3⟩ := hS k (blk_lt h) hs
    have h1' : W.heap[k]? = some (Obj.cells cs' T (0, 0)) := h1
    rw [show W.heap[k]? = _ from h] at h1'; cases h1'; exact h3 rfl)⟩
theorem byK_b {B : Nat} (W : World) (l : Nat) (o o' : Obj) (hB : B ≤ l) (h : W.heap[l]? = some o) (ho : o.isCells = false) : ByK B W (W.putObj l o') := by
  have hg := grownBy_putObj' W l o'
  have ne : ∀ k cs T fr, W.heap[k]? = some (Obj.cells cs T fr) → some l ≠ some k := fun k cs T fr hk e => by
    injection e with e; subst e
    rw [h] at hk; cases hk; cases ho
  refine ⟨⟨hg.size, fun k hk => ?_, fun k cs fr hk => hg.block k (Array.getElem?_eq_some_iff.1 hk).1 (ne k cs _ fr hk).symm⟩, fun k cs hk => ?_⟩
  · exact hg.block k (by have := (Array.getElem?_eq_some_iff.1 h).1; omega) (fun e => by injection e with e; omega)
  · exact (hg.block k (blk_lt hk) (ne k cs _ _ hk).symm).trans hk
/-- the length of the slice in a box -/
def boxLen (Bt : Nat) (W : World) : Nat := match W.cell? ⟨Bt, 0, none⟩ with | some (.slice _ n _) => n | _ => 0
theorem boxLen_of {Bt : Nat} {W : World} {a : Option Addr} {n c : Nat} (h : W.cell? ⟨Bt, 0, none⟩ = some (.slice a n c)) : boxLen Bt W = n := by unfold boxLen; rw [h]
theorem le8_app : ∀ (l : List Nat) (c : Nat), le8 (l ++ [c]) = le8 l + c * 256 ^ l.length
  | [], c => by simp [le8]
  | d :: l, c => by
    rw [List.cons_append, le8, le8, le8_app l c, List.length_cons, Nat.pow_succ]
    rw [Nat.mul_add, Nat.add_assoc, Nat.mul_comm (256 ^ l.length) 256, ← Nat.mul_assoc c, Nat.mul_comm c 256, Nat.mul_assoc 256 c]
theorem or_byte {l : List Nat} (hl : ∀ c ∈ l, c < 256) (h7 : l.length ≤ 7) (c : Nat) (hc : c < 256) : bits BinOp.or IntKind.u64 ((le8 l : Nat) : Int) (((c * 2 ^ (8 * l.length) : Nat)) : Int) = ((le8 (l ++ [c]) : Nat) : Int) := by
  have hp : (256 : Nat) ^ l.length = 2 ^ (8 * l.length) := by rw [show (256 : Nat) = 2 ^ 8 from rfl, ← Nat.pow_mul]
  have h1 := le8_lt l hl
  rw [hp] at h1
  have h2 : c * 2 ^ (8 * l.length) < 18446744073709551616 := by
    have h3 : 2 ^ (8 * l.length) ≤ 2 ^ 56 := Nat.pow_le_pow_right (by decide) (by omega)
    have h4 : c * 2 ^ (8 * l.length) ≤ 255 * 2 ^ 56 := Nat.mul_le_mul (by omega) h3
    omega
  have h5 : le8 l < 18446744073709551616 := Nat.lt_of_lt_of_le h1 (Nat.le_trans (Nat.pow_le_pow_right (by decide) (show 8 * l.length ≤ 64 by omega)) (by decide))
  rw [u64_or_nat _ _ h5 h2, Nat.or_comm, nat_join (8 * l.length) _ _ (Nat.mul_mod_left _ _) h1, le8_app, hp, Nat.add_comm]
theorem cut_from_all {t e : TypeId} {i : TypeInfo} (ht : Tryd.prog.underlying t = some (.slice e)) (hi : Tryd.prog.info? e = some i) (hsz : i.size = 1) {K : Nat → Prop} {Q : World → Prop} {m cap : Nat} {a : Option Addr} {xs : List Value}
    (h : ∀ W, Q W → Row K W 1 (.slice a m cap) m xs) {w0 : World} (hq : Q w0) {lo : Int} (l : Nat) (hl : lo = l) (h1 : l ≤ m) :
    ∃ a2 c2, (∀ w, (Instr.slice t (.slice a m cap) (some (.int .i64 lo)) none none).run Tryd.prog w = .ok (.slice a2 (m - l) c2) w) ∧ ∀ W, Q W → Row K W 1 (.slice a2 (m - l) c2) (m - l) ((xs.drop (l * 1)).take ((m - l) * 1)) := by
  obtain ⟨a2, c2, hc, -⟩ := run_cut_from ht hi hsz (h w0 hq) l hl h1
  refine ⟨a2, c2, hc, fun W hW => ?_⟩
  obtain ⟨a3, c3, hc3, hr⟩ := run_cut_from ht hi hsz (h W hW) l hl h1
  have e := (hc w0).symm.trans (hc3 w0)
  injection e with e1 e2
  rw [e1]
  exact hr
set_option maxRecDepth 100000 in set_option maxHeartbeats 1000000 in
theorem words1_in (n : Nat) (B l Bt : Nat) (b : List Nat) (a0 : Option Addr) (c0 : Nat) (J : List Nat → World → Prop)
    (hY : ∀ pre x W, J pre W → pre.length < (b.length + 7) / 8 → x < 18446744073709551616 → YieldAt Fence.wide (n - 1) Tryd.prog l #[.int .u64 ((x : Nat) : Int)] W fun e W' => e = .returned (.bool true) ∧ J (pre ++ [x]) W' ∧ ByK B W W')
    (W : World) (hB : B ≤ W.heap.size) (hBB : B ≤ Bt) (hJb : ∀ pre A v, J pre A → J pre (A.setCell ⟨Bt, 0, none⟩ v)) (hBt : Blk W Bt #[.slice a0 b.length c0] 22) (hD : ∀ W', DtK B W W' → Row (fun _ => True) W' 1 (.slice a0 b.length c0) b.length (u8s b)) (hb : ∀ c ∈ b, c < 256) (hm : b.length ≤ 140737488355200) (h0 : J [] W) :
    CallsIn Fence.wide n Tryd.prog 127 #[.func (.yield l) #[] #[], .pointer (some ⟨Bt, 0, none⟩)] W fun e W' => (∃ v, e = .returned v) ∧ ∃ ys, ys = wordsL b ∧ J ys W' := by
  obtain ⟨i8, hi8, hy0, hy1, hy2⟩ := parts1 (show (Tryd.prog.info? 5).map (fun i => (i.zero, i.size, i.bytes)) = some (some (.int .u8 0), 1, 1) by kernel_rfl)
  obtain ⟨nn, hn⟩ : ∃ nn, b.length = nn := ⟨_, rfl⟩
  obtain ⟨M, hM⟩ : ∃ M, (nn + 7) / 8 = M := ⟨_, rfl⟩
  have HW : Hd (wordsL b = wordsP b M) := hid (by unfold wordsL; rw [hn, hM])
  have HN := hid hn; have HB := hid hb; have HBt := hid hBt; have HD := hid hD
  rw [hn] at HBt HD hm
  rw [hn, hM] at hY
  have hM1 : nn ≤ 8 * M := by omega
  have hM2 : 8 * M ≤ nn + 7 := by omega
  clear hn hM hb hBt hD
  refine callsIn_of_wp Tryd.func127 rfl trivial ?_ rfl
  simp only [Tryd.ntmps127, List.size_toArray, List.length_cons, List.length_nil, Nat.reduceAdd, Nat.reduceSub, Array.replicate_succ, Array.replicate_zero, List.push_toArray, List.append_toArray, List.nil_append, List.cons_append]
  gi_wp2
  gi_loopw [] (fun wr => ∃ (k : Nat) (a : Option Addr) (c m : Nat), Hd (m = nn - 8 * k) ∧ k ≤ M ∧ J (wordsP b k) wr ∧ Hd (Blk wr Bt #[.slice a m c] 22) ∧ Hd (DtK B W wr) ∧ Hd (∀ W', DtK B W W' → Row (fun _ => True) W' 1 (.slice a m c) m (u8s (b.drop (8 * k))))) (fun wr => boxLen Bt wr)
  case atStart => exact ⟨0, a0, c0, nn, hid (by omega), Nat.zero_le _, h0, HBt, hid (dtK_r B W), hid (fun W' h => by rw [Nat.mul_zero, List.drop_zero]; exact HD.out W' h)⟩
  case round =>
    obtain ⟨V, rfl⟩ : ∃ V, V = wr := ⟨_, rfl⟩
    obtain ⟨k, a, c, m, HM0, hk, hJ, HBx, HDt, HR⟩ := hrel
    have o0 : V.cell? ⟨Bt, 0, none⟩ = some (.slice a m c) := blk_cell HBx.out 0
    have HBL := hid (boxLen_of o0)
    by_cases hpos : 0 < m
    · have q1 : (0 : Int) < m := by omega
      have hkM : k < M := by have := HM0.out; omega
      have HDL : Hd ((b.drop (8 * k)).length = m) := hid (by rw [List.length_drop, HN.out, HM0.out])
      obtain ⟨d, hd⟩ : ∃ d, b.drop (8 * k) = d := ⟨_, rfl⟩
      have HDD := hid hd
      have HDB : Hd (∀ c ∈ d, c < 256) := hid (fun c hc => by rw [← hd] at hc; exact HB.out c (List.mem_of_mem_drop hc))
      have HWD : Hd (wd b k = le8 (d.take 8)) := hid (by unfold wd; rw [hd])
      rw [hd] at HDL HR
      clear hd
      rcases Nat.lt_or_ge m 8 with h8 | h8
      · obtain ⟨u, hu⟩ : ∃ u : Nat, u = m := ⟨_, rfl⟩
        have hum : u ≤ m := by omega
        have hu8 : u ≤ 8 := by omega
        have hu0 : 0 < u := by omega
        have HWU : Hd (wd b k = le8 (d.take u)) := hid (by rw [HWD.out, hu]; rw [List.take_of_length_le (by rw [HDL.out]; omega), List.take_of_length_le (by rw [HDL.out]; exact Nat.le_refl _)])
        have huI : (((m : Nat) : Int) : Int) = (u : Int) := by rw [hu]
        obtain ⟨a2, c2, hcut, hr2⟩ := run_cut_to (P := Tryd.prog) (t := 22) Tryd.underlying22 hi8 hy1 (HR.out V HDt.out) (hh := ((m : Nat) : Int)) u huI hum
        have hr3 : Row (fun _ => True) V 1 (.slice a2 u c2) u (u8s (d.take u)) := by have h := hr2; rw [Nat.mul_one] at h; unfold u8s at h ⊢; rwa [List.map_take]
        have HR2 := hid hr3
        have HNX : Hd (m - u = nn - 8 * (k + 1) ∧ d.drop u = b.drop (8 * (k + 1))) := hid (by
          have hm0 := HM0.out
          refine ⟨by omega, ?_⟩
          rw [← HDD.out, List.drop_drop]
          rw [List.drop_of_length_le (by rw [HN.out]; omega), List.drop_of_length_le (by rw [HN.out]; omega)])
        have HUI := hid huI
        clear hr2 hr3 hu huI
        gi_wp2
        gi_loopw [4, 17] (fun wv iv wr2 => ∃ j : Nat, j ≤ u ∧ wv = .int .u64 ((le8 (d.take j) : Nat) : Int) ∧ iv = .int .i64 (j : Int) ∧ V = wr2) (fun _ iv _ => u - (intOf iv).toNat)
        case atStart => exact ⟨0, Nat.zero_le _, by rw [List.take_zero]; rfl, rfl, rfl⟩
        case round =>
          obtain ⟨j, hj, rfl, rfl, hw⟩ := hrel
          subst hw
          by_cases hlt : j < u
          · have j1 : (j : Int) < u := by omega
            have j2 : (0 : Int) ≤ j := by omega
            obtain ⟨bx, ox, rfl, -, -, hc⟩ := row_ints HR2.out (by omega)
            have hcell := hc j hlt
            have hjm : j < d.length := by rw [HDL.out]; omega
            rw [u8s_getD _ _ (by rw [List.length_take]; omega), show (d.take u).getD j 0 = d.getD j 0 by unfold List.getD; rw [List.getElem?_take, if_pos hlt]] at hcell
            have hc8 : d.getD j 0 < 256 := by simp only [List.getD, List.getElem?_eq_getElem hjm]; exact HDB.out _ (List.getElem_mem hjm)
            have HOR := or_byte (l := d.take j) (fun c hc => HDB.out c (List.mem_of_mem_take hc)) (by rw [List.length_take]; omega) (d.getD j 0) hc8
            have HTK : d.take (j + 1) = d.take j ++ [d.getD j 0] := by rw [List.take_add_one, List.getElem?_eq_getElem hjm]; simp [List.getD, hjm]
            rw [← HTK, show (d.take j).length = j by rw [List.length_take]; omega] at HOR
            clear hc HTK hjm
            generalize le8 (d.take j) = x1 at *
            obtain ⟨x2, hx2⟩ : ∃ x2, le8 (d.take (j + 1)) = x2 := ⟨_, rfl⟩
            rw [hx2] at HOR
            have HX2 := hid hx2
            clear hx2
            generalize d.getD j 0 = cc at *
            have hwr : IntKind.u64.wrap ((cc : Int) * 2 ^ (8 * j)) = ((cc * 2 ^ (8 * j) : Nat) : Int) := by
              have h3 : 2 ^ (8 * j) ≤ 2 ^ 56 := Nat.pow_le_pow_right (by decide) (by omega)
              have h4 : cc * 2 ^ (8 * j) ≤ 255 * 2 ^ 56 := Nat.mul_le_mul (by omega) h3
              have h5 : ((cc : Int) * 2 ^ (8 * j)) = ((cc * 2 ^ (8 * j) : Nat) : Int) := by push_cast; rfl
              rw [h5]
              generalize cc * 2 ^ (8 * j) = z at *
              simp [IntKind.wrap, IntKind.bits, IntKind.signed]
              omega
            have HOR2 : Hd (bits BinOp.or IntKind.u64 (x1 : Int) (IntKind.u64.wrap ((cc : Int) * 2 ^ (8 * j))) = (x2 : Int)) := hid (by rw [hwr]; exact HOR)
            clear HOR hwr
            gi_wp2
            go_roundw
            case rel => exact ⟨j + 1, by omega, by rw [HOR2.out, HX2.out], by go_num, trivial⟩
            case measure => simp [intOf]; omega
          · obtain rfl : j = u := by omega
            have k0 : ¬ ((j : Int) < (j : Int)) := by omega
            rw [← HWU.out]
            obtain ⟨fn, tmps, assign, body, hy, hR⟩ := hY _ (wd b k) V hJ (by rw [wordsP_length]; exact hkM) (wd_lt HB.out k)
            obtain ⟨x, hx⟩ : ∃ x, wd b k = x := ⟨_, rfl⟩
            rw [hx] at hy hR ⊢
            have HX := hid hx
            clear hx hY hcut HR2
            try simp only [] at hy hR
            gi_wp2
            refine ⟨fun h => (by cases h), ?_⟩
            refine hR.mono ?_
            rintro e W3 ⟨rfl, hJ3, hB3⟩
            rw [← HX.out, ← wordsP_succ] at hJ3
            have HB3 := hid (hB3.2 _ _ HBx.out)
            have HDt3 := hid (dtK_t HDt.out hB3.1)
            have p0 : W3.cell? ⟨Bt, 0, none⟩ = some (.slice a m c) := blk_cell HB3.out 0
            have p1 : W3.frozen? ⟨Bt, 0, none⟩ = false := blk_free HB3.out 0
            obtain ⟨a4, c4, hcut2, hr4⟩ := cut_from_all Tryd.underlying22 hi8 hy1 (Q := DtK B W) HR.out HDt3.out (lo := ((m : Nat) : Int)) j HUI.out hum
            have HR4 := hid hr4
            clear hr4 hB3 hy hR o0
            gi_wp2
            refine ⟨⟨k + 1, a4, c4, m - j, hid HNX.out.1, by omega, hJb _ _ _ hJ3, hid (blk_set HB3.out 0 _), hid (dtK_t HDt3.out (dtK_of (S := fun b => b = Bt) (Nat.le_trans hB HDt3.out.1) (keeps_set (fun b => b = Bt) _ _ _ rfl) (fun k _ h => by subst h; exact ⟨hBB, _, _, _, HB3.out, by decide⟩))), hid (fun W' h => ?_)⟩, ?_⟩
            · have h5 := HR4.out W' h
              rw [Nat.mul_one, Nat.mul_one, List.take_of_length_le (by simp [u8s, HDL.out])] at h5
              rw [← HNX.out.2]
              unfold u8s at h5 ⊢
              rw [List.map_drop]
              exact h5
            · rw [boxLen_of (show _ = some (Value.slice a4 (m - j) c4) from blk_cell (blk_set HB3.out 0 _) 0), HBL.out]
              omega
      · obtain ⟨u, hu⟩ : ∃ u : Nat, u = 8 := ⟨_, rfl⟩
        have hum : u ≤ m := by omega
        have hu8 : u ≤ 8 := by omega
        have hu0 : 0 < u := by omega
        have HWU : Hd (wd b k = le8 (d.take u)) := hid (by rw [HWD.out, hu])
        have huI : (8 : Int) = (u : Int) := by rw [hu]; rfl
        obtain ⟨a2, c2, hcut, hr2⟩ := run_cut_to (P := Tryd.prog) (t := 22) Tryd.underlying22 hi8 hy1 (HR.out V HDt.out) (hh := 8) u huI hum
        have hr3 : Row (fun _ => True) V 1 (.slice a2 u c2) u (u8s (d.take u)) := by have h := hr2; rw [Nat.mul_one] at h; unfold u8s at h ⊢; rwa [List.map_take]
        have HR2 := hid hr3
        have HNX : Hd (m - u = nn - 8 * (k + 1) ∧ d.drop u = b.drop (8 * (k + 1))) := hid (by
          have hm0 := HM0.out
          refine ⟨by omega, ?_⟩
          rw [← HDD.out, List.drop_drop]
          rw [hu, show 8 * k + 8 = 8 * (k + 1) by omega])
        have HUI := hid huI
        clear hr2 hr3 hu huI
        gi_wp2
        gi_loopw [4, 17] (fun wv iv wr2 => ∃ j : Nat, j ≤ u ∧ wv = .int .u64 ((le8 (d.take j) : Nat) : Int) ∧ iv = .int .i64 (j : Int) ∧ V = wr2) (fun _ iv _ => u - (intOf iv).toNat)
        case atStart => exact ⟨0, Nat.zero_le _, by rw [List.take_zero]; rfl, rfl, rfl⟩
        case round =>
          obtain ⟨j, hj, rfl, rfl, hw⟩ := hrel
          subst hw
          by_cases hlt : j < u
          · have j1 : (j : Int) < u := by omega
            have j2 : (0 : Int) ≤ j := by omega
            obtain ⟨bx, ox, rfl, -, -, hc⟩ := row_ints HR2.out (by omega)
            have hcell := hc j hlt
            have hjm : j < d.length := by rw [HDL.out]; omega
            rw [u8s_getD _ _ (by rw [List.length_take]; omega), show (d.take u).getD j 0 = d.getD j 0 by unfold List.getD; rw [List.getElem?_take, if_pos hlt]] at hcell
            have hc8 : d.getD j 0 < 256 := by simp only [List.getD, List.getElem?_eq_getElem hjm]; exact HDB.out _ (List.getElem_mem hjm)
            have HOR := or_byte (l := d.take j) (fun c hc => HDB.out c (List.mem_of_mem_take hc)) (by rw [List.length_take]; omega) (d.getD j 0) hc8
            have HTK : d.take (j + 1) = d.take j ++ [d.getD j 0] := by rw [List.take_add_one, List.getElem?_eq_getElem hjm]; simp [List.getD, hjm]
            rw [← HTK, show (d.take j).length = j by rw [List.length_take]; omega] at HOR
            clear hc HTK hjm
            generalize le8 (d.take j) = x1 at *
            obtain ⟨x2, hx2⟩ : ∃ x2, le8 (d.take (j + 1)) = x2 := ⟨_, rfl⟩
            rw [hx2] at HOR
            have HX2 := hid hx2
            clear hx2
            generalize d.getD j 0 = cc at *
            have hwr : IntKind.u64.wrap ((cc : Int) * 2 ^ (8 * j)) = ((cc * 2 ^ (8 * j) : Nat) : Int) := by
              have h3 : 2 ^ (8 * j) ≤ 2 ^ 56 := Nat.pow_le_pow_right (by decide) (by omega)
              have h4 : cc * 2 ^ (8 * j) ≤ 255 * 2 ^ 56 := Nat.mul_le_mul (by omega) h3
              have h5 : ((cc : Int) * 2 ^ (8 * j)) = ((cc * 2 ^ (8 * j) : Nat) : Int) := by push_cast; rfl
              rw [h5]
              generalize cc * 2 ^ (8 * j) = z at *
              simp [IntKind.wrap, IntKind.bits, IntKind.signed]
              omega
            have HOR2 : Hd (bits BinOp.or IntKind.u64 (x1 : Int) (IntKind.u64.wrap ((cc : Int) * 2 ^ (8 * j))) = (x2 : Int)) := hid (by rw [hwr]; exact HOR)
            clear HOR hwr
            gi_wp2
            go_roundw
            case rel => exact ⟨j + 1, by omega, by rw [HOR2.out, HX2.out], by go_num, trivial⟩
            case measure => simp [intOf]; omega
          · obtain rfl : j = u := by omega
            have k0 : ¬ ((j : Int) < (j : Int)) := by omega
            rw [← HWU.out]
            obtain ⟨fn, tmps, assign, body, hy, hR⟩ := hY _ (wd b k) V hJ (by rw [wordsP_length]; exact hkM) (wd_lt HB.out k)
            obtain ⟨x, hx⟩ : ∃ x, wd b k = x := ⟨_, rfl⟩
            rw [hx] at hy hR ⊢
            have HX := hid hx
            clear hx hY hcut HR2
            try simp only [] at hy hR
            gi_wp2
            refine ⟨fun h => (by cases h), ?_⟩
            refine hR.mono ?_
            rintro e W3 ⟨rfl, hJ3, hB3⟩
            rw [← HX.out, ← wordsP_succ] at hJ3
            have HB3 := hid (hB3.2 _ _ HBx.out)
            have HDt3 := hid (dtK_t HDt.out hB3.1)
            have p0 : W3.cell? ⟨Bt, 0, none⟩ = some (.slice a m c) := blk_cell HB3.out 0
            have p1 : W3.frozen? ⟨Bt, 0, none⟩ = false := blk_free HB3.out 0
            obtain ⟨a4, c4, hcut2, hr4⟩ := cut_from_all Tryd.underlying22 hi8 hy1 (Q := DtK B W) HR.out HDt3.out (lo := 8) j HUI.out hum
            have HR4 := hid hr4
            clear hr4 hB3 hy hR o0
            gi_wp2
            refine ⟨⟨k + 1, a4, c4, m - j, hid HNX.out.1, by omega, hJb _ _ _ hJ3, hid (blk_set HB3.out 0 _), hid (dtK_t HDt3.out (dtK_of (S := fun b => b = Bt) (Nat.le_trans hB HDt3.out.1) (keeps_set (fun b => b = Bt) _ _ _ rfl) (fun k _ h => by subst h; exact ⟨hBB, _, _, _, HB3.out, by decide⟩))), hid (fun W' h => ?_)⟩, ?_⟩
            · have h5 := HR4.out W' h
              rw [Nat.mul_one, Nat.mul_one, List.take_of_length_le (by simp [u8s, HDL.out])] at h5
              rw [← HNX.out.2]
              unfold u8s at h5 ⊢
              rw [List.map_drop]
              exact h5
            · rw [boxLen_of (show _ = some (Value.slice a4 (m - j) c4) from blk_cell (blk_set HB3.out 0 _) 0), HBL.out]
              omega
    · have hm0 : m = 0 := by omega
      have hkM : k = M := by have := HM0.out; omega
      have q1 : ¬ ((0 : Int) < m) := by omega
      subst hkM
      gi_wp2
      go_end0
      exact ⟨⟨_, rfl⟩, by rw [HW.out]; exact hJ⟩
end Go.Proofs.YthoikljmokkchaaDoor
namespace Go.Proofs.YthoikljmokkchaaDoor
open Go.RowKit Go.Shelf
attribute [local go_sem] Oper.semAt_some
theorem dtK_below {B : Nat} {w W : World} (h : Below w.heap.size w W) (hB : B ≤ w.heap.size) : DtK B w W :=
  ⟨h.size, fun k hk => h.block k (by omega), fun k cs fr hk => h.block k (Array.getElem?_eq_some_iff.1 hk).1⟩
theorem row_heap {K : Nat → Prop} {w w' : World} {size : Nat} {v : Value} {n : Nat} {xs : List Value} (h : Row K w size v n xs) (hs : w.heap.size ≤ w'.heap.size) (hk : ∀ b, b < w.heap.size → K b → w'.heap[b]? = w.heap[b]?) : Row K w' size v n xs := by
  obtain ⟨h0, h | ⟨x, cap, rfl, h1, h2, h3⟩⟩ := h
  · exact ⟨h0, .inl h⟩
  · exact ⟨h0, .inr ⟨x, cap, rfl, h1, h2, fun hn => by
      obtain ⟨b, o, rfl, h4, h5, h6⟩ := h3 hn
      exact ⟨b, o, rfl, h4, Nat.lt_of_lt_of_le h5 hs, fun j hj => (World.cell?_of_block (a := ⟨b, o + j, none⟩) (hk b h5 h4)).trans (h6 j hj)⟩⟩⟩
theorem words_in (n : Nat) (a : Option Addr) (m c : Nat) (w : World) :
    CallsIn Fence.wide n Tryd.prog 122 #[.slice a m c] w fun e w' => e = .returned (.func (.func 127) #[] #[.pointer (some ⟨w.heap.size, 0, none⟩)]) ∧ w' = w.alloc (.cells #[.slice a m c] 22) := by
  refine callsIn_of_wp Tryd.func122 rfl trivial ?_ rfl
  simp only [Tryd.ntmps122, List.size_toArray, List.length_cons, List.length_nil, Nat.reduceAdd, Nat.reduceSub, Array.replicate_succ, Array.replicate_zero, List.push_toArray, List.append_toArray, List.nil_append, List.cons_append]
  gi_wp2
  go_ret
  exact ⟨rfl, rfl⟩
theorem words_box (n B Bt : Nat) (b : List Nat) (a0 : Option Addr) (c0 : Nat) (w : World) (hB : B ≤ w.heap.size) (hBB : B ≤ Bt) (hBt : Blk w Bt #[.slice a0 b.length c0] 22) (hD : ∀ W', DtK B w W' → Row (fun _ => True) W' 1 (.slice a0 b.length c0) b.length (u8s b)) (hb : ∀ c ∈ b, c < 256) (hm : b.length ≤ 140737488355200) :
    SeqBox Fence.wide n Tryd.prog 127 #[.pointer (some ⟨Bt, 0, none⟩)] (fun x : Nat => #[.int .u64 ((x : Nat) : Int)]) (ByK B) (fun ys => ys = wordsL b) (fun x => x < 18446744073709551616) ((b.length + 7) / 8) Bt w := fun l J W hW _ hJb hY h0 =>
  words1_in n B l Bt b a0 c0 J hY W (Nat.le_trans hB hW.size) hBB hJb (blk_keep hBt (Keeps.of_below hW) (fun h => by have := blk_lt hBt; omega)) (fun W' h => hD W' (dtK_t (dtK_below hW hB) h)) hb hm h0
theorem grown_keeps {W W' : World} {row : Option Nat} (h : W.grownBy W' row) : Keeps (fun b => row = some b) W W' := ⟨h.os, h.tape, h.output, h.size, fun k hk hs => h.block k hk (fun e => hs e.symm)⟩
theorem own_cells {S : Nat → Prop} {w : World} {e : TypeId} {size : Nat} {v : Value} {n : Nat} {xs : List Value} (h : Own S w e size v n xs) {b : Nat} (hb : v.ownBlock = some b) : ∃ cs, Blk w b cs e := by
  rcases h.1.2 with ⟨h1, _⟩ | ⟨g, cap, cur, h1, _, h3, _⟩
  · rw [h1] at hb; simp [Value.ownBlock] at hb
  · rw [h1] at hb; injection hb with hb; subst hb; exact ⟨cur, h3⟩
theorem own_base {S : Nat → Prop} {w : World} {e : TypeId} {size B : Nat} {v : Value} {n : Nat} {xs : List Value} (h : Own S w e size v n xs) (hb : ∀ b, v.ownBlock = some b → B ≤ b) : w.ownsRow B e size v n xs := by
  refine ⟨h.1.1, ?_⟩
  rcases h.1.2 with h1 | ⟨g, cap, cur, h1, _, h3⟩
  · exact .inl h1
  · exact .inr ⟨g, cap, cur, h1, hb g (by rw [h1]; rfl), h3⟩
theorem base_own {w : World} {e : TypeId} {size B : Nat} {v : Value} {n : Nat} {xs : List Value} (h : w.ownsRow B e size v n xs) : Own (fun b => v.ownBlock = some b) w e size v n xs ∧ ∀ b, v.ownBlock = some b → B ≤ b := by
  refine ⟨⟨⟨h.1, ?_⟩, fun _ h => h⟩, fun b hb => ?_⟩
  · rcases h.2 with h1 | ⟨g, cap, cur, h1, _, h3⟩
    · exact .inl h1
    · exact .inr ⟨g, cap, cur, h1, Nat.zero_le _, h3⟩
  · rcases h.2 with ⟨h1, _⟩ | ⟨g, cap, cur, h1, h2, _⟩
    · rw [h1] at hb; simp [Value.ownBlock] at hb
    · rw [h1] at hb; injection hb with hb; subst hb; exact h2
theorem blk_ne {W : World} {b c : Nat} {cs ds : Array Value} {T U : TypeId} (h : Blk W b cs T) (k : Blk W c ds U) (hTU : T ≠ U) : b ≠ c := fun e => by
  subst e
  have h1 : W.heap[b]? = some (Obj.cells cs T (0, 0)) := h
  have h2 : W.heap[b]? = some (Obj.cells ds U (0, 0)) := k
  rw [h1] at h2; cases h2; exact hTU rfl
theorem keepsOthers_of {S : Nat → Prop} {W W' : World} (hk : Keeps S W W') (h : ∀ b, b < W.heap.size → S b → ∃ cs T, Blk W b cs T) : KeepsOthers W W' :=
  ⟨hk.size, fun k o h1 h2 => (hk.block k (Array.getElem?_eq_some_iff.1 h1).1 (fun hs => by
    obtain ⟨cs, T, hb⟩ := h k (Array.getElem?_eq_some_iff.1 h1).1 hs
    rw [show W.heap[k]? = _ from hb] at h1; cases h1; cases h2)).trans h1⟩
/-- the list under way: its variable's box, its own row -/
def WithI (B Lt Bt n0 : Nat) (l : List Int) (w0 : World) (pre : List Nat) (W : World) : Prop := ∃ a c n, n = n0 + pre.length ∧ Blk W Lt #[.slice a n c] 61 ∧ (∃ v, Blk W Bt #[v] 22) ∧
  Own (fun b => (Value.slice a n c).ownBlock = some b) W 3 1 (.slice a n c) n (i64s (l ++ wI pre)) ∧ (∀ b, (Value.slice a n c).ownBlock = some b → B ≤ b) ∧ Below B w0 W
theorem withI_keep {B Lt Bt n0 : Nat} {l : List Int} {w0 W W' : World} {S : Nat → Prop} {pre : List Nat} (h : WithI B Lt Bt n0 l w0 pre W) (hB : B ≤ w0.heap.size) (hk : Keeps S W W') (h1 : ∀ b cs T, Blk W b cs T → S b → b = Bt) (h2 : ∀ v, Blk W Bt #[v] 22 → ∃ v', Blk W' Bt #[v'] 22) (h3 : ∀ k, k < B → ¬ S k) : WithI B Lt Bt n0 l w0 pre W' := by
  obtain ⟨a, c, n, e, b1, ⟨v, b2⟩, o, ob, bw⟩ := h
  refine ⟨a, c, n, e, blk_keep b1 hk (fun hs => blk_ne b1 b2 (by decide) (h1 _ _ _ b1 hs)), h2 v b2, o.keep hk (fun b _ hb hs => ?_), ob, bw.trans (hk.below (Nat.le_trans hB bw.size) h3)⟩
  obtain ⟨cs, hc⟩ := own_cells o hb
  exact blk_ne hc b2 (by decide) (h1 _ _ _ hc hs)
theorem withI_from {B Lt Bt n0 C : Nat} {l : List Int} {w0 : World} (hB : B ≤ w0.heap.size) (hC : B ≤ C) : OwnFrom C (WithI B Lt Bt n0 l w0) := fun pre W W' row h hg hr => by
  have hk := grown_keeps hg
  have hne : ∀ b cs T, Blk W b cs T → row ≠ some b := fun b cs T hb e => by
    obtain ⟨_, o, ho, hc⟩ := hr b e
    rw [show W.heap[b]? = _ from hb] at ho; cases ho; cases hc
  exact withI_keep h hB hk (fun b cs T hb hs => (hne b cs T hb hs).elim) (fun v hv => ⟨v, blk_keep hv hk (hne _ _ _ hv)⟩) (fun k hk e => by have := (hr k e).1; omega)
theorem withI_box {B Lt Bt n0 : Nat} {l : List Int} {w0 : World} (hB : B ≤ w0.heap.size) (hBt : B ≤ Bt) (pre : List Nat) (A : World) (v : Value) (h : WithI B Lt Bt n0 l w0 pre A) : WithI B Lt Bt n0 l w0 pre (A.setCell ⟨Bt, 0, none⟩ v) :=
  withI_keep h hB (keeps_set (fun b => b = Bt) A ⟨Bt, 0, none⟩ v rfl) (fun _ _ _ _ h => h) (fun u hu => ⟨v, blk_set hu 0 v⟩) (fun k hk e => by omega)
set_option maxRecDepth 100000 in set_option maxHeartbeats 1000000 in
theorem with_in (B : Nat) (a0 : Option Addr) (n0 c0 : Nat) (l : List Int) (vb : Value) (b : List Nat) (w : World) (hl : Own (fun k => B ≤ k) w 3 1 (.slice a0 n0 c0) n0 (i64s l)) (hn0 : n0 ≤ 8) (hB : B ≤ w.heap.size) (hv : Sl (fun k => k < B) w vb (u8s b)) (hb : ∀ c ∈ b, c < 256) (hm : b.length ≤ 140737488355200) :
    CallsIn Fence.wide 3 Tryd.prog 110 #[.slice a0 n0 c0, vb] w fun e w' => ∃ a n c, e = .returned (.slice a n c) ∧ n = n0 + ((wordsL b).length + 1) ∧ Own (fun k => B ≤ k) w' 3 1 (.slice a n c) n (i64s (l ++ wI (wordsL b) ++ [(b.length : Int)])) ∧ Below B w w' := by
  obtain ⟨i0, hi, hz0, hz1, hz2⟩ := parts1 infoI64h
  obtain ⟨ab, cb, rfl, h1, h2, -⟩ := hv.bytes
  have HL := hid hl; have HV := hid hv; have HB := hid hb
  clear hl hv hb
  refine callsIn_of_wp_marks Tryd.func110 rfl trivial ?_ rfl
  simp only [Tryd.ntmps110, List.size_toArray, List.length_cons, List.length_nil, Nat.reduceAdd, Nat.reduceSub, Array.replicate_succ, Array.replicate_zero, List.push_toArray, List.append_toArray, List.nil_append, List.cons_append]
  gi_wp2_with fail
  refine ⟨trivial, ?_⟩
  refine (words_in _ _ _ _ _).mono ?_
  rintro e w' ⟨rfl, rfl⟩
  gi_wp2
  obtain ⟨W0, hW0⟩ : ∃ W0, ((w.alloc (.cells #[.slice a0 n0 c0] 61)).alloc (.cells #[.slice ab b.length cb] 22)) = W0 := ⟨_, rfl⟩
  have b0 : Blk W0 w.heap.size #[.slice a0 n0 c0] 61 := by rw [← hW0]; exact blk_alloc (blk_new _ _ _) _
  have b1 : Blk W0 (w.heap.size + 1) #[.slice ab b.length cb] 22 := by rw [← hW0]; exact blk_new' _ _ _ _ (by simp)
  have k0 : Keeps (fun _ => False) w W0 := by rw [← hW0]; exact (keeps_alloc _ _ _).alloc _
  have hs0 := k0.size
  have hs2 := blk_lt b1
  have HI0 : WithI B w.heap.size (w.heap.size + 1) n0 l w [] W0 := ⟨a0, c0, n0, by simp, b0, ⟨_, b1⟩, by
    have h := HL.out.keep k0 (fun _ _ _ h => h)
    have h9 : Own (fun b => (Value.slice a0 n0 c0).ownBlock = some b) W0 3 1 (.slice a0 n0 c0) n0 (i64s l) := ⟨h.1, fun k hk => hk⟩
    rw [show l ++ wI [] = l by simp [wI]]
    exact h9, fun b hb => HL.out.2 b hb, k0.below hB (fun _ _ h => h)⟩
  rw [hW0]
  refine wpIn_rangeFunc_box rfl (by omega) (gf := 127) (lb := #[.pointer (some ⟨w.heap.size + 1, 0, none⟩)]) rfl trivial (enters_of Tryd.func127 (by kernel_rfl) rfl) (Bt := w.heap.size + 1) hs2
    (words_box 2 B (w.heap.size + 1) b ab cb W0 (by omega) (by omega) b1 (fun W' h => (row_heap (sl_row (HV.out.keep k0 (fun _ _ _ h => h)) (u8s_length b)) h.1 (fun k _ hk => h.2.1 k hk)).mono (fun _ _ _ => trivial)) HB.out hm) byK_t (fun W l o o' hl h ho _ => byK_b W l o o' (by omega) h ho) (Below.refl _ _) (fun _ => rfl)
    (WithI B w.heap.size (w.heap.size + 1) n0 l w) (withI_from hB (by omega)) (withI_box hB (by omega)) HI0
    (fun x a' _ => a' = { tmps := #[.slice a0 n0 c0, .slice ab b.length cb, .pointer (some ⟨w.heap.size, 0, none⟩), undef, .slice none 0 0, .int .u64 ((x : Nat) : Int), .slice ab b.length cb, .func (.func 127) #[] #[.pointer (some ⟨w.heap.size + 1, 0, none⟩)], .int .u64 ((x : Nat) : Int), undef, undef, undef, undef, undef, undef, undef, undef, undef, undef], defers := [] }) (fun x a' _ X Y row hs _ _ => hs)
    ?assign ?body ?done
  case assign =>
    rintro l2 pre x W K hI hK
    gi_wp2
    exact hK _ _ ((KeepsOthers.refl _).from _) ⟨dtK_r B W, fun _ _ h => h⟩ hI rfl
  case body =>
    rintro l2 pre x a' W hl ⟨r, hr⟩ ⟨a, c, n, hnn, h1, ⟨vx, hx⟩, h2, h3, h4⟩ rfl hlt _
    have o0 : W.cell? ⟨w.heap.size, 0, none⟩ = some (.slice a n c) := blk_cell h1 0
    have H1 := hid h1; have H2 := hid h2; have H3 := hid h3; have H4 := hid h4; have HX := hid hx; have HNN := hid hnn
    have hnb : n ≤ 17592186044410 := by omega
    have zW : w.heap.size < W.heap.size := blk_lt h1
    obtain ⟨u2, hu2⟩ : ∃ u2, wrap64 ((x : Nat) : Int) = u2 := ⟨_, rfl⟩
    have hu3 : IntKind.i64.wrap ((x : Nat) : Int) = u2 := by rw [← hu2]; exact IntWalk.i64_left _
    have HU2 := hid hu2
    clear h1 h2 h3 h4 hx hnn hu2 hr
    gi_wp2_with (gi_at_builtin; refine wpListIn_append_own _ rfl _ _ 61 rfl B 3 i0 (.int .i64 0) 1 8 Tryd.underlying61 hi hz0 hz1 hz2 rfl (by decide) _ _ _ rfl (own_base (H2.out.alloc _) H3.out) ⟨W.heap.size, 0, none⟩ 1 1 [.int .i64 u2] rfl rfl (by first | exact cell_one_new _ _ _ | (rw [← hu3]; exact cell_one_new _ _ _)) (by simp [Value.oneCell']) (by unfold maxLen; omega) (by omega) (by simp; omega) ?_)
    intro v' w3 hown hg _
    have KA := keeps_alloc (fun _ => False) W (.cells #[.int .i64 u2] 3)
    have KS : Hd (Keeps (fun b => (Value.slice a n c).ownBlock = some b) W w3) := hid ((KA.mono (fun _ _ h => h.elim)).trans (grown_keeps (by first | exact hg | (rw [← hu3]; exact hg) | (rw [hu3] at hg; exact hg))))
    have HO : Own (fun b => v'.ownBlock = some b) w3 3 1 v' (n + 1) (i64s (l ++ wI (pre ++ [x]))) := by
      have h := (base_own hown).1
      rw [wI_append, ← List.append_assoc, i64s_append, show i64s (wI [x]) = [Value.int .i64 u2] by rw [← HU2.out]; rfl]
      exact h
    obtain ⟨a3, c3, rfl, _⟩ := HO.row.form
    have HOH := hid HO
    have HNB : Hd (∀ b, (Value.slice a3 (n + 1) c3).ownBlock = some b → B ≤ b) := hid (base_own hown).2
    have hcells := fun b hb => own_cells H2.out (b := b) hb
    have H13 := hid (blk_keep H1.out KS.out (fun hb => by obtain ⟨cs, hc⟩ := hcells _ hb; exact blk_ne hc H1.out (by decide) rfl))
    have HX3 := hid (blk_keep HX.out KS.out (fun hb => by obtain ⟨cs, hc⟩ := hcells _ hb; exact blk_ne hc HX.out (by decide) rfl))
    have y0 : w3.cell? ⟨w.heap.size, 0, none⟩ = some (.slice a n c) := blk_cell H13.out 0
    have y1 : w3.frozen? ⟨w.heap.size, 0, none⟩ = false := blk_free H13.out 0
    have hne : w.heap.size + 1 ≠ w.heap.size := by omega
    clear hown hg HO
    gi_wp2
    have KT : Keeps (fun b => b = w.heap.size ∨ (Value.slice a n c).ownBlock = some b) W (w3.setCell ⟨w.heap.size, 0, none⟩ (.slice a3 (n + 1) c3)) := (KS.out.mono (fun _ _ h => .inr h)).setCell (.inl (.inl rfl)) _
    have hty : ∀ b, b < W.heap.size → (b = w.heap.size ∨ (Value.slice a n c).ownBlock = some b) → B ≤ b ∧ ∃ cs T, Blk W b cs T ∧ T ≠ 5 ∧ T ≠ 22 := fun b _ hb => by
      rcases hb with rfl | hb
      · exact ⟨hB, _, _, H1.out, by decide, by decide⟩
      · obtain ⟨cs, hcs⟩ := own_cells H2.out hb; exact ⟨H3.out b hb, cs, _, hcs, by decide, by decide⟩
    refine ⟨(keepsOthers_of KT (fun b h1 h2 => by obtain ⟨-, cs, T, h3, _⟩ := hty b h1 h2; exact ⟨cs, T, h3⟩)).from _, byK_of (by omega) KT hty, a3, c3, n + 1, ?_, blk_set H13.out 0 _, ⟨vx, blk_other HX3.out hne.symm _ _⟩, ?_, HNB.out, ?_⟩
    · rw [List.length_append, HNN.out]; rfl
    · refine HOH.out.keep (keeps_set (fun b => b = w.heap.size) _ _ _ rfl) (fun b _ h1 h2 => ?_)
      obtain ⟨cs, hc⟩ := own_cells HOH.out h1
      exact blk_ne hc H13.out (by decide) h2
    · exact H4.out.trans (KT.below (Nat.le_trans hB H4.out.size) (fun k hk h => by
        rcases h with h | h
        · omega
        · have := H3.out k h; omega))
  case done =>
    rintro D xs W hD rfl ⟨a, c, n, hnn, h1, ⟨vx, hx⟩, h2, h3, h4⟩ hK
    have o0 : W.cell? ⟨w.heap.size, 0, none⟩ = some (.slice a n c) := blk_cell h1 0
    have H1 := hid h1; have H2 := hid h2; have H3 := hid h3; have H4 := hid h4; have HNN := hid hnn
    have hwl : (wordsL b).length = (b.length + 7) / 8 := wordsL_length b
    have hnb : n ≤ 17592186044410 := by omega
    have zW : w.heap.size < W.heap.size := blk_lt h1
    clear h1 h2 h3 h4 hx hnn
    gi_wp2_with (gi_at_builtin; refine wpListIn_append_own _ rfl _ _ 61 rfl B 3 i0 (.int .i64 0) 1 8 Tryd.underlying61 hi hz0 hz1 hz2 rfl (by decide) _ _ _ rfl (own_base (H2.out.alloc _) H3.out) ⟨W.heap.size, 0, none⟩ 1 1 [.int .i64 (b.length : Int)] rfl rfl (cell_one_new _ _ _) (by simp [Value.oneCell']) (by unfold maxLen; omega) (by omega) (by simp; omega) ?_)
    intro v' w3 hown hg _
    have KA := keeps_alloc (fun _ => False) W (.cells #[.int .i64 (b.length : Int)] 3)
    have KS : Hd (Keeps (fun b => (Value.slice a n c).ownBlock = some b) W w3) := hid ((KA.mono (fun _ _ h => h.elim)).trans (grown_keeps hg))
    have HO : Own (fun b => v'.ownBlock = some b) w3 3 1 v' (n + 1) (i64s (l ++ wI (wordsL b) ++ [(b.length : Int)])) := by
      rw [i64s_append]; exact (base_own hown).1
    obtain ⟨a3, c3, rfl, _⟩ := HO.row.form
    have HOH := hid HO
    have HNB : Hd (∀ b, (Value.slice a3 (n + 1) c3).ownBlock = some b → B ≤ b) := hid (base_own hown).2
    have hK3 : w3.heap[D]? = some (.deferred (some [])) := (KS.out.block D (Array.getElem?_eq_some_iff.1 hK).1 (fun h => by
      obtain ⟨cs, hc⟩ := own_cells H2.out h
      rw [show W.heap[D]? = _ from hc] at hK; cases hK)).trans hK
    have hW3 := KS.out.size
    clear hown hg HO
    gi_wp2
    refine ⟨by simp, .inl ⟨_, _, rfl, run_takeDeferred hK3, ?_⟩⟩
    refine ⟨.slice a3 (n + 1) c3, by simp [results, Tryd.f110, go_sem], ?_⟩
    have KP := grown_keeps (grownBy_putObj' w3 D (.deferred none))
    refine ⟨a3, n + 1, c3, rfl, by rw [HNN.out]; omega, (HOH.out.keep KP (fun b _ hb e => ?_)).mono (fun b _ h => HNB.out b h), (H4.out.trans (KS.out.below (Nat.le_trans hB H4.out.size) (fun k hk h => by have := H3.out k h; omega))).trans (KP.below (by omega) (fun k hk e => by injection e with e; omega))⟩
    obtain ⟨cs, hc⟩ := own_cells HOH.out hb
    injection e with e; subst e
    rw [show w3.heap[D]? = _ from hc] at hK3; cases hK3
theorem with_any (B : Nat) (a0 : Option Addr) (n0 c0 : Nat) (l : List Int) (vb : Value) (b : List Nat) (w : World) (hl : Own (fun k => B ≤ k) w 3 1 (.slice a0 n0 c0) n0 (i64s l)) (hn0 : n0 ≤ 8) (hB : B ≤ w.heap.size) (hv : Sl (fun k => k < B) w vb (u8s b)) (hb : ∀ c ∈ b, c < 256) (hm : b.length ≤ 140737488355200) :
    Calls Tryd.prog 110 #[.slice a0 n0 c0, vb] w fun e w' => ∃ a n c, e = .returned (.slice a n c) ∧ n = n0 + ((wordsL b).length + 1) ∧ Own (fun k => B ≤ k) w' 3 1 (.slice a n c) n (i64s (l ++ wI (wordsL b) ++ [(b.length : Int)])) ∧ Below B w w' :=
  (callsIn_wide (n := 3)).1 (with_in B a0 n0 c0 l vb b w hl hn0 hB hv hb hm)
end Go.Proofs.YthoikljmokkchaaDoor
namespace Go.Proofs.YthoikljmokkchaaDoor
open Go.RowKit Go.Shelf
attribute [local go_sem] Oper.semAt_some
def mixL (s : Nat) (l : List Nat) : Nat := l.foldl mixN s
theorem mixL_app (s : Nat) (l : List Nat) (x : Nat) : mixL s (l ++ [x]) = mixN (mixL s l) x := by unfold mixL; rw [List.foldl_append, List.foldl_cons, List.foldl_nil]
theorem mixL_lt (l : List Nat) : mixL 0 l < 18446744073709551616 := by
  rcases List.eq_nil_or_concat l with rfl | ⟨l', x, rfl⟩
  · unfold mixL; rw [List.foldl_nil]; decide
  · rw [List.concat_eq_append, mixL_app]; exact mixN_lt _ _
def SumI (w : World) (Bt : Nat) (pre : List Nat) (X : World) : Prop := ∃ s : Nat, Hd (s = mixL 0 pre) ∧ Blk X w.heap.size #[.int .u64 (s : Int)] 23 ∧ (∃ v, Blk X Bt #[v] 22) ∧ Below w.heap.size w X
theorem sumI_keep {w X X' : World} {Bt : Nat} {S : Nat → Prop} {pre : List Nat} (h : SumI w Bt pre X) (hk : Keeps S X X') (h1 : ∀ b cs T, Blk X b cs T → S b → b = Bt) (h2 : ∀ v, Blk X Bt #[v] 22 → ∃ v', Blk X' Bt #[v'] 22) (h3 : ∀ k, k < w.heap.size → ¬ S k) : SumI w Bt pre X' := by
  obtain ⟨s, e, b1, ⟨v, b2⟩, bw⟩ := h
  exact ⟨s, e, blk_keep b1 hk (fun hs => blk_ne b1 b2 (by decide) (h1 _ _ _ b1 hs)), h2 v b2, bw.trans (hk.below bw.size h3)⟩
theorem sumI_from {w : World} {Bt C : Nat} (hC : w.heap.size ≤ C) : OwnFrom C (SumI w Bt) := fun pre X X' row h hg hr => by
  have hk := grown_keeps hg
  have hne : ∀ b cs T, Blk X b cs T → row ≠ some b := fun b cs T hb e => by
    obtain ⟨_, o, ho, hc⟩ := hr b e
    rw [show X.heap[b]? = _ from hb] at ho; cases ho; cases hc
  exact sumI_keep h hk (fun b cs T hb hs => (hne b cs T hb hs).elim) (fun v hv => ⟨v, blk_keep hv hk (hne _ _ _ hv)⟩) (fun k hk e => by have := (hr k e).1; omega)
theorem sumI_box {w : World} {Bt : Nat} (hBt : w.heap.size ≤ Bt) (pre : List Nat) (A : World) (v : Value) (h : SumI w Bt pre A) : SumI w Bt pre (A.setCell ⟨Bt, 0, none⟩ v) :=
  sumI_keep h (keeps_set (fun b => b = Bt) A ⟨Bt, 0, none⟩ v rfl) (fun _ _ _ _ h => h) (fun u hu => ⟨v, blk_set hu 0 v⟩) (fun k hk e => by omega)
set_option maxRecDepth 100000 in
set_option maxHeartbeats 2000000 in
theorem HSum_in (K : Nat → Prop) (v : Value) (l : List Int) (w : World) (hl : Sl K w v (i64s l)) (hm : l.length ≤ 1000000000000000) :
    CallsIn Fence.wide 3 Tryd.prog 109 #[.string { data := #[116, 97, 103] }, v] w fun e w' => e = .returned (.int .u64 (sumT l : Nat)) ∧ Below w.heap.size w w' := by
  obtain ⟨a, cap, rfl, h1, h2, h3⟩ := hl.ints
  have HV := hid h3
  clear hl h3
  unfold maxLen at h2
  obtain ⟨n, hn⟩ : ∃ n, l.length = n := ⟨_, rfl⟩
  have HN := hid hn
  have HE : Hd (sumT l = foldM (s0 n) l) := hid (by unfold sumT; rw [hn])
  have HS0 : Hd (s0 n = mixN (mixN (mixN 0 6775156) 3) n) := hid (s0_eq n)
  rw [hn] at h1 hm HV ⊢
  clear hn
  obtain ⟨c, W, hcv, hs, hk, hz, hty⟩ := conv_str (w.alloc (.cells #[.int .u64 0] 23)) tagS (by decide)
  rw [bl_tag] at hs
  have hs3 : tagS.size = 3 := by decide
  rw [hs3] at hcv hs
  unfold tagS at hcv
  have HS := hid hs; have HK := hid hk; have HTY := hid hty; have HZ : Hd (W.heap.size = w.heap.size + 2) := hid (by rw [hz]; simp)
  clear hs hk hty hz hs3
  refine callsIn_of_wp_marks Tryd.func109 rfl trivial ?_ rfl
  simp only [Tryd.ntmps109, List.size_toArray, List.length_cons, List.length_nil, Nat.reduceAdd, Nat.reduceSub, Array.replicate_succ, Array.replicate_zero, List.push_toArray, List.append_toArray, List.nil_append, List.cons_append]
  gi_wp2_with fail
  refine ⟨trivial, ?_⟩
  refine (words_in _ _ _ _ _).mono ?_
  rintro e w' ⟨rfl, rfl⟩
  clear hcv
  gi_wp2
  obtain ⟨W0, hW0⟩ : ∃ W0, W.alloc (.cells #[.slice (some ⟨w.heap.size + 1, 0, none⟩) 3 c] 22) = W0 := ⟨_, rfl⟩
  have kW : Keeps (fun _ => False) W W0 := by rw [← hW0]; exact keeps_alloc _ _ _
  have bS : Blk W0 w.heap.size #[.int .u64 0] 23 := blk_keep (blk_keep (blk_new w _ _) HK.out (fun h => h)) kW (fun h => h)
  have bB : Blk W0 W.heap.size #[.slice (some ⟨w.heap.size + 1, 0, none⟩) 3 c] 22 := by rw [← hW0]; exact blk_new _ _ _
  have k0 : Keeps (fun _ => False) w W0 := ((keeps_alloc _ _ _).trans HK.out).trans kW
  have hs2 := blk_lt bB
  obtain ⟨Bt, hBt⟩ : ∃ Bt, W.heap.size = Bt := ⟨_, rfl⟩
  have hBt1 : w.heap.size + 1 < Bt := by have := HZ.out; omega
  have hW1 : w.heap.size + 1 < W.heap.size := by have := HZ.out; omega
  rw [hW0]
  rw [hBt] at bB hs2 ⊢
  have HD : ∀ W', DtK 0 W0 W' → Row (fun _ => True) W' 1 (.slice (some ⟨w.heap.size + 1, 0, none⟩) 3 c) 3 (u8s [116, 97, 103]) := fun W' h => by
    have hr : Row (fun b => b = w.heap.size + 1) W0 1 (.slice (some ⟨w.heap.size + 1, 0, none⟩) 3 c) 3 (u8s [116, 97, 103]) := by
      have := sl_row (HS.out.keep kW (fun _ _ _ h => h)) (u8s_length _)
      simpa using this
    refine (row_heap hr h.1 (fun b hb e => ?_)).mono (fun _ _ _ => trivial)
    obtain ⟨cs, fr, hty⟩ := HTY.out
    simp at hty
    subst e
    exact h.2.2 _ cs fr ((kW.block _ hW1 (fun h => h)).trans hty)
  clear hW0 hBt hW1
  refine wpIn_rangeFunc_box rfl (by omega) (gf := 127) (lb := #[.pointer (some ⟨Bt, 0, none⟩)]) rfl trivial (enters_of Tryd.func127 (by kernel_rfl) rfl) (Bt := Bt) hs2
    (words_box 2 0 Bt [116, 97, 103] (some ⟨w.heap.size + 1, 0, none⟩) c W0 (by omega) (by omega) bB HD (by decide) (by decide)) byK_t (fun W l o o' hl h ho _ => byK_b W l o o' (by omega) h ho) (Below.refl _ _) (fun _ => rfl)
    (SumI w Bt) (sumI_from (by omega)) (sumI_box (by omega)) ⟨0, hid rfl, bS, ⟨_, bB⟩, k0.below (Nat.le_refl _) (fun _ _ h => h)⟩
    (fun x a' _ => a' = { tmps := #[.string { data := #[116, 97, 103] }, .slice a n cap, undef, undef, .int .u64 0, .pointer (some ⟨w.heap.size, 0, none⟩), .int .u64 ((x : Nat) : Int), undef, undef, .string { data := #[116, 97, 103] }, .slice (some ⟨w.heap.size + 1, 0, none⟩) 3 c, .func (.func 127) #[] #[.pointer (some ⟨Bt, 0, none⟩)], .int .u64 ((x : Nat) : Int), undef, undef, undef, undef, undef, undef, undef, undef, undef, undef, undef, undef, undef, undef, undef, undef, undef, undef, undef, undef, undef, undef, undef, undef], defers := [] }) (fun x a' _ X Y row hs _ _ => hs)
    ?assign ?body ?done
  case assign =>
    rintro l2 pre x X K hI hK
    gi_wp2
    exact hK _ _ ((KeepsOthers.refl _).from _) ⟨dtK_r 0 X, fun _ _ h => h⟩ hI rfl
  case body =>
    rintro l2 pre x a' X hl ⟨r, hr⟩ ⟨s, hs, h1, ⟨vx, hx⟩, h4⟩ rfl hlt hx64
    have H1 := hid h1; have H4 := hid h4; have HX := hid hx; have HX64 := hid hx64
    have o0 : X.cell? ⟨w.heap.size, 0, none⟩ = some (.int .u64 (s : Int)) := blk_cell h1 0
    have o1 : X.frozen? ⟨w.heap.size, 0, none⟩ = false := blk_free h1 0
    have HS64 : Hd (s < 18446744073709551616) := hid (by rw [hs.out]; exact mixL_lt _)
    clear h1 h4 hx hx64 hr
    gi_wp2_with fail
    refine ⟨trivial, (CallsIn.inRound l2 (callsIn_wide.2 (mix_any s x HS64.out HX64.out _))).mono ?_⟩
    rintro e w1 ⟨rfl, rfl⟩
    obtain ⟨s2, hs2'⟩ : ∃ s2, mixN s x = s2 := ⟨_, rfl⟩
    rw [hs2']
    have HS2 : Hd (s2 = mixL 0 (pre ++ [x])) := hid (by rw [mixL_app, ← hs.out, hs2'])
    clear hs2'
    gi_wp2
    have KT := keeps_set (fun b => b = w.heap.size) X ⟨w.heap.size, 0, none⟩ (.int .u64 (s2 : Int)) rfl
    refine ⟨(keepsOthers_of KT (fun b h1 h2 => by subst h2; exact ⟨_, _, H1.out⟩)).from _, byK_of (Nat.zero_le _) KT (fun b h1 h2 => by subst h2; exact ⟨Nat.zero_le _, _, _, H1.out, by decide, by decide⟩), s2, HS2, blk_set H1.out 0 _, ⟨vx, blk_other HX.out (by omega) _ _⟩, H4.out.trans (KT.below H4.out.size (fun k hk h => by omega))⟩
  case done =>
    rintro D xs X hD rfl ⟨s, hs, h1, -, h4⟩ hK
    have H1 := hid h1; have H4 := hid h4; have HKD := hid hK
    have HSE : Hd (s = mixN 0 6775156) := hid (by rw [hs.out, tag_word]; rfl)
    have HS64 : Hd (s < 18446744073709551616) := hid (by rw [hs.out]; exact mixL_lt _)
    have o0 : X.cell? ⟨w.heap.size, 0, none⟩ = some (.int .u64 (s : Int)) := blk_cell h1 0
    have o1 : X.frozen? ⟨w.heap.size, 0, none⟩ = false := blk_free h1 0
    clear h1 h4 hK hs
    gi_wp2_with fail
    refine ⟨trivial, (callsIn_wide.2 (mix_any s 3 HS64.out (by decide) _)).mono ?_⟩
    rintro e w1 ⟨rfl, rfl⟩
    obtain ⟨t, ht⟩ : ∃ t, mixN s 3 = t := ⟨_, rfl⟩
    rw [ht]
    have HT1 : Hd (t < 18446744073709551616) := hid (by rw [← ht]; exact mixN_lt _ _)
    have HT := hid ht
    clear ht
    gi_wp2_with fail
    refine ⟨trivial, (callsIn_wide.2 (mix_any t n HT1.out (by omega) _)).mono ?_⟩
    rintro e w1 ⟨rfl, rfl⟩
    obtain ⟨u, hu⟩ : ∃ u, mixN t n = u := ⟨_, rfl⟩
    rw [hu]
    have HU : Hd (s0 n = u) := hid (by rw [HS0.out, ← hu, ← HT.out, HSE.out])
    have HU1 : Hd (u < 18446744073709551616) := hid (by rw [← hu]; exact mixN_lt _ _)
    rw [HU.out] at HE
    clear hu HT HT1 HS64 HSE HS0 HU
    gi_wp2
    obtain ⟨X1, hX1⟩ : ∃ X1, X.setCell ⟨w.heap.size, 0, none⟩ (.int .u64 (u : Int)) = X1 := ⟨_, rfl⟩
    have B1 : Hd (Blk X1 w.heap.size #[.int .u64 (u : Int)] 23) := hid (by rw [← hX1]; exact blk_set H1.out 0 _)
    have K1 : Hd (Keeps (fun b => b = w.heap.size) X X1) := hid (by rw [← hX1]; exact keeps_set _ _ _ _ rfl)
    rw [hX1]
    clear hX1 o0 o1 H1
    gi_loopw [27] (fun iv wr => ∃ k : Nat, k ≤ n ∧ iv = .int .i64 (k : Int) ∧ Hd (Blk wr w.heap.size #[.int .u64 ((foldM u (l.take k) : Nat) : Int)] 23) ∧ Hd (Keeps (fun b => b = w.heap.size) X wr)) (fun iv _ => n - (intOf iv).toNat)
    case atStart => exact ⟨0, Nat.zero_le _, rfl, by rw [List.take_zero]; exact B1, K1⟩
    case round =>
      obtain ⟨Y, rfl⟩ : ∃ Y, Y = wr := ⟨_, rfl⟩
      obtain ⟨k, hk, rfl, HB, HKK⟩ := hrel
      have p0 := blk_cell HB.out 0
      have p1 : Y.frozen? ⟨w.heap.size, 0, none⟩ = false := blk_free HB.out 0
      have p2 : Y.cell? ⟨w.heap.size, 0, none⟩ = some (.int .u64 ((foldM u (l.take k) : Nat) : Int)) := p0
      clear p0
      by_cases hlt : k < n
      · have q1 : (k : Int) < n := by omega
        have q2 : (0 : Int) ≤ k := by omega
        obtain ⟨by_, oy, rfl, -, hby, hcy⟩ := HV.out (by omega)
        have hcell : Y.cell? ⟨by_, oy + k, none⟩ = some (.int .i64 (l.getD k 0)) := (World.cell?_of_block (a := ⟨by_, oy + k, none⟩) ((HKK.out.block by_ (Nat.lt_of_lt_of_le hby H4.out.size) (by omega)).trans (H4.out.block _ hby))).trans (hcy k hlt)
        have HF := hid (foldM_take (s := u) (l := l) (k := k) (by rw [HN.out]; exact hlt))
        have HX2 := hid (u64n_cast (l.getD k 0)); have HXL := hid (u64n_lt (l.getD k 0)); have HFL := hid (foldM_lt HU1.out (l.take k))
        generalize foldM u (l.take k) = f at *
        generalize l.getD k 0 = y at *
        generalize u64n y = yn at *
        have hy : IntKind.u64.wrap y = (yn : Int) := by rw [HX2.out]; simp [IntKind.wrap, IntKind.bits, IntKind.signed]
        clear hcy
        gi_wp2_with fail
        refine ⟨trivial, ?_⟩
        try rw [hy]
        try rw [← HX2.out]
        refine (callsIn_wide.2 (mix_any f yn HFL.out HXL.out _)).mono ?_
        rintro e w1 ⟨rfl, rfl⟩
        rw [← HF.out]
        obtain ⟨f2, hf2⟩ : ∃ f2, foldM u (l.take (k + 1)) = f2 := ⟨_, rfl⟩
        rw [hf2]
        have HF2 := hid hf2
        clear hf2 hy
        gi_wp2
        go_roundw
        case rel => exact ⟨k + 1, by omega, by go_num, hid (by rw [HF2.out]; exact blk_set HB.out 0 _), hid (HKK.out.setCell (.inl rfl) _)⟩
        case measure => simp [intOf]; omega
      · have hkn : k = n := by omega
        have q1 : ¬ ((k : Int) < n) := by omega
        have HT : Hd (l.take k = l) := hid (List.take_of_length_le (by rw [HN.out, hkn]; exact Nat.le_refl _))
        rw [HT.out, ← HE.out] at p2
        obtain ⟨f, hf⟩ : ∃ f, sumT l = f := ⟨_, rfl⟩
        rw [hf] at p2
        have HSF := hid hf
        have hDX : D < X.heap.size := (Array.getElem?_eq_some_iff.1 HKD.out).1
        have hK3 : Y.heap[D]? = some (.deferred (some [])) := (HKK.out.block D hDX (by omega)).trans HKD.out
        have hYs := HKK.out.size
        clear hf
        subst hkn
        gi_wp2
        refine ⟨by simp, .inl ⟨_, _, rfl, run_takeDeferred hK3, ?_⟩⟩
        refine ⟨.int .u64 (f : Int), by simp [results, Tryd.f109, go_sem], ?_⟩
        have KP := grown_keeps (grownBy_putObj' Y D (.deferred none))
        exact ⟨by rw [HSF.out], (H4.out.trans (HKK.out.below H4.out.size (fun k hk h => by omega))).trans (KP.below (by have := H4.out.size; omega) (fun k hk e => by injection e with e; omega))⟩
theorem HSum_any (K : Nat → Prop) (v : Value) (l : List Int) (w : World) (hl : Sl K w v (i64s l)) (hm : l.length ≤ 1000000000000000) :
    Calls Tryd.prog 109 #[.string { data := #[116, 97, 103] }, v] w fun e w' => e = .returned (.int .u64 (sumT l : Nat)) ∧ Below w.heap.size w w' := (callsIn_wide (n := 3)).1 (HSum_in K v l w hl hm)
set_option maxRecDepth 100000 in set_option maxHeartbeats 1000000 in
theorem Tag_any (K : Nat → Prop) (k : Nat) (v : Value) (b : List Nat) (w : World) (hk : k < 18446744073709551616) (hv : Sl K w v (u8s b)) (hb : ∀ c ∈ b, c < 256) (hm : b.length ≤ 140737488355200) :
    Calls Tryd.prog 79 #[.int .u64 k, v] w fun e w' => e = .returned (.int .u64 (tagN k b : Nat)) ∧ Keeps (fun _ => False) w w' := by
  have HV := hid (hv.mono (K' := fun b => b < w.heap.size) (fun b h _ => h)); have HB := hid hb
  have HT : Hd (tagN k b = sumT ([wrap64 (k : Int)] ++ wI (wordsL b) ++ [(b.length : Int)])) := hid rfl
  obtain ⟨x, hx⟩ : ∃ x, wrap64 (k : Int) = x := ⟨_, rfl⟩
  have hx2 : IntKind.i64.wrap (k : Int) = x := by rw [← hx]; exact IntWalk.i64_left _
  rw [hx] at HT
  clear hv hb
  go_enter Tryd.func79, Tryd.ntmps79
  go_wp2_with fail
  try rw [hx2]
  have HO : Own (fun k => w.heap.size ≤ k) (w.alloc (.cells #[.int .i64 x] 3)) 3 1 (.slice (some ⟨w.heap.size, 0, none⟩) 1 1) 1 (i64s [x]) := ⟨World.ownsRow_lit w #[.int .i64 x] 1 (Nat.zero_le _) (by decide) rfl, fun k hk => by injection hk with hk; simp at hk; omega⟩
  have HV1 : Sl (fun b => b < w.heap.size) (w.alloc (.cells #[.int .i64 x] 3)) v (u8s b) := HV.out.keep (keeps_alloc (fun _ => False) w _) (fun _ _ _ h => h)
  refine (with_any w.heap.size _ 1 1 [x] v b _ HO (by omega) (by simp) HV1 HB.out hm).mono ?_
  rintro e W ⟨a, n, c, rfl, hn, ho, hk2⟩
  have HO2 : Hd (Sl (fun _ => True) W (.slice a n c) (i64s ([x] ++ wI (wordsL b) ++ [(b.length : Int)]))) := hid (row_sl (ho.row.mono (fun _ _ _ => trivial)) (by rw [i64s_length]; simp [wI]; omega))
  have HK : Hd (Keeps (fun _ => False) w W) := hid ((keeps_alloc (fun _ => False) w _).trans' (Keeps.of_below hk2) (fun i hi h => by omega))
  have hlen : ([x] ++ wI (wordsL b) ++ [(b.length : Int)]).length ≤ 1000000000000000 := by
    simp [wI, wordsL_length]; omega
  have HLE := hid hlen
  clear hn ho hk2 HO HV1 hlen
  obtain ⟨L, hL⟩ : ∃ L, [x] ++ wI (wordsL b) ++ [(b.length : Int)] = L := ⟨_, rfl⟩
  rw [hL] at HO2 HLE HT
  clear hL
  go_wp2_with fail
  refine (HSum_any _ _ L _ HO2.out HLE.out).mono ?_
  rintro e W2 ⟨rfl, hk3⟩
  rw [← HT.out]
  obtain ⟨f, hf⟩ : ∃ f, tagN k b = f := ⟨_, rfl⟩
  rw [hf]
  have HK3 := hid (HK.out.trans' (Keeps.of_below hk3) (fun i hi h => by have := HK.out.size; omega))
  have HF := hid hf
  clear hk3 hf HT
  go_wp2
  go_ret
  exact ⟨by rw [HF.out]; rfl, HK3.out⟩
end Go.Proofs.YthoikljmokkchaaDoor
