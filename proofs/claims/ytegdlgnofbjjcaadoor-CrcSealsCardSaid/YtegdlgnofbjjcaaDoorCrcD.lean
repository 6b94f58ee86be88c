/- The walks of the reference's Seal and Open; strings of bytes. -/
import Derived.Test.YtegdlgnofbjjcaaDoorCrcC
import Derived.Laws.IdiomStrings
namespace Go.Proofs.YtegdlgnofbjjcaaDoor
open Go.RowKit
attribute [local go_sem ↓] Go.wp_at_zero Go.wp_at_succ

/-- bytes as a string -/
def str (l : List Nat) : ByteArray := ⟨(l.map UInt8.ofNat).toArray⟩
theorem str_inj {a b : List Nat} (ha : ∀ c ∈ a, c < 256) (hb : ∀ c ∈ b, c < 256) (h : str a = str b) : a = b := by
  have h1 : a.map UInt8.ofNat = b.map UInt8.ofNat := by
    have := congrArg (fun s : ByteArray => s.data.toList) h
    simpa [str] using this
  have h2 : (a.map UInt8.ofNat).map UInt8.toNat = (b.map UInt8.ofNat).map UInt8.toNat := by rw [h1]
  have e : ∀ l : List Nat, (∀ c ∈ l, c < 256) → (l.map UInt8.ofNat).map UInt8.toNat = l := fun l hl => by
    rw [List.map_map]
    conv => rhs; rw [← List.map_id l]
    refine List.map_congr_left fun n hn => ?_
    have := hl n hn
    simp [Function.comp]; omega
  rw [e a ha, e b hb] at h2
  exact h2
/-- string(b) -/
theorem conv_sl {K : Nat → Prop} {w : World} {v : Value} {l : List Nat} (h : Sl K w v (u8s l)) (hl : ∀ c ∈ l, c < 256) : (convert 22 9 v).run Tryd.prog w = .ok (.string (str l)) w := by
  obtain ⟨a, cap, rfl, _, _, hx⟩ := h.bytes
  rcases Nat.eq_zero_or_pos l.length with h0 | h0
  · obtain rfl := List.eq_nil_of_length_eq_zero h0
    cases a with
    | none =>
      rw [run_convert_bytes_string w _ _ 5 none _ _ Tryd.underlying22 Tryd.underlying5 Tryd.underlying9]
      simp [Conv.bytesToString, str, Sem.run_pure]; rfl
    | some x =>
      exact run_convert_bytes_back w _ _ 5 x cap [] Tryd.underlying22 Tryd.underlying5 Tryd.underlying9 (fun j hj => by simp at hj)
  · obtain ⟨b, o, rfl, _, _, hc⟩ := hx h0
    have := run_convert_bytes_back w 22 9 5 ⟨b, o, none⟩ cap (l.map UInt8.ofNat) Tryd.underlying22 Tryd.underlying5 Tryd.underlying9 (fun j hj => by
      have hj' : j < l.length := by simpa using hj
      have h1 := hc j hj'
      rw [show (⟨b, o, none⟩ : Addr).add j = ⟨b, o + j, none⟩ by unfold Addr.add; split <;> simp_all, h1]
      have h2 := hl _ (List.getElem_mem hj')
      simp [List.getD, hj']
      omega)
    simpa [str] using this
set_option maxRecDepth 100000 in set_option maxHeartbeats 400000 in
theorem RBytes4_any (s : Nat) (w : World) (hs : s < 4294967296) :
    Calls Tryd.prog 41 #[.int .u32 s] w fun e w' => NewRet w 5 (u8s (le4 s)) e w' := by
  have e0 : ((s % 256 : Nat) : Int) = (s : Int) % 256 := by omega
  have e1 : ((s / 256 % 256 : Nat) : Int) = (s : Int) / 256 % 256 := by omega
  have e2 : ((s / 65536 % 256 : Nat) : Int) = (s : Int) / 65536 % 256 := by omega
  have e3 : ((s / 16777216 % 256 : Nat) : Int) = (s : Int) / 16777216 := by omega
  have HE : Hd (u8s (le4 s) = [.int .u8 ((s : Int) % 256), .int .u8 ((s : Int) / 256 % 256), .int .u8 ((s : Int) / 65536 % 256), .int .u8 ((s : Int) / 16777216)]) := hid (by simp only [u8s, le4, List.map_cons, List.map_nil, e0, e1, e2, e3])
  clear e0 e1 e2 e3
  go_enter Tryd.func41, Tryd.ntmps41
  go_wp2
  go_ret
  refine ⟨_, 4, _, rfl, by rw [HE.out]; rfl, ?_, keeps_alloc _ _ _⟩
  rw [HE.out]
  refine ⟨⟨rfl, .inr ⟨w.heap.size, 4, _, rfl, Nat.zero_le _, heap_alloc_new w _, Nat.le_refl 4, by decide, rfl, rfl⟩⟩, fun k hk => ?_⟩
  simp [Value.ownBlock] at hk; omega
set_option maxRecDepth 100000 in set_option maxHeartbeats 1000000 in
theorem RSeal_any (K : Nat → Prop) (v : Value) (l : List Nat) (w : World) (hv : Sl K w v (u8s l)) (hl : ∀ c ∈ l, c < 256) (hm : l.length ≤ 900000000) :
    Calls Tryd.prog 23 #[v] w fun e w' => NewRet w 5 (u8s (seal_ l)) e w' := by
  obtain ⟨i0, hi, hz0, hz1, hz2⟩ := info_parts infoU8
  have HL := hid hl; have HV : Hd (Sl (fun b => b < w.heap.size) w v (u8s l)) := hid (hv.mono (fun b h _ => h))
  have HC := hid (crc_lt hl)
  obtain ⟨a, cap, rfl, _⟩ := hv.bytes
  clear hl hv
  generalize hll : l.length = n at *
  have HLL := hid hll; clear hll
  have HO : Hd (Own (fun k => w.heap.size ≤ k) (w.alloc (.cells #[] 5)) 5 1 (.slice (some ⟨w.heap.size, 0, none⟩) 0 0) 0 []) :=
    hid ⟨World.ownsRow_lit w #[] 0 (Nat.zero_le _) (Nat.zero_le _) rfl, fun k hk => by injection hk with hk; simp at hk; omega⟩
  have HS : Hd (Sl (fun b => b < w.heap.size) (w.alloc (.cells #[] 5)) (.slice a n cap) (u8s l)) := hid (HV.out.keep (keeps_alloc (fun _ => False) w (.cells #[] 5)) (fun _ _ _ h => h))
  go_enter Tryd.func23, Tryd.ntmps23
  go_wp2_with (at_builtin; refine wpList_append_row rfl _ _ 22 rfl 5 i0 (.int .u8 0) 1 1 Tryd.underlying22 hi hz0 hz1 hz2 rfl (by decide) _ (fun b => b < w.heap.size) _ _ _ _ rfl HO.out n _ rfl (sl_row HS.out (by simp [HLL.out])) (u8s_one _) ?h1 ?h2 ?_)
  case h1 => simp [maxLen]; omega
  case h2 => omega
  intro a1 cap1 w2 hown' hgrow; try intro _
  try simp only [Nat.zero_add, List.nil_append] at hown'
  have HK1 : Hd (Keeps (fun _ => False) w w2) := hid ((keeps_alloc _ w _).after hgrow)
  have H1 : Hd (Own (fun b => w.heap.size ≤ b ∧ b < w2.heap.size) w2 5 1 (.slice a1 n cap1) n (u8s l)) := hid (hown'.mono (fun b hb hh => ⟨by rcases hh with hh | hh <;> first | exact hh | omega | (simp at hh; omega), hb⟩))
  clear hown' hgrow
  go_wp2_with fail
  refine (RSum_any _ _ l _ (HV.out.keep HK1.out (fun _ _ _ h => h)) HL.out (by rw [HLL.out]; omega)).mono ?_
  rintro e w3 ⟨rfl, rfl⟩
  go_wp2_with fail
  refine (RBytes4_any _ _ HC.out).mono ?_
  rintro e w3 ⟨a3, n3, c3, rfl, hn3, ho3, hk3⟩
  obtain rfl : n3 = 4 := by rw [hn3]; rfl
  have S3 := hid (row_sl ho3.row (by rw [u8s_length]; rfl))
  have O3 : Hd (Own (fun b => w.heap.size ≤ b ∧ b < w2.heap.size) w3 5 1 (.slice a1 n cap1) n (u8s l)) := hid (H1.out.keep hk3 (fun _ _ _ h => h))
  have HK3 := hid (HK1.out.trans hk3); have zz := HK1.out.size; have zy := hk3.size
  clear ho3 hk3 hn3 H1
  go_wp2_with (at_builtin; refine wpList_append_row rfl _ _ 22 rfl 5 i0 (.int .u8 0) 1 1 Tryd.underlying22 hi hz0 hz1 hz2 rfl (by decide) _ (fun b => w2.heap.size ≤ b) _ _ _ _ rfl O3.out 4 _ rfl (sl_row S3.out (by rw [u8s_length]; rfl)) (u8s_one _) ?h1 ?h2 ?_)
  case h1 => simp [maxLen]; omega
  case h2 => omega
  intro a4 cap4 w4 hown' hgrow; try intro _
  have HR : Hd (NewRet w 5 (u8s (seal_ l)) (.returned (.slice a4 (n + 4) cap4)) w4) := hid ⟨a4, n + 4, cap4, rfl, by simp [seal_, le4, HLL.out], by
    have := hown'.mono (K' := fun b => w.heap.size ≤ b) (fun b _ hh => by rcases hh with hh | hh; exact hh.1; omega)
    rw [show u8s (seal_ l) = u8s l ++ u8s (le4 (crc l)) by simp [u8s, seal_]]; exact this, HK3.out.after (hgrow.mono (fun i hi h => h.1))⟩
  clear hown' hgrow
  go_wp2
  go_ret
  exact HR.out
end Go.Proofs.YtegdlgnofbjjcaaDoor
