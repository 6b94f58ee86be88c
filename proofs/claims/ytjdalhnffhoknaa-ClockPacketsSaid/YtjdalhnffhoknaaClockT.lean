/- The walk of the law ClockPackets. -/
import Derived.Test.YtjdalhnffhoknaaClockO
import Derived.Test.YtjdalhnffhoknaaWirePk
namespace Go.Proofs.Ytjdalhnffhoknaa
open Go.RowKit
attribute [local go_sem ↓] Go.wp_at_zero Go.wp_at_succ

theorem unwr_mod (n k : Int) (h : 0 ≤ n) (hk : 0 ≤ k) (hk2 : k < 65536) : unwr n ((n + k) % 65536) = n + k := by
  have := unwr_near n k h hk hk2
  rwa [Int.tmod_eq_emod_of_nonneg (by omega)] at this
def NewAt (W : World) (u : Value) : Prop := ∀ b o s, u = .pointer (some ⟨b, o, s⟩) → W.heap.size ≤ b
theorem newAt (W : World) : NewAt W (.pointer (some ⟨W.heap.size, 0, none⟩)) := fun b o s h => by injection h with h; injection h with h; injection h with h1 h2 h3; omega
theorem sEnd_zero : sEnd (0, []) = 0 := by simp [sEnd]

set_option maxRecDepth 100000 in set_option maxHeartbeats 1000000 in
theorem packets_any (x : Case) (last : Int) (w : World) (hx : x.ok) (hl : i64ok last) :
    Calls Try.prog 13 #[.agg #[.int .i64 x.lo, .int .i64 x.wide, .int .i64 x.sent, .int .i64 x.took, .int .i64 x.since, .int .i64 x.tick, .int .i64 x.drift], .int .i64 last] w fun e w' => e = .returned (.bool true) ∧ Keeps (fun _ => False) w w' := by
  have HX := hid hx
  obtain ⟨_, _, ⟨s1, s2⟩, ⟨k1, k2⟩, ⟨n1, n2⟩, ⟨t1, t2⟩, ⟨d1, d2⟩⟩ := hx
  have S1 := hid s1; have S2 := hid s2; have K1 := hid k1; have K2 := hid k2; have N1 := hid n1; have N2 := hid n2; have T1 := hid t1; have T2 := hid t2; have D1 := hid d1; have D2 := hid d2; have HL := hid hl
  clear s1 s2 k1 k2 n1 n2 t1 t2 d1 d2 hl
  obtain ⟨r0, r1⟩ := around_b x.drift 1000000 (by omega)
  have dd : 1 ≤ 1 + around x.drift 1000000 := by omega
  have de : 1 + around x.drift 1000000 ≤ 1000000000 := by omega
  clear r0 r1
  obtain ⟨p0, p1⟩ := around_b last 274877906944 (by omega)
  obtain ⟨p2, p3⟩ := around_b x.sent 65536 (by omega)
  obtain ⟨p4, p5⟩ := around_b x.took 65536 (by omega)
  obtain ⟨p6, p7⟩ := around_b x.tick 1000001 (by omega)
  obtain ⟨p8, p9⟩ := around_b x.since 100000 (by omega)
  go_enter Try.func13, Try.ntmps13
  go_upto_region 1 with (fail)
  generalize hW : World.alloc w _ = W1
  have B_x : Hd (Blk W1 (w.heap.size) #[.int .i64 x.lo, .int .i64 x.wide, .int .i64 x.sent, .int .i64 x.took, .int .i64 x.since, .int .i64 x.tick, .int .i64 x.drift] 23) := hid (by rw [← hW]; exact (blk_new _ _ _))
  have HK : Hd (Keeps (fun _ => False) w W1) := hid (by rw [← hW]; exact (Keeps.alloc (Keeps.refl _ _) _))
  have z1 : w.heap.size + 1 ≤ W1.heap.size := by rw [← hW]; simp
  clear hW
  have o_x_0 : W1.cell? ⟨w.heap.size, 0, none⟩ = some (.int .i64 (x.lo)) := blk_cell B_x.out 0
  have o_x_1 : W1.cell? ⟨w.heap.size, 1, none⟩ = some (.int .i64 (x.wide)) := blk_cell B_x.out 1
  have o_x_2 : W1.cell? ⟨w.heap.size, 2, none⟩ = some (.int .i64 (x.sent)) := blk_cell B_x.out 2
  have o_x_3 : W1.cell? ⟨w.heap.size, 3, none⟩ = some (.int .i64 (x.took)) := blk_cell B_x.out 3
  have o_x_4 : W1.cell? ⟨w.heap.size, 4, none⟩ = some (.int .i64 (x.since)) := blk_cell B_x.out 4
  have o_x_5 : W1.cell? ⟨w.heap.size, 5, none⟩ = some (.int .i64 (x.tick)) := blk_cell B_x.out 5
  have o_x_6 : W1.cell? ⟨w.heap.size, 6, none⟩ = some (.int .i64 (x.drift)) := blk_cell B_x.out 6
  go_wp2_with fail
  clear o_x_0 o_x_1 o_x_2 o_x_3 o_x_4 o_x_5 o_x_6
  refine (interval_any x _ HX.out).mono ?_
  rintro e w2 ⟨rfl, hk⟩
  replace B_x : Hd (Blk w2 (w.heap.size) #[.int .i64 x.lo, .int .i64 x.wide, .int .i64 x.sent, .int .i64 x.took, .int .i64 x.since, .int .i64 x.tick, .int .i64 x.drift] 23) := hid (blk_keep B_x.out hk (fun h => h))
  replace HK : Hd (Keeps (fun _ => False) w w2) := hid (HK.out.trans hk)
  have z2 := hk.size
  clear hk
  generalize timeIv x.lo x.wide = t at *
  go_upto_region 2 with (fail)
  generalize hW : World.alloc w2 _ = W3
  replace B_x : Hd (Blk W3 (w.heap.size) #[.int .i64 x.lo, .int .i64 x.wide, .int .i64 x.sent, .int .i64 x.took, .int .i64 x.since, .int .i64 x.tick, .int .i64 x.drift] 23) := hid (by rw [← hW]; exact (blk_alloc B_x.out _))
  have B_t : Hd (Blk W3 (w2.heap.size) #[.int .i64 t.lo, .int .i64 t.hi] 25) := hid (by rw [← hW]; exact (blk_new _ _ _))
  replace HK : Hd (Keeps (fun _ => False) w W3) := hid (by rw [← hW]; exact (Keeps.alloc (HK.out) _))
  have z3 : w2.heap.size + 1 ≤ W3.heap.size := by rw [← hW]; simp
  clear hW
  have o_x_2 : W3.cell? ⟨w.heap.size, 2, none⟩ = some (.int .i64 (x.sent)) := blk_cell B_x.out 2
  go_wp2_with fail
  refine (counted_any _ _ HL.out.1 HL.out.2).mono ?_
  rintro e wx ⟨rfl, rfl⟩
  generalize around last 274877906944 = kn at *
  go_wp2_with fail
  refine (Around_any _ _ _ S1.out S2.out (by omega) (by omega)).mono ?_
  rintro e wx ⟨rfl, rfl⟩
  generalize around x.sent 65536 = A at *
  clear o_x_2
  go_upto_region 4 with (fail)
  go_cut [8] from 27 to 36 (fun u8 wx => CutN W3 #[.int .i64 (kn + A), .int .i64 (kn + A + around x.took 65536), .int .i64 (around x.tick 1000001)] 32 u8 wx)
  case first =>
    have w1 : IntKind.i64.wrap (kn + A + around x.took 65536) = kn + A + around x.took 65536 := IntWalk.i64_in _ (by omega)
    have hkk := hid (Keeps.refl (fun _ => False) W3)
    have o_x_3 : W3.cell? ⟨w.heap.size, 3, none⟩ = some (.int .i64 (x.took)) := blk_cell B_x.out 3
    have o_x_5 : W3.cell? ⟨w.heap.size, 5, none⟩ = some (.int .i64 (x.tick)) := blk_cell B_x.out 5
    have m_0 := World.new_ne W3 _ o_x_3
    have m_1 := World.new_ne W3 _ o_x_5
    go_region_held3 (fun w' => w'.cell? ⟨w.heap.size, 3, none⟩ = some (.int .i64 (x.took)) ∧ w'.cell? ⟨w.heap.size, 5, none⟩ = some (.int .i64 (x.tick))) (first | go_keep | (go_split_ands; refine ⟨?_, ?_⟩ <;> assumption) | assumption) (first | (go_at_call 23; (with_reducible refine (Around_any x.took _ _ K1.out K2.out (by omega) (by omega)).mono ?_); rintro e w1 ⟨rfl, rfl⟩) | (go_at_call 23; (with_reducible refine (Around_any x.tick _ _ T1.out T2.out (by omega) (by omega)).mono ?_); rintro e w1 ⟨rfl, rfl⟩))
    all_goals
      go_wp2_with fail
      go_meet
      first | exact cutN_new hkk.out | exact cutN_old hkk.out (Nat.le_refl _) HNB | exact cutN_old hkk.out zw HNB | exact cutN_drew (cutN_new hkk.out) | exact cutN_drew (cutN_old hkk.out (Nat.le_refl _) HNB)
  case rest =>
    obtain ⟨b_s, rfl, B_s, hk⟩ := hcut
    replace hk := hk.out
    generalize wc = wq4 at *
    replace B_x : Hd (Blk wq4 (w.heap.size) #[.int .i64 x.lo, .int .i64 x.wide, .int .i64 x.sent, .int .i64 x.took, .int .i64 x.since, .int .i64 x.tick, .int .i64 x.drift] 23) := hid (blk_keep B_x.out hk (fun h => h))
    replace B_t : Hd (Blk wq4 (w2.heap.size) #[.int .i64 t.lo, .int .i64 t.hi] 25) := hid (blk_keep B_t.out hk (fun h => h))
    replace HK : Hd (Keeps (fun _ => False) w wq4) := hid (HK.out.trans hk)
    have z4 := hk.size
    clear hk
    generalize around x.took 65536 = B at *
    generalize around x.tick 1000001 = TK at *
    go_upto_region 5 with (fail)
    have e0 : ∀ y : Ext wq4, y.w.cell? ⟨b_s, 1, none⟩ = some _ := ext_bcell B_s.out 1 rfl
    have e1 : ∀ y : Ext wq4, y.w.cell? ⟨w.heap.size, 4, none⟩ = some _ := ext_bcell B_x.out 4 rfl
    have w1 : IntKind.i64.wrap (kn + A + B + around x.since 100000) = kn + A + B + around x.since 100000 := IntWalk.i64_in _ (by omega)
    refine wp_region_ext (by kernel_rfl) (by kernel_rfl) ?_
    repeat (go_big_quiet_step (first | (go_at_call 23; exact ext_same (Around_any _ _ _ N1.out N2.out (by omega) (by omega)))))
    refine wpQuiet_nil ?_
    rintro _ ⟨y, rfl⟩
    clear w1 e0 e1
    have hk := y.k
    generalize y.w = wy at *
    replace B_x : Hd (Blk wy (w.heap.size) #[.int .i64 x.lo, .int .i64 x.wide, .int .i64 x.sent, .int .i64 x.took, .int .i64 x.since, .int .i64 x.tick, .int .i64 x.drift] 23) := hid (blk_keep B_x.out hk (fun h => h))
    replace B_t : Hd (Blk wy (w2.heap.size) #[.int .i64 t.lo, .int .i64 t.hi] 25) := hid (blk_keep B_t.out hk (fun h => h))
    replace B_s : Hd (Blk wy (b_s) #[.int .i64 (kn + A), .int .i64 (kn + A + B), .int .i64 TK] 32) := hid (blk_keep B_s.out hk (fun h => h))
    replace HK : Hd (Keeps (fun _ => False) w wy) := hid (HK.out.trans hk)
    have z5 := hk.size
    clear hk
    generalize around x.since 100000 = E at *
    go_upto_region 7 with (fail)
    have a_x := blk_lt B_x.out
    have a_t := blk_lt B_t.out
    have a_s := blk_lt B_s.out
    generalize hW : World.alloc wy _ = W6
    replace B_x : Hd (Blk W6 (w.heap.size) #[.int .i64 x.lo, .int .i64 x.wide, .int .i64 x.sent, .int .i64 x.took, .int .i64 x.since, .int .i64 x.tick, .int .i64 x.drift] 23) := hid (by rw [← hW]; exact blk_alloc B_x.out _)
    replace B_t : Hd (Blk W6 (w2.heap.size) #[.int .i64 t.lo, .int .i64 t.hi] 25) := hid (by rw [← hW]; exact blk_alloc B_t.out _)
    replace B_s : Hd (Blk W6 (b_s) #[.int .i64 (kn + A), .int .i64 (kn + A + B), .int .i64 TK] 32) := hid (by rw [← hW]; exact blk_alloc B_s.out _)
    have HBF : Hd (BufAt W6 wy.heap.size []) := hid (by rw [← hW]; exact BufAt.new _ _)
    replace HK : Hd (Keeps (fun _ => False) w W6) := hid (by rw [← hW]; exact HK.out.alloc _)
    clear hW
    have q0 : (kn + A) % 65536 < 65536 := by omega
    have o_s_0 : W6.cell? ⟨b_s, 0, none⟩ = some (.int .i64 (kn + A)) := blk_cell B_s.out 0
    have o_s_1 : W6.cell? ⟨b_s, 1, none⟩ = some (.int .i64 (kn + A + B)) := blk_cell B_s.out 1
    have o_s_2 : W6.cell? ⟨b_s, 2, none⟩ = some (.int .i64 (TK)) := blk_cell B_s.out 2
    go_wp2_with fail
    clear o_s_0 o_s_1 o_s_2
    have HR : Hd (∀ n ∈ [(kn + A) % 65536, (kn + A + B) % 65536, TK], -9223372036854775808 ≤ n ∧ n ≤ 9223372036854775807) := hid (by intro n hn; simp at hn; omega)
    generalize hW : World.alloc W6 _ = W7
    have S3 : Sl (fun k => k = W6.heap.size) W7 (.slice (some ⟨W6.heap.size, 0, none⟩) 3 3) (i64s [(kn + A) % 65536, (kn + A + B) % 65536, TK]) := by rw [← hW]; exact sl_three _ _ _ _
    have kA : Keeps (fun _ => False) W6 W7 := by rw [← hW]; exact keeps_alloc _ _ _
    have zb := HBF.out.lt
    have zA := kA.size
    have zH := HK.out.size
    have HB2 : Buf (fun k => wy.heap.size < k ∧ k < W6.heap.size) W7 wy.heap.size [] := Buf.keep HBF.out.tight kA (fun h => h) (fun _ _ _ h => h)
    clear hW HBF
    replace B_x : Hd (Blk W7 (w.heap.size) #[.int .i64 x.lo, .int .i64 x.wide, .int .i64 x.sent, .int .i64 x.took, .int .i64 x.since, .int .i64 x.tick, .int .i64 x.drift] 23) := hid (blk_keep B_x.out kA (fun h => h))
    replace B_t : Hd (Blk W7 (w2.heap.size) #[.int .i64 t.lo, .int .i64 t.hi] 25) := hid (blk_keep B_t.out kA (fun h => h))
    replace B_s : Hd (Blk W7 (b_s) #[.int .i64 (kn + A), .int .i64 (kn + A + B), .int .i64 TK] 32) := hid (blk_keep B_s.out kA (fun h => h))
    replace HK := hid (HK.out.trans kA)
    refine (WInts_any _ (fun k => k = W6.heap.size) wy.heap.size [] _ [(kn + A) % 65536, (kn + A + B) % 65536, TK] _ HB2 S3 (fun k hk hK => by subst hK; exact ⟨by omega, by omega⟩) (by simp) HR.out).mono ?_
    rintro e w8 ⟨rfl, hp⟩
    obtain ⟨hb3, hk⟩ := BufAt.post HB2 (fun b h => h.1) hp
    rw [List.nil_append] at hb3
    replace B_x : Hd (Blk w8 (w.heap.size) #[.int .i64 x.lo, .int .i64 x.wide, .int .i64 x.sent, .int .i64 x.took, .int .i64 x.since, .int .i64 x.tick, .int .i64 x.drift] 23) := hid (blk_keep B_x.out hk (by omega))
    replace B_t : Hd (Blk w8 (w2.heap.size) #[.int .i64 t.lo, .int .i64 t.hi] 25) := hid (blk_keep B_t.out hk (by omega))
    replace B_s : Hd (Blk w8 (b_s) #[.int .i64 (kn + A), .int .i64 (kn + A + B), .int .i64 TK] 32) := hid (blk_keep B_s.out hk (by omega))
    replace HK : Hd (Keeps (fun _ => False) w w8) := hid (HK.out.after (hk.mono (fun i _ h => by omega)))
    have zw8 := hk.size
    have HB3 := hid hb3
    clear hp hk hb3 HB2 S3 kA
    have HPL := hid (packed_len _ _ _ HR.out)
    generalize hen : encL [(kn + A) % 65536, (kn + A + B) % 65536, TK] = en at *
    have HEN := hid hen
    have HLT : Hd (∀ c ∈ en, c < 256) := hid (by rw [← hen]; exact packed_lt _)
    clear hen
    go_wp2_with fail
    refine (WDone_any _ wy.heap.size en _ HB3.out (by have := HPL.out; omega)).mono ?_
    rintro e w9 ⟨ad, nd, cd, rfl, hnd, hod, hk⟩
    have SD := hid (row_sl hod.row hnd.symm)
    clear hod hnd
    replace B_x : Hd (Blk w9 (w.heap.size) #[.int .i64 x.lo, .int .i64 x.wide, .int .i64 x.sent, .int .i64 x.took, .int .i64 x.since, .int .i64 x.tick, .int .i64 x.drift] 23) := hid (blk_keep B_x.out hk (fun h => h))
    replace B_t : Hd (Blk w9 (w2.heap.size) #[.int .i64 t.lo, .int .i64 t.hi] 25) := hid (blk_keep B_t.out hk (fun h => h))
    replace B_s : Hd (Blk w9 (b_s) #[.int .i64 (kn + A), .int .i64 (kn + A + B), .int .i64 TK] 32) := hid (blk_keep B_s.out hk (fun h => h))
    replace HK : Hd (Keeps (fun _ => False) w w9) := hid (HK.out.trans hk)
    have z9 := hk.size
    clear hk
    go_wp2_with fail
    refine (NewReader_any _ _ en _ SD.out (by have := HPL.out; omega) HLT.out).mono ?_
    rintro e w10 ⟨px, rfl, hx1, hx2, hk⟩
    have X1 := hid hx1
    clear hx1 SD HB3
    replace B_x : Hd (Blk w10 (w.heap.size) #[.int .i64 x.lo, .int .i64 x.wide, .int .i64 x.sent, .int .i64 x.took, .int .i64 x.since, .int .i64 x.tick, .int .i64 x.drift] 23) := hid (blk_keep B_x.out hk (fun h => h))
    replace B_t : Hd (Blk w10 (w2.heap.size) #[.int .i64 t.lo, .int .i64 t.hi] 25) := hid (blk_keep B_t.out hk (fun h => h))
    replace B_s : Hd (Blk w10 (b_s) #[.int .i64 (kn + A), .int .i64 (kn + A + B), .int .i64 TK] 32) := hid (blk_keep B_s.out hk (fun h => h))
    replace HK : Hd (Keeps (fun _ => False) w w10) := hid (HK.out.trans hk)
    have z10 := hk.size
    clear hk
    have c_x : w.heap.size < px := by have := zw8; have := zb; have := hx2; omega
    have c_t : w2.heap.size < px := by have := zw8; have := zb; have := hx2; omega
    have c_s : b_s < px := by have := zw8; have := zb; have := hx2; omega
    go_wp2_with fail
    refine (RInts_any _ px 3 (0, en) _ X1.out (by omega) (by have := HPL.out; simp only; omega)).mono ?_
    have HSL : Hd (sL 3 (0, en) = ((0, []), [(kn + A) % 65536, (kn + A + B) % 65536, TK])) := hid (by have := sL_enc [] (l := [(kn + A) % 65536, (kn + A + B) % 65536, TK]) (most := 3) (by simp) HR.out (by simp); rw [List.append_nil, HEN.out] at this; exact this)
    unfold RLPost
    rw [HSL.out]
    rintro e w11 ⟨al, nl, cl, rfl, hnl, hol, hrd, hk⟩
    obtain rfl : nl = 3 := by simpa using hnl
    have SL := hid (row_sl hol.row (by simp))
    have X2 := hid hrd
    replace B_x : Hd (Blk w11 (w.heap.size) #[.int .i64 x.lo, .int .i64 x.wide, .int .i64 x.sent, .int .i64 x.took, .int .i64 x.since, .int .i64 x.tick, .int .i64 x.drift] 23) := hid (blk_keep B_x.out hk (by omega))
    replace B_t : Hd (Blk w11 (w2.heap.size) #[.int .i64 t.lo, .int .i64 t.hi] 25) := hid (blk_keep B_t.out hk (by omega))
    replace B_s : Hd (Blk w11 (b_s) #[.int .i64 (kn + A), .int .i64 (kn + A + B), .int .i64 TK] 32) := hid (blk_keep B_s.out hk (by omega))
    replace HK : Hd (Keeps (fun _ => False) w w11) := hid (HK.out.after (hk.mono (fun i _ h => by omega)))
    have zw11 := hk.size
    clear hnl hol hrd hk X1
    go_wp2_with fail
    refine (REnd_any _ px (0, []) _ X2.out).mono ?_
    rw [sEnd_zero]
    rintro e w12 ⟨rfl, hd⟩
    have hk := drawn_keeps (fun _ => False) hd
    replace SL := hid (SL.out.drawn hd)
    clear hd X2
    replace B_x : Hd (Blk w12 (w.heap.size) #[.int .i64 x.lo, .int .i64 x.wide, .int .i64 x.sent, .int .i64 x.took, .int .i64 x.since, .int .i64 x.tick, .int .i64 x.drift] 23) := hid (blk_keep B_x.out hk (fun h => h))
    replace B_t : Hd (Blk w12 (w2.heap.size) #[.int .i64 t.lo, .int .i64 t.hi] 25) := hid (blk_keep B_t.out hk (fun h => h))
    replace B_s : Hd (Blk w12 (b_s) #[.int .i64 (kn + A), .int .i64 (kn + A + B), .int .i64 TK] 32) := hid (blk_keep B_s.out hk (fun h => h))
    replace HK : Hd (Keeps (fun _ => False) w w12) := hid (HK.out.trans hk)
    have z12 := hk.size
    clear hk
    obtain ⟨a', cap', hva, _, _, hcc⟩ := SL.out.ints
    injection hva with hva1 hva2 hva3
    obtain ⟨bl, ol, hb, _, hbl, hc⟩ := hcc (by simp)
    subst hb
    subst hva1
    clear hva2 hva3
    have F0 : Hd (w12.cell? ⟨bl, ol, none⟩ = some (.int .i64 ((kn + A) % 65536))) := hid (by have := hc 0 (by simp); simpa using this)
    have F1 : Hd (w12.cell? ⟨bl, ol + 1, none⟩ = some (.int .i64 ((kn + A + B) % 65536))) := hid (by have := hc 1 (by simp); simpa using this)
    have F2 : Hd (w12.cell? ⟨bl, ol + 2, none⟩ = some (.int .i64 TK)) := hid (by have := hc 2 (by simp); simpa using this)
    clear hc hcc SL
    have u1 := hid (unwr_mod kn A p0 p2 p3)
    have u2 := hid (unwr_mod (kn + A) B (by omega) p4 p5)
    have UW1 : Hd (∀ w, Calls Try.prog 24 #[.int .i64 kn, .int .i64 ((kn + A) % 65536)] w fun e w' => e = .returned (.int .i64 (kn + A)) ∧ w = w') := hid (fun w => by have := Unwrap_any kn ((kn + A) % 65536) w p0 (by omega); rw [u1.out] at this; exact this)
    have UW2 : Hd (∀ w, Calls Try.prog 24 #[.int .i64 (kn + A), .int .i64 ((kn + A + B) % 65536)] w fun e w' => e = .returned (.int .i64 (kn + A + B)) ∧ w = w') := hid (fun w => by have := Unwrap_any (kn + A) ((kn + A + B) % 65536) w (by omega) (by omega); rw [u2.out] at this; exact this)
    clear u1 u2
    go_upto_region 14 with (fail)
    go_cut [13] from 67 to 75 (fun u13 wx => CutN w12 #[.int .i64 (kn + A), .int .i64 0, .int .i64 TK] 32 u13 wx ∧ NewAt w12 u13)
    case first =>
      have f0 := F0.out
      have f2 := F2.out
      have m0 := World.new_ne w12 _ f0
      have m2 := World.new_ne w12 _ f2
      go_region_held3 (fun w' => w'.cell? ⟨bl, ol, none⟩ = some (.int .i64 ((kn + A) % 65536)) ∧ w'.cell? ⟨bl, ol + 2, none⟩ = some (.int .i64 TK)) (first | go_keep | (go_split_ands; refine ⟨?_, ?_⟩ <;> assumption)) (first | (go_at_call 24; refine (UW1.out _).mono ?_; rintro e w1 ⟨rfl, rfl⟩))
      all_goals
        go_wp2_with fail
        go_meet
        first | exact ⟨cutN_new (Keeps.refl _ _), newAt _⟩ | exact ⟨cutN_drew (cutN_new (Keeps.refl _ _)), newAt _⟩
    case rest =>
      obtain ⟨⟨b_got, rfl, B_got, hk⟩, hnew⟩ := hcut
      replace hk := hk.out
      have f1 := keep_cell hk (fun h => h) F1.out
      clear F0 F1 F2 UW1
      have hnb := hnew _ _ _ rfl
      have nb_x : b_got ≠ w.heap.size := by have := blk_lt B_x.out; omega
      have nb_t : b_got ≠ w2.heap.size := by have := blk_lt B_t.out; omega
      have nb_s : b_got ≠ b_s := by have := blk_lt B_s.out; omega
      generalize wc = wq13 at *
      have zg : w12.heap.size ≤ wq13.heap.size := hk.size
      replace B_x : Hd (Blk wq13 (w.heap.size) #[.int .i64 x.lo, .int .i64 x.wide, .int .i64 x.sent, .int .i64 x.took, .int .i64 x.since, .int .i64 x.tick, .int .i64 x.drift] 23) := hid (blk_keep B_x.out hk (fun h => h))
      replace B_t : Hd (Blk wq13 (w2.heap.size) #[.int .i64 t.lo, .int .i64 t.hi] 25) := hid (blk_keep B_t.out hk (fun h => h))
      replace B_s : Hd (Blk wq13 (b_s) #[.int .i64 (kn + A), .int .i64 (kn + A + B), .int .i64 TK] 32) := hid (blk_keep B_s.out hk (fun h => h))
      replace HK : Hd (Keeps (fun _ => False) w wq13) := hid (HK.out.trans hk)
      have z13 := hk.size
      clear hk
      go_upto_region 15 with (fail)
      have e0 : ∀ y : Ext wq13, y.w.cell? ⟨b_got, 0, none⟩ = some _ := ext_bcell B_got.out 0 rfl
      have e1 : ∀ y : Ext wq13, y.w.cell? ⟨b_got, 1, none⟩ = some _ := ext_bcell B_got.out 1 rfl
      have e2 : ∀ y : Ext wq13, y.w.frozen? ⟨b_got, 1, none⟩ = false := ext_bfree B_got.out 1
      have e3 : ∀ y : Ext wq13, y.w.cell? ⟨bl, ol + 1, none⟩ = some _ := ext_cell f1
      refine wp_region_ext_tail 7 (by kernel_rfl) (by kernel_rfl) ?_; simp only [List.take_succ_cons, List.take_zero, List.drop_succ_cons, List.drop_zero]
      repeat (go_big_quiet_step (first | (go_at_call 24; exact ext_same (UW2.out _))))
      refine wpQuiet_nil ?_
      rintro _ ⟨y, rfl⟩
      go_upto_region 16 with (fail)
      have zz0 := HK.out.size
      generalize hV : World.setCell y.w _ _ = V14
      have d_x : b_got ≠ w.heap.size := nb_x
      replace B_x : Hd (Blk V14 (w.heap.size) #[.int .i64 x.lo, .int .i64 x.wide, .int .i64 x.sent, .int .i64 x.took, .int .i64 x.since, .int .i64 x.tick, .int .i64 x.drift] 23) := hid (by rw [← hV]; exact blk_other (ext_blk B_x.out y) d_x _ _)
      have d_t : b_got ≠ w2.heap.size := nb_t
      replace B_t : Hd (Blk V14 (w2.heap.size) #[.int .i64 t.lo, .int .i64 t.hi] 25) := hid (by rw [← hV]; exact blk_other (ext_blk B_t.out y) d_t _ _)
      have d_s : b_got ≠ b_s := nb_s
      replace B_s : Hd (Blk V14 (b_s) #[.int .i64 (kn + A), .int .i64 (kn + A + B), .int .i64 TK] 32) := hid (by rw [← hV]; exact blk_other (ext_blk B_s.out y) d_s _ _)
      replace B_got : Hd (Blk V14 (b_got) #[.int .i64 (kn + A), .int .i64 (kn + A + B), .int .i64 TK] 32) := hid (by rw [← hV]; exact blk_set (ext_blk B_got.out y) 1 _)
      replace HK : Hd (Keeps (fun _ => False) w V14) := hid (by rw [← hV]; exact (HK.out.trans y.k).setCell (.inr (by simp; omega)) _)
      clear e0 e1 e2 e3 hV f1 UW2
      have n9 : kn + A + B + E ≤ 1000000000000 := by omega
      go_upto_region 16 with (fail)
      go_cut [14, 15] from 83 to 92 (fun u14 u15 wx => CutN V14 #[.int .i64 ((cor t ⟨kn + A, kn + A + B, TK⟩ (kn + A + B + E) (1 + around x.drift 1000000)).1.lo), .int .i64 ((cor t ⟨kn + A, kn + A + B, TK⟩ (kn + A + B + E) (1 + around x.drift 1000000)).1.hi)] 25 u14 wx ∧ u15 = .int .i64 (cor t ⟨kn + A, kn + A + B, TK⟩ (kn + A + B + E) (1 + around x.drift 1000000)).2)
      case first =>
        have o_t_0 : V14.cell? ⟨w2.heap.size, 0, none⟩ = some (.int .i64 (t.lo)) := blk_cell B_t.out 0
        have o_t_1 : V14.cell? ⟨w2.heap.size, 1, none⟩ = some (.int .i64 (t.hi)) := blk_cell B_t.out 1
        have o_got_0 : V14.cell? ⟨b_got, 0, none⟩ = some (.int .i64 (kn + A)) := blk_cell B_got.out 0
        have o_got_1 : V14.cell? ⟨b_got, 1, none⟩ = some (.int .i64 (kn + A + B)) := blk_cell B_got.out 1
        have o_got_2 : V14.cell? ⟨b_got, 2, none⟩ = some (.int .i64 (TK)) := blk_cell B_got.out 2
        have o_x_6 : V14.cell? ⟨w.heap.size, 6, none⟩ = some (.int .i64 (x.drift)) := blk_cell B_x.out 6
        have m_0 := World.new_ne V14 _ o_t_0
        have m_1 := World.new_ne V14 _ o_t_1
        have m_2 := World.new_ne V14 _ o_got_0
        have m_3 := World.new_ne V14 _ o_got_1
        have m_4 := World.new_ne V14 _ o_got_2
        have m_5 := World.new_ne V14 _ o_x_6
        go_region_held3 (fun w' => w'.cell? ⟨w2.heap.size, 0, none⟩ = some (.int .i64 (t.lo)) ∧ w'.cell? ⟨w2.heap.size, 1, none⟩ = some (.int .i64 (t.hi)) ∧ w'.cell? ⟨b_got, 0, none⟩ = some (.int .i64 (kn + A)) ∧ w'.cell? ⟨b_got, 1, none⟩ = some (.int .i64 (kn + A + B)) ∧ w'.cell? ⟨b_got, 2, none⟩ = some (.int .i64 (TK)) ∧ w'.cell? ⟨w.heap.size, 6, none⟩ = some (.int .i64 (x.drift))) (first | go_keep | (go_split_ands; refine ⟨?_, ?_, ?_, ?_, ?_, ?_⟩ <;> assumption) | assumption) (first | (go_at_call 17; refine (drift_any _ _ D1.out D2.out).mono ?_; rintro e w1 ⟨rfl, rfl⟩) | (go_at_call 21; (with_reducible refine (Correlate_all t ⟨kn + A, kn + A + B, TK⟩ (kn + A + B + E) (1 + around x.drift 1000000) _ n9 dd de).mono ?_); rintro e wz ⟨rfl, hk⟩; have hkk : Keeps (fun _ => False) V14 wz := Keeps.trans (by repeat (first | (with_reducible assumption) | (with_reducible exact Keeps.refl _ _) | (with_reducible apply Keeps.drewN) | (with_reducible apply Keeps.drew) | (with_reducible apply Keeps.alloc) | refine Keeps.setCell ?_ (by first | (simp; done) | (simp; omega)) _)) hk; have s_0 := keep_cell hkk (fun h => h) o_t_0; have n_0 := World.new_ne wz _ s_0; have s_1 := keep_cell hkk (fun h => h) o_t_1; have n_1 := World.new_ne wz _ s_1; have s_2 := keep_cell hkk (fun h => h) o_got_0; have n_2 := World.new_ne wz _ s_2; have s_3 := keep_cell hkk (fun h => h) o_got_1; have n_3 := World.new_ne wz _ s_3; have s_4 := keep_cell hkk (fun h => h) o_got_2; have n_4 := World.new_ne wz _ s_4; have s_5 := keep_cell hkk (fun h => h) o_x_6; have n_5 := World.new_ne wz _ s_5; (try ((have HN := iv_new V14 _ wz hk rfl); obtain ⟨HNB, F0, F1, G0, G1⟩ := HN)); have zw := hkk.size; replace hkk := hid hkk; replace hk := hid hk))
        all_goals
          go_wp2_with fail
          go_meet
          first | exact ⟨cutN_new hkk.out, rfl⟩ | exact ⟨cutN_old hkk.out (Nat.le_refl _) HNB, rfl⟩ | exact ⟨cutN_old hkk.out zw HNB, rfl⟩ | exact ⟨cutN_drew (cutN_new hkk.out), rfl⟩ | exact ⟨cutN_drew (cutN_old hkk.out (Nat.le_refl _) HNB), rfl⟩
      case rest =>
        obtain ⟨⟨b_a, rfl, B_a, hk⟩, rfl⟩ := hcut
        replace hk := hk.out
        generalize wc = wq15 at *
        replace B_x : Hd (Blk wq15 (w.heap.size) #[.int .i64 x.lo, .int .i64 x.wide, .int .i64 x.sent, .int .i64 x.took, .int .i64 x.since, .int .i64 x.tick, .int .i64 x.drift] 23) := hid (blk_keep B_x.out hk (fun h => h))
        replace B_t : Hd (Blk wq15 (w2.heap.size) #[.int .i64 t.lo, .int .i64 t.hi] 25) := hid (blk_keep B_t.out hk (fun h => h))
        replace B_s : Hd (Blk wq15 (b_s) #[.int .i64 (kn + A), .int .i64 (kn + A + B), .int .i64 TK] 32) := hid (blk_keep B_s.out hk (fun h => h))
        replace B_got : Hd (Blk wq15 (b_got) #[.int .i64 (kn + A), .int .i64 (kn + A + B), .int .i64 TK] 32) := hid (blk_keep B_got.out hk (fun h => h))
        replace HK : Hd (Keeps (fun _ => False) w wq15) := hid (HK.out.trans hk)
        have z15 := hk.size
        clear hk
        go_upto_region 17 with (fail)
        go_cut [16, 17] from 93 to 102 (fun u16 u17 wx => CutN wq15 #[.int .i64 ((cor t ⟨kn + A, kn + A + B, TK⟩ (kn + A + B + E) (1 + around x.drift 1000000)).1.lo), .int .i64 ((cor t ⟨kn + A, kn + A + B, TK⟩ (kn + A + B + E) (1 + around x.drift 1000000)).1.hi)] 25 u16 wx ∧ u17 = .int .i64 (cor t ⟨kn + A, kn + A + B, TK⟩ (kn + A + B + E) (1 + around x.drift 1000000)).2)
        case first =>
          have o_t_0 : wq15.cell? ⟨w2.heap.size, 0, none⟩ = some (.int .i64 (t.lo)) := blk_cell B_t.out 0
          have o_t_1 : wq15.cell? ⟨w2.heap.size, 1, none⟩ = some (.int .i64 (t.hi)) := blk_cell B_t.out 1
          have o_s_0 : wq15.cell? ⟨b_s, 0, none⟩ = some (.int .i64 (kn + A)) := blk_cell B_s.out 0
          have o_s_1 : wq15.cell? ⟨b_s, 1, none⟩ = some (.int .i64 (kn + A + B)) := blk_cell B_s.out 1
          have o_s_2 : wq15.cell? ⟨b_s, 2, none⟩ = some (.int .i64 (TK)) := blk_cell B_s.out 2
          have o_x_6 : wq15.cell? ⟨w.heap.size, 6, none⟩ = some (.int .i64 (x.drift)) := blk_cell B_x.out 6
          have m_0 := World.new_ne wq15 _ o_t_0
          have m_1 := World.new_ne wq15 _ o_t_1
          have m_2 := World.new_ne wq15 _ o_s_0
          have m_3 := World.new_ne wq15 _ o_s_1
          have m_4 := World.new_ne wq15 _ o_s_2
          have m_5 := World.new_ne wq15 _ o_x_6
          go_region_held3 (fun w' => w'.cell? ⟨w2.heap.size, 0, none⟩ = some (.int .i64 (t.lo)) ∧ w'.cell? ⟨w2.heap.size, 1, none⟩ = some (.int .i64 (t.hi)) ∧ w'.cell? ⟨b_s, 0, none⟩ = some (.int .i64 (kn + A)) ∧ w'.cell? ⟨b_s, 1, none⟩ = some (.int .i64 (kn + A + B)) ∧ w'.cell? ⟨b_s, 2, none⟩ = some (.int .i64 (TK)) ∧ w'.cell? ⟨w.heap.size, 6, none⟩ = some (.int .i64 (x.drift))) (first | go_keep | (go_split_ands; refine ⟨?_, ?_, ?_, ?_, ?_, ?_⟩ <;> assumption) | assumption) (first | (go_at_call 17; refine (drift_any _ _ D1.out D2.out).mono ?_; rintro e w1 ⟨rfl, rfl⟩) | (go_at_call 21; (with_reducible refine (Correlate_all t ⟨kn + A, kn + A + B, TK⟩ (kn + A + B + E) (1 + around x.drift 1000000) _ n9 dd de).mono ?_); rintro e wz ⟨rfl, hk⟩; have hkk : Keeps (fun _ => False) wq15 wz := Keeps.trans (by repeat (first | (with_reducible assumption) | (with_reducible exact Keeps.refl _ _) | (with_reducible apply Keeps.drewN) | (with_reducible apply Keeps.drew) | (with_reducible apply Keeps.alloc) | refine Keeps.setCell ?_ (by first | (simp; done) | (simp; omega)) _)) hk; have s_0 := keep_cell hkk (fun h => h) o_t_0; have n_0 := World.new_ne wz _ s_0; have s_1 := keep_cell hkk (fun h => h) o_t_1; have n_1 := World.new_ne wz _ s_1; have s_2 := keep_cell hkk (fun h => h) o_s_0; have n_2 := World.new_ne wz _ s_2; have s_3 := keep_cell hkk (fun h => h) o_s_1; have n_3 := World.new_ne wz _ s_3; have s_4 := keep_cell hkk (fun h => h) o_s_2; have n_4 := World.new_ne wz _ s_4; have s_5 := keep_cell hkk (fun h => h) o_x_6; have n_5 := World.new_ne wz _ s_5; (try ((have HN := iv_new wq15 _ wz hk rfl); obtain ⟨HNB, F0, F1, G0, G1⟩ := HN)); have zw := hkk.size; replace hkk := hid hkk; replace hk := hid hk))
          all_goals
            go_wp2_with fail
            go_meet
            first | exact ⟨cutN_new hkk.out, rfl⟩ | exact ⟨cutN_old hkk.out (Nat.le_refl _) HNB, rfl⟩ | exact ⟨cutN_old hkk.out zw HNB, rfl⟩ | exact ⟨cutN_drew (cutN_new hkk.out), rfl⟩ | exact ⟨cutN_drew (cutN_old hkk.out (Nat.le_refl _) HNB), rfl⟩
        case rest =>
          obtain ⟨⟨b_b, rfl, B_b, hk⟩, rfl⟩ := hcut
          replace hk := hk.out
          generalize wc = wq16 at *
          replace B_x : Hd (Blk wq16 (w.heap.size) #[.int .i64 x.lo, .int .i64 x.wide, .int .i64 x.sent, .int .i64 x.took, .int .i64 x.since, .int .i64 x.tick, .int .i64 x.drift] 23) := hid (blk_keep B_x.out hk (fun h => h))
          replace B_t : Hd (Blk wq16 (w2.heap.size) #[.int .i64 t.lo, .int .i64 t.hi] 25) := hid (blk_keep B_t.out hk (fun h => h))
          replace B_s : Hd (Blk wq16 (b_s) #[.int .i64 (kn + A), .int .i64 (kn + A + B), .int .i64 TK] 32) := hid (blk_keep B_s.out hk (fun h => h))
          replace B_got : Hd (Blk wq16 (b_got) #[.int .i64 (kn + A), .int .i64 (kn + A + B), .int .i64 TK] 32) := hid (blk_keep B_got.out hk (fun h => h))
          replace B_a : Hd (Blk wq16 (b_a) #[.int .i64 ((cor t ⟨kn + A, kn + A + B, TK⟩ (kn + A + B + E) (1 + around x.drift 1000000)).1.lo), .int .i64 ((cor t ⟨kn + A, kn + A + B, TK⟩ (kn + A + B + E) (1 + around x.drift 1000000)).1.hi)] 25) := hid (blk_keep B_a.out hk (fun h => h))
          replace HK : Hd (Keeps (fun _ => False) w wq16) := hid (HK.out.trans hk)
          have z16 := hk.size
          clear hk
          generalize cor t ⟨kn + A, kn + A + B, TK⟩ (kn + A + B + E) (1 + around x.drift 1000000) = c1 at *
          have o_a_0 : wq16.cell? ⟨b_a, 0, none⟩ = some (.int .i64 (c1.1.lo)) := blk_cell B_a.out 0
          have o_a_1 : wq16.cell? ⟨b_a, 1, none⟩ = some (.int .i64 (c1.1.hi)) := blk_cell B_a.out 1
          have o_b_0 : wq16.cell? ⟨b_b, 0, none⟩ = some (.int .i64 (c1.1.lo)) := blk_cell B_b.out 0
          have o_b_1 : wq16.cell? ⟨b_b, 1, none⟩ = some (.int .i64 (c1.1.hi)) := blk_cell B_b.out 1
          have o_got_0 : wq16.cell? ⟨b_got, 0, none⟩ = some (.int .i64 (kn + A)) := blk_cell B_got.out 0
          have o_got_1 : wq16.cell? ⟨b_got, 1, none⟩ = some (.int .i64 (kn + A + B)) := blk_cell B_got.out 1
          have o_got_2 : wq16.cell? ⟨b_got, 2, none⟩ = some (.int .i64 (TK)) := blk_cell B_got.out 2
          have o_s_0 : wq16.cell? ⟨b_s, 0, none⟩ = some (.int .i64 (kn + A)) := blk_cell B_s.out 0
          have o_s_1 : wq16.cell? ⟨b_s, 1, none⟩ = some (.int .i64 (kn + A + B)) := blk_cell B_s.out 1
          have o_s_2 : wq16.cell? ⟨b_s, 2, none⟩ = some (.int .i64 (TK)) := blk_cell B_s.out 2
          go_wp2_with fail
          clear o_a_0 o_a_1 o_b_0 o_b_1 o_got_0 o_got_1 o_got_2 o_s_0 o_s_1 o_s_2
          refine (lives_any _).mono ?_
          rintro e w17 ⟨rfl, hk⟩
          replace B_x : Hd (Blk w17 (w.heap.size) #[.int .i64 x.lo, .int .i64 x.wide, .int .i64 x.sent, .int .i64 x.took, .int .i64 x.since, .int .i64 x.tick, .int .i64 x.drift] 23) := hid (blk_keep B_x.out hk (fun h => h))
          replace B_t : Hd (Blk w17 (w2.heap.size) #[.int .i64 t.lo, .int .i64 t.hi] 25) := hid (blk_keep B_t.out hk (fun h => h))
          replace B_s : Hd (Blk w17 (b_s) #[.int .i64 (kn + A), .int .i64 (kn + A + B), .int .i64 TK] 32) := hid (blk_keep B_s.out hk (fun h => h))
          replace B_got : Hd (Blk w17 (b_got) #[.int .i64 (kn + A), .int .i64 (kn + A + B), .int .i64 TK] 32) := hid (blk_keep B_got.out hk (fun h => h))
          replace B_a : Hd (Blk w17 (b_a) #[.int .i64 c1.1.lo, .int .i64 c1.1.hi] 25) := hid (blk_keep B_a.out hk (fun h => h))
          replace B_b : Hd (Blk w17 (b_b) #[.int .i64 c1.1.lo, .int .i64 c1.1.hi] 25) := hid (blk_keep B_b.out hk (fun h => h))
          replace HK : Hd (Keeps (fun _ => False) w w17) := hid (HK.out.trans hk)
          have z17 := hk.size
          clear hk
          go_wp2
          go_ret
          exact ⟨rfl, HK.out⟩

end Go.Proofs.Ytjdalhnffhoknaa
