import Derived.Test.YtcgkfgklggjmaaaGf
import Derived.Deep.QuietTactic
import Derived.BigQuiet
import Derived.Deep.Cut
section
namespace Go.Proofs.Ytcgkfgklggjmaaa
set_option linter.unusedVariables false
set_option linter.unusedSimpArgs false
open Go.RowKit
def kDays (y : Int) : Int := 365 + lp y
theorem kDays_bd (y : Int) : 365 ≤ kDays y ∧ kDays y ≤ 366 := by have := lp_01 y; unfold kDays; omega
theorem kDays_t {y : Int} (h : leapB y = true) : kDays y = 366 := by simp [kDays, lp, h]
theorem kDays_f {y : Int} (h : leapB y = false) : kDays y = 365 := by simp [kDays, lp, h]
theorem dby_k (y : Int) : dby (y + 1) = dby y + kDays y := by have := dby_succ y; unfold kDays; omega
set_option maxHeartbeats 2000000 in
set_option maxRecDepth 100000 in
theorem rof_no (n : Int) (w : World) (hn : n < 0 ∨ 3652059 ≤ n) :
    Calls Try.prog 9 #[.int .i64 n] w fun e w' => e = .returned (.tuple #[.agg #[.int .i64 0, .int .i64 0, .int .i64 0], .bool false]) ∧ Below w.heap.size w w' := by
  go_enter Try.func9, Try.ntmps9
  have kb := Blk.new w 24 #[.int .i64 0, .int .i64 0, .int .i64 0]
  have hb0 := bl_alloc (bl_refl w) (.cells #[.int .i64 0, .int .i64 0, .int .i64 0] 24)
  rcases (by omega : n < 0 ∨ (0 ≤ n ∧ 4000000 < n) ∨ (3652059 ≤ n ∧ n ≤ 4000000)) with hn | ⟨hn0, hn⟩ | ⟨hn0, hn⟩
  · go_wp2_with fail
    exact bodyPost_ret (results_cell_tmp_row rfl _ _ w.heap.size _ #[.int .i64 0, .int .i64 0, .int .i64 0] _ rfl kb Try.underlying24 rfl (by kernel_rfl)) rfl ⟨rfl, hb0⟩
  · go_wp2_with fail
    exact bodyPost_ret (results_cell_tmp_row rfl _ _ w.heap.size _ #[.int .i64 0, .int .i64 0, .int .i64 0] _ rfl kb Try.underlying24 rfl (by kernel_rfl)) rfl ⟨rfl, hb0⟩
  · go_wp2_with fail
    generalize w.alloc (.cells #[.int .i64 0, .int .i64 0, .int .i64 0] 24) = w0 at *
    go_loop [0, 4] (fun v0 v4 => ∃ k : Int, 1 ≤ k ∧ k ≤ 10000 ∧ v4 = .int .i64 k ∧ v0 = .int .i64 (n - dby k)) (fun _ v4 => (10000 - intOf v4).toNat)
    case atStart => exact ⟨1, by omega, by omega, rfl, by rw [dby_one]; congr 1; omega⟩
    case round =>
      obtain ⟨k, k1, k2, rfl, rfl⟩ := hrel
      have hz := dby_bd k k1 (by omega)
      obtain ⟨hz1, hz2⟩ := hz
      by_cases hlt : k ≤ 9999
      · have e1 := dby_mono (k + 1) 10000 (by omega)
        rw [dby_end] at e1
        have DS := Lib.hid (dby_k k)
        have e2 : kDays k ≤ n - dby k := by have := DS.out; omega
        clear e1
        cases hlp : leapB k with
        | true =>
          have HL := Lib.hid (kDays_t hlp)
          rw [HL.out] at e2
          go_wp2_with (go_at_call 22; refine (rleap_any _ _).mono ?_; rintro e w' ⟨rfl, rfl⟩)
          go_round
          case rel => exact ⟨k + 1, by omega, by omega, rfl, by rw [DS.out, HL.out]; congr 1; omega⟩
          case measure => simp [intOf]; omega
        | false =>
          have HL := Lib.hid (kDays_f hlp)
          rw [HL.out] at e2
          go_wp2_with (go_at_call 22; refine (rleap_any _ _).mono ?_; rintro e w' ⟨rfl, rfl⟩)
          go_round
          case rel => exact ⟨k + 1, by omega, by omega, rfl, by rw [DS.out, HL.out]; congr 1; omega⟩
          case measure => simp [intOf]; omega
      · obtain ⟨c0, c1, c2, _, _, _⟩ := kb.c3
        go_wp2_with fail
        exact bodyPost_ret (results_cell_tmp_row rfl _ _ w.heap.size _ #[.int .i64 0, .int .i64 0, .int .i64 0] _ rfl (((kb.set_ 0 _).set_ 1 _).set_ 2 _) Try.underlying24 rfl (by kernel_rfl)) rfl ⟨rfl, bl_set (bl_set (bl_set hb0 (Nat.le_refl _) _) (Nat.le_refl _) _) (Nat.le_refl _) _⟩
set_option maxHeartbeats 4000000 in
set_option maxRecDepth 100000 in
theorem rof_yes (y m d : Int) (w : World) (hg : goodB y m d = true) :
    Calls Try.prog 9 #[.int .i64 (numD y m d)] w fun e w' => e = .returned (.tuple #[.agg #[.int .i64 y, .int .i64 m, .int .i64 d], .bool true]) ∧ Below w.heap.size w w' := by
  obtain ⟨g1, g2, g3, g4, g5, g6, g7⟩ := good_of hg
  obtain ⟨n1, n2⟩ := num_bd hg
  obtain ⟨z1, z2⟩ := num_in_year hg
  obtain ⟨N, hN⟩ : ∃ N, N = numD y m d := ⟨_, rfl⟩
  rw [← hN] at n1 n2 z1 z2 ⊢
  have HN := Lib.hid hN
  clear hN
  go_enter Try.func9, Try.ntmps9
  have kb := Blk.new w 24 #[.int .i64 0, .int .i64 0, .int .i64 0]
  have hb0 := bl_alloc (bl_refl w) (.cells #[.int .i64 0, .int .i64 0, .int .i64 0] 24)
  go_wp2_with fail
  generalize w.alloc (.cells #[.int .i64 0, .int .i64 0, .int .i64 0] 24) = w0 at *
  go_loop [0, 4] (fun v0 v4 => ∃ k : Int, 1 ≤ k ∧ k ≤ y ∧ v4 = .int .i64 k ∧ v0 = .int .i64 (N - dby k)) (fun _ v4 => (y - intOf v4).toNat)
  case atStart => exact ⟨1, by omega, by omega, rfl, by rw [dby_one]; congr 1; omega⟩
  case round =>
    obtain ⟨k, k1, k2, rfl, rfl⟩ := hrel
    have hz := dby_bd k k1 (by omega)
    obtain ⟨hz1, hz2⟩ := hz
    have k9 : k ≤ 9999 := by omega
    by_cases hlt : k < y
    · have e1 := dby_mono (k + 1) y (by omega)
      have DS := Lib.hid (dby_k k)
      have e2 : kDays k ≤ N - dby k := by have := DS.out; omega
      clear e1
      cases hlp : leapB k with
      | true =>
        have HL := Lib.hid (kDays_t hlp)
        rw [HL.out] at e2
        go_wp2_with (go_at_call 22; refine (rleap_any _ _).mono ?_; rintro e w' ⟨rfl, rfl⟩)
        go_round
        case rel => exact ⟨k + 1, by omega, by omega, rfl, by rw [DS.out, HL.out]; congr 1; omega⟩
        case measure => simp [intOf]; omega
      | false =>
        have HL := Lib.hid (kDays_f hlp)
        rw [HL.out] at e2
        go_wp2_with (go_at_call 22; refine (rleap_any _ _).mono ?_; rintro e w' ⟨rfl, rfl⟩)
        go_round
        case rel => exact ⟨k + 1, by omega, by omega, rfl, by rw [DS.out, HL.out]; congr 1; omega⟩
        case measure => simp [intOf]; omega
    · obtain rfl : k = y := by omega
      have DS := dby_k k
      have e2 : N - dby k < kDays k := by omega
      have e3 : cum k m + d - 1 = N - dby k := by have := HN.out; unfold numD at this; omega
      have HC := Lib.hid e3
      have e4 : 0 ≤ N - dby k ∧ N - dby k ≤ 366 := by have := kDays_bd k; omega
      obtain ⟨e5, e6⟩ := e4
      have hc := cum_bd k m
      obtain ⟨hc1, hc2⟩ := hc
      clear e3 DS
      cases hlp : leapB k
      case' true => have HL := Lib.hid (kDays_t hlp)
      case' false => have HL := Lib.hid (kDays_f hlp)
      all_goals
        rw [HL.out] at e2
        go_wp2_with (go_at_call 22; refine (rleap_any _ _).mono ?_; rintro e w' ⟨rfl, rfl⟩)
        go_loopw [0, 6] (fun v0 v6 wr => ∃ j : Int, 1 ≤ j ∧ j ≤ m ∧ v6 = .int .i64 j ∧ v0 = .int .i64 (cum k m - cum k j + d - 1) ∧ Blk wr w.heap.size 24 #[.int .i64 0, .int .i64 0, .int .i64 0] ∧ Below w.heap.size w wr) (fun _ v6 _ => (m - intOf v6).toNat)
        case atStart => exact ⟨1, by omega, by omega, rfl, by rw [cum_one, ← HC.out]; congr 1; omega, kb, hb0⟩
        case round =>
          obtain ⟨j, j1, j2, rfl, rfl, hk, hbw⟩ := hrel
          have db := days_bd k j
          obtain ⟨db1, db2⟩ := db
          have cb := cum_bd k j
          obtain ⟨cb1, cb2⟩ := cb
          have j12 : j ≤ 12 := by omega
          by_cases hlj : j < m
          · have CS := Lib.hid (cum_succ k j j1 (by omega))
            have hge : daysI k j ≤ cum k m - cum k j + d - 1 := by
              have h1 := CS.out
              have h2 := cum_mono k (j + 1) m (by omega) (by omega) (by omega)
              omega
            go_wp2_with (go_at_call 23; refine (rdays_any _ _ _).mono ?_; rintro e w1 ⟨rfl, hb1⟩; have hbx := bl_call hbw hb1; have hkx := hk.call hb1)
            go_wp2_with (go_at_call 23; refine (rdays_any _ _ _).mono ?_; rintro e w2 ⟨rfl, hb2⟩; have hby := bl_call hbx hb2; have hky := hkx.call hb2)
            go_roundw
            case rel => exact ⟨j + 1, by omega, by omega, rfl, by rw [CS.out]; congr 1; omega, hky, hby⟩
            case measure => simp [intOf]; omega
          · obtain rfl : j = m := by omega
            have hlt2 : cum k j - cum k j + d - 1 < daysI k j := by omega
            obtain ⟨c0, c1, c2, _, _, _⟩ := hk.c3
            go_wp2_with (go_at_call 23; refine (rdays_any _ _ _).mono ?_; rintro e w1 ⟨rfl, hb1⟩; have hbx := bl_call hbw hb1; have hkx := hk.call hb1; obtain ⟨c0, c1, c2, _, _, _⟩ := hkx.c3)
            exact bodyPost_ret (results_cell_tmp_row rfl _ _ w.heap.size _ #[.int .i64 k, .int .i64 j, .int .i64 d] _ rfl (((hkx.set_ 0 _).set_ 1 _).set_ 2 _) Try.underlying24 rfl (by kernel_rfl)) rfl ⟨rfl, bl_set (bl_set (bl_set hbx (Nat.le_refl _) _) (Nat.le_refl _) _) (Nat.le_refl _) _⟩
end Go.Proofs.Ytcgkfgklggjmaaa
end
section
namespace Go.Proofs.Ytcgkfgklggjmaaa.Par
set_option linter.unusedVariables false
set_option linter.unusedSimpArgs false
open Go.RowKit
/-! wide numbers of the reference, with a sign -/
structure WV (v : Int) (b : Bool) (hi lo : Int) : Prop where
  neg : b = decide (v < 0)
  abs : hi * 18446744073709551616 + lo = (if v < 0 then -v else v)
  h0 : 0 ≤ hi
  h1 : hi < 9223372036854775808
  l0 : 0 ≤ lo
  l1 : lo < 18446744073709551616
theorem WV.zero {v : Int} {b : Bool} {hi lo : Int} (h : WV v b hi lo) : (hi == 0 && lo == 0) = decide (v = 0) := by
  have := h.abs; have := h.h0; have := h.l0
  rw [Bool.eq_iff_iff]
  simp only [Bool.and_eq_true, beq_iff_eq, decide_eq_true_eq]
  split at * <;> omega
theorem WV.opp {v : Int} {b : Bool} {hi lo : Int} (h : WV v b hi lo) : WV (-v) (if v = 0 then b else !b) hi lo := by
  obtain ⟨h1, h2, h3, h4, h5, h6⟩ := h
  refine ⟨?_, ?_, h3, h4, h5, h6⟩
  · rw [h1]
    by_cases h0 : v = 0
    · simp [h0]
    · rw [if_neg h0, ← decide_not]
      exact decide_eq_decide.2 (by omega)
  · rw [h2]
    split <;> split <;> omega
set_option maxHeartbeats 4000000 in
theorem wofN_any (a : Int) (w : World) (h0 : a < 0) (h1 : -9223372036854775808 ≤ a) :
    Calls Try.prog 58 #[.int .i64 a] w fun e w' => e = .returned (.agg #[.bool true, .int .u64 0, .int .u64 (-a)]) ∧ Below w.heap.size w w' := by
  have hu1 : IntKind.i64.wrap (a + 1) = a + 1 := by rw [IntKind.wrap_i64]; omega
  have hu2 : IntKind.i64.wrap (-(a + 1)) = -a - 1 := by rw [IntKind.wrap_i64]; omega
  have hu3 : IntKind.u64.wrap (-a - 1) = -a - 1 := by rw [IntKind.wrap_u64]; omega
  have hu4 : IntKind.u64.wrap (-a - 1 + 1) = -a := by rw [IntKind.wrap_u64]; omega
  go_enter Try.func58, Try.ntmps58
  go_wp2_with fail
  exact bodyPost_ret (results_cell_row rfl _ _ w.heap.size _ #[.bool true, .int .u64 0, .int .u64 (-a)] (0, 0) _ rfl (Blk.new w _ _) Try.underlying108 rfl (by kernel_rfl)) rfl ⟨rfl, bl_alloc (bl_refl w) _⟩
theorem wofv_any (a : Int) (w : World) (h0 : -9223372036854775808 ≤ a) (h1 : a < 9223372036854775808) :
    Calls Try.prog 58 #[.int .i64 a] w fun e w' => ∃ b lo, e = .returned (.agg #[.bool b, .int .u64 0, .int .u64 lo]) ∧ WV a b 0 lo ∧ Below w.heap.size w w' := by
  by_cases hn : a < 0
  · exact (wofN_any a w hn h0).mono fun e w' ⟨he, hb⟩ => ⟨_, _, he, ⟨by simp [hn], by rw [if_pos hn]; omega, by omega, by omega, by omega, by omega⟩, hb⟩
  · exact (Dec.wof_any a w (by omega) h1).mono fun e w' ⟨he, hb⟩ => ⟨_, _, he, ⟨by simp [hn], by rw [if_neg hn]; omega, by omega, by omega, by omega, by omega⟩, hb⟩
set_option maxHeartbeats 4000000 in
theorem wopp_any (v : Int) (b : Bool) (hi lo : Int) (w : World) (h : WV v b hi lo) :
    Calls Try.prog 75 #[.agg #[.bool b, .int .u64 hi, .int .u64 lo]] w fun e w' => ∃ b', e = .returned (.agg #[.bool b', .int .u64 hi, .int .u64 lo]) ∧ WV (-v) b' hi lo ∧ Below w.heap.size w w' := by
  have hz := h.zero
  have ho := h.opp
  have k0 := (Blk.new w 108 #[.bool b, .int .u64 hi, .int .u64 lo]).alloc (.cells #[.bool false, .int .u64 0, .int .u64 0] 108)
  have r0 := Dec.Blk.new2 w (.cells #[.bool b, .int .u64 hi, .int .u64 lo] 108) 108 #[.bool false, .int .u64 0, .int .u64 0]
  by_cases hv : v = 0
  · have hq : (hi == 0 && lo == 0) = true := by rw [hz]; simp [hv]
    rw [if_pos hv] at ho
    have hZ := fun W => Dec.wzero_any b hi lo W
    rw [hq] at hZ
    go_enter Try.func75, Try.ntmps75
    go_wp2_with fail
    refine (hZ _).mono ?_
    rintro e w1 ⟨rfl, hb1⟩
    have k1 := k0.call hb1
    have r1 := r0.call hb1
    have bb := bl_call (bl_alloc (bl_alloc (bl_refl w) (.cells #[.bool b, .int .u64 hi, .int .u64 lo] 108)) (.cells #[.bool false, .int .u64 0, .int .u64 0] 108)) hb1
    obtain ⟨x0, x1, x2, _, _, _⟩ := k1.c3
    obtain ⟨y0, y1, y2, z0, z1, z2⟩ := r1.c3
    have hl := r1.lt
    go_wp2_with fail
    exact bodyPost_ret (results_cell_row rfl _ _ (w.heap.size + 1) _ #[.bool b, .int .u64 hi, .int .u64 lo] (0, 0) _ rfl (((r1.set_ 0 (.bool b)).set_ 1 (.int .u64 hi)).set_ 2 (.int .u64 lo)) Try.underlying108 rfl (by kernel_rfl)) rfl
      ⟨_, rfl, ho, bl_set (bl_set (bl_set bb (by show w.heap.size ≤ w.heap.size + 1; omega) _) (by show w.heap.size ≤ w.heap.size + 1; omega) _) (by show w.heap.size ≤ w.heap.size + 1; omega) _⟩
  · have hq : (hi == 0 && lo == 0) = false := by rw [hz]; simp [hv]
    rw [if_neg hv] at ho
    have hZ := fun W => Dec.wzero_any b hi lo W
    rw [hq] at hZ
    go_enter Try.func75, Try.ntmps75
    go_wp2_with fail
    refine (hZ _).mono ?_
    rintro e w1 ⟨rfl, hb1⟩
    have k1 := k0.call hb1
    have r1 := r0.call hb1
    have bb := bl_call (bl_alloc (bl_alloc (bl_refl w) (.cells #[.bool b, .int .u64 hi, .int .u64 lo] 108)) (.cells #[.bool false, .int .u64 0, .int .u64 0] 108)) hb1
    obtain ⟨x0, x1, x2, _, _, _⟩ := k1.c3
    obtain ⟨y0, y1, y2, z0, z1, z2⟩ := r1.c3
    have hl := r1.lt
    go_wp2_with fail
    exact bodyPost_ret (results_cell_row rfl _ _ (w.heap.size + 1) _ #[.bool (!b), .int .u64 hi, .int .u64 lo] (0, 0) _ rfl (((r1.set_ 0 (.bool (!b))).set_ 1 (.int .u64 hi)).set_ 2 (.int .u64 lo)) Try.underlying108 rfl (by kernel_rfl)) rfl
      ⟨_, rfl, ho, bl_set (bl_set (bl_set bb (by show w.heap.size ≤ w.heap.size + 1; omega) _) (by show w.heap.size ≤ w.heap.size + 1; omega) _) (by show w.heap.size ≤ w.heap.size + 1; omega) _⟩
set_option maxHeartbeats 4000000 in
theorem wsize_any (a b : Bool) (ah al bh bl : Int) (r : Bool) (w : World) (hr : r = decide (ah < bh ∨ (ah = bh ∧ al < bl))) :
    Calls Try.prog 79 #[.agg #[.bool a, .int .u64 ah, .int .u64 al], .agg #[.bool b, .int .u64 bh, .int .u64 bl]] w fun e w' => e = .returned (.bool r) ∧ Below w.heap.size w w' := by
  subst hr
  rcases Int.lt_trichotomy ah bh with h | h | h
  · have e : decide (ah < bh ∨ (ah = bh ∧ al < bl)) = true := by simp [h]
    rw [e]
    go_enter Try.func79, Try.ntmps79
    go_wp2_with fail
    go_ret
    exact ⟨rfl, bl_alloc (bl_alloc (bl_refl w) _) _⟩
  · subst h
    have e : decide (ah < ah ∨ (ah = ah ∧ al < bl)) = decide (al < bl) := by simp
    rw [e]
    go_enter Try.func79, Try.ntmps79
    go_wp2_with fail
    go_ret
    exact ⟨rfl, bl_alloc (bl_alloc (bl_refl w) _) _⟩
  · have e : decide (ah < bh ∨ (ah = bh ∧ al < bl)) = false := by simp; omega
    have hne : (ah == bh) = false := by rw [beq_eq_false_iff_ne]; omega
    rw [e]
    go_enter Try.func79, Try.ntmps79
    go_wp2_with fail
    go_ret
    exact ⟨ret_bool (by simp; omega), bl_alloc (bl_alloc (bl_refl w) _) _⟩
set_option maxHeartbeats 4000000 in
theorem wminus_any (b c : Bool) (ah al bh bl hi lo : Int) (w : World) (a1 : 0 ≤ al) (a2 : al < 18446744073709551616) (b0 : 0 ≤ bh) (b1 : 0 ≤ bl) (b2 : bl < 18446744073709551616) (a3 : ah < 9223372036854775808)
    (l0 : 0 ≤ lo) (l1 : lo < 18446744073709551616) (h0 : 0 ≤ hi) (hv : hi * 18446744073709551616 + lo = ah * 18446744073709551616 + al - (bh * 18446744073709551616 + bl)) :
    Calls Try.prog 80 #[.agg #[.bool b, .int .u64 ah, .int .u64 al], .agg #[.bool c, .int .u64 bh, .int .u64 bl]] w fun e w' => e = .returned (.agg #[.bool false, .int .u64 hi, .int .u64 lo]) ∧ Below w.heap.size w w' := by
  have hw1 : IntKind.u64.wrap (al - bl) = lo := by rw [IntKind.wrap_u64]; omega
  by_cases hc : al < bl
  · have hx : ah - bh = hi + 1 := by omega
    have hw2 : IntKind.u64.wrap (ah - bh) = hi + 1 := by rw [IntKind.wrap_u64]; omega
    have hw3 : IntKind.u64.wrap hi = hi := by rw [IntKind.wrap_u64]; omega
    clear hv hx
    go_enter Try.func80, Try.ntmps80
    go_wp2_with fail
    exact bodyPost_ret (results_cell_row rfl _ _ (w.heap.size + 1 + 1) _ #[.bool false, .int .u64 hi, .int .u64 lo] (0, 0) _ rfl (by have hz := Dec.Blk.new2 (w.alloc (.cells #[.bool b, .int .u64 ah, .int .u64 al] 108)) (.cells #[.bool c, .int .u64 bh, .int .u64 bl] 108) 108 #[.bool false, .int .u64 hi, .int .u64 lo]; rwa [Dec.size_alloc] at hz) Try.underlying108 rfl (by kernel_rfl)) rfl ⟨rfl, bl_alloc (bl_alloc (bl_alloc (bl_refl w) _) _) _⟩
  · have hx : ah - bh = hi := by omega
    have hw2 : IntKind.u64.wrap (ah - bh) = hi := by rw [IntKind.wrap_u64]; omega
    clear hv hx
    go_enter Try.func80, Try.ntmps80
    go_wp2_with fail
    exact bodyPost_ret (results_cell_row rfl _ _ (w.heap.size + 1 + 1) _ #[.bool false, .int .u64 hi, .int .u64 lo] (0, 0) _ rfl (by have hz := Dec.Blk.new2 (w.alloc (.cells #[.bool b, .int .u64 ah, .int .u64 al] 108)) (.cells #[.bool c, .int .u64 bh, .int .u64 bl] 108) 108 #[.bool false, .int .u64 hi, .int .u64 lo]; rwa [Dec.size_alloc] at hz) Try.underlying108 rfl (by kernel_rfl)) rfl ⟨rfl, bl_alloc (bl_alloc (bl_alloc (bl_refl w) _) _) _⟩
end Go.Proofs.Ytcgkfgklggjmaaa.Par
end
section
namespace Go.Proofs.Ytcgkfgklggjmaaa.Par
set_option linter.unusedVariables false
set_option linter.unusedSimpArgs false
open Go.RowKit
set_option maxHeartbeats 16000000 in
set_option maxRecDepth 100000 in
theorem wadd_pp (ah al bh bl hi lo : Int) (w : World) 
    (hop : ∀ W, Calls Try.prog 77 #[.agg #[.bool false, .int .u64 ah, .int .u64 al], .agg #[.bool false, .int .u64 bh, .int .u64 bl]] W fun e w' => e = .returned (.agg #[.bool false, .int .u64 hi, .int .u64 lo]) ∧ Below W.heap.size W w') :
    Calls Try.prog 57 #[.agg #[.bool false, .int .u64 ah, .int .u64 al], .agg #[.bool false, .int .u64 bh, .int .u64 bl]] w fun e w' => e = .returned (.agg #[.bool false, .int .u64 hi, .int .u64 lo]) ∧ Below w.heap.size w w' := by
  have ka := ((Blk.new w 108 #[.bool false, .int .u64 ah, .int .u64 al]).alloc (.cells #[.bool false, .int .u64 bh, .int .u64 bl] 108)).alloc (.cells #[.bool false, .int .u64 0, .int .u64 0] 108)
  have kb := (Dec.Blk.new2 w (.cells #[.bool false, .int .u64 ah, .int .u64 al] 108) 108 #[.bool false, .int .u64 bh, .int .u64 bl]).alloc (.cells #[.bool false, .int .u64 0, .int .u64 0] 108)
  have kr := Dec.Blk.new2 (w.alloc (.cells #[.bool false, .int .u64 ah, .int .u64 al] 108)) (.cells #[.bool false, .int .u64 bh, .int .u64 bl] 108) 108 #[.bool false, .int .u64 0, .int .u64 0]
  rw [World.size_alloc] at kr
  have b0 := bl_alloc (bl_alloc (bl_alloc (bl_refl w) (.cells #[.bool false, .int .u64 ah, .int .u64 al] 108)) (.cells #[.bool false, .int .u64 bh, .int .u64 bl] 108)) (.cells #[.bool false, .int .u64 0, .int .u64 0] 108)
  replace hop := Lib.hid hop
  obtain ⟨x0, x1, x2, _, _, _⟩ := ka.c3
  obtain ⟨v0, v1, v2, _, _, _⟩ := kb.c3
  go_enter Try.func57, Try.ntmps57
  go_wp2_with fail
  refine (hop.out _).mono ?_
  rintro e w1 ⟨rfl, hb1⟩
  have ka1 := ka.call hb1
  have kb1 := kb.call hb1
  have kr1 := kr.call hb1
  have b1 := bl_call b0 hb1
  have la := ka1.lt
  have lb := kb1.lt
  have lr := kr1.lt
  clear x0 x1 x2 v0 v1 v2 ka kb kr b0 hop
  obtain ⟨x0, x1, x2, _, _, _⟩ := ka1.c3
  obtain ⟨v0, v1, v2, _, _, _⟩ := kb1.c3
  obtain ⟨r0, r1, r2, s0, s1, s2⟩ := kr1.c3
  have kx := Blk.new w1 108 #[.bool false, .int .u64 hi, .int .u64 lo]
  obtain ⟨y0, y1, y2, t0, t1, t2⟩ := kx.c3
  go_wp2_with fail
  exact bodyPost_ret (results_cell_row rfl _ _ (w.heap.size + 1 + 1) _ #[.bool false, .int .u64 hi, .int .u64 lo] (0, 0) _ rfl ((((kr1.set_ 0 (.bool false)).set_ 1 (.int .u64 hi)).set_ 2 (.int .u64 lo)).alloc _) Try.underlying108 rfl (by kernel_rfl)) rfl
    ⟨rfl, bl_alloc (bl_set (bl_set (bl_set b1 (by show w.heap.size ≤ w.heap.size + 1 + 1; omega) _) (by show w.heap.size ≤ w.heap.size + 1 + 1; omega) _) (by show w.heap.size ≤ w.heap.size + 1 + 1; omega) _) _⟩
set_option maxHeartbeats 16000000 in
set_option maxRecDepth 100000 in
theorem wadd_nn (ah al bh bl hi lo : Int) (w : World) 
    (hop : ∀ W, Calls Try.prog 77 #[.agg #[.bool true, .int .u64 ah, .int .u64 al], .agg #[.bool true, .int .u64 bh, .int .u64 bl]] W fun e w' => e = .returned (.agg #[.bool false, .int .u64 hi, .int .u64 lo]) ∧ Below W.heap.size W w') (hz : (hi == 0 && lo == 0) = false) :
    Calls Try.prog 57 #[.agg #[.bool true, .int .u64 ah, .int .u64 al], .agg #[.bool true, .int .u64 bh, .int .u64 bl]] w fun e w' => e = .returned (.agg #[.bool true, .int .u64 hi, .int .u64 lo]) ∧ Below w.heap.size w w' := by
  have ka := ((Blk.new w 108 #[.bool true, .int .u64 ah, .int .u64 al]).alloc (.cells #[.bool true, .int .u64 bh, .int .u64 bl] 108)).alloc (.cells #[.bool false, .int .u64 0, .int .u64 0] 108)
  have kb := (Dec.Blk.new2 w (.cells #[.bool true, .int .u64 ah, .int .u64 al] 108) 108 #[.bool true, .int .u64 bh, .int .u64 bl]).alloc (.cells #[.bool false, .int .u64 0, .int .u64 0] 108)
  have kr := Dec.Blk.new2 (w.alloc (.cells #[.bool true, .int .u64 ah, .int .u64 al] 108)) (.cells #[.bool true, .int .u64 bh, .int .u64 bl] 108) 108 #[.bool false, .int .u64 0, .int .u64 0]
  rw [World.size_alloc] at kr
  have b0 := bl_alloc (bl_alloc (bl_alloc (bl_refl w) (.cells #[.bool true, .int .u64 ah, .int .u64 al] 108)) (.cells #[.bool true, .int .u64 bh, .int .u64 bl] 108)) (.cells #[.bool false, .int .u64 0, .int .u64 0] 108)
  have hZ := Lib.hid (fun W => Dec.wzero_any false hi lo W)
  rw [hz] at hZ
  clear hz
  replace hop := Lib.hid hop
  obtain ⟨x0, x1, x2, _, _, _⟩ := ka.c3
  obtain ⟨v0, v1, v2, _, _, _⟩ := kb.c3
  go_enter Try.func57, Try.ntmps57
  go_wp2_with fail
  refine (hop.out _).mono ?_
  rintro e w1 ⟨rfl, hb1⟩
  have ka1 := ka.call hb1
  have kb1 := kb.call hb1
  have kr1 := kr.call hb1
  have b1 := bl_call b0 hb1
  have la := ka1.lt
  have lb := kb1.lt
  have lr := kr1.lt
  clear x0 x1 x2 v0 v1 v2 ka kb kr b0 hop
  obtain ⟨x0, x1, x2, _, _, _⟩ := ka1.c3
  obtain ⟨v0, v1, v2, _, _, _⟩ := kb1.c3
  obtain ⟨r0, r1, r2, s0, s1, s2⟩ := kr1.c3
  have kx := Blk.new w1 108 #[.bool false, .int .u64 hi, .int .u64 lo]
  obtain ⟨y0, y1, y2, t0, t1, t2⟩ := kx.c3
  go_wp2_with fail
  refine (hZ.out _).mono ?_
  rintro e w2 ⟨rfl, hb2⟩
  have kr2 := (kr1.alloc (.cells #[.bool false, .int .u64 hi, .int .u64 lo] 108)).call hb2
  have kx2 := kx.call hb2
  have b2 := bl_call (bl_alloc b1 (.cells #[.bool false, .int .u64 hi, .int .u64 lo] 108)) hb2
  have lx2 := kx2.lt
  have lr2 := kr2.lt
  have hle := b1.size
  clear r0 r1 r2 s0 s1 s2 y0 y1 y2 t0 t1 t2 x0 x1 x2 v0 v1 v2 hZ
  obtain ⟨r0, r1, r2, s0, s1, s2⟩ := kr2.c3
  obtain ⟨y0, y1, y2, t0, t1, t2⟩ := kx2.c3
  go_wp2_with fail
  exact bodyPost_ret (results_cell_row rfl _ _ (w.heap.size + 1 + 1) _ #[.bool true, .int .u64 hi, .int .u64 lo] (0, 0) _ rfl (((((kr2.far (p := ⟨w1.heap.size, 0, none⟩) (by (try dsimp only); omega) (.bool true)).set_ 0 (.bool true)).set_ 1 (.int .u64 hi)).set_ 2 (.int .u64 lo))) Try.underlying108 rfl (by kernel_rfl)) rfl
    ⟨rfl, bl_set (bl_set (bl_set (bl_set b2 (by (try dsimp only); omega) _) (by show w.heap.size ≤ w.heap.size + 1 + 1; omega) _) (by show w.heap.size ≤ w.heap.size + 1 + 1; omega) _) (by show w.heap.size ≤ w.heap.size + 1 + 1; omega) _⟩
set_option maxHeartbeats 16000000 in
set_option maxRecDepth 100000 in
theorem wadd_ba_p (ah al bh bl hi lo : Int) (w : World) 
    (hop : ∀ W, Calls Try.prog 80 #[.agg #[.bool false, .int .u64 bh, .int .u64 bl], .agg #[.bool true, .int .u64 ah, .int .u64 al]] W fun e w' => e = .returned (.agg #[.bool false, .int .u64 hi, .int .u64 lo]) ∧ Below W.heap.size W w')
    (hsz : ∀ W, Calls Try.prog 79 #[.agg #[.bool true, .int .u64 ah, .int .u64 al], .agg #[.bool false, .int .u64 bh, .int .u64 bl]] W fun e w' => e = .returned (.bool true) ∧ Below W.heap.size W w') :
    Calls Try.prog 57 #[.agg #[.bool true, .int .u64 ah, .int .u64 al], .agg #[.bool false, .int .u64 bh, .int .u64 bl]] w fun e w' => e = .returned (.agg #[.bool false, .int .u64 hi, .int .u64 lo]) ∧ Below w.heap.size w w' := by
  have ka := ((Blk.new w 108 #[.bool true, .int .u64 ah, .int .u64 al]).alloc (.cells #[.bool false, .int .u64 bh, .int .u64 bl] 108)).alloc (.cells #[.bool false, .int .u64 0, .int .u64 0] 108)
  have kb := (Dec.Blk.new2 w (.cells #[.bool true, .int .u64 ah, .int .u64 al] 108) 108 #[.bool false, .int .u64 bh, .int .u64 bl]).alloc (.cells #[.bool false, .int .u64 0, .int .u64 0] 108)
  have kr := Dec.Blk.new2 (w.alloc (.cells #[.bool true, .int .u64 ah, .int .u64 al] 108)) (.cells #[.bool false, .int .u64 bh, .int .u64 bl] 108) 108 #[.bool false, .int .u64 0, .int .u64 0]
  rw [World.size_alloc] at kr
  have b0 := bl_alloc (bl_alloc (bl_alloc (bl_refl w) (.cells #[.bool true, .int .u64 ah, .int .u64 al] 108)) (.cells #[.bool false, .int .u64 bh, .int .u64 bl] 108)) (.cells #[.bool false, .int .u64 0, .int .u64 0] 108)
  replace hop := Lib.hid hop
  replace hsz := Lib.hid hsz
  obtain ⟨x0, x1, x2, _, _, _⟩ := ka.c3
  obtain ⟨v0, v1, v2, _, _, _⟩ := kb.c3
  go_enter Try.func57, Try.ntmps57
  go_wp2_with fail
  refine (hsz.out _).mono ?_
  rintro e w0 ⟨rfl, hb0⟩
  replace ka := ka.call hb0
  replace kb := kb.call hb0
  replace kr := kr.call hb0
  replace b0 := bl_call b0 hb0
  clear x0 x1 x2 v0 v1 v2
  obtain ⟨x0, x1, x2, _, _, _⟩ := ka.c3
  obtain ⟨v0, v1, v2, _, _, _⟩ := kb.c3
  go_wp2_with fail
  refine (hop.out _).mono ?_
  rintro e w1 ⟨rfl, hb1⟩
  have ka1 := ka.call hb1
  have kb1 := kb.call hb1
  have kr1 := kr.call hb1
  have b1 := bl_call b0 hb1
  have la := ka1.lt
  have lb := kb1.lt
  have lr := kr1.lt
  clear x0 x1 x2 v0 v1 v2 ka kb kr b0 hop
  obtain ⟨x0, x1, x2, _, _, _⟩ := ka1.c3
  obtain ⟨v0, v1, v2, _, _, _⟩ := kb1.c3
  obtain ⟨r0, r1, r2, s0, s1, s2⟩ := kr1.c3
  have kx := Blk.new w1 108 #[.bool false, .int .u64 hi, .int .u64 lo]
  obtain ⟨y0, y1, y2, t0, t1, t2⟩ := kx.c3
  go_wp2_with fail
  exact bodyPost_ret (results_cell_row rfl _ _ (w.heap.size + 1 + 1) _ #[.bool false, .int .u64 hi, .int .u64 lo] (0, 0) _ rfl ((((kr1.set_ 0 (.bool false)).set_ 1 (.int .u64 hi)).set_ 2 (.int .u64 lo)).alloc _) Try.underlying108 rfl (by kernel_rfl)) rfl
    ⟨rfl, bl_alloc (bl_set (bl_set (bl_set b1 (by show w.heap.size ≤ w.heap.size + 1 + 1; omega) _) (by show w.heap.size ≤ w.heap.size + 1 + 1; omega) _) (by show w.heap.size ≤ w.heap.size + 1 + 1; omega) _) _⟩
set_option maxHeartbeats 16000000 in
set_option maxRecDepth 100000 in
theorem wadd_ba_n (ah al bh bl hi lo : Int) (w : World) 
    (hop : ∀ W, Calls Try.prog 80 #[.agg #[.bool true, .int .u64 bh, .int .u64 bl], .agg #[.bool false, .int .u64 ah, .int .u64 al]] W fun e w' => e = .returned (.agg #[.bool false, .int .u64 hi, .int .u64 lo]) ∧ Below W.heap.size W w')
    (hsz : ∀ W, Calls Try.prog 79 #[.agg #[.bool false, .int .u64 ah, .int .u64 al], .agg #[.bool true, .int .u64 bh, .int .u64 bl]] W fun e w' => e = .returned (.bool true) ∧ Below W.heap.size W w') (hz : (hi == 0 && lo == 0) = false) :
    Calls Try.prog 57 #[.agg #[.bool false, .int .u64 ah, .int .u64 al], .agg #[.bool true, .int .u64 bh, .int .u64 bl]] w fun e w' => e = .returned (.agg #[.bool true, .int .u64 hi, .int .u64 lo]) ∧ Below w.heap.size w w' := by
  have ka := ((Blk.new w 108 #[.bool false, .int .u64 ah, .int .u64 al]).alloc (.cells #[.bool true, .int .u64 bh, .int .u64 bl] 108)).alloc (.cells #[.bool false, .int .u64 0, .int .u64 0] 108)
  have kb := (Dec.Blk.new2 w (.cells #[.bool false, .int .u64 ah, .int .u64 al] 108) 108 #[.bool true, .int .u64 bh, .int .u64 bl]).alloc (.cells #[.bool false, .int .u64 0, .int .u64 0] 108)
  have kr := Dec.Blk.new2 (w.alloc (.cells #[.bool false, .int .u64 ah, .int .u64 al] 108)) (.cells #[.bool true, .int .u64 bh, .int .u64 bl] 108) 108 #[.bool false, .int .u64 0, .int .u64 0]
  rw [World.size_alloc] at kr
  have b0 := bl_alloc (bl_alloc (bl_alloc (bl_refl w) (.cells #[.bool false, .int .u64 ah, .int .u64 al] 108)) (.cells #[.bool true, .int .u64 bh, .int .u64 bl] 108)) (.cells #[.bool false, .int .u64 0, .int .u64 0] 108)
  have hZ := Lib.hid (fun W => Dec.wzero_any false hi lo W)
  rw [hz] at hZ
  clear hz
  replace hop := Lib.hid hop
  replace hsz := Lib.hid hsz
  obtain ⟨x0, x1, x2, _, _, _⟩ := ka.c3
  obtain ⟨v0, v1, v2, _, _, _⟩ := kb.c3
  go_enter Try.func57, Try.ntmps57
  go_wp2_with fail
  refine (hsz.out _).mono ?_
  rintro e w0 ⟨rfl, hb0⟩
  replace ka := ka.call hb0
  replace kb := kb.call hb0
  replace kr := kr.call hb0
  replace b0 := bl_call b0 hb0
  clear x0 x1 x2 v0 v1 v2
  obtain ⟨x0, x1, x2, _, _, _⟩ := ka.c3
  obtain ⟨v0, v1, v2, _, _, _⟩ := kb.c3
  go_wp2_with fail
  refine (hop.out _).mono ?_
  rintro e w1 ⟨rfl, hb1⟩
  have ka1 := ka.call hb1
  have kb1 := kb.call hb1
  have kr1 := kr.call hb1
  have b1 := bl_call b0 hb1
  have la := ka1.lt
  have lb := kb1.lt
  have lr := kr1.lt
  clear x0 x1 x2 v0 v1 v2 ka kb kr b0 hop
  obtain ⟨x0, x1, x2, _, _, _⟩ := ka1.c3
  obtain ⟨v0, v1, v2, _, _, _⟩ := kb1.c3
  obtain ⟨r0, r1, r2, s0, s1, s2⟩ := kr1.c3
  have kx := Blk.new w1 108 #[.bool false, .int .u64 hi, .int .u64 lo]
  obtain ⟨y0, y1, y2, t0, t1, t2⟩ := kx.c3
  go_wp2_with fail
  refine (hZ.out _).mono ?_
  rintro e w2 ⟨rfl, hb2⟩
  have kr2 := (kr1.alloc (.cells #[.bool false, .int .u64 hi, .int .u64 lo] 108)).call hb2
  have kx2 := kx.call hb2
  have b2 := bl_call (bl_alloc b1 (.cells #[.bool false, .int .u64 hi, .int .u64 lo] 108)) hb2
  have lx2 := kx2.lt
  have lr2 := kr2.lt
  have hle := b1.size
  clear r0 r1 r2 s0 s1 s2 y0 y1 y2 t0 t1 t2 x0 x1 x2 v0 v1 v2 hZ
  obtain ⟨r0, r1, r2, s0, s1, s2⟩ := kr2.c3
  obtain ⟨y0, y1, y2, t0, t1, t2⟩ := kx2.c3
  go_wp2_with fail
  exact bodyPost_ret (results_cell_row rfl _ _ (w.heap.size + 1 + 1) _ #[.bool true, .int .u64 hi, .int .u64 lo] (0, 0) _ rfl (((((kr2.far (p := ⟨w1.heap.size, 0, none⟩) (by (try dsimp only); omega) (.bool true)).set_ 0 (.bool true)).set_ 1 (.int .u64 hi)).set_ 2 (.int .u64 lo))) Try.underlying108 rfl (by kernel_rfl)) rfl
    ⟨rfl, bl_set (bl_set (bl_set (bl_set b2 (by (try dsimp only); omega) _) (by show w.heap.size ≤ w.heap.size + 1 + 1; omega) _) (by show w.heap.size ≤ w.heap.size + 1 + 1; omega) _) (by show w.heap.size ≤ w.heap.size + 1 + 1; omega) _⟩
set_option maxHeartbeats 16000000 in
set_option maxRecDepth 100000 in
theorem wadd_ab_p (ah al bh bl hi lo : Int) (w : World) 
    (hop : ∀ W, Calls Try.prog 80 #[.agg #[.bool false, .int .u64 ah, .int .u64 al], .agg #[.bool true, .int .u64 bh, .int .u64 bl]] W fun e w' => e = .returned (.agg #[.bool false, .int .u64 hi, .int .u64 lo]) ∧ Below W.heap.size W w')
    (hsz : ∀ W, Calls Try.prog 79 #[.agg #[.bool false, .int .u64 ah, .int .u64 al], .agg #[.bool true, .int .u64 bh, .int .u64 bl]] W fun e w' => e = .returned (.bool false) ∧ Below W.heap.size W w') :
    Calls Try.prog 57 #[.agg #[.bool false, .int .u64 ah, .int .u64 al], .agg #[.bool true, .int .u64 bh, .int .u64 bl]] w fun e w' => e = .returned (.agg #[.bool false, .int .u64 hi, .int .u64 lo]) ∧ Below w.heap.size w w' := by
  have ka := ((Blk.new w 108 #[.bool false, .int .u64 ah, .int .u64 al]).alloc (.cells #[.bool true, .int .u64 bh, .int .u64 bl] 108)).alloc (.cells #[.bool false, .int .u64 0, .int .u64 0] 108)
  have kb := (Dec.Blk.new2 w (.cells #[.bool false, .int .u64 ah, .int .u64 al] 108) 108 #[.bool true, .int .u64 bh, .int .u64 bl]).alloc (.cells #[.bool false, .int .u64 0, .int .u64 0] 108)
  have kr := Dec.Blk.new2 (w.alloc (.cells #[.bool false, .int .u64 ah, .int .u64 al] 108)) (.cells #[.bool true, .int .u64 bh, .int .u64 bl] 108) 108 #[.bool false, .int .u64 0, .int .u64 0]
  rw [World.size_alloc] at kr
  have b0 := bl_alloc (bl_alloc (bl_alloc (bl_refl w) (.cells #[.bool false, .int .u64 ah, .int .u64 al] 108)) (.cells #[.bool true, .int .u64 bh, .int .u64 bl] 108)) (.cells #[.bool false, .int .u64 0, .int .u64 0] 108)
  replace hop := Lib.hid hop
  replace hsz := Lib.hid hsz
  obtain ⟨x0, x1, x2, _, _, _⟩ := ka.c3
  obtain ⟨v0, v1, v2, _, _, _⟩ := kb.c3
  go_enter Try.func57, Try.ntmps57
  go_wp2_with fail
  refine (hsz.out _).mono ?_
  rintro e w0 ⟨rfl, hb0⟩
  replace ka := ka.call hb0
  replace kb := kb.call hb0
  replace kr := kr.call hb0
  replace b0 := bl_call b0 hb0
  clear x0 x1 x2 v0 v1 v2
  obtain ⟨x0, x1, x2, _, _, _⟩ := ka.c3
  obtain ⟨v0, v1, v2, _, _, _⟩ := kb.c3
  go_wp2_with fail
  refine (hop.out _).mono ?_
  rintro e w1 ⟨rfl, hb1⟩
  have ka1 := ka.call hb1
  have kb1 := kb.call hb1
  have kr1 := kr.call hb1
  have b1 := bl_call b0 hb1
  have la := ka1.lt
  have lb := kb1.lt
  have lr := kr1.lt
  clear x0 x1 x2 v0 v1 v2 ka kb kr b0 hop
  obtain ⟨x0, x1, x2, _, _, _⟩ := ka1.c3
  obtain ⟨v0, v1, v2, _, _, _⟩ := kb1.c3
  obtain ⟨r0, r1, r2, s0, s1, s2⟩ := kr1.c3
  have kx := Blk.new w1 108 #[.bool false, .int .u64 hi, .int .u64 lo]
  obtain ⟨y0, y1, y2, t0, t1, t2⟩ := kx.c3
  go_wp2_with fail
  exact bodyPost_ret (results_cell_row rfl _ _ (w.heap.size + 1 + 1) _ #[.bool false, .int .u64 hi, .int .u64 lo] (0, 0) _ rfl ((((kr1.set_ 0 (.bool false)).set_ 1 (.int .u64 hi)).set_ 2 (.int .u64 lo)).alloc _) Try.underlying108 rfl (by kernel_rfl)) rfl
    ⟨rfl, bl_alloc (bl_set (bl_set (bl_set b1 (by show w.heap.size ≤ w.heap.size + 1 + 1; omega) _) (by show w.heap.size ≤ w.heap.size + 1 + 1; omega) _) (by show w.heap.size ≤ w.heap.size + 1 + 1; omega) _) _⟩
set_option maxHeartbeats 16000000 in
set_option maxRecDepth 100000 in
theorem wadd_ab_n (ah al bh bl hi lo : Int) (w : World) 
    (hop : ∀ W, Calls Try.prog 80 #[.agg #[.bool true, .int .u64 ah, .int .u64 al], .agg #[.bool false, .int .u64 bh, .int .u64 bl]] W fun e w' => e = .returned (.agg #[.bool false, .int .u64 hi, .int .u64 lo]) ∧ Below W.heap.size W w')
    (hsz : ∀ W, Calls Try.prog 79 #[.agg #[.bool true, .int .u64 ah, .int .u64 al], .agg #[.bool false, .int .u64 bh, .int .u64 bl]] W fun e w' => e = .returned (.bool false) ∧ Below W.heap.size W w') (hz : (hi == 0 && lo == 0) = false) :
    Calls Try.prog 57 #[.agg #[.bool true, .int .u64 ah, .int .u64 al], .agg #[.bool false, .int .u64 bh, .int .u64 bl]] w fun e w' => e = .returned (.agg #[.bool true, .int .u64 hi, .int .u64 lo]) ∧ Below w.heap.size w w' := by
  have ka := ((Blk.new w 108 #[.bool true, .int .u64 ah, .int .u64 al]).alloc (.cells #[.bool false, .int .u64 bh, .int .u64 bl] 108)).alloc (.cells #[.bool false, .int .u64 0, .int .u64 0] 108)
  have kb := (Dec.Blk.new2 w (.cells #[.bool true, .int .u64 ah, .int .u64 al] 108) 108 #[.bool false, .int .u64 bh, .int .u64 bl]).alloc (.cells #[.bool false, .int .u64 0, .int .u64 0] 108)
  have kr := Dec.Blk.new2 (w.alloc (.cells #[.bool true, .int .u64 ah, .int .u64 al] 108)) (.cells #[.bool false, .int .u64 bh, .int .u64 bl] 108) 108 #[.bool false, .int .u64 0, .int .u64 0]
  rw [World.size_alloc] at kr
  have b0 := bl_alloc (bl_alloc (bl_alloc (bl_refl w) (.cells #[.bool true, .int .u64 ah, .int .u64 al] 108)) (.cells #[.bool false, .int .u64 bh, .int .u64 bl] 108)) (.cells #[.bool false, .int .u64 0, .int .u64 0] 108)
  have hZ := Lib.hid (fun W => Dec.wzero_any false hi lo W)
  rw [hz] at hZ
  clear hz
  replace hop := Lib.hid hop
  replace hsz := Lib.hid hsz
  obtain ⟨x0, x1, x2, _, _, _⟩ := ka.c3
  obtain ⟨v0, v1, v2, _, _, _⟩ := kb.c3
  go_enter Try.func57, Try.ntmps57
  go_wp2_with fail
  refine (hsz.out _).mono ?_
  rintro e w0 ⟨rfl, hb0⟩
  replace ka := ka.call hb0
  replace kb := kb.call hb0
  replace kr := kr.call hb0
  replace b0 := bl_call b0 hb0
  clear x0 x1 x2 v0 v1 v2
  obtain ⟨x0, x1, x2, _, _, _⟩ := ka.c3
  obtain ⟨v0, v1, v2, _, _, _⟩ := kb.c3
  go_wp2_with fail
  refine (hop.out _).mono ?_
  rintro e w1 ⟨rfl, hb1⟩
  have ka1 := ka.call hb1
  have kb1 := kb.call hb1
  have kr1 := kr.call hb1
  have b1 := bl_call b0 hb1
  have la := ka1.lt
  have lb := kb1.lt
  have lr := kr1.lt
  clear x0 x1 x2 v0 v1 v2 ka kb kr b0 hop
  obtain ⟨x0, x1, x2, _, _, _⟩ := ka1.c3
  obtain ⟨v0, v1, v2, _, _, _⟩ := kb1.c3
  obtain ⟨r0, r1, r2, s0, s1, s2⟩ := kr1.c3
  have kx := Blk.new w1 108 #[.bool false, .int .u64 hi, .int .u64 lo]
  obtain ⟨y0, y1, y2, t0, t1, t2⟩ := kx.c3
  go_wp2_with fail
  refine (hZ.out _).mono ?_
  rintro e w2 ⟨rfl, hb2⟩
  have kr2 := (kr1.alloc (.cells #[.bool false, .int .u64 hi, .int .u64 lo] 108)).call hb2
  have kx2 := kx.call hb2
  have b2 := bl_call (bl_alloc b1 (.cells #[.bool false, .int .u64 hi, .int .u64 lo] 108)) hb2
  have lx2 := kx2.lt
  have lr2 := kr2.lt
  have hle := b1.size
  clear r0 r1 r2 s0 s1 s2 y0 y1 y2 t0 t1 t2 x0 x1 x2 v0 v1 v2 hZ
  obtain ⟨r0, r1, r2, s0, s1, s2⟩ := kr2.c3
  obtain ⟨y0, y1, y2, t0, t1, t2⟩ := kx2.c3
  go_wp2_with fail
  exact bodyPost_ret (results_cell_row rfl _ _ (w.heap.size + 1 + 1) _ #[.bool true, .int .u64 hi, .int .u64 lo] (0, 0) _ rfl (((((kr2.far (p := ⟨w1.heap.size, 0, none⟩) (by (try dsimp only); omega) (.bool true)).set_ 0 (.bool true)).set_ 1 (.int .u64 hi)).set_ 2 (.int .u64 lo))) Try.underlying108 rfl (by kernel_rfl)) rfl
    ⟨rfl, bl_set (bl_set (bl_set (bl_set b2 (by (try dsimp only); omega) _) (by show w.heap.size ≤ w.heap.size + 1 + 1; omega) _) (by show w.heap.size ≤ w.heap.size + 1 + 1; omega) _) (by show w.heap.size ≤ w.heap.size + 1 + 1; omega) _⟩
set_option maxHeartbeats 16000000 in
set_option maxRecDepth 100000 in
theorem wadd_ab_z (ah al bh bl hi lo : Int) (w : World) 
    (hop : ∀ W, Calls Try.prog 80 #[.agg #[.bool true, .int .u64 ah, .int .u64 al], .agg #[.bool false, .int .u64 bh, .int .u64 bl]] W fun e w' => e = .returned (.agg #[.bool false, .int .u64 hi, .int .u64 lo]) ∧ Below W.heap.size W w')
    (hsz : ∀ W, Calls Try.prog 79 #[.agg #[.bool true, .int .u64 ah, .int .u64 al], .agg #[.bool false, .int .u64 bh, .int .u64 bl]] W fun e w' => e = .returned (.bool false) ∧ Below W.heap.size W w') (hz : (hi == 0 && lo == 0) = true) :
    Calls Try.prog 57 #[.agg #[.bool true, .int .u64 ah, .int .u64 al], .agg #[.bool false, .int .u64 bh, .int .u64 bl]] w fun e w' => e = .returned (.agg #[.bool false, .int .u64 hi, .int .u64 lo]) ∧ Below w.heap.size w w' := by
  have ka := ((Blk.new w 108 #[.bool true, .int .u64 ah, .int .u64 al]).alloc (.cells #[.bool false, .int .u64 bh, .int .u64 bl] 108)).alloc (.cells #[.bool false, .int .u64 0, .int .u64 0] 108)
  have kb := (Dec.Blk.new2 w (.cells #[.bool true, .int .u64 ah, .int .u64 al] 108) 108 #[.bool false, .int .u64 bh, .int .u64 bl]).alloc (.cells #[.bool false, .int .u64 0, .int .u64 0] 108)
  have kr := Dec.Blk.new2 (w.alloc (.cells #[.bool true, .int .u64 ah, .int .u64 al] 108)) (.cells #[.bool false, .int .u64 bh, .int .u64 bl] 108) 108 #[.bool false, .int .u64 0, .int .u64 0]
  rw [World.size_alloc] at kr
  have b0 := bl_alloc (bl_alloc (bl_alloc (bl_refl w) (.cells #[.bool true, .int .u64 ah, .int .u64 al] 108)) (.cells #[.bool false, .int .u64 bh, .int .u64 bl] 108)) (.cells #[.bool false, .int .u64 0, .int .u64 0] 108)
  have hZ := Lib.hid (fun W => Dec.wzero_any false hi lo W)
  rw [hz] at hZ
  clear hz
  replace hop := Lib.hid hop
  replace hsz := Lib.hid hsz
  obtain ⟨x0, x1, x2, _, _, _⟩ := ka.c3
  obtain ⟨v0, v1, v2, _, _, _⟩ := kb.c3
  go_enter Try.func57, Try.ntmps57
  go_wp2_with fail
  refine (hsz.out _).mono ?_
  rintro e w0 ⟨rfl, hb0⟩
  replace ka := ka.call hb0
  replace kb := kb.call hb0
  replace kr := kr.call hb0
  replace b0 := bl_call b0 hb0
  clear x0 x1 x2 v0 v1 v2
  obtain ⟨x0, x1, x2, _, _, _⟩ := ka.c3
  obtain ⟨v0, v1, v2, _, _, _⟩ := kb.c3
  go_wp2_with fail
  refine (hop.out _).mono ?_
  rintro e w1 ⟨rfl, hb1⟩
  have ka1 := ka.call hb1
  have kb1 := kb.call hb1
  have kr1 := kr.call hb1
  have b1 := bl_call b0 hb1
  have la := ka1.lt
  have lb := kb1.lt
  have lr := kr1.lt
  clear x0 x1 x2 v0 v1 v2 ka kb kr b0 hop
  obtain ⟨x0, x1, x2, _, _, _⟩ := ka1.c3
  obtain ⟨v0, v1, v2, _, _, _⟩ := kb1.c3
  obtain ⟨r0, r1, r2, s0, s1, s2⟩ := kr1.c3
  have kx := Blk.new w1 108 #[.bool false, .int .u64 hi, .int .u64 lo]
  obtain ⟨y0, y1, y2, t0, t1, t2⟩ := kx.c3
  go_wp2_with fail
  refine (hZ.out _).mono ?_
  rintro e w2 ⟨rfl, hb2⟩
  have kr2 := (kr1.alloc (.cells #[.bool false, .int .u64 hi, .int .u64 lo] 108)).call hb2
  have kx2 := kx.call hb2
  have b2 := bl_call (bl_alloc b1 (.cells #[.bool false, .int .u64 hi, .int .u64 lo] 108)) hb2
  have lx2 := kx2.lt
  have lr2 := kr2.lt
  have hle := b1.size
  clear r0 r1 r2 s0 s1 s2 y0 y1 y2 t0 t1 t2 x0 x1 x2 v0 v1 v2 hZ
  obtain ⟨r0, r1, r2, s0, s1, s2⟩ := kr2.c3
  obtain ⟨y0, y1, y2, t0, t1, t2⟩ := kx2.c3
  go_wp2_with fail
  exact bodyPost_ret (results_cell_row rfl _ _ (w.heap.size + 1 + 1) _ #[.bool false, .int .u64 hi, .int .u64 lo] (0, 0) _ rfl (((((kr2.far (p := ⟨w1.heap.size, 0, none⟩) (by (try dsimp only); omega) (.bool false)).set_ 0 (.bool false)).set_ 1 (.int .u64 hi)).set_ 2 (.int .u64 lo))) Try.underlying108 rfl (by kernel_rfl)) rfl
    ⟨rfl, bl_set (bl_set (bl_set (bl_set b2 (by (try dsimp only); omega) _) (by show w.heap.size ≤ w.heap.size + 1 + 1; omega) _) (by show w.heap.size ≤ w.heap.size + 1 + 1; omega) _) (by show w.heap.size ≤ w.heap.size + 1 + 1; omega) _⟩
end Go.Proofs.Ytcgkfgklggjmaaa.Par
end
section
namespace Go.Proofs.Ytcgkfgklggjmaaa.Par
set_option linter.unusedVariables false
set_option linter.unusedSimpArgs false
open Go.RowKit
theorem WV.of {v : Int} {b : Bool} {hi lo : Int} (hb : b = decide (v < 0)) (h : hi * 18446744073709551616 + lo = (if v < 0 then -v else v)) (h1 : hi < 9223372036854775808) (l0 : 0 ≤ lo) (l1 : lo < 18446744073709551616) (h0 : 0 ≤ hi) : WV v b hi lo := ⟨hb, h, h0, h1, l0, l1⟩
def absI (v : Int) : Int := if v < 0 then -v else v
theorem wv_abs {v : Int} {b : Bool} {hi lo : Int} (h : WV v b hi lo) : hi * 18446744073709551616 + lo = absI v := h.abs
/-- the sum of two wide numbers that are far from 128 bits -/
theorem wadd9_any (a b : Int) (ab bb : Bool) (ah al bh bl : Int) (w : World) (ha : WV a ab ah al) (hb : WV b bb bh bl) (hs : absI a + absI b < 170141183460469231731687303715884105728) :
    ∃ cb ch cl, WV (a + b) cb ch cl ∧ Calls Try.prog 57 #[.agg #[.bool ab, .int .u64 ah, .int .u64 al], .agg #[.bool bb, .int .u64 bh, .int .u64 bl]] w fun e w' => e = .returned (.agg #[.bool cb, .int .u64 ch, .int .u64 cl]) ∧ Below w.heap.size w w' := by
  obtain ⟨a1, a2, a3, a4, a5, a6⟩ := ha
  obtain ⟨b1, b2, b3, b4, b5, b6⟩ := hb
  unfold absI at hs
  by_cases na : a < 0
  · rw [if_pos na] at a2 hs
    rw [decide_eq_true na] at a1
    subst a1
    by_cases nb : b < 0
    · rw [if_pos nb] at b2 hs
      rw [decide_eq_true nb] at b1
      subst b1
      refine ⟨true, (-a - b) / 18446744073709551616, (-a - b) % 18446744073709551616, ⟨(decide_eq_true (by omega)).symm, by rw [if_pos (by omega)]; omega, by omega, by omega, by omega, by omega⟩, ?_⟩
      exact wadd_nn ah al bh bl _ _ w (fun W => Dec.wplus_any true true ah al bh bl _ _ W a3 a5 a6 b3 b5 b6 (by omega) (by omega) (by omega)) (by
        rw [Bool.and_eq_false_iff, beq_eq_false_iff_ne, beq_eq_false_iff_ne]
        omega)
    · rw [if_neg nb] at b2 hs
      rw [decide_eq_false nb] at b1
      subst b1
      by_cases hlt : -a < b
      · refine ⟨false, (a + b) / 18446744073709551616, (a + b) % 18446744073709551616, ⟨(decide_eq_false (by omega)).symm, by rw [if_neg (by omega)]; omega, by omega, by omega, by omega, by omega⟩, ?_⟩
        exact wadd_ba_p ah al bh bl _ _ w (fun W => wminus_any false true bh bl ah al _ _ W b5 b6 a3 a5 a6 b4 (by omega) (by omega) (by omega) (by omega)) (fun W => wsize_any true false ah al bh bl true W (decide_eq_true (by omega)).symm)
      · by_cases hz : -a = b
        · refine ⟨false, 0, 0, ⟨(decide_eq_false (by omega)).symm, by rw [if_neg (by omega)]; omega, by omega, by omega, by omega, by omega⟩, ?_⟩
          exact wadd_ab_z ah al bh bl 0 0 w (fun W => wminus_any true false ah al bh bl 0 0 W a5 a6 b3 b5 b6 a4 (by omega) (by omega) (by omega) (by omega)) (fun W => wsize_any true false ah al bh bl false W (decide_eq_false (by omega)).symm) rfl
        · refine ⟨true, (-a - b) / 18446744073709551616, (-a - b) % 18446744073709551616, ⟨(decide_eq_true (by omega)).symm, by rw [if_pos (by omega)]; omega, by omega, by omega, by omega, by omega⟩, ?_⟩
          exact wadd_ab_n ah al bh bl _ _ w (fun W => wminus_any true false ah al bh bl _ _ W a5 a6 b3 b5 b6 a4 (by omega) (by omega) (by omega) (by omega)) (fun W => wsize_any true false ah al bh bl false W (decide_eq_false (by omega)).symm) (by
            rw [Bool.and_eq_false_iff, beq_eq_false_iff_ne, beq_eq_false_iff_ne]
            omega)
  · rw [if_neg na] at a2 hs
    rw [decide_eq_false na] at a1
    subst a1
    by_cases nb : b < 0
    · rw [if_pos nb] at b2 hs
      rw [decide_eq_true nb] at b1
      subst b1
      by_cases hlt : a < -b
      · refine ⟨true, (-a - b) / 18446744073709551616, (-a - b) % 18446744073709551616, ⟨(decide_eq_true (by omega)).symm, by rw [if_pos (by omega)]; omega, by omega, by omega, by omega, by omega⟩, ?_⟩
        exact wadd_ba_n ah al bh bl _ _ w (fun W => wminus_any true false bh bl ah al _ _ W b5 b6 a3 a5 a6 b4 (by omega) (by omega) (by omega) (by omega)) (fun W => wsize_any false true ah al bh bl true W (decide_eq_true (by omega)).symm) (by
            rw [Bool.and_eq_false_iff, beq_eq_false_iff_ne, beq_eq_false_iff_ne]
            omega)
      · refine ⟨false, (a + b) / 18446744073709551616, (a + b) % 18446744073709551616, ⟨(decide_eq_false (by omega)).symm, by rw [if_neg (by omega)]; omega, by omega, by omega, by omega, by omega⟩, ?_⟩
        exact wadd_ab_p ah al bh bl _ _ w (fun W => wminus_any false true ah al bh bl _ _ W a5 a6 b3 b5 b6 a4 (by omega) (by omega) (by omega) (by omega)) (fun W => wsize_any false true ah al bh bl false W (decide_eq_false (by omega)).symm)
    · rw [if_neg nb] at b2 hs
      rw [decide_eq_false nb] at b1
      subst b1
      refine ⟨false, (a + b) / 18446744073709551616, (a + b) % 18446744073709551616, ⟨(decide_eq_false (by omega)).symm, by rw [if_neg (by omega)]; omega, by omega, by omega, by omega, by omega⟩, ?_⟩
      exact wadd_pp ah al bh bl _ _ w (fun W => Dec.wplus_any false false ah al bh bl _ _ W a3 a5 a6 b3 b5 b6 (by omega) (by omega) (by omega))
end Go.Proofs.Ytcgkfgklggjmaaa.Par
end
section
namespace Go.Proofs.Ytcgkfgklggjmaaa.Par
set_option linter.unusedVariables false
set_option linter.unusedSimpArgs false
open Go.RowKit
set_option maxHeartbeats 16000000 in
set_option maxRecDepth 100000 in
theorem wmul_pp (a b X Y A M1 M2 D H1 L1 H L : Int) (w : World) (x0 x1 y0 y1 : Int)
    (hA : ∀ W, Calls Try.prog 58 #[.int .i64 a] W fun e w' => e = .returned (.agg #[.bool false, .int .u64 0, .int .u64 X]) ∧ Below W.heap.size W w')
    (hB : ∀ W, Calls Try.prog 58 #[.int .i64 b] W fun e w' => e = .returned (.agg #[.bool false, .int .u64 0, .int .u64 Y]) ∧ Below W.heap.size W w')
    (hX0 : X.tmod 4294967296 = x0) (hX1 : X / 4294967296 = x1) (hY0 : Y.tmod 4294967296 = y0) (hY1 : Y / 4294967296 = y1)
    (hwA : IntKind.u64.wrap (x1 * y1) = A) (hwD : IntKind.u64.wrap (x0 * y0) = D) (hw1 : IntKind.u64.wrap (x0 * y1) = M1) (hw2 : IntKind.u64.wrap (x1 * y0) = M2)
    (hp1 : ∀ W, Calls Try.prog 77 #[.agg #[.bool false, .int .u64 A, .int .u64 D], .agg #[.bool false, .int .u64 (M1 / 4294967296), .int .u64 (M1 * 4294967296 % 18446744073709551616)]] W fun e w' => e = .returned (.agg #[.bool false, .int .u64 H1, .int .u64 L1]) ∧ Below W.heap.size W w')
    (hp2 : ∀ W, Calls Try.prog 77 #[.agg #[.bool false, .int .u64 H1, .int .u64 L1], .agg #[.bool false, .int .u64 (M2 / 4294967296), .int .u64 (M2 * 4294967296 % 18446744073709551616)]] W fun e w' => e = .returned (.agg #[.bool false, .int .u64 H, .int .u64 L]) ∧ Below W.heap.size W w') :
    Calls Try.prog 73 #[.int .i64 a, .int .i64 b] w fun e w' => e = .returned (.agg #[.bool false, .int .u64 H, .int .u64 L]) ∧ Below w.heap.size w w' := by
  have hw9 : IntKind.u64.wrap (M1 * 4294967296) = M1 * 4294967296 % 18446744073709551616 := by rw [IntKind.wrap_u64]
  have hw8 : IntKind.u64.wrap (M2 * 4294967296) = M2 * 4294967296 % 18446744073709551616 := by rw [IntKind.wrap_u64]
  replace hA := Lib.hid hA
  replace hB := Lib.hid hB
  replace hp1 := Lib.hid hp1
  replace hp2 := Lib.hid hp2
  go_enter Try.func73, Try.ntmps73
  go_wp2_with fail
  refine (hA.out _).mono ?_
  rintro e w1 ⟨rfl, hb1⟩
  go_wp2_with fail
  refine (hB.out _).mono ?_
  rintro e w2 ⟨rfl, hb2⟩
  have kr := ((Blk.new w 108 #[.bool false, .int .u64 0, .int .u64 0]).call hb1).call hb2
  have hbb2 := bl_call (bl_call (bl_alloc (bl_refl w) (.cells #[.bool false, .int .u64 0, .int .u64 0] 108)) hb1) hb2
  have hl0 := kr.lt
  have kx := (Blk.new w2 108 #[.bool false, .int .u64 0, .int .u64 X]).alloc (.cells #[.bool false, .int .u64 0, .int .u64 Y] 108)
  have ky := Dec.Blk.new2 w2 (.cells #[.bool false, .int .u64 0, .int .u64 X] 108) 108 #[.bool false, .int .u64 0, .int .u64 Y]
  obtain ⟨a0, a1, a2, _, _, _⟩ := kx.c3
  obtain ⟨c0, c1, c2, _, _, _⟩ := ky.c3
  go_wp2_with fail
  go_quiet (fail)
  have kx1 := kx.drewN nq
  have ky1 := ky.drewN nq
  clear a0 a1 a2 c0 c1 c2
  obtain ⟨a0, a1, a2, _, _, _⟩ := kx1.c3
  obtain ⟨c0, c1, c2, _, _, _⟩ := ky1.c3
  go_wp2_with fail
  go_quiet (fail)
  go_wp2_with fail
  clear a0 a1 a2 c0 c1 c2
  go_loopw [45] (fun v wr => ∃ (i hi lo : Int), v = .int .i64 i ∧ ((i = 0 ∧ hi = A ∧ lo = D) ∨ (i = 1 ∧ hi = H1 ∧ lo = L1) ∨ (i = 2 ∧ hi = H ∧ lo = L)) ∧
      Blk wr w.heap.size 108 #[.bool false, .int .u64 0, .int .u64 0] ∧ Blk wr (w2.heap.size) 108 #[.bool false, .int .u64 0, .int .u64 X] ∧ Blk wr (w2.heap.size + 1) 108 #[.bool false, .int .u64 0, .int .u64 Y] ∧
      Blk wr (w2.heap.size + 1 + 1) 108 #[.bool false, .int .u64 hi, .int .u64 lo] ∧ Blk wr (w2.heap.size + 1 + 1 + 1) 106 #[.int .u64 M1, .int .u64 M2] ∧ Below w.heap.size w wr) (fun v _ => (2 - intOf v).toNat)
  case atStart =>
    refine ⟨0, A, D, rfl, .inl ⟨rfl, rfl, rfl⟩, ?_, ?_, ?_, ?_, ?_, ?_⟩
    · exact (((((kr.alloc _).alloc _).drewN _).alloc _).alloc _)
    · exact ((kx.drewN _).alloc _).alloc _
    · exact ((ky.drewN _).alloc _).alloc _
    · exact (Dec.Blk.new_at _ _ _ _ (by show ((w2.alloc _).alloc _).heap.size = _; rw [Dec.size_alloc, Dec.size_alloc])).alloc _
    · exact Dec.Blk.new_at _ _ _ _ (by rw [Dec.size_alloc]; show ((w2.alloc _).alloc _).heap.size + 1 = _; rw [Dec.size_alloc, Dec.size_alloc])
    · exact bl_alloc (bl_alloc (bl_drewN (bl_alloc (bl_alloc hbb2 _) _) _) _) _
  case round =>
    obtain ⟨i, hi, lo, rfl, hcase, kr', kx', ky', ko', ks', hbw⟩ := hrel
    have ho := ko'.lt
    have hs := ks'.lt
    obtain ⟨o0, o1, o2, _, _, _⟩ := ko'.c3
    obtain ⟨s0, s1, _, _⟩ := ks'.c2
    rcases hcase with ⟨rfl, rfl, rfl⟩ | ⟨rfl, rfl, rfl⟩ | ⟨rfl, rfl, rfl⟩
    · go_wp2_with fail
      refine (hp1.out _).mono ?_
      rintro e w3 ⟨rfl, hb3⟩
      have ko3 := ko'.call hb3
      have ks3 := ks'.call hb3
      have kx3 := kx'.call hb3
      have ky3 := ky'.call hb3
      have kr3 := kr'.call hb3
      have hbw3 := bl_call hbw hb3
      have ho3 := ko3.lt
      clear o0 o1 o2 s0 s1
      obtain ⟨o0, o1, o2, f0, f1, f2⟩ := ko3.c3
      go_wp2
      go_roundw
      case rel =>
        refine ⟨_, H1, L1, rfl, .inr (.inl ⟨by go_num, rfl, rfl⟩), ?_, ?_, ?_, ?_, ?_, ?_⟩
        · exact ((kr3.far (by (try dsimp only); omega) _).far (by (try dsimp only); omega) _).far (by (try dsimp only); omega) _
        · exact ((kx3.far (by (try dsimp only); omega) _).far (by (try dsimp only); omega) _).far (by (try dsimp only); omega) _
        · exact ((ky3.far (by (try dsimp only); omega) _).far (by (try dsimp only); omega) _).far (by (try dsimp only); omega) _
        · exact ((ko3.set_ 0 (.bool false)).set_ 1 (.int .u64 H1)).set_ 2 (.int .u64 L1)
        · exact ((ks3.far (by (try dsimp only); omega) _).far (by (try dsimp only); omega) _).far (by (try dsimp only); omega) _
        · exact bl_set (bl_set (bl_set hbw3 (by (try dsimp only); omega) _) (by (try dsimp only); omega) _) (by (try dsimp only); omega) _
      case measure => simp [intOf]
    · go_wp2_with fail
      refine (hp2.out _).mono ?_
      rintro e w3 ⟨rfl, hb3⟩
      have ko3 := ko'.call hb3
      have ks3 := ks'.call hb3
      have kx3 := kx'.call hb3
      have ky3 := ky'.call hb3
      have kr3 := kr'.call hb3
      have hbw3 := bl_call hbw hb3
      have ho3 := ko3.lt
      clear o0 o1 o2 s0 s1
      obtain ⟨o0, o1, o2, f0, f1, f2⟩ := ko3.c3
      go_wp2
      go_roundw
      case rel =>
        refine ⟨_, H, L, rfl, .inr (.inr ⟨by go_num, rfl, rfl⟩), ?_, ?_, ?_, ?_, ?_, ?_⟩
        · exact ((kr3.far (by (try dsimp only); omega) _).far (by (try dsimp only); omega) _).far (by (try dsimp only); omega) _
        · exact ((kx3.far (by (try dsimp only); omega) _).far (by (try dsimp only); omega) _).far (by (try dsimp only); omega) _
        · exact ((ky3.far (by (try dsimp only); omega) _).far (by (try dsimp only); omega) _).far (by (try dsimp only); omega) _
        · exact ((ko3.set_ 0 (.bool false)).set_ 1 (.int .u64 H)).set_ 2 (.int .u64 L)
        · exact ((ks3.far (by (try dsimp only); omega) _).far (by (try dsimp only); omega) _).far (by (try dsimp only); omega) _
        · exact bl_set (bl_set (bl_set hbw3 (by (try dsimp only); omega) _) (by (try dsimp only); omega) _) (by (try dsimp only); omega) _
      case measure => simp [intOf]
    · obtain ⟨z0, z1, z2, _, _, _⟩ := kx'.c3
      obtain ⟨t0, t1, t2, _, _, _⟩ := ky'.c3
      obtain ⟨v0, v1, v2, _, _, _⟩ := kr'.c3
      go_wp2_with fail
      exact bodyPost_ret (results_cell_row rfl _ _ w.heap.size _ #[.bool false, .int .u64 hi, .int .u64 lo] (0, 0) _ rfl ((((kr'.far (by (try dsimp only); omega) _).set_ 0 (.bool false)).set_ 1 (.int .u64 hi)).set_ 2 (.int .u64 lo)) Try.underlying108 rfl (by kernel_rfl)) rfl
        ⟨rfl, bl_set (bl_set (bl_set (bl_set hbw (by (try dsimp only); omega) _) (Nat.le_refl _) _) (Nat.le_refl _) _) (Nat.le_refl _) _⟩
set_option maxHeartbeats 16000000 in
set_option maxRecDepth 100000 in
theorem wmul_np_n (a b X Y A M1 M2 D H1 L1 H L : Int) (w : World) (x0 x1 y0 y1 : Int)
    (hA : ∀ W, Calls Try.prog 58 #[.int .i64 a] W fun e w' => e = .returned (.agg #[.bool true, .int .u64 0, .int .u64 X]) ∧ Below W.heap.size W w')
    (hB : ∀ W, Calls Try.prog 58 #[.int .i64 b] W fun e w' => e = .returned (.agg #[.bool false, .int .u64 0, .int .u64 Y]) ∧ Below W.heap.size W w')
    (hX0 : X.tmod 4294967296 = x0) (hX1 : X / 4294967296 = x1) (hY0 : Y.tmod 4294967296 = y0) (hY1 : Y / 4294967296 = y1)
    (hwA : IntKind.u64.wrap (x1 * y1) = A) (hwD : IntKind.u64.wrap (x0 * y0) = D) (hw1 : IntKind.u64.wrap (x0 * y1) = M1) (hw2 : IntKind.u64.wrap (x1 * y0) = M2)
    (hp1 : ∀ W, Calls Try.prog 77 #[.agg #[.bool false, .int .u64 A, .int .u64 D], .agg #[.bool false, .int .u64 (M1 / 4294967296), .int .u64 (M1 * 4294967296 % 18446744073709551616)]] W fun e w' => e = .returned (.agg #[.bool false, .int .u64 H1, .int .u64 L1]) ∧ Below W.heap.size W w')
    (hp2 : ∀ W, Calls Try.prog 77 #[.agg #[.bool false, .int .u64 H1, .int .u64 L1], .agg #[.bool false, .int .u64 (M2 / 4294967296), .int .u64 (M2 * 4294967296 % 18446744073709551616)]] W fun e w' => e = .returned (.agg #[.bool false, .int .u64 H, .int .u64 L]) ∧ Below W.heap.size W w') (hz : (H == 0 && L == 0) = false) :
    Calls Try.prog 73 #[.int .i64 a, .int .i64 b] w fun e w' => e = .returned (.agg #[.bool true, .int .u64 H, .int .u64 L]) ∧ Below w.heap.size w w' := by
  have hw9 : IntKind.u64.wrap (M1 * 4294967296) = M1 * 4294967296 % 18446744073709551616 := by rw [IntKind.wrap_u64]
  have hw8 : IntKind.u64.wrap (M2 * 4294967296) = M2 * 4294967296 % 18446744073709551616 := by rw [IntKind.wrap_u64]
  replace hA := Lib.hid hA
  replace hB := Lib.hid hB
  replace hp1 := Lib.hid hp1
  replace hp2 := Lib.hid hp2
  have hZ := Lib.hid (fun W => Dec.wzero_any false H L W)
  rw [hz] at hZ
  clear hz
  go_enter Try.func73, Try.ntmps73
  go_wp2_with fail
  refine (hA.out _).mono ?_
  rintro e w1 ⟨rfl, hb1⟩
  go_wp2_with fail
  refine (hB.out _).mono ?_
  rintro e w2 ⟨rfl, hb2⟩
  have kr := ((Blk.new w 108 #[.bool false, .int .u64 0, .int .u64 0]).call hb1).call hb2
  have hbb2 := bl_call (bl_call (bl_alloc (bl_refl w) (.cells #[.bool false, .int .u64 0, .int .u64 0] 108)) hb1) hb2
  have hl0 := kr.lt
  have kx := (Blk.new w2 108 #[.bool true, .int .u64 0, .int .u64 X]).alloc (.cells #[.bool false, .int .u64 0, .int .u64 Y] 108)
  have ky := Dec.Blk.new2 w2 (.cells #[.bool true, .int .u64 0, .int .u64 X] 108) 108 #[.bool false, .int .u64 0, .int .u64 Y]
  obtain ⟨a0, a1, a2, _, _, _⟩ := kx.c3
  obtain ⟨c0, c1, c2, _, _, _⟩ := ky.c3
  go_wp2_with fail
  go_quiet (fail)
  have kx1 := kx.drewN nq
  have ky1 := ky.drewN nq
  clear a0 a1 a2 c0 c1 c2
  obtain ⟨a0, a1, a2, _, _, _⟩ := kx1.c3
  obtain ⟨c0, c1, c2, _, _, _⟩ := ky1.c3
  go_wp2_with fail
  go_quiet (fail)
  go_wp2_with fail
  clear a0 a1 a2 c0 c1 c2
  go_loopw [45] (fun v wr => ∃ (i hi lo : Int), v = .int .i64 i ∧ ((i = 0 ∧ hi = A ∧ lo = D) ∨ (i = 1 ∧ hi = H1 ∧ lo = L1) ∨ (i = 2 ∧ hi = H ∧ lo = L)) ∧
      Blk wr w.heap.size 108 #[.bool false, .int .u64 0, .int .u64 0] ∧ Blk wr (w2.heap.size) 108 #[.bool true, .int .u64 0, .int .u64 X] ∧ Blk wr (w2.heap.size + 1) 108 #[.bool false, .int .u64 0, .int .u64 Y] ∧
      Blk wr (w2.heap.size + 1 + 1) 108 #[.bool false, .int .u64 hi, .int .u64 lo] ∧ Blk wr (w2.heap.size + 1 + 1 + 1) 106 #[.int .u64 M1, .int .u64 M2] ∧ Below w.heap.size w wr) (fun v _ => (2 - intOf v).toNat)
  case atStart =>
    refine ⟨0, A, D, rfl, .inl ⟨rfl, rfl, rfl⟩, ?_, ?_, ?_, ?_, ?_, ?_⟩
    · exact (((((kr.alloc _).alloc _).drewN _).alloc _).alloc _)
    · exact ((kx.drewN _).alloc _).alloc _
    · exact ((ky.drewN _).alloc _).alloc _
    · exact (Dec.Blk.new_at _ _ _ _ (by show ((w2.alloc _).alloc _).heap.size = _; rw [Dec.size_alloc, Dec.size_alloc])).alloc _
    · exact Dec.Blk.new_at _ _ _ _ (by rw [Dec.size_alloc]; show ((w2.alloc _).alloc _).heap.size + 1 = _; rw [Dec.size_alloc, Dec.size_alloc])
    · exact bl_alloc (bl_alloc (bl_drewN (bl_alloc (bl_alloc hbb2 _) _) _) _) _
  case round =>
    obtain ⟨i, hi, lo, rfl, hcase, kr', kx', ky', ko', ks', hbw⟩ := hrel
    have ho := ko'.lt
    have hs := ks'.lt
    obtain ⟨o0, o1, o2, _, _, _⟩ := ko'.c3
    obtain ⟨s0, s1, _, _⟩ := ks'.c2
    rcases hcase with ⟨rfl, rfl, rfl⟩ | ⟨rfl, rfl, rfl⟩ | ⟨rfl, rfl, rfl⟩
    · go_wp2_with fail
      refine (hp1.out _).mono ?_
      rintro e w3 ⟨rfl, hb3⟩
      have ko3 := ko'.call hb3
      have ks3 := ks'.call hb3
      have kx3 := kx'.call hb3
      have ky3 := ky'.call hb3
      have kr3 := kr'.call hb3
      have hbw3 := bl_call hbw hb3
      have ho3 := ko3.lt
      clear o0 o1 o2 s0 s1
      obtain ⟨o0, o1, o2, f0, f1, f2⟩ := ko3.c3
      go_wp2
      go_roundw
      case rel =>
        refine ⟨_, H1, L1, rfl, .inr (.inl ⟨by go_num, rfl, rfl⟩), ?_, ?_, ?_, ?_, ?_, ?_⟩
        · exact ((kr3.far (by (try dsimp only); omega) _).far (by (try dsimp only); omega) _).far (by (try dsimp only); omega) _
        · exact ((kx3.far (by (try dsimp only); omega) _).far (by (try dsimp only); omega) _).far (by (try dsimp only); omega) _
        · exact ((ky3.far (by (try dsimp only); omega) _).far (by (try dsimp only); omega) _).far (by (try dsimp only); omega) _
        · exact ((ko3.set_ 0 (.bool false)).set_ 1 (.int .u64 H1)).set_ 2 (.int .u64 L1)
        · exact ((ks3.far (by (try dsimp only); omega) _).far (by (try dsimp only); omega) _).far (by (try dsimp only); omega) _
        · exact bl_set (bl_set (bl_set hbw3 (by (try dsimp only); omega) _) (by (try dsimp only); omega) _) (by (try dsimp only); omega) _
      case measure => simp [intOf]
    · go_wp2_with fail
      refine (hp2.out _).mono ?_
      rintro e w3 ⟨rfl, hb3⟩
      have ko3 := ko'.call hb3
      have ks3 := ks'.call hb3
      have kx3 := kx'.call hb3
      have ky3 := ky'.call hb3
      have kr3 := kr'.call hb3
      have hbw3 := bl_call hbw hb3
      have ho3 := ko3.lt
      clear o0 o1 o2 s0 s1
      obtain ⟨o0, o1, o2, f0, f1, f2⟩ := ko3.c3
      go_wp2
      go_roundw
      case rel =>
        refine ⟨_, H, L, rfl, .inr (.inr ⟨by go_num, rfl, rfl⟩), ?_, ?_, ?_, ?_, ?_, ?_⟩
        · exact ((kr3.far (by (try dsimp only); omega) _).far (by (try dsimp only); omega) _).far (by (try dsimp only); omega) _
        · exact ((kx3.far (by (try dsimp only); omega) _).far (by (try dsimp only); omega) _).far (by (try dsimp only); omega) _
        · exact ((ky3.far (by (try dsimp only); omega) _).far (by (try dsimp only); omega) _).far (by (try dsimp only); omega) _
        · exact ((ko3.set_ 0 (.bool false)).set_ 1 (.int .u64 H)).set_ 2 (.int .u64 L)
        · exact ((ks3.far (by (try dsimp only); omega) _).far (by (try dsimp only); omega) _).far (by (try dsimp only); omega) _
        · exact bl_set (bl_set (bl_set hbw3 (by (try dsimp only); omega) _) (by (try dsimp only); omega) _) (by (try dsimp only); omega) _
      case measure => simp [intOf]
    · obtain ⟨z0, z1, z2, _, _, _⟩ := kx'.c3
      obtain ⟨t0, t1, t2, _, _, _⟩ := ky'.c3
      obtain ⟨v0, v1, v2, _, _, _⟩ := kr'.c3
      go_wp2_with fail
      refine (hZ.out _).mono ?_
      rintro e w4 ⟨rfl, hb4⟩
      have ko4 := ko'.call hb4
      have kr4 := kr'.call hb4
      have hbw4 := bl_call hbw hb4
      have ho4 := ko4.lt
      clear o0 o1 o2 s0 s1 z0 z1 z2 t0 t1 t2 v0 v1 v2
      obtain ⟨o0, o1, o2, f0, f1, f2⟩ := ko4.c3
      obtain ⟨v0, v1, v2, _, _, _⟩ := kr4.c3
      go_wp2_with fail
      exact bodyPost_ret (results_cell_row rfl _ _ w.heap.size _ #[.bool true, .int .u64 hi, .int .u64 lo] (0, 0) _ rfl ((((kr4.far (by (try dsimp only); omega) _).set_ 0 (.bool true)).set_ 1 (.int .u64 hi)).set_ 2 (.int .u64 lo)) Try.underlying108 rfl (by kernel_rfl)) rfl
        ⟨rfl, bl_set (bl_set (bl_set (bl_set hbw4 (by (try dsimp only); omega) _) (Nat.le_refl _) _) (Nat.le_refl _) _) (Nat.le_refl _) _⟩
set_option maxHeartbeats 16000000 in
set_option maxRecDepth 100000 in
theorem wmul_np_z (a b X Y A M1 M2 D H1 L1 H L : Int) (w : World) (x0 x1 y0 y1 : Int)
    (hA : ∀ W, Calls Try.prog 58 #[.int .i64 a] W fun e w' => e = .returned (.agg #[.bool true, .int .u64 0, .int .u64 X]) ∧ Below W.heap.size W w')
    (hB : ∀ W, Calls Try.prog 58 #[.int .i64 b] W fun e w' => e = .returned (.agg #[.bool false, .int .u64 0, .int .u64 Y]) ∧ Below W.heap.size W w')
    (hX0 : X.tmod 4294967296 = x0) (hX1 : X / 4294967296 = x1) (hY0 : Y.tmod 4294967296 = y0) (hY1 : Y / 4294967296 = y1)
    (hwA : IntKind.u64.wrap (x1 * y1) = A) (hwD : IntKind.u64.wrap (x0 * y0) = D) (hw1 : IntKind.u64.wrap (x0 * y1) = M1) (hw2 : IntKind.u64.wrap (x1 * y0) = M2)
    (hp1 : ∀ W, Calls Try.prog 77 #[.agg #[.bool false, .int .u64 A, .int .u64 D], .agg #[.bool false, .int .u64 (M1 / 4294967296), .int .u64 (M1 * 4294967296 % 18446744073709551616)]] W fun e w' => e = .returned (.agg #[.bool false, .int .u64 H1, .int .u64 L1]) ∧ Below W.heap.size W w')
    (hp2 : ∀ W, Calls Try.prog 77 #[.agg #[.bool false, .int .u64 H1, .int .u64 L1], .agg #[.bool false, .int .u64 (M2 / 4294967296), .int .u64 (M2 * 4294967296 % 18446744073709551616)]] W fun e w' => e = .returned (.agg #[.bool false, .int .u64 H, .int .u64 L]) ∧ Below W.heap.size W w') (hz : (H == 0 && L == 0) = true) :
    Calls Try.prog 73 #[.int .i64 a, .int .i64 b] w fun e w' => e = .returned (.agg #[.bool false, .int .u64 H, .int .u64 L]) ∧ Below w.heap.size w w' := by
  have hw9 : IntKind.u64.wrap (M1 * 4294967296) = M1 * 4294967296 % 18446744073709551616 := by rw [IntKind.wrap_u64]
  have hw8 : IntKind.u64.wrap (M2 * 4294967296) = M2 * 4294967296 % 18446744073709551616 := by rw [IntKind.wrap_u64]
  replace hA := Lib.hid hA
  replace hB := Lib.hid hB
  replace hp1 := Lib.hid hp1
  replace hp2 := Lib.hid hp2
  have hZ := Lib.hid (fun W => Dec.wzero_any false H L W)
  rw [hz] at hZ
  clear hz
  go_enter Try.func73, Try.ntmps73
  go_wp2_with fail
  refine (hA.out _).mono ?_
  rintro e w1 ⟨rfl, hb1⟩
  go_wp2_with fail
  refine (hB.out _).mono ?_
  rintro e w2 ⟨rfl, hb2⟩
  have kr := ((Blk.new w 108 #[.bool false, .int .u64 0, .int .u64 0]).call hb1).call hb2
  have hbb2 := bl_call (bl_call (bl_alloc (bl_refl w) (.cells #[.bool false, .int .u64 0, .int .u64 0] 108)) hb1) hb2
  have hl0 := kr.lt
  have kx := (Blk.new w2 108 #[.bool true, .int .u64 0, .int .u64 X]).alloc (.cells #[.bool false, .int .u64 0, .int .u64 Y] 108)
  have ky := Dec.Blk.new2 w2 (.cells #[.bool true, .int .u64 0, .int .u64 X] 108) 108 #[.bool false, .int .u64 0, .int .u64 Y]
  obtain ⟨a0, a1, a2, _, _, _⟩ := kx.c3
  obtain ⟨c0, c1, c2, _, _, _⟩ := ky.c3
  go_wp2_with fail
  go_quiet (fail)
  have kx1 := kx.drewN nq
  have ky1 := ky.drewN nq
  clear a0 a1 a2 c0 c1 c2
  obtain ⟨a0, a1, a2, _, _, _⟩ := kx1.c3
  obtain ⟨c0, c1, c2, _, _, _⟩ := ky1.c3
  go_wp2_with fail
  go_quiet (fail)
  go_wp2_with fail
  clear a0 a1 a2 c0 c1 c2
  go_loopw [45] (fun v wr => ∃ (i hi lo : Int), v = .int .i64 i ∧ ((i = 0 ∧ hi = A ∧ lo = D) ∨ (i = 1 ∧ hi = H1 ∧ lo = L1) ∨ (i = 2 ∧ hi = H ∧ lo = L)) ∧
      Blk wr w.heap.size 108 #[.bool false, .int .u64 0, .int .u64 0] ∧ Blk wr (w2.heap.size) 108 #[.bool true, .int .u64 0, .int .u64 X] ∧ Blk wr (w2.heap.size + 1) 108 #[.bool false, .int .u64 0, .int .u64 Y] ∧
      Blk wr (w2.heap.size + 1 + 1) 108 #[.bool false, .int .u64 hi, .int .u64 lo] ∧ Blk wr (w2.heap.size + 1 + 1 + 1) 106 #[.int .u64 M1, .int .u64 M2] ∧ Below w.heap.size w wr) (fun v _ => (2 - intOf v).toNat)
  case atStart =>
    refine ⟨0, A, D, rfl, .inl ⟨rfl, rfl, rfl⟩, ?_, ?_, ?_, ?_, ?_, ?_⟩
    · exact (((((kr.alloc _).alloc _).drewN _).alloc _).alloc _)
    · exact ((kx.drewN _).alloc _).alloc _
    · exact ((ky.drewN _).alloc _).alloc _
    · exact (Dec.Blk.new_at _ _ _ _ (by show ((w2.alloc _).alloc _).heap.size = _; rw [Dec.size_alloc, Dec.size_alloc])).alloc _
    · exact Dec.Blk.new_at _ _ _ _ (by rw [Dec.size_alloc]; show ((w2.alloc _).alloc _).heap.size + 1 = _; rw [Dec.size_alloc, Dec.size_alloc])
    · exact bl_alloc (bl_alloc (bl_drewN (bl_alloc (bl_alloc hbb2 _) _) _) _) _
  case round =>
    obtain ⟨i, hi, lo, rfl, hcase, kr', kx', ky', ko', ks', hbw⟩ := hrel
    have ho := ko'.lt
    have hs := ks'.lt
    obtain ⟨o0, o1, o2, _, _, _⟩ := ko'.c3
    obtain ⟨s0, s1, _, _⟩ := ks'.c2
    rcases hcase with ⟨rfl, rfl, rfl⟩ | ⟨rfl, rfl, rfl⟩ | ⟨rfl, rfl, rfl⟩
    · go_wp2_with fail
      refine (hp1.out _).mono ?_
      rintro e w3 ⟨rfl, hb3⟩
      have ko3 := ko'.call hb3
      have ks3 := ks'.call hb3
      have kx3 := kx'.call hb3
      have ky3 := ky'.call hb3
      have kr3 := kr'.call hb3
      have hbw3 := bl_call hbw hb3
      have ho3 := ko3.lt
      clear o0 o1 o2 s0 s1
      obtain ⟨o0, o1, o2, f0, f1, f2⟩ := ko3.c3
      go_wp2
      go_roundw
      case rel =>
        refine ⟨_, H1, L1, rfl, .inr (.inl ⟨by go_num, rfl, rfl⟩), ?_, ?_, ?_, ?_, ?_, ?_⟩
        · exact ((kr3.far (by (try dsimp only); omega) _).far (by (try dsimp only); omega) _).far (by (try dsimp only); omega) _
        · exact ((kx3.far (by (try dsimp only); omega) _).far (by (try dsimp only); omega) _).far (by (try dsimp only); omega) _
        · exact ((ky3.far (by (try dsimp only); omega) _).far (by (try dsimp only); omega) _).far (by (try dsimp only); omega) _
        · exact ((ko3.set_ 0 (.bool false)).set_ 1 (.int .u64 H1)).set_ 2 (.int .u64 L1)
        · exact ((ks3.far (by (try dsimp only); omega) _).far (by (try dsimp only); omega) _).far (by (try dsimp only); omega) _
        · exact bl_set (bl_set (bl_set hbw3 (by (try dsimp only); omega) _) (by (try dsimp only); omega) _) (by (try dsimp only); omega) _
      case measure => simp [intOf]
    · go_wp2_with fail
      refine (hp2.out _).mono ?_
      rintro e w3 ⟨rfl, hb3⟩
      have ko3 := ko'.call hb3
      have ks3 := ks'.call hb3
      have kx3 := kx'.call hb3
      have ky3 := ky'.call hb3
      have kr3 := kr'.call hb3
      have hbw3 := bl_call hbw hb3
      have ho3 := ko3.lt
      clear o0 o1 o2 s0 s1
      obtain ⟨o0, o1, o2, f0, f1, f2⟩ := ko3.c3
      go_wp2
      go_roundw
      case rel =>
        refine ⟨_, H, L, rfl, .inr (.inr ⟨by go_num, rfl, rfl⟩), ?_, ?_, ?_, ?_, ?_, ?_⟩
        · exact ((kr3.far (by (try dsimp only); omega) _).far (by (try dsimp only); omega) _).far (by (try dsimp only); omega) _
        · exact ((kx3.far (by (try dsimp only); omega) _).far (by (try dsimp only); omega) _).far (by (try dsimp only); omega) _
        · exact ((ky3.far (by (try dsimp only); omega) _).far (by (try dsimp only); omega) _).far (by (try dsimp only); omega) _
        · exact ((ko3.set_ 0 (.bool false)).set_ 1 (.int .u64 H)).set_ 2 (.int .u64 L)
        · exact ((ks3.far (by (try dsimp only); omega) _).far (by (try dsimp only); omega) _).far (by (try dsimp only); omega) _
        · exact bl_set (bl_set (bl_set hbw3 (by (try dsimp only); omega) _) (by (try dsimp only); omega) _) (by (try dsimp only); omega) _
      case measure => simp [intOf]
    · obtain ⟨z0, z1, z2, _, _, _⟩ := kx'.c3
      obtain ⟨t0, t1, t2, _, _, _⟩ := ky'.c3
      obtain ⟨v0, v1, v2, _, _, _⟩ := kr'.c3
      go_wp2_with fail
      refine (hZ.out _).mono ?_
      rintro e w4 ⟨rfl, hb4⟩
      have ko4 := ko'.call hb4
      have kr4 := kr'.call hb4
      have hbw4 := bl_call hbw hb4
      have ho4 := ko4.lt
      clear o0 o1 o2 s0 s1 z0 z1 z2 t0 t1 t2 v0 v1 v2
      obtain ⟨o0, o1, o2, f0, f1, f2⟩ := ko4.c3
      obtain ⟨v0, v1, v2, _, _, _⟩ := kr4.c3
      go_wp2_with fail
      exact bodyPost_ret (results_cell_row rfl _ _ w.heap.size _ #[.bool false, .int .u64 hi, .int .u64 lo] (0, 0) _ rfl ((((kr4.far (by (try dsimp only); omega) _).set_ 0 (.bool false)).set_ 1 (.int .u64 hi)).set_ 2 (.int .u64 lo)) Try.underlying108 rfl (by kernel_rfl)) rfl
        ⟨rfl, bl_set (bl_set (bl_set (bl_set hbw4 (by (try dsimp only); omega) _) (Nat.le_refl _) _) (Nat.le_refl _) _) (Nat.le_refl _) _⟩
end Go.Proofs.Ytcgkfgklggjmaaa.Par
end
section
namespace Go.Proofs.Ytcgkfgklggjmaaa.Par
set_option linter.unusedVariables false
set_option linter.unusedSimpArgs false
open Go.RowKit
theorem WV.uniq {v : Int} {b b' : Bool} {h l h' l' : Int} (x : WV v b h l) (y : WV v b' h' l') : b = b' ∧ h = h' ∧ l = l' := by
  obtain ⟨x1, x2, x3, x4, x5, x6⟩ := x
  obtain ⟨y1, y2, y3, y4, y5, y6⟩ := y
  refine ⟨x1.trans y1.symm, ?_, ?_⟩ <;> omega
theorem wadd9_all (a b : Int) (ab bb : Bool) (ah al bh bl : Int) (ha : WV a ab ah al) (hb : WV b bb bh bl) (hs : absI a + absI b < 170141183460469231731687303715884105728) :
    ∃ cb ch cl, WV (a + b) cb ch cl ∧ ∀ w, Calls Try.prog 57 #[.agg #[.bool ab, .int .u64 ah, .int .u64 al], .agg #[.bool bb, .int .u64 bh, .int .u64 bl]] w fun e w' => e = .returned (.agg #[.bool cb, .int .u64 ch, .int .u64 cl]) ∧ Below w.heap.size w w' := by
  obtain ⟨cb, ch, cl, h1, _⟩ := wadd9_any a b ab bb ah al bh bl default ha hb hs
  refine ⟨cb, ch, cl, h1, fun w => ?_⟩
  obtain ⟨cb', ch', cl', h1', h2'⟩ := wadd9_any a b ab bb ah al bh bl w ha hb hs
  obtain ⟨rfl, rfl, rfl⟩ := h1.uniq h1'
  exact h2'
theorem wopp9_all (v : Int) (b : Bool) (hi lo : Int) (h : WV v b hi lo) :
    ∃ b', WV (-v) b' hi lo ∧ ∀ w, Calls Try.prog 75 #[.agg #[.bool b, .int .u64 hi, .int .u64 lo]] w fun e w' => e = .returned (.agg #[.bool b', .int .u64 hi, .int .u64 lo]) ∧ Below w.heap.size w w' := by
  refine ⟨_, h.opp, fun w => (wopp_any v b hi lo w h).mono fun e w' ⟨b', he, hv, hb⟩ => ?_⟩
  obtain ⟨rfl, _, _⟩ := hv.uniq h.opp
  exact ⟨he, hb⟩
theorem prod_bd {x y M N : Int} (x0 : 0 ≤ x) (x1 : x ≤ M) (y0 : 0 ≤ y) (y1 : y ≤ N) (hM : 0 ≤ M) : 0 ≤ x * y ∧ x * y ≤ M * N :=
  ⟨Int.mul_nonneg x0 y0, Int.mul_le_mul x1 y1 y0 hM⟩
theorem prod_split (x1 x0 y1 y0 : Int) : (4294967296 * x1 + x0) * (4294967296 * y1 + y0) = 18446744073709551616 * (x1 * y1) + 4294967296 * (x0 * y1) + 4294967296 * (x1 * y0) + x0 * y0 := by
  have e1 : 4294967296 * x1 * (4294967296 * y1) = 18446744073709551616 * (x1 * y1) := by rw [Int.mul_assoc, Int.mul_left_comm x1]; omega
  have e2 : 4294967296 * x1 * y0 = 4294967296 * (x1 * y0) := Int.mul_assoc _ _ _
  have e3 : x0 * (4294967296 * y1) = 4294967296 * (x0 * y1) := Int.mul_left_comm _ _ _
  rw [Int.add_mul, Int.mul_add, Int.mul_add, e1, e2, e3]
  omega
/-- a product of sizes, part by part -/
theorem parts9 (X Y : Int) (hX : 0 ≤ X) (hX' : X ≤ 9223372036854775808) (hY : 0 ≤ Y) (hY' : Y ≤ 9223372036854775808) :
    ∃ A M1 M2 D H1 L1 H L x0 x1 y0 y1 : Int, X.tmod 4294967296 = x0 ∧ X / 4294967296 = x1 ∧ Y.tmod 4294967296 = y0 ∧ Y / 4294967296 = y1 ∧
      IntKind.u64.wrap (x1 * y1) = A ∧ IntKind.u64.wrap (x0 * y0) = D ∧ IntKind.u64.wrap (x0 * y1) = M1 ∧ IntKind.u64.wrap (x1 * y0) = M2 ∧
      (∀ W, Calls Try.prog 77 #[.agg #[.bool false, .int .u64 A, .int .u64 D], .agg #[.bool false, .int .u64 (M1 / 4294967296), .int .u64 (M1 * 4294967296 % 18446744073709551616)]] W fun e w' => e = .returned (.agg #[.bool false, .int .u64 H1, .int .u64 L1]) ∧ Below W.heap.size W w') ∧
      (∀ W, Calls Try.prog 77 #[.agg #[.bool false, .int .u64 H1, .int .u64 L1], .agg #[.bool false, .int .u64 (M2 / 4294967296), .int .u64 (M2 * 4294967296 % 18446744073709551616)]] W fun e w' => e = .returned (.agg #[.bool false, .int .u64 H, .int .u64 L]) ∧ Below W.heap.size W w') ∧
      H * 18446744073709551616 + L = X * Y ∧ 0 ≤ H ∧ H < 9223372036854775808 ∧ 0 ≤ L ∧ L < 18446744073709551616 := by
  obtain ⟨x0, hx0⟩ : ∃ x, X % 4294967296 = x := ⟨_, rfl⟩
  obtain ⟨x1, hx1⟩ : ∃ x, X / 4294967296 = x := ⟨_, rfl⟩
  obtain ⟨y0, hy0⟩ : ∃ x, Y % 4294967296 = x := ⟨_, rfl⟩
  obtain ⟨y1, hy1⟩ : ∃ x, Y / 4294967296 = x := ⟨_, rfl⟩
  have eX : X = 4294967296 * x1 + x0 := by omega
  have eY : Y = 4294967296 * y1 + y0 := by omega
  have hP : X * Y = 18446744073709551616 * (x1 * y1) + 4294967296 * (x0 * y1) + 4294967296 * (x1 * y0) + x0 * y0 := by rw [eX, eY]; exact prod_split x1 x0 y1 y0
  obtain ⟨pa0, pa1⟩ := prod_bd (x := x1) (y := y1) (M := 2147483648) (N := 2147483648) (by omega) (by omega) (by omega) (by omega) (by decide)
  obtain ⟨pb0, pb1⟩ := prod_bd (x := x0) (y := y1) (M := 4294967295) (N := 2147483648) (by omega) (by omega) (by omega) (by omega) (by decide)
  obtain ⟨pc0, pc1⟩ := prod_bd (x := x1) (y := y0) (M := 2147483648) (N := 4294967295) (by omega) (by omega) (by omega) (by omega) (by decide)
  obtain ⟨pd0, pd1⟩ := prod_bd (x := x0) (y := y0) (M := 4294967295) (N := 4294967295) (by omega) (by omega) (by omega) (by omega) (by decide)
  rw [hP]
  have t0 : X.tmod 4294967296 = x0 := by rw [Int.tmod_eq_emod_of_nonneg hX]; exact hx0
  have t1 : Y.tmod 4294967296 = y0 := by rw [Int.tmod_eq_emod_of_nonneg hY]; exact hy0
  generalize hA : x1 * y1 = A at *
  generalize hB : x0 * y1 = M1 at *
  generalize hC : x1 * y0 = M2 at *
  generalize hD : x0 * y0 = D at *
  refine ⟨A, M1, M2, D, (18446744073709551616 * A + D + 4294967296 * M1) / 18446744073709551616, (18446744073709551616 * A + D + 4294967296 * M1) % 18446744073709551616,
    (18446744073709551616 * A + D + 4294967296 * M1 + 4294967296 * M2) / 18446744073709551616, (18446744073709551616 * A + D + 4294967296 * M1 + 4294967296 * M2) % 18446744073709551616, x0, x1, y0, y1, t0, hx1, t1, hy1, ?_, ?_, ?_, ?_, ?_, ?_, ?_, ?_, ?_, ?_, ?_⟩
  · rw [hA, IntKind.wrap_u64]; omega
  · rw [hD, IntKind.wrap_u64]; omega
  · rw [hB, IntKind.wrap_u64]; omega
  · rw [hC, IntKind.wrap_u64]; omega
  · intro W
    exact Dec.wplus_any false false A D _ _ _ _ W (by omega) (by omega) (by omega) (by omega) (by omega) (by omega) (by omega) (by omega) (by omega)
  · intro W
    exact Dec.wplus_any false false _ _ _ _ _ _ W (by omega) (by omega) (by omega) (by omega) (by omega) (by omega) (by omega) (by omega) (by omega)
  all_goals omega
theorem wmul9_all (a b : Int) (a0 : -9223372036854775808 ≤ a) (a1 : a < 9223372036854775808) (b0 : 0 ≤ b) (b1 : b < 9223372036854775808) :
    ∃ cb ch cl, WV (a * b) cb ch cl ∧ ∀ w, Calls Try.prog 73 #[.int .i64 a, .int .i64 b] w fun e w' => e = .returned (.agg #[.bool cb, .int .u64 ch, .int .u64 cl]) ∧ Below w.heap.size w w' := by
  by_cases hn : a < 0
  · obtain ⟨A, M1, M2, D, H1, L1, H, L, x0, x1, y0, y1, e1, e2, e3, e4, e5, e6, e7, e8, p1, p2, hv, h0, h1, l0, l1⟩ := parts9 (-a) b (by omega) (by omega) b0 (by omega)
    have hneg : -a * b = -(a * b) := Int.neg_mul _ _
    rw [hneg] at hv
    by_cases hz : a * b = 0
    · refine ⟨false, H, L, ⟨by rw [hz]; rfl, by rw [hz] at hv ⊢; simpa using hv, h0, h1, l0, l1⟩, fun w => ?_⟩
      exact wmul_np_z a b (-a) b A M1 M2 D H1 L1 H L w x0 x1 y0 y1 (fun W => wofN_any a W hn a0) (fun W => Dec.wof_any b W b0 b1) e1 e2 e3 e4 e5 e6 e7 e8 p1 p2 (by
        rw [hz] at hv
        rw [Bool.and_eq_true, beq_iff_eq, beq_iff_eq]; omega)
    · have hlt : a * b < 0 := by
        have : a * b ≤ 0 := by have := Int.mul_nonneg (show 0 ≤ -a by omega) b0; omega
        omega
      refine ⟨true, H, L, ⟨(decide_eq_true hlt).symm, by rw [if_pos hlt]; exact hv, h0, h1, l0, l1⟩, fun w => ?_⟩
      exact wmul_np_n a b (-a) b A M1 M2 D H1 L1 H L w x0 x1 y0 y1 (fun W => wofN_any a W hn a0) (fun W => Dec.wof_any b W b0 b1) e1 e2 e3 e4 e5 e6 e7 e8 p1 p2 (by
        rw [Bool.and_eq_false_iff, beq_eq_false_iff_ne, beq_eq_false_iff_ne]; omega)
  · obtain ⟨A, M1, M2, D, H1, L1, H, L, x0, x1, y0, y1, e1, e2, e3, e4, e5, e6, e7, e8, p1, p2, hv, h0, h1, l0, l1⟩ := parts9 a b (by omega) (by omega) b0 (by omega)
    have hge : 0 ≤ a * b := Int.mul_nonneg (by omega) b0
    refine ⟨false, H, L, ⟨(decide_eq_false (by omega)).symm, by rw [if_neg (by omega)]; exact hv, h0, h1, l0, l1⟩, fun w => ?_⟩
    exact wmul_pp a b a b A M1 M2 D H1 L1 H L w x0 x1 y0 y1 (fun W => Dec.wof_any a W (by omega) a1) (fun W => Dec.wof_any b W b0 b1) e1 e2 e3 e4 e5 e6 e7 e8 p1 p2
end Go.Proofs.Ytcgkfgklggjmaaa.Par
end
section
namespace Go.Proofs.Ytcgkfgklggjmaaa.Par
set_option linter.unusedVariables false
set_option linter.unusedSimpArgs false
open Go.RowKit
theorem cell_set_ne {v : World} {p q : Addr} {x u : Value} (h : v.cell? p = some x) (hne : p.block ≠ q.block) : (v.setCell q u).cell? p = some x := (World.cell?_of_block (Below.heap_setCell v q u p.block hne)).trans h
theorem cell_al {v : World} {p : Addr} {x : Value} {o : Obj} (h : v.cell? p = some x) : (v.alloc o).cell? p = some x := cell_keep h (bl_alloc (bl_refl v) o)
set_option maxHeartbeats 16000000 in
set_option maxRecDepth 100000 in
theorem wless9_any (ab bb ob_ cb : Bool) (ah al bh bl ch cl : Int) (w : World)
    (hO : ∀ W, Calls Try.prog 75 #[.agg #[.bool bb, .int .u64 bh, .int .u64 bl]] W fun e w' => e = .returned (.agg #[.bool ob_, .int .u64 bh, .int .u64 bl]) ∧ Below W.heap.size W w')
    (hA : ∀ W, Calls Try.prog 57 #[.agg #[.bool ab, .int .u64 ah, .int .u64 al], .agg #[.bool ob_, .int .u64 bh, .int .u64 bl]] W fun e w' => e = .returned (.agg #[.bool cb, .int .u64 ch, .int .u64 cl]) ∧ Below W.heap.size W w') :
    Calls Try.prog 86 #[.agg #[.bool ab, .int .u64 ah, .int .u64 al], .agg #[.bool bb, .int .u64 bh, .int .u64 bl]] w fun e w' => e = .returned (.bool cb) ∧ Below w.heap.size w w' := by
  have ka := ((Blk.new w 108 #[.bool ab, .int .u64 ah, .int .u64 al]).alloc (.cells #[.bool bb, .int .u64 bh, .int .u64 bl] 108)).drew
  have kb := (Dec.Blk.new2 w (.cells #[.bool ab, .int .u64 ah, .int .u64 al] 108) 108 #[.bool bb, .int .u64 bh, .int .u64 bl]).drew
  have b0 := bl_drew (bl_alloc (bl_alloc (bl_refl w) (.cells #[.bool ab, .int .u64 ah, .int .u64 al] 108)) (.cells #[.bool bb, .int .u64 bh, .int .u64 bl] 108))
  have kL0 : LB w (((w.alloc (.cells #[.bool ab, .int .u64 ah, .int .u64 al] 108)).alloc (.cells #[.bool bb, .int .u64 bh, .int .u64 bl] 108)).drew) := LB.mk b0
  have kaZ : Blk ((((w.alloc (.cells #[.bool ab, .int .u64 ah, .int .u64 al] 108)).alloc (.cells #[.bool bb, .int .u64 bh, .int .u64 bl] 108)).alloc (.cells #[.bool false, .int .u64 0, .int .u64 0] 108)).drew) w.heap.size 108 #[.bool ab, .int .u64 ah, .int .u64 al] := (((Blk.new w 108 #[.bool ab, .int .u64 ah, .int .u64 al]).alloc (.cells #[.bool bb, .int .u64 bh, .int .u64 bl] 108)).alloc (.cells #[.bool false, .int .u64 0, .int .u64 0] 108)).drew
  have kbZ : Blk ((((w.alloc (.cells #[.bool ab, .int .u64 ah, .int .u64 al] 108)).alloc (.cells #[.bool bb, .int .u64 bh, .int .u64 bl] 108)).alloc (.cells #[.bool false, .int .u64 0, .int .u64 0] 108)).drew) (w.heap.size + 1) 108 #[.bool bb, .int .u64 bh, .int .u64 bl] := ((Dec.Blk.new2 w (.cells #[.bool ab, .int .u64 ah, .int .u64 al] 108) 108 #[.bool bb, .int .u64 bh, .int .u64 bl]).alloc (.cells #[.bool false, .int .u64 0, .int .u64 0] 108)).drew
  have kLZ : LB w ((((w.alloc (.cells #[.bool ab, .int .u64 ah, .int .u64 al] 108)).alloc (.cells #[.bool bb, .int .u64 bh, .int .u64 bl] 108)).alloc (.cells #[.bool false, .int .u64 0, .int .u64 0] 108)).drew) := LB.mk (bl_drew (bl_alloc (bl_alloc (bl_alloc (bl_refl w) (.cells #[.bool ab, .int .u64 ah, .int .u64 al] 108)) (.cells #[.bool bb, .int .u64 bh, .int .u64 bl] 108)) (.cells #[.bool false, .int .u64 0, .int .u64 0] 108)))
  have kdZ : Blk ((((w.alloc (.cells #[.bool ab, .int .u64 ah, .int .u64 al] 108)).alloc (.cells #[.bool bb, .int .u64 bh, .int .u64 bl] 108)).alloc (.cells #[.bool false, .int .u64 0, .int .u64 0] 108)).drew) ((w.alloc (.cells #[.bool ab, .int .u64 ah, .int .u64 al] 108)).alloc (.cells #[.bool bb, .int .u64 bh, .int .u64 bl] 108)).heap.size 108 #[.bool false, .int .u64 0, .int .u64 0] := (Blk.new ((w.alloc (.cells #[.bool ab, .int .u64 ah, .int .u64 al] 108)).alloc (.cells #[.bool bb, .int .u64 bh, .int .u64 bl] 108)) 108 #[.bool false, .int .u64 0, .int .u64 0]).drew
  rw [World.size_alloc, World.size_alloc] at kdZ
  replace hO := Lib.hid hO
  replace hA := Lib.hid hA
  obtain ⟨x0, x1, x2, _, _, _⟩ := ka.c3
  obtain ⟨v0, v1, v2, _, _, _⟩ := kb.c3
  obtain ⟨f0, f1, f2, _, _, _⟩ := kaZ.c3
  obtain ⟨g0, g1, g2, _, _, _⟩ := kbZ.c3
  go_enter Try.func86, Try.ntmps86
  go_upto_region 1 with fail
  go_region_held3 (fun w' => w'.cell? ⟨w.heap.size, 0, none⟩ = some (.bool ab) ∧ w'.cell? ⟨w.heap.size, 1, none⟩ = some (.int .u64 ah) ∧ w'.cell? ⟨w.heap.size, 2, none⟩ = some (.int .u64 al) ∧ w'.cell? ⟨w.heap.size + 1, 0, none⟩ = some (.bool bb) ∧ w'.cell? ⟨w.heap.size + 1, 1, none⟩ = some (.int .u64 bh) ∧ w'.cell? ⟨w.heap.size + 1, 2, none⟩ = some (.int .u64 bl))
    (refine ⟨?_, ?_, ?_, ?_, ?_, ?_⟩ <;> (first | with_reducible assumption | ((repeat (first | with_reducible refine cell_al ?_ | with_reducible refine cell_set_ne ?_ (by dsimp only; omega))); with_reducible assumption)))
    ((first | (go_at_call 75; (try go_split_ands); (with_reducible refine (hO.out _).mono ?_); rintro e' w5 ⟨rfl, hb5⟩; (first | (have ka5 := ka.call hb5; have kb5 := kb.call hb5; have hL5 := kL0.call hb5) | (have ka5 := kaZ.call hb5; have kb5 := kbZ.call hb5; have hL5 := kLZ.call hb5; have kd5 := kdZ.call hb5; obtain ⟨d_0, d_1, d_2, _, _, _⟩ := kd5.c3; have ld5 := kd5.lt)); obtain ⟨p_0, p_1, p_2, _, _, _⟩ := ka5.c3; obtain ⟨q_0, q_1, q_2, _, _, _⟩ := kb5.c3; (have la5 := ka5.lt); (have lb5 := kb5.lt)) | (go_at_call 57; (try go_split_ands); (with_reducible refine (hA.out _).mono ?_); rintro e' w6 ⟨rfl, hb6⟩; (first | (have kd6 := kd5.call hb6; have ka6 := ka5.call hb6; have kb6 := kb5.call hb6; have hL6 := hL5.call hb6; obtain ⟨d_0, d_1, d_2, _, _, _⟩ := kd6.c3; have ld6 := kd6.lt) | (have ka6 := (ka5.alloc (.cells #[.bool false, .int .u64 0, .int .u64 0] 108)).call hb6; have kb6 := (kb5.alloc (.cells #[.bool false, .int .u64 0, .int .u64 0] 108)).call hb6; have hL6 := (hL5.alloc (.cells #[.bool false, .int .u64 0, .int .u64 0] 108)).call hb6; have kd6 := Blk.call (Blk.new _ 108 #[.bool false, .int .u64 0, .int .u64 0]) hb6; obtain ⟨d_0, d_1, d_2, _, _, _⟩ := kd6.c3; have ld6 := kd6.lt) | (have ka6 := ka5.call hb6; have kb6 := kb5.call hb6; have hL6 := hL5.call hb6)); obtain ⟨r_0, r_1, r_2, _, _, _⟩ := ka6.c3; obtain ⟨s_0, s_1, s_2, _, _, _⟩ := kb6.c3; (have la6 := ka6.lt); (have lb6 := kb6.lt))))
  all_goals go_wp2_with fail
  all_goals go_ret
  all_goals refine ⟨rfl, ?_⟩
  all_goals (repeat (with_reducible refine bl_set ?_ (by dsimp only; omega) _))
  all_goals first | (with_reducible exact hL6.out) | (with_reducible exact bl_alloc hL6.out _)
end Go.Proofs.Ytcgkfgklggjmaaa.Par
end
section
namespace Go.Proofs.Ytcgkfgklggjmaaa.Par
set_option linter.unusedVariables false
set_option linter.unusedSimpArgs false
open Go.RowKit
theorem hor_pok {d e : Day} (h1 : DOk d) (h2 : DOk e) : POk (horP d e) := ⟨k_p, k_c, h1, h2, fun m hm => (by cases hm), fun m hm => (by cases hm), fun m hm => (by cases hm)⟩
theorem hor_len {d e : Day} (h1 : DOk d) (h2 : DOk e) : (horT d e).length ≤ 8192 := by
  unfold horT
  simp only [List.length_append, day_len h1, day_len h2, List.length_cons, List.length_nil]
  omega
set_option maxHeartbeats 16000000 in
set_option maxRecDepth 100000 in
theorem checkHorizon_any (hRP : RParses8) (a b : Int) (w : World) (a0 : -9223372036854775808 ≤ a) (a1 : a ≤ 9223372036854775807) (b0 : -9223372036854775808 ≤ b) (b1 : b ≤ 9223372036854775807) :
    Calls Try.prog 4 #[.int .i64 a, .int .i64 b] w fun e w' => e = .returned (.bool true) ∧ Below w.heap.size w w' := by
  have hal := Lib.hid (alive9_any hRP)
  rcases (by omega : a < 0 ∨ (0 ≤ a ∧ b < 0) ∨ (0 ≤ a ∧ 0 ≤ b ∧ 3652058 < a) ∨ (0 ≤ a ∧ 0 ≤ b ∧ a ≤ 3652058 ∧ 3652058 < b) ∨ (0 ≤ a ∧ 0 ≤ b ∧ a ≤ 3652058 ∧ b ≤ 3652058)) with h | ⟨h, h2⟩ | ⟨h, h2, h3⟩ | ⟨h, h2, h3, h4⟩ | ⟨h, h2, h3, h4⟩
  iterate 4
    · go_enter Try.func4, Try.ntmps4
      go_wp2_with fail
      refine (hal.out _).mono ?_
      rintro e w1 ⟨rfl, hb1⟩
      go_wp2_with fail
      go_ret
      exact ⟨rfl, hb1⟩
  · have q1 := flt_same 5 1 1
    have q2 := flt_same 6 1 1
    have q3 := flt_same 0 0 0
    obtain ⟨y, m, d, hg, hn⟩ := of_ex a h (by omega)
    obtain ⟨y', m', d', hg', hn'⟩ := of_ex b h2 (by omega)
    have cA := fun W => Go.Proofs.Ytcgkfgklggjmaaa.rof_yes y m d W hg
    have cB := fun W => Go.Proofs.Ytcgkfgklggjmaaa.rof_yes y' m' d' W hg'
    rw [hn] at cA
    rw [hn'] at cB
    have tA := Lib.hid (fun W => Go.Proofs.Ytcgkfgklggjmaaa.rtext_yes y m d W hg)
    have tB := Lib.hid (fun W => Go.Proofs.Ytcgkfgklggjmaaa.rtext_yes y' m' d' W hg')
    have k1 := dok_good' hg
    have k2 := dok_good' hg'
    have hp := hor_parse k1 k2
    have hl := hor_len k1 k2
    have e1 : dayT (y, m, d) = dayL y m d := by unfold dayT textL; rw [if_pos hg]
    have e2 : dayT (y', m', d') = dayL y' m' d' := by unfold dayT textL; rw [if_pos hg']
    have hX : Hid (∀ X : ByteArray, X.data.toList = [112, 108, 97, 110, 32, 112, 32, 99, 117, 114, 114, 101, 110, 99, 121, 32, 99, 59, 10, 32, 104, 111, 114, 105, 122, 111, 110, 32] ++ dayL y m d ++ [32] ++ dayL y' m' d' ++ [59] → ∀ W, Calls Try.prog 6 #[.string X] W fun e w' => ∃ v, e = .returned (.tuple #[v, .bool true]) ∧ PlanLies W.heap.size w' v (horP (y, m, d) (y', m', d')) ∧ Below W.heap.size W w') :=
      Lib.hid (fun X hx W => text9 hRP hp hl X (by rw [hx, ← e1, ← e2]; rfl) W)
    have hck := horP_chk (d := (y, m, d)) (e := (y', m', d'))
    have hnA : numT (y, m, d) = a := hn
    have hnB : numT (y', m', d') = b := hn'
    rw [hnA, hnB] at hck
    have hPk := hor_pok k1 k2
    replace hck := Lib.hid hck
    replace hPk := Lib.hid hPk
    replace cA := Lib.hid cA
    replace cB := Lib.hid cB
    clear hp hl e1 e2 hnA hnB hn hn' k1 k2 hg hg' hRP
    have lnA := Go.Proofs.Ytcgkfgklggjmaaa.dayL_len y m d
    have lnB := Go.Proofs.Ytcgkfgklggjmaaa.dayL_len y' m' d'
    generalize dayL y m d = TA at *
    generalize dayL y' m' d' = TB at *
    go_enter Try.func4, Try.ntmps4
    go_wp2_with fail
    refine (hal.out _).mono ?_
    rintro e w1 ⟨rfl, hb1⟩
    go_wp2_with fail
    refine (cA.out _).mono ?_
    rintro e w2 ⟨rfl, hb2⟩
    have ka2 := Blk.new w2 24 #[.int .i64 y, .int .i64 m, .int .i64 d]
    have l2 := bl_alloc (bl_call hb1 hb2) (.cells #[.int .i64 y, .int .i64 m, .int .i64 d] 24)
    go_wp2_with fail
    refine (cB.out _).mono ?_
    rintro e w3 ⟨rfl, hb3⟩
    have ka3 := (ka2.call hb3).alloc (.cells #[.int .i64 y', .int .i64 m', .int .i64 d'] 24)
    have kb3 := Blk.new w3 24 #[.int .i64 y', .int .i64 m', .int .i64 d']
    have l3 := bl_alloc (bl_call l2 hb3) (.cells #[.int .i64 y', .int .i64 m', .int .i64 d'] 24)
    go_upto_region 7 with fail
    generalize w3.alloc (.cells #[.int .i64 y', .int .i64 m', .int .i64 d'] 24) = u3 at *
    generalize w2.heap.size = ga at *
    generalize w3.heap.size = gb at *
    clear hb1 hb2 hb3 ka2 l2 hal cA cB
    have ka4 := ka3.drew
    have kb4 := kb3.drew
    have hL4 : LB w u3.drew := LB.mk (bl_drew l3)
    have kaZ : Blk ((u3.alloc (.cells #[.string ⟨#[]⟩, .string ⟨#[]⟩, .int .i64 0, .int .i64 0, .int .i64 0, .int .i64 0, .int .i64 0, .int .i64 0, .slice none 0 0, .slice none 0 0, .slice none 0 0, .int .i64 0, .int .i64 0] 29)).drew) ga 24 #[.int .i64 y, .int .i64 m, .int .i64 d] := (ka3.alloc (.cells #[.string ⟨#[]⟩, .string ⟨#[]⟩, .int .i64 0, .int .i64 0, .int .i64 0, .int .i64 0, .int .i64 0, .int .i64 0, .slice none 0 0, .slice none 0 0, .slice none 0 0, .int .i64 0, .int .i64 0] 29)).drew
    have kbZ : Blk ((u3.alloc (.cells #[.string ⟨#[]⟩, .string ⟨#[]⟩, .int .i64 0, .int .i64 0, .int .i64 0, .int .i64 0, .int .i64 0, .int .i64 0, .slice none 0 0, .slice none 0 0, .slice none 0 0, .int .i64 0, .int .i64 0] 29)).drew) gb 24 #[.int .i64 y', .int .i64 m', .int .i64 d'] := (kb3.alloc (.cells #[.string ⟨#[]⟩, .string ⟨#[]⟩, .int .i64 0, .int .i64 0, .int .i64 0, .int .i64 0, .int .i64 0, .int .i64 0, .slice none 0 0, .slice none 0 0, .slice none 0 0, .int .i64 0, .int .i64 0] 29)).drew
    have hLZ : LB w ((u3.alloc (.cells #[.string ⟨#[]⟩, .string ⟨#[]⟩, .int .i64 0, .int .i64 0, .int .i64 0, .int .i64 0, .int .i64 0, .int .i64 0, .slice none 0 0, .slice none 0 0, .slice none 0 0, .int .i64 0, .int .i64 0] 29)).drew) := LB.mk (bl_drew (bl_alloc l3 (.cells #[.string ⟨#[]⟩, .string ⟨#[]⟩, .int .i64 0, .int .i64 0, .int .i64 0, .int .i64 0, .int .i64 0, .int .i64 0, .slice none 0 0, .slice none 0 0, .slice none 0 0, .int .i64 0, .int .i64 0] 29)))
    have kdZ : Blk ((u3.alloc (.cells #[.string ⟨#[]⟩, .string ⟨#[]⟩, .int .i64 0, .int .i64 0, .int .i64 0, .int .i64 0, .int .i64 0, .int .i64 0, .slice none 0 0, .slice none 0 0, .slice none 0 0, .int .i64 0, .int .i64 0] 29)).drew) u3.heap.size 29 #[.string ⟨#[]⟩, .string ⟨#[]⟩, .int .i64 0, .int .i64 0, .int .i64 0, .int .i64 0, .int .i64 0, .int .i64 0, .slice none 0 0, .slice none 0 0, .slice none 0 0, .int .i64 0, .int .i64 0] := (Blk.new u3 29 #[.string ⟨#[]⟩, .string ⟨#[]⟩, .int .i64 0, .int .i64 0, .int .i64 0, .int .i64 0, .int .i64 0, .int .i64 0, .slice none 0 0, .slice none 0 0, .slice none 0 0, .int .i64 0, .int .i64 0]).drew
    have la4 := ka3.lt
    have lb4 := kb3.lt
    obtain ⟨x0, x1, x2, _, _, _⟩ := ka4.c3
    obtain ⟨z0, z1, z2, _, _, _⟩ := kb4.c3
    obtain ⟨f0, f1, f2, _, _, _⟩ := kaZ.c3
    obtain ⟨g0, g1, g2, _, _, _⟩ := kbZ.c3
    go_region_held3 (fun w' => w'.cell? ⟨ga, 0, none⟩ = some (.int .i64 y) ∧ w'.cell? ⟨ga, 1, none⟩ = some (.int .i64 m) ∧ w'.cell? ⟨ga, 2, none⟩ = some (.int .i64 d) ∧ w'.cell? ⟨gb, 0, none⟩ = some (.int .i64 y') ∧ w'.cell? ⟨gb, 1, none⟩ = some (.int .i64 m') ∧ w'.cell? ⟨gb, 2, none⟩ = some (.int .i64 d'))
      (refine ⟨?_, ?_, ?_, ?_, ?_, ?_⟩ <;> (first | with_reducible assumption | ((repeat (first | with_reducible refine cell_al ?_ | with_reducible refine cell_set_ne ?_ (by dsimp only; omega))); with_reducible assumption)))
      ((first | (go_at_call 10; (try go_split_ands); (with_reducible refine (tA.out _).mono ?_); rintro e' w5 ⟨rfl, hb5⟩; (first | (have ka5 := ka4.call hb5; have kb5 := kb4.call hb5; have hL5 := hL4.call hb5) | (have ka5 := kaZ.call hb5; have kb5 := kbZ.call hb5; have hL5 := hLZ.call hb5; have kd5 := kdZ.call hb5; obtain ⟨d_0, d_1, d_2, d_3, d_4, d_5, d_6, d_7, d_8, d_9, d_10, d_11, d_12, _, _, _, _, _, _, _, _, _, _, _, _, _⟩ := kd5.c13; have ld5 := kd5.lt)); obtain ⟨p_0, p_1, p_2, _, _, _⟩ := ka5.c3; obtain ⟨q_0, q_1, q_2, _, _, _⟩ := kb5.c3; (have la5 := ka5.lt); (have lb5 := kb5.lt)) | (go_at_call 10; (try go_split_ands); (with_reducible refine (tB.out _).mono ?_); rintro e' w6 ⟨rfl, hb6⟩; (first | (have kd6 := kd5.call hb6; have ka6 := ka5.call hb6; have kb6 := kb5.call hb6; have hL6 := hL5.call hb6; obtain ⟨d_0, d_1, d_2, d_3, d_4, d_5, d_6, d_7, d_8, d_9, d_10, d_11, d_12, _, _, _, _, _, _, _, _, _, _, _, _, _⟩ := kd6.c13; have ld6 := kd6.lt) | (have ka6 := (ka5.alloc (.cells #[.string ⟨#[]⟩, .string ⟨#[]⟩, .int .i64 0, .int .i64 0, .int .i64 0, .int .i64 0, .int .i64 0, .int .i64 0, .slice none 0 0, .slice none 0 0, .slice none 0 0, .int .i64 0, .int .i64 0] 29)).call hb6; have kb6 := (kb5.alloc (.cells #[.string ⟨#[]⟩, .string ⟨#[]⟩, .int .i64 0, .int .i64 0, .int .i64 0, .int .i64 0, .int .i64 0, .int .i64 0, .slice none 0 0, .slice none 0 0, .slice none 0 0, .int .i64 0, .int .i64 0] 29)).call hb6; have hL6 := (hL5.alloc (.cells #[.string ⟨#[]⟩, .string ⟨#[]⟩, .int .i64 0, .int .i64 0, .int .i64 0, .int .i64 0, .int .i64 0, .int .i64 0, .slice none 0 0, .slice none 0 0, .slice none 0 0, .int .i64 0, .int .i64 0] 29)).call hb6; have kd6 := Blk.call (Blk.new _ 29 #[.string ⟨#[]⟩, .string ⟨#[]⟩, .int .i64 0, .int .i64 0, .int .i64 0, .int .i64 0, .int .i64 0, .int .i64 0, .slice none 0 0, .slice none 0 0, .slice none 0 0, .int .i64 0, .int .i64 0]) hb6; obtain ⟨d_0, d_1, d_2, d_3, d_4, d_5, d_6, d_7, d_8, d_9, d_10, d_11, d_12, _, _, _, _, _, _, _, _, _, _, _, _, _⟩ := kd6.c13; have ld6 := kd6.lt) | (have ka6 := ka5.call hb6; have kb6 := kb5.call hb6; have hL6 := hL5.call hb6)); obtain ⟨r_0, r_1, r_2, _, _, _⟩ := ka6.c3; obtain ⟨s_0, s_1, s_2, _, _, _⟩ := kb6.c3; (have la6 := ka6.lt); (have lb6 := kb6.lt)) | (go_at_call 6; (try go_split_ands); (refine (hX.out _ (by simp) _).mono ?_); rintro e' w7 ⟨v, rfl, hv, hb7⟩; obtain ⟨mv, fv, cv, cs, rfl, hR7⟩ := hv; obtain ⟨Am, cm, rfl, _, _, _⟩ := Lies.open (f := metF) (l := (horP (y, m, d) (y', m', d')).mets) (Lies.of hR7.mo); obtain ⟨Af, cf, rfl, _, _, _⟩ := Lies.open (f := feeF) (l := (horP (y, m, d) (y', m', d')).fees) (Lies.of hR7.fo); obtain ⟨Ac, cc, rfl, _, _, _⟩ := Lies.open (f := chgF) (l := cs) (Lies.of hR7.co); (first | (have kd7 := kd6.call hb7; have ka7 := ka6.call hb7; have kb7 := kb6.call hb7; have hL7 := hL6.call hb7; obtain ⟨d_0, d_1, d_2, d_3, d_4, d_5, d_6, d_7, d_8, d_9, d_10, d_11, d_12, _, _, _, _, _, _, _, _, _, _, _, _, _⟩ := kd7.c13; have ld7 := kd7.lt) | (have ka7 := (ka6.alloc (.cells #[.string ⟨#[]⟩, .string ⟨#[]⟩, .int .i64 0, .int .i64 0, .int .i64 0, .int .i64 0, .int .i64 0, .int .i64 0, .slice none 0 0, .slice none 0 0, .slice none 0 0, .int .i64 0, .int .i64 0] 29)).call hb7; have kb7 := (kb6.alloc (.cells #[.string ⟨#[]⟩, .string ⟨#[]⟩, .int .i64 0, .int .i64 0, .int .i64 0, .int .i64 0, .int .i64 0, .int .i64 0, .slice none 0 0, .slice none 0 0, .slice none 0 0, .int .i64 0, .int .i64 0] 29)).call hb7; have hL7 := (hL6.alloc (.cells #[.string ⟨#[]⟩, .string ⟨#[]⟩, .int .i64 0, .int .i64 0, .int .i64 0, .int .i64 0, .int .i64 0, .int .i64 0, .slice none 0 0, .slice none 0 0, .slice none 0 0, .int .i64 0, .int .i64 0] 29)).call hb7; have kd7 := Blk.call (Blk.new _ 29 #[.string ⟨#[]⟩, .string ⟨#[]⟩, .int .i64 0, .int .i64 0, .int .i64 0, .int .i64 0, .int .i64 0, .int .i64 0, .slice none 0 0, .slice none 0 0, .slice none 0 0, .int .i64 0, .int .i64 0]) hb7; obtain ⟨d_0, d_1, d_2, d_3, d_4, d_5, d_6, d_7, d_8, d_9, d_10, d_11, d_12, _, _, _, _, _, _, _, _, _, _, _, _, _⟩ := kd7.c13; have ld7 := kd7.lt) | (have ka7 := ka6.call hb7; have kb7 := kb6.call hb7; have hL7 := hL6.call hb7)); obtain ⟨t_0, t_1, t_2, _, _, _⟩ := ka7.c3; obtain ⟨v_0, v_1, v_2, _, _, _⟩ := kb7.c3; (have la7 := ka7.lt); (have lb7 := kb7.lt); unfold planC)))
    all_goals clear hX tA tB hL4 hLZ
    · have k9 := Blk.new w7 29 #[.string (horP (y, m, d) (y', m', d')).name, .string (horP (y, m, d) (y', m', d')).cur, .int .i64 (horP (y, m, d) (y', m', d')).from_.1, .int .i64 (horP (y, m, d) (y', m', d')).from_.2.1, .int .i64 (horP (y, m, d) (y', m', d')).from_.2.2, .int .i64 (horP (y, m, d) (y', m', d')).to_.1, .int .i64 (horP (y, m, d) (y', m', d')).to_.2.1, .int .i64 (horP (y, m, d) (y', m', d')).to_.2.2, .slice Am (horP (y, m, d) (y', m', d')).mets.length cm, .slice Af (horP (y, m, d) (y', m', d')).fees.length cf, .slice Ac cs.length cc, .int .i64 (horP (y, m, d) (y', m', d')).line, .int .i64 (horP (y, m, d) (y', m', d')).col]
      have R9 := hR7.below (bl_alloc (bl_refl w7) (.cells #[.string (horP (y, m, d) (y', m', d')).name, .string (horP (y, m, d) (y', m', d')).cur, .int .i64 (horP (y, m, d) (y', m', d')).from_.1, .int .i64 (horP (y, m, d) (y', m', d')).from_.2.1, .int .i64 (horP (y, m, d) (y', m', d')).from_.2.2, .int .i64 (horP (y, m, d) (y', m', d')).to_.1, .int .i64 (horP (y, m, d) (y', m', d')).to_.2.1, .int .i64 (horP (y, m, d) (y', m', d')).to_.2.2, .slice Am (horP (y, m, d) (y', m', d')).mets.length cm, .slice Af (horP (y, m, d) (y', m', d')).fees.length cf, .slice Ac cs.length cc, .int .i64 (horP (y, m, d) (y', m', d')).line, .int .i64 (horP (y, m, d) (y', m', d')).col] 29))
      have l9 := bl_alloc hL7.out (.cells #[.string (horP (y, m, d) (y', m', d')).name, .string (horP (y, m, d) (y', m', d')).cur, .int .i64 (horP (y, m, d) (y', m', d')).from_.1, .int .i64 (horP (y, m, d) (y', m', d')).from_.2.1, .int .i64 (horP (y, m, d) (y', m', d')).from_.2.2, .int .i64 (horP (y, m, d) (y', m', d')).to_.1, .int .i64 (horP (y, m, d) (y', m', d')).to_.2.1, .int .i64 (horP (y, m, d) (y', m', d')).to_.2.2, .slice Am (horP (y, m, d) (y', m', d')).mets.length cm, .slice Af (horP (y, m, d) (y', m', d')).fees.length cf, .slice Ac cs.length cc, .int .i64 (horP (y, m, d) (y', m', d')).line, .int .i64 (horP (y, m, d) (y', m', d')).col] 29)
      clear la7 lb7 la6 lb6 la5 lb5 hR7 hL7 hL6 hL5
      obtain ⟨v0, v1, v2, v3, v4, v5, v6, v7, v8, v9, v10, v11, v12, _, _, _, _, _, _, _, _, _, _, _, _, _⟩ := k9.c13
      rcases (by omega : b < a ∨ (a ≤ b ∧ 4000 ≤ b - a) ∨ (a ≤ b ∧ b - a < 4000)) with s1 | ⟨s1, s2⟩ | ⟨s1, s2⟩
      · have d1 := decide_eq_true s1
        have hC := cplan_any (horP (y, m, d) (y', m', d')) Am Af Ac cm cf cc cs _ R9 hPk.out
        have hk := hck.out
        rw [if_pos s1] at hk
        rw [hk] at hC
        replace hC := Lib.hid hC
        clear hk R9
        go_wp2_with fail
        refine hC.out.mono ?_
        rintro e w9 ⟨rfl, hb9⟩
        go_wp2_with fail
        go_ret
        exact ⟨by first | rfl | simp, bl_alloc (bl_call l9 hb9) _⟩
      · have d1 : decide (b < a) = false := decide_eq_false (by omega)
        have d2 : decide (3999 < b - a) = true := decide_eq_true (by omega)
        have hwr : IntKind.i64.wrap (b - a) = b - a := IntWalk.i64_in _ (by omega)
        have hC := cplan_any (horP (y, m, d) (y', m', d')) Am Af Ac cm cf cc cs _ R9 hPk.out
        have hk := hck.out
        rw [if_neg (by omega), if_pos s2] at hk
        rw [hk] at hC
        replace hC := Lib.hid hC
        clear hk R9
        go_wp2_with fail
        refine hC.out.mono ?_
        rintro e w9 ⟨rfl, hb9⟩
        go_wp2_with fail
        go_ret
        exact ⟨by first | rfl | simp, bl_alloc (bl_call l9 hb9) _⟩
      · have d1 : decide (b < a) = false := decide_eq_false (by omega)
        have d2 : decide (3999 < b - a) = false := decide_eq_false (by omega)
        have hwr : IntKind.i64.wrap (b - a) = b - a := IntWalk.i64_in _ (by omega)
        have hC := cplan_any (horP (y, m, d) (y', m', d')) Am Af Ac cm cf cc cs _ R9 hPk.out
        have hk := hck.out
        rw [if_neg (by omega), if_neg (by omega)] at hk
        rw [hk] at hC
        replace hC := Lib.hid hC
        clear hk R9
        go_wp2_with fail
        refine hC.out.mono ?_
        rintro e w9 ⟨rfl, hb9⟩
        go_wp2_with fail
        go_ret
        exact ⟨by first | rfl | simp, bl_alloc (bl_call l9 hb9) _⟩
    · have hng := hR7.notBelow (g := w6.heap.size) (by first | omega | (rw [World.size_alloc]; omega) | (show _ < (World.alloc _ _).heap.size; rw [World.size_alloc]; omega))
      have hle : w.heap.size ≤ w6.heap.size := hL6.out.size
      have k9 := kd7.putAll [.string (horP (y, m, d) (y', m', d')).name, .string (horP (y, m, d) (y', m', d')).cur, .int .i64 (horP (y, m, d) (y', m', d')).from_.1, .int .i64 (horP (y, m, d) (y', m', d')).from_.2.1, .int .i64 (horP (y, m, d) (y', m', d')).from_.2.2, .int .i64 (horP (y, m, d) (y', m', d')).to_.1, .int .i64 (horP (y, m, d) (y', m', d')).to_.2.1, .int .i64 (horP (y, m, d) (y', m', d')).to_.2.2, .slice Am (horP (y, m, d) (y', m', d')).mets.length cm, .slice Af (horP (y, m, d) (y', m', d')).fees.length cf, .slice Ac cs.length cc, .int .i64 (horP (y, m, d) (y', m', d')).line, .int .i64 (horP (y, m, d) (y', m', d')).col] 0
      rw [sets13] at k9
      have l9 := bl_puts hL7.out hle 0 [.string (horP (y, m, d) (y', m', d')).name, .string (horP (y, m, d) (y', m', d')).cur, .int .i64 (horP (y, m, d) (y', m', d')).from_.1, .int .i64 (horP (y, m, d) (y', m', d')).from_.2.1, .int .i64 (horP (y, m, d) (y', m', d')).from_.2.2, .int .i64 (horP (y, m, d) (y', m', d')).to_.1, .int .i64 (horP (y, m, d) (y', m', d')).to_.2.1, .int .i64 (horP (y, m, d) (y', m', d')).to_.2.2, .slice Am (horP (y, m, d) (y', m', d')).mets.length cm, .slice Af (horP (y, m, d) (y', m', d')).fees.length cf, .slice Ac cs.length cc, .int .i64 (horP (y, m, d) (y', m', d')).line, .int .i64 (horP (y, m, d) (y', m', d')).col]
      have R9 := hR7.puts_ hng 0 [.string (horP (y, m, d) (y', m', d')).name, .string (horP (y, m, d) (y', m', d')).cur, .int .i64 (horP (y, m, d) (y', m', d')).from_.1, .int .i64 (horP (y, m, d) (y', m', d')).from_.2.1, .int .i64 (horP (y, m, d) (y', m', d')).from_.2.2, .int .i64 (horP (y, m, d) (y', m', d')).to_.1, .int .i64 (horP (y, m, d) (y', m', d')).to_.2.1, .int .i64 (horP (y, m, d) (y', m', d')).to_.2.2, .slice Am (horP (y, m, d) (y', m', d')).mets.length cm, .slice Af (horP (y, m, d) (y', m', d')).fees.length cf, .slice Ac cs.length cc, .int .i64 (horP (y, m, d) (y', m', d')).line, .int .i64 (horP (y, m, d) (y', m', d')).col]
      simp only [puts, Nat.zero_add, Nat.reduceAdd] at k9 l9 R9
      clear kd7 hng hle la7 lb7 la6 lb6 la5 lb5 ld7 hR7 hL7 hL6 hL5
      obtain ⟨v0, v1, v2, v3, v4, v5, v6, v7, v8, v9, v10, v11, v12, _, _, _, _, _, _, _, _, _, _, _, _, _⟩ := k9.c13
      rcases (by omega : b < a ∨ (a ≤ b ∧ 4000 ≤ b - a) ∨ (a ≤ b ∧ b - a < 4000)) with s1 | ⟨s1, s2⟩ | ⟨s1, s2⟩
      · have d1 := decide_eq_true s1
        have hC := cplan_any (horP (y, m, d) (y', m', d')) Am Af Ac cm cf cc cs _ R9 hPk.out
        have hk := hck.out
        rw [if_pos s1] at hk
        rw [hk] at hC
        replace hC := Lib.hid hC
        clear hk R9
        go_wp2_with fail
        refine hC.out.mono ?_
        rintro e w9 ⟨rfl, hb9⟩
        go_wp2_with fail
        go_ret
        exact ⟨by first | rfl | simp, bl_alloc (bl_call l9 hb9) _⟩
      · have d1 : decide (b < a) = false := decide_eq_false (by omega)
        have d2 : decide (3999 < b - a) = true := decide_eq_true (by omega)
        have hwr : IntKind.i64.wrap (b - a) = b - a := IntWalk.i64_in _ (by omega)
        have hC := cplan_any (horP (y, m, d) (y', m', d')) Am Af Ac cm cf cc cs _ R9 hPk.out
        have hk := hck.out
        rw [if_neg (by omega), if_pos s2] at hk
        rw [hk] at hC
        replace hC := Lib.hid hC
        clear hk R9
        go_wp2_with fail
        refine hC.out.mono ?_
        rintro e w9 ⟨rfl, hb9⟩
        go_wp2_with fail
        go_ret
        exact ⟨by first | rfl | simp, bl_alloc (bl_call l9 hb9) _⟩
      · have d1 : decide (b < a) = false := decide_eq_false (by omega)
        have d2 : decide (3999 < b - a) = false := decide_eq_false (by omega)
        have hwr : IntKind.i64.wrap (b - a) = b - a := IntWalk.i64_in _ (by omega)
        have hC := cplan_any (horP (y, m, d) (y', m', d')) Am Af Ac cm cf cc cs _ R9 hPk.out
        have hk := hck.out
        rw [if_neg (by omega), if_neg (by omega)] at hk
        rw [hk] at hC
        replace hC := Lib.hid hC
        clear hk R9
        go_wp2_with fail
        refine hC.out.mono ?_
        rintro e w9 ⟨rfl, hb9⟩
        go_wp2_with fail
        go_ret
        exact ⟨by first | rfl | simp, bl_alloc (bl_call l9 hb9) _⟩
    · have hng := hR7.notBelow (g := w5.heap.size) (by first | omega | (rw [World.size_alloc]; omega) | (show _ < (World.alloc _ _).heap.size; rw [World.size_alloc]; omega))
      have hle : w.heap.size ≤ w5.heap.size := hL5.out.size
      have k9 := kd7.putAll [.string (horP (y, m, d) (y', m', d')).name, .string (horP (y, m, d) (y', m', d')).cur, .int .i64 (horP (y, m, d) (y', m', d')).from_.1, .int .i64 (horP (y, m, d) (y', m', d')).from_.2.1, .int .i64 (horP (y, m, d) (y', m', d')).from_.2.2, .int .i64 (horP (y, m, d) (y', m', d')).to_.1, .int .i64 (horP (y, m, d) (y', m', d')).to_.2.1, .int .i64 (horP (y, m, d) (y', m', d')).to_.2.2, .slice Am (horP (y, m, d) (y', m', d')).mets.length cm, .slice Af (horP (y, m, d) (y', m', d')).fees.length cf, .slice Ac cs.length cc, .int .i64 (horP (y, m, d) (y', m', d')).line, .int .i64 (horP (y, m, d) (y', m', d')).col] 0
      rw [sets13] at k9
      have l9 := bl_puts hL7.out hle 0 [.string (horP (y, m, d) (y', m', d')).name, .string (horP (y, m, d) (y', m', d')).cur, .int .i64 (horP (y, m, d) (y', m', d')).from_.1, .int .i64 (horP (y, m, d) (y', m', d')).from_.2.1, .int .i64 (horP (y, m, d) (y', m', d')).from_.2.2, .int .i64 (horP (y, m, d) (y', m', d')).to_.1, .int .i64 (horP (y, m, d) (y', m', d')).to_.2.1, .int .i64 (horP (y, m, d) (y', m', d')).to_.2.2, .slice Am (horP (y, m, d) (y', m', d')).mets.length cm, .slice Af (horP (y, m, d) (y', m', d')).fees.length cf, .slice Ac cs.length cc, .int .i64 (horP (y, m, d) (y', m', d')).line, .int .i64 (horP (y, m, d) (y', m', d')).col]
      have R9 := hR7.puts_ hng 0 [.string (horP (y, m, d) (y', m', d')).name, .string (horP (y, m, d) (y', m', d')).cur, .int .i64 (horP (y, m, d) (y', m', d')).from_.1, .int .i64 (horP (y, m, d) (y', m', d')).from_.2.1, .int .i64 (horP (y, m, d) (y', m', d')).from_.2.2, .int .i64 (horP (y, m, d) (y', m', d')).to_.1, .int .i64 (horP (y, m, d) (y', m', d')).to_.2.1, .int .i64 (horP (y, m, d) (y', m', d')).to_.2.2, .slice Am (horP (y, m, d) (y', m', d')).mets.length cm, .slice Af (horP (y, m, d) (y', m', d')).fees.length cf, .slice Ac cs.length cc, .int .i64 (horP (y, m, d) (y', m', d')).line, .int .i64 (horP (y, m, d) (y', m', d')).col]
      simp only [puts, Nat.zero_add, Nat.reduceAdd] at k9 l9 R9
      clear kd7 hng hle la7 lb7 la6 lb6 la5 lb5 ld7 hR7 hL7 hL6 hL5
      obtain ⟨v0, v1, v2, v3, v4, v5, v6, v7, v8, v9, v10, v11, v12, _, _, _, _, _, _, _, _, _, _, _, _, _⟩ := k9.c13
      rcases (by omega : b < a ∨ (a ≤ b ∧ 4000 ≤ b - a) ∨ (a ≤ b ∧ b - a < 4000)) with s1 | ⟨s1, s2⟩ | ⟨s1, s2⟩
      · have d1 := decide_eq_true s1
        have hC := cplan_any (horP (y, m, d) (y', m', d')) Am Af Ac cm cf cc cs _ R9 hPk.out
        have hk := hck.out
        rw [if_pos s1] at hk
        rw [hk] at hC
        replace hC := Lib.hid hC
        clear hk R9
        go_wp2_with fail
        refine hC.out.mono ?_
        rintro e w9 ⟨rfl, hb9⟩
        go_wp2_with fail
        go_ret
        exact ⟨by first | rfl | simp, bl_alloc (bl_call l9 hb9) _⟩
      · have d1 : decide (b < a) = false := decide_eq_false (by omega)
        have d2 : decide (3999 < b - a) = true := decide_eq_true (by omega)
        have hwr : IntKind.i64.wrap (b - a) = b - a := IntWalk.i64_in _ (by omega)
        have hC := cplan_any (horP (y, m, d) (y', m', d')) Am Af Ac cm cf cc cs _ R9 hPk.out
        have hk := hck.out
        rw [if_neg (by omega), if_pos s2] at hk
        rw [hk] at hC
        replace hC := Lib.hid hC
        clear hk R9
        go_wp2_with fail
        refine hC.out.mono ?_
        rintro e w9 ⟨rfl, hb9⟩
        go_wp2_with fail
        go_ret
        exact ⟨by first | rfl | simp, bl_alloc (bl_call l9 hb9) _⟩
      · have d1 : decide (b < a) = false := decide_eq_false (by omega)
        have d2 : decide (3999 < b - a) = false := decide_eq_false (by omega)
        have hwr : IntKind.i64.wrap (b - a) = b - a := IntWalk.i64_in _ (by omega)
        have hC := cplan_any (horP (y, m, d) (y', m', d')) Am Af Ac cm cf cc cs _ R9 hPk.out
        have hk := hck.out
        rw [if_neg (by omega), if_neg (by omega)] at hk
        rw [hk] at hC
        replace hC := Lib.hid hC
        clear hk R9
        go_wp2_with fail
        refine hC.out.mono ?_
        rintro e w9 ⟨rfl, hb9⟩
        go_wp2_with fail
        go_ret
        exact ⟨by first | rfl | simp, bl_alloc (bl_call l9 hb9) _⟩
    · have hng := hR7.notBelow (g := u3.heap.size) (by first | omega | (rw [World.size_alloc]; omega) | (show _ < (World.alloc _ _).heap.size; rw [World.size_alloc]; omega))
      have hle : w.heap.size ≤ u3.heap.size := l3.size
      have k9 := kd7.putAll [.string (horP (y, m, d) (y', m', d')).name, .string (horP (y, m, d) (y', m', d')).cur, .int .i64 (horP (y, m, d) (y', m', d')).from_.1, .int .i64 (horP (y, m, d) (y', m', d')).from_.2.1, .int .i64 (horP (y, m, d) (y', m', d')).from_.2.2, .int .i64 (horP (y, m, d) (y', m', d')).to_.1, .int .i64 (horP (y, m, d) (y', m', d')).to_.2.1, .int .i64 (horP (y, m, d) (y', m', d')).to_.2.2, .slice Am (horP (y, m, d) (y', m', d')).mets.length cm, .slice Af (horP (y, m, d) (y', m', d')).fees.length cf, .slice Ac cs.length cc, .int .i64 (horP (y, m, d) (y', m', d')).line, .int .i64 (horP (y, m, d) (y', m', d')).col] 0
      rw [sets13] at k9
      have l9 := bl_puts hL7.out hle 0 [.string (horP (y, m, d) (y', m', d')).name, .string (horP (y, m, d) (y', m', d')).cur, .int .i64 (horP (y, m, d) (y', m', d')).from_.1, .int .i64 (horP (y, m, d) (y', m', d')).from_.2.1, .int .i64 (horP (y, m, d) (y', m', d')).from_.2.2, .int .i64 (horP (y, m, d) (y', m', d')).to_.1, .int .i64 (horP (y, m, d) (y', m', d')).to_.2.1, .int .i64 (horP (y, m, d) (y', m', d')).to_.2.2, .slice Am (horP (y, m, d) (y', m', d')).mets.length cm, .slice Af (horP (y, m, d) (y', m', d')).fees.length cf, .slice Ac cs.length cc, .int .i64 (horP (y, m, d) (y', m', d')).line, .int .i64 (horP (y, m, d) (y', m', d')).col]
      have R9 := hR7.puts_ hng 0 [.string (horP (y, m, d) (y', m', d')).name, .string (horP (y, m, d) (y', m', d')).cur, .int .i64 (horP (y, m, d) (y', m', d')).from_.1, .int .i64 (horP (y, m, d) (y', m', d')).from_.2.1, .int .i64 (horP (y, m, d) (y', m', d')).from_.2.2, .int .i64 (horP (y, m, d) (y', m', d')).to_.1, .int .i64 (horP (y, m, d) (y', m', d')).to_.2.1, .int .i64 (horP (y, m, d) (y', m', d')).to_.2.2, .slice Am (horP (y, m, d) (y', m', d')).mets.length cm, .slice Af (horP (y, m, d) (y', m', d')).fees.length cf, .slice Ac cs.length cc, .int .i64 (horP (y, m, d) (y', m', d')).line, .int .i64 (horP (y, m, d) (y', m', d')).col]
      simp only [puts, Nat.zero_add, Nat.reduceAdd] at k9 l9 R9
      clear kd7 hng hle la7 lb7 la6 lb6 la5 lb5 ld7 hR7 hL7 hL6 hL5
      obtain ⟨v0, v1, v2, v3, v4, v5, v6, v7, v8, v9, v10, v11, v12, _, _, _, _, _, _, _, _, _, _, _, _, _⟩ := k9.c13
      rcases (by omega : b < a ∨ (a ≤ b ∧ 4000 ≤ b - a) ∨ (a ≤ b ∧ b - a < 4000)) with s1 | ⟨s1, s2⟩ | ⟨s1, s2⟩
      · have d1 := decide_eq_true s1
        have hC := cplan_any (horP (y, m, d) (y', m', d')) Am Af Ac cm cf cc cs _ R9 hPk.out
        have hk := hck.out
        rw [if_pos s1] at hk
        rw [hk] at hC
        replace hC := Lib.hid hC
        clear hk R9
        go_wp2_with fail
        refine hC.out.mono ?_
        rintro e w9 ⟨rfl, hb9⟩
        go_wp2_with fail
        go_ret
        exact ⟨by first | rfl | simp, bl_alloc (bl_call l9 hb9) _⟩
      · have d1 : decide (b < a) = false := decide_eq_false (by omega)
        have d2 : decide (3999 < b - a) = true := decide_eq_true (by omega)
        have hwr : IntKind.i64.wrap (b - a) = b - a := IntWalk.i64_in _ (by omega)
        have hC := cplan_any (horP (y, m, d) (y', m', d')) Am Af Ac cm cf cc cs _ R9 hPk.out
        have hk := hck.out
        rw [if_neg (by omega), if_pos s2] at hk
        rw [hk] at hC
        replace hC := Lib.hid hC
        clear hk R9
        go_wp2_with fail
        refine hC.out.mono ?_
        rintro e w9 ⟨rfl, hb9⟩
        go_wp2_with fail
        go_ret
        exact ⟨by first | rfl | simp, bl_alloc (bl_call l9 hb9) _⟩
      · have d1 : decide (b < a) = false := decide_eq_false (by omega)
        have d2 : decide (3999 < b - a) = false := decide_eq_false (by omega)
        have hwr : IntKind.i64.wrap (b - a) = b - a := IntWalk.i64_in _ (by omega)
        have hC := cplan_any (horP (y, m, d) (y', m', d')) Am Af Ac cm cf cc cs _ R9 hPk.out
        have hk := hck.out
        rw [if_neg (by omega), if_neg (by omega)] at hk
        rw [hk] at hC
        replace hC := Lib.hid hC
        clear hk R9
        go_wp2_with fail
        refine hC.out.mono ?_
        rintro e w9 ⟨rfl, hb9⟩
        go_wp2_with fail
        go_ret
        exact ⟨by first | rfl | simp, bl_alloc (bl_call l9 hb9) _⟩
end Go.Proofs.Ytcgkfgklggjmaaa.Par
end
