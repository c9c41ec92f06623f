import Derived.Test.YtaccanfjplgfnaaDoorDateF
namespace Go.Proofs.YtaccanfjplgfnaaDoor
set_option linter.unusedVariables false
set_option linter.unusedSimpArgs false
open Go.RowKit
def kDays (y : Int) : Int := 365 + lp y
theorem kDays_bd (y : Int) : 365 ≤ kDays y ∧ kDays y ≤ 366 := by have := lp_01 y; unfold kDays; omega
theorem kDays_t {y : Int} (h : leapB y = true) : kDays y = 366 := by simp [kDays, lp, h]
theorem kDays_f {y : Int} (h : leapB y = false) : kDays y = 365 := by simp [kDays, lp, h]
theorem dby_k (y : Int) : dby (y + 1) = dby y + kDays y := by have := dby_succ y; unfold kDays; omega
set_option maxHeartbeats 2000000 in
set_option maxRecDepth 100000 in
theorem rof_no (n : Int) (w : World) (hn : n < 0 ∨ 3652059 ≤ n) :
    Calls Tryd.prog 21 #[.int .i64 n] w fun e w' => e = .returned (.tuple #[.agg #[.int .i64 0, .int .i64 0, .int .i64 0], .bool false]) ∧ Below w.heap.size w w' := by
  go_enter Tryd.func21, Tryd.ntmps21
  have kb := Blk.new w 23 #[.int .i64 0, .int .i64 0, .int .i64 0]
  have hb0 := bl_alloc (bl_refl w) (.cells #[.int .i64 0, .int .i64 0, .int .i64 0] 23)
  rcases (by omega : n < 0 ∨ (0 ≤ n ∧ 4000000 < n) ∨ (3652059 ≤ n ∧ n ≤ 4000000)) with hn | ⟨hn0, hn⟩ | ⟨hn0, hn⟩
  · go_wp2_with fail
    exact bodyPost_ret (results_cell_tmp_row rfl _ _ w.heap.size _ #[.int .i64 0, .int .i64 0, .int .i64 0] _ rfl kb Tryd.underlying23 rfl (by kernel_rfl)) rfl ⟨rfl, hb0⟩
  · go_wp2_with fail
    exact bodyPost_ret (results_cell_tmp_row rfl _ _ w.heap.size _ #[.int .i64 0, .int .i64 0, .int .i64 0] _ rfl kb Tryd.underlying23 rfl (by kernel_rfl)) rfl ⟨rfl, hb0⟩
  · go_wp2_with fail
    generalize w.alloc (.cells #[.int .i64 0, .int .i64 0, .int .i64 0] 23) = w0 at *
    go_loop [0, 4] (fun v0 v4 => ∃ k : Int, 1 ≤ k ∧ k ≤ 10000 ∧ v4 = .int .i64 k ∧ v0 = .int .i64 (n - dby k)) (fun _ v4 => (10000 - intOf v4).toNat)
    case atStart => exact ⟨1, by omega, by omega, rfl, by rw [dby_one]; congr 1; omega⟩
    case round =>
      obtain ⟨k, k1, k2, rfl, rfl⟩ := hrel
      have hz := dby_bd k k1 (by omega)
      obtain ⟨hz1, hz2⟩ := hz
      by_cases hlt : k ≤ 9999
      · have e1 := dby_mono (k + 1) 10000 (by omega)
        rw [dby_end] at e1
        have DS := Lib.hid (dby_k k)
        have e2 : kDays k ≤ n - dby k := by have := DS.out; omega
        clear e1
        cases hlp : leapB k with
        | true =>
          have HL := Lib.hid (kDays_t hlp)
          rw [HL.out] at e2
          go_wp2_with (go_at_call 11; refine (rleap_any _ _).mono ?_; rintro e w' ⟨rfl, rfl⟩)
          go_round
          case rel => exact ⟨k + 1, by omega, by omega, rfl, by rw [DS.out, HL.out]; congr 1; omega⟩
          case measure => simp [intOf]; omega
        | false =>
          have HL := Lib.hid (kDays_f hlp)
          rw [HL.out] at e2
          go_wp2_with (go_at_call 11; refine (rleap_any _ _).mono ?_; rintro e w' ⟨rfl, rfl⟩)
          go_round
          case rel => exact ⟨k + 1, by omega, by omega, rfl, by rw [DS.out, HL.out]; congr 1; omega⟩
          case measure => simp [intOf]; omega
      · obtain ⟨c0, c1, c2, _, _, _⟩ := kb.c3
        go_wp2_with fail
        exact bodyPost_ret (results_cell_tmp_row rfl _ _ w.heap.size _ #[.int .i64 0, .int .i64 0, .int .i64 0] _ rfl (((kb.set_ 0 _).set_ 1 _).set_ 2 _) Tryd.underlying23 rfl (by kernel_rfl)) rfl ⟨rfl, bl_set (bl_set (bl_set hb0 (Nat.le_refl _) _) (Nat.le_refl _) _) (Nat.le_refl _) _⟩
set_option maxHeartbeats 4000000 in
set_option maxRecDepth 100000 in
theorem rof_yes (y m d : Int) (w : World) (hg : goodB y m d = true) :
    Calls Tryd.prog 21 #[.int .i64 (numD y m d)] w fun e w' => e = .returned (.tuple #[.agg #[.int .i64 y, .int .i64 m, .int .i64 d], .bool true]) ∧ Below w.heap.size w w' := by
  obtain ⟨g1, g2, g3, g4, g5, g6, g7⟩ := good_of hg
  obtain ⟨n1, n2⟩ := num_bd hg
  obtain ⟨z1, z2⟩ := num_in_year hg
  obtain ⟨N, hN⟩ : ∃ N, N = numD y m d := ⟨_, rfl⟩
  rw [← hN] at n1 n2 z1 z2 ⊢
  have HN := Lib.hid hN
  clear hN
  go_enter Tryd.func21, Tryd.ntmps21
  have kb := Blk.new w 23 #[.int .i64 0, .int .i64 0, .int .i64 0]
  have hb0 := bl_alloc (bl_refl w) (.cells #[.int .i64 0, .int .i64 0, .int .i64 0] 23)
  go_wp2_with fail
  generalize w.alloc (.cells #[.int .i64 0, .int .i64 0, .int .i64 0] 23) = w0 at *
  go_loop [0, 4] (fun v0 v4 => ∃ k : Int, 1 ≤ k ∧ k ≤ y ∧ v4 = .int .i64 k ∧ v0 = .int .i64 (N - dby k)) (fun _ v4 => (y - intOf v4).toNat)
  case atStart => exact ⟨1, by omega, by omega, rfl, by rw [dby_one]; congr 1; omega⟩
  case round =>
    obtain ⟨k, k1, k2, rfl, rfl⟩ := hrel
    have hz := dby_bd k k1 (by omega)
    obtain ⟨hz1, hz2⟩ := hz
    have k9 : k ≤ 9999 := by omega
    by_cases hlt : k < y
    · have e1 := dby_mono (k + 1) y (by omega)
      have DS := Lib.hid (dby_k k)
      have e2 : kDays k ≤ N - dby k := by have := DS.out; omega
      clear e1
      cases hlp : leapB k with
      | true =>
        have HL := Lib.hid (kDays_t hlp)
        rw [HL.out] at e2
        go_wp2_with (go_at_call 11; refine (rleap_any _ _).mono ?_; rintro e w' ⟨rfl, rfl⟩)
        go_round
        case rel => exact ⟨k + 1, by omega, by omega, rfl, by rw [DS.out, HL.out]; congr 1; omega⟩
        case measure => simp [intOf]; omega
      | false =>
        have HL := Lib.hid (kDays_f hlp)
        rw [HL.out] at e2
        go_wp2_with (go_at_call 11; refine (rleap_any _ _).mono ?_; rintro e w' ⟨rfl, rfl⟩)
        go_round
        case rel => exact ⟨k + 1, by omega, by omega, rfl, by rw [DS.out, HL.out]; congr 1; omega⟩
        case measure => simp [intOf]; omega
    · obtain rfl : k = y := by omega
      have DS := dby_k k
      have e2 : N - dby k < kDays k := by omega
      have e3 : cum k m + d - 1 = N - dby k := by have := HN.out; unfold numD at this; omega
      have HC := Lib.hid e3
      have e4 : 0 ≤ N - dby k ∧ N - dby k ≤ 366 := by have := kDays_bd k; omega
      obtain ⟨e5, e6⟩ := e4
      have hc := cum_bd k m
      obtain ⟨hc1, hc2⟩ := hc
      clear e3 DS
      cases hlp : leapB k
      case' true => have HL := Lib.hid (kDays_t hlp)
      case' false => have HL := Lib.hid (kDays_f hlp)
      all_goals
        rw [HL.out] at e2
        go_wp2_with (go_at_call 11; refine (rleap_any _ _).mono ?_; rintro e w' ⟨rfl, rfl⟩)
        go_loopw [0, 6] (fun v0 v6 wr => ∃ j : Int, 1 ≤ j ∧ j ≤ m ∧ v6 = .int .i64 j ∧ v0 = .int .i64 (cum k m - cum k j + d - 1) ∧ Blk wr w.heap.size 23 #[.int .i64 0, .int .i64 0, .int .i64 0] ∧ Below w.heap.size w wr) (fun _ v6 _ => (m - intOf v6).toNat)
        case atStart => exact ⟨1, by omega, by omega, rfl, by rw [cum_one, ← HC.out]; congr 1; omega, kb, hb0⟩
        case round =>
          obtain ⟨j, j1, j2, rfl, rfl, hk, hbw⟩ := hrel
          have db := days_bd k j
          obtain ⟨db1, db2⟩ := db
          have cb := cum_bd k j
          obtain ⟨cb1, cb2⟩ := cb
          have j12 : j ≤ 12 := by omega
          by_cases hlj : j < m
          · have CS := Lib.hid (cum_succ k j j1 (by omega))
            have hge : daysI k j ≤ cum k m - cum k j + d - 1 := by
              have h1 := CS.out
              have h2 := cum_mono k (j + 1) m (by omega) (by omega) (by omega)
              omega
            go_wp2_with (go_at_call 13; refine (rdays_any _ _ _).mono ?_; rintro e w1 ⟨rfl, hb1⟩; have hbx := bl_call hbw hb1; have hkx := hk.call hb1)
            go_wp2_with (go_at_call 13; refine (rdays_any _ _ _).mono ?_; rintro e w2 ⟨rfl, hb2⟩; have hby := bl_call hbx hb2; have hky := hkx.call hb2)
            go_roundw
            case rel => exact ⟨j + 1, by omega, by omega, rfl, by rw [CS.out]; congr 1; omega, hky, hby⟩
            case measure => simp [intOf]; omega
          · obtain rfl : j = m := by omega
            have hlt2 : cum k j - cum k j + d - 1 < daysI k j := by omega
            obtain ⟨c0, c1, c2, _, _, _⟩ := hk.c3
            go_wp2_with (go_at_call 13; refine (rdays_any _ _ _).mono ?_; rintro e w1 ⟨rfl, hb1⟩; have hbx := bl_call hbw hb1; have hkx := hk.call hb1; obtain ⟨c0, c1, c2, _, _, _⟩ := hkx.c3)
            exact bodyPost_ret (results_cell_tmp_row rfl _ _ w.heap.size _ #[.int .i64 k, .int .i64 j, .int .i64 d] _ rfl (((hkx.set_ 0 _).set_ 1 _).set_ 2 _) Tryd.underlying23 rfl (by kernel_rfl)) rfl ⟨rfl, bl_set (bl_set (bl_set hbx (Nat.le_refl _) _) (Nat.le_refl _) _) (Nat.le_refl _) _⟩
end Go.Proofs.YtaccanfjplgfnaaDoor
