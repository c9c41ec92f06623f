import Derived.Test.YtaccanfjplgfnaaDoorDateE
namespace Go.Proofs.YtaccanfjplgfnaaDoor
set_option linter.unusedVariables false
set_option linter.unusedSimpArgs false
open Go.RowKit
theorem good_first (y : Int) (h1 : 1 ≤ y) (h2 : y ≤ 9999) : goodB y 1 1 = true := good_mk h1 h2 (by omega) (by have := days_pos y 1 (by omega) (by omega); omega)
theorem bad_first (y : Int) (h1 : 9999 < y) : goodB y 1 1 = false := by
  cases h : goodB y 1 1 with
  | false => rfl
  | true => have := good_of h; omega
theorem num_first1 (y : Int) : numD y 1 1 = dby y := by unfold numD; rw [cum_one]; omega
theorem nN_first (y : Int) (h1 : 1 ≤ y) (h2 : y ≤ 9999) : nN y 1 1 = dby y := by rw [nN_yes (good_first y h1 h2), num_first1]
theorem year_low {y m d : Int} (h : goodB y m d = true) : 1 + numD y m d / 366 ≤ y := by
  have h1 := num_in_year h
  obtain ⟨h2, _⟩ := good_of h
  unfold dby at h1
  omega
set_option maxHeartbeats 2000000 in
set_option maxRecDepth 100000 in
theorem of_no (n : Int) (w : World) (hn : n < 0 ∨ 3652059 ≤ n) :
    Calls Tryd.prog 20 #[.int .i64 n] w fun e w' => e = .returned (.tuple #[.agg #[.int .i64 0, .int .i64 0, .int .i64 0], .bool false]) ∧ Below w.heap.size w w' := by
  go_enter Tryd.func20, Tryd.ntmps20
  have kb := Blk.new w 23 #[.int .i64 0, .int .i64 0, .int .i64 0]
  rcases hn with hn | hn
  · go_wp2_with fail
    exact bodyPost_ret (results_cell_tmp_row rfl _ _ w.heap.size _ #[.int .i64 0, .int .i64 0, .int .i64 0] _ rfl kb Tryd.underlying23 rfl (by kernel_rfl)) rfl ⟨rfl, bl_alloc (bl_refl _) _⟩
  · go_wp2_with fail
    exact bodyPost_ret (results_cell_tmp_row rfl _ _ w.heap.size _ #[.int .i64 0, .int .i64 0, .int .i64 0] _ rfl kb Tryd.underlying23 rfl (by kernel_rfl)) rfl ⟨rfl, bl_alloc (bl_refl _) _⟩
set_option maxHeartbeats 2000000 in
set_option maxRecDepth 100000 in
theorem of_yes (y m d : Int) (w : World) (hg : goodB y m d = true) :
    Calls Tryd.prog 20 #[.int .i64 (numD y m d)] w fun e w' => e = .returned (.tuple #[.agg #[.int .i64 y, .int .i64 m, .int .i64 d], .bool true]) ∧ Below w.heap.size w w' := by
  obtain ⟨g1, g2, g3, g4, g5, g6, g7⟩ := good_of hg
  obtain ⟨n1, n2⟩ := num_bd hg
  have hyl := year_low hg
  obtain ⟨z1, z2⟩ := num_in_year hg
  obtain ⟨N, hN⟩ : ∃ N, N = numD y m d := ⟨_, rfl⟩
  rw [← hN] at n1 n2 hyl z1 z2 ⊢
  have HN := Lib.hid hN
  clear hN
  go_enter Tryd.func20, Tryd.ntmps20
  have kb := Blk.new w 23 #[.int .i64 0, .int .i64 0, .int .i64 0]
  have hb0 := bl_alloc (bl_refl w) (.cells #[.int .i64 0, .int .i64 0, .int .i64 0] 23)
  go_wp2_with fail
  generalize w.alloc (.cells #[.int .i64 0, .int .i64 0, .int .i64 0] 23) = w0 at *
  go_loopw [4] (fun v4 wr => ∃ k : Int, 1 ≤ k ∧ k ≤ y ∧ v4 = .int .i64 k ∧ Blk wr w.heap.size 23 #[.int .i64 0, .int .i64 0, .int .i64 0] ∧ Below w.heap.size w wr) (fun v4 _ => (y - intOf v4).toNat)
  case atStart => exact ⟨1 + N / 366, by omega, by omega, rfl, kb, hb0⟩
  case round =>
    obtain ⟨k, k1, k2, rfl, hk, hbw⟩ := hrel
    by_cases hlt : k < y
    · have e1 := good_first (k + 1) (by omega) (by omega)
      have e2 := nN_first (k + 1) (by omega) (by omega)
      have e3 : dby (k + 1) ≤ N := by have := dby_mono (k + 1) y (by omega); omega
      go_wp2_with (go_at_call 18; refine (number_any _ _ _ _).mono ?_; rintro e w1 ⟨rfl, hb1⟩; rw [e1, e2])
      go_roundw
      case rel => exact ⟨k + 1, by omega, by omega, rfl, hk.call hb1, bl_call hbw hb1⟩
      case measure => simp [intOf]; omega
    · obtain rfl : k = y := by omega
      have f1 := good_first k (by omega) (by omega)
      have f2 := nN_first k (by omega) (by omega)
      have hz := dby_bd k (by omega) (by omega)
      obtain ⟨hz1, hz2⟩ := hz
      have hc := cum_bd k m
      obtain ⟨hc1, hc2⟩ := hc
      have hcn : cum k m + d - 1 = N - dby k := by have := HN.out; unfold numD at this; omega
      have HC := Lib.hid hcn
      have hcb : 0 ≤ N - dby k ∧ N - dby k ≤ 397 := by omega
      obtain ⟨hcb1, hcb2⟩ := hcb
      clear hcn
      have hstop : goodB (k + 1) 1 1 = false ∨ (goodB (k + 1) 1 1 = true ∧ nN (k + 1) 1 1 = dby (k + 1)) := by
        by_cases h9 : k = 9999
        · exact .inl (bad_first _ (by omega))
        · exact .inr ⟨good_first _ (by omega) (by omega), nN_first _ (by omega) (by omega)⟩
      rcases hstop with e1 | ⟨e1, e2⟩
      all_goals
        go_wp2_with (go_at_call 18; refine (number_any _ _ _ _).mono ?_; rintro e w1 ⟨rfl, hb1⟩; (first | rw [e1, e2] | rw [e1]); have hbx := bl_call hbw hb1; have hkx := hk.call hb1)
        go_wp2_with (go_at_call 18; refine (number_any _ _ _ _).mono ?_; rintro e w2 ⟨rfl, hb2⟩; rw [f1, f2]; have hby := bl_call hbx hb2; have hky := hkx.call hb2)
        go_loop [9, 10] (fun v9 v10 => ∃ j : Int, 1 ≤ j ∧ j ≤ m ∧ v10 = .int .i64 j ∧ v9 = .int .i64 (cum k m - cum k j + d - 1)) (fun _ v10 => (m - intOf v10).toNat)
        case atStart => exact ⟨1, by omega, by omega, rfl, by rw [cum_one, ← HC.out]; congr 1; omega⟩
        case round =>
          obtain ⟨j, j1, j2, rfl, rfl⟩ := hrel
          have db := days_bd k j
          obtain ⟨db1, db2⟩ := db
          have cb := cum_bd k j
          obtain ⟨cb1, cb2⟩ := cb
          by_cases hlj : j < m
          · have CS := Lib.hid (cum_succ k j j1 (by omega))
            have hge : daysI k j ≤ cum k m - cum k j + d - 1 := by
              have h1 := CS.out
              have h2 := cum_mono k (j + 1) m (by omega) (by omega) (by omega)
              omega
            go_wp2_with (go_at_call 12; refine (days_any _ _ _).mono ?_; rintro e w' ⟨rfl, rfl⟩)
            go_round
            case rel => exact ⟨j + 1, by omega, by omega, rfl, by rw [CS.out]; congr 1; omega⟩
            case measure => simp [intOf]; omega
          · obtain rfl : j = m := by omega
            have hlt2 : cum k j - cum k j + d - 1 < daysI k j := by omega
            obtain ⟨c0, c1, c2, _, _, _⟩ := hky.c3
            go_wp2_with (go_at_call 12; refine (days_any _ _ _).mono ?_; rintro e w' ⟨rfl, rfl⟩)
            exact bodyPost_ret (results_cell_tmp_row rfl _ _ w.heap.size _ #[.int .i64 k, .int .i64 j, .int .i64 d] _ rfl (((hky.set_ 0 _).set_ 1 _).set_ 2 _) Tryd.underlying23 rfl (by kernel_rfl)) rfl ⟨rfl, bl_set (bl_set (bl_set hby (Nat.le_refl _) _) (Nat.le_refl _) _) (Nat.le_refl _) _⟩
end Go.Proofs.YtaccanfjplgfnaaDoor
