import Derived.Test.YtaccanfjplgfnaaDoorDateD
import Derived.Test.YtaccanfjplgfnaaDoorDateN
namespace Go.Proofs.YtaccanfjplgfnaaDoor
set_option linter.unusedVariables false
set_option linter.unusedSimpArgs false
open Go.RowKit
def nN (y m d : Int) : Int := if goodB y m d then numD y m d else 0
theorem nN_yes {y m d : Int} (h : goodB y m d = true) : nN y m d = numD y m d := by simp [nN, h]
theorem nN_no {y m d : Int} (h : goodB y m d = false) : nN y m d = 0 := by simp [nN, h]
theorem num_first (y d : Int) : 365 * (y - 1) + (y - 1) / 4 - (y - 1) / 100 + (y - 1) / 400 + d - 1 = dby y + cum y 1 + d - 1 := by rw [cum_one]; unfold dby; omega
set_option maxHeartbeats 2000000 in
set_option maxRecDepth 100000 in
theorem number_any (y m d : Int) (w : World) :
    Calls Tryd.prog 18 #[.agg #[.int .i64 y, .int .i64 m, .int .i64 d]] w fun e w' => e = .returned (.tuple #[.int .i64 (nN y m d), .bool (goodB y m d)]) ∧ Below w.heap.size w w' := by
  cases hg : goodB y m d with
  | false =>
    rw [nN_no hg]
    go_enter Tryd.func18, Tryd.ntmps18
    go_wp2_with (go_at_call 14; refine (good_any _ _ _ _).mono ?_; rintro e w' ⟨rfl, hb1⟩)
    go_ret2
    exact ⟨rfl, bl_call (bl_alloc (bl_refl _) _) hb1⟩
  | true =>
    rw [nN_yes hg]
    obtain ⟨g1, g2, g3, g4, g5, g6, g7⟩ := good_of hg
    have hnf := num_first y d
    have HN := Lib.hid hnf
    clear hnf g4
    go_enter Tryd.func18, Tryd.ntmps18
    go_wp2_with (go_at_call 14; refine (good_any _ _ _ _).mono ?_; rintro e w1 ⟨rfl, hb1⟩; (have kb := (Blk.new w 23 #[.int .i64 y, .int .i64 m, .int .i64 d]).call hb1); obtain ⟨c0, c1, c2, _, _, _⟩ := kb.c3)
    rw [HN.out]
    have hz := dby_bd y g1 (by omega)
    obtain ⟨z1, z2⟩ := hz
    go_loop [5, 6] (fun v5 v6 => ∃ k : Int, 1 ≤ k ∧ k ≤ m ∧ v6 = .int .i64 k ∧ v5 = .int .i64 (dby y + cum y k + d - 1)) (fun _ v6 => (m - intOf v6).toNat)
    case atStart => exact ⟨1, by omega, by omega, rfl, rfl⟩
    case round =>
      obtain ⟨k, k1, k2, rfl, rfl⟩ := hrel
      have cb := cum_bd y k
      obtain ⟨cb1, cb2⟩ := cb
      have db := days_bd y k
      obtain ⟨db1, db2⟩ := db
      by_cases hlt : k < m
      · have CS := Lib.hid (cum_succ y k k1 (by omega))
        go_wp2_with (go_at_call 12; refine (days_any _ _ _).mono ?_; rintro e w' ⟨rfl, rfl⟩)
        go_round
        case rel => exact ⟨k + 1, by omega, by omega, rfl, by rw [CS.out]; congr 1; omega⟩
        case measure => simp [intOf]; omega
      · obtain rfl : k = m := by omega
        go_wp2
        go_ret2
        exact ⟨by rfl, bl_call (bl_alloc (bl_refl _) _) hb1⟩
set_option maxHeartbeats 2000000 in
set_option maxRecDepth 100000 in
theorem rnumber_any (y m d : Int) (w : World) (hg : goodB y m d = true) :
    Calls Tryd.prog 19 #[.agg #[.int .i64 y, .int .i64 m, .int .i64 d]] w fun e w' => e = .returned (.int .i64 (numD y m d)) ∧ Below w.heap.size w w' := by
  obtain ⟨g1, g2, g3, g4, g5, g6, g7⟩ := good_of hg
  clear g4
  go_enter Tryd.func19, Tryd.ntmps19
  go_wp2_with fail
  go_loopw [3, 4] (fun v3 v4 wr => ∃ k : Int, 1 ≤ k ∧ k ≤ m ∧ v4 = .int .i64 k ∧ v3 = .int .i64 (cum y k + d - 1) ∧ Blk wr w.heap.size 23 #[.int .i64 y, .int .i64 m, .int .i64 d] ∧ Below w.heap.size w wr) (fun _ v4 _ => (m - intOf v4).toNat)
  case atStart => exact ⟨1, by omega, by omega, rfl, by rw [cum_one]; congr 1; omega, Blk.new _ _ _, bl_alloc (bl_refl _) _⟩
  case round =>
    obtain ⟨k, k1, k2, rfl, rfl, kb, hbw⟩ := hrel
    have cb := cum_bd y k
    obtain ⟨cb1, cb2⟩ := cb
    have db := days_bd y k
    obtain ⟨db1, db2⟩ := db
    obtain ⟨c0, c1, c2, _, _, _⟩ := kb.c3
    by_cases hlt : k < m
    · have CS := Lib.hid (cum_succ y k k1 (by omega))
      go_wp2_with (go_at_call 13; refine (rdays_any _ _ _).mono ?_; rintro e w1 ⟨rfl, hb1⟩)
      go_roundw
      case rel => exact ⟨k + 1, by omega, by omega, rfl, by rw [CS.out]; congr 1; omega, kb.call hb1, bl_call hbw hb1⟩
      case measure => simp [intOf]; omega
    · obtain rfl : k = m := by omega
      go_wp2_with fail
      go_loop [3, 5] (fun v3 v5 => ∃ j : Int, 1 ≤ j ∧ j ≤ y ∧ v5 = .int .i64 j ∧ v3 = .int .i64 (dby j + cum y k + d - 1)) (fun _ v5 => (y - intOf v5).toNat)
      case atStart => exact ⟨1, by omega, by omega, rfl, by rw [dby_one]; congr 1; omega⟩
      case round =>
        obtain ⟨j, j1, j2, rfl, rfl⟩ := hrel
        have hz := dby_bd j j1 (by omega)
        obtain ⟨z1, z2⟩ := hz
        by_cases hlt : j < y
        · have DS := Lib.hid (dby_succ j)
          cases hlp : leapB j with
          | true =>
            have HL := Lib.hid (show lp j = 1 by simp [lp, hlp])
            go_wp2_with (go_at_call 11; refine (rleap_any _ _).mono ?_; rintro e w' ⟨rfl, rfl⟩)
            go_round
            case rel => exact ⟨j + 1, by omega, by omega, rfl, by rw [DS.out, HL.out]; congr 1; omega⟩
            case measure => simp [intOf]; omega
          | false =>
            have HL := Lib.hid (show lp j = 0 by simp [lp, hlp])
            go_wp2_with (go_at_call 11; refine (rleap_any _ _).mono ?_; rintro e w' ⟨rfl, rfl⟩)
            go_round
            case rel => exact ⟨j + 1, by omega, by omega, rfl, by rw [DS.out, HL.out]; congr 1; omega⟩
            case measure => simp [intOf]; omega
        · obtain rfl : j = y := by omega
          go_wp2
          go_ret
          exact ⟨rfl, hbw⟩
end Go.Proofs.YtaccanfjplgfnaaDoor
