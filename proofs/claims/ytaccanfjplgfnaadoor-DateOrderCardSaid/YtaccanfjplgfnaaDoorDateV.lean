import Derived.Test.YtaccanfjplgfnaaDoorDateU
import Derived.Test.YtaccanfjplgfnaaDoorDateQ
namespace Go.Proofs.YtaccanfjplgfnaaDoor
set_option linter.unusedVariables false
set_option linter.unusedSimpArgs false
open Go.RowKit
set_option maxHeartbeats 4000000 in
set_option maxRecDepth 100000 in
theorem years_mid (y kd : Int) (b : Bool) (w : World) (hT : GT w) (y1 : 1 ≤ y) (y2 : y ≤ 9998) (hlb : leapB y = b) (hkd : 365 + lp y = kd) (hb : (b = true ∧ kd = 366) ∨ (b = false ∧ kd = 365)) :
    Calls Tryd.prog 5 #[.int .i64 y] w fun e w' => e = .returned (.bool true) ∧ Below w.heap.size w w' := by
  have g0 := good_first y y1 (by omega)
  have g1 := good_first (y + 1) (by omega) (by omega)
  have n0 := nN_first y y1 (by omega)
  have n1 := nN_first (y + 1) (by omega) (by omega)
  have ds := dby_succ y
  have n1' : nN (y + 1) 1 1 = dby y + kd := by rw [n1, ds]; omega
  have hz := dby_bd y y1 (by omega)
  have hz' := dby_bd (y + 1) (by omega) (by omega)
  have ce := cum_end y
  have CE := Lib.hid (ce.trans hkd)
  have hzz : dby y + kd ≤ 3652059 := by omega
  obtain ⟨z1, z2⟩ := hz
  have hk : 365 ≤ kd ∧ kd ≤ 366 := by omega
  obtain ⟨k1, k2⟩ := hk
  clear n1 ds hz' ce hkd
  go_enter Tryd.func5, Tryd.ntmps5
  go_wp2_with fail
  refine (alive_any _ hT).mono ?_
  rintro e w1 ⟨rfl, hb1⟩
  go_wp2_with fail
  refine (number_any _ _ _ _).mono ?_
  rintro e w2 ⟨rfl, hb2⟩
  rw [n0, g0]
  have hbb2 := bl_call hb1 hb2
  go_wp2_with fail
  refine (number_any _ _ _ _).mono ?_
  rintro e w3 ⟨rfl, hb3⟩
  rw [n1', g1]
  have hbb3 := bl_call hbb2 hb3
  go_wp2_with fail
  go_loop [7, 8] (fun v7 v8 => ∃ k : Int, 1 ≤ k ∧ k ≤ 13 ∧ v8 = .int .i64 k ∧ v7 = .int .i64 (cum y k)) (fun _ v8 => (13 - intOf v8).toNat)
  case atStart => exact ⟨1, by omega, by omega, rfl, by rw [cum_one]⟩
  case round =>
    obtain ⟨k, j1, j2, rfl, rfl⟩ := hrel
    have cb := cum_bd y k
    obtain ⟨cb1, cb2⟩ := cb
    have db := days_bd y k
    obtain ⟨db1, db2⟩ := db
    by_cases hlt : k ≤ 12
    · have CS := Lib.hid (cum_succ y k j1 hlt)
      go_wp2_with (go_at_call 12; refine (days_any _ _ _).mono ?_; rintro e w' ⟨rfl, rfl⟩)
      go_round
      case rel => exact ⟨k + 1, by omega, by omega, rfl, by rw [CS.out]⟩
      case measure => simp [intOf]; omega
    · obtain rfl : k = 13 := by omega
      rw [CE.out]
      have d1 : IntKind.i64.wrap (dby y + kd - dby y) = kd := by rw [IntKind.wrap_i64]; omega
      have hl4 := (leap_400' y).trans hlb
      have HD := Lib.hid (dby_400 y)
      rcases hb with ⟨rfl, rfl⟩ | ⟨rfl, rfl⟩
      all_goals
        go_wp2_with fail
        refine (leap_any _ _).mono ?_
        rintro e w' ⟨rfl, rfl⟩
        rw [hlb]
        by_cases h96 : 9599 < y
        · go_wp2_with fail
          go_ret
          exact ⟨rfl, hbb3⟩
        · have h96' : y ≤ 9599 := by omega
          have g4 := good_first (y + 400) (by omega) (by omega)
          have n4 := (nN_first (y + 400) (by omega) (by omega)).trans HD.out
          have d2 : IntKind.i64.wrap (dby y + 146097 - dby y) = 146097 := by rw [IntKind.wrap_i64]; omega
          go_wp2_with fail
          refine (number_any _ _ _ _).mono ?_
          rintro e w4 ⟨rfl, hb4⟩
          rw [n4, g4]
          have hbb4 := bl_call hbb3 hb4
          go_wp2_with fail
          refine (leap_any _ _).mono ?_
          rintro e w' ⟨rfl, rfl⟩
          rw [hlb]
          go_wp2_with fail
          refine (leap_any _ _).mono ?_
          rintro e w' ⟨rfl, rfl⟩
          rw [hl4]
          go_wp2_with fail
          go_ret
          exact ⟨by rfl, hbb4⟩
set_option maxHeartbeats 4000000 in
set_option maxRecDepth 100000 in
theorem dateYears_any (y : Int) (w : World) (hT : GT w) :
    Calls Tryd.prog 5 #[.int .i64 y] w fun e w' => e = .returned (.bool true) ∧ Below w.heap.size w w' := by
  by_cases h : 1 ≤ y ∧ y ≤ 9998
  · cases hl : leapB y with
    | true => exact years_mid y 366 true w hT h.1 h.2 hl (by rw [lp_t hl]; rfl) (.inl ⟨rfl, rfl⟩)
    | false => exact years_mid y 365 false w hT h.1 h.2 hl (by rw [lp_f hl]; rfl) (.inr ⟨rfl, rfl⟩)
  · rcases (by omega : y < 1 ∨ (1 ≤ y ∧ 9998 < y)) with h1 | ⟨h0, h1⟩
    · go_enter Tryd.func5, Tryd.ntmps5
      go_wp2_with fail
      refine (alive_any _ hT).mono ?_
      rintro e w1 ⟨rfl, hb1⟩
      go_wp2_with fail
      go_ret
      exact ⟨rfl, hb1⟩
    · go_enter Tryd.func5, Tryd.ntmps5
      go_wp2_with fail
      refine (alive_any _ hT).mono ?_
      rintro e w1 ⟨rfl, hb1⟩
      go_wp2_with fail
      go_ret
      exact ⟨rfl, hb1⟩
end Go.Proofs.YtaccanfjplgfnaaDoor
