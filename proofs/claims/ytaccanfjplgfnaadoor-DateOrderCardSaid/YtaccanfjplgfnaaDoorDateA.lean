import Derived.Test.YtaccanfjplgfnaaDoorBase
import Derived.Test.YtaccanfjplgfnaaDoorDateS
namespace Go.Proofs.YtaccanfjplgfnaaDoor
set_option linter.unusedVariables false
set_option linter.unusedSimpArgs false
open Go.RowKit
theorem leap_any (y : Int) (w : World) :
    Calls Tryd.prog 10 #[.int .i64 y] w fun e w' => e = .returned (.bool (leapB y)) ∧ w = w' := by
  go_enter Tryd.func10, Tryd.ntmps10
  go_wp2
  all_goals
    go_ret
    refine ⟨ret_bool ?_, rfl⟩
    simp only [leapB]
    simp only [tmod_beq, tmod_bne, bne_iff_ne, ne_eq, beq_iff_eq, tmod_zero] at *
    simp [*]
theorem rleap_any (y : Int) (w : World) :
    Calls Tryd.prog 11 #[.int .i64 y] w fun e w' => e = .returned (.bool (leapB y)) ∧ w = w' := by
  go_enter Tryd.func11, Tryd.ntmps11
  go_wp2
  all_goals
    go_ret
    refine ⟨ret_bool ?_, rfl⟩
    simp only [beq_iff_eq, beq_eq_false_iff_ne, ne_eq, tmod_zero, tmod_beq] at *
    first | (rw [leap_400 _ (by assumption)]; done) | (rw [leap_100 _ (by assumption) (by assumption)]; done) | (rw [leap_ref _ (by assumption) (by assumption)]; done)
theorem days_any (y m : Int) (w : World) :
    Calls Tryd.prog 12 #[.int .i64 y, .int .i64 m] w fun e w' => e = .returned (.int .i64 (daysI y m)) ∧ w = w' := by
  go_enter Tryd.func12, Tryd.ntmps12
  go_wp2_with (go_at_call 10; refine (leap_any _ _).mono ?_; rintro e w' ⟨rfl, rfl⟩)
  all_goals
    go_ret
    refine ⟨ret_int ?_, rfl⟩
    simp only [beq_iff_eq, beq_eq_false_iff_ne, ne_eq] at *
    first
    | (rw [days_30 _ _ (by omega)]; done)
    | (rw [days_31 _ _ (by omega)]; done)
    | (rw [days_none _ _ (by omega)]; done)
    | (subst m; first | rw [days_2t _ (by assumption)] | rw [days_2f _ (by assumption)])
set_option maxHeartbeats 4000000 in
theorem rdays_any (y m : Int) (w : World) :
    Calls Tryd.prog 13 #[.int .i64 y, .int .i64 m] w fun e w' => e = .returned (.int .i64 (daysI y m)) ∧ Below w.heap.size w w' := by
  by_cases h1 : m < 1
  · go_enter Tryd.func13, Tryd.ntmps13
    go_wp2
    go_ret
    exact ⟨ret_int (days_none _ _ (by omega)).symm, Below.refl _ _⟩
  by_cases h2 : 12 < m
  · go_enter Tryd.func13, Tryd.ntmps13
    go_wp2
    go_ret
    exact ⟨ret_int (days_none _ _ (by omega)).symm, Below.refl _ _⟩
  rcases (by omega : m = 1 ∨ m = 2 ∨ m = 3 ∨ m = 4 ∨ m = 5 ∨ m = 6 ∨ m = 7 ∨ m = 8 ∨ m = 9 ∨ m = 10 ∨ m = 11 ∨ m = 12) with rfl | rfl | rfl | rfl | rfl | rfl | rfl | rfl | rfl | rfl | rfl | rfl
  all_goals
    clear h1 h2
    go_enter Tryd.func13, Tryd.ntmps13
    go_wp2_with (go_at_call 11; refine (rleap_any _ _).mono ?_; rintro e w' ⟨rfl, rfl⟩)
  all_goals
    go_ret
    refine ⟨ret_int ?_, ?_⟩
    · first | rfl | exact (days_2t _ (by assumption)).symm | exact (days_2f _ (by assumption)).symm
    · first | exact Below.refl _ _ | exact (Below.refl _ _).alloc (Nat.le_refl _) _
theorem good_any (y m d : Int) (w : World) :
    Calls Tryd.prog 14 #[.agg #[.int .i64 y, .int .i64 m, .int .i64 d]] w fun e w' => e = .returned (.bool (goodB y m d)) ∧ Below w.heap.size w w' := by
  by_cases h1 : 1 ≤ y
  · by_cases h2 : y ≤ 9999
    · by_cases h3 : 1 ≤ d
      · go_enter Tryd.func14, Tryd.ntmps14
        go_wp2
        go_quiet ((go_at_call 12; exact quiet_left (days_any _ _ _)))
        go_wp2
        go_ret
        refine ⟨ret_bool (by simp [goodB, h1, h2, h3] <;> omega), below_drewN ((Below.refl _ _).alloc (Nat.le_refl _) _) _⟩
      · have hd : decide (1 ≤ d) = false := by simpa using h3
        go_enter Tryd.func14, Tryd.ntmps14
        go_wp2
        go_quiet (fail)
        go_wp2
        go_ret
        refine ⟨ret_bool (by simp [goodB, h1, h2, h3] <;> omega), below_drewN ((Below.refl _ _).alloc (Nat.le_refl _) _) _⟩
    · have hd : decide (y ≤ 9999) = false := by simpa using h2
      go_enter Tryd.func14, Tryd.ntmps14
      go_wp2
      go_quiet (fail)
      go_wp2
      go_ret
      refine ⟨ret_bool (by simp [goodB, h1, h2] <;> omega), below_drewN ((Below.refl _ _).alloc (Nat.le_refl _) _) _⟩
  · have hd : decide (1 ≤ y) = false := by simpa using h1
    go_enter Tryd.func14, Tryd.ntmps14
    go_wp2
    go_quiet (fail)
    go_wp2
    go_ret
    refine ⟨ret_bool (by simp [goodB, h1] <;> omega), below_drewN ((Below.refl _ _).alloc (Nat.le_refl _) _) _⟩
theorem rgood_of (y m d : Int) (h : 1 ≤ y ∧ y ≤ 9999 ∧ 1 ≤ m ∧ m ≤ 12 ∧ 1 ≤ d) : decide (d ≤ daysI y m) = goodB y m d := by
  simp [goodB, h.1, h.2.1, h.2.2.2.2]
theorem rgood_no (y m d : Int) (h : y < 1 ∨ 9999 < y ∨ m < 1 ∨ 12 < m ∨ d < 1) : goodB y m d = false := by
  refine Bool.eq_false_iff.2 fun hc => ?_
  have := good_of hc
  omega
end Go.Proofs.YtaccanfjplgfnaaDoor
