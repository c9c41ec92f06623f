import Derived.Test.YtaccanfjplgfnaaDoorDateA
namespace Go.Proofs.YtaccanfjplgfnaaDoor
set_option linter.unusedVariables false
set_option linter.unusedSimpArgs false
open Go.RowKit
set_option maxHeartbeats 4000000 in
theorem rgood_any (y m d : Int) (w : World) :
    Calls Tryd.prog 15 #[.agg #[.int .i64 y, .int .i64 m, .int .i64 d]] w fun e w' => e = .returned (.bool (goodB y m d)) ∧ Below w.heap.size w w' := by
  by_cases hh : 1 ≤ y ∧ y ≤ 9999 ∧ 1 ≤ m ∧ m ≤ 12 ∧ 1 ≤ d
  · have hg := rgood_of y m d hh
    obtain ⟨h1, h2, h4, h5, h3⟩ := hh
    have HG := Lib.hid hg
    clear hg
    go_enter Tryd.func15, Tryd.ntmps15
    go_wp2
    go_region_held3 (fun w' => w'.cell? ⟨w.heap.size, 0, none⟩ = some (.int .i64 y) ∧ w'.cell? ⟨w.heap.size, 1, none⟩ = some (.int .i64 m) ∧ w'.cell? ⟨w.heap.size, 2, none⟩ = some (.int .i64 d))
      (first
        | go_keep
        | (refine ⟨?_, ?_, ?_⟩ <;> (rw [hb1.cell (by simp)]; simp [go_sem])))
      ((go_at_call 13; refine (rdays_any _ _ _).mono ?_; rintro e w' ⟨rfl, hb1⟩))
    go_wp2
    go_ret
    refine ⟨ret_bool (by rw [HG.out]), ?_⟩
    exact bl_call (bl_drew (bl_alloc (bl_refl _) _)) hb1
  · have hg := rgood_no y m d (by omega)
    have HG := Lib.hid hg
    clear hg
    by_cases h1 : 1 ≤ y
    · by_cases h2 : y ≤ 9999
      · by_cases h4 : 1 ≤ m
        · by_cases h5 : m ≤ 12
          · have h3 : decide (1 ≤ d) = false := by rw [decide_eq_false_iff_not]; omega
            go_enter Tryd.func15, Tryd.ntmps15
            go_wp2
            go_quiet (fail)
            go_wp2
            go_ret
            exact ⟨ret_bool (by rw [HG.out]), below_drewN ((Below.refl _ _).alloc (Nat.le_refl _) _) _⟩
          · have h3 : decide (m ≤ 12) = false := by rw [decide_eq_false_iff_not]; omega
            go_enter Tryd.func15, Tryd.ntmps15
            go_wp2
            go_quiet (fail)
            go_wp2
            go_ret
            exact ⟨ret_bool (by rw [HG.out]), below_drewN ((Below.refl _ _).alloc (Nat.le_refl _) _) _⟩
        · have h3 : decide (1 ≤ m) = false := by rw [decide_eq_false_iff_not]; omega
          go_enter Tryd.func15, Tryd.ntmps15
          go_wp2
          go_quiet (fail)
          go_wp2
          go_ret
          exact ⟨ret_bool (by rw [HG.out]), below_drewN ((Below.refl _ _).alloc (Nat.le_refl _) _) _⟩
      · have h3 : decide (y ≤ 9999) = false := by rw [decide_eq_false_iff_not]; omega
        go_enter Tryd.func15, Tryd.ntmps15
        go_wp2
        go_quiet (fail)
        go_wp2
        go_ret
        exact ⟨ret_bool (by rw [HG.out]), below_drewN ((Below.refl _ _).alloc (Nat.le_refl _) _) _⟩
    · have h3 : decide (1 ≤ y) = false := by rw [decide_eq_false_iff_not]; omega
      go_enter Tryd.func15, Tryd.ntmps15
      go_wp2
      go_quiet (fail)
      go_wp2
      go_ret
      exact ⟨ret_bool (by rw [HG.out]), below_drewN ((Below.refl _ _).alloc (Nat.le_refl _) _) _⟩
end Go.Proofs.YtaccanfjplgfnaaDoor
