import Derived.Test.YtaccanfjplgfnaaDoorDateS
namespace Go.Proofs.YtaccanfjplgfnaaDoor
set_option linter.unusedVariables false
set_option linter.unusedSimpArgs false
/-! numbers of days: plain words -/
def lp (y : Int) : Int := if leapB y then 1 else 0
def dby (y : Int) : Int := 365 * (y - 1) + (y - 1) / 4 - (y - 1) / 100 + (y - 1) / 400
def cum (y m : Int) : Int :=
  if m ≤ 1 then 0 else if m = 2 then 31 else if m = 3 then 59 + lp y else if m = 4 then 90 + lp y else if m = 5 then 120 + lp y else if m = 6 then 151 + lp y
  else if m = 7 then 181 + lp y else if m = 8 then 212 + lp y else if m = 9 then 243 + lp y else if m = 10 then 273 + lp y else if m = 11 then 304 + lp y else if m = 12 then 334 + lp y else 365 + lp y
def numD (y m d : Int) : Int := dby y + cum y m + d - 1
theorem lp_01 (y : Int) : 0 ≤ lp y ∧ lp y ≤ 1 := by unfold lp; split <;> omega
theorem lp_is (y : Int) : (lp y = 1 ∧ y % 4 = 0 ∧ (y % 100 ≠ 0 ∨ y % 400 = 0)) ∨ (lp y = 0 ∧ (y % 4 ≠ 0 ∨ (y % 100 = 0 ∧ y % 400 ≠ 0))) := by
  unfold lp
  cases h : leapB y with
  | true =>
    left
    simp [leapB] at h
    refine ⟨by simp, h.1, h.2⟩
  | false =>
    right
    refine ⟨by simp, ?_⟩
    by_cases h4 : y % 4 = 0
    · right
      by_cases h1 : y % 100 = 0
      · by_cases h2 : y % 400 = 0
        · rw [leap_400 y h2] at h; cases h
        · exact ⟨h1, h2⟩
      · by_cases h2 : y % 400 = 0
        · rw [leap_400 y h2] at h; cases h
        · rw [leap_ref y h2 h1] at h; simp [h4] at h
    · exact .inl h4
theorem dby_succ (y : Int) : dby (y + 1) = dby y + 365 + lp y := by
  have h := lp_is y
  unfold dby
  rcases h with ⟨h0, h1, h2⟩ | ⟨h0, h1⟩ <;> rw [h0] <;> omega
theorem dby_mono (a b : Int) (h : a ≤ b) : dby a ≤ dby b := by unfold dby; omega
theorem dby_lt (a b : Int) (h : a < b) : dby a + 365 ≤ dby b := by
  have h1 := dby_succ a
  have h2 := dby_mono (a + 1) b (by omega)
  have h3 := lp_01 a
  omega
theorem dby_bd (y : Int) (h1 : 1 ≤ y) (h2 : y ≤ 10000) : 0 ≤ dby y ∧ dby y ≤ 3652059 := by unfold dby; omega
theorem dby_one : dby 1 = 0 := by decide
theorem dby_end : dby 10000 = 3652059 := by decide
theorem cum_succ (y m : Int) (h1 : 1 ≤ m) (h2 : m ≤ 12) : cum y (m + 1) = cum y m + daysI y m := by
  rcases (by omega : m = 1 ∨ m = 2 ∨ m = 3 ∨ m = 4 ∨ m = 5 ∨ m = 6 ∨ m = 7 ∨ m = 8 ∨ m = 9 ∨ m = 10 ∨ m = 11 ∨ m = 12) with rfl | rfl | rfl | rfl | rfl | rfl | rfl | rfl | rfl | rfl | rfl | rfl
  all_goals
    simp [cum, daysI, lp]
    try (split <;> omega)
theorem cum_one (y : Int) : cum y 1 = 0 := by simp [cum]
theorem cum_end (y : Int) : cum y 13 = 365 + lp y := by simp [cum]
theorem cum_bd (y m : Int) : 0 ≤ cum y m ∧ cum y m ≤ 366 := by
  have hl := lp_01 y
  unfold cum
  generalize lp y = l at *
  by_cases h1 : m ≤ 1
  · rw [if_pos h1]; omega
  rw [if_neg h1]
  by_cases h2 : m = 2
  · rw [if_pos h2]; omega
  rw [if_neg h2]
  by_cases h3 : m = 3
  · rw [if_pos h3]; omega
  rw [if_neg h3]
  by_cases h4 : m = 4
  · rw [if_pos h4]; omega
  rw [if_neg h4]
  by_cases h5 : m = 5
  · rw [if_pos h5]; omega
  rw [if_neg h5]
  by_cases h6 : m = 6
  · rw [if_pos h6]; omega
  rw [if_neg h6]
  by_cases h7 : m = 7
  · rw [if_pos h7]; omega
  rw [if_neg h7]
  by_cases h8 : m = 8
  · rw [if_pos h8]; omega
  rw [if_neg h8]
  by_cases h9 : m = 9
  · rw [if_pos h9]; omega
  rw [if_neg h9]
  by_cases h10 : m = 10
  · rw [if_pos h10]; omega
  rw [if_neg h10]
  by_cases h11 : m = 11
  · rw [if_pos h11]; omega
  rw [if_neg h11]
  by_cases h12 : m = 12
  · rw [if_pos h12]; omega
  rw [if_neg h12]; omega
theorem cum_step (y a : Int) (h0 : 1 ≤ a) : ∀ (k : Nat), a + k ≤ 13 → cum y a ≤ cum y (a + k)
  | 0, _ => by simp
  | k + 1, h => by
    have ih := cum_step y a h0 k (by omega)
    have h1 := cum_succ y (a + k) (by omega) (by omega)
    have h2 := days_bd y (a + k)
    rw [show a + ((k + 1 : Nat) : Int) = a + k + 1 from by omega]
    omega
theorem cum_mono (y a b : Int) (h0 : 1 ≤ a) (h : a ≤ b) (h2 : b ≤ 13) : cum y a ≤ cum y b := by
  have := cum_step y a h0 (b - a).toNat (by omega)
  rwa [show a + ((b - a).toNat : Int) = b from by omega] at this
theorem cum_lt (y a b : Int) (h0 : 1 ≤ a) (h : a < b) (h2 : b ≤ 13) : cum y a + daysI y a ≤ cum y b := by
  have h1 := cum_succ y a h0 (by omega)
  have h2 := cum_mono y (a + 1) b (by omega) (by omega) h2
  omega
theorem num_in_year {y m d : Int} (h : goodB y m d = true) : dby y ≤ numD y m d ∧ numD y m d < dby (y + 1) := by
  obtain ⟨h1, h2, h3, h4, h5, h6, _⟩ := good_of h
  have c1 := cum_bd y m
  have c2 := cum_succ y m h5 h6
  have c3 := cum_mono y (m + 1) 13 (by omega) (by omega) (by omega)
  have c4 := cum_end y
  have c5 := dby_succ y
  unfold numD
  omega
theorem num_bd {y m d : Int} (h : goodB y m d = true) : 0 ≤ numD y m d ∧ numD y m d < 3652059 := by
  have h1 := num_in_year h
  obtain ⟨h2, h3, _⟩ := good_of h
  have h4 := dby_bd y h2 (by omega)
  have h5 := dby_mono (y + 1) 10000 (by omega)
  rw [dby_end] at h5
  omega
/-- a later day has a greater number -/
theorem num_lt {y m d y' m' d' : Int} (h : goodB y m d = true) (h' : goodB y' m' d' = true) (hl : y < y' ∨ (y = y' ∧ (m < m' ∨ (m = m' ∧ d < d')))) : numD y m d < numD y' m' d' := by
  rcases hl with hl | ⟨rfl, hl⟩
  · have h1 := num_in_year h
    have h2 := num_in_year h'
    have h3 := dby_mono (y + 1) y' (by omega)
    omega
  · obtain ⟨a1, a2, a3, a4, a5, a6, _⟩ := good_of h
    obtain ⟨b1, b2, b3, b4, b5, b6, _⟩ := good_of h'
    rcases hl with hl | ⟨rfl, hl⟩
    · have := cum_lt y m m' a5 hl (by omega)
      unfold numD; omega
    · unfold numD; omega
theorem num_inj {y m d y' m' d' : Int} (h : goodB y m d = true) (h' : goodB y' m' d' = true) (he : numD y m d = numD y' m' d') : y = y' ∧ m = m' ∧ d = d' := by
  have h1 := fun hl => num_lt h h' hl
  have h2 := fun hl => num_lt h' h hl
  refine Classical.byContradiction fun hc => ?_
  rcases (by omega : (y < y' ∨ (y = y' ∧ (m < m' ∨ (m = m' ∧ d < d')))) ∨ (y' < y ∨ (y' = y ∧ (m' < m ∨ (m' = m ∧ d' < d))))) with hl | hl
  · have := h1 hl; omega
  · have := h2 hl; omega
end Go.Proofs.YtaccanfjplgfnaaDoor
