import Derived.Test.YtaccanfjplgfnaaDoorDateN
namespace Go.Proofs.YtaccanfjplgfnaaDoor
set_option linter.unusedVariables false
set_option linter.unusedSimpArgs false
/-! every number is a day's -/
theorem year_ex (n : Int) (h0 : 0 ≤ n) : ∀ (k : Nat), n < dby (1 + k) → ∃ y : Int, 1 ≤ y ∧ y ≤ k ∧ dby y ≤ n ∧ n < dby (y + 1)
  | 0, h => by
    have : dby (1 + ((0 : Nat) : Int)) = 0 := by decide
    omega
  | k + 1, h => by
    by_cases hk : n < dby (1 + k)
    · obtain ⟨y, h1, h2, h3, h4⟩ := year_ex n h0 k hk
      exact ⟨y, h1, by omega, h3, h4⟩
    · refine ⟨1 + k, by omega, by omega, by omega, ?_⟩
      rwa [show (1 : Int) + k + 1 = 1 + ((k + 1 : Nat) : Int) from by omega]
theorem month_ex (y r : Int) (h0 : 0 ≤ r) : ∀ (k : Nat), k ≤ 12 → r < cum y (1 + k) → ∃ m : Int, 1 ≤ m ∧ m ≤ k ∧ cum y m ≤ r ∧ r < cum y (m + 1)
  | 0, _, h => by
    rw [show (1 : Int) + ((0 : Nat) : Int) = 1 from by omega, cum_one] at h
    omega
  | k + 1, hk12, h => by
    by_cases hk : r < cum y (1 + k)
    · obtain ⟨m, h1, h2, h3, h4⟩ := month_ex y r h0 k (by omega) hk
      exact ⟨m, h1, by omega, h3, h4⟩
    · refine ⟨1 + k, by omega, by omega, by omega, ?_⟩
      rwa [show (1 : Int) + k + 1 = 1 + ((k + 1 : Nat) : Int) from by omega]
theorem of_ex (n : Int) (h0 : 0 ≤ n) (h1 : n < 3652059) : ∃ y m d : Int, goodB y m d = true ∧ numD y m d = n := by
  obtain ⟨y, y1, y2, y3, y4⟩ := year_ex n h0 9999 (by rw [show (1 : Int) + ((9999 : Nat) : Int) = 10000 from rfl, dby_end]; exact h1)
  have hs := dby_succ y
  have hl := lp_01 y
  have he := cum_end y
  obtain ⟨m, m1, m2, m3, m4⟩ := month_ex y (n - dby y) (by omega) 12 (by omega) (by rw [show (1 : Int) + ((12 : Nat) : Int) = 13 from rfl]; omega)
  have hc := cum_succ y m m1 (by omega)
  refine ⟨y, m, n - dby y - cum y m + 1, good_mk y1 (by omega) (by omega) (by omega), ?_⟩
  unfold numD; omega
end Go.Proofs.YtaccanfjplgfnaaDoor
