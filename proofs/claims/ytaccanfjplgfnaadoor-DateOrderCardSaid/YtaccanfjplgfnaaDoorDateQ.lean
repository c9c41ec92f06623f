import Derived.Test.YtaccanfjplgfnaaDoorDateP
namespace Go.Proofs.YtaccanfjplgfnaaDoor
set_option linter.unusedVariables false
set_option linter.unusedSimpArgs false
/-! later days, the day behind one, years -/
def laterP (y m d y' m' d' : Int) : Prop := y' < y ∨ (y = y' ∧ (m' < m ∨ (m = m' ∧ d' < d)))
instance (y m d y' m' d' : Int) : Decidable (laterP y m d y' m' d') := by unfold laterP; infer_instance
theorem num_later {y m d y' m' d' : Int} (h : goodB y m d = true) (h' : goodB y' m' d' = true) : numD y' m' d' < numD y m d ↔ laterP y m d y' m' d' := by
  constructor
  · intro hl
    refine Classical.byContradiction fun hc => ?_
    unfold laterP at hc
    by_cases he : y = y' ∧ m = m' ∧ d = d'
    · obtain ⟨rfl, rfl, rfl⟩ := he; omega
    · have := num_lt h h' (by omega)
      omega
  · intro hl
    unfold laterP at hl
    exact num_lt h' h (by omega)
theorem num_same {y m d y' m' d' : Int} (h : goodB y m d = true) (h' : goodB y' m' d' = true) : numD y m d = numD y' m' d' ↔ (y = y' ∧ m = m' ∧ d = d') :=
  ⟨num_inj h h', fun ⟨h1, h2, h3⟩ => by rw [h1, h2, h3]⟩
theorem num_last : numD 9999 12 31 = 3652058 := by decide
theorem good_last : goodB 9999 12 31 = true := by decide
/-- the day behind one -/
theorem num_next {y m d ny nm nd : Int} (h : goodB y m d = true) (h' : goodB ny nm nd = true) (he : numD ny nm nd = numD y m d + 1) :
    (nd = d + 1 ∧ nm = m ∧ ny = y) ∨ (nd = 1 ∧ d = daysI y m) := by
  obtain ⟨a1, a2, a3, a4, a5, a6, a7⟩ := good_of h
  obtain ⟨b1, b2, b3, b4, b5, b6, b7⟩ := good_of h'
  by_cases hd : d < daysI y m
  · have hg : goodB y m (d + 1) = true := good_mk a1 a2 (by omega) (by omega)
    have e : numD ny nm nd = numD y m (d + 1) := by rw [he]; unfold numD; omega
    obtain ⟨h1, h2, h3⟩ := num_inj h' hg e
    exact .inl ⟨h3, h2, h1⟩
  · by_cases hn : nd = 1
    · exact .inr ⟨hn, by omega⟩
    · have hg : goodB ny nm (nd - 1) = true := good_mk b1 b2 (by omega) (by omega)
      have e : numD ny nm (nd - 1) = numD y m d := by
        have : numD ny nm (nd - 1) = numD ny nm nd - 1 := by unfold numD; omega
        omega
      obtain ⟨h1, h2, h3⟩ := num_inj hg h e
      subst h1 h2
      omega
theorem leap_400' (y : Int) : leapB (y + 400) = leapB y := by
  unfold leapB
  rw [show (y + 400) % 4 = y % 4 from by omega, show (y + 400) % 100 = y % 100 from by omega, show (y + 400) % 400 = y % 400 from by omega]
theorem dby_400 (y : Int) : dby (y + 400) = dby y + 146097 := by unfold dby; omega
theorem lp_t {y : Int} (h : leapB y = true) : lp y = 1 := by simp [lp, h]
theorem lp_f {y : Int} (h : leapB y = false) : lp y = 0 := by simp [lp, h]
/-! texts in order -/
theorem less_digL : ∀ (k a b : Nat) (r s : List UInt8), Op.bytesLess (digL a k ++ r) (digL b k ++ s) = (decide (a % 10 ^ k < b % 10 ^ k) || (a % 10 ^ k == b % 10 ^ k && Op.bytesLess r s))
  | 0, a, b, r, s => by simp [digL, Nat.mod_one]
  | k + 1, a, b, r, s => by
    have h48 : ∀ x : Nat, (UInt8.ofNat (48 + x % 10)).toNat = 48 + x % 10 := fun x => UInt8.toNat_ofNat_of_lt' (show 48 + x % 10 < 256 by omega)
    rw [digL, digL, List.append_assoc, List.append_assoc, less_digL k, List.cons_append, List.cons_append, List.nil_append, List.nil_append, Op.bytesLess]
    have e1 : decide (UInt8.ofNat (48 + a % 10) < UInt8.ofNat (48 + b % 10)) = decide (a % 10 < b % 10) := by
      rw [decide_eq_decide, UInt8.lt_iff_toNat_lt, h48, h48]; omega
    have e2 : (UInt8.ofNat (48 + a % 10) == UInt8.ofNat (48 + b % 10)) = (a % 10 == b % 10) := by
      rw [Bool.eq_iff_iff, beq_iff_eq, beq_iff_eq, ← UInt8.toNat_inj, h48, h48]; omega
    rw [e1, e2]
    have ma : a % 10 ^ (k + 1) = 10 * (a / 10 % 10 ^ k) + a % 10 := by rw [Nat.pow_succ, Nat.mul_comm, Nat.mod_mul]; omega
    have mb : b % 10 ^ (k + 1) = 10 * (b / 10 % 10 ^ k) + b % 10 := by rw [Nat.pow_succ, Nat.mul_comm, Nat.mod_mul]; omega
    rw [ma, mb]
    generalize a / 10 % 10 ^ k = A
    generalize b / 10 % 10 ^ k = B
    have ha : a % 10 < 10 := by omega
    have hb : b % 10 < 10 := by omega
    generalize a % 10 = x at *
    generalize b % 10 = y at *
    cases hL : Op.bytesLess r s <;> simp only [Bool.and_true, Bool.and_false, Bool.or_false] <;> rw [Bool.eq_iff_iff] <;> simp only [Bool.or_eq_true, Bool.and_eq_true, decide_eq_true_eq, beq_iff_eq] <;> omega
/-- a later day has a greater text -/
theorem text_later {y m d y' m' d' : Int} (h : goodB y m d = true) (h' : goodB y' m' d' = true) : Op.bytesLess (dayL y' m' d') (dayL y m d) = decide (laterP y m d y' m' d') := by
  obtain ⟨a1, a2, a3, a4, a5, a6, a7⟩ := good_of h
  obtain ⟨b1, b2, b3, b4, b5, b6, b7⟩ := good_of h'
  unfold dayL
  have e0 : ∀ l : List UInt8, digL d'.toNat 2 = digL d'.toNat 2 ++ [] := fun _ => (List.append_nil _).symm
  rw [less_digL 4, Op.bytesLess, less_digL 2, Op.bytesLess, ← List.append_nil (digL d'.toNat 2), ← List.append_nil (digL d.toNat 2), less_digL 2]
  rw [Nat.mod_eq_of_lt (show y'.toNat < 10 ^ 4 by show _ < 10000; omega), Nat.mod_eq_of_lt (show y.toNat < 10 ^ 4 by show _ < 10000; omega), Nat.mod_eq_of_lt (show m'.toNat < 10 ^ 2 by show _ < 100; omega), Nat.mod_eq_of_lt (show m.toNat < 10 ^ 2 by show _ < 100; omega), Nat.mod_eq_of_lt (show d'.toNat < 10 ^ 2 by show _ < 100; omega), Nat.mod_eq_of_lt (show d.toNat < 10 ^ 2 by show _ < 100; omega)]
  have ef : Op.bytesLess [] [] = false := rfl
  have e45 : decide ((45 : UInt8) < 45) = false := by decide
  have e45' : ((45 : UInt8) == 45) = true := by decide
  rw [ef, e45, e45', Bool.eq_iff_iff, decide_eq_true_eq]
  simp only [Bool.or_eq_true, Bool.and_eq_true, decide_eq_true_eq, beq_iff_eq, Bool.and_false, Bool.or_false, Bool.false_or, Bool.true_and, Bool.false_eq_true, and_false, or_false]
  unfold laterP
  omega
end Go.Proofs.YtaccanfjplgfnaaDoor
