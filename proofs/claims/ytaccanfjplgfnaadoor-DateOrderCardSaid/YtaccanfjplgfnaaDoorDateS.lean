import Derived.RowKit
namespace Go.Proofs.YtaccanfjplgfnaaDoor
set_option linter.unusedVariables false
set_option linter.unusedSimpArgs false
/-! plain words on days: no Go in this text -/
def leapB (y : Int) : Bool := y % 4 == 0 && (y % 100 != 0 || y % 400 == 0)
def daysI (y m : Int) : Int :=
  if m = 2 then (if leapB y then 29 else 28) else if m = 4 ∨ m = 6 ∨ m = 9 ∨ m = 11 then 30
  else if m = 1 ∨ m = 3 ∨ m = 5 ∨ m = 7 ∨ m = 8 ∨ m = 10 ∨ m = 12 then 31 else 0
def goodB (y m d : Int) : Bool := decide (1 ≤ y ∧ y ≤ 9999 ∧ 1 ≤ d ∧ d ≤ daysI y m)

theorem tmod_zero (y k : Int) : (y.tmod k = 0) ↔ (y % k = 0) := by
  rw [← Int.dvd_iff_tmod_eq_zero, ← Int.dvd_iff_emod_eq_zero]
theorem tmod_beq (y k : Int) : (y.tmod k == 0) = (y % k == 0) := by
  rw [Bool.eq_iff_iff, beq_iff_eq, beq_iff_eq, tmod_zero]
theorem tmod_bne (y k : Int) : (y.tmod k != 0) = (y % k != 0) := by
  simp only [bne, tmod_beq]
theorem leap_ref (y : Int) (h : ¬ y % 400 = 0) (h1 : ¬ y % 100 = 0) : leapB y = (y % 4 == 0) := by
  have e1 : (y % 400 == 0) = false := by simpa using h
  have e2 : (y % 100 != 0) = true := by simpa using h1
  simp [leapB, e2]
theorem leap_400 (y : Int) (h : y % 400 = 0) : leapB y = true := by
  have e1 : (y % 400 == 0) = true := by simpa using h
  have e2 : (y % 4 == 0) = true := by rw [beq_iff_eq]; omega
  simp [leapB, e1, e2]
theorem leap_100 (y : Int) (h : ¬ y % 400 = 0) (h1 : y % 100 = 0) : leapB y = false := by
  have e1 : (y % 400 == 0) = false := by simpa using h
  have e2 : (y % 100 != 0) = false := by simpa using h1
  simp [leapB, e1, e2]
theorem days_bd (y m : Int) : 0 ≤ daysI y m ∧ daysI y m ≤ 31 := by
  unfold daysI; repeat' split
  all_goals omega
theorem days_pos (y m : Int) (h1 : 1 ≤ m) (h2 : m ≤ 12) : 28 ≤ daysI y m := by
  unfold daysI; repeat' split
  all_goals omega
theorem days_none (y m : Int) (h : m < 1 ∨ 12 < m) : daysI y m = 0 := by
  unfold daysI
  rw [if_neg (by omega), if_neg (by omega), if_neg (by omega)]
theorem days_2t (y : Int) (h : leapB y = true) : daysI y 2 = 29 := by simp [daysI, h]
theorem days_2f (y : Int) (h : leapB y = false) : daysI y 2 = 28 := by simp [daysI, h]
theorem days_30 (y m : Int) (h : m = 4 ∨ m = 6 ∨ m = 9 ∨ m = 11) : daysI y m = 30 := by
  unfold daysI; rw [if_neg (by omega), if_pos h]
theorem days_31 (y m : Int) (h : m = 1 ∨ m = 3 ∨ m = 5 ∨ m = 7 ∨ m = 8 ∨ m = 10 ∨ m = 12) : daysI y m = 31 := by
  unfold daysI; rw [if_neg (by omega), if_neg (by omega), if_pos h]
theorem good_mk {y m d : Int} (h1 : 1 ≤ y) (h2 : y ≤ 9999) (h3 : 1 ≤ d) (h4 : d ≤ daysI y m) : goodB y m d = true := by simp [goodB, *]
theorem good_of {y m d : Int} (h : goodB y m d = true) : 1 ≤ y ∧ y ≤ 9999 ∧ 1 ≤ d ∧ d ≤ daysI y m ∧ 1 ≤ m ∧ m ≤ 12 ∧ d ≤ 31 := by
  have h := of_decide_eq_true h
  have hb := days_bd y m
  refine ⟨h.1, h.2.1, h.2.2.1, h.2.2.2, ?_, ?_, by omega⟩
  · exact Classical.byContradiction fun hc => by rw [days_none y m (by omega)] at h; omega
  · exact Classical.byContradiction fun hc => by rw [days_none y m (by omega)] at h; omega
/-! a day's text -/
def isDig (c : UInt8) : Bool := decide (48 ≤ c.toNat ∧ c.toNat ≤ 57)
def digI (c : UInt8) : Int := (c.toNat : Int) - 48
def numL (l : List UInt8) : Int := l.foldl (fun n c => 10 * n + digI c) 0
theorem numL_nil : numL [] = 0 := rfl
theorem numL_snoc (l : List UInt8) (c : UInt8) : numL (l ++ [c]) = 10 * numL l + digI c := by simp [numL]
theorem digI_bd {c : UInt8} (h : isDig c = true) : 0 ≤ digI c ∧ digI c ≤ 9 := by
  have h := of_decide_eq_true h
  unfold digI; omega
theorem numF_bd (l : List UInt8) : ∀ (a : Int), l.all isDig = true → 0 ≤ a → a * 10 ^ l.length ≤ l.foldl (fun n c => 10 * n + digI c) a ∧ l.foldl (fun n c => 10 * n + digI c) a < (a + 1) * 10 ^ l.length := by
  induction l with
  | nil => intro a _ h; simp; omega
  | cons c l ih =>
    intro a h ha
    simp only [List.all_cons, Bool.and_eq_true] at h
    have h2 := digI_bd h.1
    have h1 := ih (10 * a + digI c) h.2 (by omega)
    have hp : (0 : Int) < 10 ^ l.length := Int.pow_pos (by omega)
    simp only [List.foldl_cons, List.length_cons, Int.pow_succ]
    have e1 : a * (10 ^ l.length * 10) ≤ (10 * a + digI c) * 10 ^ l.length := by
      have : (10 * a) * 10 ^ l.length ≤ (10 * a + digI c) * 10 ^ l.length := Int.mul_le_mul_of_nonneg_right (by omega) (by omega)
      have e : (10 * a) * 10 ^ l.length = a * (10 ^ l.length * 10) := by rw [Int.mul_comm 10 a, Int.mul_assoc, Int.mul_comm 10]
      omega
    have e2 : (10 * a + digI c + 1) * 10 ^ l.length ≤ (a + 1) * (10 ^ l.length * 10) := by
      have : (10 * a + digI c + 1) * 10 ^ l.length ≤ (10 * (a + 1)) * 10 ^ l.length := Int.mul_le_mul_of_nonneg_right (by omega) (by omega)
      have e : (10 * (a + 1)) * 10 ^ l.length = (a + 1) * (10 ^ l.length * 10) := by rw [Int.mul_comm 10 (a + 1), Int.mul_assoc, Int.mul_comm 10]
      omega
    omega
theorem numL_bd (l : List UInt8) (h : l.all isDig = true) : 0 ≤ numL l ∧ numL l < 10 ^ l.length := by
  have := numF_bd l 0 h (by omega)
  simp only [Int.zero_mul, Int.zero_add, Int.one_mul] at this
  exact this
def dateShape (l : List UInt8) : Bool :=
  l.length == 10 && l.getD 4 0 == 45 && l.getD 7 0 == 45 && (l.take 4).all isDig && ((l.drop 5).take 2).all isDig && (l.drop 8).all isDig
def parseY (l : List UInt8) : Int := numL (l.take 4)
def parseM (l : List UInt8) : Int := numL ((l.drop 5).take 2)
def parseD (l : List UInt8) : Int := numL (l.drop 8)
def parseOk (l : List UInt8) : Bool := dateShape l && goodB (parseY l) (parseM l) (parseD l)
end Go.Proofs.YtaccanfjplgfnaaDoor
