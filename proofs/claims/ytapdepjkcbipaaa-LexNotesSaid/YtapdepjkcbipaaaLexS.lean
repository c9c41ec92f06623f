import Derived.Test.YtapdepjkcbipaaaDateS
import Derived.Lib.IndexBytes
import Derived.Lib.IndexMore
import Derived.Lib.IndexLaws
namespace Go.Proofs.Ytapdepjkcbipaaa
set_option linter.unusedVariables false
set_option linter.unusedSimpArgs false
/-! plain words on tokens: no Go in this text -/
def isLet (c : UInt8) : Bool := decide ((97 ≤ c.toNat ∧ c.toNat ≤ 122) ∨ (65 ≤ c.toNat ∧ c.toNat ≤ 90) ∨ (48 ≤ c.toNat ∧ c.toNat ≤ 57) ∨ c.toNat = 95 ∨ c.toNat = 46 ∨ c.toNat = 45)
def digitsB (l : List UInt8) : Bool := !l.isEmpty && l.all isDig
/-- a number's form: 0 odd, 1 whole, 2 with a point -/
def numForm (l : List UInt8) : Int :=
  if digitsB (Lib.cut l [46]).1 = false ∨ (1 < (Lib.cut l [46]).1.length ∧ (Lib.cut l [46]).1.getD 0 0 = 48) then 0
  else if (Lib.cut l [46]).2.2 = false then 1 else if digitsB (Lib.cut l [46]).2.1 then 2 else 0
/-- the reference's scan -/
def rform : List UInt8 → Nat → Option Nat
  | [], p => some p
  | c :: cs, p => if c = 46 then (if 1 ≤ p ∨ cs = [] then none else rform cs (p + 1)) else if isDig c then rform cs p else none
theorem indexByte_find (c : UInt8) : ∀ (a b : List UInt8), (∀ x ∈ a, x ≠ c) → Lib.indexByte (a ++ c :: b) c = a.length
  | [], b, _ => by simp [Lib.indexByte]
  | x :: a, b, h => by
    have ih := indexByte_find c a b fun y hy => h y (by simp [hy])
    have hx : (x == c) = false := beq_eq_false_iff_ne.2 (h x (by simp))
    have hn : ((a.length : Int) == -1) = false := beq_eq_false_iff_ne.2 (by omega)
    simp [Lib.indexByte, hx, ih, hn]
theorem indexByte_no (c : UInt8) : ∀ (a : List UInt8), (∀ x ∈ a, x ≠ c) → Lib.indexByte a c = -1
  | [], _ => rfl
  | x :: a, h => by
    have ih := indexByte_no c a fun y hy => h y (by simp [hy])
    have hx : (x == c) = false := beq_eq_false_iff_ne.2 (h x (by simp))
    simp [Lib.indexByte, hx, ih]
theorem cut_find (c : UInt8) (a b : List UInt8) (h : ∀ x ∈ a, x ≠ c) : Lib.cut (a ++ c :: b) [c] = (a, b, true) := by
  unfold Lib.cut
  rw [Lib.index_one, indexByte_find c a b h, if_pos (by omega)]
  simp [List.drop_append]
theorem cut_no (c : UInt8) (a : List UInt8) (h : ∀ x ∈ a, x ≠ c) : Lib.cut a [c] = (a, [], false) := by
  unfold Lib.cut
  rw [Lib.index_one, indexByte_no c a h, if_neg (by omega)]
theorem split_at (c : UInt8) : ∀ l : List UInt8, (∀ x ∈ l, x ≠ c) ∨ ∃ a b, l = a ++ c :: b ∧ ∀ x ∈ a, x ≠ c
  | [] => .inl (by simp)
  | x :: l => by
    by_cases hx : x = c
    · exact .inr ⟨[], l, by simp [hx], by simp⟩
    · rcases split_at c l with h | ⟨a, b, rfl, h⟩
      · refine .inl fun y hy => ?_
        rcases List.mem_cons.1 hy with rfl | hy
        · exact hx
        · exact h y hy
      · refine .inr ⟨x :: a, b, rfl, fun y hy => ?_⟩
        rcases List.mem_cons.1 hy with rfl | hy
        · exact hx
        · exact h y hy
theorem isDig_ne {c : UInt8} (h : isDig c = true) : c ≠ 46 := by rintro rfl; revert h; decide
theorem rform_digits (p : Nat) : ∀ (a b : List UInt8), (∀ x ∈ a, x ≠ 46) → rform (a ++ b) p = if a.all isDig then rform b p else none
  | [], b, _ => by simp
  | x :: a, b, h => by
    have ih := rform_digits p a b fun y hy => h y (by simp [hy])
    have hx := h x (by simp)
    cases hd : isDig x <;> simp [rform, hx, hd, ih]
theorem rform_no (p : Nat) (a : List UInt8) (h : ∀ x ∈ a, x ≠ 46) : rform a p = if a.all isDig then some p else none := by
  have := rform_digits p a [] h
  simpa [rform] using this
theorem rform_late : ∀ (b : List UInt8), rform b 1 = if b.all isDig then some 1 else none
  | [] => by simp [rform]
  | x :: b => by
    have ih := rform_late b
    by_cases hx : x = 46
    · subst hx
      have : isDig 46 = false := by decide
      simp [rform, this]
    · cases hd : isDig x <;> simp [rform, hx, hd, ih]
theorem rform_pt (b : List UInt8) : rform (46 :: b) 0 = if digitsB b then some 1 else none := by
  cases b with
  | nil => simp [rform, digitsB]
  | cons x b =>
    rw [rform, if_pos rfl, if_neg (by simp), Nat.zero_add, rform_late]; simp [digitsB]
/-- the reference's answer is the form -/
theorem rform_is (l : List UInt8) :
    (if l = [] ∨ isDig (l.getD 0 0) = false then (0 : Int) else match rform l 0 with
      | none => 0
      | some p => if l.getD 0 0 = 48 ∧ 1 < l.length ∧ l.getD 1 0 ≠ 46 then 0 else 1 + (p : Int)) = numForm l := by
  rcases split_at 46 l with h | ⟨a, b, rfl, h⟩
  · rw [numForm, cut_no 46 l h]
    simp only
    cases l with
    | nil => simp [digitsB]
    | cons x l =>
      rw [rform_no 0 _ h]
      have h1 : (x :: l).getD 1 0 ≠ 46 ∨ l = [] := by
        cases l with
        | nil => simp
        | cons y l => left; simpa using h y (by simp)
      cases hd : isDig x
      · simp [digitsB, hd]
      · cases ha : l.all isDig
        · simp [digitsB, hd, ha]
        · rcases h1 with h1 | h1
          · simp only [digitsB, hd, ha, List.getD_cons_zero, List.all_cons]
            by_cases hx : x = 48
            · subst hx
              cases l with
              | nil => simp
              | cons y l => simp at h1; simp [h1]
            · simp [hx]
          · subst h1; simp [digitsB, hd]
  · rw [numForm, cut_find 46 a b h]
    simp only
    rw [rform_digits 0 _ _ h, rform_pt]
    cases a with
    | nil =>
      have : isDig 46 = false := by decide
      simp [digitsB, this]
    | cons x a =>
      cases hd : isDig x
      · simp [digitsB, hd]
      · cases ha : a.all isDig
        · simp [digitsB, hd, ha]
        · cases hb : digitsB b
          · simp [digitsB, hd, ha]
          · simp only [List.cons_append, List.getD_cons_zero, hd, List.all_cons, ha]
            cases a with
            | nil => simp [digitsB, hd]
            | cons y a =>
              have hy : y ≠ 46 := h y (by simp)
              simp at ha
              have he : ¬ ∃ x, x ∈ a ∧ isDig x = false := fun ⟨z, hz, hn⟩ => by rw [ha.2 z hz] at hn; cases hn
              simp [digitsB, hd, ha, hy]
              simp only [he, false_or]
/-! kinds of tokens -/
def plainB (l : List UInt8) : Bool := l.all fun c => c != 46 && c != 45
def digFirst (l : List UInt8) : Bool := isDig (l.getD 0 0)
def wordsL : List (List UInt8) := [[112, 108, 97, 110], [99, 117, 114, 114, 101, 110, 99, 121], [104, 111, 114, 105, 122, 111, 110], [109, 101, 116, 101, 114], [117, 110, 105, 116], [109, 97, 120], [102, 101, 101], [99, 104, 97, 114, 103, 101], [102, 114, 111, 109], [116, 111], [97, 108, 108, 111, 119, 97, 110, 99, 101], [98, 108, 111, 99, 107], [103, 114, 97, 100, 117, 97, 116, 101, 100], [118, 111, 108, 117, 109, 101], [117, 112, 116, 111], [114, 97, 116, 101], [114, 101, 115, 116], [114, 111, 117, 110, 100], [102, 108, 111, 111, 114], [99, 101, 105, 108], [104, 97, 108, 102, 117, 112], [104, 97, 108, 102, 101, 118, 101, 110], [112, 101, 114, 99, 101, 110, 116], [99, 97, 112], [109, 105, 110, 105, 109, 117, 109], [97, 100, 100]]
def isWord (l : List UInt8) : Bool := wordsL.contains l
def kindOf (l : List UInt8) : Int :=
  if l = [123] ∨ l = [125] ∨ l = [59] then 5 else if l = [] ∨ l.all isLet = false then 0
  else if isWord l then 2 else if plainB l ∧ digFirst l = false then 1 else if numForm l ≠ 0 then 3 else if parseOk l then 4 else 0
end Go.Proofs.Ytapdepjkcbipaaa
