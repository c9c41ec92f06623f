import Derived.RowKit
import Derived.Lib.IndexBytes
import Derived.Lib.IndexMore
import Derived.Lib.IndexLaws
import Derived.Lib.ItoaMem
import Derived.Lib.Repeat
import Derived.Lib.AtoiAll
import Derived.Lib.AtoiAllCases
import Derived.Lib.TrimByte
import Derived.Test.YtcgkfgklggjmaaaDoorProg
import Derived.WalkKit
import Derived.Deep.QuietTactic
import Derived.BigQuiet
import Derived.WalkSpells
import Derived.Outline
import Derived.Lib.Hide
import Derived.Deep.LoopGhost
import Derived.Deep.DeepFit
import Derived.Lib.OthersKept
import Derived.Lib.Strings
import Derived.Deep.RegionWith
import Derived.Deep.RegionHeld3
import Derived.OwnWalk
import Derived.Laws.OwnMore
import Derived.Laws.ResultCell
import Derived.Laws.Rows
import Derived.Laws.StructEq
import Derived.Deep.AppendLies
import Derived.Deep.Draws
section
namespace Go.Proofs.YtcgkfgklggjmaaaDoor
set_option linter.unusedVariables false
set_option linter.unusedSimpArgs false
/-! plain words on days: no Go in this text -/
def leapB (y : Int) : Bool := y % 4 == 0 && (y % 100 != 0 || y % 400 == 0)
def daysI (y m : Int) : Int :=
  if m = 2 then (if leapB y then 29 else 28) else if m = 4 ∨ m = 6 ∨ m = 9 ∨ m = 11 then 30
  else if m = 1 ∨ m = 3 ∨ m = 5 ∨ m = 7 ∨ m = 8 ∨ m = 10 ∨ m = 12 then 31 else 0
def goodB (y m d : Int) : Bool := decide (1 ≤ y ∧ y ≤ 9999 ∧ 1 ≤ d ∧ d ≤ daysI y m)

theorem tmod_zero (y k : Int) : (y.tmod k = 0) ↔ (y % k = 0) := by
  rw [← Int.dvd_iff_tmod_eq_zero, ← Int.dvd_iff_emod_eq_zero]
theorem tmod_beq (y k : Int) : (y.tmod k == 0) = (y % k == 0) := by
  rw [Bool.eq_iff_iff, beq_iff_eq, beq_iff_eq, tmod_zero]
theorem tmod_bne (y k : Int) : (y.tmod k != 0) = (y % k != 0) := by
  simp only [bne, tmod_beq]
theorem leap_ref (y : Int) (h : ¬ y % 400 = 0) (h1 : ¬ y % 100 = 0) : leapB y = (y % 4 == 0) := by
  have e1 : (y % 400 == 0) = false := by simpa using h
  have e2 : (y % 100 != 0) = true := by simpa using h1
  simp [leapB, e2]
theorem leap_400 (y : Int) (h : y % 400 = 0) : leapB y = true := by
  have e1 : (y % 400 == 0) = true := by simpa using h
  have e2 : (y % 4 == 0) = true := by rw [beq_iff_eq]; omega
  simp [leapB, e1, e2]
theorem leap_100 (y : Int) (h : ¬ y % 400 = 0) (h1 : y % 100 = 0) : leapB y = false := by
  have e1 : (y % 400 == 0) = false := by simpa using h
  have e2 : (y % 100 != 0) = false := by simpa using h1
  simp [leapB, e1, e2]
theorem days_bd (y m : Int) : 0 ≤ daysI y m ∧ daysI y m ≤ 31 := by
  unfold daysI; repeat' split
  all_goals omega
theorem days_pos (y m : Int) (h1 : 1 ≤ m) (h2 : m ≤ 12) : 28 ≤ daysI y m := by
  unfold daysI; repeat' split
  all_goals omega
theorem days_none (y m : Int) (h : m < 1 ∨ 12 < m) : daysI y m = 0 := by
  unfold daysI
  rw [if_neg (by omega), if_neg (by omega), if_neg (by omega)]
theorem days_2t (y : Int) (h : leapB y = true) : daysI y 2 = 29 := by simp [daysI, h]
theorem days_2f (y : Int) (h : leapB y = false) : daysI y 2 = 28 := by simp [daysI, h]
theorem days_30 (y m : Int) (h : m = 4 ∨ m = 6 ∨ m = 9 ∨ m = 11) : daysI y m = 30 := by
  unfold daysI; rw [if_neg (by omega), if_pos h]
theorem days_31 (y m : Int) (h : m = 1 ∨ m = 3 ∨ m = 5 ∨ m = 7 ∨ m = 8 ∨ m = 10 ∨ m = 12) : daysI y m = 31 := by
  unfold daysI; rw [if_neg (by omega), if_neg (by omega), if_pos h]
theorem good_mk {y m d : Int} (h1 : 1 ≤ y) (h2 : y ≤ 9999) (h3 : 1 ≤ d) (h4 : d ≤ daysI y m) : goodB y m d = true := by simp [goodB, *]
theorem good_of {y m d : Int} (h : goodB y m d = true) : 1 ≤ y ∧ y ≤ 9999 ∧ 1 ≤ d ∧ d ≤ daysI y m ∧ 1 ≤ m ∧ m ≤ 12 ∧ d ≤ 31 := by
  have h := of_decide_eq_true h
  have hb := days_bd y m
  refine ⟨h.1, h.2.1, h.2.2.1, h.2.2.2, ?_, ?_, by omega⟩
  · exact Classical.byContradiction fun hc => by rw [days_none y m (by omega)] at h; omega
  · exact Classical.byContradiction fun hc => by rw [days_none y m (by omega)] at h; omega
/-! a day's text -/
def isDig (c : UInt8) : Bool := decide (48 ≤ c.toNat ∧ c.toNat ≤ 57)
def digI (c : UInt8) : Int := (c.toNat : Int) - 48
def numL (l : List UInt8) : Int := l.foldl (fun n c => 10 * n + digI c) 0
theorem numL_nil : numL [] = 0 := rfl
theorem numL_snoc (l : List UInt8) (c : UInt8) : numL (l ++ [c]) = 10 * numL l + digI c := by simp [numL]
theorem digI_bd {c : UInt8} (h : isDig c = true) : 0 ≤ digI c ∧ digI c ≤ 9 := by
  have h := of_decide_eq_true h
  unfold digI; omega
theorem numF_bd (l : List UInt8) : ∀ (a : Int), l.all isDig = true → 0 ≤ a → a * 10 ^ l.length ≤ l.foldl (fun n c => 10 * n + digI c) a ∧ l.foldl (fun n c => 10 * n + digI c) a < (a + 1) * 10 ^ l.length := by
  induction l with
  | nil => intro a _ h; simp; omega
  | cons c l ih =>
    intro a h ha
    simp only [List.all_cons, Bool.and_eq_true] at h
    have h2 := digI_bd h.1
    have h1 := ih (10 * a + digI c) h.2 (by omega)
    have hp : (0 : Int) < 10 ^ l.length := Int.pow_pos (by omega)
    simp only [List.foldl_cons, List.length_cons, Int.pow_succ]
    have e1 : a * (10 ^ l.length * 10) ≤ (10 * a + digI c) * 10 ^ l.length := by
      have : (10 * a) * 10 ^ l.length ≤ (10 * a + digI c) * 10 ^ l.length := Int.mul_le_mul_of_nonneg_right (by omega) (by omega)
      have e : (10 * a) * 10 ^ l.length = a * (10 ^ l.length * 10) := by rw [Int.mul_comm 10 a, Int.mul_assoc, Int.mul_comm 10]
      omega
    have e2 : (10 * a + digI c + 1) * 10 ^ l.length ≤ (a + 1) * (10 ^ l.length * 10) := by
      have : (10 * a + digI c + 1) * 10 ^ l.length ≤ (10 * (a + 1)) * 10 ^ l.length := Int.mul_le_mul_of_nonneg_right (by omega) (by omega)
      have e : (10 * (a + 1)) * 10 ^ l.length = (a + 1) * (10 ^ l.length * 10) := by rw [Int.mul_comm 10 (a + 1), Int.mul_assoc, Int.mul_comm 10]
      omega
    omega
theorem numL_bd (l : List UInt8) (h : l.all isDig = true) : 0 ≤ numL l ∧ numL l < 10 ^ l.length := by
  have := numF_bd l 0 h (by omega)
  simp only [Int.zero_mul, Int.zero_add, Int.one_mul] at this
  exact this
def dateShape (l : List UInt8) : Bool :=
  l.length == 10 && l.getD 4 0 == 45 && l.getD 7 0 == 45 && (l.take 4).all isDig && ((l.drop 5).take 2).all isDig && (l.drop 8).all isDig
def parseY (l : List UInt8) : Int := numL (l.take 4)
def parseM (l : List UInt8) : Int := numL ((l.drop 5).take 2)
def parseD (l : List UInt8) : Int := numL (l.drop 8)
def parseOk (l : List UInt8) : Bool := dateShape l && goodB (parseY l) (parseM l) (parseD l)
end Go.Proofs.YtcgkfgklggjmaaaDoor
end
section
namespace Go.Proofs.YtcgkfgklggjmaaaDoor
set_option linter.unusedVariables false
set_option linter.unusedSimpArgs false
/-! plain words on tokens: no Go in this text -/
def isLet (c : UInt8) : Bool := decide ((97 ≤ c.toNat ∧ c.toNat ≤ 122) ∨ (65 ≤ c.toNat ∧ c.toNat ≤ 90) ∨ (48 ≤ c.toNat ∧ c.toNat ≤ 57) ∨ c.toNat = 95 ∨ c.toNat = 46 ∨ c.toNat = 45)
def digitsB (l : List UInt8) : Bool := !l.isEmpty && l.all isDig
/-- a number's form: 0 odd, 1 whole, 2 with a point -/
def numForm (l : List UInt8) : Int :=
  if digitsB (Lib.cut l [46]).1 = false ∨ (1 < (Lib.cut l [46]).1.length ∧ (Lib.cut l [46]).1.getD 0 0 = 48) then 0
  else if (Lib.cut l [46]).2.2 = false then 1 else if digitsB (Lib.cut l [46]).2.1 then 2 else 0
/-- the reference's scan -/
def rform : List UInt8 → Nat → Option Nat
  | [], p => some p
  | c :: cs, p => if c = 46 then (if 1 ≤ p ∨ cs = [] then none else rform cs (p + 1)) else if isDig c then rform cs p else none
theorem indexByte_find (c : UInt8) : ∀ (a b : List UInt8), (∀ x ∈ a, x ≠ c) → Lib.indexByte (a ++ c :: b) c = a.length
  | [], b, _ => by simp [Lib.indexByte]
  | x :: a, b, h => by
    have ih := indexByte_find c a b fun y hy => h y (by simp [hy])
    have hx : (x == c) = false := beq_eq_false_iff_ne.2 (h x (by simp))
    have hn : ((a.length : Int) == -1) = false := beq_eq_false_iff_ne.2 (by omega)
    simp [Lib.indexByte, hx, ih, hn]
theorem indexByte_no (c : UInt8) : ∀ (a : List UInt8), (∀ x ∈ a, x ≠ c) → Lib.indexByte a c = -1
  | [], _ => rfl
  | x :: a, h => by
    have ih := indexByte_no c a fun y hy => h y (by simp [hy])
    have hx : (x == c) = false := beq_eq_false_iff_ne.2 (h x (by simp))
    simp [Lib.indexByte, hx, ih]
theorem cut_find (c : UInt8) (a b : List UInt8) (h : ∀ x ∈ a, x ≠ c) : Lib.cut (a ++ c :: b) [c] = (a, b, true) := by
  unfold Lib.cut
  rw [Lib.index_one, indexByte_find c a b h, if_pos (by omega)]
  simp [List.drop_append]
theorem cut_no (c : UInt8) (a : List UInt8) (h : ∀ x ∈ a, x ≠ c) : Lib.cut a [c] = (a, [], false) := by
  unfold Lib.cut
  rw [Lib.index_one, indexByte_no c a h, if_neg (by omega)]
theorem split_at (c : UInt8) : ∀ l : List UInt8, (∀ x ∈ l, x ≠ c) ∨ ∃ a b, l = a ++ c :: b ∧ ∀ x ∈ a, x ≠ c
  | [] => .inl (by simp)
  | x :: l => by
    by_cases hx : x = c
    · exact .inr ⟨[], l, by simp [hx], by simp⟩
    · rcases split_at c l with h | ⟨a, b, rfl, h⟩
      · refine .inl fun y hy => ?_
        rcases List.mem_cons.1 hy with rfl | hy
        · exact hx
        · exact h y hy
      · refine .inr ⟨x :: a, b, rfl, fun y hy => ?_⟩
        rcases List.mem_cons.1 hy with rfl | hy
        · exact hx
        · exact h y hy
theorem isDig_ne {c : UInt8} (h : isDig c = true) : c ≠ 46 := by rintro rfl; revert h; decide
theorem rform_digits (p : Nat) : ∀ (a b : List UInt8), (∀ x ∈ a, x ≠ 46) → rform (a ++ b) p = if a.all isDig then rform b p else none
  | [], b, _ => by simp
  | x :: a, b, h => by
    have ih := rform_digits p a b fun y hy => h y (by simp [hy])
    have hx := h x (by simp)
    cases hd : isDig x <;> simp [rform, hx, hd, ih]
theorem rform_no (p : Nat) (a : List UInt8) (h : ∀ x ∈ a, x ≠ 46) : rform a p = if a.all isDig then some p else none := by
  have := rform_digits p a [] h
  simpa [rform] using this
theorem rform_late : ∀ (b : List UInt8), rform b 1 = if b.all isDig then some 1 else none
  | [] => by simp [rform]
  | x :: b => by
    have ih := rform_late b
    by_cases hx : x = 46
    · subst hx
      have : isDig 46 = false := by decide
      simp [rform, this]
    · cases hd : isDig x <;> simp [rform, hx, hd, ih]
theorem rform_pt (b : List UInt8) : rform (46 :: b) 0 = if digitsB b then some 1 else none := by
  cases b with
  | nil => simp [rform, digitsB]
  | cons x b =>
    rw [rform, if_pos rfl, if_neg (by simp), Nat.zero_add, rform_late]; simp [digitsB]
/-- the reference's answer is the form -/
theorem rform_is (l : List UInt8) :
    (if l = [] ∨ isDig (l.getD 0 0) = false then (0 : Int) else match rform l 0 with
      | none => 0
      | some p => if l.getD 0 0 = 48 ∧ 1 < l.length ∧ l.getD 1 0 ≠ 46 then 0 else 1 + (p : Int)) = numForm l := by
  rcases split_at 46 l with h | ⟨a, b, rfl, h⟩
  · rw [numForm, cut_no 46 l h]
    simp only
    cases l with
    | nil => simp [digitsB]
    | cons x l =>
      rw [rform_no 0 _ h]
      have h1 : (x :: l).getD 1 0 ≠ 46 ∨ l = [] := by
        cases l with
        | nil => simp
        | cons y l => left; simpa using h y (by simp)
      cases hd : isDig x
      · simp [digitsB, hd]
      · cases ha : l.all isDig
        · simp [digitsB, hd, ha]
        · rcases h1 with h1 | h1
          · simp only [digitsB, hd, ha, List.getD_cons_zero, List.all_cons]
            by_cases hx : x = 48
            · subst hx
              cases l with
              | nil => simp
              | cons y l => simp at h1; simp [h1]
            · simp [hx]
          · subst h1; simp [digitsB, hd]
  · rw [numForm, cut_find 46 a b h]
    simp only
    rw [rform_digits 0 _ _ h, rform_pt]
    cases a with
    | nil =>
      have : isDig 46 = false := by decide
      simp [digitsB, this]
    | cons x a =>
      cases hd : isDig x
      · simp [digitsB, hd]
      · cases ha : a.all isDig
        · simp [digitsB, hd, ha]
        · cases hb : digitsB b
          · simp [digitsB, hd, ha]
          · simp only [List.cons_append, List.getD_cons_zero, hd, List.all_cons, ha]
            cases a with
            | nil => simp [digitsB, hd]
            | cons y a =>
              have hy : y ≠ 46 := h y (by simp)
              simp at ha
              have he : ¬ ∃ x, x ∈ a ∧ isDig x = false := fun ⟨z, hz, hn⟩ => by rw [ha.2 z hz] at hn; cases hn
              simp [digitsB, hd, ha, hy]
              simp only [he, false_or]
/-! kinds of tokens -/
def plainB (l : List UInt8) : Bool := l.all fun c => c != 46 && c != 45
def digFirst (l : List UInt8) : Bool := isDig (l.getD 0 0)
def wordsL : List (List UInt8) := [[112, 108, 97, 110], [99, 117, 114, 114, 101, 110, 99, 121], [104, 111, 114, 105, 122, 111, 110], [109, 101, 116, 101, 114], [117, 110, 105, 116], [109, 97, 120], [102, 101, 101], [99, 104, 97, 114, 103, 101], [102, 114, 111, 109], [116, 111], [97, 108, 108, 111, 119, 97, 110, 99, 101], [98, 108, 111, 99, 107], [103, 114, 97, 100, 117, 97, 116, 101, 100], [118, 111, 108, 117, 109, 101], [117, 112, 116, 111], [114, 97, 116, 101], [114, 101, 115, 116], [114, 111, 117, 110, 100], [102, 108, 111, 111, 114], [99, 101, 105, 108], [104, 97, 108, 102, 117, 112], [104, 97, 108, 102, 101, 118, 101, 110], [112, 101, 114, 99, 101, 110, 116], [99, 97, 112], [109, 105, 110, 105, 109, 117, 109], [97, 100, 100]]
def isWord (l : List UInt8) : Bool := wordsL.contains l
def kindOf (l : List UInt8) : Int :=
  if l = [123] ∨ l = [125] ∨ l = [59] then 5 else if l = [] ∨ l.all isLet = false then 0
  else if isWord l then 2 else if plainB l ∧ digFirst l = false then 1 else if numForm l ≠ 0 then 3 else if parseOk l then 4 else 0
end Go.Proofs.YtcgkfgklggjmaaaDoor
end
section
namespace Go.Proofs.YtcgkfgklggjmaaaDoor
set_option linter.unusedVariables false
set_option linter.unusedSimpArgs false
def textW : List UInt8 := 32 :: wordsL.flatMap (· ++ [32])
theorem cut_left {c : UInt8} : ∀ {w a r t : List UInt8}, (∀ x ∈ w, x ≠ c) → w ++ c :: r = a ++ c :: t → ∃ d, a = w ++ d ∧ c :: r = d ++ c :: t
  | [], a, r, t, _, h => ⟨a, rfl, h⟩
  | x :: w, [], r, t, hw, h => by
    injection h with h1 _
    exact absurd h1 (hw x (by simp))
  | x :: w, y :: a, r, t, hw, h => by
    injection h with h1 h2
    obtain ⟨d, h3, h4⟩ := cut_left (fun z hz => hw z (by simp [hz])) h2
    exact ⟨d, by rw [h3, h1]; rfl, h4⟩
theorem cut_same {c : UInt8} {w l r t : List UInt8} (hw : ∀ x ∈ w, x ≠ c) (hl : ∀ x ∈ l, x ≠ c) (h : w ++ c :: r = l ++ c :: t) : w = l := by
  obtain ⟨d, h1, _⟩ := cut_left hw h
  obtain ⟨d', h3, _⟩ := cut_left hl h.symm
  rw [h1, List.append_assoc] at h3
  have := List.append_cancel_left (show w ++ [] = w ++ (d ++ d') by simpa using h3)
  have : d = [] := (List.append_eq_nil_iff.1 this.symm).1
  rw [h1, this, List.append_nil]
theorem word_in (l b : List UInt8) (hl : ∀ x ∈ l, x ≠ 32) : ∀ (ws : List (List UInt8)) (a : List UInt8), (∀ w ∈ ws, ∀ x ∈ w, x ≠ 32) →
    32 :: ws.flatMap (· ++ [32]) = a ++ 32 :: (l ++ 32 :: b) → l ∈ ws
  | [], a, _, h => by
    have := congrArg List.length h
    simp at this; omega
  | w :: ws, [], hw, h => by
    injection h with _ h
    simp only [List.flatMap_cons, List.append_assoc, List.singleton_append] at h
    have := cut_same (hw w (by simp)) hl h
    simp [this]
  | w :: ws, x :: a, hw, h => by
    injection h with _ h
    simp only [List.flatMap_cons, List.append_assoc, List.singleton_append] at h
    obtain ⟨d, _, h4⟩ := cut_left (hw w (by simp)) h
    have := word_in l b hl ws d (fun v hv => hw v (by simp [hv])) h4
    simp [this]
theorem occ_of_index {s sub : List UInt8} (h : 0 ≤ Lib.index s sub) : ∃ j, j ≤ s.length ∧ Lib.occAt s sub j = true := by
  refine Classical.byContradiction fun hc => ?_
  have := Lib.index_none (s := s) (sub := sub) fun j hj => by
    cases ho : Lib.occAt s sub j with
    | false => rfl
    | true => exact absurd ⟨j, hj, ho⟩ hc
  omega
theorem word_free : ∀ w ∈ wordsL, ∀ x ∈ w, x ≠ 32 := by decide
theorem word_all : wordsL.all (fun w => Lib.contains textW (32 :: (w ++ [32]))) = true := by decide +kernel
theorem isLet_ne {c : UInt8} (h : isLet c = true) : c ≠ 32 := by rintro rfl; revert h; decide
theorem contains_words (l : List UInt8) (h : l.all isLet = true) : Lib.contains textW (32 :: (l ++ [32])) = isWord l := by
  cases hw : isWord l with
  | true =>
    have hm : l ∈ wordsL := by simpa [isWord] using hw
    exact List.all_eq_true.1 word_all l hm
  | false =>
    cases hc : Lib.contains textW (32 :: (l ++ [32])) with
    | false => rfl
    | true =>
      exfalso
      obtain ⟨j, hj, ho⟩ := occ_of_index (of_decide_eq_true hc)
      obtain ⟨t, ht⟩ := List.isPrefixOf_iff_prefix.1 ho
      have : textW = textW.take j ++ 32 :: (l ++ 32 :: t) := by
        have e := (List.take_append_drop j textW).symm
        rw [← ht] at e
        simpa using e
      have hm := word_in l t (fun x hx => isLet_ne (List.all_eq_true.1 h x hx)) wordsL (textW.take j) word_free this
      have : isWord l = true := by simpa [isWord] using hm
      rw [hw] at this; cases this
theorem contains_sign (c : UInt8) : Lib.contains [123, 125, 59] [c] = (c == 123 || c == 125 || c == 59) := by
  unfold Lib.contains
  rw [Lib.index_one]
  by_cases h1 : c = 123
  · subst h1; decide
  · by_cases h2 : c = 125
    · subst h2; decide
    · by_cases h3 : c = 59
      · subst h3; decide
      · have e1 : (123 == c) = false := beq_eq_false_iff_ne.2 (Ne.symm h1)
        have e2 : (125 == c) = false := beq_eq_false_iff_ne.2 (Ne.symm h2)
        have e3 : (59 == c) = false := beq_eq_false_iff_ne.2 (Ne.symm h3)
        simp [Lib.indexByte, e1, e2, e3, h1, h2, h3]
theorem numForm_nonneg (l : List UInt8) : 0 ≤ numForm l := by
  unfold numForm; repeat' split
  all_goals omega
theorem kind_sign {l : List UInt8} (h : l = [123] ∨ l = [125] ∨ l = [59]) : kindOf l = 5 := by simp [kindOf, h]
theorem kind_no {l : List UInt8} (h : ¬ (l = [123] ∨ l = [125] ∨ l = [59])) (h0 : l = [] ∨ l.all isLet = false) : kindOf l = 0 := by
  rw [kindOf, if_neg h, if_pos h0]
theorem kind_let {l : List UInt8} (h : l.all isLet = true) (h0 : l ≠ []) : kindOf l = if isWord l then 2 else if plainB l ∧ digFirst l = false then 1 else if numForm l ≠ 0 then 3 else if parseOk l then 4 else 0 := by
  have h1 : ¬ (l = [123] ∨ l = [125] ∨ l = [59]) := by
    rintro (rfl | rfl | rfl) <;> revert h <;> decide
  rw [kindOf, if_neg h1, if_neg (by simp only [h0, h, false_or]; simp)]
end Go.Proofs.YtcgkfgklggjmaaaDoor
end
section
namespace Go.Proofs.YtcgkfgklggjmaaaDoor
set_option linter.unusedVariables false
set_option linter.unusedSimpArgs false
/-! blanks, and places -/
def blankN : List UInt8 → Int
  | [] => 0
  | c :: cs => if c = 35 then (if 0 ≤ Lib.indexByte (c :: cs) 10 then Lib.indexByte (c :: cs) 10 else ((c :: cs).length : Int)) else if c = 32 ∨ c = 9 ∨ c = 13 ∨ c = 10 then 1 else 0
/-! over -/
def overL (l : List UInt8) (p : Int × Int) : Int × Int := l.foldl (fun p c => if c = 10 then (p.1 + 1, 1) else (p.1, p.2 + 1)) p
theorem overL_snoc (l : List UInt8) (c : UInt8) (p : Int × Int) : overL (l ++ [c]) p = if c = 10 then ((overL l p).1 + 1, 1) else ((overL l p).1, (overL l p).2 + 1) := by
  simp [overL]
theorem overL_app (l m : List UInt8) (p : Int × Int) : overL (l ++ m) p = overL m (overL l p) := by simp [overL]
theorem overL_bd : ∀ (l : List UInt8) (p : Int × Int), 0 ≤ p.1 → 0 ≤ p.2 → 0 ≤ (overL l p).1 ∧ (overL l p).1 ≤ p.1 + l.length ∧ 0 ≤ (overL l p).2 ∧ (overL l p).2 ≤ p.2 + l.length + 1
  | [], p, h1, h2 => by simp [overL]; omega
  | c :: l, p, h1, h2 => by
    have e : overL (c :: l) p = overL l (if c = 10 then (p.1 + 1, 1) else (p.1, p.2 + 1)) := rfl
    rw [e]
    by_cases hc : c = 10
    · have ih := overL_bd l (p.1 + 1, 1) (by simp only; omega) (by simp only; omega)
      rw [if_pos hc]
      simp only [List.length_cons] at ih ⊢
      omega
    · have ih := overL_bd l (p.1, p.2 + 1) (by simp only; omega) (by simp only; omega)
      rw [if_neg hc]
      simp only [List.length_cons] at ih ⊢
      omega
/-! run -/
def runLen (l : List UInt8) : Nat := (l.takeWhile isLet).length
theorem runLen_nil : runLen [] = 0 := rfl
theorem runLen_le (l : List UInt8) : runLen l ≤ l.length := (List.takeWhile_prefix (p := isLet) (l := l)).length_le
def runN (l : List UInt8) : Int := max (runLen l : Int) (min (l.length : Int) 1)
/-! all tokens -/
structure Tok where
  kind : Int
  text : ByteArray
  line : Int
  col : Int
def noteLen (l : List UInt8) : Nat := (l.takeWhile (· != 10)).length
theorem noteLen_le (l : List UInt8) : noteLen l ≤ l.length := (List.takeWhile_prefix (p := (· != 10)) (l := l)).length_le
def tokLen (c : UInt8) (cs : List UInt8) : Nat := if isLet c then runLen cs else 0
theorem tokLen_le (c : UInt8) (cs : List UInt8) : tokLen c cs ≤ cs.length := by
  unfold tokLen; split
  · exact runLen_le cs
  · omega
def consR (t : Tok) : Except (Int × Int) (List Tok) → Except (Int × Int) (List Tok)
  | .ok l => .ok (t :: l)
  | .error e => .error e
def lexL (l : List UInt8) (line col : Int) : Except (Int × Int) (List Tok) :=
  match l with
  | [] => .ok [⟨0, ⟨#[]⟩, line, col⟩]
  | c :: cs =>
    if c = 35 then lexL (cs.drop (noteLen cs)) line (col + 1 + noteLen cs)
    else if c = 10 then lexL cs (line + 1) 1
    else if c = 32 ∨ c = 9 ∨ c = 13 then lexL cs line (col + 1)
    else if kindOf (c :: cs.take (tokLen c cs)) = 0 then .error (line, col)
    else consR ⟨kindOf (c :: cs.take (tokLen c cs)), ⟨(c :: cs.take (tokLen c cs)).toArray⟩, line, col⟩ (lexL (cs.drop (tokLen c cs)) line (col + 1 + tokLen c cs))
termination_by l.length
decreasing_by all_goals (simp only [List.length_cons, List.length_drop]; omega)
def lexAll (l : List UInt8) : List Tok × Int × Int × Int :=
  if 8192 < l.length then ([], 6, 1, 1) else match lexL l 1 1 with
    | .ok ts => (ts, 0, 0, 0)
    | .error (a, b) => ([], 3, a, b)
def preR (ts : List Tok) : Except (Int × Int) (List Tok) → Except (Int × Int) (List Tok)
  | .ok l => .ok (ts ++ l)
  | .error e => .error e
theorem preR_nil (r : Except (Int × Int) (List Tok)) : preR [] r = r := by cases r <;> rfl
theorem preR_snoc (ts : List Tok) (t : Tok) (r : Except (Int × Int) (List Tok)) : preR (ts ++ [t]) r = preR ts (consR t r) := by cases r <;> simp [preR, consR]
theorem over_none : ∀ (l : List UInt8) (p : Int × Int), (∀ x ∈ l, x ≠ 10) → overL l p = (p.1, p.2 + l.length)
  | [], p, _ => by simp [overL]
  | c :: l, p, h => by
    have e : overL (c :: l) p = overL l (if c = 10 then (p.1 + 1, 1) else (p.1, p.2 + 1)) := rfl
    rw [e, if_neg (h c (by simp)), over_none l _ fun x hx => h x (by simp [hx])]
    simp; omega
theorem takeWhile_take {p : UInt8 → Bool} (l : List UInt8) : l.take (l.takeWhile p).length = l.takeWhile p := by
  have := List.takeWhile_append_dropWhile (p := p) (l := l)
  conv => lhs; rw [← this]
  rw [List.take_left']
  rw [this]
theorem index_note (cs : List UInt8) : (if 0 ≤ Lib.indexByte cs 10 then Lib.indexByte cs 10 else (cs.length : Int)) = noteLen cs := by
  induction cs with
  | nil => simp [Lib.indexByte, noteLen]
  | cons x l ih =>
    by_cases hx : x = 10
    · subst hx; simp [Lib.indexByte, noteLen]
    · have hb : (x == 10) = false := beq_eq_false_iff_ne.2 hx
      have hge := Lib.indexByte_ge l 10
      have hn : noteLen (x :: l) = noteLen l + 1 := by simp [noteLen, hx]
      rw [hn]
      by_cases h1 : Lib.indexByte l 10 = -1
      · rw [h1] at ih
        have : Lib.indexByte (x :: l) 10 = -1 := by simp [Lib.indexByte, hb, h1]
        rw [this]; simp at ih ⊢; omega
      · have h2 : (Lib.indexByte l 10 == -1) = false := beq_eq_false_iff_ne.2 h1
        have : Lib.indexByte (x :: l) 10 = Lib.indexByte l 10 + 1 := by simp [Lib.indexByte, hb, h2]
        rw [if_pos (by omega)] at ih
        rw [this, if_pos (by omega)]; omega
theorem blank_note (cs : List UInt8) : blankN (35 :: cs) = 1 + noteLen cs := by
  have h := index_note (35 :: cs)
  have hn : noteLen (35 :: cs) = noteLen cs + 1 := by simp [noteLen]
  rw [hn] at h
  simp only [blankN, if_true]
  rw [h]; omega
theorem mem_tw (p : UInt8 → Bool) : ∀ (l : List UInt8) (x : UInt8), x ∈ l.takeWhile p → p x = true
  | [], x, h => by simp at h
  | c :: l, x, h => by
    rw [List.takeWhile_cons] at h
    split at h
    · rename_i hc
      rcases List.mem_cons.1 h with rfl | h
      · exact hc
      · exact mem_tw p l x h
    · simp at h
theorem note_free (cs : List UInt8) : ∀ x ∈ cs.take (noteLen cs), x ≠ 10 := by
  intro x hx
  unfold noteLen at hx
  rw [takeWhile_take] at hx
  simpa using mem_tw _ cs x hx
/-- what is none's: the rest stands behind it -/
theorem blank_step (l : List UInt8) (line col : Int) (h : 0 < blankN l) : ∃ n : Nat, blankN l = n ∧ 0 < n ∧ n ≤ l.length ∧
    lexL l line col = lexL (l.drop n) (overL (l.take n) (line, col)).1 (overL (l.take n) (line, col)).2 := by
  cases l with
  | nil => simp [blankN] at h
  | cons c cs =>
    by_cases h35 : c = 35
    · subst h35
      have hle := noteLen_le cs
      refine ⟨1 + noteLen cs, by rw [blank_note]; omega, by omega, by simp; omega, ?_⟩
      rw [lexL, if_pos rfl]
      have e1 : (35 :: cs).take (1 + noteLen cs) = 35 :: cs.take (noteLen cs) := by rw [Nat.add_comm]; rfl
      have e2 : (35 :: cs).drop (1 + noteLen cs) = cs.drop (noteLen cs) := by rw [Nat.add_comm]; rfl
      rw [e1, e2, over_none]
      · simp only [List.length_cons, List.length_take, Nat.min_eq_left hle]
        congr 1; omega
      · intro x hx
        rcases List.mem_cons.1 hx with rfl | hx
        · decide
        · exact note_free cs x hx
    · simp only [blankN, if_neg h35] at h ⊢
      by_cases hb : c = 32 ∨ c = 9 ∨ c = 13 ∨ c = 10
      · refine ⟨1, by rw [if_pos hb]; rfl, by omega, by simp, ?_⟩
        rw [lexL, if_neg h35]
        by_cases h10 : c = 10
        · subst h10; simp [overL]
        · have h3 : c = 32 ∨ c = 9 ∨ c = 13 := by
            rcases hb with h | h | h | h <;> simp_all
          rw [if_neg h10, if_pos h3]; simp [overL, h10]
      · rw [if_neg hb] at h; omega
theorem run_free (cs : List UInt8) : ∀ x ∈ cs.take (runLen cs), x ≠ 10 := by
  intro x hx
  unfold runLen at hx
  rw [takeWhile_take] at hx
  have := mem_tw _ cs x hx
  rintro rfl
  revert this; decide
theorem blank_bd (l : List UInt8) : 0 ≤ blankN l := by
  cases l with
  | nil => simp [blankN]
  | cons c cs => unfold blankN; repeat' split
                 all_goals omega
/-- a token, or what is none -/
theorem tok_step (l : List UInt8) (line col : Int) (h0 : ¬ 0 < blankN l) (hl : l ≠ []) : ∃ n : Nat, runN l = n ∧ 0 < n ∧ n ≤ l.length ∧
    lexL l line col = (if kindOf (l.take n) = 0 then .error (line, col) else consR ⟨kindOf (l.take n), ⟨(l.take n).toArray⟩, line, col⟩ (lexL (l.drop n) (overL (l.take n) (line, col)).1 (overL (l.take n) (line, col)).2)) := by
  cases l with
  | nil => exact absurd rfl hl
  | cons c cs =>
    have h35 : c ≠ 35 := by
      rintro rfl
      rw [blank_note] at h0; omega
    have hb : ¬ (c = 32 ∨ c = 9 ∨ c = 13 ∨ c = 10) := fun hb => by
      simp only [blankN, if_neg h35, if_pos hb] at h0; omega
    have h10 : c ≠ 10 := fun h => hb (by simp [h])
    have h3 : ¬ (c = 32 ∨ c = 9 ∨ c = 13) := fun h => hb (by rcases h with h | h | h <;> simp [h])
    have hle := tokLen_le c cs
    refine ⟨1 + tokLen c cs, ?_, by omega, by simp; omega, ?_⟩
    · unfold runN tokLen
      cases hi : isLet c with
      | true => simp [runLen, hi]; omega
      | false => simp [runLen, hi]; omega
    · rw [lexL, if_neg h35, if_neg h10, if_neg h3]
      have e1 : (c :: cs).take (1 + tokLen c cs) = c :: cs.take (tokLen c cs) := by rw [Nat.add_comm]; rfl
      have e2 : (c :: cs).drop (1 + tokLen c cs) = cs.drop (tokLen c cs) := by rw [Nat.add_comm]; rfl
      rw [e1, e2, over_none]
      · simp only [List.length_cons, List.length_take, Nat.min_eq_left hle]
        rw [show col + ((tokLen c cs + 1 : Nat) : Int) = col + 1 + (tokLen c cs : Int) from by omega]
      · intro x hx
        rcases List.mem_cons.1 hx with rfl | hx
        · exact h10
        · unfold tokLen at hx
          split at hx
          · exact run_free cs x hx
          · simp at hx
/-- all tokens but the last one are of the kind of their letters -/
theorem kinds_ok : ∀ (n : Nat) (l : List UInt8) (line col : Int) (ts : List Tok), l.length ≤ n → lexL l line col = .ok ts → ts ≠ [] ∧ ∀ i t, ts[i]? = some t → i + 1 < ts.length → kindOf t.text.data.toList = t.kind := by
  intro n
  induction n with
  | zero =>
    intro l line col ts hl h
    obtain rfl := List.length_eq_zero_iff.1 (Nat.le_zero.1 hl)
    rw [lexL] at h
    injection h with h
    subst h
    exact ⟨by simp, fun i t _ hi => by simp at hi⟩
  | succ n ih =>
    intro l line col ts hl h
    cases l with
    | nil =>
      rw [lexL] at h
      injection h with h
      subst h
      exact ⟨by simp, fun i t _ hi => by simp at hi⟩
    | cons c cs =>
      rw [List.length_cons] at hl
      rw [lexL] at h
      split at h
      · exact ih _ _ _ _ (by rw [List.length_drop]; omega) h
      · split at h
        · exact ih _ _ _ _ (by omega) h
        · split at h
          · exact ih _ _ _ _ (by omega) h
          · split at h
            · cases h
            · cases hr : lexL (cs.drop (tokLen c cs)) line (col + 1 + tokLen c cs) with
              | error e => rw [hr] at h; cases h
              | ok ts' =>
                rw [hr] at h
                injection h with h
                subst h
                have := ih _ _ _ _ (by rw [List.length_drop]; omega) hr
                refine ⟨by simp, fun i t ht hi => ?_⟩
                cases i with
                | zero =>
                  simp at ht
                  subst ht
                  rfl
                | succ i => exact this.2 i t (by simpa using ht) (by simpa using hi)
theorem all_kinds {l : List UInt8} {ts : List Tok} {er a b : Int} (h : lexAll l = (ts, er, a, b)) : ∀ i t, ts[i]? = some t → i + 1 < ts.length → kindOf t.text.data.toList = t.kind := by
  unfold lexAll at h
  split at h
  · injection h with h _
    subst h
    intro i t ht; simp at ht
  · cases hr : lexL l 1 1 with
    | ok ts' =>
      rw [hr] at h
      injection h with h _
      subst h
      exact (kinds_ok _ l 1 1 _ (Nat.le_refl _) hr).2
    | error e =>
      rw [hr] at h
      injection h with h _
      subst h
      intro i t ht; simp at ht
theorem sizes_ok : ∀ (n : Nat) (l : List UInt8) (line col : Int) (ts : List Tok), l.length ≤ n → lexL l line col = .ok ts → ∀ t ∈ ts, t.text.size ≤ l.length := by
  intro n
  induction n with
  | zero =>
    intro l line col ts hl h
    obtain rfl := List.length_eq_zero_iff.1 (Nat.le_zero.1 hl)
    rw [lexL] at h
    injection h with h
    subst h
    intro t ht
    simp at ht; subst ht; simp [ByteArray.size]
  | succ n ih =>
    intro l line col ts hl h
    cases l with
    | nil =>
      rw [lexL] at h
      injection h with h
      subst h
      intro t ht
      simp at ht; subst ht; simp [ByteArray.size]
    | cons c cs =>
      rw [List.length_cons] at hl
      rw [lexL] at h
      split at h
      · intro t ht
        have := ih _ _ _ _ (by rw [List.length_drop]; omega) h t ht
        rw [List.length_drop] at this; rw [List.length_cons]; omega
      · split at h
        · intro t ht
          have := ih _ _ _ _ (by omega) h t ht
          rw [List.length_cons]; omega
        · split at h
          · intro t ht
            have := ih _ _ _ _ (by omega) h t ht
            rw [List.length_cons]; omega
          · split at h
            · cases h
            · cases hr : lexL (cs.drop (tokLen c cs)) line (col + 1 + tokLen c cs) with
              | error e => rw [hr] at h; cases h
              | ok ts' =>
                rw [hr] at h
                injection h with h
                subst h
                intro t ht
                rcases List.mem_cons.1 ht with rfl | ht
                · simp [ByteArray.size]; omega
                · have := ih _ _ _ _ (by rw [List.length_drop]; omega) hr t ht
                  rw [List.length_drop] at this; rw [List.length_cons]; omega
theorem all_sizes {l : List UInt8} {ts : List Tok} {er a b : Int} (h : lexAll l = (ts, er, a, b)) : ∀ t ∈ ts, t.text.size ≤ 8192 := by
  unfold lexAll at h
  split at h
  · injection h with h _
    subst h
    intro t ht; simp at ht
  · cases hr : lexL l 1 1 with
    | ok ts' =>
      rw [hr] at h
      injection h with h _
      subst h
      intro t ht
      have := sizes_ok _ l 1 1 _ (Nat.le_refl _) hr t ht
      omega
    | error e =>
      rw [hr] at h
      injection h with h _
      subst h
      intro t ht; simp at ht
end Go.Proofs.YtcgkfgklggjmaaaDoor
end
section
namespace Go.Proofs.YtcgkfgklggjmaaaDoor.Par
set_option linter.unusedVariables false
set_option linter.unusedSimpArgs false
/-! parse and the reference's parse as plain functions over the tokens that are left -/
abbrev Day := Int × Int × Int
structure Win where
  has : Bool
  from_ : Day
  to_ : Day
  deriving DecidableEq
def noWin : Win := ⟨false, (0, 0, 0), (0, 0, 0)⟩
structure Met where
  name : ByteArray
  unit : ByteArray
  max : Int
  line : Int
  col : Int
structure Fee where
  amount : Int
  win : Win
  line : Int
  col : Int
structure Tier where
  upto : Int
  rate : Int
structure Adj where
  kind : Int
  n : Int
  mode : Int
structure Chg where
  meter : ByteArray
  win : Win
  allow : Int
  block : Int
  kind : Int
  tiers : List Tier
  mode : Int
  adjs : List Adj
  line : Int
  col : Int
structure Plan where
  name : ByteArray
  cur : ByteArray
  from_ : Day
  to_ : Day
  mets : List Met
  fees : List Fee
  chgs : List Chg
  line : Int
  col : Int
/-- the tokens that are left, and what is wrong (0: nothing) -/
structure St where
  rest : List Tok
  err : Int
  line : Int
  col : Int
def endTok : Tok := ⟨0, ⟨#[]⟩, 0, 0⟩
def peek (s : St) : Tok := s.rest.headD endTok
def drop1 (s : St) : St := { s with rest := s.rest.tail }
def fail (e : Int) (t : Tok) (s : St) : St := if s.err = 0 then { s with err := e, line := t.line, col := t.col } else s
def on (w : ByteArray) (s : St) : Bool := ((peek s).kind == 2 || (peek s).kind == 5) && (peek s).text == w
section
variable (dp : ByteArray → Day) (np : ByteArray → Int → Int → Int × Int)
/-! the program's -/
namespace P
def next (s : St) : St := if (peek s).kind = 0 then s else drop1 s
def eat (w : ByteArray) (s : St) : Bool × St := if s.err = 0 ∧ on w s = true then (true, next s) else (false, s)
def must : List ByteArray → St → St
  | [], s => s
  | w :: ws, s => if (eat w s).1 = true then must ws (eat w s).2 else fail 4 (peek s) (eat w s).2
def kind (k : Int) (s : St) : ByteArray × St := if (peek s).kind = k then ((peek s).text, next s) else (⟨#[]⟩, fail 4 (peek s) s)
def number (places most : Int) (s : St) : Int × St :=
  let r := kind 3 s
  if r.2.err = 0 then
    let n := np r.1 places most
    (n.1, if n.2 = 1 then fail 4 (peek s) r.2 else if n.2 = 2 then fail 6 (peek s) r.2 else r.2)
  else (0, r.2)
def day (s : St) : Day × St := let r := kind 4 s; (dp r.1, r.2)
end P
/-! the reference's -/
namespace R
def wrong (e : Int) (s : St) : St := fail e (peek s) s
def take (w : ByteArray) (s : St) : Bool × St := if s.err = 0 ∧ on w s = true then (true, drop1 s) else (false, s)
def want (w : ByteArray) (s : St) : St := if (take w s).1 = true then (take w s).2 else wrong 4 (take w s).2
def token (k : Int) (s : St) : ByteArray × St := if s.err ≠ 0 ∨ (peek s).kind ≠ k then (⟨#[]⟩, wrong 4 s) else ((peek s).text, drop1 s)
def number (places most : Int) (s : St) : Int × St :=
  if s.err ≠ 0 ∨ (peek s).kind ≠ 3 then (0, wrong 4 s)
  else
    let n := np (peek s).text places most
    (n.1, drop1 (if n.2 = 1 then wrong 4 s else if n.2 = 2 then wrong 6 s else s))
def day (s : St) : Day × St := let r := token 4 s; (dp r.1, r.2)
end R
/-! both at once -/
structure Rel (s r : St) : Prop where
  err : s.err = r.err
  line : s.line = r.line
  col : s.col = r.col
  rest : s.err = 0 → s.rest = r.rest
theorem Rel.peek {s r : St} (h : Rel s r) (h0 : s.err = 0) : peek s = peek r := by unfold Par.peek; rw [h.rest h0]
theorem Rel.on {s r : St} (h : Rel s r) (h0 : s.err = 0) (w : ByteArray) : on w s = on w r := by unfold Par.on; rw [h.peek h0]
theorem fail_err (e : Int) (t : Tok) (s : St) (he : e ≠ 0) : (fail e t s).err ≠ 0 := by
  unfold fail; split
  · exact he
  · assumption
theorem fail_keep {e : Int} {t : Tok} {s : St} (h : s.err ≠ 0) : fail e t s = s := by unfold fail; rw [if_neg h]
theorem Rel.fail {s r : St} (h : Rel s r) (e : Int) (he : e ≠ 0) (t u : Tok) (ht : s.err = 0 → t = u) : Rel (fail e t s) (fail e u r) := by
  by_cases h0 : s.err = 0
  · have h1 : r.err = 0 := h.err ▸ h0
    obtain rfl := ht h0
    unfold Par.fail
    rw [if_pos h0, if_pos h1]
    exact ⟨rfl, rfl, rfl, fun h => absurd h he⟩
  · have h1 : r.err ≠ 0 := h.err ▸ h0
    rw [fail_keep h0, fail_keep h1]
    exact h
theorem Rel.drop {s r : St} (h : Rel s r) : Rel (drop1 s) (drop1 r) := ⟨h.err, h.line, h.col, fun h0 => by show s.rest.tail = r.rest.tail; rw [h.rest h0]⟩
theorem on_kind {w : ByteArray} {s : St} (h : on w s = true) : (Par.peek s).kind ≠ 0 := by
  unfold on at h
  rw [Bool.and_eq_true, Bool.or_eq_true] at h
  rcases h.1 with h | h
  · rw [beq_iff_eq.1 h]; decide
  · rw [beq_iff_eq.1 h]; decide
theorem next_drop {s : St} (h : (Par.peek s).kind ≠ 0) : P.next s = drop1 s := by unfold P.next; rw [if_neg h]
theorem next_err (s : St) : (P.next s).err = s.err ∧ (P.next s).line = s.line ∧ (P.next s).col = s.col := by unfold P.next; split <;> exact ⟨rfl, rfl, rfl⟩
theorem Rel.eat {s r : St} (h : Rel s r) (w : ByteArray) : (P.eat w s).1 = (R.take w r).1 ∧ Rel (P.eat w s).2 (R.take w r).2 := by
  unfold P.eat R.take
  by_cases h0 : s.err = 0
  · have h1 : r.err = 0 := h.err ▸ h0
    rw [← h.on h0 w]
    by_cases ho : Par.on w s = true
    · rw [if_pos ⟨h0, ho⟩, if_pos ⟨h1, ho⟩]
      exact ⟨rfl, by rw [next_drop (on_kind ho)]; exact h.drop⟩
    · rw [if_neg (fun e => ho e.2), if_neg (fun e => ho e.2)]
      exact ⟨rfl, h⟩
  · have h1 : r.err ≠ 0 := h.err ▸ h0
    rw [if_neg (fun e => h0 e.1), if_neg (fun e => h1 e.1)]
    exact ⟨rfl, h⟩
/-- where there is a fault nothing is eaten -/
theorem eat_bad {w : ByteArray} {s : St} (h : s.err ≠ 0) : P.eat w s = (false, s) := by unfold P.eat; rw [if_neg (fun e => h e.1)]
theorem eat_no {w : ByteArray} {s : St} (h : (P.eat w s).1 = false) : (P.eat w s).2 = s := by
  unfold P.eat at h ⊢
  split
  · rename_i hc; rw [if_pos hc] at h; cases h
  · rfl
theorem take_no {w : ByteArray} {s : St} (h : (R.take w s).1 = false) : (R.take w s).2 = s := by
  unfold R.take at h ⊢
  split
  · rename_i hc; rw [if_pos hc] at h; cases h
  · rfl
def wants : List ByteArray → St → St
  | [], s => s
  | w :: ws, s => wants ws (R.want w s)
theorem take_bad {w : ByteArray} {s : St} (h : s.err ≠ 0) : R.take w s = (false, s) := by unfold R.take; rw [if_neg (fun e => h e.1)]
theorem want_bad {w : ByteArray} {s : St} (h : s.err ≠ 0) : R.want w s = s := by
  unfold R.want
  rw [take_bad h]
  exact fail_keep h
theorem wants_bad : ∀ (l : List ByteArray) {s : St}, s.err ≠ 0 → wants l s = s
  | [], s, _ => rfl
  | w :: ws, s, h => by rw [wants, want_bad h]; exact wants_bad ws h
theorem Rel.must : ∀ (l : List ByteArray) {s r : St}, Rel s r → Rel (P.must l s) (wants l r)
  | [], s, r, h => h
  | w :: ws, s, r, h => by
    obtain ⟨e1, e2⟩ := h.eat w
    rw [P.must, wants, R.want, ← e1]
    by_cases hc : (P.eat w s).1 = true
    · rw [if_pos hc, if_pos hc]
      exact Rel.must ws e2
    · rw [if_neg hc, if_neg hc]
      have hf : (P.eat w s).1 = false := by simpa using hc
      have hf' : (R.take w r).1 = false := e1 ▸ hf
      rw [eat_no hf, take_no hf']
      have hw : wants ws (R.wrong 4 r) = R.wrong 4 r := wants_bad ws (fail_err 4 _ _ (by decide))
      rw [hw]
      exact h.fail 4 (by decide) _ _ (fun h0 => h.peek h0)
theorem Rel.kind {s r : St} (h : Rel s r) (k : Int) (hk : k ≠ 0) : Rel (P.kind k s).2 (R.token k r).2 ∧ ((P.kind k s).2.err = 0 → (P.kind k s).1 = (R.token k r).1) := by
  by_cases h0 : s.err = 0
  · have h1 : r.err = 0 := h.err ▸ h0
    unfold P.kind R.token
    rw [← h.peek h0]
    by_cases hc : (Par.peek s).kind = k
    · rw [if_pos hc, if_neg (by rintro (e | e); exact e h1; exact e hc)]
      exact ⟨by show Rel (P.next s) (drop1 r); rw [next_drop (by rw [hc]; exact hk)]; exact h.drop, fun _ => rfl⟩
    · rw [if_neg hc, if_pos (Or.inr hc)]
      exact ⟨h.fail 4 (by decide) _ _ (fun h0 => h.peek h0), fun _ => rfl⟩
  · have h1 : r.err ≠ 0 := h.err ▸ h0
    have ht : R.token k r = (⟨#[]⟩, r) := by
      unfold R.token
      rw [if_pos (Or.inl h1)]
      exact congrArg (Prod.mk _) (fail_keep h1)
    rw [ht]
    unfold P.kind
    split
    · obtain ⟨e1, e2, e3⟩ := next_err s
      exact ⟨⟨e1.trans h.err, e2.trans h.line, e3.trans h.col, fun h => absurd (e1 ▸ h) h0⟩, fun h => absurd (e1 ▸ h) h0⟩
    · rw [fail_keep h0]
      exact ⟨h, fun h => absurd h h0⟩
theorem Rel.day {s r : St} (h : Rel s r) : Rel (P.day dp s).2 (R.day dp r).2 ∧ ((P.day dp s).2.err = 0 → (P.day dp s).1 = (R.day dp r).1) := by
  obtain ⟨h1, h2⟩ := h.kind 4 (by decide)
  exact ⟨h1, fun h0 => congrArg dp (h2 h0)⟩
end
end Go.Proofs.YtcgkfgklggjmaaaDoor.Par
end
section
namespace Go.Proofs.YtcgkfgklggjmaaaDoor.Par
set_option linter.unusedVariables false
set_option linter.unusedSimpArgs false
section
variable (dp : ByteArray → Day) (np : ByteArray → Int → Int → Int × Int)
def str (l : List UInt8) : ByteArray := ⟨l.toArray⟩
def wFrom := str [102, 114, 111, 109]
def wTo := str [116, 111]
def wFloor := str [102, 108, 111, 111, 114]
def wCeil := str [99, 101, 105, 108]
def wHalfup := str [104, 97, 108, 102, 117, 112]
def wHalfeven := str [104, 97, 108, 102, 101, 118, 101, 110]
def wUpto := str [117, 112, 116, 111]
def wRate := str [114, 97, 116, 101]
def wRest := str [114, 101, 115, 116]
def wOpen := str [123]
def wClose := str [125]
def wSemi := str [59]
def wPercent := str [112, 101, 114, 99, 101, 110, 116]
def wCap := str [99, 97, 112]
def wMinimum := str [109, 105, 110, 105, 109, 117, 109]
def wAdd := str [97, 100, 100]
def wAllowance := str [97, 108, 108, 111, 119, 97, 110, 99, 101]
def wBlock := str [98, 108, 111, 99, 107]
def wVolume := str [118, 111, 108, 117, 109, 101]
def wGraduated := str [103, 114, 97, 100, 117, 97, 116, 101, 100]
def wRound := str [114, 111, 117, 110, 100]
def wMeter := str [109, 101, 116, 101, 114]
def wFee := str [102, 101, 101]
def wCharge := str [99, 104, 97, 114, 103, 101]
def wUnit := str [117, 110, 105, 116]
def wMax := str [109, 97, 120]
def wPlan := str [112, 108, 97, 110]
def wCurrency := str [99, 117, 114, 114, 101, 110, 99, 121]
def wHorizon := str [104, 111, 114, 105, 122, 111, 110]
theorem Rel.number {s r : St} (h : Rel s r) (places most : Int) : Rel (P.number np places most s).2 (R.number np places most r).2 ∧ ((P.number np places most s).2.err = 0 → (P.number np places most s).1 = (R.number np places most r).1) := by
  by_cases h0 : s.err = 0
  · have h1 : r.err = 0 := h.err ▸ h0
    by_cases hc : (Par.peek s).kind = 3
    · have hc' : (Par.peek r).kind = 3 := h.peek h0 ▸ hc
      have hk : P.kind 3 s = ((Par.peek s).text, drop1 s) := by
        unfold P.kind; rw [if_pos hc, next_drop (by rw [hc]; decide)]
      have hd : (drop1 s).err = 0 := h0
      have hP : P.number np places most s = ((np (Par.peek s).text places most).1, if (np (Par.peek s).text places most).2 = 1 then Par.fail 4 (Par.peek s) (drop1 s) else if (np (Par.peek s).text places most).2 = 2 then Par.fail 6 (Par.peek s) (drop1 s) else drop1 s) := by
        unfold P.number; rw [hk]; simp only [if_pos hd]
      have hR : R.number np places most r = ((np (Par.peek r).text places most).1, drop1 (if (np (Par.peek r).text places most).2 = 1 then R.wrong 4 r else if (np (Par.peek r).text places most).2 = 2 then R.wrong 6 r else r)) := by
        unfold R.number; rw [if_neg (fun e => e.elim (fun e => e h1) (fun e => e hc'))]
      rw [hP, hR, h.peek h0]
      generalize np (Par.peek r).text places most = n
      refine ⟨?_, fun _ => rfl⟩
      have hset : ∀ e : Int, e ≠ 0 → Rel (Par.fail e (Par.peek r) (drop1 s)) (drop1 (R.wrong e r)) := fun e he => by
        have hr : R.wrong e r = { r with err := e, line := (Par.peek r).line, col := (Par.peek r).col } := by unfold R.wrong Par.fail; rw [if_pos h1]
        have hs : Par.fail e (Par.peek r) (drop1 s) = { drop1 s with err := e, line := (Par.peek r).line, col := (Par.peek r).col } := by unfold Par.fail; rw [if_pos hd]
        rw [hr, hs]
        exact ⟨rfl, rfl, rfl, fun h => absurd h he⟩
      split
      · exact hset 4 (by decide)
      · split
        · exact hset 6 (by decide)
        · exact h.drop
    · have hc' : (Par.peek r).kind ≠ 3 := h.peek h0 ▸ hc
      have hk : P.kind 3 s = (⟨#[]⟩, Par.fail 4 (Par.peek s) s) := by unfold P.kind; rw [if_neg hc]
      have hf : (Par.fail 4 (Par.peek s) s).err ≠ 0 := fail_err 4 _ _ (by decide)
      unfold P.number R.number
      rw [hk]
      simp only [if_neg hf]
      rw [if_pos (Or.inr hc')]
      exact ⟨h.fail 4 (by decide) _ _ (fun h0 => h.peek h0), fun _ => rfl⟩
  · have h1 : r.err ≠ 0 := h.err ▸ h0
    obtain ⟨hr, _⟩ := h.kind 3 (by decide)
    have ht : R.token 3 r = (⟨#[]⟩, r) := by
      unfold R.token
      rw [if_pos (Or.inl h1)]
      exact congrArg (Prod.mk _) (fail_keep h1)
    rw [ht] at hr
    have he : (P.kind 3 s).2.err ≠ 0 := by rw [hr.err]; exact h1
    unfold P.number R.number
    simp only [if_neg he]
    rw [if_pos (Or.inl h1)]
    have hw : R.wrong 4 r = r := fail_keep h1
    rw [hw]
    exact ⟨hr, fun _ => rfl⟩
namespace P
def window (s : St) : Win × St :=
  let a := eat wFrom s
  if a.1 = true then
    let f := day dp a.2
    let t := day dp (must [wTo] f.2)
    (⟨true, f.1, t.1⟩, t.2)
  else (noWin, a.2)
def one : List ByteArray → Int → St → Int × St
  | [], _, s => (-1, s)
  | w :: ws, i, s => if (eat w s).1 = true then (i, (eat w s).2) else one ws (i + 1) (eat w s).2
def mode (s : St) : Int × St :=
  let o := one [wFloor, wCeil, wHalfup, wHalfeven] 0 s
  if o.1 < 0 then (0, fail 4 (peek o.2) o.2) else o
def tierLoop : Nat → List Tier → St → List Tier × St
  | 0, acc, s => (acc, s)
  | f + 1, acc, s =>
    if (eat wUpto s).1 = true then
      let u := number np 0 1000000 (eat wUpto s).2
      let r := number np 6 1000000000000 (must [wRate] u.2)
      tierLoop f (acc ++ [⟨u.1, r.1⟩]) (must [wSemi] r.2)
    else (acc, (eat wUpto s).2)
def tiers (s : St) : List Tier × St :=
  let m := must [wOpen] s
  let l := tierLoop np m.rest.length [] m
  let r := number np 6 1000000000000 (must [wRest, wRate] l.2)
  (l.1 ++ [⟨0, r.1⟩], must [wSemi, wClose] r.2)
end P
namespace R
def window (s : St) : Win × St :=
  let a := take wFrom s
  if a.1 = true then
    let f := day dp a.2
    let t := day dp (want wTo f.2)
    (⟨true, f.1, t.1⟩, t.2)
  else (noWin, a.2)
def one : List ByteArray → Int → St → Int × St
  | [], _, s => (-1, s)
  | w :: ws, i, s => if (take w s).1 = true then (i, (take w s).2) else one ws (i + 1) (take w s).2
def mode (s : St) : Int × St :=
  let o := one [wFloor, wCeil, wHalfup, wHalfeven] 0 s
  (max o.1 0, if o.1 < 0 then wrong 4 o.2 else o.2)
def tierLoop : Nat → List Tier → St → List Tier × St
  | 0, acc, s => (acc, s)
  | f + 1, acc, s =>
    if (take wUpto s).1 = true then
      let u := number np 0 1000000 (take wUpto s).2
      let r := number np 6 1000000000000 (want wRate u.2)
      tierLoop f (acc ++ [⟨u.1, r.1⟩]) (want wSemi r.2)
    else (acc, (take wUpto s).2)
def tiers (s : St) : List Tier × St :=
  let m := want wOpen s
  let l := tierLoop np m.rest.length [] m
  let r := number np 6 1000000000000 (want wRate (want wRest l.2))
  (l.1 ++ [⟨0, r.1⟩], want wClose (want wSemi r.2))
end R
/-- what was wrong stays wrong -/
theorem eat_err (w : ByteArray) (s : St) : (P.eat w s).2.err = s.err := by
  unfold P.eat; split
  · exact (next_err s).1
  · rfl
theorem fail_mono (e : Int) (t : Tok) (s : St) (h : s.err ≠ 0) : (fail e t s).err ≠ 0 := by rw [fail_keep h]; exact h
theorem must_mono : ∀ (l : List ByteArray) (s : St), s.err ≠ 0 → (P.must l s).err ≠ 0
  | [], s, h => h
  | w :: ws, s, h => by
    rw [P.must, eat_bad h]
    simp only [Bool.false_eq_true, if_false]
    exact fail_mono _ _ _ h
theorem kind_mono (k : Int) (s : St) (h : s.err ≠ 0) : (P.kind k s).2.err ≠ 0 := by
  unfold P.kind; split
  · show (P.next s).err ≠ 0; rw [(next_err s).1]; exact h
  · exact fail_mono _ _ _ h
theorem number_mono (places most : Int) (s : St) (h : s.err ≠ 0) : (P.number np places most s).2.err ≠ 0 := by
  unfold P.number
  simp only [if_neg (kind_mono 3 s h)]
  exact kind_mono 3 s h
theorem day_mono (s : St) (h : s.err ≠ 0) : (P.day dp s).2.err ≠ 0 := kind_mono 4 s h
/-- so what is sound at the end was sound before -/
theorem must_back {l : List ByteArray} {s : St} (h : (P.must l s).err = 0) : s.err = 0 := Classical.byContradiction fun c => must_mono l s c h
theorem number_back {places most : Int} {s : St} (h : (P.number np places most s).2.err = 0) : s.err = 0 := Classical.byContradiction fun c => number_mono np places most s c h
theorem day_back {s : St} (h : (P.day dp s).2.err = 0) : s.err = 0 := Classical.byContradiction fun c => day_mono dp s c h
theorem kind_back {k : Int} {s : St} (h : (P.kind k s).2.err = 0) : s.err = 0 := Classical.byContradiction fun c => kind_mono k s c h
theorem Rel.window {s r : St} (h : Rel s r) : Rel (P.window dp s).2 (R.window dp r).2 ∧ ((P.window dp s).2.err = 0 → (P.window dp s).1 = (R.window dp r).1) := by
  obtain ⟨e1, e2⟩ := h.eat wFrom
  unfold P.window R.window
  simp only [← e1]
  by_cases hc : (P.eat wFrom s).1 = true
  · rw [if_pos hc, if_pos hc]
    obtain ⟨f1, f2⟩ := e2.day dp
    have m := f1.must [wTo]
    obtain ⟨t1, t2⟩ := m.day dp
    refine ⟨t1, fun h0 => ?_⟩
    have h1 := day_back dp h0
    have h2 := must_back h1
    have v1 := f2 h2
    have v2 := t2 h0
    show Win.mk true (P.day dp (P.eat wFrom s).2).1 (P.day dp (P.must [wTo] (P.day dp (P.eat wFrom s).2).2)).1 = Win.mk true (R.day dp (R.take wFrom r).2).1 (R.day dp (R.want wTo (R.day dp (R.take wFrom r).2).2)).1
    rw [v1, v2]
    rfl
  · rw [if_neg hc, if_neg hc]
    exact ⟨e2, fun _ => rfl⟩
theorem Rel.one : ∀ (l : List ByteArray) (i : Int) {s r : St}, Rel s r → (P.one l i s).1 = (R.one l i r).1 ∧ Rel (P.one l i s).2 (R.one l i r).2
  | [], i, s, r, h => ⟨rfl, h⟩
  | w :: ws, i, s, r, h => by
    obtain ⟨e1, e2⟩ := h.eat w
    rw [P.one, R.one, ← e1]
    by_cases hc : (P.eat w s).1 = true
    · rw [if_pos hc, if_pos hc]; exact ⟨rfl, e2⟩
    · rw [if_neg hc, if_neg hc]; exact Rel.one ws (i + 1) e2
theorem Rel.mode {s r : St} (h : Rel s r) : Rel (P.mode s).2 (R.mode r).2 ∧ ((P.mode s).2.err = 0 → (P.mode s).1 = (R.mode r).1) := by
  obtain ⟨e1, e2⟩ := Rel.one [wFloor, wCeil, wHalfup, wHalfeven] 0 h
  unfold P.mode R.mode
  simp only [← e1]
  by_cases hc : (P.one [wFloor, wCeil, wHalfup, wHalfeven] 0 s).1 < 0
  · rw [if_pos hc, if_pos hc]
    exact ⟨e2.fail 4 (by decide) _ _ (fun h0 => e2.peek h0), fun h0 => absurd h0 (fail_err 4 _ _ (by decide))⟩
  · rw [if_neg hc, if_neg hc]
    exact ⟨e2, fun _ => by rw [Int.max_eq_left (by omega)]⟩
theorem P.tierLoop_bad : ∀ (f : Nat) (acc : List Tier) {s : St}, s.err ≠ 0 → P.tierLoop np f acc s = (acc, s)
  | 0, _, _, _ => rfl
  | f + 1, acc, s, h => by rw [P.tierLoop, eat_bad h]; rfl
theorem R.tierLoop_bad : ∀ (f : Nat) (acc : List Tier) {s : St}, s.err ≠ 0 → R.tierLoop np f acc s = (acc, s)
  | 0, _, _, _ => rfl
  | f + 1, acc, s, h => by rw [R.tierLoop, take_bad h]; rfl
theorem Rel.tierLoop : ∀ (f : Nat) (a b : List Tier) {s r : St}, Rel s r → (s.err = 0 → a = b) → Rel (P.tierLoop np f a s).2 (R.tierLoop np f b r).2 ∧ ((P.tierLoop np f a s).2.err = 0 → (P.tierLoop np f a s).1 = (R.tierLoop np f b r).1)
  | 0, a, b, s, r, h, hab => ⟨h, hab⟩
  | f + 1, a, b, s, r, h, hab => by
    obtain ⟨e1, e2⟩ := h.eat wUpto
    rw [P.tierLoop, R.tierLoop, ← e1]
    by_cases hc : (P.eat wUpto s).1 = true
    · rw [if_pos hc, if_pos hc]
      obtain ⟨u1, u2⟩ := e2.number np 0 1000000
      have m1 := u1.must [wRate]
      obtain ⟨r1, r2⟩ := m1.number np 6 1000000000000
      have m2 := r1.must [wSemi]
      refine Rel.tierLoop f _ _ m2 (fun h0 => ?_)
      have h1 := must_back h0
      have h2 := number_back np h1
      have h3 := must_back h2
      have h4 := number_back np h3
      rw [eat_err] at h4
      have v1 := u2 h3
      have v2 := r2 h1
      rw [hab h4, v1, v2]
      rfl
    · rw [if_neg hc, if_neg hc]
      exact ⟨e2, fun h0 => hab (by rw [eat_err] at h0; exact h0)⟩
theorem P.tierLoop_mono (f : Nat) (acc : List Tier) (s : St) (h : s.err ≠ 0) : (P.tierLoop np f acc s).2.err ≠ 0 := by rw [P.tierLoop_bad np f acc h]; exact h
theorem tierLoop_back {f : Nat} {acc : List Tier} {s : St} (h : (P.tierLoop np f acc s).2.err = 0) : s.err = 0 := Classical.byContradiction fun c => P.tierLoop_mono np f acc s c h
theorem Rel.tiers {s r : St} (h : Rel s r) : Rel (P.tiers np s).2 (R.tiers np r).2 ∧ ((P.tiers np s).2.err = 0 → (P.tiers np s).1 = (R.tiers np r).1) := by
  have m := h.must [wOpen]
  have hl : Rel (P.tierLoop np (P.must [wOpen] s).rest.length [] (P.must [wOpen] s)).2 (R.tierLoop np (R.want wOpen r).rest.length [] (R.want wOpen r)).2 ∧ ((P.tierLoop np (P.must [wOpen] s).rest.length [] (P.must [wOpen] s)).2.err = 0 → (P.tierLoop np (P.must [wOpen] s).rest.length [] (P.must [wOpen] s)).1 = (R.tierLoop np (R.want wOpen r).rest.length [] (R.want wOpen r)).1) := by
    by_cases h0 : (P.must [wOpen] s).err = 0
    · have hr : (P.must [wOpen] s).rest = (R.want wOpen r).rest := m.rest h0
      rw [← hr]
      exact Rel.tierLoop np _ [] [] m (fun _ => rfl)
    · have h1 : (R.want wOpen r).err ≠ 0 := by
        have := m.err
        exact fun e => h0 (this.trans e)
      rw [P.tierLoop_bad np _ _ h0, R.tierLoop_bad np _ _ h1]
      exact ⟨m, fun _ => rfl⟩
  obtain ⟨l1, l2⟩ := hl
  have m2 := l1.must [wRest, wRate]
  obtain ⟨n1, n2⟩ := m2.number np 6 1000000000000
  have m3 := n1.must [wSemi, wClose]
  refine ⟨m3, fun h0 => ?_⟩
  have h1 := must_back h0
  have h2 := number_back np h1
  have h3 := must_back h2
  have v1 := l2 h3
  have v2 := n2 h1
  unfold P.tiers R.tiers
  simp only
  rw [v1, v2]
  rfl
end
end Go.Proofs.YtcgkfgklggjmaaaDoor.Par
end
section
namespace Go.Proofs.YtcgkfgklggjmaaaDoor.Par
set_option linter.unusedVariables false
set_option linter.unusedSimpArgs false
section
variable (dp : ByteArray → Day) (np : ByteArray → Int → Int → Int × Int)
/-! adjustments -/
namespace P
/-- behind an adjustment's word -/
def adjBody (k : Int) (s : St) : Adj × St :=
  if k = 1 then
    let n := number np 3 100000000 s
    let m := mode n.2
    (⟨1, n.1, m.1⟩, must [wSemi] m.2)
  else
    let n := number np 0 1000000000000 s
    (⟨k, n.1, 0⟩, must [wSemi] n.2)
def adjust (s : St) : (Adj × Bool) × St :=
  let o := one [wPercent, wCap, wMinimum, wAdd] 1 s
  if o.1 < 0 then ((⟨0, 0, 0⟩, false), o.2)
  else
    let b := adjBody np o.1 o.2
    ((b.1, true), b.2)
def adjLoop : Nat → List Adj → St → List Adj × St
  | 0, acc, s => (acc, s)
  | f + 1, acc, s =>
    let a := adjust np s
    if a.1.2 = false ∨ a.2.err ≠ 0 then (acc, a.2) else adjLoop f (acc ++ [a.1.1]) a.2
end P
namespace R
def adjBody (k : Int) (s : St) : Adj × St :=
  if k = 1 then
    let n := number np 3 100000000 s
    let m := mode n.2
    (⟨1, n.1, m.1⟩, want wSemi m.2)
  else
    let n := number np 0 1000000000000 s
    (⟨k, n.1, 0⟩, want wSemi n.2)
def adjLoop : Nat → List Adj → St → List Adj × St
  | 0, acc, s => (acc, s)
  | f + 1, acc, s =>
    let o := one [wPercent, wCap, wMinimum, wAdd] 1 s
    if o.1 < 0 then (acc, o.2)
    else
      let b := adjBody np o.1 o.2
      adjLoop f (acc ++ [b.1]) b.2
end R
theorem one_bad : ∀ (l : List ByteArray) (i : Int) {s : St}, s.err ≠ 0 → P.one l i s = (-1, s)
  | [], _, _, _ => rfl
  | w :: ws, i, s, h => by
    rw [P.one, eat_bad h]
    exact one_bad ws (i + 1) h
theorem rone_bad : ∀ (l : List ByteArray) (i : Int) {s : St}, s.err ≠ 0 → R.one l i s = (-1, s)
  | [], _, _, _ => rfl
  | w :: ws, i, s, h => by
    rw [R.one, take_bad h]
    exact rone_bad ws (i + 1) h
theorem one_err : ∀ (l : List ByteArray) (i : Int) (s : St), (P.one l i s).2.err = s.err
  | [], _, _ => rfl
  | w :: ws, i, s => by
    rw [P.one]
    split
    · exact eat_err w s
    · rw [one_err ws (i + 1), eat_err]
theorem mode_mono (s : St) (h : s.err ≠ 0) : (P.mode s).2.err ≠ 0 := by
  unfold P.mode
  rw [one_bad _ _ h]
  exact fail_mono _ _ _ h
theorem mode_back {s : St} (h : (P.mode s).2.err = 0) : s.err = 0 := Classical.byContradiction fun c => mode_mono s c h
theorem Rel.adjBody {s r : St} (h : Rel s r) (k : Int) : Rel (P.adjBody np k s).2 (R.adjBody np k r).2 ∧ ((P.adjBody np k s).2.err = 0 → (P.adjBody np k s).1 = (R.adjBody np k r).1) := by
  unfold P.adjBody R.adjBody
  by_cases hk : k = 1
  · rw [if_pos hk, if_pos hk]
    obtain ⟨n1, n2⟩ := h.number np 3 100000000
    obtain ⟨m1, m2⟩ := n1.mode
    have z := m1.must [wSemi]
    refine ⟨z, fun h0 => ?_⟩
    have h1 := must_back h0
    have h2 := mode_back h1
    show Adj.mk 1 _ _ = Adj.mk 1 _ _
    rw [n2 h2, m2 h1]
  · rw [if_neg hk, if_neg hk]
    obtain ⟨n1, n2⟩ := h.number np 0 1000000000000
    have z := n1.must [wSemi]
    refine ⟨z, fun h0 => ?_⟩
    have h1 := must_back h0
    show Adj.mk k _ 0 = Adj.mk k _ 0
    rw [n2 h1]
theorem adjBody_back {k : Int} {s : St} (h : (P.adjBody np k s).2.err = 0) : s.err = 0 := by
  unfold P.adjBody at h
  split at h
  · exact number_back np (mode_back (must_back h))
  · exact number_back np (must_back h)
theorem P.adjust_bad {s : St} (h : s.err ≠ 0) : P.adjust np s = ((⟨0, 0, 0⟩, false), s) := by
  unfold P.adjust; rw [one_bad _ _ h]; rfl
theorem P.adjLoop_bad : ∀ (f : Nat) (acc : List Adj) {s : St}, s.err ≠ 0 → P.adjLoop np f acc s = (acc, s)
  | 0, _, _, _ => rfl
  | f + 1, acc, s, h => by rw [P.adjLoop, P.adjust_bad np h]; rfl
theorem R.adjLoop_bad : ∀ (f : Nat) (acc : List Adj) {s : St}, s.err ≠ 0 → R.adjLoop np f acc s = (acc, s)
  | 0, _, _, _ => rfl
  | f + 1, acc, s, h => by rw [R.adjLoop, rone_bad _ _ h]; rfl
theorem Rel.adjLoop : ∀ (f : Nat) (a b : List Adj) {s r : St}, Rel s r → (s.err = 0 → a = b) → Rel (P.adjLoop np f a s).2 (R.adjLoop np f b r).2 ∧ ((P.adjLoop np f a s).2.err = 0 → (P.adjLoop np f a s).1 = (R.adjLoop np f b r).1)
  | 0, a, b, s, r, h, hab => ⟨h, hab⟩
  | f + 1, a, b, s, r, h, hab => by
    obtain ⟨e1, e2⟩ := Rel.one [wPercent, wCap, wMinimum, wAdd] 1 h
    have he := one_err [wPercent, wCap, wMinimum, wAdd] 1 s
    rw [P.adjLoop, R.adjLoop, ← e1]
    unfold P.adjust
    by_cases hc : (P.one [wPercent, wCap, wMinimum, wAdd] 1 s).1 < 0
    · rw [if_pos hc, if_pos hc]
      simp only [true_or, if_true]
      exact ⟨e2, fun h0 => hab (he ▸ h0)⟩
    · rw [if_neg hc, if_neg hc]
      obtain ⟨b1, b2⟩ := e2.adjBody np (P.one [wPercent, wCap, wMinimum, wAdd] 1 s).1
      simp only [Bool.true_eq_false, false_or]
      by_cases hb : (P.adjBody np (P.one [wPercent, wCap, wMinimum, wAdd] 1 s).1 (P.one [wPercent, wCap, wMinimum, wAdd] 1 s).2).2.err = 0
      · rw [if_neg (fun e => e hb)]
        refine Rel.adjLoop f _ _ b1 (fun h0 => ?_)
        have h1 := adjBody_back np h0
        rw [he] at h1
        rw [hab h1, b2 h0]
      · rw [if_pos hb]
        have hr : (R.adjBody np (P.one [wPercent, wCap, wMinimum, wAdd] 1 s).1 (R.one [wPercent, wCap, wMinimum, wAdd] 1 r).2).2.err ≠ 0 := fun e => hb (b1.err.trans e)
        rw [R.adjLoop_bad np f _ hr]
        exact ⟨b1, fun h0 => absurd h0 hb⟩
theorem adjLoop_mono (f : Nat) (acc : List Adj) (s : St) (h : s.err ≠ 0) : (P.adjLoop np f acc s).2.err ≠ 0 := by rw [P.adjLoop_bad np f acc h]; exact h
theorem adjLoop_back {f : Nat} {acc : List Adj} {s : St} (h : (P.adjLoop np f acc s).2.err = 0) : s.err = 0 := Classical.byContradiction fun c => adjLoop_mono np f acc s c h
end
end Go.Proofs.YtcgkfgklggjmaaaDoor.Par
end
section
namespace Go.Proofs.YtcgkfgklggjmaaaDoor.Par
set_option linter.unusedVariables false
set_option linter.unusedSimpArgs false
section
variable (dp : ByteArray → Day) (np : ByteArray → Int → Int → Int × Int)
/-! charges, items, plans -/
namespace P
def opt (w : ByteArray) (dflt : Int) (s : St) : Int × St :=
  if (eat w s).1 = true then
    let x := number np 0 1000000 (eat w s).2
    (x.1, must [wSemi] x.2)
  else (dflt, (eat w s).2)
def ckind (s : St) : Int × St := if (eat wVolume s).1 = true then (2, (eat wVolume s).2) else (1, must [wGraduated] (eat wVolume s).2)
def charge (line col : Int) (s : St) : Chg × St :=
  let n := kind 1 s
  let w := window dp n.2
  let a := opt np wAllowance 0 (must [wOpen] w.2)
  let b := opt np wBlock 1 a.2
  let k := ckind b.2
  let t := tiers np k.2
  let m := mode (must [wRound] t.2)
  let z := must [wSemi] m.2
  let d := adjLoop np z.rest.length [] z
  (⟨n.1, w.1, a.1, b.1, k.1, t.1, m.1, d.1, line, col⟩, must [wClose] d.2)
def meter (line col : Int) (s : St) : Met × St :=
  let n := kind 1 s
  let u := kind 1 (must [wUnit] n.2)
  let m := number np 0 2000 (must [wMax] u.2)
  (⟨n.1, u.1, m.1, line, col⟩, must [wSemi] m.2)
def fee (line col : Int) (s : St) : Fee × St :=
  let x := number np 0 1000000000000 s
  let w := window dp x.2
  (⟨x.1, w.1, line, col⟩, must [wSemi] w.2)
def item (p : Plan) (s : St) : Plan × St :=
  let o := one [wMeter, wFee, wCharge] 0 s
  if o.1 = 0 then
    let m := meter np (peek s).line (peek s).col o.2
    ({ p with mets := p.mets ++ [m.1] }, m.2)
  else if o.1 = 1 then
    let f := fee dp np (peek s).line (peek s).col o.2
    ({ p with fees := p.fees ++ [f.1] }, f.2)
  else if o.1 = 2 then
    let c := charge dp np (peek s).line (peek s).col o.2
    ({ p with chgs := p.chgs ++ [c.1] }, c.2)
  else (p, must [wSemi] (fail 4 (peek s) o.2))
def items : Nat → Plan → St → Plan × St
  | 0, p, s => (p, s)
  | f + 1, p, s => if s.err = 0 ∧ (peek s).kind ≠ 0 then items f (item dp np p s).1 (item dp np p s).2 else (p, s)
def head (s : St) : Plan × St :=
  let n := kind 1 (must [wPlan] s)
  let c := kind 1 (must [wCurrency] n.2)
  let f := day dp (must [wSemi, wHorizon] c.2)
  let t := day dp f.2
  (⟨n.1, c.1, f.1, t.1, [], [], [], (peek s).line, (peek s).col⟩, must [wSemi] t.2)
def plan (l : List Tok) : Plan × St :=
  let h := head dp ⟨l, 0, 0, 0⟩
  items dp np h.2.rest.length h.1 h.2
end P
namespace R
def opt (w : ByteArray) (dflt : Int) (s : St) : Int × St :=
  if (take w s).1 = true then
    let x := number np 0 1000000 (take w s).2
    (x.1, want wSemi x.2)
  else (dflt, (take w s).2)
def ckind (s : St) : Int × St :=
  let o := one [wGraduated, wVolume] 1 s
  if o.1 < 0 then (0, wrong 4 o.2) else o
def charge (line col : Int) (s : St) : Chg × St :=
  let n := token 1 s
  let w := window dp n.2
  let a := opt np wAllowance 0 (want wOpen w.2)
  let b := opt np wBlock 1 a.2
  let k := ckind b.2
  let t := tiers np k.2
  let m := mode (want wRound t.2)
  let z := want wSemi m.2
  let d := adjLoop np z.rest.length [] z
  (⟨n.1, w.1, a.1, b.1, k.1, t.1, m.1, d.1, line, col⟩, want wClose d.2)
def meter (line col : Int) (s : St) : Met × St :=
  let n := token 1 s
  let u := token 1 (want wUnit n.2)
  let m := number np 0 2000 (want wMax u.2)
  (⟨n.1, u.1, m.1, line, col⟩, want wSemi m.2)
def fee (line col : Int) (s : St) : Fee × St :=
  let x := number np 0 1000000000000 s
  let w := window dp x.2
  (⟨x.1, w.1, line, col⟩, want wSemi w.2)
def item (p : Plan) (s : St) : Plan × St :=
  let o := one [wMeter, wFee, wCharge] 0 s
  if o.1 = 0 then
    let m := meter np (peek s).line (peek s).col o.2
    ({ p with mets := p.mets ++ [m.1] }, m.2)
  else if o.1 = 1 then
    let f := fee dp np (peek s).line (peek s).col o.2
    ({ p with fees := p.fees ++ [f.1] }, f.2)
  else if o.1 = 2 then
    let c := charge dp np (peek s).line (peek s).col o.2
    ({ p with chgs := p.chgs ++ [c.1] }, c.2)
  else (p, wrong 4 o.2)
def items : Nat → Plan → St → Plan × St
  | 0, p, s => (p, s)
  | f + 1, p, s => if s.err = 0 ∧ (peek s).kind ≠ 0 then items f (item dp np p s).1 (item dp np p s).2 else (p, s)
def head (s : St) : Plan × St :=
  let n := token 1 (want wPlan s)
  let c := token 1 (want wCurrency n.2)
  let f := day dp (want wHorizon (want wSemi c.2))
  let t := day dp f.2
  (⟨n.1, c.1, f.1, t.1, [], [], [], (peek s).line, (peek s).col⟩, want wSemi t.2)
def plan (l : List Tok) : Plan × St :=
  let h := head dp ⟨l, 0, 0, 0⟩
  items dp np h.2.rest.length h.1 h.2
end R
theorem Rel.opt {s r : St} (h : Rel s r) (w : ByteArray) (dflt : Int) : Rel (P.opt np w dflt s).2 (R.opt np w dflt r).2 ∧ ((P.opt np w dflt s).2.err = 0 → (P.opt np w dflt s).1 = (R.opt np w dflt r).1) := by
  obtain ⟨e1, e2⟩ := h.eat w
  unfold P.opt R.opt
  rw [← e1]
  by_cases hc : (P.eat w s).1 = true
  · rw [if_pos hc, if_pos hc]
    obtain ⟨n1, n2⟩ := e2.number np 0 1000000
    exact ⟨n1.must [wSemi], fun h0 => n2 (must_back h0)⟩
  · rw [if_neg hc, if_neg hc]
    exact ⟨e2, fun _ => rfl⟩
theorem opt_back {w : ByteArray} {d : Int} {s : St} (h : (P.opt np w d s).2.err = 0) : s.err = 0 := by
  unfold P.opt at h
  split at h
  · have := number_back np (must_back h); rwa [eat_err] at this
  · rwa [eat_err] at h
theorem text_eq {a b : ByteArray} (h : (a == b) = true) : a = b := by
  cases a; cases b
  exact congrArg _ (beq_iff_eq.1 h)
theorem vol_not : (wVolume == wGraduated) = false := by decide +kernel
theorem Rel.ckind {s r : St} (h : Rel s r) : Rel (P.ckind s).2 (R.ckind r).2 ∧ ((P.ckind s).2.err = 0 → (P.ckind s).1 = (R.ckind r).1) := by
  by_cases h0 : s.err = 0
  · have h1 : r.err = 0 := h.err ▸ h0
    have hov := h.on h0 wVolume
    have hog := h.on h0 wGraduated
    cases hv : Par.on wVolume s with
    | true =>
      have hg : Par.on wGraduated s = false := by
        have ht : (Par.peek s).text = wVolume := by
          unfold Par.on at hv; rw [Bool.and_eq_true] at hv; exact text_eq hv.2
        unfold Par.on
        rw [ht, vol_not, Bool.and_false]
      have e1 : P.eat wVolume s = (true, drop1 s) := by unfold P.eat; rw [if_pos ⟨h0, hv⟩, next_drop (on_kind hv)]
      have t1 : R.take wGraduated r = (false, r) := by unfold R.take; rw [if_neg (by rw [← hog, hg]; exact fun e => Bool.false_ne_true e.2)]
      have t2 : R.take wVolume r = (true, drop1 r) := by unfold R.take; rw [if_pos ⟨h1, by rw [← hov]; exact hv⟩]
      unfold P.ckind R.ckind R.one R.one
      rw [e1, t1]
      simp only [Bool.false_eq_true, if_false, if_true]
      rw [t2]
      exact ⟨h.drop, fun _ => rfl⟩
    | false =>
      have e1 : P.eat wVolume s = (false, s) := by unfold P.eat; rw [if_neg (fun e => by rw [hv] at e; exact Bool.false_ne_true e.2)]
      have t2 : R.take wVolume r = (false, r) := by unfold R.take; rw [if_neg (fun e => by rw [← hov, hv] at e; exact Bool.false_ne_true e.2)]
      cases hg : Par.on wGraduated s with
      | true =>
        have e2 : P.eat wGraduated s = (true, drop1 s) := by unfold P.eat; rw [if_pos ⟨h0, hg⟩, next_drop (on_kind hg)]
        have t1 : R.take wGraduated r = (true, drop1 r) := by unfold R.take; rw [if_pos ⟨h1, by rw [← hog]; exact hg⟩]
        unfold P.ckind R.ckind R.one
        rw [e1, t1]
        simp only [Bool.false_eq_true, if_false, if_true]
        rw [P.must, e2]
        exact ⟨h.drop, fun _ => rfl⟩
      | false =>
        have e2 : P.eat wGraduated s = (false, s) := by unfold P.eat; rw [if_neg (fun e => by rw [hg] at e; exact Bool.false_ne_true e.2)]
        have t1 : R.take wGraduated r = (false, r) := by unfold R.take; rw [if_neg (fun e => by rw [← hog, hg] at e; exact Bool.false_ne_true e.2)]
        unfold P.ckind R.ckind R.one R.one R.one
        rw [e1, t1]
        simp only [Bool.false_eq_true, if_false]
        rw [t2, P.must, e2]
        exact ⟨h.fail 4 (by decide) _ _ (fun h0 => h.peek h0), fun h0 => absurd h0 (fail_err 4 _ _ (by decide))⟩
  · have h1 : r.err ≠ 0 := h.err ▸ h0
    have hp : P.ckind s = (1, s) := by
      unfold P.ckind
      rw [eat_bad h0]
      simp only [Bool.false_eq_true, if_false]
      rw [P.must, eat_bad h0]
      exact congrArg (Prod.mk _) (fail_keep h0)
    have hr : R.ckind r = (0, r) := by
      unfold R.ckind
      rw [rone_bad _ _ h1]
      exact congrArg (Prod.mk _) (fail_keep h1)
    rw [hp, hr]
    exact ⟨h, fun e => absurd e h0⟩
end
end Go.Proofs.YtcgkfgklggjmaaaDoor.Par
end
section
namespace Go.Proofs.YtcgkfgklggjmaaaDoor.Par
set_option linter.unusedVariables false
set_option linter.unusedSimpArgs false
section
variable (dp : ByteArray → Day) (np : ByteArray → Int → Int → Int × Int)
theorem window_mono (s : St) (h : s.err ≠ 0) : (P.window dp s).2.err ≠ 0 := by
  unfold P.window
  rw [eat_bad h]
  exact h
theorem window_back {s : St} (h : (P.window dp s).2.err = 0) : s.err = 0 := Classical.byContradiction fun c => window_mono dp s c h
theorem ckind_back {s : St} (h : (P.ckind s).2.err = 0) : s.err = 0 := by
  unfold P.ckind at h
  split at h
  · rwa [eat_err] at h
  · have := must_back h; rwa [eat_err] at this
theorem tiers_back {s : St} (h : (P.tiers np s).2.err = 0) : s.err = 0 := must_back (tierLoop_back np (must_back (number_back np (must_back h))))
theorem Rel.meter {s r : St} (h : Rel s r) {l l' c c' : Int} (hl : s.err = 0 → l = l') (hc : s.err = 0 → c = c') : Rel (P.meter np l c s).2 (R.meter np l' c' r).2 ∧ ((P.meter np l c s).2.err = 0 → (P.meter np l c s).1 = (R.meter np l' c' r).1) := by
  obtain ⟨n1, n2⟩ := h.kind 1 (by decide)
  obtain ⟨u1, u2⟩ := (n1.must [wUnit]).kind 1 (by decide)
  obtain ⟨m1, m2⟩ := (u1.must [wMax]).number np 0 2000
  refine ⟨m1.must [wSemi], fun h0 => ?_⟩
  have b1 := must_back h0
  have b2 := must_back (number_back np b1)
  have b3 := must_back (kind_back b2)
  have b4 := kind_back b3
  show Met.mk _ _ _ l c = Met.mk _ _ _ l' c'
  rw [n2 b3, u2 b2, m2 b1, hl b4, hc b4]
  rfl
theorem meter_back {l c : Int} {s : St} (h : (P.meter np l c s).2.err = 0) : s.err = 0 := kind_back (must_back (kind_back (must_back (number_back np (must_back h)))))
theorem Rel.fee {s r : St} (h : Rel s r) {l l' c c' : Int} (hl : s.err = 0 → l = l') (hc : s.err = 0 → c = c') : Rel (P.fee dp np l c s).2 (R.fee dp np l' c' r).2 ∧ ((P.fee dp np l c s).2.err = 0 → (P.fee dp np l c s).1 = (R.fee dp np l' c' r).1) := by
  obtain ⟨x1, x2⟩ := h.number np 0 1000000000000
  obtain ⟨w1, w2⟩ := x1.window dp
  refine ⟨w1.must [wSemi], fun h0 => ?_⟩
  have b1 := must_back h0
  have b2 := window_back dp b1
  have b3 := number_back np b2
  show Fee.mk _ _ l c = Fee.mk _ _ l' c'
  rw [x2 b2, w2 b1, hl b3, hc b3]
theorem fee_back {l c : Int} {s : St} (h : (P.fee dp np l c s).2.err = 0) : s.err = 0 := number_back np (window_back dp (must_back h))
theorem Rel.adjs {s r : St} (h : Rel s r) : Rel (P.adjLoop np s.rest.length [] s).2 (R.adjLoop np r.rest.length [] r).2 ∧ ((P.adjLoop np s.rest.length [] s).2.err = 0 → (P.adjLoop np s.rest.length [] s).1 = (R.adjLoop np r.rest.length [] r).1) := by
  by_cases h0 : s.err = 0
  · rw [← h.rest h0]
    exact Rel.adjLoop np _ [] [] h (fun _ => rfl)
  · have h1 : r.err ≠ 0 := h.err ▸ h0
    rw [P.adjLoop_bad np _ _ h0, R.adjLoop_bad np _ _ h1]
    exact ⟨h, fun _ => rfl⟩
theorem Rel.charge {s r : St} (h : Rel s r) {l l' c c' : Int} (hl : s.err = 0 → l = l') (hc : s.err = 0 → c = c') : Rel (P.charge dp np l c s).2 (R.charge dp np l' c' r).2 ∧ ((P.charge dp np l c s).2.err = 0 → (P.charge dp np l c s).1 = (R.charge dp np l' c' r).1) := by
  obtain ⟨n1, n2⟩ := h.kind 1 (by decide)
  obtain ⟨w1, w2⟩ := n1.window dp
  obtain ⟨a1, a2⟩ := (w1.must [wOpen]).opt np wAllowance 0
  obtain ⟨b1, b2⟩ := a1.opt np wBlock 1
  obtain ⟨k1, k2⟩ := b1.ckind
  obtain ⟨t1, t2⟩ := k1.tiers np
  obtain ⟨m1, m2⟩ := (t1.must [wRound]).mode
  obtain ⟨d1, d2⟩ := (m1.must [wSemi]).adjs np
  refine ⟨d1.must [wClose], fun h0 => ?_⟩
  have c1 := must_back h0
  have c2 := must_back (adjLoop_back np c1)
  have c3 := must_back (mode_back c2)
  have c4 := tiers_back np c3
  have c5 := ckind_back c4
  have c6 := opt_back np c5
  have c7 := must_back (opt_back np c6)
  have c8 := window_back dp c7
  have c9 := kind_back c8
  show Chg.mk _ _ _ _ _ _ _ _ l c = Chg.mk _ _ _ _ _ _ _ _ l' c'
  rw [n2 c8, w2 c7, a2 c6, b2 c5, k2 c4, t2 c3, m2 c2, d2 c1, hl c9, hc c9]
  rfl
theorem charge_back {l c : Int} {s : St} (h : (P.charge dp np l c s).2.err = 0) : s.err = 0 :=
  kind_back (window_back dp (must_back (opt_back np (opt_back np (ckind_back (tiers_back np (must_back (mode_back (must_back (adjLoop_back np (must_back h)))))))))))
theorem one_back {l : List ByteArray} {i : Int} {s : St} (h : (P.one l i s).2.err = 0) : s.err = 0 := by rwa [one_err] at h
/-- none of the words: nothing is eaten; else the number is one of theirs -/
theorem one_range : ∀ (l : List ByteArray) (i : Int) (s : St), (P.one l i s).1 = -1 ∨ (i ≤ (P.one l i s).1 ∧ (P.one l i s).1 < i + l.length)
  | [], i, s => .inl rfl
  | w :: ws, i, s => by
    rw [P.one]
    split
    · right; simp only [List.length_cons]; omega
    · rcases one_range ws (i + 1) (P.eat w s).2 with e | ⟨e1, e2⟩
      · exact .inl e
      · right; simp only [List.length_cons]; omega
theorem one_none : ∀ (l : List ByteArray) (i : Int) (s : St), 0 ≤ i → (P.one l i s).1 = -1 → (P.one l i s).2 = s
  | [], i, s, _, _ => rfl
  | w :: ws, i, s, hi, h => by
    rw [P.one] at h ⊢
    by_cases hc : (P.eat w s).1 = true
    · rw [if_pos hc] at h
      simp only at h
      omega
    · rw [if_neg hc] at h ⊢
      have hf : (P.eat w s).1 = false := by simpa using hc
      rw [one_none ws (i + 1) _ (by omega) h, eat_no hf]
theorem items_bad : ∀ (f : Nat) (p : Plan) {s : St}, s.err ≠ 0 → P.items dp np f p s = (p, s)
  | 0, _, _, _ => rfl
  | f + 1, p, s, h => by rw [P.items, if_neg (fun e => h e.1)]
theorem ritems_bad : ∀ (f : Nat) (p : Plan) {s : St}, s.err ≠ 0 → R.items dp np f p s = (p, s)
  | 0, _, _, _ => rfl
  | f + 1, p, s, h => by rw [R.items, if_neg (fun e => h e.1)]
theorem Rel.item {s r : St} (h : Rel s r) {p q : Plan} (hp : s.err = 0 → p = q) : Rel (P.item dp np p s).2 (R.item dp np q r).2 ∧ ((P.item dp np p s).2.err = 0 → (P.item dp np p s).1 = (R.item dp np q r).1) := by
  obtain ⟨o1, o2⟩ := Rel.one [wMeter, wFee, wCharge] 0 h
  have he := one_err [wMeter, wFee, wCharge] 0 s
  have hl : (P.one [wMeter, wFee, wCharge] 0 s).2.err = 0 → (Par.peek s).line = (Par.peek r).line := fun e => by rw [h.peek (he ▸ e)]
  have hc : (P.one [wMeter, wFee, wCharge] 0 s).2.err = 0 → (Par.peek s).col = (Par.peek r).col := fun e => by rw [h.peek (he ▸ e)]
  unfold P.item R.item
  simp only [← o1]
  by_cases c0 : (P.one [wMeter, wFee, wCharge] 0 s).1 = 0
  · rw [if_pos c0, if_pos c0]
    obtain ⟨m1, m2⟩ := o2.meter np hl hc
    refine ⟨m1, fun h0 => ?_⟩
    have hb := meter_back np (l := (Par.peek s).line) (c := (Par.peek s).col) h0
    rw [hp (he ▸ hb)]
    show ({ q with mets := _ } : Plan) = { q with mets := _ }
    rw [m2 h0]
  · rw [if_neg c0, if_neg c0]
    by_cases c1 : (P.one [wMeter, wFee, wCharge] 0 s).1 = 1
    · rw [if_pos c1, if_pos c1]
      obtain ⟨m1, m2⟩ := o2.fee dp np hl hc
      refine ⟨m1, fun h0 => ?_⟩
      have hb := fee_back dp np (l := (Par.peek s).line) (c := (Par.peek s).col) h0
      rw [hp (he ▸ hb)]
      show ({ q with fees := _ } : Plan) = { q with fees := _ }
      rw [m2 h0]
    · rw [if_neg c1, if_neg c1]
      by_cases c2 : (P.one [wMeter, wFee, wCharge] 0 s).1 = 2
      · rw [if_pos c2, if_pos c2]
        obtain ⟨m1, m2⟩ := o2.charge dp np hl hc
        refine ⟨m1, fun h0 => ?_⟩
        have hb := charge_back dp np (l := (Par.peek s).line) (c := (Par.peek s).col) h0
        rw [hp (he ▸ hb)]
        show ({ q with chgs := _ } : Plan) = { q with chgs := _ }
        rw [m2 h0]
      · rw [if_neg c2, if_neg c2]
        have hpk : Par.peek (P.one [wMeter, wFee, wCharge] 0 s).2 = Par.peek s := by rw [one_none _ _ _ (by decide) (by
          rcases one_range [wMeter, wFee, wCharge] 0 s with e | ⟨e1, e2⟩
          · exact e
          · have : (([wMeter, wFee, wCharge] : List ByteArray).length : Int) = 3 := rfl
            omega)]
        have hf : Rel (Par.fail 4 (Par.peek s) (P.one [wMeter, wFee, wCharge] 0 s).2) (R.wrong 4 (R.one [wMeter, wFee, wCharge] 0 r).2) :=
          o2.fail 4 (by decide) _ _ (fun e => by rw [← hpk]; exact o2.peek e)
        have hb : (Par.fail 4 (Par.peek s) (P.one [wMeter, wFee, wCharge] 0 s).2).err ≠ 0 := fail_err 4 _ _ (by decide)
        have hm : P.must [wSemi] (Par.fail 4 (Par.peek s) (P.one [wMeter, wFee, wCharge] 0 s).2) = Par.fail 4 (Par.peek s) (P.one [wMeter, wFee, wCharge] 0 s).2 := by
          rw [P.must, eat_bad hb]
          exact fail_keep hb
        rw [hm]
        exact ⟨hf, fun e => absurd e hb⟩
theorem item_back {p : Plan} {s : St} (h : (P.item dp np p s).2.err = 0) : s.err = 0 := by
  unfold P.item at h
  simp only at h
  split at h
  · exact one_back (meter_back np (l := (peek s).line) (c := (peek s).col) h)
  · split at h
    · exact one_back (fee_back dp np (l := (peek s).line) (c := (peek s).col) h)
    · split at h
      · exact one_back (charge_back dp np (l := (peek s).line) (c := (peek s).col) h)
      · exact absurd (must_back h) (fail_err 4 _ _ (by decide))
theorem Rel.items : ∀ (f : Nat) (p q : Plan) {s r : St}, Rel s r → (s.err = 0 → p = q) → Rel (P.items dp np f p s).2 (R.items dp np f q r).2 ∧ ((P.items dp np f p s).2.err = 0 → (P.items dp np f p s).1 = (R.items dp np f q r).1)
  | 0, p, q, s, r, h, hp => ⟨h, hp⟩
  | f + 1, p, q, s, r, h, hp => by
    rw [P.items, R.items]
    by_cases h0 : s.err = 0
    · have h1 : r.err = 0 := h.err ▸ h0
      rw [← h.peek h0]
      by_cases hk : (Par.peek s).kind ≠ 0
      · rw [if_pos ⟨h0, hk⟩, if_pos ⟨h1, hk⟩]
        obtain ⟨i1, i2⟩ := h.item dp np hp
        exact Rel.items f _ _ i1 i2
      · rw [if_neg (fun e => hk e.2), if_neg (fun e => hk e.2)]
        exact ⟨h, hp⟩
    · have h1 : r.err ≠ 0 := h.err ▸ h0
      rw [if_neg (fun e => h0 e.1), if_neg (fun e => h1 e.1)]
      exact ⟨h, hp⟩
theorem Rel.head {s r : St} (h : Rel s r) (hs : s.err = 0) : Rel (P.head dp s).2 (R.head dp r).2 ∧ ((P.head dp s).2.err = 0 → (P.head dp s).1 = (R.head dp r).1) := by
  obtain ⟨n1, n2⟩ := (h.must [wPlan]).kind 1 (by decide)
  obtain ⟨c1, c2⟩ := (n1.must [wCurrency]).kind 1 (by decide)
  obtain ⟨f1, f2⟩ := (c1.must [wSemi, wHorizon]).day dp
  obtain ⟨t1, t2⟩ := f1.day dp
  refine ⟨t1.must [wSemi], fun h0 => ?_⟩
  have b1 := must_back h0
  have b2 := day_back dp b1
  have b3 := must_back (day_back dp b2)
  have b4 := must_back (kind_back b3)
  show Plan.mk _ _ _ _ [] [] [] _ _ = Plan.mk _ _ _ _ [] [] [] _ _
  rw [n2 b4, c2 b3, f2 b2, t2 b1, h.peek hs]
  rfl
/-- THE LAW: both come to the same plan, or to the same fault at the same place -/
theorem plan_same (l : List Tok) : (P.plan dp np l).2.err = (R.plan dp np l).2.err ∧ (P.plan dp np l).2.line = (R.plan dp np l).2.line ∧ (P.plan dp np l).2.col = (R.plan dp np l).2.col ∧ ((P.plan dp np l).2.err = 0 → (P.plan dp np l).1 = (R.plan dp np l).1) := by
  have h : Rel ⟨l, 0, 0, 0⟩ ⟨l, 0, 0, 0⟩ := ⟨rfl, rfl, rfl, fun _ => rfl⟩
  obtain ⟨h1, h2⟩ := h.head dp rfl
  have hi : Rel (P.plan dp np l).2 (R.plan dp np l).2 ∧ ((P.plan dp np l).2.err = 0 → (P.plan dp np l).1 = (R.plan dp np l).1) := by
    unfold P.plan R.plan
    by_cases h0 : (P.head dp ⟨l, 0, 0, 0⟩).2.err = 0
    · simp only
      rw [← h1.rest h0]
      exact Rel.items dp np _ _ _ h1 h2
    · have hr : (R.head dp ⟨l, 0, 0, 0⟩).2.err ≠ 0 := fun e => h0 (h1.err.trans e)
      simp only
      rw [items_bad dp np _ _ h0, ritems_bad dp np _ _ hr]
      exact ⟨h1, fun e => absurd e h0⟩
  exact ⟨hi.1.err, hi.1.line, hi.1.col, hi.2⟩
end
end Go.Proofs.YtcgkfgklggjmaaaDoor.Par
end
section
namespace Go.Proofs.YtcgkfgklggjmaaaDoor.Par
set_option linter.unusedVariables false
set_option linter.unusedSimpArgs false
section
variable (dp : ByteArray → Day) (np : ByteArray → Int → Int → Int × Int)
/-! how many tokens are left: the loops without their fuel -/
def len (s : St) : Nat := s.rest.length
theorem len_drop (s : St) : len (drop1 s) = len s - 1 := by simp [len, drop1]
theorem len_fail (e : Int) (t : Tok) (s : St) : len (fail e t s) = len s := by unfold fail; split <;> rfl
theorem len_next (s : St) : len (P.next s) ≤ len s := by
  unfold P.next; split
  · exact Nat.le_refl _
  · rw [len_drop]; omega
theorem on_len {w : ByteArray} {s : St} (h : on w s = true) : 0 < len s := by
  have hk := on_kind h
  unfold len
  cases hr : s.rest with
  | nil => unfold peek at hk; rw [hr] at hk; exact absurd rfl hk
  | cons a b => simp
theorem len_eat (w : ByteArray) (s : St) : len (P.eat w s).2 ≤ len s := by
  unfold P.eat; split
  · exact len_next s
  · exact Nat.le_refl _
theorem len_eaten {w : ByteArray} {s : St} (h : (P.eat w s).1 = true) : len (P.eat w s).2 + 1 = len s := by
  unfold P.eat at h ⊢
  split
  · rename_i hc
    have := on_len hc.2
    show len (P.next s) + 1 = len s
    rw [next_drop (on_kind hc.2), len_drop]
    omega
  · rename_i hc; rw [if_neg hc] at h; cases h
theorem len_must : ∀ (l : List ByteArray) (s : St), len (P.must l s) ≤ len s
  | [], s => Nat.le_refl _
  | w :: ws, s => by
    rw [P.must]
    split
    · exact Nat.le_trans (len_must ws _) (len_eat w s)
    · rw [len_fail]; exact len_eat w s
theorem len_kind (k : Int) (s : St) : len (P.kind k s).2 ≤ len s := by
  unfold P.kind; split
  · exact len_next s
  · rw [len_fail]; exact Nat.le_refl _
theorem len_number (places most : Int) (s : St) : len (P.number np places most s).2 ≤ len s := by
  unfold P.number
  simp only
  split
  · simp only
    split
    · rw [len_fail]; exact len_kind 3 s
    · split
      · rw [len_fail]; exact len_kind 3 s
      · exact len_kind 3 s
  · exact len_kind 3 s
theorem len_one : ∀ (l : List ByteArray) (i : Int) (s : St), len (P.one l i s).2 ≤ len s
  | [], i, s => Nat.le_refl _
  | w :: ws, i, s => by
    rw [P.one]
    split
    · exact len_eat w s
    · exact Nat.le_trans (len_one ws _ _) (len_eat w s)
theorem len_oned : ∀ (l : List ByteArray) (i : Int) (s : St), 0 ≤ i → 0 ≤ (P.one l i s).1 → len (P.one l i s).2 + 1 = len s
  | [], i, s, _, h => absurd h (by show ¬ (0 : Int) ≤ -1; decide)
  | w :: ws, i, s, hi, h => by
    rw [P.one] at h ⊢
    by_cases hc : (P.eat w s).1 = true
    · rw [if_pos hc]; exact len_eaten hc
    · rw [if_neg hc] at h ⊢
      have hf : (P.eat w s).1 = false := by simpa using hc
      rw [eat_no hf] at h ⊢
      exact len_oned ws (i + 1) s (by omega) h
theorem len_mode (s : St) : len (P.mode s).2 ≤ len s := by
  unfold P.mode
  simp only
  split
  · rw [len_fail]; exact len_one _ _ s
  · exact len_one _ _ s
/-- a round of the tiers' loop leaves fewer -/
theorem tier_round {s : St} (h : (P.eat wUpto s).1 = true) : len (P.must [wSemi] (P.number np 6 1000000000000 (P.must [wRate] (P.number np 0 1000000 (P.eat wUpto s).2).2)).2) < len s := by
  have h1 := len_eaten h
  have h2 := len_number np 0 1000000 (P.eat wUpto s).2
  have h3 := len_must [wRate] (P.number np 0 1000000 (P.eat wUpto s).2).2
  have h4 := len_number np 6 1000000000000 (P.must [wRate] (P.number np 0 1000000 (P.eat wUpto s).2).2)
  have h5 := len_must [wSemi] (P.number np 6 1000000000000 (P.must [wRate] (P.number np 0 1000000 (P.eat wUpto s).2).2)).2
  omega
theorem tier_fuel : ∀ (f g : Nat) (acc : List Tier) (s : St), len s ≤ f → len s ≤ g → P.tierLoop np f acc s = P.tierLoop np g acc s
  | 0, 0, acc, s, _, _ => rfl
  | 0, g + 1, acc, s, h, _ => by
    have hn : (P.eat wUpto s).1 = false := by
      cases hc : (P.eat wUpto s).1 with
      | false => rfl
      | true => have := len_eaten hc; omega
    rw [P.tierLoop, P.tierLoop, if_neg (by rw [hn]; decide), eat_no hn]
  | f + 1, 0, acc, s, _, h => by
    have hn : (P.eat wUpto s).1 = false := by
      cases hc : (P.eat wUpto s).1 with
      | false => rfl
      | true => have := len_eaten hc; omega
    rw [P.tierLoop, P.tierLoop, if_neg (by rw [hn]; decide), eat_no hn]
  | f + 1, g + 1, acc, s, hf, hg => by
    rw [P.tierLoop, P.tierLoop]
    by_cases hc : (P.eat wUpto s).1 = true
    · rw [if_pos hc, if_pos hc]
      have := tier_round np hc
      exact tier_fuel f g _ _ (by omega) (by omega)
    · rw [if_neg hc, if_neg hc]
def P.tierAll (acc : List Tier) (s : St) : List Tier × St := P.tierLoop np (len s) acc s
theorem tierAll_step {acc : List Tier} {s : St} (h : (P.eat wUpto s).1 = true) :
    P.tierAll np acc s = P.tierAll np (acc ++ [⟨(P.number np 0 1000000 (P.eat wUpto s).2).1, (P.number np 6 1000000000000 (P.must [wRate] (P.number np 0 1000000 (P.eat wUpto s).2).2)).1⟩]) (P.must [wSemi] (P.number np 6 1000000000000 (P.must [wRate] (P.number np 0 1000000 (P.eat wUpto s).2).2)).2) := by
  have hr := tier_round np h
  unfold P.tierAll
  obtain ⟨f, hf⟩ : ∃ f, len s = f + 1 := ⟨len s - 1, by omega⟩
  rw [hf, P.tierLoop, if_pos h]
  exact tier_fuel np f _ _ _ (by omega) (Nat.le_refl _)
theorem tierAll_end {acc : List Tier} {s : St} (h : (P.eat wUpto s).1 = false) : P.tierAll np acc s = (acc, s) := by
  unfold P.tierAll
  cases hl : len s with
  | zero => rfl
  | succ f => rw [P.tierLoop, if_neg (by rw [h]; decide), eat_no h]
/-- a round of the adjustments' loop -/
theorem len_adjBody (k : Int) (s : St) : len (P.adjBody np k s).2 ≤ len s := by
  unfold P.adjBody
  split
  · exact Nat.le_trans (len_must _ _) (Nat.le_trans (len_mode _) (len_number np _ _ s))
  · exact Nat.le_trans (len_must _ _) (len_number np _ _ s)
theorem adj_round {s : St} (h : (P.adjust np s).1.2 = true) : len (P.adjust np s).2 < len s := by
  unfold P.adjust at h ⊢
  simp only at h ⊢
  split
  · rename_i hc; rw [if_pos hc] at h; cases h
  · rename_i hc
    have h1 := len_oned [wPercent, wCap, wMinimum, wAdd] 1 s (by decide) (by omega)
    have h2 := len_adjBody np (P.one [wPercent, wCap, wMinimum, wAdd] 1 s).1 (P.one [wPercent, wCap, wMinimum, wAdd] 1 s).2
    show len (P.adjBody np _ _).2 < len s
    omega
theorem adj_none {s : St} (h : (P.adjust np s).1.2 = false) : (P.adjust np s).2 = s := by
  unfold P.adjust at h ⊢
  simp only at h ⊢
  split
  · rename_i hc
    have := one_range [wPercent, wCap, wMinimum, wAdd] 1 s
    exact one_none _ _ _ (by decide) (by omega)
  · rename_i hc; rw [if_neg hc] at h; cases h
theorem adj_fuel : ∀ (f g : Nat) (acc : List Adj) (s : St), len s ≤ f → len s ≤ g → P.adjLoop np f acc s = P.adjLoop np g acc s
  | 0, 0, acc, s, _, _ => rfl
  | 0, g + 1, acc, s, h, _ => by
    have hn : (P.adjust np s).1.2 = false := by
      cases hc : (P.adjust np s).1.2 with
      | false => rfl
      | true => have := adj_round np hc; omega
    rw [P.adjLoop, P.adjLoop]
    simp only [hn, true_or, if_true]
    rw [adj_none np hn]
  | f + 1, 0, acc, s, _, h => by
    have hn : (P.adjust np s).1.2 = false := by
      cases hc : (P.adjust np s).1.2 with
      | false => rfl
      | true => have := adj_round np hc; omega
    rw [P.adjLoop, P.adjLoop]
    simp only [hn, true_or, if_true]
    rw [adj_none np hn]
  | f + 1, g + 1, acc, s, hf, hg => by
    rw [P.adjLoop, P.adjLoop]
    by_cases hc : (P.adjust np s).1.2 = false ∨ (P.adjust np s).2.err ≠ 0
    · simp only [if_pos hc]
    · simp only [if_neg hc]
      have ht : (P.adjust np s).1.2 = true := by
        cases h : (P.adjust np s).1.2 with
        | true => rfl
        | false => exact absurd (Or.inl h) hc
      have := adj_round np ht
      exact adj_fuel f g _ _ (by omega) (by omega)
theorem len_tierLoop : ∀ (f : Nat) (acc : List Tier) (s : St), len (P.tierLoop np f acc s).2 ≤ len s
  | 0, acc, s => Nat.le_refl _
  | f + 1, acc, s => by
    rw [P.tierLoop]
    by_cases hc : (P.eat wUpto s).1 = true
    · rw [if_pos hc]
      have h1 := tier_round np hc
      exact Nat.le_trans (len_tierLoop f _ _) (Nat.le_of_lt h1)
    · rw [if_neg hc]
      exact len_eat wUpto s
theorem len_tiers (s : St) : len (P.tiers np s).2 ≤ len s :=
  Nat.le_trans (len_must _ _) (Nat.le_trans (len_number np _ _ _) (Nat.le_trans (len_must _ _) (Nat.le_trans (len_tierLoop np _ _ _) (len_must _ s))))
theorem len_day (s : St) : len (P.day dp s).2 ≤ len s := len_kind 4 s
theorem len_window (s : St) : len (P.window dp s).2 ≤ len s := by
  unfold P.window
  simp only
  split
  · exact Nat.le_trans (len_day dp _) (Nat.le_trans (len_must _ _) (Nat.le_trans (len_day dp _) (len_eat wFrom s)))
  · exact len_eat wFrom s
theorem len_opt (w : ByteArray) (d : Int) (s : St) : len (P.opt np w d s).2 ≤ len s := by
  unfold P.opt
  split
  · exact Nat.le_trans (len_must _ _) (Nat.le_trans (len_number np _ _ _) (len_eat w s))
  · exact len_eat w s
theorem len_ckind (s : St) : len (P.ckind s).2 ≤ len s := by
  unfold P.ckind
  split
  · exact len_eat _ s
  · exact Nat.le_trans (len_must _ _) (len_eat _ s)
theorem len_adjust (s : St) : len (P.adjust np s).2 ≤ len s := by
  cases h : (P.adjust np s).1.2 with
  | true => exact Nat.le_of_lt (adj_round np h)
  | false => rw [adj_none np h]; exact Nat.le_refl _
theorem len_adjLoop : ∀ (f : Nat) (acc : List Adj) (s : St), len (P.adjLoop np f acc s).2 ≤ len s
  | 0, acc, s => Nat.le_refl _
  | f + 1, acc, s => by
    rw [P.adjLoop]
    split
    · exact len_adjust np s
    · exact Nat.le_trans (len_adjLoop f _ _) (len_adjust np s)
theorem len_charge (l c : Int) (s : St) : len (P.charge dp np l c s).2 ≤ len s :=
  Nat.le_trans (len_must _ _) (Nat.le_trans (len_adjLoop np _ _ _) (Nat.le_trans (len_must _ _) (Nat.le_trans (len_mode _) (Nat.le_trans (len_must _ _) (Nat.le_trans (len_tiers np _) (Nat.le_trans (len_ckind _) (Nat.le_trans (len_opt np _ _ _) (Nat.le_trans (len_opt np _ _ _) (Nat.le_trans (len_must _ _) (Nat.le_trans (len_window dp _) (len_kind 1 s)))))))))))
theorem len_meter (l c : Int) (s : St) : len (P.meter np l c s).2 ≤ len s :=
  Nat.le_trans (len_must _ _) (Nat.le_trans (len_number np _ _ _) (Nat.le_trans (len_must _ _) (Nat.le_trans (len_kind 1 _) (Nat.le_trans (len_must _ _) (len_kind 1 s)))))
theorem len_fee (l c : Int) (s : St) : len (P.fee dp np l c s).2 ≤ len s :=
  Nat.le_trans (len_must _ _) (Nat.le_trans (len_window dp _) (len_number np _ _ s))
/-- a round of the items' loop leaves fewer, or a fault -/
theorem item_round (p : Plan) (s : St) : (P.item dp np p s).2.err ≠ 0 ∨ len (P.item dp np p s).2 < len s := by
  unfold P.item
  simp only
  by_cases c0 : (P.one [wMeter, wFee, wCharge] 0 s).1 = 0
  · right
    rw [if_pos c0]
    have h1 := len_oned [wMeter, wFee, wCharge] 0 s (by decide) (by omega)
    have h2 := len_meter np (peek s).line (peek s).col (P.one [wMeter, wFee, wCharge] 0 s).2
    show len (P.meter np (peek s).line (peek s).col (P.one [wMeter, wFee, wCharge] 0 s).2).2 < len s
    omega
  · rw [if_neg c0]
    by_cases c1 : (P.one [wMeter, wFee, wCharge] 0 s).1 = 1
    · right
      rw [if_pos c1]
      have h1 := len_oned [wMeter, wFee, wCharge] 0 s (by decide) (by omega)
      have h2 := len_fee dp np (peek s).line (peek s).col (P.one [wMeter, wFee, wCharge] 0 s).2
      show len (P.fee dp np (peek s).line (peek s).col (P.one [wMeter, wFee, wCharge] 0 s).2).2 < len s
      omega
    · rw [if_neg c1]
      by_cases c2 : (P.one [wMeter, wFee, wCharge] 0 s).1 = 2
      · right
        rw [if_pos c2]
        have h1 := len_oned [wMeter, wFee, wCharge] 0 s (by decide) (by omega)
        have h2 := len_charge dp np (peek s).line (peek s).col (P.one [wMeter, wFee, wCharge] 0 s).2
        show len (P.charge dp np (peek s).line (peek s).col (P.one [wMeter, wFee, wCharge] 0 s).2).2 < len s
        omega
      · left
        rw [if_neg c2]
        exact must_mono _ _ (fail_err 4 _ _ (by decide))
theorem items_fuel : ∀ (f g : Nat) (p : Plan) (s : St), len s ≤ f → len s ≤ g → P.items dp np f p s = P.items dp np g p s
  | 0, 0, p, s, _, _ => rfl
  | 0, g + 1, p, s, h, _ => by
    have hk : (peek s).kind = 0 := by
      unfold len at h
      unfold peek
      rw [List.length_eq_zero_iff.1 (Nat.le_zero.1 h)]; rfl
    rw [P.items, P.items, if_neg (fun e => e.2 hk)]
  | f + 1, 0, p, s, _, h => by
    have hk : (peek s).kind = 0 := by
      unfold len at h
      unfold peek
      rw [List.length_eq_zero_iff.1 (Nat.le_zero.1 h)]; rfl
    rw [P.items, P.items, if_neg (fun e => e.2 hk)]
  | f + 1, g + 1, p, s, hf, hg => by
    rw [P.items, P.items]
    by_cases hc : s.err = 0 ∧ (peek s).kind ≠ 0
    · rw [if_pos hc, if_pos hc]
      rcases item_round dp np p s with h | h
      · rw [items_bad dp np f _ h, items_bad dp np g _ h]
      · exact items_fuel f g _ _ (by omega) (by omega)
    · rw [if_neg hc, if_neg hc]
def P.itemsAll (p : Plan) (s : St) : Plan × St := P.items dp np (len s) p s
theorem itemsAll_step {p : Plan} {s : St} (h0 : s.err = 0) (hk : (peek s).kind ≠ 0) : P.itemsAll dp np p s = P.itemsAll dp np (P.item dp np p s).1 (P.item dp np p s).2 := by
  unfold P.itemsAll
  obtain ⟨f, hf⟩ : ∃ f, len s = f + 1 := by
    cases hl : len s with
    | zero =>
      exfalso
      apply hk
      unfold peek
      rw [List.length_eq_zero_iff.1 hl]; rfl
    | succ f => exact ⟨f, rfl⟩
  rw [hf, P.items, if_pos ⟨h0, hk⟩]
  rcases item_round dp np p s with h | h
  · rw [items_bad dp np f _ h, items_bad dp np _ _ h]
  · exact items_fuel dp np f _ _ _ (by omega) (Nat.le_refl _)
theorem itemsAll_end {p : Plan} {s : St} (h : s.err ≠ 0 ∨ (peek s).kind = 0) : P.itemsAll dp np p s = (p, s) := by
  unfold P.itemsAll
  cases hl : len s with
  | zero => rfl
  | succ f => rw [P.items, if_neg (fun e => h.elim (fun x => x e.1) (fun x => e.2 x))]
def P.adjAll (acc : List Adj) (s : St) : List Adj × St := P.adjLoop np (len s) acc s
theorem adjAll_step {acc : List Adj} {s : St} (h1 : (P.adjust np s).1.2 = true) (h2 : (P.adjust np s).2.err = 0) : P.adjAll np acc s = P.adjAll np (acc ++ [(P.adjust np s).1.1]) (P.adjust np s).2 := by
  have hr := adj_round np h1
  unfold P.adjAll
  obtain ⟨f, hf⟩ : ∃ f, len s = f + 1 := ⟨len s - 1, by omega⟩
  rw [hf, P.adjLoop]
  simp only [h1, h2, Bool.true_eq_false, ne_eq, not_true_eq_false, or_self, if_false]
  exact adj_fuel np f _ _ _ (by omega) (Nat.le_refl _)
theorem adjAll_end {acc : List Adj} {s : St} (h : (P.adjust np s).1.2 = false ∨ (P.adjust np s).2.err ≠ 0) (hl : 0 < len s) : P.adjAll np acc s = (acc, (P.adjust np s).2) := by
  unfold P.adjAll
  obtain ⟨f, hf⟩ : ∃ f, len s = f + 1 := ⟨len s - 1, by omega⟩
  rw [hf, P.adjLoop]
  simp only [if_pos h]
end
end Go.Proofs.YtcgkfgklggjmaaaDoor.Par
end
section
namespace Go.Proofs.YtcgkfgklggjmaaaDoor.Par
set_option linter.unusedVariables false
set_option linter.unusedSimpArgs false
section
variable (dp : ByteArray → Day) (np : ByteArray → Int → Int → Int × Int)
/-! the reference's loops without their fuel -/
theorem take_eq (w : ByteArray) (s : St) : R.take w s = P.eat w s := by
  unfold R.take P.eat
  by_cases h : s.err = 0 ∧ on w s = true
  · rw [if_pos h, if_pos h, next_drop (on_kind h.2)]
  · rw [if_neg h, if_neg h]
theorem want_eq (w : ByteArray) (s : St) : R.want w s = P.must [w] s := by
  unfold R.want
  rw [take_eq, P.must]
  by_cases h : (P.eat w s).1 = true
  · rw [if_pos h, if_pos h]; rfl
  · rw [if_neg h, if_neg h]
    have hf : (P.eat w s).1 = false := by simpa using h
    rw [eat_no hf]
    rfl
theorem rone_eq : ∀ (l : List ByteArray) (i : Int) (s : St), R.one l i s = P.one l i s
  | [], i, s => rfl
  | w :: ws, i, s => by
    rw [R.one, P.one, take_eq]
    split
    · rfl
    · exact rone_eq ws (i + 1) _
theorem len_want (w : ByteArray) (s : St) : len (R.want w s) ≤ len s := by rw [want_eq]; exact len_must [w] s
theorem len_wrong (e : Int) (s : St) : len (R.wrong e s) = len s := len_fail e _ s
theorem len_token (k : Int) (s : St) : len (R.token k s).2 ≤ len s := by
  unfold R.token; split
  · show len (R.wrong 4 s) ≤ len s; rw [len_wrong]; exact Nat.le_refl _
  · show len (drop1 s) ≤ len s; rw [len_drop]; omega
theorem len_rnumber (places most : Int) (s : St) : len (R.number np places most s).2 ≤ len s := by
  unfold R.number; split
  · show len (R.wrong 4 s) ≤ len s; rw [len_wrong]; exact Nat.le_refl _
  · simp only
    rw [len_drop]
    split
    · rw [len_wrong]; omega
    · split
      · rw [len_wrong]; omega
      · omega
theorem len_rmode (s : St) : len (R.mode s).2 ≤ len s := by
  unfold R.mode
  simp only
  rw [rone_eq]
  split
  · rw [len_wrong]; exact len_one _ _ s
  · exact len_one _ _ s
theorem rtier_round {s : St} (h : (R.take wUpto s).1 = true) : len (R.want wSemi (R.number np 6 1000000000000 (R.want wRate (R.number np 0 1000000 (R.take wUpto s).2).2)).2) < len s := by
  rw [take_eq] at h ⊢
  have h1 := len_eaten h
  have h2 := len_rnumber np 0 1000000 (P.eat wUpto s).2
  have h3 := len_want wRate (R.number np 0 1000000 (P.eat wUpto s).2).2
  have h4 := len_rnumber np 6 1000000000000 (R.want wRate (R.number np 0 1000000 (P.eat wUpto s).2).2)
  have h5 := len_want wSemi (R.number np 6 1000000000000 (R.want wRate (R.number np 0 1000000 (P.eat wUpto s).2).2)).2
  omega
theorem taken_len {w : ByteArray} {s : St} (h : (R.take w s).1 = true) : 0 < len s := by
  rw [take_eq] at h
  have := len_eaten h
  omega
theorem rtier_fuel : ∀ (f g : Nat) (acc : List Tier) (s : St), len s ≤ f → len s ≤ g → R.tierLoop np f acc s = R.tierLoop np g acc s
  | 0, 0, acc, s, _, _ => rfl
  | 0, g + 1, acc, s, h, _ => by
    have hn : (R.take wUpto s).1 = false := by
      cases hc : (R.take wUpto s).1 with
      | false => rfl
      | true => have := taken_len hc; omega
    rw [R.tierLoop, R.tierLoop, if_neg (by rw [hn]; decide), take_no hn]
  | f + 1, 0, acc, s, _, h => by
    have hn : (R.take wUpto s).1 = false := by
      cases hc : (R.take wUpto s).1 with
      | false => rfl
      | true => have := taken_len hc; omega
    rw [R.tierLoop, R.tierLoop, if_neg (by rw [hn]; decide), take_no hn]
  | f + 1, g + 1, acc, s, hf, hg => by
    rw [R.tierLoop, R.tierLoop]
    by_cases hc : (R.take wUpto s).1 = true
    · rw [if_pos hc, if_pos hc]
      have := rtier_round np hc
      exact rtier_fuel f g _ _ (by omega) (by omega)
    · rw [if_neg hc, if_neg hc]
def R.tierAll (acc : List Tier) (s : St) : List Tier × St := R.tierLoop np (len s) acc s
theorem rtierAll_step {acc : List Tier} {s : St} (h : (R.take wUpto s).1 = true) :
    R.tierAll np acc s = R.tierAll np (acc ++ [⟨(R.number np 0 1000000 (R.take wUpto s).2).1, (R.number np 6 1000000000000 (R.want wRate (R.number np 0 1000000 (R.take wUpto s).2).2)).1⟩]) (R.want wSemi (R.number np 6 1000000000000 (R.want wRate (R.number np 0 1000000 (R.take wUpto s).2).2)).2) := by
  have hr := rtier_round np h
  unfold R.tierAll
  obtain ⟨f, hf⟩ : ∃ f, len s = f + 1 := ⟨len s - 1, by omega⟩
  rw [hf, R.tierLoop, if_pos h]
  exact rtier_fuel np f _ _ _ (by omega) (Nat.le_refl _)
theorem rtierAll_end {acc : List Tier} {s : St} (h : (R.take wUpto s).1 = false) : R.tierAll np acc s = (acc, s) := by
  unfold R.tierAll
  cases hl : len s with
  | zero => rfl
  | succ f => rw [R.tierLoop, if_neg (by rw [h]; decide), take_no h]
theorem len_radjBody (k : Int) (s : St) : len (R.adjBody np k s).2 ≤ len s := by
  unfold R.adjBody
  split
  · exact Nat.le_trans (len_want _ _) (Nat.le_trans (len_rmode _) (len_rnumber np _ _ s))
  · exact Nat.le_trans (len_want _ _) (len_rnumber np _ _ s)
theorem radj_round {s : St} (h : ¬ (R.one [wPercent, wCap, wMinimum, wAdd] 1 s).1 < 0) : len (R.adjBody np (R.one [wPercent, wCap, wMinimum, wAdd] 1 s).1 (R.one [wPercent, wCap, wMinimum, wAdd] 1 s).2).2 < len s := by
  rw [rone_eq] at h ⊢
  have h1 := len_oned [wPercent, wCap, wMinimum, wAdd] 1 s (by decide) (by omega)
  have h2 := len_radjBody np (P.one [wPercent, wCap, wMinimum, wAdd] 1 s).1 (P.one [wPercent, wCap, wMinimum, wAdd] 1 s).2
  omega
theorem radj_fuel : ∀ (f g : Nat) (acc : List Adj) (s : St), len s ≤ f → len s ≤ g → R.adjLoop np f acc s = R.adjLoop np g acc s
  | 0, 0, acc, s, _, _ => rfl
  | 0, g + 1, acc, s, h, _ => by
    by_cases hc : (R.one [wPercent, wCap, wMinimum, wAdd] 1 s).1 < 0
    · have hr := one_range [wPercent, wCap, wMinimum, wAdd] 1 s
      have hn := one_none [wPercent, wCap, wMinimum, wAdd] 1 s (by decide) (by rw [rone_eq] at hc; omega)
      rw [R.adjLoop, R.adjLoop]
      simp only [if_pos hc]
      rw [rone_eq, hn]
    · have := radj_round np hc; omega
  | f + 1, 0, acc, s, _, h => by
    by_cases hc : (R.one [wPercent, wCap, wMinimum, wAdd] 1 s).1 < 0
    · have hr := one_range [wPercent, wCap, wMinimum, wAdd] 1 s
      have hn := one_none [wPercent, wCap, wMinimum, wAdd] 1 s (by decide) (by rw [rone_eq] at hc; omega)
      rw [R.adjLoop, R.adjLoop]
      simp only [if_pos hc]
      rw [rone_eq, hn]
    · have := radj_round np hc; omega
  | f + 1, g + 1, acc, s, hf, hg => by
    rw [R.adjLoop, R.adjLoop]
    by_cases hc : (R.one [wPercent, wCap, wMinimum, wAdd] 1 s).1 < 0
    · simp only [if_pos hc]
    · simp only [if_neg hc]
      have := radj_round np hc
      exact radj_fuel f g _ _ (by omega) (by omega)
def R.adjAll (acc : List Adj) (s : St) : List Adj × St := R.adjLoop np (len s) acc s
theorem radjAll_step {acc : List Adj} {s : St} (h : ¬ (R.one [wPercent, wCap, wMinimum, wAdd] 1 s).1 < 0) :
    R.adjAll np acc s = R.adjAll np (acc ++ [(R.adjBody np (R.one [wPercent, wCap, wMinimum, wAdd] 1 s).1 (R.one [wPercent, wCap, wMinimum, wAdd] 1 s).2).1]) (R.adjBody np (R.one [wPercent, wCap, wMinimum, wAdd] 1 s).1 (R.one [wPercent, wCap, wMinimum, wAdd] 1 s).2).2 := by
  have hr := radj_round np h
  unfold R.adjAll
  obtain ⟨f, hf⟩ : ∃ f, len s = f + 1 := ⟨len s - 1, by omega⟩
  rw [hf, R.adjLoop]
  simp only [if_neg h]
  exact radj_fuel np f _ _ _ (by omega) (Nat.le_refl _)
theorem radjAll_end {acc : List Adj} {s : St} (h : (R.one [wPercent, wCap, wMinimum, wAdd] 1 s).1 < 0) : R.adjAll np acc s = (acc, s) := by
  have hr := one_range [wPercent, wCap, wMinimum, wAdd] 1 s
  have hn := one_none [wPercent, wCap, wMinimum, wAdd] 1 s (by decide) (by rw [rone_eq] at h; omega)
  unfold R.adjAll
  cases hl : len s with
  | zero => rfl
  | succ f =>
    rw [R.adjLoop]
    simp only [if_pos h]
    rw [rone_eq, hn]
end
end Go.Proofs.YtcgkfgklggjmaaaDoor.Par
end
section
namespace Go.Proofs.YtcgkfgklggjmaaaDoor.Par
set_option linter.unusedVariables false
set_option linter.unusedSimpArgs false
section
variable (dp : ByteArray → Day) (np : ByteArray → Int → Int → Int × Int)
/-! the reference's items without their fuel -/
theorem len_rtake (w : ByteArray) (s : St) : len (R.take w s).2 ≤ len s := by rw [take_eq]; exact len_eat w s
theorem len_rone (l : List ByteArray) (i : Int) (s : St) : len (R.one l i s).2 ≤ len s := by rw [rone_eq]; exact len_one l i s
theorem len_rtierLoop : ∀ (f : Nat) (acc : List Tier) (s : St), len (R.tierLoop np f acc s).2 ≤ len s
  | 0, acc, s => Nat.le_refl _
  | f + 1, acc, s => by
    rw [R.tierLoop]
    by_cases hc : (R.take wUpto s).1 = true
    · rw [if_pos hc]
      exact Nat.le_trans (len_rtierLoop f _ _) (Nat.le_of_lt (rtier_round np hc))
    · rw [if_neg hc]
      exact len_rtake wUpto s
theorem len_rtiers (s : St) : len (R.tiers np s).2 ≤ len s :=
  Nat.le_trans (len_want _ _) (Nat.le_trans (len_want _ _) (Nat.le_trans (len_rnumber np _ _ _) (Nat.le_trans (len_want _ _) (Nat.le_trans (len_want _ _) (Nat.le_trans (len_rtierLoop np _ _ _) (len_want _ s))))))
theorem len_rday (s : St) : len (R.day dp s).2 ≤ len s := len_token 4 s
theorem len_rwindow (s : St) : len (R.window dp s).2 ≤ len s := by
  unfold R.window
  simp only
  split
  · exact Nat.le_trans (len_rday dp _) (Nat.le_trans (len_want _ _) (Nat.le_trans (len_rday dp _) (len_rtake wFrom s)))
  · exact len_rtake wFrom s
theorem len_ropt (w : ByteArray) (d : Int) (s : St) : len (R.opt np w d s).2 ≤ len s := by
  unfold R.opt
  split
  · exact Nat.le_trans (len_want _ _) (Nat.le_trans (len_rnumber np _ _ _) (len_rtake w s))
  · exact len_rtake w s
theorem len_rckind (s : St) : len (R.ckind s).2 ≤ len s := by
  unfold R.ckind
  simp only
  split
  · rw [len_wrong]; exact len_rone _ _ s
  · exact len_rone _ _ s
theorem len_radjLoop : ∀ (f : Nat) (acc : List Adj) (s : St), len (R.adjLoop np f acc s).2 ≤ len s
  | 0, acc, s => Nat.le_refl _
  | f + 1, acc, s => by
    rw [R.adjLoop]
    simp only
    split
    · exact len_rone _ _ s
    · exact Nat.le_trans (len_radjLoop f _ _) (Nat.le_trans (len_radjBody np _ _) (len_rone _ _ s))
theorem len_rcharge (l c : Int) (s : St) : len (R.charge dp np l c s).2 ≤ len s :=
  Nat.le_trans (len_want _ _) (Nat.le_trans (len_radjLoop np _ _ _) (Nat.le_trans (len_want _ _) (Nat.le_trans (len_rmode _) (Nat.le_trans (len_want _ _) (Nat.le_trans (len_rtiers np _) (Nat.le_trans (len_rckind _) (Nat.le_trans (len_ropt np _ _ _) (Nat.le_trans (len_ropt np _ _ _) (Nat.le_trans (len_want _ _) (Nat.le_trans (len_rwindow dp _) (len_token 1 s)))))))))))
theorem len_rmeter (l c : Int) (s : St) : len (R.meter np l c s).2 ≤ len s :=
  Nat.le_trans (len_want _ _) (Nat.le_trans (len_rnumber np _ _ _) (Nat.le_trans (len_want _ _) (Nat.le_trans (len_token 1 _) (Nat.le_trans (len_want _ _) (len_token 1 s)))))
theorem len_rfee (l c : Int) (s : St) : len (R.fee dp np l c s).2 ≤ len s :=
  Nat.le_trans (len_want _ _) (Nat.le_trans (len_rwindow dp _) (len_rnumber np _ _ s))
/-- a round of the items' loop leaves fewer, or a fault -/
theorem ritem_round (p : Plan) (s : St) : (R.item dp np p s).2.err ≠ 0 ∨ len (R.item dp np p s).2 < len s := by
  unfold R.item
  simp only
  have hrg := one_range [wMeter, wFee, wCharge] 0 s
  have h1 := len_oned [wMeter, wFee, wCharge] 0 s (by decide)
  rw [← rone_eq] at hrg h1
  by_cases c0 : (R.one [wMeter, wFee, wCharge] 0 s).1 = 0
  · right
    rw [if_pos c0]
    have h2 := len_rmeter np (peek s).line (peek s).col (R.one [wMeter, wFee, wCharge] 0 s).2
    have h3 := h1 (by omega)
    show len (R.meter np (peek s).line (peek s).col (R.one [wMeter, wFee, wCharge] 0 s).2).2 < len s
    omega
  · rw [if_neg c0]
    by_cases c1 : (R.one [wMeter, wFee, wCharge] 0 s).1 = 1
    · right
      rw [if_pos c1]
      have h2 := len_rfee dp np (peek s).line (peek s).col (R.one [wMeter, wFee, wCharge] 0 s).2
      have h3 := h1 (by omega)
      show len (R.fee dp np (peek s).line (peek s).col (R.one [wMeter, wFee, wCharge] 0 s).2).2 < len s
      omega
    · rw [if_neg c1]
      by_cases c2 : (R.one [wMeter, wFee, wCharge] 0 s).1 = 2
      · right
        rw [if_pos c2]
        have h2 := len_rcharge dp np (peek s).line (peek s).col (R.one [wMeter, wFee, wCharge] 0 s).2
        have h3 := h1 (by omega)
        show len (R.charge dp np (peek s).line (peek s).col (R.one [wMeter, wFee, wCharge] 0 s).2).2 < len s
        omega
      · left
        rw [if_neg c2]
        exact fail_err 4 _ _ (by decide)
theorem ritems_fuel : ∀ (f g : Nat) (p : Plan) (s : St), len s ≤ f → len s ≤ g → R.items dp np f p s = R.items dp np g p s
  | 0, 0, p, s, _, _ => rfl
  | 0, g + 1, p, s, h, _ => by
    have hk : (peek s).kind = 0 := by
      unfold len at h
      unfold peek
      rw [List.length_eq_zero_iff.1 (Nat.le_zero.1 h)]; rfl
    rw [R.items, R.items, if_neg (fun e => e.2 hk)]
  | f + 1, 0, p, s, _, h => by
    have hk : (peek s).kind = 0 := by
      unfold len at h
      unfold peek
      rw [List.length_eq_zero_iff.1 (Nat.le_zero.1 h)]; rfl
    rw [R.items, R.items, if_neg (fun e => e.2 hk)]
  | f + 1, g + 1, p, s, hf, hg => by
    rw [R.items, R.items]
    by_cases hc : s.err = 0 ∧ (peek s).kind ≠ 0
    · rw [if_pos hc, if_pos hc]
      rcases ritem_round dp np p s with h | h
      · rw [ritems_bad dp np f _ h, ritems_bad dp np g _ h]
      · exact ritems_fuel f g _ _ (by omega) (by omega)
    · rw [if_neg hc, if_neg hc]
def R.itemsAll (p : Plan) (s : St) : Plan × St := R.items dp np (len s) p s
theorem ritemsAll_step {p : Plan} {s : St} (h0 : s.err = 0) (hk : (peek s).kind ≠ 0) : R.itemsAll dp np p s = R.itemsAll dp np (R.item dp np p s).1 (R.item dp np p s).2 := by
  unfold R.itemsAll
  obtain ⟨f, hf⟩ : ∃ f, len s = f + 1 := by
    cases hl : len s with
    | zero =>
      exfalso
      apply hk
      unfold peek
      rw [List.length_eq_zero_iff.1 hl]; rfl
    | succ f => exact ⟨f, rfl⟩
  rw [hf, R.items, if_pos ⟨h0, hk⟩]
  rcases ritem_round dp np p s with h | h
  · rw [ritems_bad dp np f _ h, ritems_bad dp np _ _ h]
  · exact ritems_fuel dp np f _ _ _ (by omega) (Nat.le_refl _)
theorem ritemsAll_end {p : Plan} {s : St} (h : s.err ≠ 0 ∨ (peek s).kind = 0) : R.itemsAll dp np p s = (p, s) := by
  unfold R.itemsAll
  cases hl : len s with
  | zero => rfl
  | succ f => rw [R.items, if_neg (fun e => h.elim (fun x => x e.1) (fun x => e.2 x))]
end
/-- what the reference's parser says of a text: with dates and numbers as values -/
def noPlan : Plan := ⟨⟨#[]⟩, ⟨#[]⟩, (0, 0, 0), (0, 0, 0), [], [], [], 0, 0⟩
end Go.Proofs.YtcgkfgklggjmaaaDoor.Par
end
section
namespace Go.Proofs.YtcgkfgklggjmaaaDoor
set_option linter.unusedVariables false
set_option linter.unusedSimpArgs false
/-! numbers of days: plain words -/
def lp (y : Int) : Int := if leapB y then 1 else 0
def dby (y : Int) : Int := 365 * (y - 1) + (y - 1) / 4 - (y - 1) / 100 + (y - 1) / 400
def cum (y m : Int) : Int :=
  if m ≤ 1 then 0 else if m = 2 then 31 else if m = 3 then 59 + lp y else if m = 4 then 90 + lp y else if m = 5 then 120 + lp y else if m = 6 then 151 + lp y
  else if m = 7 then 181 + lp y else if m = 8 then 212 + lp y else if m = 9 then 243 + lp y else if m = 10 then 273 + lp y else if m = 11 then 304 + lp y else if m = 12 then 334 + lp y else 365 + lp y
def numD (y m d : Int) : Int := dby y + cum y m + d - 1
theorem lp_01 (y : Int) : 0 ≤ lp y ∧ lp y ≤ 1 := by unfold lp; split <;> omega
theorem lp_is (y : Int) : (lp y = 1 ∧ y % 4 = 0 ∧ (y % 100 ≠ 0 ∨ y % 400 = 0)) ∨ (lp y = 0 ∧ (y % 4 ≠ 0 ∨ (y % 100 = 0 ∧ y % 400 ≠ 0))) := by
  unfold lp
  cases h : leapB y with
  | true =>
    left
    simp [leapB] at h
    refine ⟨by simp, h.1, h.2⟩
  | false =>
    right
    refine ⟨by simp, ?_⟩
    by_cases h4 : y % 4 = 0
    · right
      by_cases h1 : y % 100 = 0
      · by_cases h2 : y % 400 = 0
        · rw [leap_400 y h2] at h; cases h
        · exact ⟨h1, h2⟩
      · by_cases h2 : y % 400 = 0
        · rw [leap_400 y h2] at h; cases h
        · rw [leap_ref y h2 h1] at h; simp [h4] at h
    · exact .inl h4
theorem dby_succ (y : Int) : dby (y + 1) = dby y + 365 + lp y := by
  have h := lp_is y
  unfold dby
  rcases h with ⟨h0, h1, h2⟩ | ⟨h0, h1⟩ <;> rw [h0] <;> omega
theorem dby_mono (a b : Int) (h : a ≤ b) : dby a ≤ dby b := by unfold dby; omega
theorem dby_lt (a b : Int) (h : a < b) : dby a + 365 ≤ dby b := by
  have h1 := dby_succ a
  have h2 := dby_mono (a + 1) b (by omega)
  have h3 := lp_01 a
  omega
theorem dby_bd (y : Int) (h1 : 1 ≤ y) (h2 : y ≤ 10000) : 0 ≤ dby y ∧ dby y ≤ 3652059 := by unfold dby; omega
theorem dby_one : dby 1 = 0 := by decide
theorem dby_end : dby 10000 = 3652059 := by decide
theorem cum_succ (y m : Int) (h1 : 1 ≤ m) (h2 : m ≤ 12) : cum y (m + 1) = cum y m + daysI y m := by
  rcases (by omega : m = 1 ∨ m = 2 ∨ m = 3 ∨ m = 4 ∨ m = 5 ∨ m = 6 ∨ m = 7 ∨ m = 8 ∨ m = 9 ∨ m = 10 ∨ m = 11 ∨ m = 12) with rfl | rfl | rfl | rfl | rfl | rfl | rfl | rfl | rfl | rfl | rfl | rfl
  all_goals
    simp [cum, daysI, lp]
    try (split <;> omega)
theorem cum_one (y : Int) : cum y 1 = 0 := by simp [cum]
theorem cum_end (y : Int) : cum y 13 = 365 + lp y := by simp [cum]
theorem cum_bd (y m : Int) : 0 ≤ cum y m ∧ cum y m ≤ 366 := by
  have hl := lp_01 y
  unfold cum
  generalize lp y = l at *
  by_cases h1 : m ≤ 1
  · rw [if_pos h1]; omega
  rw [if_neg h1]
  by_cases h2 : m = 2
  · rw [if_pos h2]; omega
  rw [if_neg h2]
  by_cases h3 : m = 3
  · rw [if_pos h3]; omega
  rw [if_neg h3]
  by_cases h4 : m = 4
  · rw [if_pos h4]; omega
  rw [if_neg h4]
  by_cases h5 : m = 5
  · rw [if_pos h5]; omega
  rw [if_neg h5]
  by_cases h6 : m = 6
  · rw [if_pos h6]; omega
  rw [if_neg h6]
  by_cases h7 : m = 7
  · rw [if_pos h7]; omega
  rw [if_neg h7]
  by_cases h8 : m = 8
  · rw [if_pos h8]; omega
  rw [if_neg h8]
  by_cases h9 : m = 9
  · rw [if_pos h9]; omega
  rw [if_neg h9]
  by_cases h10 : m = 10
  · rw [if_pos h10]; omega
  rw [if_neg h10]
  by_cases h11 : m = 11
  · rw [if_pos h11]; omega
  rw [if_neg h11]
  by_cases h12 : m = 12
  · rw [if_pos h12]; omega
  rw [if_neg h12]; omega
theorem cum_step (y a : Int) (h0 : 1 ≤ a) : ∀ (k : Nat), a + k ≤ 13 → cum y a ≤ cum y (a + k)
  | 0, _ => by simp
  | k + 1, h => by
    have ih := cum_step y a h0 k (by omega)
    have h1 := cum_succ y (a + k) (by omega) (by omega)
    have h2 := days_bd y (a + k)
    rw [show a + ((k + 1 : Nat) : Int) = a + k + 1 from by omega]
    omega
theorem cum_mono (y a b : Int) (h0 : 1 ≤ a) (h : a ≤ b) (h2 : b ≤ 13) : cum y a ≤ cum y b := by
  have := cum_step y a h0 (b - a).toNat (by omega)
  rwa [show a + ((b - a).toNat : Int) = b from by omega] at this
theorem cum_lt (y a b : Int) (h0 : 1 ≤ a) (h : a < b) (h2 : b ≤ 13) : cum y a + daysI y a ≤ cum y b := by
  have h1 := cum_succ y a h0 (by omega)
  have h2 := cum_mono y (a + 1) b (by omega) (by omega) h2
  omega
theorem num_in_year {y m d : Int} (h : goodB y m d = true) : dby y ≤ numD y m d ∧ numD y m d < dby (y + 1) := by
  obtain ⟨h1, h2, h3, h4, h5, h6, _⟩ := good_of h
  have c1 := cum_bd y m
  have c2 := cum_succ y m h5 h6
  have c3 := cum_mono y (m + 1) 13 (by omega) (by omega) (by omega)
  have c4 := cum_end y
  have c5 := dby_succ y
  unfold numD
  omega
theorem num_bd {y m d : Int} (h : goodB y m d = true) : 0 ≤ numD y m d ∧ numD y m d < 3652059 := by
  have h1 := num_in_year h
  obtain ⟨h2, h3, _⟩ := good_of h
  have h4 := dby_bd y h2 (by omega)
  have h5 := dby_mono (y + 1) 10000 (by omega)
  rw [dby_end] at h5
  omega
/-- a later day has a greater number -/
theorem num_lt {y m d y' m' d' : Int} (h : goodB y m d = true) (h' : goodB y' m' d' = true) (hl : y < y' ∨ (y = y' ∧ (m < m' ∨ (m = m' ∧ d < d')))) : numD y m d < numD y' m' d' := by
  rcases hl with hl | ⟨rfl, hl⟩
  · have h1 := num_in_year h
    have h2 := num_in_year h'
    have h3 := dby_mono (y + 1) y' (by omega)
    omega
  · obtain ⟨a1, a2, a3, a4, a5, a6, _⟩ := good_of h
    obtain ⟨b1, b2, b3, b4, b5, b6, _⟩ := good_of h'
    rcases hl with hl | ⟨rfl, hl⟩
    · have := cum_lt y m m' a5 hl (by omega)
      unfold numD; omega
    · unfold numD; omega
theorem num_inj {y m d y' m' d' : Int} (h : goodB y m d = true) (h' : goodB y' m' d' = true) (he : numD y m d = numD y' m' d') : y = y' ∧ m = m' ∧ d = d' := by
  have h1 := fun hl => num_lt h h' hl
  have h2 := fun hl => num_lt h' h hl
  refine Classical.byContradiction fun hc => ?_
  rcases (by omega : (y < y' ∨ (y = y' ∧ (m < m' ∨ (m = m' ∧ d < d')))) ∨ (y' < y ∨ (y' = y ∧ (m' < m ∨ (m' = m ∧ d' < d))))) with hl | hl
  · have := h1 hl; omega
  · have := h2 hl; omega
end Go.Proofs.YtcgkfgklggjmaaaDoor
end
section
namespace Go.Proofs.YtcgkfgklggjmaaaDoor
set_option linter.unusedVariables false
set_option linter.unusedSimpArgs false
/-! a number of so many digits; a day's text -/
def digL (n : Nat) : Nat → List UInt8
  | 0 => []
  | k + 1 => digL (n / 10) k ++ [UInt8.ofNat (48 + n % 10)]
theorem digL_len : ∀ (k n : Nat), (digL n k).length = k
  | 0, _ => rfl
  | k + 1, n => by simp [digL, digL_len k]
theorem digL_zero : ∀ k, digL 0 k = List.replicate k 48
  | 0 => rfl
  | k + 1 => by
    rw [digL, Nat.zero_div, digL_zero k, List.replicate_succ']
    rfl
theorem pad_eq : ∀ (k n : Nat), n < 10 ^ k → 1 ≤ k → (Lib.decDigits n).length ≤ k ∧ List.replicate (k - (Lib.decDigits n).length) 48 ++ Lib.decDigits n = digL n k
  | 0, _, _, h => absurd h (by omega)
  | k + 1, n, h, _ => by
    by_cases h10 : n < 10
    · rw [Lib.decDigits_one h10, digL, Nat.div_eq_of_lt h10, digL_zero, Nat.mod_eq_of_lt h10]
      exact ⟨by simp, by simp⟩
    · have hk : 1 ≤ k := by
        cases k with
        | zero => simp at h; omega
        | succ k => omega
      obtain ⟨h1, h2⟩ := pad_eq k (n / 10) (by rw [Nat.pow_succ] at h; omega) hk
      rw [Lib.decDigits, dif_neg h10, digL, ← h2]
      refine ⟨by simp; exact h1, ?_⟩
      rw [List.length_append, List.length_singleton, show k + 1 - ((Lib.decDigits (n / 10)).length + 1) = k - (Lib.decDigits (n / 10)).length from by omega, List.append_assoc]
/-- a good day's text -/
def dayL (y m d : Int) : List UInt8 := digL y.toNat 4 ++ 45 :: (digL m.toNat 2 ++ 45 :: digL d.toNat 2)
def textL (y m d : Int) : List UInt8 := if goodB y m d then dayL y m d else []
theorem dayL_len (y m d : Int) : (dayL y m d).length = 10 := by simp [dayL, digL_len]
end Go.Proofs.YtcgkfgklggjmaaaDoor
end
section
namespace Go.Proofs.YtcgkfgklggjmaaaDoor.Dec
set_option linter.unusedVariables false
set_option linter.unusedSimpArgs false
/-! numbers with a point: what a text is -/
def isDig (c : UInt8) : Bool := decide (48 ≤ c.toNat ∧ c.toNat ≤ 57)
theorem dig_of {c : UInt8} (h : isDig c = true) : 48 ≤ c.toNat ∧ c.toNat ≤ 57 := of_decide_eq_true h
theorem dig_not46 : isDig 46 = false := by decide
theorem cut_spec (l : List UInt8) : (Lib.cut l [46] = (l, [], false) ∧ (46 : UInt8) ∉ l) ∨ ∃ a b, l = a ++ 46 :: b ∧ (46 : UInt8) ∉ a ∧ Lib.cut l [46] = (a, b, true) := by
  have he := Lib.index_one l 46
  unfold Lib.cut
  rw [he]
  have hge := Lib.indexByte_ge l 46
  by_cases h : Lib.indexByte l 46 = -1
  · left
    rw [h, if_neg (by omega)]
    refine ⟨rfl, fun hm => ?_⟩
    obtain ⟨k, hk, hk2⟩ := List.getElem_of_mem hm
    exact Lib.indexByte_none h k (by rw [List.getElem?_eq_getElem hk, hk2])
  · right
    obtain ⟨o, ho⟩ : ∃ o : Nat, Lib.indexByte l 46 = o := ⟨(Lib.indexByte l 46).toNat, by omega⟩
    obtain ⟨h1, h2⟩ := Lib.indexByte_some ho
    obtain ⟨hlt, h3⟩ := List.getElem?_eq_some_iff.1 h1
    refine ⟨l.take o, l.drop (o + 1), ?_, ?_, ?_⟩
    · rw [← h3, ← List.drop_eq_getElem_cons hlt, List.take_append_drop]
    · intro hm
      obtain ⟨k, hk, e⟩ := List.getElem_of_mem hm
      rw [List.length_take] at hk
      rw [List.getElem_take] at e
      exact h2 k (by omega) (by rw [List.getElem?_eq_getElem (by omega), e])
    · rw [ho, if_pos (by omega)]
      simp
def digitsB (l : List UInt8) : Bool := l.all isDig && !l.isEmpty
def leadB (l : List UInt8) : Bool := decide (1 < l.length) && (l.headD 0 == 48)
def formW (a b : List UInt8) (p : Bool) : Int := if !digitsB a || leadB a then 0 else if !p then 1 else if digitsB b then 2 else 0
def formL (l : List UInt8) : Int := formW (Lib.cut l [46]).1 (Lib.cut l [46]).2.1 (Lib.cut l [46]).2.2
theorem all_none {l : List UInt8} (h : l.all isDig = true) : (46 : UInt8) ∉ l := fun hm => by
  have := List.all_eq_true.1 h 46 hm
  simp [dig_not46] at this
/-! the reference's view: bytes one by one -/
theorem form_bad {l : List UInt8} {c : UInt8} (hm : c ∈ l) (h1 : isDig c = false) (h2 : c ≠ 46) : formL l = 0 := by
  unfold formL formW
  rcases cut_spec l with ⟨e, _⟩ | ⟨a, b, rfl, ha, e⟩
  · have : l.all isDig = false := by
      rw [Bool.eq_false_iff]; intro h
      rw [List.all_eq_true.1 h c hm] at h1; cases h1
    simp [e, digitsB, this]
  · rw [e]
    rcases List.mem_append.1 hm with h | h
    · have : a.all isDig = false := by
        rw [Bool.eq_false_iff]; intro h'
        rw [List.all_eq_true.1 h' c h] at h1; cases h1
      simp [digitsB, this]
    · rcases List.mem_cons.1 h with h | h
      · exact absurd h h2
      · have : b.all isDig = false := by
          rw [Bool.eq_false_iff]; intro h'
          rw [List.all_eq_true.1 h' c h] at h1; cases h1
        simp [digitsB, this]
/-- a second point, or one at the end -/
theorem form_two {a b : List UInt8} (h : (46 : UInt8) ∈ a ∨ b = []) : formL (a ++ 46 :: b) = 0 := by
  unfold formL formW
  rcases cut_spec (a ++ 46 :: b) with ⟨e, hn⟩ | ⟨a', b', e', ha, e⟩
  · exact absurd (by simp) hn
  · rw [e]
    have hb : digitsB b' = false := by
      rcases List.append_eq_append_iff.1 e' with ⟨c, h1, h2⟩ | ⟨c, h1, h2⟩
      · -- a' = a ++ c, 46 :: b = c ++ 46 :: b'
        cases c with
        | nil =>
          simp at h1 h2
          subst h1 h2
          rcases h with h | h
          · exact absurd h ha
          · simp [digitsB, h]
        | cons x c =>
          simp at h2
          rw [h1, ← h2.1] at ha
          exact absurd (by simp) ha
      · -- a = a' ++ c, 46 :: b' = c ++ 46 :: b
        cases c with
        | nil =>
          simp at h1 h2
          subst h1 h2
          rcases h with h | h
          · exact absurd h ha
          · simp [digitsB, h]
        | cons x c =>
          simp at h2
          rw [h2.2]
          have : (c ++ 46 :: b).all isDig = false := by
            rw [Bool.eq_false_iff]; intro h'
            exact all_none h' (by simp)
          simp only [digitsB, this, Bool.false_and]
    simp [hb]
theorem form_head {l : List UInt8} (h : l = [] ∨ isDig (l.headD 0) = false) : formL l = 0 := by
  unfold formL formW
  rcases cut_spec l with ⟨e, _⟩ | ⟨a, b, rfl, ha, e⟩
  · have : digitsB l = false := by
      cases l with
      | nil => rfl
      | cons c l =>
        rcases h with h | h
        · cases h
        · have h : isDig c = false := h
          simp [digitsB, h]
    simp [e, this]
  · have : digitsB a = false := by
      cases a with
      | nil => rfl
      | cons c a =>
        rcases h with h | h
        · simp at h
        · have h : isDig c = false := h
          simp [digitsB, h]
    simp [e, this]
theorem form_whole {l : List UInt8} (h : l.all isDig = true) (hne : l ≠ []) : formL l = if leadB l then 0 else 1 := by
  unfold formL formW
  rcases cut_spec l with ⟨e, _⟩ | ⟨a, b, e', ha, e⟩
  · have hd : digitsB l = true := by simp [digitsB, h, hne]
    rw [e]
    cases leadB l <;> simp [hd]
  · exact absurd (by rw [e']; simp) (all_none h)
theorem form_point {a b : List UInt8} (h : a.all isDig = true) (hne : a ≠ []) (hb : b.all isDig = true) (hbe : b ≠ []) : formL (a ++ 46 :: b) = if leadB a then 0 else 2 := by
  unfold formL formW
  rcases cut_spec (a ++ 46 :: b) with ⟨e, hn⟩ | ⟨a', b', e', ha, e⟩
  · exact absurd (by simp) hn
  · rw [e]
    have : a = a' ∧ b = b' := by
      rcases List.append_eq_append_iff.1 e' with ⟨c, h1, h2⟩ | ⟨c, h1, h2⟩
      · cases c with
        | nil => simp at h1 h2; exact ⟨h1.symm, h2⟩
        | cons x c => simp at h2; rw [h1, ← h2.1] at ha; exact absurd (by simp) ha
      · cases c with
        | nil => simp at h1 h2; exact ⟨h1, h2.symm⟩
        | cons x c => simp at h2; rw [h1, ← h2.1] at h; exact absurd (by simp) (all_none h)
    obtain ⟨rfl, rfl⟩ := this
    have hd : digitsB a = true := by simp [digitsB, h, hne]
    have hd' : digitsB b = true := by simp [digitsB, hb, hbe]
    cases leadB a <;> simp [hd, hd']
/-! a number of digits -/
def valN (acc : Nat) (l : List UInt8) : Nat := l.foldl (fun n c => n * 10 + (c.toNat - 48)) acc
theorem valN_ge : ∀ (l : List UInt8) (acc : Nat), acc ≤ valN acc l
  | [], acc => Nat.le_refl _
  | c :: l, acc => by
    have := valN_ge l (acc * 10 + (c.toNat - 48))
    simp only [valN, List.foldl_cons] at this ⊢
    omega
theorem valN_append (a b : List UInt8) (acc : Nat) : valN acc (a ++ b) = valN (valN acc a) b := by simp [valN]
theorem uint_val : ∀ (l : List UInt8) (acc : Nat), l.all isDig = true → acc < 18446744073709551616 → Lib.parseUint10 acc l = if valN acc l < 18446744073709551616 then .ok (valN acc l) else .range
  | [], acc, _, h => by simp [Lib.parseUint10, valN, h]
  | c :: l, acc, h, ha => by
    simp only [List.all_cons, Bool.and_eq_true] at h
    have hd := dig_of h.1
    have hg := valN_ge l (acc * 10 + (c.toNat - 48))
    have e : valN acc (c :: l) = valN (acc * 10 + (c.toNat - 48)) l := rfl
    unfold Lib.parseUint10
    rw [if_pos hd, e]
    by_cases h1 : 1844674407370955162 ≤ acc
    · rw [if_pos h1, if_neg (by omega)]
    · rw [if_neg h1]
      by_cases h2 : 18446744073709551616 ≤ acc * 10 + (c.toNat - 48)
      · rw [if_pos h2, if_neg (by omega)]
      · rw [if_neg h2, uint_val l _ h.2 (by omega)]
theorem atoi_val {l : List UInt8} (h : l.all isDig = true) (hne : l ≠ []) : Lib.atoiAll l = if valN 0 l < 9223372036854775808 then .ok (valN 0 l : Int) else .range := by
  cases l with
  | nil => exact absurd rfl hne
  | cons c r =>
    have h' := h
    simp only [List.all_cons, Bool.and_eq_true] at h
    have hd := dig_of h.1
    rw [Lib.atoiAll_plain c r (by omega) (by omega)]
    unfold Lib.signless
    unfold Lib.parseMag
    rw [if_neg (by simp), uint_val _ 0 h' (by omega)]
    by_cases h3 : valN 0 (c :: r) < 18446744073709551616
    · rw [if_pos h3]
      by_cases h4 : valN 0 (c :: r) < 9223372036854775808
      · simp only [if_pos h4, if_neg (show ¬ 9223372036854775808 ≤ valN 0 (c :: r) by omega)]
      · simp only [if_neg h4, if_pos (show 9223372036854775808 ≤ valN 0 (c :: r) by omega)]
    · rw [if_neg h3, if_neg (by omega)]
end Go.Proofs.YtcgkfgklggjmaaaDoor.Dec
end
section
namespace Go.Proofs.YtcgkfgklggjmaaaDoor.Dec
set_option linter.unusedVariables false
set_option linter.unusedSimpArgs false
/-! the text of a number, and what a text is parsed to -/
def digL (n : Nat) : Nat → List UInt8
  | 0 => []
  | k + 1 => digL (n / 10) k ++ [UInt8.ofNat (48 + n % 10)]
theorem digL_len : ∀ (k n : Nat), (digL n k).length = k
  | 0, _ => rfl
  | k + 1, n => by simp [digL, digL_len k]
theorem digL_zero : ∀ k, digL 0 k = List.replicate k 48
  | 0 => rfl
  | k + 1 => by
    rw [digL, Nat.zero_div, digL_zero k, List.replicate_succ']
    rfl
theorem pad_eq : ∀ (k n : Nat), n < 10 ^ k → 1 ≤ k → (Lib.decDigits n).length ≤ k ∧ List.replicate (k - (Lib.decDigits n).length) 48 ++ Lib.decDigits n = digL n k
  | 0, _, _, h => absurd h (by omega)
  | k + 1, n, h, _ => by
    by_cases h10 : n < 10
    · rw [Lib.decDigits_one h10, digL, Nat.div_eq_of_lt h10, digL_zero, Nat.mod_eq_of_lt h10]
      exact ⟨by simp, by simp⟩
    · have hk : 1 ≤ k := by
        cases k with
        | zero => simp at h; omega
        | succ k => omega
      obtain ⟨h1, h2⟩ := pad_eq k (n / 10) (by rw [Nat.pow_succ] at h; omega) hk
      rw [Lib.decDigits, dif_neg h10, digL, ← h2]
      refine ⟨by simp; exact h1, ?_⟩
      rw [List.length_append, List.length_singleton, show k + 1 - ((Lib.decDigits (n / 10)).length + 1) = k - (Lib.decDigits (n / 10)).length from by omega, List.append_assoc]
theorem digL_top : ∀ (k n : Nat), digL n (k + 1) = UInt8.ofNat (48 + n / 10 ^ k % 10) :: digL n k
  | 0, n => by simp [digL]
  | k + 1, n => by
    rw [digL, digL_top k (n / 10), Nat.div_div_eq_div_mul, Nat.mul_comm 10 (10 ^ k), ← Nat.pow_succ]
    rfl
theorem digL_mod : ∀ (k n : Nat), digL (n % 10 ^ k) k = digL n k
  | 0, n => rfl
  | k + 1, n => by
    have e1 : n % 10 ^ (k + 1) / 10 = (n / 10) % 10 ^ k := by
      rw [Nat.pow_succ, Nat.mul_comm, Nat.mod_mul_right_div_self]
    have e2 : n % 10 ^ (k + 1) % 10 = n % 10 := by
      rw [Nat.pow_succ, Nat.mod_mul_left_mod]
    rw [digL, digL, e1, e2, digL_mod k]
theorem dig_ofNat (d : Nat) (h : d < 10) : isDig (UInt8.ofNat (48 + d)) = true ∧ (UInt8.ofNat (48 + d)).toNat = 48 + d := by
  have e : (UInt8.ofNat (48 + d)).toNat = 48 + d := by
    rw [UInt8.toNat_ofNat']; omega
  exact ⟨by simp [isDig, e]; omega, e⟩
theorem digL_all : ∀ (k n : Nat), (digL n k).all isDig = true
  | 0, _ => rfl
  | k + 1, n => by
    have h := (dig_ofNat (n % 10) (by omega)).1
    rw [digL, List.all_append, digL_all k, List.all_cons, h]
    rfl
theorem dec_all : ∀ (n : Nat), (Lib.decDigits n).all isDig = true
  | n => by
    by_cases h : n < 10
    · rw [Lib.decDigits_one h, List.all_cons, (dig_ofNat n h).1]; rfl
    · rw [Lib.decDigits, dif_neg h]
      rw [List.all_append, dec_all (n / 10), List.all_cons, (dig_ofNat (n % 10) (by omega)).1]
      rfl
theorem dec_ne (n : Nat) : Lib.decDigits n ≠ [] := by
  rw [Lib.decDigits]; split <;> simp
theorem trim_cons (c : UInt8) (l : List UInt8) : Lib.trimRightB (c :: l) 48 = if Lib.trimRightB l 48 = [] then (if c = 48 then [] else [c]) else c :: Lib.trimRightB l 48 := by
  unfold Lib.trimRightB
  rw [List.reverse_cons, List.dropWhile_append]
  by_cases h : (l.reverse.dropWhile fun x => x == 48) = []
  · have h2 : (List.dropWhile (fun x => x == 48) l.reverse).isEmpty = true := by rw [h]; rfl
    rw [if_pos h2, if_pos (by rw [h]; rfl)]
    by_cases hc : c = 48
    · simp [hc]
    · simp [hc]
  · have h2 : (List.dropWhile (fun x => x == 48) l.reverse).isEmpty = false := by
      cases hh : List.dropWhile (fun x => x == 48) l.reverse with
      | nil => exact absurd hh h
      | cons a b => rfl
    rw [if_neg (by simp [h2]), if_neg (by simpa using h)]
    simp
def fracL (n k : Nat) : List UInt8 := Lib.trimRightB (digL n k) 48
theorem frac_zero (n : Nat) : fracL n 0 = [] := rfl
theorem ofNat48 (d : Nat) (h : d < 10) : UInt8.ofNat (48 + d) = 48 ↔ d = 0 := by
  have := (dig_ofNat d h).2
  constructor
  · intro e; rw [e] at this; have : (48 : UInt8).toNat = 48 := rfl; omega
  · rintro rfl; rfl
theorem frac_succ (n k : Nat) : fracL n (k + 1) = if fracL n k = [] ∧ n / 10 ^ k % 10 = 0 then [] else UInt8.ofNat (48 + n / 10 ^ k % 10) :: fracL n k := by
  have h48 := ofNat48 (n / 10 ^ k % 10) (by omega)
  unfold fracL
  rw [digL_top, trim_cons]
  by_cases h : Lib.trimRightB (digL n k) 48 = []
  · by_cases hd : n / 10 ^ k % 10 = 0
    · rw [if_pos h, if_pos (h48.2 hd), if_pos ⟨h, hd⟩]
    · rw [if_pos h, if_neg (fun e => hd (h48.1 e)), if_neg (fun e => hd e.2), h]
  · rw [if_neg h, if_neg (fun e => h e.1)]
theorem frac_nil : ∀ (k n : Nat), fracL n k = [] ↔ n % 10 ^ k = 0
  | 0, n => by simp [frac_zero, Nat.mod_one]
  | k + 1, n => by
    have ih := frac_nil k n
    have e : n % 10 ^ (k + 1) = n % 10 ^ k + 10 ^ k * (n / 10 ^ k % 10) := by rw [Nat.pow_succ, Nat.mod_mul]
    have hp : 0 < 10 ^ k := Nat.pow_pos (by omega)
    rw [frac_succ]
    by_cases h : fracL n k = [] ∧ n / 10 ^ k % 10 = 0
    · rw [if_pos h, e, h.2, ih.1 h.1]; simp
    · rw [if_neg h, e]
      constructor
      · intro hh; cases hh
      · intro hh
        exfalso
        apply h
        have h1 : n % 10 ^ k = 0 := by omega
        have h2 : 10 ^ k * (n / 10 ^ k % 10) = 0 := by omega
        rcases Nat.mul_eq_zero.1 h2 with h3 | h3
        · omega
        · exact ⟨ih.2 h1, h3⟩
def tailL (f : List UInt8) : List UInt8 := if f = [] then [] else 46 :: f
def textN (n k : Nat) : List UInt8 := Lib.decDigits (n / 10 ^ k) ++ tailL (fracL n k)
def textL (n places : Int) : List UInt8 := if n < 0 ∨ places < 0 ∨ 9 < places then [] else textN n.toNat places.toNat
def fillL (b : List UInt8) (k : Nat) : List UInt8 := b ++ List.replicate (k - b.length) 48
def parseW (form : Int) (a b : List UInt8) (places most : Int) : Int × Int :=
  if form = 0 ∨ places < 0 ∨ 9 < places ∨ (form = 2 ∧ places = 0) then (0, 1)
  else if places < (b.length : Int) then (0, 1)
  else if 9223372036854775808 ≤ valN 0 (a ++ fillL b places.toNat) ∨ most < (valN 0 (a ++ fillL b places.toNat) : Int) then (0, 2)
  else ((valN 0 (a ++ fillL b places.toNat) : Int), 0)
def parseL (l : List UInt8) (places most : Int) : Int × Int := parseW (formL l) (Lib.cut l [46]).1 (Lib.cut l [46]).2.1 places most
end Go.Proofs.YtcgkfgklggjmaaaDoor.Dec
end
section
namespace Go.Proofs.YtcgkfgklggjmaaaDoor.Par
set_option linter.unusedVariables false
set_option linter.unusedSimpArgs false
/-! a plan's plain text, as bytes -/
def modeL (m : Int) : List UInt8 := if m = 0 then [102, 108, 111, 111, 114] else if m = 1 then [99, 101, 105, 108] else if m = 2 then [104, 97, 108, 102, 117, 112] else if m = 3 then [104, 97, 108, 102, 101, 118, 101, 110] else []
def dayT (d : Day) : List UInt8 := textL d.1 d.2.1 d.2.2
def digT (n : Int) : List UInt8 := Lib.decDigits n.toNat
def winL (w : Win) : List UInt8 := if w.has = true then [32, 102, 114, 111, 109, 32] ++ dayT w.from_ ++ [32, 116, 111, 32] ++ dayT w.to_ else []
def metL (m : Met) : List UInt8 := [109, 101, 116, 101, 114, 32] ++ m.name.data.toList ++ [32, 117, 110, 105, 116, 32] ++ m.unit.data.toList ++ [32, 109, 97, 120, 32] ++ digT m.max ++ [59, 10]
def feeL (f : Fee) : List UInt8 := [102, 101, 101, 32] ++ digT f.amount ++ winL f.win ++ [59, 10]
def tierL (last : Bool) (t : Tier) : List UInt8 := (if last = true then [9, 9, 114, 101, 115, 116, 32, 114, 97, 116, 101, 32] else [9, 9, 117, 112, 116, 111, 32] ++ digT t.upto ++ [32, 114, 97, 116, 101, 32]) ++ Dec.textL t.rate 6 ++ [59, 10]
/-- the first k of n tiers -/
def tiersL (ts : List Tier) (k : Nat) : List UInt8 := ((List.range k).map fun i => match ts[i]? with | some t => tierL (decide (i + 1 = ts.length)) t | none => []).flatten
def adjL (a : Adj) : List UInt8 :=
  if a.kind = 1 then [9, 112, 101, 114, 99, 101, 110, 116, 32] ++ Dec.textL a.n 3 ++ 32 :: (modeL a.mode ++ [59, 10])
  else if a.kind = 2 then [9, 99, 97, 112, 32] ++ digT a.n ++ [59, 10]
  else if a.kind = 3 then [9, 109, 105, 110, 105, 109, 117, 109, 32] ++ digT a.n ++ [59, 10]
  else if a.kind = 4 then [9, 97, 100, 100, 32] ++ digT a.n ++ [59, 10] else []
def chg1L (c : Chg) : List UInt8 := [99, 104, 97, 114, 103, 101, 32] ++ c.meter.data.toList ++ winL c.win ++ [32, 123, 10]
def alwL (c : Chg) : List UInt8 := if c.allow ≠ 0 then [9, 97, 108, 108, 111, 119, 97, 110, 99, 101, 32] ++ digT c.allow ++ [59, 10] else []
def blkL (c : Chg) : List UInt8 := if c.block ≠ 1 then [9, 98, 108, 111, 99, 107, 32] ++ digT c.block ++ [59, 10] else []
def kindL (c : Chg) : List UInt8 := if c.kind = 2 then [9, 118, 111, 108, 117, 109, 101, 32, 123, 10] else [9, 103, 114, 97, 100, 117, 97, 116, 101, 100, 32, 123, 10]
def rndL (c : Chg) : List UInt8 := [9, 125, 10, 9, 114, 111, 117, 110, 100, 32] ++ modeL c.mode ++ [59, 10]
def chgL (c : Chg) : List UInt8 := chg1L c ++ alwL c ++ blkL c ++ kindL c ++ tiersL c.tiers c.tiers.length ++ rndL c ++ c.adjs.flatMap adjL ++ [125, 10]
def headL (p : Plan) : List UInt8 := [112, 108, 97, 110, 32] ++ p.name.data.toList ++ [32, 99, 117, 114, 114, 101, 110, 99, 121, 32] ++ p.cur.data.toList ++ [59, 10, 104, 111, 114, 105, 122, 111, 110, 32] ++ dayT p.from_ ++ 32 :: (dayT p.to_ ++ [59, 10])
def planL (p : Plan) : List UInt8 := headL p ++ p.mets.flatMap metL ++ p.fees.flatMap feeL ++ p.chgs.flatMap chgL
theorem tiersL_succ {ts : List Tier} {k : Nat} {t : Tier} (h : ts[k]? = some t) : tiersL ts (k + 1) = tiersL ts k ++ tierL (decide (k + 1 = ts.length)) t := by
  unfold tiersL
  rw [List.range_succ, List.map_append, List.flatten_append]
  simp [h]
theorem flat_next {α : Type} (f : α → List UInt8) {l : List α} {k : Nat} {a : α} (h : l[k]? = some a) : (l.take (k + 1)).flatMap f = (l.take k).flatMap f ++ f a := by
  rw [List.take_add_one, List.flatMap_append, h]
  simp
/-- what the numbers of a plan are, so that its text can be told -/
structure NumP (p : Plan) : Prop where
  mets : ∀ m ∈ p.mets, 0 ≤ m.max ∧ m.max ≤ 2000
  fees : ∀ f ∈ p.fees, 0 ≤ f.amount ∧ f.amount ≤ 1000000000000
  chgs : ∀ c ∈ p.chgs, (0 ≤ c.allow ∧ c.allow ≤ 1000000) ∧ (0 ≤ c.block ∧ c.block ≤ 1000000) ∧ (∀ t ∈ c.tiers, (0 ≤ t.upto ∧ t.upto ≤ 1000000) ∧ (0 ≤ t.rate ∧ t.rate ≤ 1000000000000)) ∧ (∀ a ∈ c.adjs, 0 ≤ a.n ∧ a.n ≤ 1000000000000)
end Go.Proofs.YtcgkfgklggjmaaaDoor.Par
end
section
namespace Go.Proofs.YtcgkfgklggjmaaaDoor
set_option linter.unusedVariables false
set_option linter.unusedSimpArgs false
open Go.RowKit
theorem ret_int {k : IntKind} {a b : Int} (h : a = b) : Ending.returned (.int k a) = .returned (.int k b) := by rw [h]
theorem ret_bool {a b : Bool} (h : a = b) : Ending.returned (.bool a) = .returned (.bool b) := by rw [h]
theorem ret_val {a b : Value} (h : a = b) : Ending.returned a = .returned b := by rw [h]
/-! what lay there stays: steps of a walk -/
theorem bl_refl (w : World) : Below w.heap.size w w := Below.refl _ _
theorem bl_call {w v w' : World} (h : Below w.heap.size w v) (hb : Below v.heap.size v w') : Below w.heap.size w w' := h.trans (hb.mono h.size)
theorem bl_alloc {w v : World} (h : Below w.heap.size w v) (o : Obj) : Below w.heap.size w (v.alloc o) := h.alloc h.size o
theorem bl_drewN {w v : World} (h : Below w.heap.size w v) (n : Nat) : Below w.heap.size w (v.drewN n) := ⟨h.os, h.tape, h.output, h.size, h.block⟩
theorem bl_drew {w v : World} (h : Below w.heap.size w v) : Below w.heap.size w v.drew := ⟨h.os, h.tape, h.output, h.size, h.block⟩
theorem bl_set {w v : World} (h : Below w.heap.size w v) {p : Addr} (hp : w.heap.size ≤ p.block) (u : Value) : Below w.heap.size w (v.setCell p u) := h.setCell hp u
theorem below_drewN {B : Nat} {a w : World} (h : Below B a w) (n : Nat) : Below B a (w.drewN n) := ⟨h.os, h.tape, h.output, h.size, h.block⟩
theorem below_drew1 {B : Nat} {a w : World} (h : Below B a w) : Below B a w.drew := ⟨h.os, h.tape, h.output, h.size, h.block⟩
/-! calls in a region that draws -/
theorem quiet_left {P : Program} {f : FuncId} {args : Array Value} {w : World} {n : Nat} {v : Value}
    (h : Calls P f args (w.drewN n) fun e w' => e = .returned v ∧ w.drewN n = w') : Calls P f args (w.drewN n) fun e w'' => e = .returned v ∧ ∃ m, w'' = w.drewN m :=
  h.mono fun _ _ ⟨he, hm⟩ => ⟨he, n, hm.symm⟩
theorem quiet_add_left {P : Program} {f : FuncId} {args : Array Value} {w : World} {a n : Nat} {v : Value}
    (h : Calls P f args (w.drewN (a + n)) fun e w' => e = .returned v ∧ w.drewN (a + n) = w') :
    Calls P f args (w.drewN (a + n)) fun e w'' => e = .returned v ∧ ∃ m, w'' = w.drewN (a + m) :=
  h.mono fun _ _ ⟨he, hm⟩ => ⟨he, n, hm.symm⟩
theorem quiet_add {P : Program} {f : FuncId} {args : Array Value} {w : World} {a n : Nat} {v : Value}
    (h : Calls P f args (w.drewN (a + n)) fun e w' => e = .returned v ∧ ∃ m, w' = (w.drewN (a + n)).drewN m) :
    Calls P f args (w.drewN (a + n)) fun e w'' => e = .returned v ∧ ∃ m, w'' = w.drewN (a + m) :=
  h.mono fun _ _ ⟨he, m, hm⟩ => ⟨he, n + m, by rw [hm, World.drewN_drewN, Nat.add_assoc]⟩
/-! a block that is known whole -/
def Blk (w : World) (g : Nat) (t : TypeId) (cs : Array Value) : Prop := w.heap[g]? = some (.cells cs t (0, 0))
section
variable {w w' : World} {g : Nat} {t : TypeId} {cs : Array Value}
theorem Blk.lt (h : Blk w g t cs) : g < w.heap.size := by
  rcases Nat.lt_or_ge g w.heap.size with hlt | hge
  · exact hlt
  · unfold Blk at h; rw [Array.getElem?_eq_none hge] at h; cases h
theorem Blk.cell (h : Blk w g t cs) (i : Nat) : w.cell? ⟨g, i, none⟩ = cs[i]? := cell_of_row w g i cs t (0, 0) h
theorem Blk.frozen (h : Blk w g t cs) (i : Nat) : w.frozen? ⟨g, i, none⟩ = false := by
  unfold Blk at h
  simp [World.frozen?, h]
theorem Blk.new (w : World) (t : TypeId) (cs : Array Value) : Blk (w.alloc (.cells cs t)) w.heap.size t cs := heap_alloc_new w _
theorem Blk.drew (h : Blk w g t cs) : Blk w.drew g t cs := h
theorem Blk.drewN (h : Blk w g t cs) (n : Nat) : Blk (w.drewN n) g t cs := h
theorem Blk.alloc (h : Blk w g t cs) (o : Obj) : Blk (w.alloc o) g t cs := (Below.heap_alloc w o g h.lt).trans h
theorem Blk.set_ (h : Blk w g t cs) (i : Nat) (u : Value) : Blk (w.setCell ⟨g, i, none⟩ u) g t (cs.setIfInBounds i u) := by
  unfold Blk at h ⊢
  simp [World.setCell, Array.getElem?_modify, h]
theorem Blk.far (h : Blk w g t cs) {p : Addr} (hp : g ≠ p.block) (u : Value) : Blk (w.setCell p u) g t cs := (Below.heap_setCell w p u g hp).trans h
theorem Blk.below {B : Nat} (h : Blk w g t cs) (hb : Below B w w') (hg : g < B) : Blk w' g t cs := (hb.block g hg).trans h
theorem Blk.call (h : Blk w g t cs) (hb : Below w.heap.size w w') : Blk w' g t cs := h.below hb h.lt
theorem Blk.grown {row : Option Nat} (h : Blk w g t cs) (hb : w.grownBy w' row) (hg : some g ≠ row) : Blk w' g t cs := (hb.block g h.lt hg).trans h
theorem Blk.ne_ {g' : Nat} {t' : TypeId} {cs' : Array Value} (h : Blk w g t cs) (h' : Blk w g' t' cs') (hne : t ≠ t') : g ≠ g' := by
  rintro rfl
  unfold Blk at h h'
  rw [h] at h'
  injection h' with h'
  injection h' with _ ht
  exact hne ht
end
theorem Blk.c1 {w : World} {g : Nat} {t : TypeId} {a : Value} (h : Blk w g t #[a]) : w.cell? ⟨g, 0, none⟩ = some a ∧ w.frozen? ⟨g, 0, none⟩ = false := ⟨h.cell 0, h.frozen 0⟩
theorem Blk.c2 {w : World} {g : Nat} {t : TypeId} {a b : Value} (h : Blk w g t #[a, b]) : w.cell? ⟨g, 0, none⟩ = some a ∧ w.cell? ⟨g, 1, none⟩ = some b ∧ w.frozen? ⟨g, 0, none⟩ = false ∧ w.frozen? ⟨g, 1, none⟩ = false := ⟨h.cell 0, h.cell 1, h.frozen 0, h.frozen 1⟩
theorem Blk.c3 {w : World} {g : Nat} {t : TypeId} {a b c : Value} (h : Blk w g t #[a, b, c]) : w.cell? ⟨g, 0, none⟩ = some a ∧ w.cell? ⟨g, 1, none⟩ = some b ∧ w.cell? ⟨g, 2, none⟩ = some c ∧ w.frozen? ⟨g, 0, none⟩ = false ∧ w.frozen? ⟨g, 1, none⟩ = false ∧ w.frozen? ⟨g, 2, none⟩ = false := ⟨h.cell 0, h.cell 1, h.cell 2, h.frozen 0, h.frozen 1, h.frozen 2⟩
theorem Blk.c4 {w : World} {g : Nat} {t : TypeId} {a b c d : Value} (h : Blk w g t #[a, b, c, d]) : w.cell? ⟨g, 0, none⟩ = some a ∧ w.cell? ⟨g, 1, none⟩ = some b ∧ w.cell? ⟨g, 2, none⟩ = some c ∧ w.cell? ⟨g, 3, none⟩ = some d ∧ w.frozen? ⟨g, 0, none⟩ = false ∧ w.frozen? ⟨g, 1, none⟩ = false ∧ w.frozen? ⟨g, 2, none⟩ = false ∧ w.frozen? ⟨g, 3, none⟩ = false := ⟨h.cell 0, h.cell 1, h.cell 2, h.cell 3, h.frozen 0, h.frozen 1, h.frozen 2, h.frozen 3⟩
theorem Blk.iterAt {w : World} {g : Nat} {t : TypeId} {cs : Array Value} (h : Blk w g t cs) {k : Nat} (hk : k ≠ g) (s : ByteArray) (p : Nat) : Blk (w.iterAt k s p) g t cs := by
  unfold Blk; rw [Lib.iterAt_other _ _ _ _ _ (Ne.symm hk)]; exact h
theorem results_cell_tmp_row {P : Program} {fn : Func} {p u : Tmp} {ty : TypeId} (h : fn.results = #[.cell p ty, .tmp u]) (tmps : Array Value) (w : World) (g : Nat) (t : TypeId) (cs : Array Value) (d : TypeDesc)
    (hp : tmps.getD p undef = .pointer (some ⟨g, 0, none⟩)) (hg : Blk w g t cs)
    (hu : P.underlying ty = some d) (hd : (match d with | .struct _ | .array _ _ => true | _ => false) = true) (hi : (P.info? ty).map (·.size) = some cs.size) :
    (results fn tmps).run P w = .ok (.tuple #[.agg cs, tmps.getD u undef]) w := by
  have hp' : tmps[p]?.getD undef = .pointer (some ⟨g, 0, none⟩) := by simpa using hp
  simp [results, h, hp', asAddr, run_loadVar_row w g t ty cs (0, 0) d hg hu hd hi]
theorem results_tmp_cell_row {P : Program} {fn : Func} {p u : Tmp} {ty : TypeId} (h : fn.results = #[.tmp u, .cell p ty]) (tmps : Array Value) (w : World) (g : Nat) (t : TypeId) (cs : Array Value) (d : TypeDesc)
    (hp : tmps.getD p undef = .pointer (some ⟨g, 0, none⟩)) (hg : Blk w g t cs)
    (hu : P.underlying ty = some d) (hd : (match d with | .struct _ | .array _ _ => true | _ => false) = true) (hi : (P.info? ty).map (·.size) = some cs.size) :
    (results fn tmps).run P w = .ok (.tuple #[tmps.getD u undef, .agg cs]) w := by
  have hp' : tmps[p]?.getD undef = .pointer (some ⟨g, 0, none⟩) := by simpa using hp
  simp [results, h, hp', asAddr, run_loadVar_row w g t ty cs (0, 0) d hg hu hd hi]
theorem eqF_nil {P : Program} {w : World} (d : Nat) (xs ys : Array Value) : (Op.eqFields d xs ys []).run P w = .ok true w := by simp [Op.eqFields]
theorem eqF_cons {P : Program} {w : World} (d : Nat) (xs ys : Array Value) (f : Field) (fs : List Field) (a b : Value) (r s : Bool) (hn : (f.name == "_") = false) (ha : (part f.type xs f.offset).run P w = .ok a w) (hb : (part f.type ys f.offset).run P w = .ok b w) (he : (Op.equalIn d f.type a b).run P w = .ok r w) (hr : (Op.eqFields d xs ys fs).run P w = .ok s w) : (Op.eqFields d xs ys (f :: fs)).run P w = .ok (r && s) w := by
  have hn' : f.name ≠ "_" := by simpa using hn
  rw [Op.eqFields]
  simp only [if_pos hn', Sem.run_bind, ha, hb, he, Result.andThen_ok]
  cases r
  · simp
  · simpa using hr
theorem eqS_of {P : Program} {w : World} (d : Nat) (t : TypeId) (fs : Array Field) (xs ys : Array Value) (r : Bool) (hu : P.underlying t = some (.struct fs)) (hp : P.stoodInHeld t = false) (h : (Op.eqFields d xs ys fs.toList).run P w = .ok r w) : (Op.equalIn (d + 1) t (.agg xs) (.agg ys)).run P w = .ok r w := by
  have hf : P.fieldsOf t = fs := by simp [Program.fieldsOf, hu]
  rw [run_equalIn_struct (P := P) w d t xs ys (by rw [hf]; exact hu) hp, hf]
  exact h
theorem eql_S {P : Program} {w : World} {t : TypeId} {xs ys : Array Value} {r : Bool} (h : ∀ d, (Op.equalIn (d + 3) t (.agg xs) (.agg ys)).run P w = .ok r w) : (binOp .eql t (.agg xs) (.agg ys)).run P w = .ok (.bool r) w := by
  rw [run_eql_struct, h 9997]; rfl
theorem neq_S {P : Program} {w : World} {t : TypeId} {xs ys : Array Value} {r : Bool} (h : ∀ d, (Op.equalIn (d + 3) t (.agg xs) (.agg ys)).run P w = .ok r w) : (binOp .neq t (.agg xs) (.agg ys)).run P w = .ok (.bool (!r)) w := by
  rw [run_neq_struct, h 9997]; rfl
theorem iterPos_of {w : World} {k : Nat} {s : ByteArray} {p : Nat} (h : w.heap[k]? = some (.stringIter s p)) : w.iterPos k = p := by simp [World.iterPos, h]
theorem take_snoc (s : ByteArray) (k : Nat) (h : k < s.size) : s.data.toList.take (k + 1) = s.data.toList.take k ++ [s[k]] := by
  rw [List.take_succ_eq_append_getElem (by simpa using h)]; rfl
theorem byte_lt (c : UInt8) : 0 ≤ (c.toNat : Int) ∧ (c.toNat : Int) ≤ 255 := by have := c.toNat_lt; omega
end Go.Proofs.YtcgkfgklggjmaaaDoor
end
