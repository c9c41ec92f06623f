import Derived.Test.YtapdepjkcbipaaaLexS
namespace Go.Proofs.Ytapdepjkcbipaaa
set_option linter.unusedVariables false
set_option linter.unusedSimpArgs false
def textW : List UInt8 := 32 :: wordsL.flatMap (· ++ [32])
theorem cut_left {c : UInt8} : ∀ {w a r t : List UInt8}, (∀ x ∈ w, x ≠ c) → w ++ c :: r = a ++ c :: t → ∃ d, a = w ++ d ∧ c :: r = d ++ c :: t
  | [], a, r, t, _, h => ⟨a, rfl, h⟩
  | x :: w, [], r, t, hw, h => by
    injection h with h1 _
    exact absurd h1 (hw x (by simp))
  | x :: w, y :: a, r, t, hw, h => by
    injection h with h1 h2
    obtain ⟨d, h3, h4⟩ := cut_left (fun z hz => hw z (by simp [hz])) h2
    exact ⟨d, by rw [h3, h1]; rfl, h4⟩
theorem cut_same {c : UInt8} {w l r t : List UInt8} (hw : ∀ x ∈ w, x ≠ c) (hl : ∀ x ∈ l, x ≠ c) (h : w ++ c :: r = l ++ c :: t) : w = l := by
  obtain ⟨d, h1, _⟩ := cut_left hw h
  obtain ⟨d', h3, _⟩ := cut_left hl h.symm
  rw [h1, List.append_assoc] at h3
  have := List.append_cancel_left (as := w) (bs := []) (cs := d ++ d') (by simpa using h3)
  have : d = [] := (List.append_eq_nil_iff.1 this.symm).1
  rw [h1, this, List.append_nil]
theorem word_in (l b : List UInt8) (hl : ∀ x ∈ l, x ≠ 32) : ∀ (ws : List (List UInt8)) (a : List UInt8), (∀ w ∈ ws, ∀ x ∈ w, x ≠ 32) →
    32 :: ws.flatMap (· ++ [32]) = a ++ 32 :: (l ++ 32 :: b) → l ∈ ws
  | [], a, _, h => by
    have := congrArg List.length h
    simp at this; omega
  | w :: ws, [], hw, h => by
    injection h with _ h
    simp only [List.flatMap_cons, List.append_assoc, List.singleton_append] at h
    have := cut_same (hw w (by simp)) hl h
    simp [this]
  | w :: ws, x :: a, hw, h => by
    injection h with _ h
    simp only [List.flatMap_cons, List.append_assoc, List.singleton_append] at h
    obtain ⟨d, _, h4⟩ := cut_left (hw w (by simp)) h
    have := word_in l b hl ws d (fun v hv => hw v (by simp [hv])) h4
    simp [this]
theorem occ_of_index {s sub : List UInt8} (h : 0 ≤ Lib.index s sub) : ∃ j, j ≤ s.length ∧ Lib.occAt s sub j = true := by
  refine Classical.byContradiction fun hc => ?_
  have := Lib.index_none (s := s) (sub := sub) fun j hj => by
    cases ho : Lib.occAt s sub j with
    | false => rfl
    | true => exact absurd ⟨j, hj, ho⟩ hc
  omega
theorem word_free : ∀ w ∈ wordsL, ∀ x ∈ w, x ≠ 32 := by decide
theorem word_all : wordsL.all (fun w => Lib.contains textW (32 :: (w ++ [32]))) = true := by decide +kernel
theorem isLet_ne {c : UInt8} (h : isLet c = true) : c ≠ 32 := by rintro rfl; revert h; decide
theorem contains_words (l : List UInt8) (h : l.all isLet = true) : Lib.contains textW (32 :: (l ++ [32])) = isWord l := by
  cases hw : isWord l with
  | true =>
    have hm : l ∈ wordsL := by simpa [isWord] using hw
    exact List.all_eq_true.1 word_all l hm
  | false =>
    cases hc : Lib.contains textW (32 :: (l ++ [32])) with
    | false => rfl
    | true =>
      exfalso
      obtain ⟨j, hj, ho⟩ := occ_of_index (of_decide_eq_true hc)
      obtain ⟨t, ht⟩ := List.isPrefixOf_iff_prefix.1 ho
      have : textW = textW.take j ++ 32 :: (l ++ 32 :: t) := by
        have e := (List.take_append_drop j textW).symm
        rw [← ht] at e
        simpa using e
      have hm := word_in l t (fun x hx => isLet_ne (List.all_eq_true.1 h x hx)) wordsL (textW.take j) word_free this
      have : isWord l = true := by simpa [isWord] using hm
      rw [hw] at this; cases this
theorem contains_sign (c : UInt8) : Lib.contains [123, 125, 59] [c] = (c == 123 || c == 125 || c == 59) := by
  unfold Lib.contains
  rw [Lib.index_one]
  by_cases h1 : c = 123
  · subst h1; decide
  · by_cases h2 : c = 125
    · subst h2; decide
    · by_cases h3 : c = 59
      · subst h3; decide
      · have e1 : (123 == c) = false := beq_eq_false_iff_ne.2 (Ne.symm h1)
        have e2 : (125 == c) = false := beq_eq_false_iff_ne.2 (Ne.symm h2)
        have e3 : (59 == c) = false := beq_eq_false_iff_ne.2 (Ne.symm h3)
        simp [Lib.indexByte, e1, e2, e3, h1, h2, h3]
theorem numForm_nonneg (l : List UInt8) : 0 ≤ numForm l := by
  unfold numForm; repeat' split
  all_goals omega
theorem kind_sign {l : List UInt8} (h : l = [123] ∨ l = [125] ∨ l = [59]) : kindOf l = 5 := by simp [kindOf, h]
theorem kind_no {l : List UInt8} (h : ¬ (l = [123] ∨ l = [125] ∨ l = [59])) (h0 : l = [] ∨ l.all isLet = false) : kindOf l = 0 := by
  rw [kindOf, if_neg h, if_pos h0]
theorem kind_let {l : List UInt8} (h : l.all isLet = true) (h0 : l ≠ []) : kindOf l = if isWord l then 2 else if plainB l ∧ digFirst l = false then 1 else if numForm l ≠ 0 then 3 else if parseOk l then 4 else 0 := by
  have h1 : ¬ (l = [123] ∨ l = [125] ∨ l = [59]) := by
    rintro (rfl | rfl | rfl) <;> revert h <;> decide
  rw [kindOf, if_neg h1, if_neg (by simp only [h0, h, false_or]; simp)]
end Go.Proofs.Ytapdepjkcbipaaa
