import Derived.Lib.IndexBytes
import Derived.Lib.IndexMore
import Derived.Lib.AtoiAll
import Derived.Lib.AtoiAllCases
import Derived.Lib.TrimByte
import Derived.Lib.ItoaMem
namespace Go.Proofs.YtmhimnmiclnbjaaDoor
set_option linter.unusedVariables false
set_option linter.unusedSimpArgs false
/-! numbers with a point: what a text is -/
def isDig (c : UInt8) : Bool := decide (48 ≤ c.toNat ∧ c.toNat ≤ 57)
theorem dig_of {c : UInt8} (h : isDig c = true) : 48 ≤ c.toNat ∧ c.toNat ≤ 57 := of_decide_eq_true h
theorem dig_not46 : isDig 46 = false := by decide
theorem cut_spec (l : List UInt8) : (Lib.cut l [46] = (l, [], false) ∧ (46 : UInt8) ∉ l) ∨ ∃ a b, l = a ++ 46 :: b ∧ (46 : UInt8) ∉ a ∧ Lib.cut l [46] = (a, b, true) := by
  have he := Lib.index_one l 46
  unfold Lib.cut
  rw [he]
  have hge := Lib.indexByte_ge l 46
  by_cases h : Lib.indexByte l 46 = -1
  · left
    rw [h, if_neg (by omega)]
    refine ⟨rfl, fun hm => ?_⟩
    obtain ⟨k, hk, hk2⟩ := List.getElem_of_mem hm
    exact Lib.indexByte_none h k (by rw [List.getElem?_eq_getElem hk, hk2])
  · right
    obtain ⟨o, ho⟩ : ∃ o : Nat, Lib.indexByte l 46 = o := ⟨(Lib.indexByte l 46).toNat, by omega⟩
    obtain ⟨h1, h2⟩ := Lib.indexByte_some ho
    obtain ⟨hlt, h3⟩ := List.getElem?_eq_some_iff.1 h1
    refine ⟨l.take o, l.drop (o + 1), ?_, ?_, ?_⟩
    · rw [← h3, ← List.drop_eq_getElem_cons hlt, List.take_append_drop]
    · intro hm
      obtain ⟨k, hk, e⟩ := List.getElem_of_mem hm
      rw [List.length_take] at hk
      rw [List.getElem_take] at e
      exact h2 k (by omega) (by rw [List.getElem?_eq_getElem (by omega), e])
    · rw [ho, if_pos (by omega)]
      simp
def digitsB (l : List UInt8) : Bool := l.all isDig && !l.isEmpty
def leadB (l : List UInt8) : Bool := decide (1 < l.length) && (l.headD 0 == 48)
def formW (a b : List UInt8) (p : Bool) : Int := if !digitsB a || leadB a then 0 else if !p then 1 else if digitsB b then 2 else 0
def formL (l : List UInt8) : Int := formW (Lib.cut l [46]).1 (Lib.cut l [46]).2.1 (Lib.cut l [46]).2.2
theorem all_none {l : List UInt8} (h : l.all isDig = true) : (46 : UInt8) ∉ l := fun hm => by
  have := List.all_eq_true.1 h 46 hm
  simp [dig_not46] at this
/-! the reference's view: bytes one by one -/
theorem form_bad {l : List UInt8} {c : UInt8} (hm : c ∈ l) (h1 : isDig c = false) (h2 : c ≠ 46) : formL l = 0 := by
  unfold formL formW
  rcases cut_spec l with ⟨e, _⟩ | ⟨a, b, rfl, ha, e⟩
  · have : l.all isDig = false := by
      rw [Bool.eq_false_iff]; intro h
      rw [List.all_eq_true.1 h c hm] at h1; cases h1
    simp [e, digitsB, this]
  · rw [e]
    rcases List.mem_append.1 hm with h | h
    · have : a.all isDig = false := by
        rw [Bool.eq_false_iff]; intro h'
        rw [List.all_eq_true.1 h' c h] at h1; cases h1
      simp [digitsB, this]
    · rcases List.mem_cons.1 h with h | h
      · exact absurd h h2
      · have : b.all isDig = false := by
          rw [Bool.eq_false_iff]; intro h'
          rw [List.all_eq_true.1 h' c h] at h1; cases h1
        simp [digitsB, this]
/-- a second point, or one at the end -/
theorem form_two {a b : List UInt8} (h : (46 : UInt8) ∈ a ∨ b = []) : formL (a ++ 46 :: b) = 0 := by
  unfold formL formW
  rcases cut_spec (a ++ 46 :: b) with ⟨e, hn⟩ | ⟨a', b', e', ha, e⟩
  · exact absurd (by simp) hn
  · rw [e]
    have hb : digitsB b' = false := by
      rcases List.append_eq_append_iff.1 e' with ⟨c, h1, h2⟩ | ⟨c, h1, h2⟩
      · -- a' = a ++ c, 46 :: b = c ++ 46 :: b'
        cases c with
        | nil =>
          simp at h1 h2
          subst h1 h2
          rcases h with h | h
          · exact absurd h ha
          · simp [digitsB, h]
        | cons x c =>
          simp at h2
          rw [h1, ← h2.1] at ha
          exact absurd (by simp) ha
      · -- a = a' ++ c, 46 :: b' = c ++ 46 :: b
        cases c with
        | nil =>
          simp at h1 h2
          subst h1 h2
          rcases h with h | h
          · exact absurd h ha
          · simp [digitsB, h]
        | cons x c =>
          simp at h2
          rw [h2.2]
          have : (c ++ 46 :: b).all isDig = false := by
            rw [Bool.eq_false_iff]; intro h'
            exact all_none h' (by simp)
          simp only [digitsB, this, Bool.false_and]
    simp [hb]
theorem form_head {l : List UInt8} (h : l = [] ∨ isDig (l.headD 0) = false) : formL l = 0 := by
  unfold formL formW
  rcases cut_spec l with ⟨e, _⟩ | ⟨a, b, rfl, ha, e⟩
  · have : digitsB l = false := by
      cases l with
      | nil => rfl
      | cons c l =>
        rcases h with h | h
        · cases h
        · have h : isDig c = false := h
          simp [digitsB, h]
    simp [e, this]
  · have : digitsB a = false := by
      cases a with
      | nil => rfl
      | cons c a =>
        rcases h with h | h
        · simp at h
        · have h : isDig c = false := h
          simp [digitsB, h]
    simp [e, this]
theorem form_whole {l : List UInt8} (h : l.all isDig = true) (hne : l ≠ []) : formL l = if leadB l then 0 else 1 := by
  unfold formL formW
  rcases cut_spec l with ⟨e, _⟩ | ⟨a, b, e', ha, e⟩
  · have hd : digitsB l = true := by simp [digitsB, h, hne]
    rw [e]
    cases leadB l <;> simp [hd]
  · exact absurd (by rw [e']; simp) (all_none h)
theorem form_point {a b : List UInt8} (h : a.all isDig = true) (hne : a ≠ []) (hb : b.all isDig = true) (hbe : b ≠ []) : formL (a ++ 46 :: b) = if leadB a then 0 else 2 := by
  unfold formL formW
  rcases cut_spec (a ++ 46 :: b) with ⟨e, hn⟩ | ⟨a', b', e', ha, e⟩
  · exact absurd (by simp) hn
  · rw [e]
    have : a = a' ∧ b = b' := by
      rcases List.append_eq_append_iff.1 e' with ⟨c, h1, h2⟩ | ⟨c, h1, h2⟩
      · cases c with
        | nil => simp at h1 h2; exact ⟨h1.symm, h2⟩
        | cons x c => simp at h2; rw [h1, ← h2.1] at ha; exact absurd (by simp) ha
      · cases c with
        | nil => simp at h1 h2; exact ⟨h1, h2.symm⟩
        | cons x c => simp at h2; rw [h1, ← h2.1] at h; exact absurd (by simp) (all_none h)
    obtain ⟨rfl, rfl⟩ := this
    have hd : digitsB a = true := by simp [digitsB, h, hne]
    have hd' : digitsB b = true := by simp [digitsB, hb, hbe]
    cases leadB a <;> simp [hd, hd']
/-! a number of digits -/
def valN (acc : Nat) (l : List UInt8) : Nat := l.foldl (fun n c => n * 10 + (c.toNat - 48)) acc
theorem valN_ge : ∀ (l : List UInt8) (acc : Nat), acc ≤ valN acc l
  | [], acc => Nat.le_refl _
  | c :: l, acc => by
    have := valN_ge l (acc * 10 + (c.toNat - 48))
    simp only [valN, List.foldl_cons] at this ⊢
    omega
theorem valN_append (a b : List UInt8) (acc : Nat) : valN acc (a ++ b) = valN (valN acc a) b := by simp [valN]
theorem uint_val : ∀ (l : List UInt8) (acc : Nat), l.all isDig = true → acc < 18446744073709551616 → Lib.parseUint10 acc l = if valN acc l < 18446744073709551616 then .ok (valN acc l) else .range
  | [], acc, _, h => by simp [Lib.parseUint10, valN, h]
  | c :: l, acc, h, ha => by
    simp only [List.all_cons, Bool.and_eq_true] at h
    have hd := dig_of h.1
    have hg := valN_ge l (acc * 10 + (c.toNat - 48))
    have e : valN acc (c :: l) = valN (acc * 10 + (c.toNat - 48)) l := rfl
    unfold Lib.parseUint10
    rw [if_pos hd, e]
    by_cases h1 : 1844674407370955162 ≤ acc
    · rw [if_pos h1, if_neg (by omega)]
    · rw [if_neg h1]
      by_cases h2 : 18446744073709551616 ≤ acc * 10 + (c.toNat - 48)
      · rw [if_pos h2, if_neg (by omega)]
      · rw [if_neg h2, uint_val l _ h.2 (by omega)]
theorem atoi_val {l : List UInt8} (h : l.all isDig = true) (hne : l ≠ []) : Lib.atoiAll l = if valN 0 l < 9223372036854775808 then .ok (valN 0 l : Int) else .range := by
  cases l with
  | nil => exact absurd rfl hne
  | cons c r =>
    have h' := h
    simp only [List.all_cons, Bool.and_eq_true] at h
    have hd := dig_of h.1
    rw [Lib.atoiAll_plain c r (by omega) (by omega)]
    unfold Lib.signless
    unfold Lib.parseMag
    rw [if_neg (by simp), uint_val _ 0 h' (by omega)]
    by_cases h3 : valN 0 (c :: r) < 18446744073709551616
    · rw [if_pos h3]
      by_cases h4 : valN 0 (c :: r) < 9223372036854775808
      · simp only [if_pos h4, if_neg (show ¬ 9223372036854775808 ≤ valN 0 (c :: r) by omega)]
      · simp only [if_neg h4, if_pos (show 9223372036854775808 ≤ valN 0 (c :: r) by omega)]
    · rw [if_neg h3, if_neg (by omega)]
end Go.Proofs.YtmhimnmiclnbjaaDoor
