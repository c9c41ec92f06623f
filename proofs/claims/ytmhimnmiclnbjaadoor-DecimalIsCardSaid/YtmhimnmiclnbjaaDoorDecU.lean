import Derived.Test.YtmhimnmiclnbjaaDoorDecT
namespace Go.Proofs.YtmhimnmiclnbjaaDoor
set_option linter.unusedVariables false
set_option linter.unusedSimpArgs false
/-! the plain laws of a number's text -/
theorem cut_whole {l : List UInt8} (h : l.all isDig = true) : Lib.cut l [46] = (l, [], false) := by
  rcases cut_spec l with ⟨e, _⟩ | ⟨a, b, e', ha, e⟩
  · exact e
  · exact absurd (by rw [e']; simp) (all_none h)
theorem cut_point {a b : List UInt8} (h : a.all isDig = true) : Lib.cut (a ++ 46 :: b) [46] = (a, b, true) := by
  rcases cut_spec (a ++ 46 :: b) with ⟨e, hn⟩ | ⟨a', b', e', ha, e⟩
  · exact absurd (by simp) hn
  · rw [e]
    have : a = a' ∧ b = b' := by
      rcases List.append_eq_append_iff.1 e' with ⟨c, h1, h2⟩ | ⟨c, h1, h2⟩
      · cases c with
        | nil => simp at h1 h2; exact ⟨h1.symm, h2⟩
        | cons x c => simp at h2; rw [h1, ← h2.1] at ha; exact absurd (by simp) ha
      · cases c with
        | nil => simp at h1 h2; exact ⟨h1, h2.symm⟩
        | cons x c => simp at h2; rw [h1, ← h2.1] at h; exact absurd (by simp) (all_none h)
    rw [this.1, this.2]
theorem head_dec : ∀ (n : Nat), 1 ≤ n → (Lib.decDigits n).headD 0 ≠ 48
  | n, h => by
    by_cases h10 : n < 10
    · rw [Lib.decDigits_one h10]
      intro e
      have := (ofNat48 n h10).1 e
      omega
    · rw [Lib.decDigits, dif_neg h10]
      have ih := head_dec (n / 10) (by omega)
      cases hh : Lib.decDigits (n / 10) with
      | nil => exact absurd hh (dec_ne _)
      | cons c r => rw [hh] at ih; simpa using ih
theorem lead_dec (n : Nat) : leadB (Lib.decDigits n) = false := by
  unfold leadB
  by_cases h10 : n < 10
  · rw [Lib.decDigits_one h10]; rfl
  · have := head_dec n (by omega)
    simp only [Bool.and_eq_false_iff, beq_eq_false_iff_ne]
    exact .inr this
theorem trim_fill : ∀ (l : List UInt8), Lib.trimRightB l 48 ++ List.replicate (l.length - (Lib.trimRightB l 48).length) 48 = l
  | [] => rfl
  | c :: l => by
    have ih := trim_fill l
    rw [trim_cons]
    by_cases h : Lib.trimRightB l 48 = []
    · rw [h] at ih
      simp only [List.nil_append, List.length_nil, Nat.sub_zero] at ih
      by_cases hc : c = 48
      · rw [if_pos h, if_pos hc, hc]
        simp only [List.nil_append, List.length_nil, Nat.sub_zero, List.length_cons, List.replicate_succ]
        rw [ih]
      · rw [if_pos h, if_neg hc]
        simp only [List.length_cons, List.length_nil, Nat.add_sub_cancel, Nat.zero_add]
        rw [List.cons_append, List.nil_append, ih]
    · rw [if_neg h]
      simp only [List.length_cons, List.cons_append]
      rw [Nat.add_sub_add_right, ih]
theorem trim_last : ∀ (l : List UInt8) (h : Lib.trimRightB l 48 ≠ []), (Lib.trimRightB l 48).getLast h ≠ 48
  | [], h => absurd rfl h
  | c :: l, h => by
    have ih := trim_last l
    by_cases h0 : Lib.trimRightB l 48 = []
    · by_cases hc : c = 48
      · exact absurd (by rw [trim_cons, if_pos h0, if_pos hc]) h
      · have e : Lib.trimRightB (c :: l) 48 = [c] := by rw [trim_cons, if_pos h0, if_neg hc]
        simp only [e, List.getLast_singleton]
        exact hc
    · have e : Lib.trimRightB (c :: l) 48 = c :: Lib.trimRightB l 48 := by rw [trim_cons, if_neg h0]
      simp only [e, List.getLast_cons h0]
      exact ih h0
theorem frac_fill (n k : Nat) : fillL (fracL n k) k = digL n k := by
  have := trim_fill (digL n k)
  rw [digL_len] at this
  exact this
theorem frac_all (n k : Nat) : (fracL n k).all isDig = true := by
  have h := digL_all k n
  rw [← frac_fill, fillL, List.all_append, Bool.and_eq_true] at h
  exact h.1
theorem frac_len (n k : Nat) : (fracL n k).length ≤ k := by
  have h := congrArg List.length (frac_fill n k)
  rw [digL_len, fillL, List.length_append] at h
  omega
theorem val_digL : ∀ (k n acc : Nat), valN acc (digL n k) = acc * 10 ^ k + n % 10 ^ k
  | 0, n, acc => by simp [digL, valN, Nat.mod_one]
  | k + 1, n, acc => by
    rw [digL, valN_append, val_digL k]
    have hd := (dig_ofNat (n % 10) (by omega)).2
    simp only [valN, List.foldl_cons, List.foldl_nil, hd]
    have e : n % 10 ^ (k + 1) = n % 10 + 10 * (n / 10 % 10 ^ k) := by rw [Nat.pow_succ, Nat.mul_comm, Nat.mod_mul]
    rw [e, Nat.pow_succ, ← Nat.mul_assoc, Nat.add_mul]
    omega
theorem val_dec (n : Nat) : valN 0 (Lib.decDigits n) = n := by
  induction n using Nat.strongRecOn with
  | ind n ih =>
    by_cases h10 : n < 10
    · have hd := (dig_ofNat n h10).2
      rw [Lib.decDigits_one h10]
      simp only [valN, List.foldl_cons, List.foldl_nil, hd]
      omega
    · have hd := (dig_ofNat (n % 10) (by omega)).2
      rw [Lib.decDigits, dif_neg h10, valN_append, ih (n / 10) (by omega)]
      simp only [valN, List.foldl_cons, List.foldl_nil, hd]
      omega
theorem val_text (n k : Nat) : valN 0 (Lib.decDigits (n / 10 ^ k) ++ digL n k) = n := by
  rw [valN_append, val_dec, val_digL]
  have := Nat.div_add_mod n (10 ^ k)
  rw [Nat.mul_comm] at this
  exact this
theorem val_more (l : List UInt8) (k : Nat) : valN 0 (l ++ List.replicate k 48) = valN 0 l * 10 ^ k := by
  rw [valN_append]
  induction k with
  | zero => simp [valN]
  | succ k ih => rw [List.replicate_succ', valN_append, ih, Nat.pow_succ, ← Nat.mul_assoc]; simp [valN]
/-- the form of a text that begins with a number -/
theorem form_textN (n k : Nat) : formL (textN n k) = if fracL n k = [] then 1 else 2 := by
  unfold textN tailL
  by_cases h : fracL n k = []
  · rw [if_pos h, if_pos h, List.append_nil, form_whole (dec_all _) (dec_ne _), lead_dec]; rfl
  · rw [if_neg h, if_neg h, form_point (dec_all _) (dec_ne _) (frac_all n k) h, lead_dec]; rfl
/-- a number with noughts behind it -/
theorem parse_point {a b : List UInt8} (ha : a.all isDig = true) (hne : a ≠ []) (hl : leadB a = false) (hb : b.all isDig = true) (hbe : b ≠ []) (k : Nat) (most : Int) (h1 : 1 ≤ k) (h9 : k ≤ 9) :
    parseL (a ++ 46 :: b) k most = if k < b.length then (0, 1) else if 9223372036854775808 ≤ valN 0 (a ++ fillL b k) ∨ most < (valN 0 (a ++ fillL b k) : Int) then (0, 2) else ((valN 0 (a ++ fillL b k) : Int), 0) := by
  have hf : formL (a ++ 46 :: b) = 2 := by rw [form_point ha hne hb hbe, hl]; rfl
  unfold parseL parseW
  rw [cut_point ha, hf, if_neg (by omega), Int.toNat_natCast]
  by_cases h : k < b.length
  · rw [if_pos h, if_pos (by exact_mod_cast h)]
  · rw [if_neg h, if_neg (by exact_mod_cast h)]
theorem parse_back (n k : Nat) (hn : n < 9223372036854775808) (hk : k ≤ 9) : parseL (textN n k) k 9223372036854775807 = ((n : Int), 0) := by
  by_cases h : fracL n k = []
  · have ht : textN n k = Lib.decDigits (n / 10 ^ k) := by rw [textN, tailL, if_pos h, List.append_nil]
    have hf := frac_fill n k
    rw [h] at hf
    unfold parseL parseW
    rw [form_textN, if_pos h, ht, cut_whole (dec_all _), if_neg (by simp; omega), if_neg (by simp), Int.toNat_natCast]
    simp only [hf, val_text]
    rw [if_neg (by omega)]
  · rw [textN, tailL, if_neg h, parse_point (dec_all _) (dec_ne _) (lead_dec _) (frac_all n k) h k _ ?_ hk]
    · have := frac_len n k
      rw [if_neg (by omega), frac_fill, val_text, if_neg (by omega)]
    · cases k with
      | zero => exact absurd rfl h
      | succ k => omega
theorem text_last (n k : Nat) (h : fracL n k ≠ []) : ∃ hne : textN n k ≠ [], (textN n k).getLast hne ≠ 48 := by
  have e : textN n k = (Lib.decDigits (n / 10 ^ k) ++ [46]) ++ fracL n k := by rw [textN, tailL, if_neg h]; simp
  rw [e]
  refine ⟨by simp, ?_⟩
  rw [List.getLast_append_of_ne_nil _ h]
  exact trim_last _ h
/-- noughts more -/
theorem noughts (n k more : Nat) (b : List UInt8) (hn : n < 9223372036854775808) (h1 : 1 ≤ k) (h9 : k ≤ 9) (hb : (fracL n k = [] ∧ b = [48]) ∨ (fracL n k ≠ [] ∧ b = fracL n k)) :
    parseL (Lib.decDigits (n / 10 ^ k) ++ 46 :: (b ++ List.replicate more 48)) k 9223372036854775807 = if k < b.length + more then (0, 1) else ((n : Int), 0) := by
  have hball : b.all isDig = true ∧ b ≠ [] := by
    rcases hb with ⟨_, rfl⟩ | ⟨h, rfl⟩
    · exact ⟨by decide, by simp⟩
    · exact ⟨frac_all n k, h⟩
  have hz : (List.replicate more (48 : UInt8)).all isDig = true := by simp [isDig]
  rw [parse_point (dec_all _) (dec_ne _) (lead_dec _) (by rw [List.all_append, hball.1, hz]; rfl) (by simp [hball.2]) k _ h1 h9]
  rw [List.length_append, List.length_replicate]
  by_cases h : k < b.length + more
  · rw [if_pos h, if_pos h]
  · rw [if_neg h, if_neg h]
    have e : fillL (b ++ List.replicate more 48) k = digL n k := by
      rw [← frac_fill]
      unfold fillL
      rw [List.length_append, List.length_replicate, List.append_assoc, List.replicate_append_replicate, show more + (k - (b.length + more)) = k - b.length by omega]
      rcases hb with ⟨h0, rfl⟩ | ⟨h0, rfl⟩
      · rw [h0, List.nil_append, List.length_nil, Nat.sub_zero, List.length_singleton]
        rw [show ([48] : List UInt8) = List.replicate 1 48 from rfl, List.replicate_append_replicate, show 1 + (k - 1) = k by omega]
      · rfl
    rw [e, val_text, if_neg (by omega)]
/-- a place more -/
theorem places_more (l : List UInt8) (k : Nat) (hk : k ≤ 8) (most : Int) :
    ((parseL l k most) = (0, 1)) ∨ ((parseL l k most) = (0, 2) ∧ (0 ≤ most → parseL l ((k : Int) + 1) most = (0, 2))) ∨
      (∃ v : Nat, v < 9223372036854775808 ∧ (v : Int) ≤ most ∧ parseL l k most = ((v : Int), 0) ∧ parseL l ((k : Int) + 1) most = if 9223372036854775808 ≤ 10 * v ∨ most < 10 * (v : Int) then (0, 2) else (10 * (v : Int), 0)) := by
  have e : parseL l ((k : Int) + 1) most = parseL l ((k + 1 : Nat) : Int) most := by simp
  rw [e]
  unfold parseL parseW
  generalize formL l = f
  generalize (Lib.cut l [46]).1 = a
  generalize (Lib.cut l [46]).2.1 = b
  by_cases c1 : f = 0 ∨ (k : Int) < 0 ∨ 9 < (k : Int) ∨ f = 2 ∧ (k : Int) = 0
  · left; rw [if_pos c1]
  · by_cases c2 : (k : Int) < (b.length : Int)
    · left; rw [if_neg c1, if_pos c2]
    · have c1' : ¬ (f = 0 ∨ ((k + 1 : Nat) : Int) < 0 ∨ 9 < ((k + 1 : Nat) : Int) ∨ f = 2 ∧ ((k + 1 : Nat) : Int) = 0) := by omega
      have c2' : ¬ ((k + 1 : Nat) : Int) < (b.length : Int) := by omega
      right
      rw [if_neg c1, if_neg c2, if_neg c1', if_neg c2', Int.toNat_natCast, Int.toNat_natCast]
      have ev : valN 0 (a ++ fillL b (k + 1)) = 10 * valN 0 (a ++ fillL b k) := by
        unfold fillL
        rw [show k + 1 - b.length = (k - b.length) + 1 by omega, List.replicate_succ', ← List.append_assoc, ← List.append_assoc, valN_append]
        simp only [valN, List.foldl_cons, List.foldl_nil, List.append_assoc]
        have : (48 : UInt8).toNat = 48 := rfl
        omega
      rw [ev]
      generalize valN 0 (a ++ fillL b k) = v
      by_cases c3 : 9223372036854775808 ≤ v ∨ most < (v : Int)
      · left
        rw [if_pos c3]
        refine ⟨rfl, fun hm => ?_⟩
        rw [if_pos (by omega)]
      · right
        refine ⟨v, by omega, by omega, by rw [if_neg c3], ?_⟩
        push_cast
        rfl
end Go.Proofs.YtmhimnmiclnbjaaDoor
