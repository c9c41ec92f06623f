import Derived.Test.YtaccanfjplgfnaaDoorDateH
import Derived.Test.YtaccanfjplgfnaaDoorDateO
namespace Go.Proofs.YtaccanfjplgfnaaDoor
set_option linter.unusedVariables false
set_option linter.unusedSimpArgs false
/-! texts and days: one by one -/
theorem dig_back (c : UInt8) (h : isDig c = true) : UInt8.ofNat (48 + (digI c).toNat) = c := by
  have h := of_decide_eq_true h
  have e : 48 + (digI c).toNat = c.toNat := by unfold digI; omega
  rw [e, UInt8.ofNat_toNat]
theorem digL_numL : ∀ (n : Nat) (l : List UInt8), l.length = n → l.all isDig = true → digL (numL l).toNat n = l
  | 0, l, h, _ => by
    obtain rfl := List.length_eq_zero_iff.1 h
    rfl
  | n + 1, l, h, hd => by
    have hne : l ≠ [] := by rintro rfl; simp at h
    obtain ⟨l', c, rfl⟩ : ∃ l' c, l = l' ++ [c] := ⟨l.dropLast, l.getLast hne, (List.dropLast_concat_getLast hne).symm⟩
    rw [List.all_append, Bool.and_eq_true] at hd
    obtain ⟨hd1, hd2⟩ := hd
    have hdc : isDig c = true := by simpa using hd2
    have hl : l'.length = n := by simpa using h
    have hb := digI_bd hdc
    have hn := numL_bd l' hd1
    have ih := digL_numL n l' hl hd1
    have e1 : (10 * numL l' + digI c).toNat / 10 = (numL l').toNat := by omega
    have e2 : (10 * numL l' + digI c).toNat % 10 = (digI c).toNat := by omega
    rw [numL_snoc, digL, e1, e2, ih, dig_back c hdc]
theorem isDig_of (k : Nat) : isDig (UInt8.ofNat (48 + k % 10)) = true := by
  unfold isDig
  rw [UInt8.toNat_ofNat_of_lt' (show 48 + k % 10 < 256 by omega)]
  exact decide_eq_true (by omega)
theorem digI_of (k : Nat) : digI (UInt8.ofNat (48 + k % 10)) = ((k % 10 : Nat) : Int) := by
  unfold digI
  rw [UInt8.toNat_ofNat_of_lt' (show 48 + k % 10 < 256 by omega)]
  omega
theorem digL_dig : ∀ (k n : Nat), (digL n k).all isDig = true
  | 0, _ => rfl
  | k + 1, n => by
    rw [digL, List.all_append, digL_dig k (n / 10), Bool.true_and, List.all_cons, List.all_nil, Bool.and_true]
    exact isDig_of n
theorem numL_digL : ∀ (k n : Nat), n < 10 ^ k → numL (digL n k) = n
  | 0, n, h => by
    obtain rfl : n = 0 := by simpa using h
    rfl
  | k + 1, n, h => by
    rw [digL, numL_snoc, numL_digL k (n / 10) (by rw [Nat.pow_succ] at h; omega), digI_of]
    omega
/-- a text that is a day's is what that day's text is -/
theorem parse_text {l : List UInt8} (h : parseOk l = true) : l.length = 10 ∧ goodB (parseY l) (parseM l) (parseD l) = true ∧ dayL (parseY l) (parseM l) (parseD l) = l := by
  unfold parseOk at h
  rw [Bool.and_eq_true] at h
  obtain ⟨hs, hg⟩ := h
  unfold dateShape at hs
  simp only [Bool.and_eq_true, beq_iff_eq] at hs
  obtain ⟨⟨⟨⟨⟨hl, h4⟩, h7⟩, hy⟩, hm⟩, hd⟩ := hs
  refine ⟨hl, hg, ?_⟩
  unfold dayL parseY parseM parseD
  rw [digL_numL 4 _ (by simp; omega) hy, digL_numL 2 _ (by simp; omega) hm, digL_numL 2 _ (by simp; omega) hd]
  match l, hl with
  | [a0, a1, a2, a3, a4, a5, a6, a7, a8, a9], _ =>
    simp at h4 h7
    subst h4 h7
    rfl
/-- a day's text is that day's -/
theorem text_parse {y m d : Int} (h : goodB y m d = true) : parseOk (dayL y m d) = true ∧ parseY (dayL y m d) = y ∧ parseM (dayL y m d) = m ∧ parseD (dayL y m d) = d := by
  obtain ⟨h1, h2, h3, h4, h5, h6, h7⟩ := good_of h
  have t4 : (dayL y m d).take 4 = digL y.toNat 4 := List.take_left' (digL_len 4 _)
  have d4 : (dayL y m d).drop 4 = 45 :: (digL m.toNat 2 ++ 45 :: digL d.toNat 2) := List.drop_left' (digL_len 4 _)
  have d5 : (dayL y m d).drop 5 = digL m.toNat 2 ++ 45 :: digL d.toNat 2 := by
    rw [show 5 = 4 + 1 from rfl, ← List.drop_drop, d4]; rfl
  have t2 : ((dayL y m d).drop 5).take 2 = digL m.toNat 2 := by rw [d5]; exact List.take_left' (digL_len 2 _)
  have d7 : (dayL y m d).drop 7 = 45 :: digL d.toNat 2 := by
    rw [show 7 = 5 + 2 from rfl, ← List.drop_drop, d5]; exact List.drop_left' (digL_len 2 _)
  have d8 : (dayL y m d).drop 8 = digL d.toNat 2 := by
    rw [show 8 = 7 + 1 from rfl, ← List.drop_drop, d7]; rfl
  have g4 : (dayL y m d).getD 4 0 = 45 := by
    have : (dayL y m d)[4]? = some 45 := by rw [← List.head?_drop, d4]; rfl
    simp [List.getD, this]
  have g7 : (dayL y m d).getD 7 0 = 45 := by
    have : (dayL y m d)[7]? = some 45 := by rw [← List.head?_drop, d7]; rfl
    simp [List.getD, this]
  have ey : parseY (dayL y m d) = y := by unfold parseY; rw [t4, numL_digL 4 _ (by show y.toNat < 10000; omega)]; omega
  have em : parseM (dayL y m d) = m := by unfold parseM; rw [t2, numL_digL 2 _ (by show m.toNat < 100; omega)]; omega
  have ed : parseD (dayL y m d) = d := by unfold parseD; rw [d8, numL_digL 2 _ (by show d.toNat < 100; omega)]; omega
  refine ⟨?_, ey, em, ed⟩
  unfold parseOk
  rw [ey, em, ed, h, Bool.and_true]
  unfold dateShape
  rw [dayL_len, g4, g7, t4, t2, d8, digL_dig, digL_dig, digL_dig]
  rfl
end Go.Proofs.YtaccanfjplgfnaaDoor
