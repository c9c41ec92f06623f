import Derived.Test.YtapdepjkcbipaaaLexP
namespace Go.Proofs.Ytapdepjkcbipaaa
set_option linter.unusedVariables false
set_option linter.unusedSimpArgs false
/-! two texts with a line feed between -/
def downT (d : Int) (t : Tok) : Tok := { t with line := t.line + d }
def downR (d : Int) : Except (Int × Int) (List Tok) → Except (Int × Int) (List Tok)
  | .ok ts => .ok (ts.map (downT d))
  | .error (a, b) => .error (a + d, b)
theorem downR_cons (d : Int) (t : Tok) (r : Except (Int × Int) (List Tok)) : downR d (consR t r) = consR (downT d t) (downR d r) := by cases r <;> simp [downR, consR]
theorem lexL_down : ∀ (n : Nat) (l : List UInt8) (line col d : Int), l.length ≤ n → lexL l (line + d) col = downR d (lexL l line col) := by
  intro n
  induction n with
  | zero =>
    intro l line col d hl
    obtain rfl := List.length_eq_zero_iff.1 (Nat.le_zero.1 hl)
    rw [lexL, lexL]; simp [downR, downT]
  | succ n ih =>
    intro l line col d hl
    cases l with
    | nil => rw [lexL, lexL]; simp [downR, downT]
    | cons c cs =>
      rw [List.length_cons] at hl
      rw [lexL, lexL]
      split
      · exact ih _ _ _ _ (by rw [List.length_drop]; omega)
      · split
        · rw [show line + d + 1 = line + 1 + d from by omega]; exact ih _ _ _ _ (by omega)
        · split
          · exact ih _ _ _ _ (by omega)
          · split
            · rfl
            · rw [ih _ line _ d (by rw [List.length_drop]; omega), downR_cons]; rfl
/-- lines do not go past the text's length -/
def boundR (lo hi : Int) : Except (Int × Int) (List Tok) → Prop
  | .ok ts => ∀ t ∈ ts, lo ≤ t.line ∧ t.line ≤ hi
  | .error (a, _) => lo ≤ a ∧ a ≤ hi
theorem boundR_cons {lo hi : Int} {t : Tok} {r : Except (Int × Int) (List Tok)} (h : lo ≤ t.line ∧ t.line ≤ hi) (hr : boundR lo hi r) : boundR lo hi (consR t r) := by
  cases r with
  | ok ts =>
    intro x hx
    rcases List.mem_cons.1 hx with rfl | hx
    · exact h
    · exact hr x hx
  | error e => exact hr
theorem boundR_mono {lo hi lo' hi' : Int} {r : Except (Int × Int) (List Tok)} (h : boundR lo hi r) (h1 : lo' ≤ lo) (h2 : hi ≤ hi') : boundR lo' hi' r := by
  cases r with
  | ok ts => exact fun t ht => by have := h t ht; omega
  | error e => have : lo ≤ e.1 ∧ e.1 ≤ hi := h; show lo' ≤ e.1 ∧ e.1 ≤ hi'; omega
theorem lexL_bound : ∀ (n : Nat) (l : List UInt8) (line col : Int), l.length ≤ n → boundR line (line + l.length) (lexL l line col) := by
  intro n
  induction n with
  | zero =>
    intro l line col hl
    obtain rfl := List.length_eq_zero_iff.1 (Nat.le_zero.1 hl)
    rw [lexL]; intro t ht; simp at ht; subst ht; simp
  | succ n ih =>
    intro l line col hl
    cases l with
    | nil => rw [lexL]; intro t ht; simp at ht; subst ht; simp
    | cons c cs =>
      rw [List.length_cons] at hl
      rw [lexL, List.length_cons]
      split
      · exact boundR_mono (ih _ _ _ (by rw [List.length_drop]; omega)) (by omega) (by rw [List.length_drop]; omega)
      · split
        · exact boundR_mono (ih _ _ _ (by omega)) (by omega) (by omega)
        · split
          · exact boundR_mono (ih _ _ _ (by omega)) (by omega) (by omega)
          · split
            · show line ≤ line ∧ line ≤ _; omega
            · refine boundR_cons (by simp only; omega) (boundR_mono (ih _ _ _ (by rw [List.length_drop]; omega)) (by omega) (by rw [List.length_drop]; omega))
theorem noteLen_app (cs r : List UInt8) : noteLen (cs ++ 10 :: r) = noteLen cs := by
  induction cs with
  | nil => simp [noteLen]
  | cons x cs ih =>
    by_cases hx : x = 10
    · simp [noteLen, hx]
    · simp only [noteLen, List.cons_append, List.takeWhile_cons] at ih ⊢
      simp [hx, ih]
theorem runLen_app (cs r : List UInt8) : runLen (cs ++ 10 :: r) = runLen cs := by
  have h10 : isLet 10 = false := by decide
  induction cs with
  | nil => simp [runLen, h10]
  | cons x cs ih =>
    cases hx : isLet x with
    | true => simp only [runLen, List.cons_append, List.takeWhile_cons] at ih ⊢; simp [hx, ih]
    | false => simp [runLen, hx]
theorem tokLen_app (c : UInt8) (cs r : List UInt8) : tokLen c (cs ++ 10 :: r) = tokLen c cs := by unfold tokLen; rw [runLen_app]
theorem drop_app (cs r : List UInt8) (n : Nat) (h : n ≤ cs.length) : (cs ++ 10 :: r).drop n = cs.drop n ++ 10 :: r := by rw [List.drop_append_of_le_length h]
theorem take_app (cs r : List UInt8) (n : Nat) (h : n ≤ cs.length) : (cs ++ 10 :: r).take n = cs.take n := by rw [List.take_append_of_le_length h]
/-- what follows behind a text whose tokens are told -/
def joinR (r : List UInt8) : Except (Int × Int) (List Tok) → Except (Int × Int) (List Tok) → Prop
  | .error e, x => x = .error e
  | .ok ts, x => ∃ us e, ts = us ++ [e] ∧ x = preR us (lexL r (e.line + 1) 1)
theorem joinR_cons {r : List UInt8} {t : Tok} {y x : Except (Int × Int) (List Tok)} (h : joinR r y x) : joinR r (consR t y) (consR t x) := by
  cases y with
  | error e => have : x = .error e := h; subst this; rfl
  | ok ts =>
    obtain ⟨us, e, rfl, rfl⟩ := h
    refine ⟨t :: us, e, rfl, ?_⟩
    cases lexL r (e.line + 1) 1 <;> rfl
theorem lexL_join (r : List UInt8) : ∀ (n : Nat) (l : List UInt8) (line col : Int), l.length ≤ n → joinR r (lexL l line col) (lexL (l ++ 10 :: r) line col) := by
  intro n
  induction n with
  | zero =>
    intro l line col hl
    obtain rfl := List.length_eq_zero_iff.1 (Nat.le_zero.1 hl)
    rw [List.nil_append, lexL, lexL, if_neg (by decide), if_pos rfl]
    exact ⟨[], _, rfl, by rw [preR_nil]⟩
  | succ n ih =>
    intro l line col hl
    cases l with
    | nil =>
      rw [List.nil_append, lexL, lexL, if_neg (by decide), if_pos rfl]
      exact ⟨[], _, rfl, by rw [preR_nil]⟩
    | cons c cs =>
      rw [List.length_cons] at hl
      rw [List.cons_append, lexL, lexL, noteLen_app, tokLen_app, drop_app _ _ _ (noteLen_le cs), drop_app _ _ _ (tokLen_le c cs), take_app _ _ _ (tokLen_le c cs)]
      split
      · exact ih _ _ _ (by rw [List.length_drop]; omega)
      · split
        · exact ih _ _ _ (by omega)
        · split
          · exact ih _ _ _ (by omega)
          · split
            · rfl
            · exact joinR_cons (ih _ _ _ (by rw [List.length_drop]; omega))
/-- a short text: its tokens, the last one being the end; or the place of what is none -/
theorem all_cases (l : List UInt8) (hl : l.length ≤ 8192) : (∃ us e, lexL l 1 1 = .ok (us ++ [e]) ∧ lexAll l = (us ++ [e], 0, 0, 0)) ∨ ∃ a b, lexL l 1 1 = .error (a, b) ∧ lexAll l = ([], 3, a, b) := by
  have h := lexL_join [] _ l 1 1 (Nat.le_refl _)
  rw [lexAll, if_neg (by omega)]
  cases hr : lexL l 1 1 with
  | ok ts =>
    rw [hr] at h
    obtain ⟨us, e, rfl, _⟩ := h
    exact .inl ⟨us, e, rfl, rfl⟩
  | error p => exact .inr ⟨p.1, p.2, rfl, rfl⟩
theorem all_join_err {a b : List UInt8} {p q : Int} (ha : lexL a 1 1 = .error (p, q)) (hl : (a ++ 10 :: b).length ≤ 8192) : lexAll (a ++ 10 :: b) = ([], 3, p, q) := by
  have h := lexL_join b _ a 1 1 (Nat.le_refl _)
  rw [ha] at h
  have h : lexL (a ++ 10 :: b) 1 1 = .error (p, q) := h
  rw [lexAll, if_neg (by omega), h]
theorem all_join_ok {a b : List UInt8} {us : List Tok} {e : Tok} (ha : lexL a 1 1 = .ok (us ++ [e])) (hl : (a ++ 10 :: b).length ≤ 8192) :
    lexL (a ++ 10 :: b) 1 1 = preR us (downR e.line (lexL b 1 1)) := by
  have h := lexL_join b _ a 1 1 (Nat.le_refl _)
  rw [ha] at h
  obtain ⟨us', e', he, hx⟩ := h
  obtain ⟨rfl, h2⟩ := List.append_inj' he rfl
  injection h2 with h2
  subst h2
  rw [hx, ← lexL_down _ b 1 1 e.line (Nat.le_refl _), show (1 : Int) + e.line = e.line + 1 from by omega]
theorem all_bound {l : List UInt8} {ts : List Tok} (h : lexL l 1 1 = .ok ts) : ∀ t ∈ ts, 1 ≤ t.line ∧ t.line ≤ 1 + l.length := by
  have hb := lexL_bound _ l 1 1 (Nat.le_refl _)
  rw [h] at hb
  exact hb
theorem all_bound_err {l : List UInt8} {p q : Int} (h : lexL l 1 1 = .error (p, q)) : 1 ≤ p ∧ p ≤ 1 + l.length := by
  have hb := lexL_bound _ l 1 1 (Nat.le_refl _)
  rw [h] at hb
  exact hb
theorem count_ok : ∀ (n : Nat) (l : List UInt8) (line col : Int) (ts : List Tok), l.length ≤ n → lexL l line col = .ok ts → ts.length ≤ l.length + 1 := by
  intro n
  induction n with
  | zero =>
    intro l line col ts hl h
    obtain rfl := List.length_eq_zero_iff.1 (Nat.le_zero.1 hl)
    rw [lexL] at h; injection h with h; subst h; simp
  | succ n ih =>
    intro l line col ts hl h
    cases l with
    | nil => rw [lexL] at h; injection h with h; subst h; simp
    | cons c cs =>
      rw [List.length_cons] at hl ⊢
      rw [lexL] at h
      split at h
      · have := ih _ _ _ _ (by rw [List.length_drop]; omega) h
        rw [List.length_drop] at this; omega
      · split at h
        · have := ih _ _ _ _ (by omega) h; omega
        · split at h
          · have := ih _ _ _ _ (by omega) h; omega
          · split at h
            · cases h
            · cases hr : lexL (cs.drop (tokLen c cs)) line (col + 1 + tokLen c cs) with
              | error e => rw [hr] at h; cases h
              | ok ts' =>
                rw [hr] at h
                injection h with h
                subst h
                have := ih _ _ _ _ (by rw [List.length_drop]; omega) hr
                rw [List.length_drop] at this
                rw [List.length_cons]; omega
end Go.Proofs.Ytapdepjkcbipaaa
