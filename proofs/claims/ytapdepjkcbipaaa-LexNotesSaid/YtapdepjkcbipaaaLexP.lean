import Derived.Test.YtapdepjkcbipaaaLexW
namespace Go.Proofs.Ytapdepjkcbipaaa
set_option linter.unusedVariables false
set_option linter.unusedSimpArgs false
/-! blanks, and places -/
def blankN : List UInt8 → Int
  | [] => 0
  | c :: cs => if c = 35 then (if 0 ≤ Lib.indexByte (c :: cs) 10 then Lib.indexByte (c :: cs) 10 else ((c :: cs).length : Int)) else if c = 32 ∨ c = 9 ∨ c = 13 ∨ c = 10 then 1 else 0
/-! over -/
def overL (l : List UInt8) (p : Int × Int) : Int × Int := l.foldl (fun p c => if c = 10 then (p.1 + 1, 1) else (p.1, p.2 + 1)) p
theorem overL_snoc (l : List UInt8) (c : UInt8) (p : Int × Int) : overL (l ++ [c]) p = if c = 10 then ((overL l p).1 + 1, 1) else ((overL l p).1, (overL l p).2 + 1) := by
  simp [overL]
theorem overL_app (l m : List UInt8) (p : Int × Int) : overL (l ++ m) p = overL m (overL l p) := by simp [overL]
theorem overL_bd : ∀ (l : List UInt8) (p : Int × Int), 0 ≤ p.1 → 0 ≤ p.2 → 0 ≤ (overL l p).1 ∧ (overL l p).1 ≤ p.1 + l.length ∧ 0 ≤ (overL l p).2 ∧ (overL l p).2 ≤ p.2 + l.length + 1
  | [], p, h1, h2 => by simp [overL]; omega
  | c :: l, p, h1, h2 => by
    have e : overL (c :: l) p = overL l (if c = 10 then (p.1 + 1, 1) else (p.1, p.2 + 1)) := rfl
    rw [e]
    by_cases hc : c = 10
    · have ih := overL_bd l (p.1 + 1, 1) (by simp only; omega) (by simp only; omega)
      rw [if_pos hc]
      simp only [List.length_cons] at ih ⊢
      omega
    · have ih := overL_bd l (p.1, p.2 + 1) (by simp only; omega) (by simp only; omega)
      rw [if_neg hc]
      simp only [List.length_cons] at ih ⊢
      omega
/-! run -/
def runLen (l : List UInt8) : Nat := (l.takeWhile isLet).length
theorem runLen_nil : runLen [] = 0 := rfl
theorem runLen_le (l : List UInt8) : runLen l ≤ l.length := (List.takeWhile_prefix (p := isLet) (l := l)).length_le
def runN (l : List UInt8) : Int := max (runLen l : Int) (min (l.length : Int) 1)
/-! all tokens -/
structure Tok where
  kind : Int
  text : ByteArray
  line : Int
  col : Int
def noteLen (l : List UInt8) : Nat := (l.takeWhile (· != 10)).length
theorem noteLen_le (l : List UInt8) : noteLen l ≤ l.length := (List.takeWhile_prefix (p := (· != 10)) (l := l)).length_le
def tokLen (c : UInt8) (cs : List UInt8) : Nat := if isLet c then runLen cs else 0
theorem tokLen_le (c : UInt8) (cs : List UInt8) : tokLen c cs ≤ cs.length := by
  unfold tokLen; split
  · exact runLen_le cs
  · omega
def consR (t : Tok) : Except (Int × Int) (List Tok) → Except (Int × Int) (List Tok)
  | .ok l => .ok (t :: l)
  | .error e => .error e
def lexL (l : List UInt8) (line col : Int) : Except (Int × Int) (List Tok) :=
  match l with
  | [] => .ok [⟨0, ⟨#[]⟩, line, col⟩]
  | c :: cs =>
    if c = 35 then lexL (cs.drop (noteLen cs)) line (col + 1 + noteLen cs)
    else if c = 10 then lexL cs (line + 1) 1
    else if c = 32 ∨ c = 9 ∨ c = 13 then lexL cs line (col + 1)
    else if kindOf (c :: cs.take (tokLen c cs)) = 0 then .error (line, col)
    else consR ⟨kindOf (c :: cs.take (tokLen c cs)), ⟨(c :: cs.take (tokLen c cs)).toArray⟩, line, col⟩ (lexL (cs.drop (tokLen c cs)) line (col + 1 + tokLen c cs))
termination_by l.length
decreasing_by all_goals (simp only [List.length_cons, List.length_drop]; omega)
def lexAll (l : List UInt8) : List Tok × Int × Int × Int :=
  if 8192 < l.length then ([], 6, 1, 1) else match lexL l 1 1 with
    | .ok ts => (ts, 0, 0, 0)
    | .error (a, b) => ([], 3, a, b)
def preR (ts : List Tok) : Except (Int × Int) (List Tok) → Except (Int × Int) (List Tok)
  | .ok l => .ok (ts ++ l)
  | .error e => .error e
theorem preR_nil (r : Except (Int × Int) (List Tok)) : preR [] r = r := by cases r <;> rfl
theorem preR_snoc (ts : List Tok) (t : Tok) (r : Except (Int × Int) (List Tok)) : preR (ts ++ [t]) r = preR ts (consR t r) := by cases r <;> simp [preR, consR]
theorem over_none : ∀ (l : List UInt8) (p : Int × Int), (∀ x ∈ l, x ≠ 10) → overL l p = (p.1, p.2 + l.length)
  | [], p, _ => by simp [overL]
  | c :: l, p, h => by
    have e : overL (c :: l) p = overL l (if c = 10 then (p.1 + 1, 1) else (p.1, p.2 + 1)) := rfl
    rw [e, if_neg (h c (by simp)), over_none l _ fun x hx => h x (by simp [hx])]
    simp; omega
theorem takeWhile_take {p : UInt8 → Bool} (l : List UInt8) : l.take (l.takeWhile p).length = l.takeWhile p := by
  have := List.takeWhile_append_dropWhile (p := p) (l := l)
  conv => lhs; rw [← this]
  rw [List.take_left']
  rw [this]
theorem index_note (cs : List UInt8) : (if 0 ≤ Lib.indexByte cs 10 then Lib.indexByte cs 10 else (cs.length : Int)) = noteLen cs := by
  induction cs with
  | nil => simp [Lib.indexByte, noteLen]
  | cons x l ih =>
    by_cases hx : x = 10
    · subst hx; simp [Lib.indexByte, noteLen]
    · have hb : (x == 10) = false := beq_eq_false_iff_ne.2 hx
      have hge := Lib.indexByte_ge l 10
      have hn : noteLen (x :: l) = noteLen l + 1 := by simp [noteLen, hx]
      rw [hn]
      by_cases h1 : Lib.indexByte l 10 = -1
      · rw [h1] at ih
        have : Lib.indexByte (x :: l) 10 = -1 := by simp [Lib.indexByte, hb, h1]
        rw [this]; simp at ih ⊢; omega
      · have h2 : (Lib.indexByte l 10 == -1) = false := beq_eq_false_iff_ne.2 h1
        have : Lib.indexByte (x :: l) 10 = Lib.indexByte l 10 + 1 := by simp [Lib.indexByte, hb, h2]
        rw [if_pos (by omega)] at ih
        rw [this, if_pos (by omega)]; omega
theorem blank_note (cs : List UInt8) : blankN (35 :: cs) = 1 + noteLen cs := by
  have h := index_note (35 :: cs)
  have hn : noteLen (35 :: cs) = noteLen cs + 1 := by simp [noteLen]
  rw [hn] at h
  simp only [blankN, if_true]
  rw [h]; omega
theorem mem_tw (p : UInt8 → Bool) : ∀ (l : List UInt8) (x : UInt8), x ∈ l.takeWhile p → p x = true
  | [], x, h => by simp at h
  | c :: l, x, h => by
    rw [List.takeWhile_cons] at h
    split at h
    · rename_i hc
      rcases List.mem_cons.1 h with rfl | h
      · exact hc
      · exact mem_tw p l x h
    · simp at h
theorem note_free (cs : List UInt8) : ∀ x ∈ cs.take (noteLen cs), x ≠ 10 := by
  intro x hx
  unfold noteLen at hx
  rw [takeWhile_take] at hx
  simpa using mem_tw _ cs x hx
/-- what is none's: the rest stands behind it -/
theorem blank_step (l : List UInt8) (line col : Int) (h : 0 < blankN l) : ∃ n : Nat, blankN l = n ∧ 0 < n ∧ n ≤ l.length ∧
    lexL l line col = lexL (l.drop n) (overL (l.take n) (line, col)).1 (overL (l.take n) (line, col)).2 := by
  cases l with
  | nil => simp [blankN] at h
  | cons c cs =>
    by_cases h35 : c = 35
    · subst h35
      have hle := noteLen_le cs
      refine ⟨1 + noteLen cs, by rw [blank_note]; omega, by omega, by simp; omega, ?_⟩
      rw [lexL, if_pos rfl]
      have e1 : (35 :: cs).take (1 + noteLen cs) = 35 :: cs.take (noteLen cs) := by rw [Nat.add_comm]; rfl
      have e2 : (35 :: cs).drop (1 + noteLen cs) = cs.drop (noteLen cs) := by rw [Nat.add_comm]; rfl
      rw [e1, e2, over_none]
      · simp only [List.length_cons, List.length_take, Nat.min_eq_left hle]
        congr 1; omega
      · intro x hx
        rcases List.mem_cons.1 hx with rfl | hx
        · decide
        · exact note_free cs x hx
    · simp only [blankN, if_neg h35] at h ⊢
      by_cases hb : c = 32 ∨ c = 9 ∨ c = 13 ∨ c = 10
      · refine ⟨1, by rw [if_pos hb]; rfl, by omega, by simp, ?_⟩
        rw [lexL, if_neg h35]
        by_cases h10 : c = 10
        · subst h10; simp [overL]
        · have h3 : c = 32 ∨ c = 9 ∨ c = 13 := by
            rcases hb with h | h | h | h <;> simp_all
          rw [if_neg h10, if_pos h3]; simp [overL, h10]
      · rw [if_neg hb] at h; omega
theorem run_free (cs : List UInt8) : ∀ x ∈ cs.take (runLen cs), x ≠ 10 := by
  intro x hx
  unfold runLen at hx
  rw [takeWhile_take] at hx
  have := mem_tw _ cs x hx
  rintro rfl
  revert this; decide
theorem blank_bd (l : List UInt8) : 0 ≤ blankN l := by
  cases l with
  | nil => simp [blankN]
  | cons c cs => unfold blankN; repeat' split
                 all_goals omega
/-- a token, or what is none -/
theorem tok_step (l : List UInt8) (line col : Int) (h0 : ¬ 0 < blankN l) (hl : l ≠ []) : ∃ n : Nat, runN l = n ∧ 0 < n ∧ n ≤ l.length ∧
    lexL l line col = (if kindOf (l.take n) = 0 then .error (line, col) else consR ⟨kindOf (l.take n), ⟨(l.take n).toArray⟩, line, col⟩ (lexL (l.drop n) (overL (l.take n) (line, col)).1 (overL (l.take n) (line, col)).2)) := by
  cases l with
  | nil => exact absurd rfl hl
  | cons c cs =>
    have h35 : c ≠ 35 := by
      rintro rfl
      rw [blank_note] at h0; omega
    have hb : ¬ (c = 32 ∨ c = 9 ∨ c = 13 ∨ c = 10) := fun hb => by
      simp only [blankN, if_neg h35, if_pos hb] at h0; omega
    have h10 : c ≠ 10 := fun h => hb (by simp [h])
    have h3 : ¬ (c = 32 ∨ c = 9 ∨ c = 13) := fun h => hb (by rcases h with h | h | h <;> simp [h])
    have hle := tokLen_le c cs
    refine ⟨1 + tokLen c cs, ?_, by omega, by simp; omega, ?_⟩
    · unfold runN tokLen
      cases hi : isLet c with
      | true => simp [runLen, hi]; omega
      | false => simp [runLen, hi]; omega
    · rw [lexL, if_neg h35, if_neg h10, if_neg h3]
      have e1 : (c :: cs).take (1 + tokLen c cs) = c :: cs.take (tokLen c cs) := by rw [Nat.add_comm]; rfl
      have e2 : (c :: cs).drop (1 + tokLen c cs) = cs.drop (tokLen c cs) := by rw [Nat.add_comm]; rfl
      rw [e1, e2, over_none]
      · simp only [List.length_cons, List.length_take, Nat.min_eq_left hle]
        rw [show col + ((tokLen c cs + 1 : Nat) : Int) = col + 1 + (tokLen c cs : Int) from by omega]
      · intro x hx
        rcases List.mem_cons.1 hx with rfl | hx
        · exact h10
        · unfold tokLen at hx
          split at hx
          · exact run_free cs x hx
          · simp at hx
/-- all tokens but the last one are of the kind of their letters -/
theorem kinds_ok : ∀ (n : Nat) (l : List UInt8) (line col : Int) (ts : List Tok), l.length ≤ n → lexL l line col = .ok ts → ts ≠ [] ∧ ∀ i t, ts[i]? = some t → i + 1 < ts.length → kindOf t.text.data.toList = t.kind := by
  intro n
  induction n with
  | zero =>
    intro l line col ts hl h
    obtain rfl := List.length_eq_zero_iff.1 (Nat.le_zero.1 hl)
    rw [lexL] at h
    injection h with h
    subst h
    exact ⟨by simp, fun i t _ hi => by simp at hi⟩
  | succ n ih =>
    intro l line col ts hl h
    cases l with
    | nil =>
      rw [lexL] at h
      injection h with h
      subst h
      exact ⟨by simp, fun i t _ hi => by simp at hi⟩
    | cons c cs =>
      rw [List.length_cons] at hl
      rw [lexL] at h
      split at h
      · exact ih _ _ _ _ (by rw [List.length_drop]; omega) h
      · split at h
        · exact ih _ _ _ _ (by omega) h
        · split at h
          · exact ih _ _ _ _ (by omega) h
          · split at h
            · cases h
            · cases hr : lexL (cs.drop (tokLen c cs)) line (col + 1 + tokLen c cs) with
              | error e => rw [hr] at h; cases h
              | ok ts' =>
                rw [hr] at h
                injection h with h
                subst h
                have := ih _ _ _ _ (by rw [List.length_drop]; omega) hr
                refine ⟨by simp, fun i t ht hi => ?_⟩
                cases i with
                | zero =>
                  simp at ht
                  subst ht
                  rfl
                | succ i => exact this.2 i t (by simpa using ht) (by simpa using hi)
theorem all_kinds {l : List UInt8} {ts : List Tok} {er a b : Int} (h : lexAll l = (ts, er, a, b)) : ∀ i t, ts[i]? = some t → i + 1 < ts.length → kindOf t.text.data.toList = t.kind := by
  unfold lexAll at h
  split at h
  · injection h with h _
    subst h
    intro i t ht; simp at ht
  · cases hr : lexL l 1 1 with
    | ok ts' =>
      rw [hr] at h
      injection h with h _
      subst h
      exact (kinds_ok _ l 1 1 _ (Nat.le_refl _) hr).2
    | error e =>
      rw [hr] at h
      injection h with h _
      subst h
      intro i t ht; simp at ht
theorem sizes_ok : ∀ (n : Nat) (l : List UInt8) (line col : Int) (ts : List Tok), l.length ≤ n → lexL l line col = .ok ts → ∀ t ∈ ts, t.text.size ≤ l.length := by
  intro n
  induction n with
  | zero =>
    intro l line col ts hl h
    obtain rfl := List.length_eq_zero_iff.1 (Nat.le_zero.1 hl)
    rw [lexL] at h
    injection h with h
    subst h
    intro t ht
    simp at ht; subst ht; simp [ByteArray.size]
  | succ n ih =>
    intro l line col ts hl h
    cases l with
    | nil =>
      rw [lexL] at h
      injection h with h
      subst h
      intro t ht
      simp at ht; subst ht; simp [ByteArray.size]
    | cons c cs =>
      rw [List.length_cons] at hl
      rw [lexL] at h
      split at h
      · intro t ht
        have := ih _ _ _ _ (by rw [List.length_drop]; omega) h t ht
        rw [List.length_drop] at this; rw [List.length_cons]; omega
      · split at h
        · intro t ht
          have := ih _ _ _ _ (by omega) h t ht
          rw [List.length_cons]; omega
        · split at h
          · intro t ht
            have := ih _ _ _ _ (by omega) h t ht
            rw [List.length_cons]; omega
          · split at h
            · cases h
            · cases hr : lexL (cs.drop (tokLen c cs)) line (col + 1 + tokLen c cs) with
              | error e => rw [hr] at h; cases h
              | ok ts' =>
                rw [hr] at h
                injection h with h
                subst h
                intro t ht
                rcases List.mem_cons.1 ht with rfl | ht
                · simp [ByteArray.size]; omega
                · have := ih _ _ _ _ (by rw [List.length_drop]; omega) hr t ht
                  rw [List.length_drop] at this; rw [List.length_cons]; omega
theorem all_sizes {l : List UInt8} {ts : List Tok} {er a b : Int} (h : lexAll l = (ts, er, a, b)) : ∀ t ∈ ts, t.text.size ≤ 8192 := by
  unfold lexAll at h
  split at h
  · injection h with h _
    subst h
    intro t ht; simp at ht
  · cases hr : lexL l 1 1 with
    | ok ts' =>
      rw [hr] at h
      injection h with h _
      subst h
      intro t ht
      have := sizes_ok _ l 1 1 _ (Nat.le_refl _) hr t ht
      omega
    | error e =>
      rw [hr] at h
      injection h with h _
      subst h
      intro t ht; simp at ht
end Go.Proofs.Ytapdepjkcbipaaa
