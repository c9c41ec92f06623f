import Derived.Test.YtapdepjkcbipaaaLexR
namespace Go.Proofs.Ytapdepjkcbipaaa
set_option linter.unusedVariables false
set_option linter.unusedSimpArgs false
/-! tokens put one behind the other, with blanks and notes between -/
def piece (note : List UInt8) (i : Nat) (t : List UInt8) : List UInt8 := t ++ 32 :: (if i % 3 = 0 then 9 :: 35 :: (note ++ [10]) else [])
def built (note : List UInt8) : Nat → List Tok → List UInt8
  | _, [] => []
  | i, t :: ts => piece note i t.text.data.toList ++ built note (i + 1) ts
theorem built_snoc (note : List UInt8) : ∀ (ts : List Tok) (i : Nat) (t : Tok), built note i (ts ++ [t]) = built note i ts ++ piece note (i + ts.length) t.text.data.toList
  | [], i, t => by simp [built]
  | x :: ts, i, t => by
    have ih := built_snoc note ts (i + 1) t
    simp only [List.cons_append, built, ih, List.length_cons, List.append_assoc]
    rw [show i + 1 + ts.length = i + (ts.length + 1) from by omega]
theorem kind_shape {l : List UInt8} (h : kindOf l ≠ 0) : (l = [123] ∨ l = [125] ∨ l = [59]) ∨ (l ≠ [] ∧ l.all isLet = true) := by
  refine Classical.byContradiction fun hc => h ?_
  refine kind_no (fun h1 => hc (.inl h1)) ?_
  by_cases h0 : l = []
  · exact .inl h0
  · cases ha : l.all isLet with
    | false => exact .inr rfl
    | true => exact absurd (.inr ⟨h0, ha⟩) hc
theorem runLen_all (cs r : List UInt8) (h : cs.all isLet = true) : runLen (cs ++ 32 :: r) = cs.length := by
  have h32 : isLet 32 = false := by decide
  induction cs with
  | nil => simp [runLen, h32]
  | cons x cs ih =>
    simp only [List.all_cons, Bool.and_eq_true] at h
    have := ih h.2
    simp only [runLen, List.cons_append, List.takeWhile_cons, h.1, if_true, List.length_cons] at this ⊢
    omega
theorem lexL_sp (r : List UInt8) (line col : Int) : lexL (32 :: r) line col = lexL r line (col + 1) := by
  rw [lexL, if_neg (by decide), if_neg (by decide), if_pos (by decide)]
/-- a token ahead of a blank is read as it stands -/
theorem lex_tok (l r : List UInt8) (line col : Int) (h : kindOf l ≠ 0) : lexL (l ++ 32 :: r) line col = consR ⟨kindOf l, ⟨l.toArray⟩, line, col⟩ (lexL r line (col + l.length + 1)) := by
  have key : ∃ c cs, l = c :: cs ∧ c ≠ 35 ∧ c ≠ 10 ∧ ¬ (c = 32 ∨ c = 9 ∨ c = 13) ∧ tokLen c (cs ++ 32 :: r) = cs.length := by
    rcases kind_shape h with h1 | ⟨h0, h1⟩
    · rcases h1 with rfl | rfl | rfl
      · exact ⟨123, [], rfl, by decide, by decide, by decide, rfl⟩
      · exact ⟨125, [], rfl, by decide, by decide, by decide, rfl⟩
      · exact ⟨59, [], rfl, by decide, by decide, by decide, rfl⟩
    · cases l with
      | nil => exact absurd rfl h0
      | cons c cs =>
        simp only [List.all_cons, Bool.and_eq_true] at h1
        have hc := h1.1
        refine ⟨c, cs, rfl, ?_, ?_, ?_, ?_⟩
        · rintro rfl; revert hc; decide
        · rintro rfl; revert hc; decide
        · rintro (rfl | rfl | rfl) <;> revert hc <;> decide
        · rw [tokLen, if_pos hc, runLen_all cs r h1.2]
  obtain ⟨c, cs, rfl, h35, h10, h3, ht⟩ := key
  rw [List.cons_append, lexL, if_neg h35, if_neg h10, if_neg h3, ht, List.take_left', List.drop_left', if_neg h]
  · rw [lexL_sp]
    rw [List.length_cons, show col + 1 + (cs.length : Int) + 1 = col + ((cs.length + 1 : Nat) : Int) + 1 from by omega]
  · rfl
  · rfl
theorem noteLen_free (note r : List UInt8) (h : ∀ x ∈ note, x ≠ 10) : noteLen (note ++ 10 :: r) = note.length := by
  induction note with
  | nil => simp [noteLen]
  | cons x note ih =>
    have hx := h x (by simp)
    have := ih fun y hy => h y (by simp [hy])
    simp only [noteLen, List.cons_append, List.takeWhile_cons] at this ⊢
    simp [hx, this]
theorem lex_note (note r : List UInt8) (line col : Int) (h : ∀ x ∈ note, x ≠ 10) : lexL (9 :: 35 :: (note ++ 10 :: r)) line col = lexL r (line + 1) 1 := by
  rw [lexL, if_neg (by decide), if_neg (by decide), if_pos (by decide), lexL, if_pos rfl, noteLen_free note r h, List.drop_left' rfl, lexL, if_neg (by decide), if_pos rfl]
def likeR (ts : List Tok) : Except (Int × Int) (List Tok) → Prop
  | .ok us => us.map (fun t => (t.kind, t.text)) = ts.map (fun t => (t.kind, t.text))
  | .error _ => False
theorem likeR_cons {t u : Tok} {ts : List Tok} {r : Except (Int × Int) (List Tok)} (h : likeR ts r) (hk : u.kind = t.kind) (ht : u.text = t.text) : likeR (t :: ts) (consR u r) := by
  cases r with
  | error e => exact h.elim
  | ok us =>
    have h : us.map (fun t => (t.kind, t.text)) = ts.map (fun t => (t.kind, t.text)) := h
    show (u :: us).map (fun t => (t.kind, t.text)) = (t :: ts).map (fun t => (t.kind, t.text))
    rw [List.map_cons, List.map_cons, h, hk, ht]
/-- the tokens of what was put together are the same ones, but for places -/
theorem lex_built (note : List UInt8) (hn : ∀ x ∈ note, x ≠ 10) (e : Tok) (he : e.kind = 0 ∧ e.text = ⟨#[]⟩) : ∀ (us : List Tok) (i : Nat) (line col : Int), (∀ t ∈ us, kindOf t.text.data.toList = t.kind ∧ t.kind ≠ 0) →
    likeR (us ++ [e]) (lexL (built note i (us ++ [e])) line col)
  | [], i, line, col, _ => by
    have h0 : built note i ([] ++ [e]) = 32 :: (if i % 3 = 0 then 9 :: 35 :: (note ++ 10 :: []) else []) := by
      simp [built, piece, he.2]
    rw [h0, lexL_sp]
    by_cases hi : i % 3 = 0
    · rw [if_pos hi, lex_note note [] _ _ hn, lexL]
      simp [likeR, he]
    · rw [if_neg hi, lexL]
      simp [likeR, he]
  | t :: us, i, line, col, h => by
    have ht := h t (by simp)
    have hk : kindOf t.text.data.toList ≠ 0 := by rw [ht.1]; exact ht.2
    have hs : built note i (t :: us ++ [e]) = t.text.data.toList ++ 32 :: ((if i % 3 = 0 then 9 :: 35 :: (note ++ [10]) else []) ++ built note (i + 1) (us ++ [e])) := by
      simp [built, piece]
    rw [hs, lex_tok _ _ _ _ hk]
    refine likeR_cons ?_ ht.1 (by simp)
    by_cases hi : i % 3 = 0
    · rw [if_pos hi]
      have e1 : 9 :: 35 :: (note ++ [10]) ++ built note (i + 1) (us ++ [e]) = 9 :: 35 :: (note ++ 10 :: built note (i + 1) (us ++ [e])) := by simp
      rw [e1, lex_note note _ _ _ hn]
      exact lex_built note hn e he us (i + 1) _ _ fun x hx => h x (by simp [hx])
    · rw [if_neg hi, List.nil_append]
      exact lex_built note hn e he us (i + 1) _ _ fun x hx => h x (by simp [hx])
theorem shape_ok : ∀ (n : Nat) (l : List UInt8) (line col : Int) (ts : List Tok), l.length ≤ n → lexL l line col = .ok ts → ∃ us e, ts = us ++ [e] ∧ (e.kind = 0 ∧ e.text = ⟨#[]⟩) ∧ ∀ t ∈ us, kindOf t.text.data.toList = t.kind ∧ t.kind ≠ 0 := by
  intro n
  induction n with
  | zero =>
    intro l line col ts hl h
    obtain rfl := List.length_eq_zero_iff.1 (Nat.le_zero.1 hl)
    rw [lexL] at h; injection h with h; subst h
    exact ⟨[], _, rfl, ⟨rfl, rfl⟩, by simp⟩
  | succ n ih =>
    intro l line col ts hl h
    cases l with
    | nil =>
      rw [lexL] at h; injection h with h; subst h
      exact ⟨[], _, rfl, ⟨rfl, rfl⟩, by simp⟩
    | cons c cs =>
      rw [List.length_cons] at hl
      rw [lexL] at h
      split at h
      · exact ih _ _ _ _ (by rw [List.length_drop]; omega) h
      · split at h
        · exact ih _ _ _ _ (by omega) h
        · split at h
          · exact ih _ _ _ _ (by omega) h
          · split at h
            · cases h
            · rename_i hk
              cases hr : lexL (cs.drop (tokLen c cs)) line (col + 1 + tokLen c cs) with
              | error e => rw [hr] at h; cases h
              | ok ts' =>
                rw [hr] at h
                injection h with h
                subst h
                obtain ⟨us, e, rfl, he, hu⟩ := ih _ _ _ _ (by rw [List.length_drop]; omega) hr
                refine ⟨_ :: us, e, rfl, he, fun t ht => ?_⟩
                rcases List.mem_cons.1 ht with rfl | ht
                · exact ⟨rfl, hk⟩
                · exact hu t ht
/-- what LexNotes hangs on -/
theorem all_built (l note : List UInt8) (hn : ∀ x ∈ note, x ≠ 10) {ts : List Tok} (h : lexL l 1 1 = .ok ts) (hl : (built note 0 ts).length ≤ 8192) :
    ∃ us, lexAll (built note 0 ts) = (us, 0, 0, 0) ∧ us.map (fun t => (t.kind, t.text)) = ts.map (fun t => (t.kind, t.text)) := by
  obtain ⟨us, e, rfl, he, hu⟩ := shape_ok _ l 1 1 ts (Nat.le_refl _) h
  have hb := lex_built note hn e he us 0 1 1 hu
  rw [lexAll, if_neg (by omega)]
  cases hr : lexL (built note 0 (us ++ [e])) 1 1 with
  | error p => rw [hr] at hb; exact hb.elim
  | ok vs =>
    rw [hr] at hb
    exact ⟨vs, rfl, hb⟩
end Go.Proofs.Ytapdepjkcbipaaa
