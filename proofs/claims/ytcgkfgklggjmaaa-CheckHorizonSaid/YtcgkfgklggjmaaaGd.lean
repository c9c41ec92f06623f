import Derived.Test.YtcgkfgklggjmaaaGc
import Derived.Lib.ItoaMem
import Derived.Lib.Repeat
import Derived.KernelRfl
import Derived.Lib.IndexMore
import Derived.Lib.ItoaLen
import Derived.Lib.AtoiAllCases
import Derived.Test.YtcgkfgklggjmaaaShelf
import Derived.Lib.SmallJoins
section
namespace Go.Proofs.Ytcgkfgklggjmaaa.Par
set_option linter.unusedVariables false
set_option linter.unusedSimpArgs false
/-! the items of a text behind those of another one -/
theorem lex_live : ∀ (n : Nat) (l : List UInt8) (line col : Int) (ts : List Tok), l.length ≤ n → lexL l line col = .ok ts → ∃ us e, ts = us ++ [e] ∧ e.kind = 0 ∧ ∀ x ∈ us, x.kind ≠ 0 := by
  intro n
  induction n with
  | zero =>
    intro l line col ts hn h
    obtain rfl : l = [] := List.eq_nil_of_length_eq_zero (by omega)
    rw [lexL] at h
    injection h with h
    subst h
    exact ⟨[], _, rfl, rfl, fun x hx => by cases hx⟩
  | succ n ih =>
    intro l line col ts hn h
    cases l with
    | nil =>
      rw [lexL] at h
      injection h with h
      subst h
      exact ⟨[], _, rfl, rfl, fun x hx => by cases hx⟩
    | cons c cs =>
      rw [lexL] at h
      rw [List.length_cons] at hn
      split at h
      · exact ih _ _ _ _ (by rw [List.length_drop]; omega) h
      · split at h
        · exact ih _ _ _ _ (by omega) h
        · split at h
          · exact ih _ _ _ _ (by omega) h
          · split at h
            · cases h
            · rename_i hk
              cases hr : lexL (cs.drop (tokLen c cs)) line (col + 1 + tokLen c cs) with
              | error e => rw [hr] at h; cases h
              | ok ts' =>
                rw [hr] at h
                injection h with h
                subst h
                obtain ⟨us, e, rfl, he, hx⟩ := ih _ _ _ _ (by rw [List.length_drop]; omega) hr
                refine ⟨_ :: us, e, rfl, he, fun x hm => ?_⟩
                rcases List.mem_cons.1 hm with rfl | hm
                · exact hk
                · exact hx x hm
theorem als_self : ∀ (l : List Tok), (∀ x ∈ l, x.kind ≠ 0) → Als l l
  | [], _ => trivial
  | x :: l, h => ⟨⟨rfl, rfl, h x (by simp)⟩, als_self l fun y hy => h y (by simp [hy])⟩
theorem als_down (a b : Int) : ∀ (l : List Tok), (∀ x ∈ l, x.kind ≠ 0) → Als (l.map (downT a)) (l.map (downT b))
  | [], _ => trivial
  | x :: l, h => ⟨⟨rfl, rfl, h x (by simp)⟩, als_down a b l fun y hy => h y (by simp [hy])⟩
theorem rowT_strip (p : Plan) : rowT (strip p) = rowT p := by
  unfold rowT headT strip
  simp only [List.length_map, List.flatMap_map]
  rfl
theorem strip_none {p q : Plan} (h : strip p = strip q) (hm : q.mets = []) (hf : q.fees = []) (hc : q.chgs = []) : p.mets = [] ∧ p.fees = [] ∧ p.chgs = [] := by
  have h1 := congrArg Plan.mets h
  have h2 := congrArg Plan.fees h
  have h3 := congrArg Plan.chgs h
  simp only [strip, hm, hf, hc, List.map_nil, List.map_eq_nil_iff] at h1 h2 h3
  exact ⟨h1, h2, h3⟩
theorem adds_none (b : Plan) {p : Plan} (h : p.mets = [] ∧ p.fees = [] ∧ p.chgs = []) : adds b p = b := by
  unfold adds; rw [h.1, h.2.1, h.2.2, List.append_nil, List.append_nil, List.append_nil]
theorem small_strip {p q : Plan} (h : strip p = strip q) (hs : Small p) : Small q := by
  have h1 := congrArg (fun x => x.mets.length) h
  have h2 := congrArg (fun x => x.fees.length) h
  have h3 := congrArg (fun x => x.chgs.length) h
  have h4 := congrArg Plan.chgs h
  simp only [strip, List.length_map] at h1 h2 h3
  refine ⟨h1 ▸ hs.mets, h2 ▸ hs.fees, h3 ▸ hs.chgs, fun c hc => ?_, fun c hc => ?_⟩
  · have hm : sC c ∈ (strip p).chgs := by rw [h4]; exact List.mem_map_of_mem hc
    obtain ⟨d, hd, he⟩ := List.mem_map.1 hm
    have := congrArg Chg.tiers he
    simp only [sC] at this
    exact this ▸ hs.tiers d hd
  · have hm : sC c ∈ (strip p).chgs := by rw [h4]; exact List.mem_map_of_mem hc
    obtain ⟨d, hd, he⟩ := List.mem_map.1 hm
    have := congrArg Chg.adjs he
    simp only [sC] at this
    exact this ▸ hs.adjs d hd
/-- a text that is parsed, and another one behind it: its plan, and the items of the tokens behind -/
theorem join_items {us vs : List Tok} {e : Tok} (he : e.kind = 0) (hu : ∀ x ∈ us, x.kind ≠ 0) (h0 : (P.plan dp npV (us ++ [e])).2.err = 0) :
    ∃ q r, r.err = 0 ∧ r.rest = vs ∧ strip q = strip (P.plan dp npV (us ++ [e])).1 ∧ P.plan dp npV (us ++ vs) = P.itemsAll dp npV q r := by
  have h := plan_cut dp npV (T := ⟨true, e, vs⟩) ⟨he, fun c => by cases c⟩ (als_self us hu)
  rcases h with h | h | ⟨_, _, q, r, h1, h2, h3, h4⟩
  · exact absurd h0 h.bad
  · exact absurd h0 h.1
  · exact ⟨q, r, h1, h2, h3, h4⟩
theorem n_plan : P.plan dp npV (nUs ++ [⟨0, ⟨#[]⟩, 1, 50⟩]) = (nHead, ⟨[⟨0, ⟨#[]⟩, 1, 50⟩], 0, 0, 0⟩) := by kernel_rfl
theorem n_live : ∀ x ∈ nUs, x.kind ≠ 0 := by decide
theorem items_join {us ws : List Tok} {e z : Tok} (d d' : Int) (he : e.kind = 0) (hz : z.kind = 0) (hu : ∀ x ∈ us, x.kind ≠ 0) (hw : ∀ x ∈ ws, x.kind ≠ 0) (h0 : (P.plan dp npV (us ++ [e])).2.err = 0) :
    (P.plan dp npV (nUs ++ (ws ++ [z]).map (downT d))).2.err = (P.plan dp npV (us ++ (ws ++ [z]).map (downT d'))).2.err ∧
    ((P.plan dp npV (nUs ++ (ws ++ [z]).map (downT d))).2.err = 0 → strip (P.plan dp npV (us ++ (ws ++ [z]).map (downT d'))).1 = strip (adds (P.plan dp npV (us ++ [e])).1 (P.plan dp npV (nUs ++ (ws ++ [z]).map (downT d))).1)) := by
  obtain ⟨q1, r1, a1, a2, a3, a4⟩ := join_items (vs := (ws ++ [z]).map (downT d)) (e := ⟨0, ⟨#[]⟩, 1, 50⟩) rfl n_live (by rw [n_plan])
  obtain ⟨q2, r2, b1, b2, b3, b4⟩ := join_items (vs := (ws ++ [z]).map (downT d')) he hu h0
  rw [n_plan] at a3
  rw [a4, b4]
  have hl : Loc ⟨false, downT d z, [downT d' z]⟩ r1 r2 := ⟨a1, b1, _, _, by rw [a2, List.map_append]; rfl, by rw [b2, List.map_append]; rfl, als_down d d' ws hw⟩
  refine items_alike dp npV ⟨hz, fun _ => ⟨downT d' z, rfl, hz⟩⟩ rfl _ _ _ _ _ _ (Nat.le_refl _) hl ?_
  rw [b3, adds_none _ (strip_none a3 rfl rfl rfl)]
/-- what is said of a text without a fault -/
theorem RParse_zero {l : List UInt8} (h : (RParse l).2.1 = 0) : (RParse l).2.2.1 = 0 ∧ (RParse l).2.2.2 = 0 ∧ ∃ ts a b, lexAll l = (ts, 0, a, b) ∧ (P.plan dp npV ts).2.err = 0 ∧ (RParse l).1 = (P.plan dp npV ts).1 := by
  obtain ⟨ts, er, a, b, hall⟩ : ∃ ts er a b, lexAll l = (ts, er, a, b) := ⟨_, _, _, _, rfl⟩
  by_cases her : er = 0
  · subst her
    by_cases h0 : (P.plan dp npV ts).2.err = 0
    · rw [PParse_ok hall h0]
      exact ⟨rfl, rfl, ts, a, b, hall, h0, rfl⟩
    · rw [PParse_bad hall h0] at h; exact absurd h h0
  · rw [RParse_lex hall her] at h; exact absurd h her
theorem join_text {l m : List UInt8} {us : List Tok} {e : Tok} (ha : lexL l 1 1 = .ok (us ++ [e])) (hl : (l ++ 10 :: m).length ≤ 8192) :
    (∃ ts, lexL m 1 1 = .ok ts ∧ lexAll (l ++ 10 :: m) = (us ++ ts.map (downT e.line), 0, 0, 0)) ∨ (∃ p q, lexL m 1 1 = .error (p, q) ∧ lexAll (l ++ 10 :: m) = ([], 3, p + e.line, q)) := by
  have hj := all_join_ok (b := m) ha hl
  cases hm : lexL m 1 1 with
  | ok ts =>
    refine .inl ⟨ts, rfl, ?_⟩
    rw [hm] at hj
    unfold lexAll
    rw [if_neg (by omega), hj]
    rfl
  | error x =>
    refine .inr ⟨x.1, x.2, rfl, ?_⟩
    rw [hm] at hj
    unfold lexAll
    rw [if_neg (by omega), hj]
    rfl
theorem items_plain (a more : List UInt8) (ha : a.length ≤ 4096) (hm : more.length ≤ 2048) (h0 : (RParse a).2.1 = 0) :
    ((RParse (nPre ++ 10 :: more)).2.1 = (RParse (a ++ 10 :: more)).2.1) ∧
    ((RParse (nPre ++ 10 :: more)).2.1 = 0 → strip (RParse (a ++ 10 :: more)).1 = strip (adds (RParse a).1 (RParse (nPre ++ 10 :: more)).1)) := by
  obtain ⟨_, _, ts, p, q, hall, he0, hpl⟩ := RParse_zero h0
  rcases all_cases a (by omega) with ⟨us, e, h1, h2⟩ | ⟨_, _, _, h2⟩
  · rw [h2] at hall
    injection hall with hall _
    subst hall
    obtain ⟨us', e', h3, hek, hul⟩ := lex_live _ a 1 1 _ (Nat.le_refl _) h1
    obtain ⟨h4, h5⟩ := List.append_inj' h3 rfl
    obtain rfl := h4
    injection h5 with h5
    obtain rfl := h5
    have hn : nPre.length = 49 := rfl
    have l1 : (nPre ++ 10 :: more).length ≤ 8192 := by rw [List.length_append, List.length_cons]; omega
    have l2 : (a ++ 10 :: more).length ≤ 8192 := by rw [List.length_append, List.length_cons]; omega
    rcases join_text (m := more) n_pre l1 with ⟨vs, j1, j2⟩ | ⟨x, y, j1, j2⟩
    · rcases join_text (m := more) h1 l2 with ⟨vs', k1, k2⟩ | ⟨x, y, k1, k2⟩
      · rw [j1] at k1
        injection k1 with k1
        subst k1
        obtain ⟨ws, z, rfl, hz, hw⟩ := lex_live _ more 1 1 _ (Nat.le_refl _) j1
        have hj := items_join 1 e.line hek hz hul hw he0
        have j3 : lexAll (nPre ++ 10 :: more) = (nUs ++ (ws ++ [z]).map (downT 1), 0, 0, 0) := j2
        rw [hpl]
        clear j2
        generalize nUs ++ (ws ++ [z]).map (downT 1) = A at *
        generalize us ++ (ws ++ [z]).map (downT e.line) = B at *
        obtain ⟨hj1, hj2⟩ := hj
        by_cases h6 : (P.plan dp npV A).2.err = 0
        · have h7 : (P.plan dp npV B).2.err = 0 := hj1.symm.trans h6
          rw [PParse_ok j3 h6, PParse_ok k2 h7]
          exact ⟨rfl, fun _ => hj2 h6⟩
        · have h7 : (P.plan dp npV B).2.err ≠ 0 := fun c => h6 (hj1.trans c)
          rw [PParse_bad j3 h6, PParse_bad k2 h7]
          exact ⟨hj1, fun c => absurd c h6⟩
      · rw [j1] at k1; cases k1
    · rcases join_text (m := more) h1 l2 with ⟨vs', k1, k2⟩ | ⟨x', y', k1, k2⟩
      · rw [j1] at k1; cases k1
      · rw [RParse_lex j2 (by decide), RParse_lex k2 (by decide)]
        exact ⟨rfl, fun c => absurd (show (3 : Int) = 0 from c) (by decide)⟩
  · rw [h2] at hall
    injection hall with _ hall
    injection hall with hall _
    cases hall
end Go.Proofs.Ytcgkfgklggjmaaa.Par
end
section
namespace Go.Proofs.Ytcgkfgklggjmaaa
set_option linter.unusedVariables false
set_option linter.unusedSimpArgs false
/-! numbers of days: plain words -/
def lp (y : Int) : Int := if leapB y then 1 else 0
def dby (y : Int) : Int := 365 * (y - 1) + (y - 1) / 4 - (y - 1) / 100 + (y - 1) / 400
def cum (y m : Int) : Int :=
  if m ≤ 1 then 0 else if m = 2 then 31 else if m = 3 then 59 + lp y else if m = 4 then 90 + lp y else if m = 5 then 120 + lp y else if m = 6 then 151 + lp y
  else if m = 7 then 181 + lp y else if m = 8 then 212 + lp y else if m = 9 then 243 + lp y else if m = 10 then 273 + lp y else if m = 11 then 304 + lp y else if m = 12 then 334 + lp y else 365 + lp y
def numD (y m d : Int) : Int := dby y + cum y m + d - 1
theorem lp_01 (y : Int) : 0 ≤ lp y ∧ lp y ≤ 1 := by unfold lp; split <;> omega
theorem lp_is (y : Int) : (lp y = 1 ∧ y % 4 = 0 ∧ (y % 100 ≠ 0 ∨ y % 400 = 0)) ∨ (lp y = 0 ∧ (y % 4 ≠ 0 ∨ (y % 100 = 0 ∧ y % 400 ≠ 0))) := by
  unfold lp
  cases h : leapB y with
  | true =>
    left
    simp [leapB] at h
    refine ⟨by simp, h.1, h.2⟩
  | false =>
    right
    refine ⟨by simp, ?_⟩
    by_cases h4 : y % 4 = 0
    · right
      by_cases h1 : y % 100 = 0
      · by_cases h2 : y % 400 = 0
        · rw [leap_400 y h2] at h; cases h
        · exact ⟨h1, h2⟩
      · by_cases h2 : y % 400 = 0
        · rw [leap_400 y h2] at h; cases h
        · rw [leap_ref y h2 h1] at h; simp [h4] at h
    · exact .inl h4
theorem dby_succ (y : Int) : dby (y + 1) = dby y + 365 + lp y := by
  have h := lp_is y
  unfold dby
  rcases h with ⟨h0, h1, h2⟩ | ⟨h0, h1⟩ <;> rw [h0] <;> omega
theorem dby_mono (a b : Int) (h : a ≤ b) : dby a ≤ dby b := by unfold dby; omega
theorem dby_lt (a b : Int) (h : a < b) : dby a + 365 ≤ dby b := by
  have h1 := dby_succ a
  have h2 := dby_mono (a + 1) b (by omega)
  have h3 := lp_01 a
  omega
theorem dby_bd (y : Int) (h1 : 1 ≤ y) (h2 : y ≤ 10000) : 0 ≤ dby y ∧ dby y ≤ 3652059 := by unfold dby; omega
theorem dby_one : dby 1 = 0 := by decide
theorem dby_end : dby 10000 = 3652059 := by decide
theorem cum_succ (y m : Int) (h1 : 1 ≤ m) (h2 : m ≤ 12) : cum y (m + 1) = cum y m + daysI y m := by
  rcases (by omega : m = 1 ∨ m = 2 ∨ m = 3 ∨ m = 4 ∨ m = 5 ∨ m = 6 ∨ m = 7 ∨ m = 8 ∨ m = 9 ∨ m = 10 ∨ m = 11 ∨ m = 12) with rfl | rfl | rfl | rfl | rfl | rfl | rfl | rfl | rfl | rfl | rfl | rfl
  all_goals
    simp [cum, daysI, lp]
    try (split <;> omega)
theorem cum_one (y : Int) : cum y 1 = 0 := by simp [cum]
theorem cum_end (y : Int) : cum y 13 = 365 + lp y := by simp [cum]
theorem cum_bd (y m : Int) : 0 ≤ cum y m ∧ cum y m ≤ 366 := by
  have hl := lp_01 y
  unfold cum
  generalize lp y = l at *
  by_cases h1 : m ≤ 1
  · rw [if_pos h1]; omega
  rw [if_neg h1]
  by_cases h2 : m = 2
  · rw [if_pos h2]; omega
  rw [if_neg h2]
  by_cases h3 : m = 3
  · rw [if_pos h3]; omega
  rw [if_neg h3]
  by_cases h4 : m = 4
  · rw [if_pos h4]; omega
  rw [if_neg h4]
  by_cases h5 : m = 5
  · rw [if_pos h5]; omega
  rw [if_neg h5]
  by_cases h6 : m = 6
  · rw [if_pos h6]; omega
  rw [if_neg h6]
  by_cases h7 : m = 7
  · rw [if_pos h7]; omega
  rw [if_neg h7]
  by_cases h8 : m = 8
  · rw [if_pos h8]; omega
  rw [if_neg h8]
  by_cases h9 : m = 9
  · rw [if_pos h9]; omega
  rw [if_neg h9]
  by_cases h10 : m = 10
  · rw [if_pos h10]; omega
  rw [if_neg h10]
  by_cases h11 : m = 11
  · rw [if_pos h11]; omega
  rw [if_neg h11]
  by_cases h12 : m = 12
  · rw [if_pos h12]; omega
  rw [if_neg h12]; omega
theorem cum_step (y a : Int) (h0 : 1 ≤ a) : ∀ (k : Nat), a + k ≤ 13 → cum y a ≤ cum y (a + k)
  | 0, _ => by simp
  | k + 1, h => by
    have ih := cum_step y a h0 k (by omega)
    have h1 := cum_succ y (a + k) (by omega) (by omega)
    have h2 := days_bd y (a + k)
    rw [show a + ((k + 1 : Nat) : Int) = a + k + 1 from by omega]
    omega
theorem cum_mono (y a b : Int) (h0 : 1 ≤ a) (h : a ≤ b) (h2 : b ≤ 13) : cum y a ≤ cum y b := by
  have := cum_step y a h0 (b - a).toNat (by omega)
  rwa [show a + ((b - a).toNat : Int) = b from by omega] at this
theorem cum_lt (y a b : Int) (h0 : 1 ≤ a) (h : a < b) (h2 : b ≤ 13) : cum y a + daysI y a ≤ cum y b := by
  have h1 := cum_succ y a h0 (by omega)
  have h2 := cum_mono y (a + 1) b (by omega) (by omega) h2
  omega
theorem num_in_year {y m d : Int} (h : goodB y m d = true) : dby y ≤ numD y m d ∧ numD y m d < dby (y + 1) := by
  obtain ⟨h1, h2, h3, h4, h5, h6, _⟩ := good_of h
  have c1 := cum_bd y m
  have c2 := cum_succ y m h5 h6
  have c3 := cum_mono y (m + 1) 13 (by omega) (by omega) (by omega)
  have c4 := cum_end y
  have c5 := dby_succ y
  unfold numD
  omega
theorem num_bd {y m d : Int} (h : goodB y m d = true) : 0 ≤ numD y m d ∧ numD y m d < 3652059 := by
  have h1 := num_in_year h
  obtain ⟨h2, h3, _⟩ := good_of h
  have h4 := dby_bd y h2 (by omega)
  have h5 := dby_mono (y + 1) 10000 (by omega)
  rw [dby_end] at h5
  omega
/-- a later day has a greater number -/
theorem num_lt {y m d y' m' d' : Int} (h : goodB y m d = true) (h' : goodB y' m' d' = true) (hl : y < y' ∨ (y = y' ∧ (m < m' ∨ (m = m' ∧ d < d')))) : numD y m d < numD y' m' d' := by
  rcases hl with hl | ⟨rfl, hl⟩
  · have h1 := num_in_year h
    have h2 := num_in_year h'
    have h3 := dby_mono (y + 1) y' (by omega)
    omega
  · obtain ⟨a1, a2, a3, a4, a5, a6, _⟩ := good_of h
    obtain ⟨b1, b2, b3, b4, b5, b6, _⟩ := good_of h'
    rcases hl with hl | ⟨rfl, hl⟩
    · have := cum_lt y m m' a5 hl (by omega)
      unfold numD; omega
    · unfold numD; omega
theorem num_inj {y m d y' m' d' : Int} (h : goodB y m d = true) (h' : goodB y' m' d' = true) (he : numD y m d = numD y' m' d') : y = y' ∧ m = m' ∧ d = d' := by
  have h1 := fun hl => num_lt h h' hl
  have h2 := fun hl => num_lt h' h hl
  refine Classical.byContradiction fun hc => ?_
  rcases (by omega : (y < y' ∨ (y = y' ∧ (m < m' ∨ (m = m' ∧ d < d')))) ∨ (y' < y ∨ (y' = y ∧ (m' < m ∨ (m' = m ∧ d' < d))))) with hl | hl
  · have := h1 hl; omega
  · have := h2 hl; omega
end Go.Proofs.Ytcgkfgklggjmaaa
end
section
namespace Go.Proofs.Ytcgkfgklggjmaaa
set_option linter.unusedVariables false
set_option linter.unusedSimpArgs false
/-! a number of so many digits; a day's text -/
def digL (n : Nat) : Nat → List UInt8
  | 0 => []
  | k + 1 => digL (n / 10) k ++ [UInt8.ofNat (48 + n % 10)]
theorem digL_len : ∀ (k n : Nat), (digL n k).length = k
  | 0, _ => rfl
  | k + 1, n => by simp [digL, digL_len k]
theorem digL_zero : ∀ k, digL 0 k = List.replicate k 48
  | 0 => rfl
  | k + 1 => by
    rw [digL, Nat.zero_div, digL_zero k, List.replicate_succ']
    rfl
theorem pad_eq : ∀ (k n : Nat), n < 10 ^ k → 1 ≤ k → (Lib.decDigits n).length ≤ k ∧ List.replicate (k - (Lib.decDigits n).length) 48 ++ Lib.decDigits n = digL n k
  | 0, _, _, h => absurd h (by omega)
  | k + 1, n, h, _ => by
    by_cases h10 : n < 10
    · rw [Lib.decDigits_one h10, digL, Nat.div_eq_of_lt h10, digL_zero, Nat.mod_eq_of_lt h10]
      exact ⟨by simp, by simp⟩
    · have hk : 1 ≤ k := by
        cases k with
        | zero => simp at h; omega
        | succ k => omega
      obtain ⟨h1, h2⟩ := pad_eq k (n / 10) (by rw [Nat.pow_succ] at h; omega) hk
      rw [Lib.decDigits, dif_neg h10, digL, ← h2]
      refine ⟨by simp; exact h1, ?_⟩
      rw [List.length_append, List.length_singleton, show k + 1 - ((Lib.decDigits (n / 10)).length + 1) = k - (Lib.decDigits (n / 10)).length from by omega, List.append_assoc]
/-- a good day's text -/
def dayL (y m d : Int) : List UInt8 := digL y.toNat 4 ++ 45 :: (digL m.toNat 2 ++ 45 :: digL d.toNat 2)
def textL (y m d : Int) : List UInt8 := if goodB y m d then dayL y m d else []
theorem dayL_len (y m d : Int) : (dayL y m d).length = 10 := by simp [dayL, digL_len]
end Go.Proofs.Ytcgkfgklggjmaaa
end
section
namespace Go.Proofs.Ytcgkfgklggjmaaa.Par
set_option linter.unusedVariables false
set_option linter.unusedSimpArgs false
/-! a plan's plain text, as bytes -/
def modeL (m : Int) : List UInt8 := if m = 0 then [102, 108, 111, 111, 114] else if m = 1 then [99, 101, 105, 108] else if m = 2 then [104, 97, 108, 102, 117, 112] else if m = 3 then [104, 97, 108, 102, 101, 118, 101, 110] else []
def dayT (d : Day) : List UInt8 := textL d.1 d.2.1 d.2.2
def digT (n : Int) : List UInt8 := Lib.decDigits n.toNat
def winL (w : Win) : List UInt8 := if w.has = true then [32, 102, 114, 111, 109, 32] ++ dayT w.from_ ++ [32, 116, 111, 32] ++ dayT w.to_ else []
def metL (m : Met) : List UInt8 := [109, 101, 116, 101, 114, 32] ++ m.name.data.toList ++ [32, 117, 110, 105, 116, 32] ++ m.unit.data.toList ++ [32, 109, 97, 120, 32] ++ digT m.max ++ [59, 10]
def feeL (f : Fee) : List UInt8 := [102, 101, 101, 32] ++ digT f.amount ++ winL f.win ++ [59, 10]
def tierL (last : Bool) (t : Tier) : List UInt8 := (if last = true then [9, 9, 114, 101, 115, 116, 32, 114, 97, 116, 101, 32] else [9, 9, 117, 112, 116, 111, 32] ++ digT t.upto ++ [32, 114, 97, 116, 101, 32]) ++ Dec.textL t.rate 6 ++ [59, 10]
/-- the first k of n tiers -/
def tiersL (ts : List Tier) (k : Nat) : List UInt8 := ((List.range k).map fun i => match ts[i]? with | some t => tierL (decide (i + 1 = ts.length)) t | none => []).flatten
def adjL (a : Adj) : List UInt8 :=
  if a.kind = 1 then [9, 112, 101, 114, 99, 101, 110, 116, 32] ++ Dec.textL a.n 3 ++ 32 :: (modeL a.mode ++ [59, 10])
  else if a.kind = 2 then [9, 99, 97, 112, 32] ++ digT a.n ++ [59, 10]
  else if a.kind = 3 then [9, 109, 105, 110, 105, 109, 117, 109, 32] ++ digT a.n ++ [59, 10]
  else if a.kind = 4 then [9, 97, 100, 100, 32] ++ digT a.n ++ [59, 10] else []
def chg1L (c : Chg) : List UInt8 := [99, 104, 97, 114, 103, 101, 32] ++ c.meter.data.toList ++ winL c.win ++ [32, 123, 10]
def alwL (c : Chg) : List UInt8 := if c.allow ≠ 0 then [9, 97, 108, 108, 111, 119, 97, 110, 99, 101, 32] ++ digT c.allow ++ [59, 10] else []
def blkL (c : Chg) : List UInt8 := if c.block ≠ 1 then [9, 98, 108, 111, 99, 107, 32] ++ digT c.block ++ [59, 10] else []
def kindL (c : Chg) : List UInt8 := if c.kind = 2 then [9, 118, 111, 108, 117, 109, 101, 32, 123, 10] else [9, 103, 114, 97, 100, 117, 97, 116, 101, 100, 32, 123, 10]
def rndL (c : Chg) : List UInt8 := [9, 125, 10, 9, 114, 111, 117, 110, 100, 32] ++ modeL c.mode ++ [59, 10]
def chgL (c : Chg) : List UInt8 := chg1L c ++ alwL c ++ blkL c ++ kindL c ++ tiersL c.tiers c.tiers.length ++ rndL c ++ c.adjs.flatMap adjL ++ [125, 10]
def headL (p : Plan) : List UInt8 := [112, 108, 97, 110, 32] ++ p.name.data.toList ++ [32, 99, 117, 114, 114, 101, 110, 99, 121, 32] ++ p.cur.data.toList ++ [59, 10, 104, 111, 114, 105, 122, 111, 110, 32] ++ dayT p.from_ ++ 32 :: (dayT p.to_ ++ [59, 10])
def planL (p : Plan) : List UInt8 := headL p ++ p.mets.flatMap metL ++ p.fees.flatMap feeL ++ p.chgs.flatMap chgL
theorem tiersL_succ {ts : List Tier} {k : Nat} {t : Tier} (h : ts[k]? = some t) : tiersL ts (k + 1) = tiersL ts k ++ tierL (decide (k + 1 = ts.length)) t := by
  unfold tiersL
  rw [List.range_succ, List.map_append, List.flatten_append]
  simp [h]
theorem flat_next {α : Type} (f : α → List UInt8) {l : List α} {k : Nat} {a : α} (h : l[k]? = some a) : (l.take (k + 1)).flatMap f = (l.take k).flatMap f ++ f a := by
  rw [List.take_add_one, List.flatMap_append, h]
  simp
/-- what the numbers of a plan are, so that its text can be told -/
structure NumP (p : Plan) : Prop where
  mets : ∀ m ∈ p.mets, 0 ≤ m.max ∧ m.max ≤ 2000
  fees : ∀ f ∈ p.fees, 0 ≤ f.amount ∧ f.amount ≤ 1000000000000
  chgs : ∀ c ∈ p.chgs, (0 ≤ c.allow ∧ c.allow ≤ 1000000) ∧ (0 ≤ c.block ∧ c.block ≤ 1000000) ∧ (∀ t ∈ c.tiers, (0 ≤ t.upto ∧ t.upto ≤ 1000000) ∧ (0 ≤ t.rate ∧ t.rate ≤ 1000000000000)) ∧ (∀ a ∈ c.adjs, 0 ≤ a.n ∧ a.n ≤ 1000000000000)
end Go.Proofs.Ytcgkfgklggjmaaa.Par
end
section
namespace Go.Proofs.Ytcgkfgklggjmaaa
set_option linter.unusedVariables false
set_option linter.unusedSimpArgs false
open Go.RowKit
theorem lexL_note (cs : List UInt8) (line col : Int) : lexL (35 :: cs) line col = lexL (cs.drop (noteLen cs)) line (col + 1 + noteLen cs) := by rw [lexL, if_pos rfl]
theorem lexL_nl (cs : List UInt8) (line col : Int) : lexL (10 :: cs) line col = lexL cs (line + 1) 1 := by rw [lexL, if_neg (by decide), if_pos rfl]
theorem lexL_bl (c : UInt8) (cs : List UInt8) (line col : Int) (h : c = 32 ∨ c = 9 ∨ c = 13) : lexL (c :: cs) line col = lexL cs line (col + 1) := by
  have h1 : c ≠ 35 := by rcases h with rfl | rfl | rfl <;> decide
  have h2 : c ≠ 10 := by rcases h with rfl | rfl | rfl <;> decide
  rw [lexL, if_neg h1, if_neg h2, if_pos h]
theorem lexL_tok (c : UInt8) (cs : List UInt8) (line col : Int) (h1 : c ≠ 35) (h2 : c ≠ 10) (h3 : ¬ (c = 32 ∨ c = 9 ∨ c = 13)) :
    lexL (c :: cs) line col = if kindOf (c :: cs.take (tokLen c cs)) = 0 then .error (line, col) else consR ⟨kindOf (c :: cs.take (tokLen c cs)), ⟨(c :: cs.take (tokLen c cs)).toArray⟩, line, col⟩ (lexL (cs.drop (tokLen c cs)) line (col + 1 + tokLen c cs)) := by
  rw [lexL, if_neg h1, if_neg h2, if_neg h3]
theorem noteLen_step (s : ByteArray) (k : Nat) (h : k < s.size) (hc : s[k] ≠ 10) : noteLen (s.data.toList.drop k) = 1 + noteLen (s.data.toList.drop (k + 1)) := by
  rw [drop_at s k h, noteLen, List.takeWhile_cons, if_pos (by simpa using hc)]; simp [noteLen]; omega
theorem noteLen_stop (s : ByteArray) (k : Nat) (h : k < s.size) (hc : s[k] = 10) : noteLen (s.data.toList.drop k) = 0 := by
  rw [drop_at s k h, noteLen, List.takeWhile_cons, if_neg (by simp [hc])]; rfl
def lexRR (v : Value) (er l c : Int) : Value := .tuple #[v, .int .i64 er, .int .i64 l, .int .i64 c]
theorem rtokInfo : (Try.prog.info? 77).map (fun i => (i.zero, i.size, i.bytes)) = some (some (.agg #[.int .i64 0, .string ⟨#[]⟩, .int .i64 0, .int .i64 0]), 4, 40) := by kernel_rfl
theorem results_tmp4 {fn : Func} {t u v x : Tmp} (h : fn.results = #[.tmp t, .tmp u, .tmp v, .tmp x]) (tmps : Array Value) (P : Program) (w : World) :
    (results fn tmps).run P w = .ok (.tuple #[tmps.getD t undef, tmps.getD u undef, tmps.getD v undef, tmps.getD x undef]) w := by simp [results, h]
set_option maxHeartbeats 4000000 in
set_option maxRecDepth 100000 in
theorem rlex_any (s : ByteArray) (w : World) (hs : s.size ≤ 9223372036854775807) :
    Calls Try.prog 30 #[.string s] w (LexOut 77 s w lexRR) := by
  have hlen : s.data.toList.length = s.size := by simp
  have HLEN := Lib.hid hlen
  clear hlen
  by_cases hbig : 8192 < s.size
  · have HA : Hid (lexAll s.data.toList = ([], 6, 1, 1)) := by
      show _ = _
      rw [lexAll, if_pos (by rw [HLEN.out]; exact hbig)]
    go_enter Try.func30, Try.ntmps30
    go_wp2
    refine bodyPost_ret (results_tmp4 rfl _ _ _) rfl ?_
    exact ⟨.slice none 0 0, [], 6, 1, 1, rfl, World.ownsRow_nil _ _ _ _, bl_refl _, HA.out⟩
  · obtain ⟨i0, hi0, hz0, hz1, hz2⟩ := info_parts rtokInfo
    go_enter Try.func30, Try.ntmps30
    go_wp2_with fail
    go_loopw [6, 7, 8, 9] (fun v6 v7 v8 v9 wr => ∃ (ts : List Tok) (a : Nat) (line col : Int), a ≤ s.size ∧ 0 ≤ line ∧ line ≤ a + 1 ∧ 0 ≤ col ∧ col ≤ a + 1 ∧ v7 = .int .i64 line ∧ v8 = .int .i64 col ∧ v9 = .int .i64 a ∧
      wr.ownsRow w.heap.size 77 4 v6 ts.length (toksCells ts) ∧ ts.length ≤ a ∧ Below w.heap.size w wr ∧ Hid (LexIn s.data.toList ts a line col)) (fun _ _ _ v9 _ => s.size - (intOf v9).toNat)
    case atStart => exact ⟨[], 0, 1, 1, by omega, by omega, by omega, by omega, by omega, rfl, rfl, rfl, World.ownsRow_nil _ _ _ _, Nat.le_refl _, bl_refl _, by simp [Hid, LexIn, preR_nil]⟩
    case round =>
      obtain ⟨ts, a, line, col, ha, l1, l2, c1, c2, rfl, rfl, rfl, hown, hts, hbw, HI⟩ := hrel
      have hlw := hbw.size
      by_cases hend : s.size ≤ a
      · obtain rfl : a = s.size := by omega
        have HR : Hid (lexAll s.data.toList = (ts ++ [⟨0, ⟨#[]⟩, line, col⟩], 0, 0, 0)) := by
          have h := HI.out
          unfold LexIn at h
          rw [drop_end, lexL] at h
          show _ = _
          rw [lexAll, if_neg (by rw [HLEN.out]; exact hbig), h]; rfl
        clear HI
        go_wp2_with (at_builtin; refine wpList_append_own _ rfl _ _ 70 rfl w.heap.size 77 i0 _ 4 40 Try.underlying70 hi0 hz0 hz1 hz2 rfl (by decide) _ _ _ rfl (hown.alloc _) ⟨wr.heap.size, 0, none⟩ 1 1 [.int .i64 0, .string ⟨#[]⟩, .int .i64 line, .int .i64 col] rfl rfl (World.news_of_block (cs := #[.int .i64 0, .string ⟨#[]⟩, .int .i64 line, .int .i64 col]) (t := 77) (fr := (0, 0)) (heap_alloc_new _ _)) (by simp [Value.oneCell']) (by unfold maxLen; omega) (by omega) (by simp; omega) ?_; intro v1 w1 hown1 hgrow1 hnil1)
        refine bodyPost_ret (results_tmp4 rfl _ _ _) rfl ?_
        refine ⟨v1, ts ++ [⟨0, ⟨#[]⟩, line, col⟩], 0, 0, 0, rfl, ?_, ?_, HR.out⟩
        · rw [toks_snoc, List.length_append]
          exact hown1
        · exact bl_grown (bl_alloc hbw _) hgrow1 (fun k hk => (hown.lt _ hk).1)
      · have hlt : a < s.size := by omega
        have hdr := drop_at s a hlt
        have HD := Lib.hid hdr
        have hcl := (s[a]'hlt).toNat_lt
        clear hdr
        by_cases h35 : s[a]'hlt = 35
        · have hb : (((s[a]'hlt).toNat : Int) == 35) = true := by rw [h35]; rfl
          have hb10 : (((s[a]'hlt).toNat : Int) == 10) = false := by rw [h35]; rfl
          have HST : ∀ k : Nat, k = a + 1 + noteLen (s.data.toList.drop (a + 1)) → LexIn s.data.toList ts k line (col + k - a) := fun k hk => by
            have h := HI.out
            unfold LexIn at h ⊢
            rw [HD.out, h35, lexL_note, List.drop_drop] at h
            rw [h, ← hk, show col + 1 + (noteLen (s.data.toList.drop (a + 1)) : Int) = col + k - a from by omega]
          have HSTH := Lib.hid HST
          clear HST h35 HI HD
          go_wp2_with fail
          obtain ⟨wo, rfl⟩ : ∃ wo : World, wo = wr := ⟨_, rfl⟩
          go_loop [11] (fun v => ∃ k : Nat, a + 1 ≤ k ∧ k ≤ s.size ∧ v = .int .i64 k ∧ Hid (k + noteLen (s.data.toList.drop k) = a + 1 + noteLen (s.data.toList.drop (a + 1)))) (fun v => s.size - (intOf v).toNat)
          case atStart => exact ⟨a + 1, by omega, by omega, by go_num, rfl⟩
          case round =>
            obtain ⟨k, hk1, hk2, rfl, HN⟩ := hrel
            by_cases hklt : k < s.size
            · have hckl := (s[k]'hklt).toNat_lt
              by_cases h10 : s[k]'hklt = 10
              · have hbk : (((s[k]'hklt).toNat : Int) != 10) = false := by rw [h10]; rfl
                have HF := Lib.hid (HSTH.out k (by rw [← HN.out, noteLen_stop s k hklt h10, Nat.add_zero]))
                clear h10
                go_wp2
                go_roundw
                case rel => exact ⟨ts, k, line, col + k - a, by omega, l1, by omega, by omega, by omega, rfl, rfl, rfl, hown, by omega, hbw, HF⟩
                case measure => simp [intOf]; omega
              · have hbk : (((s[k]'hklt).toNat : Int) != 10) = true := by simp [bne, u8_nb (d := 10) (n := 10) rfl h10]
                have HX : Hid (k + 1 + noteLen (s.data.toList.drop (k + 1)) = a + 1 + noteLen (s.data.toList.drop (a + 1))) := by
                  show _ = _
                  rw [← HN.out, noteLen_step s k hklt h10]; omega
                clear h10
                go_wp2
                go_round
                case rel => exact ⟨k + 1, by omega, by omega, by go_num, HX⟩
                case measure => simp [intOf]; omega
            · obtain rfl : k = s.size := by omega
              have HF := Lib.hid (HSTH.out s.size (by rw [← HN.out, drop_end]; rfl))
              go_wp2
              go_roundw
              case rel => exact ⟨ts, s.size, line, col + s.size - a, by omega, l1, by omega, by omega, by omega, rfl, rfl, rfl, hown, by omega, hbw, HF⟩
              case measure => simp [intOf]; omega
        · have hb : (((s[a]'hlt).toNat : Int) == 35) = false := u8_nb rfl h35
          by_cases h : s[a]'hlt = 32
          · have HF : Hid (LexIn s.data.toList ts (a + 1) line (col + 1)) := by
              have hh := HI.out
              show LexIn _ _ _ _ _
              unfold LexIn at hh ⊢
              rw [HD.out, h, lexL_bl _ _ _ _ (by decide)] at hh
              exact hh
            have g0 : (((s[a]'hlt).toNat : Int) != 32) = false := by rw [h]; rfl
            have gn : (((s[a]'hlt).toNat : Int) == 10) = false := by rw [h]; rfl
            clear h h35 HI HD
            go_wp2
            go_roundw
            case rel => exact ⟨ts, a + 1, line, col + 1, by omega, by omega, by omega, by omega, by omega, rfl, by go_num, by go_num, hown, by omega, hbw, HF⟩
            case measure => simp [intOf]; omega
          have n32 := h
          have g0 : (((s[a]'hlt).toNat : Int) != 32) = true := by simp [bne, u8_nb (d := 32) (n := 32) rfl h]
          clear h
          by_cases h : s[a]'hlt = 9
          · have HF : Hid (LexIn s.data.toList ts (a + 1) line (col + 1)) := by
              have hh := HI.out
              show LexIn _ _ _ _ _
              unfold LexIn at hh ⊢
              rw [HD.out, h, lexL_bl _ _ _ _ (by decide)] at hh
              exact hh
            have g0 : (((s[a]'hlt).toNat : Int) != 32) = true := by rw [h]; rfl
            have g1 : (((s[a]'hlt).toNat : Int) != 9) = false := by rw [h]; rfl
            have gn : (((s[a]'hlt).toNat : Int) == 10) = false := by rw [h]; rfl
            clear h h35 HI HD
            go_wp2
            go_roundw
            case rel => exact ⟨ts, a + 1, line, col + 1, by omega, by omega, by omega, by omega, by omega, rfl, by go_num, by go_num, hown, by omega, hbw, HF⟩
            case measure => simp [intOf]; omega
          have n9 := h
          have g1 : (((s[a]'hlt).toNat : Int) != 9) = true := by simp [bne, u8_nb (d := 9) (n := 9) rfl h]
          clear h
          by_cases h : s[a]'hlt = 10
          · have HF : Hid (LexIn s.data.toList ts (a + 1) (line + 1) 1) := by
              have hh := HI.out
              show LexIn _ _ _ _ _
              unfold LexIn at hh ⊢
              rw [HD.out, h, lexL_nl] at hh
              exact hh
            have g0 : (((s[a]'hlt).toNat : Int) != 32) = true := by rw [h]; rfl
            have g1 : (((s[a]'hlt).toNat : Int) != 9) = true := by rw [h]; rfl
            have g2 : (((s[a]'hlt).toNat : Int) != 10) = false := by rw [h]; rfl
            have gn : (((s[a]'hlt).toNat : Int) == 10) = true := by rw [h]; rfl
            clear h h35 HI HD
            go_wp2
            go_roundw
            case rel => exact ⟨ts, a + 1, line + 1, 1, by omega, by omega, by omega, by omega, by omega, rfl, rfl, by go_num, hown, by omega, hbw, HF⟩
            case measure => simp [intOf]; omega
          have n10 := h
          have g2 : (((s[a]'hlt).toNat : Int) != 10) = true := by simp [bne, u8_nb (d := 10) (n := 10) rfl h]
          clear h
          by_cases h : s[a]'hlt = 13
          · have HF : Hid (LexIn s.data.toList ts (a + 1) line (col + 1)) := by
              have hh := HI.out
              show LexIn _ _ _ _ _
              unfold LexIn at hh ⊢
              rw [HD.out, h, lexL_bl _ _ _ _ (by decide)] at hh
              exact hh
            have g0 : (((s[a]'hlt).toNat : Int) != 32) = true := by rw [h]; rfl
            have g1 : (((s[a]'hlt).toNat : Int) != 9) = true := by rw [h]; rfl
            have g2 : (((s[a]'hlt).toNat : Int) != 10) = true := by rw [h]; rfl
            have g3 : (((s[a]'hlt).toNat : Int) != 13) = false := by rw [h]; rfl
            have gn : (((s[a]'hlt).toNat : Int) == 10) = false := by rw [h]; rfl
            clear h h35 HI HD
            go_wp2
            go_roundw
            case rel => exact ⟨ts, a + 1, line, col + 1, by omega, by omega, by omega, by omega, by omega, rfl, by go_num, by go_num, hown, by omega, hbw, HF⟩
            case measure => simp [intOf]; omega
          have n13 := h
          have g3 : (((s[a]'hlt).toNat : Int) != 13) = true := by simp [bne, u8_nb (d := 13) (n := 13) rfl h]
          clear h
          have gn : (((s[a]'hlt).toNat : Int) == 10) = false := u8_nb rfl n10
          have n3 : ¬ (s[a]'hlt = 32 ∨ s[a]'hlt = 9 ∨ s[a]'hlt = 13) := fun h => by rcases h with h | h | h <;> simp_all
          have hst := lexL_tok (s[a]'hlt) (s.data.toList.drop (a + 1)) line col h35 n10 n3
          have hI := HI.out
          unfold LexIn at hI
          rw [HD.out, hst] at hI
          have HII := Lib.hid hI
          have htl := tokLen_le (s[a]'hlt) (s.data.toList.drop (a + 1))
          have hbnd : a + 1 + tokLen (s[a]'hlt) (s.data.toList.drop (a + 1)) ≤ s.size := by
            have := HLEN.out
            rw [List.length_drop] at htl; omega
          have hexl : (s.extract a (a + 1 + tokLen (s[a]'hlt) (s.data.toList.drop (a + 1)))).data.toList = s[a]'hlt :: (s.data.toList.drop (a + 1)).take (tokLen (s[a]'hlt) (s.data.toList.drop (a + 1))) := by
            rw [Lib.extract_data, HD.out, show a + 1 + tokLen (s[a]'hlt) (s.data.toList.drop (a + 1)) - a = tokLen (s[a]'hlt) (s.data.toList.drop (a + 1)) + 1 from by omega, List.take_succ_cons]
          have hex2 : (⟨(s[a]'hlt :: (s.data.toList.drop (a + 1)).take (tokLen (s[a]'hlt) (s.data.toList.drop (a + 1)))).toArray⟩ : ByteArray) = s.extract a (a + 1 + tokLen (s[a]'hlt) (s.data.toList.drop (a + 1))) := by rw [← hexl]
          rw [hex2] at HII
          have HEXL := Lib.hid hexl
          generalize htll : s[a]'hlt :: (s.data.toList.drop (a + 1)).take (tokLen (s[a]'hlt) (s.data.toList.drop (a + 1))) = tl at *
          have htk : ∀ l, tokLen (s[a]'hlt) l = if isLet (s[a]'hlt) then runLen l else 0 := fun l => rfl
          have HTK := Lib.hid htk
          generalize hn : tokLen (s[a]'hlt) (s.data.toList.drop (a + 1)) = n at *
          rw [List.drop_drop] at HII
          clear hst hI HI HD h35 n32 n9 n10 n13 n3 htl hexl hex2 htll htk
          have HNN := Lib.hid hn
          clear hn
          go_wp2_with fail
          obtain ⟨wo, rfl⟩ : ∃ wo : World, wo = wr := ⟨_, rfl⟩
          go_loop [11] (fun v => ∃ k : Nat, a + 1 ≤ k ∧ k ≤ s.size ∧ v = .int .i64 k ∧ Hid (k + tokLen (s[a]'hlt) (s.data.toList.drop k) = a + 1 + n)) (fun v => s.size - (intOf v).toNat)
          case atStart => exact ⟨a + 1, by omega, by omega, by go_num, by show _ = _; rw [HNN.out]⟩
          case round =>
            obtain ⟨k, hk1, hk2, rfl, HN⟩ := hrel
            cases hi : isLet (s[a]'hlt) with
            | false =>
              have HNK : Hid (k = a + 1 + n) := by
                have h := HN.out
                rw [HTK.out, hi] at h
                show _ = _
                simpa using h
              have hnk := HNK.out
              obtain rfl : n = k - (a + 1) := by omega
              have hex : a + 1 + (k - (a + 1)) = k := by omega
              rw [hex] at HII HEXL
              clear HN HNN hex HNK hnk
              have hszk : (s.extract a k).size ≤ 9223372036854775807 := Nat.le_trans (show (s.extract a k).size ≤ 8192 by rw [ByteArray.size_extract]; omega) (by decide)
              by_cases hkz : kindOf tl = 0
              · have HR : Hid (lexAll s.data.toList = ([], 3, line, col)) := by
                  have h := HII.out
                  rw [if_pos hkz] at h
                  show _ = _
                  rw [lexAll, if_neg (by rw [HLEN.out]; exact hbig), h]; rfl
                have HOF := Lib.hid (rOf5_any (s.extract a k))
                rw [HEXL.out, hkz] at HOF
                clear hkz HII HEXL
                go_wp2_with (first | (go_at_call 48; refine (rletter_any _ _).mono ?_; rintro e w' ⟨rfl, rfl⟩) | (go_at_call 49; refine (HOF.out _ hszk).mono ?_; rintro e w2 ⟨rfl, hb2⟩))
                refine bodyPost_ret (results_tmp4 rfl _ _ _) rfl ?_
                exact ⟨.slice none 0 0, [], 3, line, col, rfl, World.ownsRow_nil _ _ _ _, bl_call hbw hb2, HR.out⟩
              · have HS2 : Hid (LexIn s.data.toList (ts ++ [⟨kindOf tl, s.extract a k, line, col⟩]) k line (col + k - a)) := by
                  have h := HII.out
                  rw [if_neg hkz] at h
                  show LexIn _ _ _ _ _
                  unfold LexIn
                  rw [h, preR_snoc, show col + 1 + ((k - (a + 1) : Nat) : Int) = col + k - a from by omega]
                have hk0 : (kindOf tl == 0) = false := beq_eq_false_iff_ne.2 hkz
                have HOF := Lib.hid (rOf5_any (s.extract a k))
                rw [HEXL.out] at HOF
                clear hkz HII HEXL
                generalize hkk : kindOf tl = kd at *
                clear hkk
                go_wp2_with (first | (go_at_call 48; refine (rletter_any _ _).mono ?_; rintro e w' ⟨rfl, rfl⟩) | (go_at_call 49; refine (HOF.out _ hszk).mono ?_; rintro e w2 ⟨rfl, hb2⟩; (have hown2 := ownsRow_below hown hb2); (have hbw2 := bl_call hbw hb2); (have hlw2 := hbw2.size)) | (at_builtin; refine wpList_append_own _ rfl _ _ 70 rfl w.heap.size 77 i0 _ 4 40 Try.underlying70 hi0 hz0 hz1 hz2 rfl (by decide) _ _ _ rfl (hown2.alloc _) ⟨w2.heap.size, 0, none⟩ 1 1 [.int .i64 kd, .string (s.extract a k), .int .i64 line, .int .i64 col] rfl rfl (World.news_of_block (cs := #[.int .i64 kd, .string (s.extract a k), .int .i64 line, .int .i64 col]) (t := 77) (fr := (0, 0)) (heap_alloc_new _ _)) (by simp [Value.oneCell']) (by unfold maxLen; omega) (by omega) (by simp; omega) ?_; intro v1 w3 hown3 hgrow3 hnil3))
                go_roundw
                case rel =>
                  refine ⟨ts ++ [⟨kd, s.extract a k, line, col⟩], k, line, col + k - a, hk2, l1, by omega, by omega, by omega, rfl, rfl, rfl, ?_, by simp; omega, ?_, HS2⟩
                  · rw [toks_snoc, List.length_append]; exact hown3
                  · exact bl_grown (bl_alloc hbw2 _) hgrow3 (fun k hk => (hown2.lt _ hk).1)
                case measure => simp [intOf]; omega
            | true =>
              by_cases hklt : k < s.size
              · cases hik : isLet (s[k]'hklt) with
                | true =>
                  have HX : Hid (k + 1 + tokLen (s[a]'hlt) (s.data.toList.drop (k + 1)) = a + 1 + n) := by
                    have h := HN.out
                    rw [HTK.out, hi, if_pos rfl, runLen_step s k hklt hik] at h
                    show _ = _
                    rw [HTK.out, hi, if_pos rfl]; omega
                  go_wp2_with (go_at_call 48; refine (rletter_any _ _).mono ?_; rintro e w' ⟨rfl, rfl⟩)
                  go_round
                  case rel => exact ⟨k + 1, by omega, by omega, by go_num, HX⟩
                  case measure => simp [intOf]; omega
                | false =>
                  have HNK : Hid (k = a + 1 + n) := by
                    have h := HN.out
                    rw [HTK.out, hi, if_pos rfl, runLen_stop s k hklt hik] at h
                    exact h
                  have hnk := HNK.out
                  obtain rfl : n = k - (a + 1) := by omega
                  have hex : a + 1 + (k - (a + 1)) = k := by omega
                  rw [hex] at HII HEXL
                  clear HN HNN hex HNK hnk
                  have hszk : (s.extract a k).size ≤ 9223372036854775807 := Nat.le_trans (show (s.extract a k).size ≤ 8192 by rw [ByteArray.size_extract]; omega) (by decide)
                  by_cases hkz : kindOf tl = 0
                  · have HR : Hid (lexAll s.data.toList = ([], 3, line, col)) := by
                      have h := HII.out
                      rw [if_pos hkz] at h
                      show _ = _
                      rw [lexAll, if_neg (by rw [HLEN.out]; exact hbig), h]; rfl
                    have HOF := Lib.hid (rOf5_any (s.extract a k))
                    rw [HEXL.out, hkz] at HOF
                    clear hkz HII HEXL
                    go_wp2_with (first | (go_at_call 48; refine (rletter_any _ _).mono ?_; rintro e w' ⟨rfl, rfl⟩) | (go_at_call 49; refine (HOF.out _ hszk).mono ?_; rintro e w2 ⟨rfl, hb2⟩))
                    refine bodyPost_ret (results_tmp4 rfl _ _ _) rfl ?_
                    exact ⟨.slice none 0 0, [], 3, line, col, rfl, World.ownsRow_nil _ _ _ _, bl_call hbw hb2, HR.out⟩
                  · have HS2 : Hid (LexIn s.data.toList (ts ++ [⟨kindOf tl, s.extract a k, line, col⟩]) k line (col + k - a)) := by
                      have h := HII.out
                      rw [if_neg hkz] at h
                      show LexIn _ _ _ _ _
                      unfold LexIn
                      rw [h, preR_snoc, show col + 1 + ((k - (a + 1) : Nat) : Int) = col + k - a from by omega]
                    have hk0 : (kindOf tl == 0) = false := beq_eq_false_iff_ne.2 hkz
                    have HOF := Lib.hid (rOf5_any (s.extract a k))
                    rw [HEXL.out] at HOF
                    clear hkz HII HEXL
                    generalize hkk : kindOf tl = kd at *
                    clear hkk
                    go_wp2_with (first | (go_at_call 48; refine (rletter_any _ _).mono ?_; rintro e w' ⟨rfl, rfl⟩) | (go_at_call 49; refine (HOF.out _ hszk).mono ?_; rintro e w2 ⟨rfl, hb2⟩; (have hown2 := ownsRow_below hown hb2); (have hbw2 := bl_call hbw hb2); (have hlw2 := hbw2.size)) | (at_builtin; refine wpList_append_own _ rfl _ _ 70 rfl w.heap.size 77 i0 _ 4 40 Try.underlying70 hi0 hz0 hz1 hz2 rfl (by decide) _ _ _ rfl (hown2.alloc _) ⟨w2.heap.size, 0, none⟩ 1 1 [.int .i64 kd, .string (s.extract a k), .int .i64 line, .int .i64 col] rfl rfl (World.news_of_block (cs := #[.int .i64 kd, .string (s.extract a k), .int .i64 line, .int .i64 col]) (t := 77) (fr := (0, 0)) (heap_alloc_new _ _)) (by simp [Value.oneCell']) (by unfold maxLen; omega) (by omega) (by simp; omega) ?_; intro v1 w3 hown3 hgrow3 hnil3))
                    go_roundw
                    case rel =>
                      refine ⟨ts ++ [⟨kd, s.extract a k, line, col⟩], k, line, col + k - a, hk2, l1, by omega, by omega, by omega, rfl, rfl, rfl, ?_, by simp; omega, ?_, HS2⟩
                      · rw [toks_snoc, List.length_append]; exact hown3
                      · exact bl_grown (bl_alloc hbw2 _) hgrow3 (fun k hk => (hown2.lt _ hk).1)
                    case measure => simp [intOf]; omega
              · have HNK : Hid (k = a + 1 + n) := by
                  obtain rfl : k = s.size := by omega
                  have h := HN.out
                  rw [HTK.out, hi, if_pos rfl, drop_end] at h
                  exact h
                have hnk := HNK.out
                obtain rfl : n = k - (a + 1) := by omega
                have hex : a + 1 + (k - (a + 1)) = k := by omega
                rw [hex] at HII HEXL
                clear HN HNN hex HNK hnk
                have hszk : (s.extract a k).size ≤ 9223372036854775807 := Nat.le_trans (show (s.extract a k).size ≤ 8192 by rw [ByteArray.size_extract]; omega) (by decide)
                by_cases hkz : kindOf tl = 0
                · have HR : Hid (lexAll s.data.toList = ([], 3, line, col)) := by
                    have h := HII.out
                    rw [if_pos hkz] at h
                    show _ = _
                    rw [lexAll, if_neg (by rw [HLEN.out]; exact hbig), h]; rfl
                  have HOF := Lib.hid (rOf5_any (s.extract a k))
                  rw [HEXL.out, hkz] at HOF
                  clear hkz HII HEXL
                  go_wp2_with (first | (go_at_call 48; refine (rletter_any _ _).mono ?_; rintro e w' ⟨rfl, rfl⟩) | (go_at_call 49; refine (HOF.out _ hszk).mono ?_; rintro e w2 ⟨rfl, hb2⟩))
                  refine bodyPost_ret (results_tmp4 rfl _ _ _) rfl ?_
                  exact ⟨.slice none 0 0, [], 3, line, col, rfl, World.ownsRow_nil _ _ _ _, bl_call hbw hb2, HR.out⟩
                · have HS2 : Hid (LexIn s.data.toList (ts ++ [⟨kindOf tl, s.extract a k, line, col⟩]) k line (col + k - a)) := by
                    have h := HII.out
                    rw [if_neg hkz] at h
                    show LexIn _ _ _ _ _
                    unfold LexIn
                    rw [h, preR_snoc, show col + 1 + ((k - (a + 1) : Nat) : Int) = col + k - a from by omega]
                  have hk0 : (kindOf tl == 0) = false := beq_eq_false_iff_ne.2 hkz
                  have HOF := Lib.hid (rOf5_any (s.extract a k))
                  rw [HEXL.out] at HOF
                  clear hkz HII HEXL
                  generalize hkk : kindOf tl = kd at *
                  clear hkk
                  go_wp2_with (first | (go_at_call 48; refine (rletter_any _ _).mono ?_; rintro e w' ⟨rfl, rfl⟩) | (go_at_call 49; refine (HOF.out _ hszk).mono ?_; rintro e w2 ⟨rfl, hb2⟩; (have hown2 := ownsRow_below hown hb2); (have hbw2 := bl_call hbw hb2); (have hlw2 := hbw2.size)) | (at_builtin; refine wpList_append_own _ rfl _ _ 70 rfl w.heap.size 77 i0 _ 4 40 Try.underlying70 hi0 hz0 hz1 hz2 rfl (by decide) _ _ _ rfl (hown2.alloc _) ⟨w2.heap.size, 0, none⟩ 1 1 [.int .i64 kd, .string (s.extract a k), .int .i64 line, .int .i64 col] rfl rfl (World.news_of_block (cs := #[.int .i64 kd, .string (s.extract a k), .int .i64 line, .int .i64 col]) (t := 77) (fr := (0, 0)) (heap_alloc_new _ _)) (by simp [Value.oneCell']) (by unfold maxLen; omega) (by omega) (by simp; omega) ?_; intro v1 w3 hown3 hgrow3 hnil3))
                  go_roundw
                  case rel =>
                    refine ⟨ts ++ [⟨kd, s.extract a k, line, col⟩], k, line, col + k - a, hk2, l1, by omega, by omega, by omega, rfl, rfl, rfl, ?_, by simp; omega, ?_, HS2⟩
                    · rw [toks_snoc, List.length_append]; exact hown3
                    · exact bl_grown (bl_alloc hbw2 _) hgrow3 (fun k hk => (hown2.lt _ hk).1)
                  case measure => simp [intOf]; omega
end Go.Proofs.Ytcgkfgklggjmaaa
end
section
namespace Go.Proofs.Ytcgkfgklggjmaaa.Par
set_option linter.unusedVariables false
set_option linter.unusedSimpArgs false
/-! a plan's plain text, read: its tokens -/
/-- the tokens, whatever their places -/
def Tw (ls : List Tok) (ws : List (Int × List UInt8)) : Prop := ls.map (fun t => (t.kind, t.text.data.toList)) = ws
/-- a text that ends where a token ends: what stands behind it is read by itself -/
def Lx (l : List UInt8) (ws : List (Int × List UInt8)) : Prop := ∀ (r : List UInt8) (line col : Int), ∃ ls line' col', lexL (l ++ r) line col = preR ls (lexL r line' col') ∧ Tw ls ws
theorem preR_app (a b : List Tok) (r : Except (Int × Int) (List Tok)) : preR (a ++ b) r = preR a (preR b r) := by cases r <;> simp [preR]
theorem preR_one (t : Tok) (r : Except (Int × Int) (List Tok)) : preR [t] r = consR t r := by cases r <;> simp [preR, consR]
theorem Lx.nil : Lx [] [] := fun r line col => ⟨[], line, col, by rw [preR_nil]; rfl, rfl⟩
theorem Lx.app {a b : List UInt8} {u v : List (Int × List UInt8)} (h : Lx a u) (k : Lx b v) : Lx (a ++ b) (u ++ v) := by
  intro r line col
  obtain ⟨l1, n1, c1, e1, t1⟩ := h (b ++ r) line col
  obtain ⟨l2, n2, c2, e2, t2⟩ := k r n1 c1
  refine ⟨l1 ++ l2, n2, c2, by rw [List.append_assoc, e1, e2, preR_app], ?_⟩
  unfold Tw at t1 t2 ⊢
  rw [List.map_append, t1, t2]
/-- a word ahead of a blank -/
theorem Lx.word {w : List UInt8} (h : kindOf w ≠ 0) : Lx (w ++ [32]) [(kindOf w, w)] := by
  intro r line col
  refine ⟨[⟨kindOf w, ⟨w.toArray⟩, line, col⟩], line, col + w.length + 1, ?_, by simp [Tw]⟩
  rw [List.append_assoc, List.singleton_append, lex_tok w r line col h, preR_one]
/-- a word ahead of a semicolon -/
theorem Lx.semi {w : List UInt8} (h : kindOf w ≠ 0) (hl : w ≠ [] ∧ w.all isLet = true) : Lx (w ++ [59]) [(kindOf w, w), (5, [59])] := by
  intro r line col
  refine ⟨[⟨kindOf w, ⟨w.toArray⟩, line, col⟩, ⟨5, ⟨#[59]⟩, line, col + w.length⟩], line, col + w.length + 1, ?_, by simp [Tw]⟩
  rw [List.append_assoc, List.singleton_append, lex_semi w r line col h hl]
  cases lexL r line (col + w.length + 1) <;> simp [preR, consR]
theorem Lx.nl : Lx [10] [] := fun r line col => ⟨[], line + 1, 1, by rw [preR_nil, List.singleton_append, lexL_nl], rfl⟩
theorem Lx.tab : Lx [9] [] := fun r line col => ⟨[], line, col + 1, by rw [preR_nil, List.singleton_append, lexL_bl 9 r line col (by decide)], rfl⟩
theorem Lx.sp : Lx [32] [] := fun r line col => ⟨[], line, col + 1, by rw [preR_nil, List.singleton_append, lexL_bl 32 r line col (by decide)], rfl⟩
theorem Lx.sign (c : UInt8) (hc : c = 123 ∨ c = 125 ∨ c = 59) : Lx [c] [(5, [c])] := by
  intro r line col
  have hk : kindOf [c] = 5 := by rcases hc with rfl | rfl | rfl <;> decide +kernel
  have ht : tokLen c r = 0 := by
    have : isLet c = false := by rcases hc with rfl | rfl | rfl <;> decide
    unfold tokLen; rw [this]; rfl
  refine ⟨[⟨5, ⟨#[c]⟩, line, col⟩], line, col + 1, ?_, by simp [Tw]⟩
  rw [List.singleton_append, lexL_tok c r line col (by rcases hc with rfl | rfl | rfl <;> decide) (by rcases hc with rfl | rfl | rfl <;> decide) (by rcases hc with rfl | rfl | rfl <;> decide), ht, List.take_zero, List.drop_zero, hk, if_neg (by decide), preR_one]
  rw [show col + 1 + ((0 : Nat) : Int) = col + 1 from by omega]
theorem Lx.flat {α : Type} (f : α → List UInt8) (g : α → List (Int × List UInt8)) : ∀ (l : List α), (∀ x ∈ l, Lx (f x) (g x)) → Lx (l.flatMap f) (l.flatMap g)
  | [], _ => Lx.nil
  | x :: l, h => by
    rw [List.flatMap_cons, List.flatMap_cons]
    exact (h x (by simp)).app (Lx.flat f g l fun y hy => h y (by simp [hy]))
/-- the whole text's tokens -/
theorem Lx.all {l : List UInt8} {ws : List (Int × List UInt8)} (h : Lx l ws) (hl : l.length ≤ 8192) : ∃ ls n c, lexAll l = (ls ++ [⟨0, ⟨#[]⟩, n, c⟩], 0, 0, 0) ∧ Tw ls ws := by
  obtain ⟨ls, n, c, e, t⟩ := h [] 1 1
  rw [List.append_nil] at e
  refine ⟨ls, n, c, ?_, t⟩
  unfold lexAll
  rw [if_neg (by omega), e]
  have : lexL [] n c = .ok [⟨0, ⟨#[]⟩, n, c⟩] := by rw [lexL]
  rw [this]; rfl
end Go.Proofs.Ytcgkfgklggjmaaa.Par
end
section
namespace Go.Proofs.Ytcgkfgklggjmaaa.Dec
set_option linter.unusedVariables false
set_option linter.unusedSimpArgs false
open Go.RowKit
theorem text_len (N k : Nat) (h : N < 9223372036854775808) (hk : k ≤ 9) : (textN N k).length ≤ 30 := by
  have h1 := frac_len N k
  have h2 : (Lib.decDigits (N / 10 ^ k)).length ≤ 20 := by
    rw [Lib.decDigits_length]
    exact Lib.nDigits_le20 _ (Nat.lt_of_le_of_lt (Nat.div_le_self _ _) (by omega))
  unfold textN tailL
  rw [List.length_append]
  split
  · simp; omega
  · simp; omega
theorem text_bad {n places : Int} (h : n < 0 ∨ places < 0 ∨ 9 < places) : textL n places = [] := by unfold textL; rw [if_pos h]
theorem text_good (N k : Nat) (hk : k ≤ 9) : textL (N : Int) (k : Int) = textN N k := by
  unfold textL; rw [if_neg (by omega), Int.toNat_natCast, Int.toNat_natCast]
end Go.Proofs.Ytcgkfgklggjmaaa.Dec
end
section
namespace Go.Proofs.Ytcgkfgklggjmaaa.Par
set_option linter.unusedVariables false
set_option linter.unusedSimpArgs false
/-! numbers' texts are read back -/
theorem parse_most {l : List UInt8} {pl M m v : Int} (h : Dec.parseL l pl M = (v, 0)) (hv : v ≤ m) : Dec.parseL l pl m = (v, 0) := by
  unfold Dec.parseL Dec.parseW at h ⊢
  split at h
  · cases h
  · rename_i h1
    rw [if_neg h1]
    split at h
    · cases h
    · rename_i h2
      rw [if_neg h2]
      split at h
      · cases h
      · rename_i h3
        injection h with h4 _
        rw [if_neg (by rintro (c | c); exact h3 (.inl c); omega), h4]
theorem npV_dig {n m : Int} (h0 : 0 ≤ n) (h : n ≤ m) (h1 : n < 9223372036854775808) : npV ⟨(digT n).toArray⟩ 0 m = (n, 0) := by
  obtain ⟨N, rfl⟩ : ∃ N : Nat, n = N := ⟨n.toNat, by omega⟩
  have hb := Dec.parse_back N 0 (by omega) (by decide)
  have he : Dec.textN N 0 = Lib.decDigits N := by
    have hf : Dec.fracL N 0 = [] := rfl
    rw [Dec.textN, Dec.tailL, if_pos hf, List.append_nil, Nat.pow_zero, Nat.div_one]
  rw [he] at hb
  exact parse_most hb h
theorem npV_dec {n m : Int} (k : Nat) (hk : k ≤ 9) (h0 : 0 ≤ n) (h : n ≤ m) (h1 : n < 9223372036854775808) : npV ⟨(Dec.textL n k).toArray⟩ k m = (n, 0) := by
  obtain ⟨N, rfl⟩ : ∃ N : Nat, n = N := ⟨n.toNat, by omega⟩
  have hb := Dec.parse_back N k (by omega) hk
  have he := Dec.text_good N k hk
  unfold npV
  rw [he]
  exact parse_most hb h
theorem word_dig {l : List UInt8} (h : digFirst l = true) : isWord l = false := by
  cases hw : isWord l with
  | false => rfl
  | true =>
    have hm : l ∈ wordsL := by simpa [isWord] using hw
    have ha : ∀ w ∈ wordsL, digFirst w = false := by decide
    rw [ha l hm] at h
    cases h
theorem dig_let {l : List UInt8} (h : l.all Dec.isDig = true) : l.all isLet = true := by
  rw [List.all_eq_true] at h ⊢
  intro x hx
  have := h x hx
  simp only [Dec.isDig, isDig, decide_eq_true_eq, Bool.and_eq_true] at this
  simp only [isLet, decide_eq_true_eq]
  omega
theorem dec_word (N k : Nat) (hk : k ≤ 9) : kindOf (Dec.textN N k) = 3 ∧ Dec.textN N k ≠ [] ∧ (Dec.textN N k).all isLet = true := by
  unfold Dec.textN Dec.tailL
  by_cases hf : Dec.fracL N k = []
  · rw [if_pos hf, List.append_nil]
    exact ⟨kind_digits _, Dec.dec_ne _, dec_let _⟩
  · rw [if_neg hf]
    have hd := Dec.dec_all (N / 10 ^ k)
    have hne := Dec.dec_ne (N / 10 ^ k)
    have hfa := Dec.frac_all N k
    have hlead := Dec.lead_dec (N / 10 ^ k)
    generalize Lib.decDigits (N / 10 ^ k) = a at *
    generalize Dec.fracL N k = f at *
    have hl : (a ++ 46 :: f).all isLet = true := by
      rw [List.all_append, dig_let hd, List.all_cons, dig_let hfa]; decide
    have hne2 : a ++ 46 :: f ≠ [] := by simp
    have hdf : digFirst (a ++ 46 :: f) = true := by
      cases a with
      | nil => exact absurd rfl hne
      | cons c cs =>
        have hd' : (c :: cs).all isDig = true := hd
        simp only [List.all_cons, Bool.and_eq_true] at hd'
        exact hd'.1
    have hnum : numForm (a ++ 46 :: f) = 2 := by
      have hb1 : digitsB a = true := by
        unfold digitsB; rw [show a.all isDig = true from hd]
        cases a with
        | nil => exact absurd rfl hne
        | cons c cs => rfl
      have hb2 : digitsB f = true := by
        unfold digitsB; rw [show f.all isDig = true from hfa]
        cases f with
        | nil => exact absurd rfl hf
        | cons c cs => rfl
      have hz : ¬ (1 < a.length ∧ a.getD 0 0 = 48) := by
        rintro ⟨a1, a2⟩
        cases a with
        | nil => exact absurd rfl hne
        | cons c cs =>
          obtain rfl : c = 48 := a2
          unfold Dec.leadB at hlead
          rw [decide_eq_true a1] at hlead
          cases hlead
      unfold numForm
      rw [Dec.cut_point hd]
      simp only
      rw [if_neg (by rw [hb1]; exact fun h => h.elim (fun h => by cases h) hz), if_neg (by decide), if_pos hb2]
    refine ⟨?_, hne2, hl⟩
    rw [kind_let hl hne2, word_dig hdf, hdf, hnum]
    simp
end Go.Proofs.Ytcgkfgklggjmaaa.Par
end
section
namespace Go.Proofs.Ytcgkfgklggjmaaa
set_option linter.unusedVariables false
set_option linter.unusedSimpArgs false
/-! every number is a day's -/
theorem year_ex (n : Int) (h0 : 0 ≤ n) : ∀ (k : Nat), n < dby (1 + k) → ∃ y : Int, 1 ≤ y ∧ y ≤ k ∧ dby y ≤ n ∧ n < dby (y + 1)
  | 0, h => by
    have : dby (1 + ((0 : Nat) : Int)) = 0 := by decide
    omega
  | k + 1, h => by
    by_cases hk : n < dby (1 + k)
    · obtain ⟨y, h1, h2, h3, h4⟩ := year_ex n h0 k hk
      exact ⟨y, h1, by omega, h3, h4⟩
    · refine ⟨1 + k, by omega, by omega, by omega, ?_⟩
      rwa [show (1 : Int) + k + 1 = 1 + ((k + 1 : Nat) : Int) from by omega]
theorem month_ex (y r : Int) (h0 : 0 ≤ r) : ∀ (k : Nat), k ≤ 12 → r < cum y (1 + k) → ∃ m : Int, 1 ≤ m ∧ m ≤ k ∧ cum y m ≤ r ∧ r < cum y (m + 1)
  | 0, _, h => by
    rw [show (1 : Int) + ((0 : Nat) : Int) = 1 from by omega, cum_one] at h
    omega
  | k + 1, hk12, h => by
    by_cases hk : r < cum y (1 + k)
    · obtain ⟨m, h1, h2, h3, h4⟩ := month_ex y r h0 k (by omega) hk
      exact ⟨m, h1, by omega, h3, h4⟩
    · refine ⟨1 + k, by omega, by omega, by omega, ?_⟩
      rwa [show (1 : Int) + k + 1 = 1 + ((k + 1 : Nat) : Int) from by omega]
theorem of_ex (n : Int) (h0 : 0 ≤ n) (h1 : n < 3652059) : ∃ y m d : Int, goodB y m d = true ∧ numD y m d = n := by
  obtain ⟨y, y1, y2, y3, y4⟩ := year_ex n h0 9999 (by rw [show (1 : Int) + ((9999 : Nat) : Int) = 10000 from rfl, dby_end]; exact h1)
  have hs := dby_succ y
  have hl := lp_01 y
  have he := cum_end y
  obtain ⟨m, m1, m2, m3, m4⟩ := month_ex y (n - dby y) (by omega) 12 (by omega) (by rw [show (1 : Int) + ((12 : Nat) : Int) = 13 from rfl]; omega)
  have hc := cum_succ y m m1 (by omega)
  refine ⟨y, m, n - dby y - cum y m + 1, good_mk y1 (by omega) (by omega) (by omega), ?_⟩
  unfold numD; omega
end Go.Proofs.Ytcgkfgklggjmaaa
end
section
namespace Go.Proofs.Ytcgkfgklggjmaaa
set_option linter.unusedVariables false
set_option linter.unusedSimpArgs false
/-! texts and days: one by one -/
theorem dig_back (c : UInt8) (h : isDig c = true) : UInt8.ofNat (48 + (digI c).toNat) = c := by
  have h := of_decide_eq_true h
  have e : 48 + (digI c).toNat = c.toNat := by unfold digI; omega
  rw [e, UInt8.ofNat_toNat]
theorem digL_numL : ∀ (n : Nat) (l : List UInt8), l.length = n → l.all isDig = true → digL (numL l).toNat n = l
  | 0, l, h, _ => by
    obtain rfl := List.length_eq_zero_iff.1 h
    rfl
  | n + 1, l, h, hd => by
    have hne : l ≠ [] := by rintro rfl; simp at h
    obtain ⟨l', c, rfl⟩ : ∃ l' c, l = l' ++ [c] := ⟨l.dropLast, l.getLast hne, (List.dropLast_concat_getLast hne).symm⟩
    rw [List.all_append, Bool.and_eq_true] at hd
    obtain ⟨hd1, hd2⟩ := hd
    have hdc : isDig c = true := by simpa using hd2
    have hl : l'.length = n := by simpa using h
    have hb := digI_bd hdc
    have hn := numL_bd l' hd1
    have ih := digL_numL n l' hl hd1
    have e1 : (10 * numL l' + digI c).toNat / 10 = (numL l').toNat := by omega
    have e2 : (10 * numL l' + digI c).toNat % 10 = (digI c).toNat := by omega
    rw [numL_snoc, digL, e1, e2, ih, dig_back c hdc]
theorem isDig_of (k : Nat) : isDig (UInt8.ofNat (48 + k % 10)) = true := by
  unfold isDig
  rw [UInt8.toNat_ofNat_of_lt' (show 48 + k % 10 < 256 by omega)]
  exact decide_eq_true (by omega)
theorem digI_of (k : Nat) : digI (UInt8.ofNat (48 + k % 10)) = ((k % 10 : Nat) : Int) := by
  unfold digI
  rw [UInt8.toNat_ofNat_of_lt' (show 48 + k % 10 < 256 by omega)]
  omega
theorem digL_dig : ∀ (k n : Nat), (digL n k).all isDig = true
  | 0, _ => rfl
  | k + 1, n => by
    rw [digL, List.all_append, digL_dig k (n / 10), Bool.true_and, List.all_cons, List.all_nil, Bool.and_true]
    exact isDig_of n
theorem numL_digL : ∀ (k n : Nat), n < 10 ^ k → numL (digL n k) = n
  | 0, n, h => by
    obtain rfl : n = 0 := by simpa using h
    rfl
  | k + 1, n, h => by
    rw [digL, numL_snoc, numL_digL k (n / 10) (by rw [Nat.pow_succ] at h; omega), digI_of]
    omega
/-- a text that is a day's is what that day's text is -/
theorem parse_text {l : List UInt8} (h : parseOk l = true) : l.length = 10 ∧ goodB (parseY l) (parseM l) (parseD l) = true ∧ dayL (parseY l) (parseM l) (parseD l) = l := by
  unfold parseOk at h
  rw [Bool.and_eq_true] at h
  obtain ⟨hs, hg⟩ := h
  unfold dateShape at hs
  simp only [Bool.and_eq_true, beq_iff_eq] at hs
  obtain ⟨⟨⟨⟨⟨hl, h4⟩, h7⟩, hy⟩, hm⟩, hd⟩ := hs
  refine ⟨hl, hg, ?_⟩
  unfold dayL parseY parseM parseD
  rw [digL_numL 4 _ (by simp; omega) hy, digL_numL 2 _ (by simp; omega) hm, digL_numL 2 _ (by simp; omega) hd]
  match l, hl with
  | [a0, a1, a2, a3, a4, a5, a6, a7, a8, a9], _ =>
    simp at h4 h7
    subst h4 h7
    rfl
/-- a day's text is that day's -/
theorem text_parse {y m d : Int} (h : goodB y m d = true) : parseOk (dayL y m d) = true ∧ parseY (dayL y m d) = y ∧ parseM (dayL y m d) = m ∧ parseD (dayL y m d) = d := by
  obtain ⟨h1, h2, h3, h4, h5, h6, h7⟩ := good_of h
  have t4 : (dayL y m d).take 4 = digL y.toNat 4 := List.take_left' (digL_len 4 _)
  have d4 : (dayL y m d).drop 4 = 45 :: (digL m.toNat 2 ++ 45 :: digL d.toNat 2) := List.drop_left' (digL_len 4 _)
  have d5 : (dayL y m d).drop 5 = digL m.toNat 2 ++ 45 :: digL d.toNat 2 := by
    rw [show 5 = 4 + 1 from rfl, ← List.drop_drop, d4]; rfl
  have t2 : ((dayL y m d).drop 5).take 2 = digL m.toNat 2 := by rw [d5]; exact List.take_left' (digL_len 2 _)
  have d7 : (dayL y m d).drop 7 = 45 :: digL d.toNat 2 := by
    rw [show 7 = 5 + 2 from rfl, ← List.drop_drop, d5]; exact List.drop_left' (digL_len 2 _)
  have d8 : (dayL y m d).drop 8 = digL d.toNat 2 := by
    rw [show 8 = 7 + 1 from rfl, ← List.drop_drop, d7]; rfl
  have g4 : (dayL y m d).getD 4 0 = 45 := by
    have : (dayL y m d)[4]? = some 45 := by rw [← List.head?_drop, d4]; rfl
    simp [List.getD, this]
  have g7 : (dayL y m d).getD 7 0 = 45 := by
    have : (dayL y m d)[7]? = some 45 := by rw [← List.head?_drop, d7]; rfl
    simp [List.getD, this]
  have ey : parseY (dayL y m d) = y := by unfold parseY; rw [t4, numL_digL 4 _ (by show y.toNat < 10000; omega)]; omega
  have em : parseM (dayL y m d) = m := by unfold parseM; rw [t2, numL_digL 2 _ (by show m.toNat < 100; omega)]; omega
  have ed : parseD (dayL y m d) = d := by unfold parseD; rw [d8, numL_digL 2 _ (by show d.toNat < 100; omega)]; omega
  refine ⟨?_, ey, em, ed⟩
  unfold parseOk
  rw [ey, em, ed, h, Bool.and_true]
  unfold dateShape
  rw [dayL_len, g4, g7, t4, t2, d8, digL_dig, digL_dig, digL_dig]
  rfl
end Go.Proofs.Ytcgkfgklggjmaaa
end
section
namespace Go.Proofs.Ytcgkfgklggjmaaa.Par
set_option linter.unusedVariables false
set_option linter.unusedSimpArgs false
theorem k_plan : kindOf [112, 108, 97, 110] = 2 := by kernel_rfl
theorem k_currency : kindOf [99, 117, 114, 114, 101, 110, 99, 121] = 2 := by kernel_rfl
theorem k_horizon : kindOf [104, 111, 114, 105, 122, 111, 110] = 2 := by kernel_rfl
theorem k_meter : kindOf [109, 101, 116, 101, 114] = 2 := by kernel_rfl
theorem k_unit : kindOf [117, 110, 105, 116] = 2 := by kernel_rfl
theorem k_max : kindOf [109, 97, 120] = 2 := by kernel_rfl
theorem k_fee : kindOf [102, 101, 101] = 2 := by kernel_rfl
theorem k_charge : kindOf [99, 104, 97, 114, 103, 101] = 2 := by kernel_rfl
theorem k_from : kindOf [102, 114, 111, 109] = 2 := by kernel_rfl
theorem k_to : kindOf [116, 111] = 2 := by kernel_rfl
theorem k_allowance : kindOf [97, 108, 108, 111, 119, 97, 110, 99, 101] = 2 := by kernel_rfl
theorem k_block : kindOf [98, 108, 111, 99, 107] = 2 := by kernel_rfl
theorem k_volume : kindOf [118, 111, 108, 117, 109, 101] = 2 := by kernel_rfl
theorem k_graduated : kindOf [103, 114, 97, 100, 117, 97, 116, 101, 100] = 2 := by kernel_rfl
theorem k_rest : kindOf [114, 101, 115, 116] = 2 := by kernel_rfl
theorem k_rate : kindOf [114, 97, 116, 101] = 2 := by kernel_rfl
theorem k_upto : kindOf [117, 112, 116, 111] = 2 := by kernel_rfl
theorem k_round : kindOf [114, 111, 117, 110, 100] = 2 := by kernel_rfl
theorem k_percent : kindOf [112, 101, 114, 99, 101, 110, 116] = 2 := by kernel_rfl
theorem k_cap : kindOf [99, 97, 112] = 2 := by kernel_rfl
theorem k_minimum : kindOf [109, 105, 110, 105, 109, 117, 109] = 2 := by kernel_rfl
theorem k_add : kindOf [97, 100, 100] = 2 := by kernel_rfl
theorem k_floor : kindOf [102, 108, 111, 111, 114] = 2 := by kernel_rfl
theorem k_ceil : kindOf [99, 101, 105, 108] = 2 := by kernel_rfl
theorem k_halfup : kindOf [104, 97, 108, 102, 117, 112] = 2 := by kernel_rfl
theorem k_halfeven : kindOf [104, 97, 108, 102, 101, 118, 101, 110] = 2 := by kernel_rfl
/-- a day's text is read back -/
theorem day_read {t : List UInt8} (h : kindOf t = 4) : dayT (dp ⟨t.toArray⟩) = t := by
  have hp : parseOk t = true := by
    unfold kindOf at h
    split at h
    · cases h
    split at h
    · cases h
    split at h
    · cases h
    split at h
    · cases h
    split at h
    · cases h
    split at h
    · assumption
    · cases h
  have hp' : parseOk (⟨t.toArray⟩ : ByteArray).data.toList = true := hp
  obtain ⟨e1, e2, e3, _⟩ := p_yes hp'
  obtain ⟨_, hg, hl⟩ := parse_text hp
  unfold dayT dp textL
  simp only [e1, e2, e3]
  rw [if_pos hg]
  exact hl
theorem let_of {t : List UInt8} (h : kindOf t ≠ 0) (h5 : kindOf t ≠ 5) : t ≠ [] ∧ t.all isLet = true := by
  rcases kind_shape h with h1 | h1
  · exfalso; apply h5; rcases h1 with rfl | rfl | rfl <;> kernel_rfl
  · exact h1
/-- a day that is read -/
def DOk (d : Day) : Prop := kindOf (dayT d) = 4 ∧ dp ⟨(dayT d).toArray⟩ = d
theorem dok_of {t : ByteArray} (h : kindOf t.data.toList = 4) : DOk (dp t) := by
  have e : (⟨t.data.toList.toArray⟩ : ByteArray) = t := by simp
  have hb := day_read h
  rw [e] at hb
  unfold DOk
  rw [hb, e]
  exact ⟨h, rfl⟩
def NOk (b : ByteArray) : Prop := kindOf b.data.toList = 1
def WOk (w : Win) : Prop := (w.has = true ∧ DOk w.from_ ∧ DOk w.to_) ∨ w = noWin
def TOk (t : Tier) : Prop := (0 ≤ t.upto ∧ t.upto ≤ 1000000) ∧ (0 ≤ t.rate ∧ t.rate ≤ 1000000000000)
def AOk (a : Adj) : Prop := (a.kind = 1 ∧ (0 ≤ a.n ∧ a.n ≤ 100000000) ∧ 0 ≤ a.mode ∧ a.mode ≤ 3) ∨ ((a.kind = 2 ∨ a.kind = 3 ∨ a.kind = 4) ∧ (0 ≤ a.n ∧ a.n ≤ 1000000000000) ∧ a.mode = 0)
structure COk (c : Chg) : Prop where
  meter : NOk c.meter
  win : WOk c.win
  allow : 0 ≤ c.allow ∧ c.allow ≤ 1000000
  block : 0 ≤ c.block ∧ c.block ≤ 1000000
  kind : c.kind = 1 ∨ c.kind = 2
  tiers : ∃ l r, c.tiers = l ++ [⟨0, r⟩] ∧ (∀ t ∈ l, TOk t) ∧ 0 ≤ r ∧ r ≤ 1000000000000
  mode : 0 ≤ c.mode ∧ c.mode ≤ 3
  adjs : ∀ a ∈ c.adjs, AOk a
/-- what a plan is that is read without a fault -/
structure POk (p : Plan) : Prop where
  name : NOk p.name
  cur : NOk p.cur
  from_ : DOk p.from_
  to_ : DOk p.to_
  mets : ∀ m ∈ p.mets, NOk m.name ∧ NOk m.unit ∧ 0 ≤ m.max ∧ m.max ≤ 2000
  fees : ∀ f ∈ p.fees, (0 ≤ f.amount ∧ f.amount ≤ 1000000000000) ∧ WOk f.win
  chgs : ∀ c ∈ p.chgs, COk c
/-! the tokens -/
abbrev Wd := Int × List UInt8
def tkW (w : Win) : List Wd := if w.has = true then [(2, [102, 114, 111, 109]), (4, dayT w.from_), (2, [116, 111]), (4, dayT w.to_)] else []
def tkM (m : Met) : List Wd := [(2, [109, 101, 116, 101, 114]), (1, m.name.data.toList), (2, [117, 110, 105, 116]), (1, m.unit.data.toList), (2, [109, 97, 120]), (3, digT m.max), (5, [59])]
def tkF (f : Fee) : List Wd := [(2, [102, 101, 101]), (3, digT f.amount)] ++ tkW f.win ++ [(5, [59])]
def tkT (t : Tier) : List Wd := [(2, [117, 112, 116, 111]), (3, digT t.upto), (2, [114, 97, 116, 101]), (3, Dec.textL t.rate 6), (5, [59])]
def tkZ (r : Int) : List Wd := [(2, [114, 101, 115, 116]), (2, [114, 97, 116, 101]), (3, Dec.textL r 6), (5, [59])]
def modeW (m : Int) : List Wd := if m = 0 then [(2, [102, 108, 111, 111, 114])] else if m = 1 then [(2, [99, 101, 105, 108])] else if m = 2 then [(2, [104, 97, 108, 102, 117, 112])] else if m = 3 then [(2, [104, 97, 108, 102, 101, 118, 101, 110])] else []
def tkA (a : Adj) : List Wd :=
  if a.kind = 1 then [(2, [112, 101, 114, 99, 101, 110, 116]), (3, Dec.textL a.n 3)] ++ modeW a.mode ++ [(5, [59])]
  else if a.kind = 2 then [(2, [99, 97, 112]), (3, digT a.n), (5, [59])]
  else if a.kind = 3 then [(2, [109, 105, 110, 105, 109, 117, 109]), (3, digT a.n), (5, [59])]
  else if a.kind = 4 then [(2, [97, 100, 100]), (3, digT a.n), (5, [59])] else []
def tkC (c : Chg) (l : List Tier) (r : Int) : List Wd :=
  [(2, [99, 104, 97, 114, 103, 101]), (1, c.meter.data.toList)] ++ tkW c.win ++ [(5, [123])] ++ (if c.allow ≠ 0 then [(2, [97, 108, 108, 111, 119, 97, 110, 99, 101]), (3, digT c.allow), (5, [59])] else []) ++ (if c.block ≠ 1 then [(2, [98, 108, 111, 99, 107]), (3, digT c.block), (5, [59])] else []) ++
  [if c.kind = 2 then (2, [118, 111, 108, 117, 109, 101]) else (2, [103, 114, 97, 100, 117, 97, 116, 101, 100]), (5, [123])] ++ l.flatMap tkT ++ tkZ r ++ [(5, [125]), (2, [114, 111, 117, 110, 100])] ++ modeW c.mode ++ [(5, [59])] ++ c.adjs.flatMap tkA ++ [(5, [125])]
def tkH (p : Plan) : List Wd := [(2, [112, 108, 97, 110]), (1, p.name.data.toList), (2, [99, 117, 114, 114, 101, 110, 99, 121]), (1, p.cur.data.toList), (5, [59]), (2, [104, 111, 114, 105, 122, 111, 110]), (4, dayT p.from_), (4, dayT p.to_), (5, [59])]
theorem Lx.kw {w : List UInt8} {k : Int} (h : kindOf w = k) (h0 : k ≠ 0) : Lx (w ++ [32]) [(k, w)] := by
  subst h; exact Lx.word h0
theorem Lx.ks {w : List UInt8} {k : Int} (h : kindOf w = k) (h0 : k ≠ 0) (h5 : k ≠ 5) : Lx (w ++ [59]) [(k, w), (5, [59])] := by
  subst h; exact Lx.semi h0 (let_of h0 h5)
theorem Lx.of {a b : List UInt8} {u v : List Wd} (h : Lx a u) (e : b = a) (f : v = u) : Lx b v := by subst e f; exact h
theorem k_dig {n : Int} : kindOf (digT n) = 3 := kind_digits _
theorem k_dec {n : Int} (k : Nat) (hk : k ≤ 9) (h0 : 0 ≤ n) : kindOf (Dec.textL n k) = 3 := by
  obtain ⟨N, rfl⟩ : ∃ N : Nat, n = N := ⟨n.toNat, by omega⟩
  rw [Dec.text_good N k hk]; exact (dec_word N k hk).1
theorem lx_met {m : Met} (h1 : NOk m.name) (h2 : NOk m.unit) : Lx (metL m) (tkM m) :=
  ((((((Lx.kw k_meter (by decide)).app (Lx.kw h1 (by decide))).app (Lx.kw k_unit (by decide))).app (Lx.kw h2 (by decide))).app (Lx.kw k_max (by decide))).app (Lx.ks (k_dig (n := m.max)) (by decide) (by decide)) |>.app Lx.nl).of (by simp [metL]) (by simp [tkM])
theorem lx_head {p : Plan} (h : POk p) : Lx (headL p) (tkH p) :=
  ((((((((Lx.kw k_plan (by decide)).app (Lx.kw h.name (by decide))).app (Lx.kw k_currency (by decide))).app (Lx.ks h.cur (by decide) (by decide))).app Lx.nl).app (Lx.kw k_horizon (by decide))).app (Lx.kw h.from_.1 (by decide))).app (Lx.ks h.to_.1 (by decide) (by decide)) |>.app Lx.nl).of (by simp [headL]) (by simp [tkH])
theorem lx_fee {f : Fee} (h : WOk f.win) : Lx (feeL f) (tkF f) := by
  rcases h with ⟨h0, h1, h2⟩ | h0
  · exact ((((((Lx.kw k_fee (by decide)).app (Lx.kw (k_dig (n := f.amount)) (by decide))).app (Lx.kw k_from (by decide))).app (Lx.kw h1.1 (by decide))).app (Lx.kw k_to (by decide))).app (Lx.ks h2.1 (by decide) (by decide)) |>.app Lx.nl).of (by simp [feeL, winL, h0]) (by simp [tkF, tkW, h0])
  · exact (((Lx.kw k_fee (by decide)).app (Lx.ks (k_dig (n := f.amount)) (by decide) (by decide))).app Lx.nl).of (by simp [feeL, winL, h0, noWin]) (by simp [tkF, tkW, h0, noWin])
end Go.Proofs.Ytcgkfgklggjmaaa.Par
end
section
namespace Go.Proofs.Ytcgkfgklggjmaaa.Par
set_option linter.unusedVariables false
set_option linter.unusedSimpArgs false
/-! a charge's tokens, and the whole plan's -/
theorem lx_tier {t : Tier} (h : TOk t) : Lx (tierL false t) (tkT t) :=
  ((((((Lx.tab.app Lx.tab).app (Lx.kw k_upto (by decide))).app (Lx.kw (k_dig (n := t.upto)) (by decide))).app (Lx.kw k_rate (by decide))).app (Lx.ks (k_dec 6 (by decide) h.2.1) (by decide) (by decide)))|>.app Lx.nl).of (by simp [tierL]) (by simp [tkT])
theorem lx_rest {r : Int} (h : 0 ≤ r) : Lx (tierL true ⟨0, r⟩) (tkZ r) :=
  (((((Lx.tab.app Lx.tab).app (Lx.kw k_rest (by decide))).app (Lx.kw k_rate (by decide))).app (Lx.ks (k_dec 6 (by decide) h) (by decide) (by decide)))|>.app Lx.nl).of (by simp [tierL]) (by simp [tkZ])
theorem tiers_take (l : List Tier) (z : Tier) : ∀ k, k ≤ l.length → tiersL (l ++ [z]) k = (l.take k).flatMap (tierL false)
  | 0, _ => by simp [tiersL]
  | k + 1, h => by
    have e : l[k]? = some l[k] := by simp
    have e2 : (l ++ [z])[k]? = some l[k] := by rw [List.getElem?_append_left (by omega)]; exact e
    rw [tiersL_succ e2, tiers_take l z k (by omega), flat_next _ e]
    have : decide (k + 1 = (l ++ [z]).length) = false := by simp; omega
    rw [this]
theorem tiers_snoc (l : List Tier) (z : Tier) : tiersL (l ++ [z]) (l ++ [z]).length = l.flatMap (tierL false) ++ tierL true z := by
  have e2 : (l ++ [z])[l.length]? = some z := by simp
  have : (l ++ [z]).length = l.length + 1 := by simp
  rw [this, tiersL_succ e2, tiers_take l z l.length (by omega), List.take_length]
  simp
theorem lx_tiers {l : List Tier} {r : Int} (h : ∀ t ∈ l, TOk t) (hr : 0 ≤ r) : Lx (tiersL (l ++ [(⟨0, r⟩ : Tier)]) (l ++ [(⟨0, r⟩ : Tier)]).length) (l.flatMap tkT ++ tkZ r) := by
  rw [tiers_snoc]
  exact (Lx.flat _ _ l fun t ht => lx_tier (h t ht)).app (lx_rest hr)
theorem lx_mode {m : Int} (h0 : 0 ≤ m) (h3 : m ≤ 3) : Lx (modeL m ++ [59]) (modeW m ++ [(5, [59])]) := by
  have : m = 0 ∨ m = 1 ∨ m = 2 ∨ m = 3 := by omega
  rcases this with rfl | rfl | rfl | rfl
  · exact (Lx.ks k_floor (by decide) (by decide)).of (by simp [modeL]) (by simp [modeW])
  · exact (Lx.ks k_ceil (by decide) (by decide)).of (by simp [modeL]) (by simp [modeW])
  · exact (Lx.ks k_halfup (by decide) (by decide)).of (by simp [modeL]) (by simp [modeW])
  · exact (Lx.ks k_halfeven (by decide) (by decide)).of (by simp [modeL]) (by simp [modeW])
theorem lx_adj {a : Adj} (h : AOk a) : Lx (adjL a) (tkA a) := by
  rcases h with ⟨hk, h1, h2, h3⟩ | ⟨hk | hk | hk, h1, h2⟩
  · exact ((((Lx.tab.app (Lx.kw k_percent (by decide))).app (Lx.kw (k_dec 3 (by decide) h1.1) (by decide))).app (lx_mode h2 h3)).app Lx.nl).of (by simp [adjL, hk]) (by simp [tkA, hk])
  · exact (((Lx.tab.app (Lx.kw k_cap (by decide))).app (Lx.ks (k_dig (n := a.n)) (by decide) (by decide))).app Lx.nl).of (by simp [adjL, hk]) (by simp [tkA, hk])
  · exact (((Lx.tab.app (Lx.kw k_minimum (by decide))).app (Lx.ks (k_dig (n := a.n)) (by decide) (by decide))).app Lx.nl).of (by simp [adjL, hk]) (by simp [tkA, hk])
  · exact (((Lx.tab.app (Lx.kw k_add (by decide))).app (Lx.ks (k_dig (n := a.n)) (by decide) (by decide))).app Lx.nl).of (by simp [adjL, hk]) (by simp [tkA, hk])
theorem lx_chg1 {c : Chg} (h1 : NOk c.meter) (h : WOk c.win) : Lx (chg1L c) ([(2, [99, 104, 97, 114, 103, 101]), (1, c.meter.data.toList)] ++ tkW c.win ++ [(5, [123])]) := by
  rcases h with ⟨h0, h2, h3⟩ | h0
  · exact ((((((((Lx.kw k_charge (by decide)).app (Lx.kw h1 (by decide))).app (Lx.kw k_from (by decide))).app (Lx.kw h2.1 (by decide))).app (Lx.kw k_to (by decide))).app (Lx.kw h3.1 (by decide))).app (Lx.sign 123 (by decide)))|>.app Lx.nl).of (by simp [chg1L, winL, h0]) (by simp [tkW, h0])
  · exact ((((Lx.kw k_charge (by decide)).app (Lx.kw h1 (by decide))).app (Lx.sign 123 (by decide)))|>.app Lx.nl).of (by simp [chg1L, winL, h0, noWin]) (by simp [tkW, h0, noWin])
theorem lx_alw (c : Chg) : Lx (alwL c) (if c.allow ≠ 0 then [(2, [97, 108, 108, 111, 119, 97, 110, 99, 101]), (3, digT c.allow), (5, [59])] else []) := by
  unfold alwL
  split
  · exact ((Lx.tab.app (Lx.kw k_allowance (by decide))).app (Lx.ks (k_dig (n := c.allow)) (by decide) (by decide)) |>.app Lx.nl).of (by simp) (by simp)
  · exact Lx.nil
theorem lx_blk (c : Chg) : Lx (blkL c) (if c.block ≠ 1 then [(2, [98, 108, 111, 99, 107]), (3, digT c.block), (5, [59])] else []) := by
  unfold blkL
  split
  · exact ((Lx.tab.app (Lx.kw k_block (by decide))).app (Lx.ks (k_dig (n := c.block)) (by decide) (by decide)) |>.app Lx.nl).of (by simp) (by simp)
  · exact Lx.nil
theorem lx_kind (c : Chg) : Lx (kindL c) [if c.kind = 2 then (2, [118, 111, 108, 117, 109, 101]) else (2, [103, 114, 97, 100, 117, 97, 116, 101, 100]), (5, [123])] := by
  unfold kindL
  split
  · exact ((Lx.tab.app (Lx.kw k_volume (by decide))).app (Lx.sign 123 (by decide)) |>.app Lx.nl).of (by simp) (by simp)
  · exact ((Lx.tab.app (Lx.kw k_graduated (by decide))).app (Lx.sign 123 (by decide)) |>.app Lx.nl).of (by simp) (by simp)
theorem lx_rnd {c : Chg} (h : 0 ≤ c.mode ∧ c.mode ≤ 3) : Lx (rndL c) ([(5, [125]), (2, [114, 111, 117, 110, 100])] ++ modeW c.mode ++ [(5, [59])]) :=
  (((((Lx.tab.app (Lx.sign 125 (by decide))).app Lx.nl).app Lx.tab).app (Lx.kw k_round (by decide))).app (lx_mode h.1 h.2) |>.app Lx.nl).of (by simp [rndL]) (by simp)
theorem lx_chg {c : Chg} {l : List Tier} {r : Int} (h : COk c) (ht : c.tiers = l ++ [⟨0, r⟩]) (hl : ∀ t ∈ l, TOk t) (hr : 0 ≤ r) : Lx (chgL c) (tkC c l r) := by
  have ht' := lx_tiers hl hr
  rw [← ht] at ht'
  exact (((((((lx_chg1 h.meter h.win).app (lx_alw c)).app (lx_blk c)).app (lx_kind c)).app ht').app (lx_rnd h.mode)).app (Lx.flat _ _ c.adjs fun a ha => lx_adj (h.adjs a ha)) |>.app ((Lx.sign 125 (by decide)).app Lx.nl)).of (by simp [chgL]) (by simp [tkC])
/-- a charge's tokens, from the charge alone -/
def tkG (c : Chg) : List Wd := tkC c c.tiers.dropLast (match c.tiers.getLast? with | some t => t.rate | none => 0)
theorem lx_chgG {c : Chg} (h : COk c) : Lx (chgL c) (tkG c) := by
  obtain ⟨l, r, e, hl, hr, _⟩ := h.tiers
  have := lx_chg h e hl hr
  unfold tkG
  rw [e]
  simpa using this
def tkP (p : Plan) : List Wd := tkH p ++ p.mets.flatMap tkM ++ p.fees.flatMap tkF ++ p.chgs.flatMap tkG
/-- the tokens of a plan's plain text -/
theorem lx_plan {p : Plan} (h : POk p) : Lx (planL p) (tkP p) :=
  (((lx_head h).app (Lx.flat _ _ p.mets fun m hm => lx_met (h.mets m hm).1 (h.mets m hm).2.1)).app (Lx.flat _ _ p.fees fun f hf => lx_fee (h.fees f hf).2)).app (Lx.flat _ _ p.chgs fun c hc => lx_chgG (h.chgs c hc))
end Go.Proofs.Ytcgkfgklggjmaaa.Par
end
section
namespace Go.Proofs.Ytcgkfgklggjmaaa.Par
set_option linter.unusedVariables false
set_option linter.unusedSimpArgs false
/-! the words of a plan's plain text, parsed -/
/-- it reads these words off, without a fault, and says x -/
def Rd {α : Type} (F : St → α × St) (ws ws' : List Wd) (x : α) : Prop := ∀ ls : List Tok, Tw ls ws → ∃ ls', Tw ls' ws' ∧ F ⟨ls, 0, 0, 0⟩ = (x, ⟨ls', 0, 0, 0⟩)
theorem Rd.bnd {α β : Type} {F : St → α × St} {G : α → St → β × St} {u v w : List Wd} {x : α} {y : β} (hF : Rd F u v x) (hG : Rd (G x) v w y) : Rd (bnd F G) u w y := by
  intro ls h
  obtain ⟨l1, t1, e1⟩ := hF ls h
  obtain ⟨l2, t2, e2⟩ := hG l1 t1
  refine ⟨l2, t2, ?_⟩
  show G (F ⟨ls, 0, 0, 0⟩).1 (F ⟨ls, 0, 0, 0⟩).2 = _
  rw [e1]; exact e2
theorem Rd.mp {α β : Type} {F : St → α × St} {u v : List Wd} {x : α} (hF : Rd F u v x) (f : α → β) : Rd (mp f F) u v (f x) := by
  intro ls h
  obtain ⟨l1, t1, e1⟩ := hF ls h
  refine ⟨l1, t1, ?_⟩
  show (f (F ⟨ls, 0, 0, 0⟩).1, (F ⟨ls, 0, 0, 0⟩).2) = _
  rw [e1]
theorem Rd.ret {α : Type} (a : α) (u : List Wd) : Rd (fun s => (a, s)) u u a := fun ls h => ⟨ls, h, rfl⟩
theorem Rd.yes {α : Type} {p : Prop} [Decidable p] {F G : St → α × St} {u v : List Wd} {x : α} (hp : p) (h : Rd F u v x) : Rd (fun s => if p then F s else G s) u v x := by
  intro ls hl
  obtain ⟨l1, t1, e1⟩ := h ls hl
  exact ⟨l1, t1, by simp only [if_pos hp]; exact e1⟩
theorem Rd.no {α : Type} {p : Prop} [Decidable p] {F G : St → α × St} {u v : List Wd} {x : α} (hp : ¬ p) (h : Rd G u v x) : Rd (fun s => if p then F s else G s) u v x := by
  intro ls hl
  obtain ⟨l1, t1, e1⟩ := h ls hl
  exact ⟨l1, t1, by simp only [if_neg hp]; exact e1⟩
theorem Rd.of {α : Type} {F : St → α × St} {u v u' v' : List Wd} {x y : α} (h : Rd F u v x) (e : u' = u) (f : v' = v) (g : y = x) : Rd F u' v' y := by subst e f g; exact h
theorem tw_cons {ls : List Tok} {k : Int} {t : List UInt8} {ws : List Wd} (h : Tw ls ((k, t) :: ws)) : ∃ u us, ls = u :: us ∧ u.kind = k ∧ u.text = str t ∧ Tw us ws := by
  cases ls with
  | nil => cases h
  | cons u us =>
    unfold Tw at h
    rw [List.map_cons] at h
    injection h with h1 h2
    injection h1 with h3 h4
    exact ⟨u, us, rfl, h3, by rw [← h4]; rfl, h2⟩
theorem str_inj {a b : List UInt8} (h : str a = str b) : a = b := by
  have := congrArg (fun x : ByteArray => x.data.toList) h
  simpa [str] using this
theorem ba_self (a : ByteArray) : (a == a) = true := by
  have h : (a == a) = (a.data == a.data) := by cases a; rfl
  rw [h]; exact beq_self_eq_true _
theorem rd_eat {k : Int} {t : List UInt8} {ws : List Wd} (hk : k = 2 ∨ k = 5) : Rd (P.eat (str t)) ((k, t) :: ws) ws true := by
  intro ls h
  obtain ⟨u, us, rfl, h1, h2, h3⟩ := tw_cons h
  have ho : on (str t) ⟨u :: us, 0, 0, 0⟩ = true := by
    unfold on peek
    simp only [List.headD_cons, h1, h2]
    rcases hk with rfl | rfl <;> simp [ba_self]
  refine ⟨us, h3, ?_⟩
  unfold P.eat
  rw [if_pos ⟨rfl, ho⟩, next_drop (on_kind ho)]
  rfl
theorem rd_pass {k : Int} {t v : List UInt8} {ws : List Wd} (hk : (k ≠ 2 ∧ k ≠ 5) ∨ t ≠ v) : Rd (P.eat (str v)) ((k, t) :: ws) ((k, t) :: ws) false := by
  intro ls h
  obtain ⟨u, us, rfl, h1, h2, h3⟩ := tw_cons h
  have ho : ¬ on (str v) ⟨u :: us, 0, 0, 0⟩ = true := by
    unfold on peek
    simp only [List.headD_cons, h1, h2]
    rcases hk with ⟨c1, c2⟩ | c
    · simp [c1, c2]
    · have : (str t == str v) = false := by
        rw [Bool.eq_false_iff]; exact fun e => c (str_inj (text_eq e))
      simp [this]
  refine ⟨u :: us, h, ?_⟩
  unfold P.eat
  rw [if_neg fun e => ho e.2]
theorem rd_must {k : Int} {t : List UInt8} {ws : List Wd} (hk : k = 2 ∨ k = 5) : Rd (un (P.must [str t])) ((k, t) :: ws) ws () := by
  intro ls h
  obtain ⟨l1, t1, e1⟩ := rd_eat hk ls h
  refine ⟨l1, t1, ?_⟩
  unfold un
  rw [P.must, e1]
  rfl
theorem rd_must2 {k j : Int} {t v : List UInt8} {ws : List Wd} (hk : k = 2 ∨ k = 5) (hj : j = 2 ∨ j = 5) : Rd (un (P.must [str t, str v])) ((k, t) :: (j, v) :: ws) ws () := by
  rw [must2_eq]
  exact (rd_must hk).bnd (rd_must hj)
theorem rd_kind {k : Int} {t : List UInt8} {ws : List Wd} (hk : k ≠ 0) : Rd (P.kind k) ((k, t) :: ws) ws (str t) := by
  intro ls h
  obtain ⟨u, us, rfl, h1, h2, h3⟩ := tw_cons h
  refine ⟨us, h3, ?_⟩
  have hp : peek ⟨u :: us, 0, 0, 0⟩ = u := rfl
  unfold P.kind
  rw [hp, if_pos h1, next_drop (by rw [hp, h1]; exact hk), h2]
  rfl
theorem rd_number {t : List UInt8} {ws : List Wd} {pl m n : Int} (hn : npV (str t) pl m = (n, 0)) : Rd (P.number npV pl m) ((3, t) :: ws) ws n := by
  intro ls h
  obtain ⟨l1, t1, e1⟩ := rd_kind (by decide) ls h
  refine ⟨l1, t1, ?_⟩
  unfold P.number
  rw [e1]
  simp only [hn]
  rfl
theorem rd_dig {ws : List Wd} {n m : Int} (h : 0 ≤ n ∧ n ≤ m) (hm : m ≤ 1000000000000) : Rd (P.number npV 0 m) ((3, digT n) :: ws) ws n := rd_number (npV_dig h.1 h.2 (by omega))
theorem rd_dec {ws : List Wd} {n m : Int} (k : Nat) (hk : k ≤ 9) (h : 0 ≤ n ∧ n ≤ m) (hm : m ≤ 1000000000000) : Rd (P.number npV k m) ((3, Dec.textL n k) :: ws) ws n := rd_number (npV_dec k hk h.1 h.2 (by omega))
theorem rd_day {ws : List Wd} {d : Day} (h : DOk d) : Rd (P.day dp) ((4, dayT d) :: ws) ws d :=
  ((rd_kind (by decide)).mp dp).of rfl rfl h.2.symm
theorem rd_name {ws : List Wd} {b : ByteArray} : Rd (P.kind 1) ((1, b.data.toList) :: ws) ws b :=
  (rd_kind (by decide)).of rfl rfl (by simp [str])
theorem rd_hit {k : Int} {t : List UInt8} {ws : List Wd} {vs : List ByteArray} {i : Int} (hk : k = 2 ∨ k = 5) : Rd (P.one (str t :: vs) i) ((k, t) :: ws) ws i :=
  (rd_eat hk).bnd (G := fun a s => if a = true then (i, s) else P.one vs (i + 1) s) (Rd.yes rfl (Rd.ret i _))
theorem rd_miss {k : Int} {t v : List UInt8} {ws us : List Wd} {vs : List ByteArray} {i x : Int} (hk : (k ≠ 2 ∧ k ≠ 5) ∨ t ≠ v) (h : Rd (P.one vs (i + 1)) ((k, t) :: ws) us x) : Rd (P.one (str v :: vs) i) ((k, t) :: ws) us x :=
  (rd_pass hk).bnd (G := fun a s => if a = true then (i, s) else P.one vs (i + 1) s) (Rd.no (by decide) h)
theorem rd_none {ws : List Wd} {i : Int} : Rd (P.one [] i) ws ws (-1) := Rd.ret (-1) _
theorem rd_mode {m : Int} {ws : List Wd} (h0 : 0 ≤ m) (h3 : m ≤ 3) : Rd P.mode (modeW m ++ ws) ws m := by
  have hm : m = 0 ∨ m = 1 ∨ m = 2 ∨ m = 3 := by omega
  have H : Rd (P.one [wFloor, wCeil, wHalfup, wHalfeven] 0) (modeW m ++ ws) ws m := by
    rcases hm with rfl | rfl | rfl | rfl
    · exact rd_hit (.inl rfl)
    · exact rd_miss (.inr (by decide)) (rd_hit (.inl rfl))
    · exact rd_miss (.inr (by decide)) (rd_miss (.inr (by decide)) (rd_hit (.inl rfl)))
    · exact rd_miss (.inr (by decide)) (rd_miss (.inr (by decide)) (rd_miss (.inr (by decide)) (rd_hit (.inl rfl))))
  exact H.bnd (G := fun o s => if o < 0 then (0, fail 4 (peek s) s) else (o, s)) (Rd.no (by omega) (Rd.ret m _))
theorem rd_window {w : Win} {t : List UInt8} {ws : List Wd} (h : WOk w) (ht : t ≠ [102, 114, 111, 109]) : Rd (P.window dp) (tkW w ++ (5, t) :: ws) ((5, t) :: ws) w := by
  rcases h with ⟨h0, h1, h2⟩ | rfl
  · have e : tkW w = [(2, [102, 114, 111, 109]), (4, dayT w.from_), (2, [116, 111]), (4, dayT w.to_)] := by unfold tkW; rw [if_pos h0]
    rw [e]
    refine ((rd_eat (.inl rfl)).bnd (G := fun a s => if a = true then bnd (P.day dp) (fun f => bnd (un (P.must [wTo])) (fun _ => mp (fun t => (⟨true, f, t⟩ : Win)) (P.day dp))) s else (noWin, s)) (Rd.yes rfl
      ((rd_day h1).bnd ((rd_must (.inl rfl)).bnd ((rd_day h2).mp _))))).of rfl rfl ?_
    cases w; simp only at h0 ⊢; rw [h0]
  · exact (rd_pass (.inr ht)).bnd (G := fun a s => if a = true then bnd (P.day dp) (fun f => bnd (un (P.must [wTo])) (fun _ => mp (fun t => (⟨true, f, t⟩ : Win)) (P.day dp))) s else (noWin, s)) (Rd.no (by decide) (Rd.ret noWin _))
theorem rd_opt {t : List UInt8} {ws : List Wd} {d n : Int} (h : 0 ≤ n ∧ n ≤ 1000000) : Rd (P.opt npV (str t) d) ((2, t) :: (3, digT n) :: (5, [59]) :: ws) ws n :=
  (rd_eat (.inl rfl)).bnd (G := fun a s => if a = true then bnd (P.number npV 0 1000000) (fun x => mp (fun _ => x) (un (P.must [wSemi]))) s else (d, s)) (Rd.yes rfl ((rd_dig h (by decide)).bnd ((rd_must (.inr rfl)).mp _)))
theorem rd_noopt {k : Int} {t v : List UInt8} {ws : List Wd} {d : Int} (ht : t ≠ v) : Rd (P.opt npV (str v) d) ((k, t) :: ws) ((k, t) :: ws) d :=
  (rd_pass (.inr ht)).bnd (G := fun a s => if a = true then bnd (P.number npV 0 1000000) (fun x => mp (fun _ => x) (un (P.must [wSemi]))) s else (d, s)) (Rd.no (by decide) (Rd.ret d _))
def kw (c : Chg) : List UInt8 := if c.kind = 2 then [118, 111, 108, 117, 109, 101] else [103, 114, 97, 100, 117, 97, 116, 101, 100]
theorem rd_ckind {c : Chg} {ws : List Wd} (h : c.kind = 1 ∨ c.kind = 2) : Rd P.ckind ((2, kw c) :: ws) ws c.kind := by
  rcases h with h | h
  · have e : kw c = [103, 114, 97, 100, 117, 97, 116, 101, 100] := by unfold kw; rw [h]; rfl
    rw [e, h]
    exact (rd_pass (.inr (by decide))).bnd (G := fun a s => if a = true then ((2 : Int), s) else mp (fun _ => (1 : Int)) (un (P.must [wGraduated])) s) (Rd.no (by decide) ((rd_must (.inl rfl)).mp _))
  · have e : kw c = [118, 111, 108, 117, 109, 101] := by unfold kw; rw [h]; rfl
    rw [e, h]
    exact (rd_eat (.inl rfl)).bnd (G := fun a s => if a = true then ((2 : Int), s) else mp (fun _ => (1 : Int)) (un (P.must [wGraduated])) s) (Rd.yes rfl (Rd.ret 2 _))
theorem rd_tierLoop {t : List UInt8} {ws : List Wd} (ht : t ≠ [117, 112, 116, 111]) : ∀ (l : List Tier) (f : Nat) (acc : List Tier), (∀ x ∈ l, TOk x) → l.length < f → Rd (P.tierLoop npV f acc) (l.flatMap tkT ++ (2, t) :: ws) ((2, t) :: ws) (acc ++ l)
  | _, 0, _, _, h => absurd h (by omega)
  | [], f + 1, acc, _, _ =>
    ((rd_pass (.inr ht)).bnd (G := fun a s => if a = true then bnd (P.number npV 0 1000000) (fun x => bnd (un (P.must [wRate])) (fun _ => bnd (P.number npV 6 1000000000000) (fun y => bnd (un (P.must [wSemi])) (fun _ => P.tierLoop npV f (acc ++ [(⟨x, y⟩ : Tier)]))))) s else (acc, s))
      (Rd.no (by decide) (Rd.ret acc _))).of rfl rfl (by simp)
  | x :: l, f + 1, acc, hl, h => by
    have hx := hl x (by simp)
    have hr := rd_tierLoop (ws := ws) ht l f (acc ++ [x]) (fun y hy => hl y (by simp [hy])) (by simpa using h)
    exact ((rd_eat (.inl rfl)).bnd (G := fun a s => if a = true then bnd (P.number npV 0 1000000) (fun x => bnd (un (P.must [wRate])) (fun _ => bnd (P.number npV 6 1000000000000) (fun y => bnd (un (P.must [wSemi])) (fun _ => P.tierLoop npV f (acc ++ [(⟨x, y⟩ : Tier)]))))) s else (acc, s))
      (Rd.yes rfl ((rd_dig hx.1 (by decide)).bnd ((rd_must (.inl rfl)).bnd ((rd_dec 6 (by decide) hx.2 (by decide)).bnd ((rd_must (.inr rfl)).bnd hr)))))).of (by simp [tkT]) rfl (by simp)
theorem tw_len {ls : List Tok} {ws : List Wd} (h : Tw ls ws) : ls.length = ws.length := by
  unfold Tw at h; rw [← h, List.length_map]
theorem flat_len {α : Type} {g : α → List Wd} (hg : ∀ x, g x ≠ []) : ∀ l : List α, l.length ≤ (l.flatMap g).length
  | [] => by simp
  | x :: l => by
    have := flat_len hg l
    have h1 : 0 < (g x).length := List.length_pos_iff.2 (hg x)
    rw [List.flatMap_cons, List.length_append, List.length_cons]; omega
theorem rd_tierAll {t : List UInt8} {ws : List Wd} (ht : t ≠ [117, 112, 116, 111]) {l : List Tier} (hl : ∀ x ∈ l, TOk x) : Rd (P.tierAll npV []) (l.flatMap tkT ++ (2, t) :: ws) ((2, t) :: ws) l := by
  intro ls h
  have h1 := tw_len h
  have h2 := flat_len (g := tkT) (by intro x; simp [tkT]) l
  rw [List.length_append, List.length_cons] at h1
  exact rd_tierLoop ht l ls.length [] hl (by omega) ls h
theorem rd_tiers {l : List Tier} {r : Int} {ws : List Wd} (hl : ∀ x ∈ l, TOk x) (hr : 0 ≤ r ∧ r ≤ 1000000000000) : Rd (P.tiers npV) ((5, [123]) :: (l.flatMap tkT ++ (2, [114, 101, 115, 116]) :: (2, [114, 97, 116, 101]) :: (3, Dec.textL r 6) :: (5, [59]) :: (5, [125]) :: ws)) ws (l ++ [⟨0, r⟩]) :=
  (rd_must (.inr rfl)).bnd (G := fun _ => bnd (P.tierAll npV []) (fun l => bnd (un (P.must [wRest, wRate])) (fun _ => bnd (P.number npV 6 1000000000000) (fun r => mp (fun _ => l ++ [(⟨0, r⟩ : Tier)]) (un (P.must [wSemi, wClose]))))))
    ((rd_tierAll (by decide) hl).bnd ((rd_must2 (.inl rfl) (.inl rfl)).bnd ((rd_dec 6 (by decide) hr (by decide)).bnd ((rd_must2 (.inr rfl) (.inr rfl)).mp _))))
end Go.Proofs.Ytcgkfgklggjmaaa.Par
end
section
namespace Go.Proofs.Ytcgkfgklggjmaaa.Par
set_option linter.unusedVariables false
set_option linter.unusedSimpArgs false
/-! a charge, an item, the plan: parsed -/
theorem rd_adjBody {a : Adj} {ws : List Wd} (h : AOk a) : Rd (P.adjBody npV a.kind) ((3, if a.kind = 1 then Dec.textL a.n 3 else digT a.n) :: ((if a.kind = 1 then modeW a.mode else []) ++ (5, [59]) :: ws)) ws a := by
  have e : P.adjBody npV a.kind = fun s => if a.kind = 1 then bnd (P.number npV 3 100000000) (fun n => bnd P.mode (fun m => mp (fun _ => (⟨1, n, m⟩ : Adj)) (un (P.must [wSemi])))) s else bnd (P.number npV 0 1000000000000) (fun n => mp (fun _ => (⟨a.kind, n, 0⟩ : Adj)) (un (P.must [wSemi]))) s := rfl
  rw [e]
  rcases h with ⟨hk, h1, h2, h3⟩ | ⟨hk, h1, h2⟩
  · rw [if_pos hk, if_pos hk]
    refine (Rd.yes hk ((rd_dec 3 (by decide) h1 (by decide)).bnd ((rd_mode h2 h3).bnd ((rd_must (.inr rfl)).mp _)))).of rfl rfl ?_
    cases a; simp only at hk ⊢; rw [hk]
  · have hk' : ¬ a.kind = 1 := by omega
    rw [if_neg hk', if_neg hk']
    refine (Rd.no hk' ((rd_dig h1 (by decide)).bnd ((rd_must (.inr rfl)).mp _))).of rfl rfl ?_
    cases a; simp only at h2 ⊢; rw [h2]
def adW (a : Adj) : List UInt8 := if a.kind = 1 then [112, 101, 114, 99, 101, 110, 116] else if a.kind = 2 then [99, 97, 112] else if a.kind = 3 then [109, 105, 110, 105, 109, 117, 109] else [97, 100, 100]
theorem tkA_eq {a : Adj} (h : AOk a) : tkA a = (2, adW a) :: (3, if a.kind = 1 then Dec.textL a.n 3 else digT a.n) :: ((if a.kind = 1 then modeW a.mode else []) ++ [(5, [59])]) := by
  unfold tkA adW
  rcases h with ⟨hk, _⟩ | ⟨hk | hk | hk, _⟩ <;> simp [hk]
theorem rd_adjust {a : Adj} {ws : List Wd} (h : AOk a) : Rd (P.adjust npV) (tkA a ++ ws) ws (a, true) := by
  have H : ∀ us, Rd (P.one [wPercent, wCap, wMinimum, wAdd] 1) ((2, adW a) :: us) us a.kind := by
    intro us
    unfold adW
    rcases h with ⟨hk, _⟩ | ⟨hk | hk | hk, _⟩ <;> rw [hk]
    · exact rd_hit (.inl rfl)
    · exact rd_miss (.inr (by decide)) (rd_hit (.inl rfl))
    · exact rd_miss (.inr (by decide)) (rd_miss (.inr (by decide)) (rd_hit (.inl rfl)))
    · exact rd_miss (.inr (by decide)) (rd_miss (.inr (by decide)) (rd_miss (.inr (by decide)) (rd_hit (.inl rfl))))
  have hk : ¬ a.kind < 0 := by rcases h with ⟨hk, _⟩ | ⟨hk | hk | hk, _⟩ <;> omega
  exact ((H _).bnd (G := fun o s => if o < 0 then (((⟨0, 0, 0⟩ : Adj), false), s) else mp (fun b => (b, true)) (P.adjBody npV o) s) (Rd.no hk ((rd_adjBody h).mp _))).of (by rw [tkA_eq h]; simp) rfl rfl
theorem rd_adjust_no {t : List UInt8} {ws : List Wd} : Rd (P.adjust npV) ((5, [125]) :: ws) ((5, [125]) :: ws) (⟨0, 0, 0⟩, false) :=
  (rd_miss (.inr (by decide)) (rd_miss (.inr (by decide)) (rd_miss (.inr (by decide)) (rd_miss (.inr (by decide)) rd_none)))).bnd (G := fun o s => if o < 0 then (((⟨0, 0, 0⟩ : Adj), false), s) else mp (fun b => (b, true)) (P.adjBody npV o) s) (Rd.yes (by decide) (Rd.ret _ _))
theorem Rd.err {α : Type} {p : Prop} [Decidable p] {F : St → α × St} {a : α} {u v : List Wd} {x : α} (hp : ¬ p) (h : Rd F u v x) : Rd (fun s => if p ∨ s.err ≠ 0 then (a, s) else F s) u v x := by
  intro ls hl
  obtain ⟨l1, t1, e1⟩ := h ls hl
  refine ⟨l1, t1, ?_⟩
  simp only
  rw [if_neg (by rintro (c | c); exact hp c; exact c rfl)]
  exact e1
theorem Rd.stop {α : Type} {p : Prop} [Decidable p] {F : St → α × St} {a : α} {u : List Wd} (hp : p) : Rd (fun s => if p ∨ s.err ≠ 0 then (a, s) else F s) u u a := by
  intro ls hl
  exact ⟨ls, hl, by simp only; rw [if_pos (.inl hp)]⟩
theorem rd_adjLoop {ws : List Wd} : ∀ (l : List Adj) (f : Nat) (acc : List Adj), (∀ x ∈ l, AOk x) → l.length < f → Rd (P.adjLoop npV f acc) (l.flatMap tkA ++ (5, [125]) :: ws) ((5, [125]) :: ws) (acc ++ l)
  | _, 0, _, _, h => absurd h (by omega)
  | [], f + 1, acc, _, _ => ((rd_adjust_no (t := [])).bnd (G := fun (a : Adj × Bool) s => if a.2 = false ∨ s.err ≠ 0 then (acc, s) else P.adjLoop npV f (acc ++ [a.1]) s) (Rd.stop rfl)).of rfl rfl (by simp)
  | x :: l, f + 1, acc, hl, h =>
    ((rd_adjust (hl x (by simp))).bnd (G := fun (a : Adj × Bool) s => if a.2 = false ∨ s.err ≠ 0 then (acc, s) else P.adjLoop npV f (acc ++ [a.1]) s)
      (Rd.err (by simp) (rd_adjLoop l f (acc ++ [x]) (fun y hy => hl y (by simp [hy])) (by simpa using h)))).of (by simp) rfl (by simp)
theorem tkA_ne {a : Adj} (h : AOk a) : tkA a ≠ [] := by rw [tkA_eq h]; simp
theorem flat_len' {α : Type} {g : α → List Wd} : ∀ l : List α, (∀ x ∈ l, g x ≠ []) → l.length ≤ (l.flatMap g).length
  | [], _ => by simp
  | x :: l, hg => by
    have := flat_len' l fun y hy => hg y (by simp [hy])
    have h1 : 0 < (g x).length := List.length_pos_iff.2 (hg x (by simp))
    rw [List.flatMap_cons, List.length_append, List.length_cons]; omega
theorem rd_adjAll {l : List Adj} {ws : List Wd} (hl : ∀ x ∈ l, AOk x) : Rd (P.adjAll npV []) (l.flatMap tkA ++ (5, [125]) :: ws) ((5, [125]) :: ws) l := by
  intro ls h
  have h1 := tw_len h
  have h2 := flat_len' (g := tkA) l fun x hx => tkA_ne (hl x hx)
  rw [List.length_append, List.length_cons] at h1
  exact rd_adjLoop l ls.length [] hl (by omega) ls h
theorem rd_opts {c : Chg} {ws : List Wd} (h : COk c) : Rd (bnd (P.opt npV wAllowance 0) fun a => mp (fun b => (a, b)) (P.opt npV wBlock 1))
    ((if c.allow ≠ 0 then [((2 : Int), [97, 108, 108, 111, 119, 97, 110, 99, 101]), (3, digT c.allow), (5, [59])] else []) ++ ((if c.block ≠ 1 then [((2 : Int), [98, 108, 111, 99, 107]), (3, digT c.block), (5, [59])] else []) ++ (2, kw c) :: ws)) ((2, kw c) :: ws) (c.allow, c.block) := by
  have k1 : kw c ≠ [97, 108, 108, 111, 119, 97, 110, 99, 101] := by unfold kw; split <;> decide
  have k2 : kw c ≠ [98, 108, 111, 99, 107] := by unfold kw; split <;> decide
  have hA := h.allow
  have hB := h.block
  have HB : ∀ us, Rd (P.opt npV wBlock 1) ((if c.block ≠ 1 then [((2 : Int), [98, 108, 111, 99, 107]), (3, digT c.block), (5, [59])] else []) ++ (2, kw c) :: us) ((2, kw c) :: us) c.block := by
    intro us
    by_cases hb : c.block = 1
    · rw [if_neg (by simp [hb]), hb]; exact rd_noopt k2
    · rw [if_pos hb]; exact rd_opt hB
  by_cases ha : c.allow = 0
  · rw [if_neg (by simp [ha])]
    refine Rd.bnd ?_ ((HB ws).mp _)
    rw [List.nil_append]
    by_cases hb : c.block = 1
    · rw [if_neg (by simp [hb]), ha]; exact rd_noopt k1
    · rw [if_pos hb, ha]; exact rd_noopt (by decide)
  · rw [if_pos ha]
    exact (rd_opt hA).bnd ((HB ws).mp _)
theorem rd_charge {c : Chg} {l : List Tier} {r : Int} {ws : List Wd} (h : COk c) (ht : c.tiers = l ++ [⟨0, r⟩]) (hl : ∀ t ∈ l, TOk t) (hr : 0 ≤ r ∧ r ≤ 1000000000000) :
    Rd (P.charge dp npV 0 0) ((tkC c l r).tail ++ ws) ws (sC c) := by
  have H : Rd (bnd (P.kind 1) fun n => bnd (P.window dp) fun w => bnd (un (P.must [wOpen])) fun _ => bnd (bnd (P.opt npV wAllowance 0) fun a => mp (fun b => (a, b)) (P.opt npV wBlock 1)) fun ab => bnd P.ckind fun k => bnd (P.tiers npV) fun t =>
      bnd (un (P.must [wRound])) fun _ => bnd P.mode fun m => bnd (un (P.must [wSemi])) fun _ => bnd (P.adjAll npV []) fun d => mp (fun _ => (⟨n, w, ab.1, ab.2, k, t, m, d, 0, 0⟩ : Chg)) (un (P.must [wClose])))
      ((1, c.meter.data.toList) :: (tkW c.win ++ (5, [123]) :: ((if c.allow ≠ 0 then [((2 : Int), [97, 108, 108, 111, 119, 97, 110, 99, 101]), (3, digT c.allow), (5, [59])] else []) ++ ((if c.block ≠ 1 then [((2 : Int), [98, 108, 111, 99, 107]), (3, digT c.block), (5, [59])] else []) ++ (2, kw c) ::
        (5, [123]) :: (l.flatMap tkT ++ (2, [114, 101, 115, 116]) :: (2, [114, 97, 116, 101]) :: (3, Dec.textL r 6) :: (5, [59]) :: (5, [125]) :: (2, [114, 111, 117, 110, 100]) :: (modeW c.mode ++ (5, [59]) :: (c.adjs.flatMap tkA ++ (5, [125]) :: ws))))))) ws
      ⟨c.meter, c.win, c.allow, c.block, c.kind, l ++ [⟨0, r⟩], c.mode, c.adjs, 0, 0⟩ :=
    rd_name.bnd ((rd_window h.win (by decide)).bnd ((rd_must (.inr rfl)).bnd ((rd_opts h).bnd ((rd_ckind h.kind).bnd ((rd_tiers hl hr).bnd ((rd_must (.inl rfl)).bnd ((rd_mode h.mode.1 h.mode.2).bnd ((rd_must (.inr rfl)).bnd ((rd_adjAll h.adjs).bnd ((rd_must (.inr rfl)).mp _))))))))))
  refine Rd.of (F := P.charge dp npV 0 0) H ?_ rfl ?_
  · have hk : (if c.kind = 2 then ((2 : Int), ([118, 111, 108, 117, 109, 101] : List UInt8)) else (2, [103, 114, 97, 100, 117, 97, 116, 101, 100])) = (2, kw c) := by unfold kw; split <;> rfl
    simp only [tkC, hk, tkZ, List.cons_append, List.nil_append, List.append_assoc, List.tail_cons]
  · unfold sC; rw [← ht]
theorem rd_met {m : Met} {ws : List Wd} (h : 0 ≤ m.max ∧ m.max ≤ 2000) : Rd (P.meter npV 0 0) ((tkM m).tail ++ ws) ws (sM m) :=
  (Rd.bnd (F := P.kind 1) (G := fun n => bnd (un (P.must [wUnit])) fun _ => bnd (P.kind 1) fun x => bnd (un (P.must [wMax])) fun _ => bnd (P.number npV 0 2000) fun m => mp (fun _ => (⟨n, x, m, 0, 0⟩ : Met)) (un (P.must [wSemi])))
    rd_name ((rd_must (.inl rfl)).bnd (rd_name.bnd ((rd_must (.inl rfl)).bnd ((rd_dig h (by decide)).bnd ((rd_must (.inr rfl)).mp _)))))).of (v := ws) (by simp [tkM]) rfl rfl
theorem rd_fee {f : Fee} {ws : List Wd} (h : 0 ≤ f.amount ∧ f.amount ≤ 1000000000000) (hw : WOk f.win) : Rd (P.fee dp npV 0 0) ((tkF f).tail ++ ws) ws (sF f) :=
  (Rd.bnd (F := P.number npV 0 1000000000000) (G := fun x => bnd (P.window dp) fun w => mp (fun _ => (⟨x, w, 0, 0⟩ : Fee)) (un (P.must [wSemi])))
    (rd_dig h (by decide)) ((rd_window hw (by decide)).bnd ((rd_must (.inr rfl)).mp _))).of (v := ws) (by simp [tkF]) rfl rfl
/-- an item's words -/
theorem rd_itm_met {m : Met} {ws : List Wd} (h : 0 ≤ m.max ∧ m.max ≤ 2000) : Rd (itm dp npV) (tkM m ++ ws) ws (.met (sM m)) :=
  ((rd_hit (.inl rfl)).bnd (Rd.yes rfl ((rd_met h).mp Thing.met))).of (v := ws) (by simp [tkM]) rfl rfl
theorem rd_itm_fee {f : Fee} {ws : List Wd} (h : 0 ≤ f.amount ∧ f.amount ≤ 1000000000000) (hw : WOk f.win) : Rd (itm dp npV) (tkF f ++ ws) ws (.fee (sF f)) :=
  ((rd_miss (.inr (by decide)) (rd_hit (.inl rfl))).bnd (Rd.no (by decide) (Rd.yes rfl ((rd_fee h hw).mp Thing.fee)))).of (v := ws) (by simp [tkF]) rfl rfl
end Go.Proofs.Ytcgkfgklggjmaaa.Par
end
section
namespace Go.Proofs.Ytcgkfgklggjmaaa.Par
set_option linter.unusedVariables false
set_option linter.unusedSimpArgs false
/-! a plan's plain text is read back -/
theorem rd_itm_chg {c : Chg} {ws : List Wd} (h : COk c) : Rd (itm dp npV) (tkG c ++ ws) ws (.chg (sC c)) := by
  obtain ⟨l, r, ht, hl, hr⟩ := h.tiers
  have e : tkG c = tkC c l r := by unfold tkG; rw [ht]; simp
  have e2 : ∃ us, tkC c l r = (2, [99, 104, 97, 114, 103, 101]) :: us := ⟨_, by simp only [tkC, List.cons_append, List.nil_append]; rfl⟩
  obtain ⟨us, e2⟩ := e2
  have hc := rd_charge (ws := ws) h ht hl hr
  rw [e, e2]
  rw [e2] at hc
  exact ((rd_miss (.inr (by decide)) (rd_miss (.inr (by decide)) (rd_hit (.inl rfl)))).bnd (Rd.no (by decide) (Rd.no (by decide) (Rd.yes rfl (hc.mp Thing.chg)))))
theorem rd_items : ∀ (xs : List (Thing × List Wd)), (∀ x ∈ xs, (∀ ws, Rd (itm dp npV) (x.2 ++ ws) ws x.1) ∧ ∃ k t us, x.2 = (k, t) :: us ∧ k ≠ 0) → ∀ (p q : Plan) (ls : List Tok), Tw ls (xs.flatMap (·.2) ++ [(0, [])]) → strip p = strip q →
    ∃ p' ls', P.itemsAll dp npV p ⟨ls, 0, 0, 0⟩ = (p', ⟨ls', 0, 0, 0⟩) ∧ strip p' = strip (xs.foldl (fun p x => put p 0 0 x.1) q)
  | [], _, p, q, ls, h, hp => by
    obtain ⟨u, us, rfl, h1, h2, h3⟩ := tw_cons h
    exact ⟨p, u :: us, itemsAll_end dp npV (.inr h1), hp⟩
  | x :: xs, hx, p, q, ls, h, hp => by
    obtain ⟨h1, k, t, us, h2, h3⟩ := hx x (by simp)
    rw [List.flatMap_cons, List.append_assoc] at h
    have hk : (peek ⟨ls, 0, 0, 0⟩).kind ≠ 0 := by
      rw [h2] at h
      obtain ⟨u, us, rfl, h4, h5, h6⟩ := tw_cons h
      exact fun e => h3 (h4 ▸ e)
    obtain ⟨l1, t1, e1⟩ := h1 _ ls h
    rw [itemsAll_itm dp npV (s := ⟨ls, 0, 0, 0⟩) rfl hk, e1]
    exact rd_items xs (fun y hy => hx y (by simp [hy])) _ _ l1 t1 (strip_put hp _ _ _ _ _)
theorem rd_hd {p : Plan} {ws : List Wd} (h1 : DOk p.from_) (h2 : DOk p.to_) : Rd (hd dp) (tkH p ++ ws) ws ⟨p.name, p.cur, p.from_, p.to_, [], [], [], 0, 0⟩ := by
  have H : Rd (hd dp) ((2, [112, 108, 97, 110]) :: (1, p.name.data.toList) :: (2, [99, 117, 114, 114, 101, 110, 99, 121]) :: (1, p.cur.data.toList) :: (5, [59]) :: (2, [104, 111, 114, 105, 122, 111, 110]) :: (4, dayT p.from_) :: (4, dayT p.to_) :: (5, [59]) :: ws) ws ⟨p.name, p.cur, p.from_, p.to_, [], [], [], 0, 0⟩ :=
    (rd_must (.inl rfl)).bnd (rd_name.bnd ((rd_must (.inl rfl)).bnd (rd_name.bnd ((rd_must2 (.inr rfl) (.inl rfl)).bnd ((rd_day h1).bnd ((rd_day h2).bnd ((rd_must (.inr rfl)).mp _)))))))
  exact H
def itms (p : Plan) : List (Thing × List Wd) := p.mets.map (fun m => (Thing.met (sM m), tkM m)) ++ p.fees.map (fun f => (Thing.fee (sF f), tkF f)) ++ p.chgs.map (fun c => (Thing.chg (sC c), tkG c))
theorem itms_flat (p : Plan) : (itms p).flatMap (·.2) = p.mets.flatMap tkM ++ p.fees.flatMap tkF ++ p.chgs.flatMap tkG := by
  unfold itms
  simp only [List.flatMap_append, List.flatMap_map]
theorem fold_met : ∀ (l : List Met) (q : Plan), (l.map (fun m => (Thing.met (sM m), tkM m))).foldl (fun p x => put p 0 0 x.1) q = { q with mets := q.mets ++ l.map sM }
  | [], q => by simp
  | m :: l, q => by
    rw [List.map_cons, List.foldl_cons, fold_met l]
    simp [put, sM]
theorem fold_fee : ∀ (l : List Fee) (q : Plan), (l.map (fun m => (Thing.fee (sF m), tkF m))).foldl (fun p x => put p 0 0 x.1) q = { q with fees := q.fees ++ l.map sF }
  | [], q => by simp
  | m :: l, q => by
    rw [List.map_cons, List.foldl_cons, fold_fee l]
    simp [put, sF]
theorem fold_chg : ∀ (l : List Chg) (q : Plan), (l.map (fun m => (Thing.chg (sC m), tkG m))).foldl (fun p x => put p 0 0 x.1) q = { q with chgs := q.chgs ++ l.map sC }
  | [], q => by simp
  | m :: l, q => by
    rw [List.map_cons, List.foldl_cons, fold_chg l]
    simp [put, sC]
theorem strip_itms (p : Plan) (li co : Int) : strip ((itms p).foldl (fun p x => put p 0 0 x.1) ⟨p.name, p.cur, p.from_, p.to_, [], [], [], li, co⟩) = strip p := by
  unfold itms
  rw [List.foldl_append, List.foldl_append, fold_met, fold_fee, fold_chg]
  have e1 : sM ∘ sM = sM := rfl
  have e2 : sF ∘ sF = sF := rfl
  have e3 : sC ∘ sC = sC := rfl
  simp [strip, e1, e2, e3]
theorem itms_ok {p : Plan} (h : POk p) : ∀ x ∈ itms p, (∀ ws, Rd (itm dp npV) (x.2 ++ ws) ws x.1) ∧ ∃ k t us, x.2 = (k, t) :: us ∧ k ≠ 0 := by
  intro x hx
  unfold itms at hx
  rw [List.mem_append, List.mem_append, List.mem_map, List.mem_map, List.mem_map] at hx
  rcases hx with (⟨m, hm, rfl⟩ | ⟨f, hf, rfl⟩) | ⟨c, hc, rfl⟩
  · exact ⟨fun ws => rd_itm_met (h.mets m hm).2.2, 2, _, _, rfl, by decide⟩
  · exact ⟨fun ws => rd_itm_fee (h.fees f hf).1 (h.fees f hf).2, 2, [102, 101, 101], (tkF f).tail, by simp [tkF], by decide⟩
  · exact ⟨fun ws => rd_itm_chg (h.chgs c hc), 2, [99, 104, 97, 114, 103, 101], (tkG c).tail, by simp only [tkG, tkC, List.cons_append, List.nil_append, List.tail_cons], by decide⟩
/-- the text of a plan, read again, is the plan: but for places -/
theorem plan_read {p : Plan} (h : POk p) (hl : (planL p).length ≤ 8192) : (RParse (planL p)).2 = (0, 0, 0) ∧ strip (RParse (planL p)).1 = strip p := by
  obtain ⟨ls, n, c, hall, ht⟩ := (lx_plan h).all hl
  have htw : Tw (ls ++ [⟨0, ⟨#[]⟩, n, c⟩]) (tkH p ++ ((itms p).flatMap (·.2) ++ [(0, [])])) := by
    rw [itms_flat]
    unfold Tw at ht ⊢
    rw [List.map_append, ht]
    simp [tkP]
  obtain ⟨l1, t1, e1⟩ := rd_hd h.from_ h.to_ _ htw
  have hs := plan_same dp npV (ls ++ [⟨0, ⟨#[]⟩, n, c⟩])
  have hP := plan_hd dp npV (ls ++ [⟨0, ⟨#[]⟩, n, c⟩])
  rw [e1] at hP
  obtain ⟨p', l2, e2, e3⟩ := rd_items (itms p) (itms_ok h) { (⟨p.name, p.cur, p.from_, p.to_, [], [], [], 0, 0⟩ : Plan) with line := (peek ⟨ls ++ [⟨0, ⟨#[]⟩, n, c⟩], 0, 0, 0⟩).line, col := (peek ⟨ls ++ [⟨0, ⟨#[]⟩, n, c⟩], 0, 0, 0⟩).col } _ l1 t1 rfl
  rw [e2] at hP
  rw [hP] at hs
  have hr := RParse_ok hall hs.1.symm
  rw [hr, ← hs.2.2.2 rfl]
  exact ⟨rfl, e3.trans (strip_itms p _ _)⟩
end Go.Proofs.Ytcgkfgklggjmaaa.Par
end
section
namespace Go.Proofs.Ytcgkfgklggjmaaa
set_option linter.unusedVariables false
set_option linter.unusedSimpArgs false
open Go.RowKit
def GT (w : World) : Prop := Lib.TabIs Try.prog w "internal/strconv.uint64pow10" .u64 Lib.pow10Tab
theorem bl_growN {w v : World} (h : Below w.heap.size w v) (k : Nat) (os : Array Obj) : Below w.heap.size w (Go.Sort.grow (v.drewN k) os) :=
  bl_call h ⟨rfl, rfl, rfl, by simp [Go.Sort.grow], fun i hi => by
    show ((v.drewN k).heap ++ os)[i]? = _
    rw [Array.getElem?_append_left (by show i < v.heap.size; omega)]
    rfl⟩
structure LB (w w' : World) : Prop where
  out : Below w.heap.size w w'
theorem LB.drew {w v : World} (h : LB w v) : LB w v.drew := ⟨bl_drew h.out⟩
theorem LB.call {w v w' : World} (h : LB w v) (hb : Below v.heap.size v w') : LB w w' := ⟨bl_call h.out hb⟩
theorem LB.start (w : World) : LB w w := ⟨bl_refl w⟩
theorem LB.alloc {w v : World} (h : LB w v) (o : Obj) : LB w (v.alloc o) := ⟨bl_alloc h.out o⟩
theorem cell_keep {v w' : World} {p : Addr} {x : Value} (h : v.cell? p = some x) (hb : Below v.heap.size v w') : w'.cell? p = some x := (hb.cell (World.block_lt_of_cell? v _ h)).trans h
theorem lt_ten {n k : Nat} (hn : n < 10 ^ k) (hk : k ≤ 4) : n < 10000 := Nat.lt_of_lt_of_le hn (Nat.pow_le_pow_right (by omega) hk)
theorem repeat_char (c : Nat) : Lib.repeatL (ByteArray.mk #[48]).data.toList c = List.replicate c 48 := by
  have := Lib.repeatL_replicate 48 1 c
  rw [Nat.mul_one] at this
  exact this
theorem pad_cat (a b : List UInt8) : (ByteArray.mk a.toArray) ++ ⟨b.toArray⟩ = ⟨(a ++ b).toArray⟩ := by
  apply ByteArray.ext; simp
structure PadOk (n k : Int) : Prop where
  h0 : 0 ≤ n
  hn : n.toNat < 10 ^ k.toNat
  hk : 1 ≤ k
  hk4 : k ≤ 4
theorem pad4 {n : Int} (h0 : 0 ≤ n) (h1 : n ≤ 9999) : PadOk n 4 := ⟨h0, by show n.toNat < 10 ^ 4; omega, by omega, by omega⟩
theorem pad2 {n : Int} (h0 : 0 ≤ n) (h1 : n ≤ 99) : PadOk n 2 := ⟨h0, by show n.toNat < 10 ^ 2; omega, by omega, by omega⟩
theorem text_cat (a b c : List UInt8) : (ByteArray.mk a.toArray) ++ ⟨#[45]⟩ ++ ⟨b.toArray⟩ ++ ⟨#[45]⟩ ++ ⟨c.toArray⟩ = ⟨(a ++ 45 :: (b ++ 45 :: c)).toArray⟩ := by
  apply ByteArray.ext; simp
end Go.Proofs.Ytcgkfgklggjmaaa
end
section
namespace Go.Proofs.Ytcgkfgklggjmaaa
set_option linter.unusedVariables false
set_option linter.unusedSimpArgs false
open Go.RowKit
theorem one_byte (w : World) (N : Nat) (h : (48 + (N : Int) % 10) = ((UInt8.ofNat (48 + N % 10)).toNat : Int)) :
    (convert 90 9 (.slice (some ⟨w.heap.size, 0, none⟩) 1 1)).run Try.prog (w.alloc (.cells #[.int .u8 (48 + (N : Int) % 10)] 5)) = .ok (.string ⟨#[UInt8.ofNat (48 + N % 10)]⟩) (w.alloc (.cells #[.int .u8 (48 + (N : Int) % 10)] 5)) := by
  refine run_convert_bytes_back _ _ _ 5 ⟨w.heap.size, 0, none⟩ 1 [UInt8.ofNat (48 + N % 10)] Try.underlying90 Try.underlying5 Try.underlying9 fun j hj => ?_
  obtain rfl : j = 0 := by simpa using hj
  have hb := (Blk.new w 5 #[.int .u8 (48 + (N : Int) % 10)]).cell 0
  simp only [List.getElem_cons_zero, ← h]
  exact hb
set_option maxHeartbeats 2000000 in
set_option maxRecDepth 100000 in
theorem rdigits_any (n k : Nat) (w : World) (hn : n ≤ 9999) (hk : k ≤ 4) :
    Calls Try.prog 25 #[.int .i64 n, .int .i64 k] w fun e w' => e = .returned (.string ⟨(digL n k).toArray⟩) ∧ Below w.heap.size w w' := by
  obtain ⟨ds, hds⟩ : ∃ ds, digL n k = ds := ⟨_, rfl⟩
  rw [hds]
  have HD := Lib.hid hds
  clear hds
  go_enter Try.func25, Try.ntmps25
  go_wp2_with fail
  go_loopw [0, 5, 6] (fun v0 v5 v6 wr => ∃ (i N : Nat) (s : List UInt8), i ≤ k ∧ N ≤ 9999 ∧ s.length ≤ i ∧ v6 = .int .i64 i ∧ v0 = .int .i64 N ∧ v5 = .string ⟨s.toArray⟩ ∧ Hid (digL N (k - i) ++ s = ds) ∧ Below w.heap.size w wr) (fun _ _ v6 _ => k - (intOf v6).toNat)
  case atStart => exact ⟨0, n, [], Nat.zero_le _, hn, Nat.le_refl _, rfl, rfl, rfl, Lib.hid (by rw [Nat.sub_zero, List.append_nil]; exact HD.out), bl_refl w⟩
  case round =>
    obtain ⟨i, N, s, hi, hN, hsl, rfl, rfl, rfl, HI, hbw⟩ := hrel
    by_cases hlt : i < k
    · have hu : (48 + (N : Int) % 10) = ((UInt8.ofNat (48 + N % 10)).toNat : Int) := by
        rw [UInt8.toNat_ofNat_of_lt' (show 48 + N % 10 < 256 by omega)]; omega
      have hcv := one_byte wr N hu
      clear hu
      have hov : ¬ 9223372036854775807 < 1 + s.length := by omega
      go_wp2_with fail
      go_roundw
      case rel =>
        refine ⟨i + 1, N / 10, UInt8.ofNat (48 + N % 10) :: s, by omega, by omega, by simpa using hsl, by go_num, by go_num, ?_, Lib.hid ?_, bl_alloc hbw _⟩
        · refine congrArg Value.string ?_
          apply ByteArray.ext; simp
        · rw [← HI.out, show k - i = (k - (i + 1)) + 1 from by omega, digL, List.append_assoc]
          rfl
      case measure => simp [intOf]; omega
    · obtain rfl : i = k := by omega
      have hf := HI.out
      rw [Nat.sub_self, digL, List.nil_append] at hf
      subst hf
      go_wp2_with fail
      go_ret
      exact ⟨rfl, hbw⟩
theorem rdigits_int (n k : Int) (w : World) (h : PadOk n k) :
    Calls Try.prog 25 #[.int .i64 n, .int .i64 k] w fun e w' => e = .returned (.string ⟨(digL n.toNat k.toNat).toArray⟩) ∧ Below w.heap.size w w' := by
  have h1 := h.hk
  have h2 := h.hk4
  have h3 := lt_ten h.hn (show k.toNat ≤ 4 by omega)
  have hp := rdigits_any n.toNat k.toNat w (by omega) (by omega)
  rwa [Int.toNat_of_nonneg h.h0, Int.toNat_of_nonneg (by omega)] at hp
set_option maxHeartbeats 400000 in
set_option maxRecDepth 100000 in
theorem rtext_yes (y m d : Int) (w : World) (hg : goodB y m d = true) :
    Calls Try.prog 10 #[.agg #[.int .i64 y, .int .i64 m, .int .i64 d]] w fun e w' => e = .returned (.string ⟨(dayL y m d).toArray⟩) ∧ Below w.heap.size w w' := by
  obtain ⟨g1, g2, g3, g4, g5, g6, g7⟩ := good_of hg
  go_enter Try.func10, Try.ntmps10
  go_wp2_with (go_at_call 24; refine (rgood_any _ _ _ _).mono ?_; rintro e w1 ⟨rfl, hb1⟩; rw [hg]; (have kb := (Blk.new w 24 #[.int .i64 y, .int .i64 m, .int .i64 d]).call hb1); obtain ⟨c0, c1, c2, _, _, _⟩ := kb.c3)
  have hbw := LB.mk (bl_call (bl_alloc (bl_refl w) _) hb1)
  have hlen := digL_len
  have py := pad4 (n := y) (by omega) (by omega)
  have pm := pad2 (n := m) (by omega) (by omega)
  have pd := pad2 (n := d) (by omega) (by omega)
  clear kb g1 g3 g4 g5 g6 g7 hb1
  go_region_held3 (fun w' => w'.cell? ⟨w.heap.size, 0, none⟩ = some (.int .i64 y) ∧ w'.cell? ⟨w.heap.size, 1, none⟩ = some (.int .i64 m) ∧ w'.cell? ⟨w.heap.size, 2, none⟩ = some (.int .i64 d) ∧ LB w w')
    (first
      | (refine ⟨?_, ?_, ?_, ?_⟩ <;> (first | assumption | (go_keep; done) | exact LB.drew (by assumption) | (refine cell_keep ?_ hb6; assumption) | (refine LB.call ?_ hb6; assumption))))
    ((go_at_call 25; go_split_ands; refine (rdigits_int _ _ _ (by assumption)).mono ?_; rintro e w6 ⟨rfl, hb6⟩))
  all_goals
    go_split_ands
    go_wp2_with fail
    go_ret
    refine ⟨?_, LB.out (by assumption)⟩
    exact congrArg (fun b => Ending.returned (.string b)) (text_cat _ _ _)
set_option maxRecDepth 100000 in
theorem rtext_no (y m d : Int) (w : World) (hg : goodB y m d = false) :
    Calls Try.prog 10 #[.agg #[.int .i64 y, .int .i64 m, .int .i64 d]] w fun e w' => e = .returned (.string ⟨#[]⟩) ∧ Below w.heap.size w w' := by
  go_enter Try.func10, Try.ntmps10
  go_wp2_with (go_at_call 24; refine (rgood_any _ _ _ _).mono ?_; rintro e w1 ⟨rfl, hb1⟩; rw [hg])
  go_ret
  exact ⟨rfl, bl_call (bl_alloc (bl_refl w) _) hb1⟩
theorem rtext_any (y m d : Int) (w : World) :
    Calls Try.prog 10 #[.agg #[.int .i64 y, .int .i64 m, .int .i64 d]] w fun e w' => e = .returned (.string ⟨(textL y m d).toArray⟩) ∧ Below w.heap.size w w' := by
  cases hg : goodB y m d with
  | true => simpa only [textL, hg, if_true] using rtext_yes y m d w hg
  | false =>
    have h := rtext_no y m d w hg
    simpa [textL, hg] using h
end Go.Proofs.Ytcgkfgklggjmaaa
end
section
namespace Go.Proofs.Ytcgkfgklggjmaaa.Dec
set_option linter.unusedVariables false
set_option linter.unusedSimpArgs false
open Go.RowKit
theorem one_byte (w : World) (N : Nat) (h : (48 + (N : Int) % 10) = ((UInt8.ofNat (48 + N % 10)).toNat : Int)) :
    (convert 90 9 (.slice (some ⟨w.heap.size, 0, none⟩) 1 1)).run Try.prog (w.alloc (.cells #[.int .u8 (48 + (N : Int) % 10)] 5)) = .ok (.string ⟨#[UInt8.ofNat (48 + N % 10)]⟩) (w.alloc (.cells #[.int .u8 (48 + (N : Int) % 10)] 5)) := by
  refine run_convert_bytes_back _ _ _ 5 ⟨w.heap.size, 0, none⟩ 1 [UInt8.ofNat (48 + N % 10)] Try.underlying90 Try.underlying5 Try.underlying9 fun j hj => ?_
  obtain rfl : j = 0 := by simpa using hj
  have hb := (Blk.new w 5 #[.int .u8 (48 + (N : Int) % 10)]).cell 0
  simp only [List.getElem_cons_zero, ← h]
  exact hb
end Go.Proofs.Ytcgkfgklggjmaaa.Dec
end
section
namespace Go.Proofs.Ytcgkfgklggjmaaa.Dec
set_option linter.unusedVariables false
set_option linter.unusedSimpArgs false
open Go.RowKit
end Go.Proofs.Ytcgkfgklggjmaaa.Dec
end
section
namespace Go.Proofs.Ytcgkfgklggjmaaa.Par
set_option linter.unusedVariables false
set_option linter.unusedSimpArgs false
open Go.RowKit
/-- it answers a text of these bytes, not longer than m; what was there is as it was -/
def Says (l : List UInt8) (m : Nat) (w : World) (e : Ending) (w' : World) : Prop := ∃ s : ByteArray, e = .returned (.string s) ∧ s.data.toList = l ∧ s.size ≤ m ∧ Below w.heap.size w w'
theorem ba_size (l : List UInt8) : (⟨l.toArray⟩ : ByteArray).size = l.length := by simp [ByteArray.size]
theorem ba_len (s : ByteArray) : s.data.toList.length = s.size := by simp
theorem says_of {l : List UInt8} {m : Nat} (h : l.length ≤ m) {w : World} {e : Ending} {w' : World} (he : e = .returned (.string ⟨l.toArray⟩) ∧ Below w.heap.size w w') : Says l m w e w' := ⟨_, he.1, by simp, by rw [ba_size]; exact h, he.2⟩
theorem dayT_len (d : Day) : (dayT d).length ≤ 10 := by
  unfold dayT textL
  split
  · rw [dayL_len]; exact Nat.le_refl _
  · exact Nat.zero_le _
theorem digT_len {n : Int} (h0 : 0 ≤ n) (h : n ≤ 1000000000000) : (digT n).length ≤ 13 := Dec.dec_len n.toNat 13 (by omega) (by decide)
theorem decT_len {n : Int} (k : Int) (h : n ≤ 1000000000000) : (Dec.textL n k).length ≤ 30 := by
  unfold Dec.textL
  split
  · exact Nat.zero_le _
  · exact Dec.text_len _ _ (by omega) (by omega)
theorem modeL_len (m : Int) : (modeL m).length ≤ 8 := by
  unfold modeL
  split
  · decide
  split
  · decide
  split
  · decide
  split <;> decide
/-! the contracts in this form -/
theorem sday_any (d : Day) (w : World) : Calls Try.prog 10 #[.agg #[.int .i64 d.1, .int .i64 d.2.1, .int .i64 d.2.2]] w (Says (dayT d) 10 w) :=
  (rtext_any d.1 d.2.1 d.2.2 w).mono fun e w' h => says_of (dayT_len d) h
def winA (x : Win) : Array Value := #[.bool x.has, .int .i64 x.from_.1, .int .i64 x.from_.2.1, .int .i64 x.from_.2.2, .int .i64 x.to_.1, .int .i64 x.to_.2.1, .int .i64 x.to_.2.2]
end Go.Proofs.Ytcgkfgklggjmaaa.Par
end
section
namespace Go.Proofs.Ytcgkfgklggjmaaa.Par
set_option linter.unusedVariables false
set_option linter.unusedSimpArgs false
open Go.RowKit
/-- within the function: the charge's own block, and what was there -/
structure HW (w0 w : World) (T : TypeId) (C : Array Value) : Prop where
  lb : Below w0.heap.size w0 w
  kp : Blk w w0.heap.size T C
  dt : Dec.GT w
section
variable {w0 w w' : World} {T : TypeId} {C : Array Value}
theorem HW.row (h : HW w0 w T C) {B : Nat} {e : TypeId} {size n : Nat} {v : Value} {xs : List Value} (ho : w0.ownsRow B e size v n xs) : w.ownsRow B e size v n xs := own_keep ho fun g hg => h.lb.block g (ho.lt g hg).2
theorem HW.lt (h : HW w0 w T C) : w0.heap.size < w.heap.size := h.kp.lt
end
theorem ba_app (a b : ByteArray) : (a ++ b).data.toList = a.data.toList ++ b.data.toList := by simp
theorem alw_yes {c : Chg} (h : c.allow ≠ 0) : alwL c = [9, 97, 108, 108, 111, 119, 97, 110, 99, 101, 32] ++ digT c.allow ++ [59, 10] := by unfold alwL; rw [if_pos h]
theorem blk_yes {c : Chg} (h : c.block ≠ 1) : blkL c = [9, 98, 108, 111, 99, 107, 32] ++ digT c.block ++ [59, 10] := by unfold blkL; rw [if_pos h]
end Go.Proofs.Ytcgkfgklggjmaaa.Par
end
section
namespace Go.Proofs.Ytcgkfgklggjmaaa.Par
set_option linter.unusedVariables false
set_option linter.unusedSimpArgs false
open Go.RowKit
/-! an append of a row that may be empty -/
section
variable {P : Program} (w : World)
theorem run_append_zero (t ty : TypeId) (e : TypeId) (i : TypeInfo) (ht : P.underlying t = some (.slice e)) (hi : P.info? e = some i) (A : Option Addr) (n c : Nat) (hn : n ≤ c) (A' : Option Addr) (c' : Nat) :
    (Builtin.append_ #[t, t] ty #[.slice A n c, .slice A' 0 c']).run P w = .ok (.slice A n c) w := by
  cases A <;> cases A' <;> simp [Builtin.append_, run_underlying ht, sizeOf, typeInfo, hi, Builtin.lenOf, Builtin.firstCells, loadCells, loadCellsFrom, storeCells, hn]
theorem own_form {base : Nat} {e : TypeId} {size : Nat} {v : Value} {n : Nat} {xs : List Value} (h : w.ownsRow base e size v n xs) : ∃ A cap, v = .slice A n cap ∧ n ≤ cap := by
  rcases h.2 with ⟨rfl, rfl⟩ | ⟨g, cap, cur, rfl, _, _, hc, _⟩
  · exact ⟨_, _, rfl, Nat.le_refl _⟩
  · exact ⟨_, _, rfl, hc⟩
theorem run_append_any (t ty : TypeId) (base base' : Nat) (e : TypeId) (i : TypeInfo) (z : Value) (size bytes : Nat) (ht : P.underlying t = some (.slice e)) (hi : P.info? e = some i) (hz : i.zero = some z)
    (hsize : i.size = size) (hby : i.bytes = bytes) (hzs : z.cells.size = size) (hsz : 0 < size)
    (v : Value) (n : Nat) (xs : List Value) (hown : w.ownsRow base e size v n xs)
    (v2 : Value) (m : Nat) (news : List Value) (hown2 : w.ownsRow base' e size v2 m news) (h1 : ∀ u ∈ news, u.oneCell' = true)
    (h63 : n + m ≤ maxLen) (hbytes : (n + m) * bytes ≤ 140737488355328) (hbase : base ≤ w.heap.size) :
    ∃ A cap w', (Builtin.append_ #[t, t] ty #[v, v2]).run P w = .ok (.slice A (n + m) cap) w' ∧ w'.ownsRow base e size (.slice A (n + m) cap) (n + m) (xs ++ news) ∧ w.grownBy w' v.ownBlock := by
  by_cases hm : m = 0
  · subst hm
    obtain ⟨A, c, rfl, hc⟩ := own_form w hown
    obtain ⟨A', c', rfl, _⟩ := own_form w hown2
    have hx : news = [] := List.eq_nil_of_length_eq_zero (by simpa using hown2.1)
    subst hx
    refine ⟨A, c, w, run_append_zero w t ty e i ht hi A n c hc A' c', ?_, ⟨rfl, rfl, rfl, Nat.le_refl _, fun _ _ _ => rfl⟩⟩
    rw [List.append_nil]; exact hown
  · obtain ⟨g, c, rfl, _, _⟩ := hown2.form (by omega)
    obtain ⟨v', w', hr, h2, h3, _, _⟩ := run_append_own_at (P := P) w base t ty e i z size bytes ht hi hz hsize hby hzs hsz v n xs hown ⟨g, 0, none⟩ m c news (by have := hown2.1; omega) (hown2.cells (g := g) rfl) h1 h63 hbytes hbase
    obtain ⟨A, cap, rfl, _⟩ := own_form w' h2
    exact ⟨A, cap, w', hr, h2, h3⟩
theorem step_append_any {ops : Array Oper} {o : Oper} {a : Act} {K : Act → World → Prop} {Q : Exit → Act → World → Prop} {E : Prop} (hgd : o.guard = none) (s x : Operand) (t : TypeId)
    (ho : o.op = .call { callee := .builtin .append, args := #[s, x], argTypes := #[t, t] })
    (base base' : Nat) (e : TypeId) (i : TypeInfo) (z : Value) (size bytes : Nat) (ht : P.underlying t = some (.slice e)) (hi : P.info? e = some i) (hz : i.zero = some z)
    (hsize : i.size = size) (hby : i.bytes = bytes) (hzs : z.cells.size = size) (hsz : 0 < size)
    (v : Value) (n : Nat) (xs : List Value) (hs : a.eval s = v) (hown : w.ownsRow base e size v n xs)
    (v2 : Value) (m : Nat) (news : List Value) (hx : a.eval x = v2) (hown2 : w.ownsRow base' e size v2 m news) (h1 : ∀ u ∈ news, u.oneCell' = true)
    (h63 : n + m ≤ maxLen) (hbytes : (n + m) * bytes ≤ 140737488355328) (hbase : base ≤ w.heap.size)
    (h : ∀ A cap w', w'.ownsRow base e size (.slice A (n + m) cap) (n + m) (xs ++ news) → w.grownBy w' v.ownBlock → K (a.put o.dst (.slice A (n + m) cap)) w') :
    if Region.wanted o (yielded ops a.tmps) = true then Oper.wp P o a w K Q else E := by
  have hw : Region.wanted o (yielded ops a.tmps) = true := by simp [Region.wanted, hgd]
  rw [if_pos hw]
  obtain ⟨A, cap, w', hr, h2, h3⟩ := run_append_any (P := P) w t o.type base base' e i z size bytes ht hi hz hsize hby hzs hsz v n xs hown v2 m news hown2 h1 h63 hbytes hbase
  unfold Oper.wp execOp
  simp only [ho, resolve, invoke, builtin, Sem.run_bind, Sem.run_pure, Result.andThen_ok, List.map_toArray, List.map_cons, List.map_nil, hs, hx, hr]
  exact h A cap w' h2 h3
end
end Go.Proofs.Ytcgkfgklggjmaaa.Par
end
section
namespace Go.Proofs.Ytcgkfgklggjmaaa.Par
set_option linter.unusedVariables false
set_option linter.unusedSimpArgs false
open Go.RowKit
theorem nest_one {w : World} {B : Nat} {c : CT} (h : TiersLie B w c.2.1 c.1.tiers ∧ AdjsLie B w c.2.2 c.1.adjs) : c.2.1.oneCell' = true ∧ c.2.2.oneCell' = true := by
  obtain ⟨A, n, h1, _⟩ := own_form w h.1
  obtain ⟨A', n', h2, _⟩ := own_form w h.2
  rw [h1, h2]; exact ⟨rfl, rfl⟩
end Go.Proofs.Ytcgkfgklggjmaaa.Par
end
section
namespace Go.Proofs.Ytcgkfgklggjmaaa.Par
set_option linter.unusedVariables false
set_option linter.unusedSimpArgs false
open Go.RowKit
/-- a plan whose plain text can be told -/
structure Told (p : Plan) : Prop where
  num : NumP p
  small : Small p
  name : p.name.size ≤ 8192
  cur : p.cur.size ≤ 8192
  mets : ∀ m ∈ p.mets, m.name.size ≤ 8192 ∧ m.unit.size ≤ 8192
  chgs : ∀ c ∈ p.chgs, c.meter.size ≤ 8192
end Go.Proofs.Ytcgkfgklggjmaaa.Par
end
section
namespace Go.Proofs.Ytcgkfgklggjmaaa.Par
set_option linter.unusedVariables false
set_option linter.unusedSimpArgs false
/-! what is parsed can be told -/
def Ts (l : List Tok) : Prop := ∀ x ∈ l, x.text.size ≤ 8192
def V {α : Type} (Φ : α → Prop) (F : St → α × St) : Prop := ∀ s, Ts s.rest → Φ (F s).1 ∧ Ts (F s).2.rest
section
variable {α β : Type}
theorem V.bnd {Φ : α → Prop} {Ψ : β → Prop} {F : St → α × St} {G : α → St → β × St} (hF : V Φ F) (hG : ∀ a, Φ a → V Ψ (G a)) : V Ψ (bnd F G) := fun s hs => hG _ (hF s hs).1 _ (hF s hs).2
theorem V.mp {Φ : α → Prop} {Ψ : β → Prop} {F : St → α × St} (f : α → β) (hF : V Φ F) (hf : ∀ a, Φ a → Ψ (f a)) : V Ψ (mp f F) := fun s hs => ⟨hf _ (hF s hs).1, (hF s hs).2⟩
theorem V.ret {Φ : α → Prop} {a : α} (h : Φ a) : V Φ (fun s => (a, s)) := fun s hs => ⟨h, hs⟩
theorem V.ite {Φ : α → Prop} {p : Prop} [Decidable p] {F G : St → α × St} (hF : V Φ F) (hG : V Φ G) : V Φ (fun s => if p then F s else G s) := by
  by_cases hp : p
  · simp only [if_pos hp]; exact hF
  · simp only [if_neg hp]; exact hG
theorem V.iteErr {Φ : α → Prop} {p : Prop} [Decidable p] {a : α} {F : St → α × St} (ha : Φ a) (hF : V Φ F) : V Φ (fun s => if p ∨ s.err ≠ 0 then (a, s) else F s) := by
  intro s hs
  by_cases hp : p ∨ s.err ≠ 0
  · simp only [if_pos hp]; exact ⟨ha, hs⟩
  · simp only [if_neg hp]; exact hF s hs
theorem ts_tail {l : List Tok} (h : Ts l) : Ts l.tail := fun x hx => h x (List.mem_of_mem_tail hx)
theorem ts_next {s : St} (h : Ts s.rest) : Ts (P.next s).rest := by
  unfold P.next; split
  · exact h
  · exact ts_tail h
theorem ts_fail {e : Int} {t : Tok} {s : St} (h : Ts s.rest) : Ts (fail e t s).rest := by
  unfold fail; split <;> exact h
theorem v_eat (w : ByteArray) : V (fun _ => True) (P.eat w) := fun s hs => by
  unfold P.eat; split
  · exact ⟨trivial, ts_next hs⟩
  · exact ⟨trivial, hs⟩
theorem v_must : ∀ (l : List ByteArray), V (fun _ => True) (un (P.must l))
  | [], s, hs => ⟨trivial, hs⟩
  | w :: ws, s, hs => by
    have h1 := (v_eat w s hs).2
    refine ⟨trivial, ?_⟩
    show Ts (P.must (w :: ws) s).rest
    rw [P.must]
    split
    · exact (v_must ws _ h1).2
    · exact ts_fail h1
theorem v_kind (k : Int) : V (fun t : ByteArray => t.size ≤ 8192) (P.kind k) := fun s hs => by
  unfold P.kind; split
  · refine ⟨?_, ts_next hs⟩
    show (peek s).text.size ≤ 8192
    unfold peek
    cases hr : s.rest with
    | nil => exact Nat.zero_le _
    | cons a b => exact hs a (by rw [hr]; simp)
  · exact ⟨Nat.zero_le _, ts_fail hs⟩
variable (dp : ByteArray → Day) (np : ByteArray → Int → Int → Int × Int) (hnp : ∀ t pl most, 0 ≤ most → 0 ≤ (np t pl most).1 ∧ (np t pl most).1 ≤ most)
theorem v_day : V (fun _ => True) (P.day dp) := (v_kind 4).mp dp fun _ _ => trivial
theorem v_one : ∀ (l : List ByteArray) (i : Int), V (fun _ => True) (P.one l i)
  | [], i => V.ret trivial
  | w :: ws, i => (v_eat w).bnd (G := fun a s => if a = true then (i, s) else P.one ws (i + 1) s) fun a _ => V.ite (V.ret trivial) (v_one ws (i + 1))
theorem v_fail {Φ : α → Prop} {a : α} (h : Φ a) : V Φ (fun s => (a, fail 4 (peek s) s)) := fun s hs => ⟨h, ts_fail hs⟩
theorem v_mode : V (fun _ => True) P.mode := (v_one [wFloor, wCeil, wHalfup, wHalfeven] 0).bnd (G := fun o s => if o < 0 then (0, fail 4 (peek s) s) else (o, s)) fun o _ => V.ite (v_fail trivial) (V.ret trivial)
theorem v_window : V (fun _ => True) (P.window dp) :=
  (v_eat wFrom).bnd (G := fun a s => if a = true then bnd (P.day dp) (fun f => bnd (un (P.must [wTo])) (fun _ => mp (fun t => (⟨true, f, t⟩ : Win)) (P.day dp))) s else (noWin, s)) fun a _ =>
    V.ite ((v_day dp).bnd fun f _ => (v_must [wTo]).bnd fun _ _ => (v_day dp).mp _ fun _ _ => trivial) (V.ret trivial)
theorem v_ckind : V (fun _ => True) P.ckind :=
  (v_eat wVolume).bnd (G := fun a s => if a = true then ((2 : Int), s) else mp (fun _ => (1 : Int)) (un (P.must [wGraduated])) s) fun a _ => V.ite (V.ret trivial) ((v_must [wGraduated]).mp _ fun _ _ => trivial)
def TB (t : Tier) : Prop := (0 ≤ t.upto ∧ t.upto ≤ 1000000) ∧ (0 ≤ t.rate ∧ t.rate ≤ 1000000000000)
def AB (a : Adj) : Prop := 0 ≤ a.n ∧ a.n ≤ 1000000000000
def CB (c : Chg) : Prop := c.meter.size ≤ 8192 ∧ (0 ≤ c.allow ∧ c.allow ≤ 1000000) ∧ (0 ≤ c.block ∧ c.block ≤ 1000000) ∧ (∀ t ∈ c.tiers, TB t) ∧ (∀ a ∈ c.adjs, AB a)
def MB (m : Met) : Prop := (m.name.size ≤ 8192 ∧ m.unit.size ≤ 8192) ∧ 0 ≤ m.max ∧ m.max ≤ 2000
def FB (f : Fee) : Prop := 0 ≤ f.amount ∧ f.amount ≤ 1000000000000
structure PB (p : Plan) : Prop where
  name : p.name.size ≤ 8192
  cur : p.cur.size ≤ 8192
  mets : ∀ m ∈ p.mets, MB m
  fees : ∀ m ∈ p.fees, FB m
  chgs : ∀ m ∈ p.chgs, CB m
theorem v_head : V PB (P.head dp) := fun s hs => by
  have h1 := (v_must [wPlan] s hs).2
  have h2 := v_kind 1 _ h1
  have h3 := (v_must [wCurrency] _ h2.2).2
  have h4 := v_kind 1 _ h3
  have h5 := (v_must [wSemi, wHorizon] _ h4.2).2
  have h6 := v_day dp _ h5
  have h7 := v_day dp _ h6.2
  have h8 := (v_must [wSemi] _ h7.2).2
  exact ⟨⟨h2.1, h4.1, (fun x hx => by cases hx), (fun x hx => by cases hx), (fun x hx => by cases hx)⟩, h8⟩
include hnp
theorem v_number (pl most : Int) (hm : 0 ≤ most) : V (fun n => 0 ≤ n ∧ n ≤ most) (P.number np pl most) := fun s hs => by
  have hk := v_kind 3 s hs
  unfold P.number
  simp only
  split
  · refine ⟨hnp _ _ _ hm, ?_⟩
    simp only
    split
    · exact ts_fail hk.2
    · split
      · exact ts_fail hk.2
      · exact hk.2
  · exact ⟨⟨Int.le_refl _, hm⟩, hk.2⟩
theorem v_opt (w : ByteArray) (d : Int) (hd : 0 ≤ d ∧ d ≤ 1000000) : V (fun n => 0 ≤ n ∧ n ≤ 1000000) (P.opt np w d) :=
  (v_eat w).bnd (G := fun a s => if a = true then bnd (P.number np 0 1000000) (fun x => mp (fun _ => x) (un (P.must [wSemi]))) s else (d, s)) fun a _ =>
    V.ite ((v_number np hnp 0 1000000 (by decide)).bnd fun x hx => (v_must [wSemi]).mp _ fun _ _ => hx) (V.ret hd)
theorem v_tierLoop : ∀ (f : Nat) (acc : List Tier), (∀ t ∈ acc, TB t) → V (fun l => ∀ t ∈ l, TB t) (P.tierLoop np f acc)
  | 0, acc, h => V.ret h
  | f + 1, acc, h => (v_eat wUpto).bnd (G := fun a s => if a = true then bnd (P.number np 0 1000000) (fun x => bnd (un (P.must [wRate])) (fun _ => bnd (P.number np 6 1000000000000) (fun y => bnd (un (P.must [wSemi])) (fun _ => P.tierLoop np f (acc ++ [(⟨x, y⟩ : Tier)]))))) s else (acc, s)) fun a _ =>
    V.ite ((v_number np hnp 0 1000000 (by decide)).bnd fun x hx => (v_must [wRate]).bnd fun _ _ => (v_number np hnp 6 1000000000000 (by decide)).bnd fun y hy => (v_must [wSemi]).bnd fun _ _ => v_tierLoop f _ fun t ht => by
      rcases List.mem_append.1 ht with ht | ht
      · exact h t ht
      · obtain rfl := List.mem_singleton.1 ht; exact ⟨hx, hy⟩) (V.ret h)
theorem v_tierAll : V (fun l => ∀ t ∈ l, TB t) (P.tierAll np []) := fun s hs => v_tierLoop np hnp (len s) [] (fun t ht => by cases ht) s hs
theorem v_tiers : V (fun l => ∀ t ∈ l, TB t) (P.tiers np) :=
  (v_must [wOpen]).bnd (G := fun _ => bnd (P.tierAll np []) (fun l => bnd (un (P.must [wRest, wRate])) (fun _ => bnd (P.number np 6 1000000000000) (fun r => mp (fun _ => l ++ [(⟨0, r⟩ : Tier)]) (un (P.must [wSemi, wClose])))))) fun _ _ =>
    (v_tierAll np hnp).bnd fun l hl => (v_must [wRest, wRate]).bnd fun _ _ => (v_number np hnp 6 1000000000000 (by decide)).bnd fun r hr => (v_must [wSemi, wClose]).mp _ fun _ _ t ht => by
      rcases List.mem_append.1 ht with ht | ht
      · exact hl t ht
      · obtain rfl := List.mem_singleton.1 ht; exact ⟨⟨Int.le_refl _, by show (0 : Int) ≤ 1000000; decide⟩, hr⟩
theorem v_adjBody (k : Int) : V AB (P.adjBody np k) := by
  have h : P.adjBody np k = fun s => if k = 1 then bnd (P.number np 3 100000000) (fun n => bnd P.mode (fun m => mp (fun _ => (⟨1, n, m⟩ : Adj)) (un (P.must [wSemi])))) s else bnd (P.number np 0 1000000000000) (fun n => mp (fun _ => (⟨k, n, 0⟩ : Adj)) (un (P.must [wSemi]))) s := rfl
  rw [h]
  exact V.ite ((v_number np hnp 3 100000000 (by decide)).bnd fun n hn => v_mode.bnd fun m _ => (v_must [wSemi]).mp _ fun _ _ => ⟨hn.1, by show n ≤ 1000000000000; have := hn.2; omega⟩) ((v_number np hnp 0 1000000000000 (by decide)).bnd fun n hn => (v_must [wSemi]).mp _ fun _ _ => hn)
theorem v_adjust : V (fun x : Adj × Bool => AB x.1) (P.adjust np) :=
  (v_one [wPercent, wCap, wMinimum, wAdd] 1).bnd (G := fun o s => if o < 0 then (((⟨0, 0, 0⟩ : Adj), false), s) else mp (fun b => (b, true)) (P.adjBody np o) s) fun o _ =>
    V.ite (V.ret ⟨Int.le_refl _, by show (0 : Int) ≤ 1000000000000; decide⟩) ((v_adjBody np hnp o).mp _ fun _ h => h)
theorem v_adjLoop : ∀ (f : Nat) (acc : List Adj), (∀ a ∈ acc, AB a) → V (fun l => ∀ a ∈ l, AB a) (P.adjLoop np f acc)
  | 0, acc, h => V.ret h
  | f + 1, acc, h => (v_adjust np hnp).bnd (G := fun a s => if a.2 = false ∨ s.err ≠ 0 then (acc, s) else P.adjLoop np f (acc ++ [a.1]) s) fun a ha => V.iteErr h (v_adjLoop f _ fun x hx => by
      rcases List.mem_append.1 hx with hx | hx
      · exact h x hx
      · obtain rfl := List.mem_singleton.1 hx; exact ha)
theorem v_adjAll : V (fun l => ∀ a ∈ l, AB a) (P.adjAll np []) := fun s hs => v_adjLoop np hnp (len s) [] (fun t ht => by cases ht) s hs
theorem v_charge (l c : Int) : V CB (P.charge dp np l c) :=
  (v_kind 1).bnd (G := fun n => bnd (P.window dp) fun w => bnd (un (P.must [wOpen])) fun _ => bnd (P.opt np wAllowance 0) fun a => bnd (P.opt np wBlock 1) fun b => bnd P.ckind fun k => bnd (P.tiers np) fun t =>
      bnd (un (P.must [wRound])) fun _ => bnd P.mode fun m => bnd (un (P.must [wSemi])) fun _ => bnd (P.adjAll np []) fun d => mp (fun _ => (⟨n, w, a, b, k, t, m, d, l, c⟩ : Chg)) (un (P.must [wClose]))) fun n hn =>
    (v_window dp).bnd fun w _ => (v_must [wOpen]).bnd fun _ _ => (v_opt np hnp wAllowance 0 (by decide)).bnd fun a ha => (v_opt np hnp wBlock 1 (by decide)).bnd fun b hb => v_ckind.bnd fun k _ => (v_tiers np hnp).bnd fun t ht =>
      (v_must [wRound]).bnd fun _ _ => v_mode.bnd fun m _ => (v_must [wSemi]).bnd fun _ _ => (v_adjAll np hnp).bnd fun d hd => (v_must [wClose]).mp _ fun _ _ => ⟨hn, ha, hb, ht, hd⟩
theorem v_meter (l c : Int) : V MB (P.meter np l c) :=
  (v_kind 1).bnd (G := fun n => bnd (un (P.must [wUnit])) fun _ => bnd (P.kind 1) fun x => bnd (un (P.must [wMax])) fun _ => bnd (P.number np 0 2000) fun m => mp (fun _ => (⟨n, x, m, l, c⟩ : Met)) (un (P.must [wSemi]))) fun n hn =>
    (v_must [wUnit]).bnd fun _ _ => (v_kind 1).bnd fun x hx => (v_must [wMax]).bnd fun _ _ => (v_number np hnp 0 2000 (by decide)).bnd fun m hm => (v_must [wSemi]).mp _ fun _ _ => ⟨⟨hn, hx⟩, hm⟩
theorem v_fee (l c : Int) : V FB (P.fee dp np l c) :=
  (v_number np hnp 0 1000000000000 (by decide)).bnd (G := fun x => bnd (P.window dp) fun w => mp (fun _ => (⟨x, w, l, c⟩ : Fee)) (un (P.must [wSemi]))) fun x hx =>
    (v_window dp).bnd fun w _ => (v_must [wSemi]).mp _ fun _ _ => hx
theorem v_item (p : Plan) (hp : PB p) : V PB (P.item dp np p) := fun s hs => by
  have ho := (v_one [wMeter, wFee, wCharge] 0 s hs).2
  have hm := v_meter np hnp (peek s).line (peek s).col _ ho
  have hf := v_fee dp np hnp (peek s).line (peek s).col _ ho
  have hc := v_charge dp np hnp (peek s).line (peek s).col _ ho
  unfold P.item
  simp only
  split
  · exact ⟨⟨hp.name, hp.cur, fun x hx => by
      rcases List.mem_append.1 hx with hx | hx
      · exact hp.mets x hx
      · obtain rfl := List.mem_singleton.1 hx; exact hm.1, hp.fees, hp.chgs⟩, hm.2⟩
  · split
    · exact ⟨⟨hp.name, hp.cur, hp.mets, fun x hx => by
        rcases List.mem_append.1 hx with hx | hx
        · exact hp.fees x hx
        · obtain rfl := List.mem_singleton.1 hx; exact hf.1, hp.chgs⟩, hf.2⟩
    · split
      · exact ⟨⟨hp.name, hp.cur, hp.mets, hp.fees, fun x hx => by
          rcases List.mem_append.1 hx with hx | hx
          · exact hp.chgs x hx
          · obtain rfl := List.mem_singleton.1 hx; exact hc.1⟩, hc.2⟩
      · exact ⟨hp, (v_must [wSemi] _ (ts_fail ho)).2⟩
theorem v_items : ∀ (f : Nat) (p : Plan), PB p → V PB (P.items dp np f p)
  | 0, p, hp => V.ret hp
  | f + 1, p, hp => fun s hs => by
    rw [P.items]
    split
    · have h := v_item dp np hnp p hp s hs
      exact v_items f _ h.1 _ h.2
    · exact ⟨hp, hs⟩
end
theorem npV_in (t : ByteArray) (pl most : Int) (hm : 0 ≤ most) : 0 ≤ (npV t pl most).1 ∧ (npV t pl most).1 ≤ most := by
  unfold npV Dec.parseL Dec.parseW
  split
  · exact ⟨Int.le_refl _, hm⟩
  · split
    · exact ⟨Int.le_refl _, hm⟩
    · split
      · exact ⟨Int.le_refl _, hm⟩
      · rename_i h
        exact ⟨Int.natCast_nonneg _, by simp only; omega⟩
/-- a plan that is parsed can be told -/
theorem told_parse {l : List UInt8} (h : (RParse l).2.1 = 0) : Told (RParse l).1 := by
  have hs := RParse_small l
  have hpb : PB (RParse l).1 := by
    obtain ⟨ts, er, a, b, hall⟩ : ∃ ts er a b, lexAll l = (ts, er, a, b) := ⟨_, _, _, _, rfl⟩
    by_cases her : er = 0
    · subst her
      by_cases h0 : (P.plan dp npV ts).2.err = 0
      · rw [PParse_ok hall h0]
        have h1 := v_head dp ⟨ts, 0, 0, 0⟩ (all_sizes hall)
        exact (v_items dp npV npV_in _ _ h1.1 _ h1.2).1
      · rw [PParse_bad hall h0] at h; exact absurd h h0
    · rw [RParse_lex hall her] at h; exact absurd h her
  exact ⟨⟨fun m hm => (hpb.mets m hm).2, fun f hf => hpb.fees f hf, fun c hc => ⟨(hpb.chgs c hc).2.1, (hpb.chgs c hc).2.2.1, (hpb.chgs c hc).2.2.2.1, (hpb.chgs c hc).2.2.2.2⟩⟩, hs, hpb.name, hpb.cur, fun m hm => (hpb.mets m hm).1, fun c hc => (hpb.chgs c hc).1⟩
end Go.Proofs.Ytcgkfgklggjmaaa.Par
end
