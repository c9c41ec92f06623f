import Derived.Test.YtcgkfgklggjmaaaGe
import Derived.KernelRfl
section
namespace Go.Proofs.Ytcgkfgklggjmaaa.Par
set_option linter.unusedVariables false
set_option linter.unusedSimpArgs false
/-! check and what is left out; check and places: plain -/
theorem metI_map (n : ByteArray) : ∀ l : List Met, metI n (l.map sM) = metI n l
  | [] => rfl
  | m :: l => by
    rw [List.map_cons]
    unfold metI
    rw [metI_map n l]
    rfl
theorem first_zero {α : Type} {e : Nat → α → Int} {pl : α → Int × Int} : ∀ {l : List α} {i : Nat}, (firstE e pl i l).1 = 0 ↔ ∀ (j : Nat) (x : α), l[j]? = some x → e (i + j) x = 0
  | [], i => by simp [firstE]
  | x :: l, i => by
    unfold firstE
    by_cases h : e i x = 0
    · rw [if_neg (by simpa using h), first_zero]
      constructor
      · intro hh j y hy
        cases j with
        | zero => simp at hy; subst hy; exact h
        | succ j => have := hh j y (by simpa using hy); rwa [show i + (j + 1) = i + 1 + j by omega]
      · intro hh j y hy
        have := hh (j + 1) y (by simpa using hy)
        rwa [show i + 1 + j = i + (j + 1) by omega]
    · rw [if_pos h]
      exact ⟨fun hh => absurd hh h, fun hh => absurd (hh 0 x rfl) h⟩
theorem first_map {α : Type} {e e' : Nat → α → Int} {pl pl' : α → Int × Int} (f : α → α) (h : ∀ i x, e' i (f x) = e i x) : ∀ (l : List α) (i : Nat), (firstE e' pl' i (l.map f)).1 = (firstE e pl i l).1
  | [], i => rfl
  | x :: l, i => by
    rw [List.map_cons]
    unfold firstE
    rw [h i x]
    split
    · rfl
    · exact first_map f h l (i + 1)
theorem winB_strip (p : Plan) (w : Win) : winB (strip p) w = winB p w := rfl
theorem metE_strip (p : Plan) (i : Nat) (m : Met) : metE (strip p) i (sM m) = metE p i m := by
  unfold metE
  rw [show (strip p).mets = p.mets.map sM from rfl, metI_map]
  rfl
theorem feeE_strip (p : Plan) (i : Nat) (m : Fee) : feeE (strip p) i (sF m) = feeE p i m := rfl
theorem chgE_strip (p : Plan) (i : Nat) (m : Chg) : chgE (strip p) i (sC m) = chgE p i m := by
  unfold chgE
  rw [show (strip p).mets = p.mets.map sM from rfl, metI_map]
  rfl
theorem chgMost_strip (p : Plan) (c : Chg) : chgMost (strip p) (sC c) = chgMost p c := by
  unfold chgMost
  rw [show (strip p).mets = p.mets.map sM from rfl, metI_map, show (sC c).meter = c.meter from rfl, List.getElem?_map]
  cases p.mets[(metI c.meter p.mets).toNat]? <;> rfl
theorem bound_strip (p : Plan) : boundO (strip p) = boundO p := by
  unfold boundO sumList
  rw [show (strip p).fees = p.fees.map sF from rfl, show (strip p).chgs = p.chgs.map sC from rfl, List.map_map, List.filterMap_map]
  have h : (chgMost (strip p) ∘ sC) = chgMost p := funext fun c => chgMost_strip p c
  rw [h]
  rfl
def chkE (p : Plan) : Int := (chkL p).1
theorem chkE_eq (p : Plan) : chkE p = if numT p.to_ < numT p.from_ then 5 else if 4000 ≤ numT p.to_ - numT p.from_ then 6
    else if (firstE (metE p) (fun m => (m.line, m.col)) 0 p.mets).1 ≠ 0 then (firstE (metE p) (fun m => (m.line, m.col)) 0 p.mets).1
    else if (firstE (feeE p) (fun m => (m.line, m.col)) 0 p.fees).1 ≠ 0 then (firstE (feeE p) (fun m => (m.line, m.col)) 0 p.fees).1
    else if (firstE (chgE p) (fun m => (m.line, m.col)) 0 p.chgs).1 ≠ 0 then (firstE (chgE p) (fun m => (m.line, m.col)) 0 p.chgs).1
    else if boundO p = none then 6 else 0 := by
  unfold chkE chkL
  repeat' split
  all_goals rfl
/-- what is wrong hangs on no place -/
theorem chk_strip (p : Plan) : chkE (strip p) = chkE p := by
  rw [chkE_eq, chkE_eq]
  rw [show (strip p).mets = p.mets.map sM from rfl, show (strip p).fees = p.fees.map sF from rfl, show (strip p).chgs = p.chgs.map sC from rfl, bound_strip,
    first_map (e := metE p) (e' := metE (strip p)) (pl := fun m => (m.line, m.col)) sM (metE_strip p), first_map (e := feeE p) (e' := feeE (strip p)) (pl := fun m => (m.line, m.col)) sF (feeE_strip p), first_map (e := chgE p) (e' := chgE (strip p)) (pl := fun m => (m.line, m.col)) sC (chgE_strip p)]
  rfl
theorem chk_same {p q : Plan} (h : strip p = strip q) : chkE p = chkE q ∧ boundO p = boundO q := by
  rw [← chk_strip p, ← bound_strip p, h, chk_strip, bound_strip]
  exact ⟨rfl, rfl⟩
/-- nothing is wrong -/
structure Fine (p : Plan) : Prop where
  days : numT p.from_ ≤ numT p.to_ ∧ numT p.to_ - numT p.from_ < 4000
  mets : ∀ (j : Nat) (x : Met), p.mets[j]? = some x → metE p j x = 0
  fees : ∀ (j : Nat) (x : Fee), p.fees[j]? = some x → feeE p j x = 0
  chgs : ∀ (j : Nat) (x : Chg), p.chgs[j]? = some x → chgE p j x = 0
  bound : boundO p ≠ none
theorem fine_iff (p : Plan) : chkE p = 0 ↔ Fine p := by
  rw [chkE_eq]
  constructor
  · intro h
    split at h
    · cases h
    split at h
    · cases h
    split at h
    · rename_i h1; exact absurd h h1
    split at h
    · rename_i h1; exact absurd h h1
    split at h
    · rename_i h1; exact absurd h h1
    split at h
    · cases h
    rename_i h1 h2 h3 h4 h5 h6
    refine ⟨by omega, ?_, ?_, ?_, h6⟩
    · intro j x hx; simpa using first_zero.1 (by omega : (firstE (metE p) (fun m => (m.line, m.col)) 0 p.mets).1 = 0) j x hx
    · intro j x hx; simpa using first_zero.1 (by omega : (firstE (feeE p) (fun m => (m.line, m.col)) 0 p.fees).1 = 0) j x hx
    · intro j x hx; simpa using first_zero.1 (by omega : (firstE (chgE p) (fun m => (m.line, m.col)) 0 p.chgs).1 = 0) j x hx
  · intro h
    obtain ⟨⟨h1, h2⟩, h3, h4, h5, h6⟩ := h
    have k3 : (firstE (metE p) (fun m => (m.line, m.col)) 0 p.mets).1 = 0 := first_zero.2 fun j x hx => by rw [Nat.zero_add]; exact h3 j x hx
    have k4 : (firstE (feeE p) (fun m => (m.line, m.col)) 0 p.fees).1 = 0 := first_zero.2 fun j x hx => by rw [Nat.zero_add]; exact h4 j x hx
    have k5 : (firstE (chgE p) (fun m => (m.line, m.col)) 0 p.chgs).1 = 0 := first_zero.2 fun j x hx => by rw [Nat.zero_add]; exact h5 j x hx
    rw [if_neg (by omega), if_neg (by omega), if_neg (by omega), if_neg (by omega), if_neg (by omega), if_neg h6]
theorem chk_zero {p : Plan} (h : (chkL p).1 = 0) : chkL p = (0, 0, 0) := by
  have hf := (fine_iff p).1 h
  obtain ⟨⟨h1, h2⟩, h3, h4, h5, h6⟩ := hf
  have k3 : (firstE (metE p) (fun m => (m.line, m.col)) 0 p.mets).1 = 0 := first_zero.2 fun j x hx => by rw [Nat.zero_add]; exact h3 j x hx
  have k4 : (firstE (feeE p) (fun m => (m.line, m.col)) 0 p.fees).1 = 0 := first_zero.2 fun j x hx => by rw [Nat.zero_add]; exact h4 j x hx
  have k5 : (firstE (chgE p) (fun m => (m.line, m.col)) 0 p.chgs).1 = 0 := first_zero.2 fun j x hx => by rw [Nat.zero_add]; exact h5 j x hx
  unfold chkL
  rw [if_neg (by omega), if_neg (by omega), if_neg (by omega), if_neg (by omega), if_neg (by omega), if_neg h6]
/-! numbers that are not below 0 -/
theorem upB_ge {P c : Int} (hc : 0 < c) (hP : 0 ≤ P) : 0 ≤ (upB P c).1 := by
  unfold upB
  split
  · exact (cdiv_le hc hP).1
  · decide
theorem step_ge {a : Adj} {n : Int} (h : AOk a) (hn : 0 ≤ n) : 0 ≤ (adjStep a n).1 := by
  have han : 0 ≤ a.n := by rcases h with ⟨_, h, _⟩ | ⟨_, h, _⟩ <;> omega
  unfold adjStep
  split
  · exact upB_ge (by decide) (Int.mul_nonneg hn han)
  split
  · dsimp only; omega
  split
  · dsimp only; omega
  split
  · split
    · dsimp only; omega
    · decide
  · exact hn
theorem adjO_ge : ∀ {l : List Adj} {n m : Int}, (∀ a ∈ l, AOk a) → 0 ≤ n → adjO l n = some m → 0 ≤ m
  | [], n, m, _, hn, h => by simp [adjO] at h; omega
  | a :: l, n, m, ha, hn, h => by
    unfold adjO at h
    split at h
    · exact adjO_ge (fun x hx => ha x (List.mem_cons_of_mem _ hx)) (step_ge (ha a List.mem_cons_self) hn) h
    · cases h
theorem rate_ge : ∀ (l : List Tier) (r : Int), r ≤ l.foldl (fun r t => max r t.rate) r
  | [], r => Int.le_refl _
  | t :: l, r => by
    rw [List.foldl_cons]
    exact Int.le_trans (by omega) (rate_ge l _)
theorem start_ge {c : Chg} {mx : Int} (hb : 1 ≤ c.block) : 0 ≤ startM c mx := by
  unfold startM
  have h1 : 0 ≤ rateM c.tiers := rate_ge c.tiers 0
  have h2 := (cdiv_le (a := max (mx - c.allow) 0) (c := c.block) (by omega) (by omega)).1
  have h3 : 0 ≤ qtyM c mx := Int.mul_nonneg h2 (by omega)
  exact (cdiv_le (by decide) (Int.mul_nonneg h1 h3)).1
theorem addO_mono : ∀ {l : List (Option Int)} {n n' a : Int}, n' ≤ n → l.foldl addO (some n) = some a → ∃ b, l.foldl addO (some n') = some b ∧ b ≤ a
  | [], n, n', a, h, hl => by simp at hl; exact ⟨n', rfl, by omega⟩
  | none :: l, n, n', a, h, hl => by
    rw [List.foldl_cons, show addO (some n) none = none from rfl, addO_none] at hl; cases hl
  | some x :: l, n, n', a, h, hl => by
    rw [List.foldl_cons] at hl ⊢
    have e : addO (some n) (some x) = if n + x < 1152921504606846976 then some (n + x) else none := rfl
    have e' : addO (some n') (some x) = if n' + x < 1152921504606846976 then some (n' + x) else none := rfl
    rw [e] at hl
    rw [e']
    by_cases hx : n + x < 1152921504606846976
    · rw [if_pos hx] at hl
      rw [if_pos (by omega)]
      exact addO_mono (by omega) hl
    · rw [if_neg hx, addO_none] at hl; cases hl
theorem fold_less {l1 l2 : List (Option Int)} {x : Option Int} {n a : Int} (hx : ∀ v, x = some v → 0 ≤ v) (h : (l1 ++ x :: l2).foldl addO (some n) = some a) : ∃ b, (l1 ++ l2).foldl addO (some n) = some b ∧ b ≤ a := by
  rw [List.foldl_append, List.foldl_cons] at h
  rw [List.foldl_append]
  cases hs : l1.foldl addO (some n) with
  | none => rw [hs, show addO none x = none by cases x <;> rfl, addO_none] at h; cases h
  | some m =>
    rw [hs] at h
    cases x with
    | none => rw [show addO (some m) none = none from rfl, addO_none] at h; cases h
    | some v =>
      have hv := hx v rfl
      have e : addO (some m) (some v) = if m + v < 1152921504606846976 then some (m + v) else none := rfl
      rw [e] at h
      split at h
      · exact addO_mono (by omega) h
      · rw [addO_none] at h; cases h
/-! what is left out -/
def noFee (p : Plan) (k : Nat) : Plan := { p with fees := p.fees.take k ++ p.fees.drop (k + 1) }
def noChg (p : Plan) (k : Nat) : Plan := { p with chgs := p.chgs.take k ++ p.chgs.drop (k + 1) }
theorem cut_at {α : Type} {l : List α} {k : Nat} (hk : k < l.length) (j : Nat) (x : α) (h : (l.take k ++ l.drop (k + 1))[j]? = some x) : l[j]? = some x ∨ l[j + 1]? = some x := by
  rw [List.getElem?_append] at h
  split at h
  · left
    rename_i hj
    rw [List.length_take] at hj
    rw [List.getElem?_take] at h
    split at h
    · exact h
    · cases h
  · right
    rename_i hj
    rw [List.length_take] at hj h
    rw [List.getElem?_drop] at h
    rwa [show k + 1 + (j - min k l.length) = j + 1 by omega] at h
theorem cut_mem {α : Type} {l : List α} {k : Nat} {x : α} (h : x ∈ l.take k ++ l.drop (k + 1)) : x ∈ l := by
  rcases List.mem_append.1 h with h | h
  · exact List.mem_of_mem_take h
  · exact List.mem_of_mem_drop h
theorem split_at {α : Type} {l : List α} {k : Nat} (hk : k < l.length) : l = l.take k ++ l[k] :: l.drop (k + 1) := by
  rw [← List.drop_eq_getElem_cons hk, List.take_append_drop]
theorem map_split {α β : Type} (f : α → β) {l : List α} {k : Nat} (hk : k < l.length) : l.map f = (l.take k).map f ++ f l[k] :: (l.drop (k + 1)).map f := by
  have h := congrArg (List.map f) (split_at hk)
  rw [List.map_append, List.map_cons] at h
  exact h
theorem filter_split {α β : Type} (f : α → Option β) {l : List α} {k : Nat} (hk : k < l.length) : l.filterMap f = (l.take k).filterMap f ++ ([l[k]].filterMap f ++ (l.drop (k + 1)).filterMap f) := by
  have h := congrArg (List.filterMap f) (split_at hk)
  rw [List.filterMap_append, ← List.singleton_append, List.filterMap_append] at h
  exact h
theorem flat_split {α β : Type} (f : α → List β) {l : List α} {k : Nat} (hk : k < l.length) : l.flatMap f = (l.take k).flatMap f ++ (f l[k] ++ (l.drop (k + 1)).flatMap f) := by
  have h := congrArg (List.flatMap f) (split_at hk)
  rw [List.flatMap_append, List.flatMap_cons] at h
  exact h
theorem feeE_mono {p : Plan} {j : Nat} {x : Fee} (h : feeE p (j + 1) x = 0) : feeE p j x = 0 := by
  unfold feeE at h ⊢
  split at h
  · cases h
  · rw [if_neg (by omega)]; exact h
theorem chgE_mono {p : Plan} {j : Nat} {x : Chg} (h : chgE p (j + 1) x = 0) : chgE p j x = 0 := by
  unfold chgE at h ⊢
  split at h
  · cases h
  · rw [if_neg (by omega)]; exact h
theorem most_ge {p : Plan} (hp : POk p) (h : Fine p) {k : Nat} (hk : k < p.chgs.length) (o : Option Int) (ho : chgMost p p.chgs[k] = some o) (v : Int) (hv : o = some v) : 0 ≤ v := by
  subst hv
  have hc := hp.chgs _ (List.getElem_mem hk)
  have he := h.chgs k _ (List.getElem?_eq_getElem hk)
  unfold chgE at he
  unfold chgMost at ho
  split at ho
  · cases ho
  · injection ho with ho
    have hb : 1 ≤ p.chgs[k].block := by
      split at he
      · cases he
      split at he
      · cases he
      split at he
      · cases he
      split at he
      · cases he
      · omega
    exact adjO_ge hc.adjs (start_ge hb) ho
theorem fine_noFee {p : Plan} (hp : POk p) (h : Fine p) {k : Nat} (hk : k < p.fees.length) : ∃ a b, boundO p = some a ∧ boundO (noFee p k) = some b ∧ b ≤ a ∧ Fine (noFee p k) := by
  obtain ⟨a, ha⟩ : ∃ a, boundO p = some a := by
    cases hb : boundO p with
    | none => exact absurd hb h.bound
    | some a => exact ⟨a, rfl⟩
  have hl : sumList p = (p.fees.take k).map (fun f => some f.amount) ++ some p.fees[k].amount :: ((p.fees.drop (k + 1)).map (fun f => some f.amount) ++ p.chgs.filterMap (chgMost p)) := by
    unfold sumList
    rw [map_split _ hk]
    simp
  have hl' : sumList (noFee p k) = (p.fees.take k).map (fun f => some f.amount) ++ ((p.fees.drop (k + 1)).map (fun f => some f.amount) ++ p.chgs.filterMap (chgMost p)) := by
    unfold sumList
    show (p.fees.take k ++ p.fees.drop (k + 1)).map _ ++ p.chgs.filterMap (chgMost (noFee p k)) = _
    rw [show chgMost (noFee p k) = chgMost p from rfl]
    simp
  have ha' := ha
  unfold boundO at ha'
  rw [hl] at ha'
  obtain ⟨b, hb, hba⟩ := fold_less (fun v hv => by injection hv with hv; have := (hp.fees _ (List.getElem_mem hk)).1; omega) ha'
  rw [← hl'] at hb
  have hb2 : boundO (noFee p k) = some b := hb
  refine ⟨a, b, ha, hb2, hba, ⟨h.days, h.mets, ?_, h.chgs, by rw [hb2]; simp⟩⟩
  intro j x hx
  rcases cut_at hk j x hx with hx | hx
  · exact h.fees j x hx
  · exact feeE_mono (h.fees (j + 1) x hx)
theorem fine_noChg {p : Plan} (hp : POk p) (h : Fine p) {k : Nat} (hk : k < p.chgs.length) : ∃ a b, boundO p = some a ∧ boundO (noChg p k) = some b ∧ b ≤ a ∧ Fine (noChg p k) := by
  obtain ⟨a, ha⟩ : ∃ a, boundO p = some a := by
    cases hb : boundO p with
    | none => exact absurd hb h.bound
    | some a => exact ⟨a, rfl⟩
  have hx : ∃ b, boundO (noChg p k) = some b ∧ b ≤ a := by
    have hl' : sumList (noChg p k) = p.fees.map (fun f => some f.amount) ++ ((p.chgs.take k).filterMap (chgMost p) ++ (p.chgs.drop (k + 1)).filterMap (chgMost p)) := by
      unfold sumList
      show p.fees.map _ ++ (p.chgs.take k ++ p.chgs.drop (k + 1)).filterMap (chgMost (noChg p k)) = _
      rw [show chgMost (noChg p k) = chgMost p from rfl, List.filterMap_append]
    cases hm : chgMost p p.chgs[k] with
    | none =>
      have hl : sumList p = p.fees.map (fun f => some f.amount) ++ ((p.chgs.take k).filterMap (chgMost p) ++ (p.chgs.drop (k + 1)).filterMap (chgMost p)) := by
        unfold sumList
        rw [filter_split _ hk, List.filterMap_cons_none hm]
        rfl
      refine ⟨a, ?_, Int.le_refl _⟩
      unfold boundO at ha ⊢
      rw [hl'.trans hl.symm]
      exact ha
    | some o =>
      have hl : sumList p = (p.fees.map (fun f => some f.amount) ++ (p.chgs.take k).filterMap (chgMost p)) ++ o :: (p.chgs.drop (k + 1)).filterMap (chgMost p) := by
        unfold sumList
        rw [filter_split _ hk, List.filterMap_cons_some hm]
        simp
      have ha' := ha
      unfold boundO at ha'
      rw [hl] at ha'
      obtain ⟨b, hb, hba⟩ := fold_less (fun v hv => most_ge hp h hk o hm v hv) ha'
      rw [List.append_assoc, ← hl'] at hb
      exact ⟨b, hb, hba⟩
  obtain ⟨b, hb, hba⟩ := hx
  refine ⟨a, b, ha, hb, hba, ⟨h.days, h.mets, h.fees, ?_, by rw [hb]; simp⟩⟩
  intro j x hx
  rcases cut_at hk j x hx with hx | hx
  · exact h.chgs j x hx
  · exact chgE_mono (h.chgs (j + 1) x hx)
theorem pok_noFee {p : Plan} (h : POk p) (k : Nat) : POk (noFee p k) := ⟨h.name, h.cur, h.from_, h.to_, h.mets, fun f hf => h.fees f (cut_mem hf), h.chgs⟩
theorem pok_noChg {p : Plan} (h : POk p) (k : Nat) : POk (noChg p k) := ⟨h.name, h.cur, h.from_, h.to_, h.mets, h.fees, fun c hc => h.chgs c (cut_mem hc)⟩
theorem cut_len {α : Type} (l : List α) (k : Nat) : (l.take k ++ l.drop (k + 1)).length ≤ l.length := by
  rw [List.length_append, List.length_take, List.length_drop]; omega
theorem told_noFee {p : Plan} (h : Told p) (k : Nat) : Told (noFee p k) :=
  ⟨⟨h.num.mets, fun f hf => h.num.fees f (cut_mem hf), h.num.chgs⟩, ⟨h.small.mets, Nat.le_trans (cut_len _ _) h.small.fees, h.small.chgs, h.small.tiers, h.small.adjs⟩, h.name, h.cur, h.mets, h.chgs⟩
theorem told_noChg {p : Plan} (h : Told p) (k : Nat) : Told (noChg p k) :=
  ⟨⟨h.num.mets, h.num.fees, fun c hc => h.num.chgs c (cut_mem hc)⟩, ⟨h.small.mets, h.small.fees, Nat.le_trans (cut_len _ _) h.small.chgs, fun c hc => h.small.tiers c (cut_mem hc), fun c hc => h.small.adjs c (cut_mem hc)⟩, h.name, h.cur, h.mets, fun c hc => h.chgs c (cut_mem hc)⟩
theorem flat_cut {α : Type} (g : α → List UInt8) (l : List α) (k : Nat) : ((l.take k ++ l.drop (k + 1)).flatMap g).length ≤ (l.flatMap g).length := by
  by_cases hk : k < l.length
  · rw [flat_split g hk]
    simp only [List.flatMap_append, List.length_append]
    omega
  · rw [List.take_of_length_le (by omega), List.drop_eq_nil_of_le (by omega), List.append_nil]
    exact Nat.le_refl _
theorem text_noFee (p : Plan) (k : Nat) : (planL (noFee p k)).length ≤ (planL p).length := by
  have := flat_cut feeL p.fees k
  unfold planL
  simp only [List.length_append]
  show (headL p).length + (p.mets.flatMap metL).length + ((p.fees.take k ++ p.fees.drop (k + 1)).flatMap feeL).length + (p.chgs.flatMap chgL).length ≤ _
  omega
theorem text_noChg (p : Plan) (k : Nat) : (planL (noChg p k)).length ≤ (planL p).length := by
  have := flat_cut chgL p.chgs k
  unfold planL
  simp only [List.length_append]
  show (headL p).length + (p.mets.flatMap metL).length + (p.fees.flatMap feeL).length + ((p.chgs.take k ++ p.chgs.drop (k + 1)).flatMap chgL).length ≤ _
  omega
end Go.Proofs.Ytcgkfgklggjmaaa.Par
end
section
namespace Go.Proofs.Ytcgkfgklggjmaaa.Par
set_option linter.unusedVariables false
set_option linter.unusedSimpArgs false
open Go.RowKit
def adjP1 (a : Adj) (s : Int × Bool) : Int × Bool := ((adjStep a s.1).1, s.2 && (adjStep a s.1).2 && decide ((adjStep a s.1).1 < 1152921504606846976))
theorem adjP_snoc (a : Adj) : ∀ (l : List Adj) (s : Int × Bool), adjP (l ++ [a]) s = adjP1 a (adjP l s)
  | [], s => rfl
  | x :: l, s => by
    rw [List.cons_append]
    unfold adjP
    exact adjP_snoc a l _
theorem adjP_take {l : List Adj} {k : Nat} {a : Adj} (h : l[k]? = some a) (s : Int × Bool) : adjP (l.take (k + 1)) s = adjP1 a (adjP (l.take k) s) := by
  rw [List.take_add_one, h]
  exact adjP_snoc a _ s
theorem rate_take {l : List Tier} {k : Nat} {t : Tier} (h : l[k]? = some t) : rateM (l.take (k + 1)) = max (rateM (l.take k)) t.rate := by
  unfold rateM
  rw [List.take_add_one, h]
  simp
theorem rate_le {M : Int} : ∀ {l : List Tier} {r : Int}, r ≤ M → (∀ t ∈ l, t.rate ≤ M) → l.foldl (fun r t => max r t.rate) r ≤ M
  | [], r, h, _ => h
  | t :: l, r, h, ht => by
    rw [List.foldl_cons]
    have := ht t List.mem_cons_self
    exact rate_le (by omega) fun x hx => ht x (List.mem_cons_of_mem _ hx)
theorem upB_lt {P c : Int} : (upB P c).1 < 9223372036854775808 := by
  unfold upB
  split
  · assumption
  · decide
theorem step_lt {a : Adj} {n : Int} (h : AOk a) (hn : n < 9223372036854775808) : (adjStep a n).1 < 9223372036854775808 := by
  have han : a.n < 9223372036854775808 := by rcases h with ⟨_, h, _⟩ | ⟨_, h, _⟩ <;> omega
  unfold adjStep
  split
  · exact upB_lt
  split
  · dsimp only; omega
  split
  · dsimp only; omega
  split
  · split
    · assumption
    · decide
  · exact hn
theorem adjO_small : ∀ {l : List Adj} {n m : Int}, adjO l n = some m → n < 1152921504606846976 → m < 1152921504606846976
  | [], n, m, h, hn => by simp [adjO] at h; omega
  | a :: l, n, m, h, hn => by
    unfold adjO at h
    split at h
    · rename_i hh; exact adjO_small h hh.2
    · cases h
/-- what a charge's numbers are -/
structure CNum (c : Chg) (mx : Int) : Prop where
  mx : 0 ≤ mx ∧ mx ≤ 2000
  allow : 0 ≤ c.allow ∧ c.allow ≤ 1000000
  block : 1 ≤ c.block ∧ c.block ≤ 1000000
  tiers : ∀ t ∈ c.tiers, 0 ≤ t.rate ∧ t.rate ≤ 1000000000000
  adjs : ∀ a ∈ c.adjs, AOk a
theorem CNum.qty {c : Chg} {mx : Int} (h : CNum c mx) : 0 ≤ qtyM c mx ∧ qtyM c mx ≤ 1002000 := by
  have h1 := cdiv_le (a := max (mx - c.allow) 0) (c := c.block) (by have := h.block; omega) (by omega)
  have := h.mx; have := h.allow; have := h.block
  unfold qtyM
  refine ⟨Int.mul_nonneg h1.1 (by omega), by omega⟩
theorem CNum.rate {c : Chg} {mx : Int} (h : CNum c mx) : 0 ≤ rateM c.tiers ∧ rateM c.tiers ≤ 1000000000000 :=
  ⟨rate_ge c.tiers 0, rate_le (by decide) fun t ht => (h.tiers t ht).2⟩
theorem CNum.prod {c : Chg} {mx : Int} (h : CNum c mx) : 0 ≤ rateM c.tiers * qtyM c mx ∧ rateM c.tiers * qtyM c mx ≤ 1002000000000000000 := by
  obtain ⟨q0, q1⟩ := h.qty
  obtain ⟨r0, r1⟩ := h.rate
  refine ⟨Int.mul_nonneg r0 q0, ?_⟩
  have := Int.mul_le_mul r1 q1 q0 (by omega : (0 : Int) ≤ 1000000000000)
  omega
theorem CNum.start {c : Chg} {mx : Int} (h : CNum c mx) : upB (rateM c.tiers * qtyM c mx) 1000000 = (startM c mx, true) ∧ 0 ≤ startM c mx ∧ startM c mx ≤ 1002000000001 := by
  obtain ⟨p0, p1⟩ := h.prod
  obtain ⟨c0, c1, c2⟩ := cdiv_le (a := rateM c.tiers * qtyM c mx) (c := 1000000) (by decide) p0
  have : startM c mx ≤ 1002000000001 := by unfold startM; omega
  refine ⟨?_, c0, this⟩
  unfold upB
  rw [if_pos (by unfold startM at this; omega)]
  rfl
set_option maxHeartbeats 16000000 in
set_option maxRecDepth 100000 in
theorem pmost_any (c : Chg) (At Aa : Option Addr) (ct ca : Nat) (mx : Int) (w : World) {B : Nat} (hT : TiersLie B w (.slice At c.tiers.length ct) c.tiers) (hA : AdjsLie B w (.slice Aa c.adjs.length ca) c.adjs) (hN : CNum c mx) :
    Calls Try.prog 29 #[.agg #[.string c.meter, .bool c.win.has, .int .i64 c.win.from_.1, .int .i64 c.win.from_.2.1, .int .i64 c.win.from_.2.2, .int .i64 c.win.to_.1, .int .i64 c.win.to_.2.1, .int .i64 c.win.to_.2.2, .int .i64 c.allow, .int .i64 c.block, .int .i64 c.kind, .slice At c.tiers.length ct, .int .i64 c.mode, .slice Aa c.adjs.length ca, .int .i64 c.line, .int .i64 c.col], .int .i64 mx] w fun e w' => ∃ n', e = .returned (.tuple #[.int .i64 n', .bool (mostO c mx).isSome]) ∧ (∀ m, mostO c mx = some m → n' = m) ∧ 0 ≤ n' ∧ n' < 9223372036854775808 ∧ Below w.heap.size w w' := by
  obtain ⟨hst, hs0, hs1⟩ := hN.start
  obtain ⟨q0, q1⟩ := hN.qty
  obtain ⟨r0, r1⟩ := hN.rate
  obtain ⟨p0, p1⟩ := hN.prod
  obtain ⟨n1, n2⟩ := adjP_true c.adjs (startM c mx)
  have hrt : ∀ t ∈ c.tiers, 0 ≤ t.rate ∧ t.rate ≤ 1000000000000 := hN.tiers
  have haj : ∀ a ∈ c.adjs, AOk a := hN.adjs
  obtain ⟨m0, m1⟩ := hN.mx
  obtain ⟨l0, l1⟩ := hN.allow
  obtain ⟨k0, k1⟩ := hN.block
  have hsm := fun m (h : mostO c mx = some m) => adjO_small h (by omega)
  have hUp := fun W => rup_any (max (mx - c.allow) 0) c.block W (by omega) (by omega) (by omega) (by omega)
  have hMD := fun W => rmuldiv_any (rateM c.tiers) (qtyM c mx) 1000000 W r0 (by omega) q0 (by omega) (by decide) (by decide) (.inl (by omega))
  rw [hst] at hMD
  have eq1 : cdiv (max (mx - c.allow) 0) c.block * c.block = qtyM c mx := rfl
  rw [eq1] at hUp
  have eM : adjO c.adjs (startM c mx) = mostO c mx := rfl
  rw [eM] at n1 n2
  generalize mostO c mx = O at *
  generalize startM c mx = st at *
  generalize qtyM c mx = qt at *
  clear eq1 hst p0 p1 eM hN
  replace hUp := Lib.hid hUp
  replace hMD := Lib.hid hMD
  replace n1 := Lib.hid n1
  replace n2 := Lib.hid n2
  replace hsm := Lib.hid hsm
  have kc0 := Blk.new w 58 #[.string c.meter, .bool c.win.has, .int .i64 c.win.from_.1, .int .i64 c.win.from_.2.1, .int .i64 c.win.from_.2.2, .int .i64 c.win.to_.1, .int .i64 c.win.to_.2.1, .int .i64 c.win.to_.2.2, .int .i64 c.allow, .int .i64 c.block, .int .i64 c.kind, .slice At c.tiers.length ct, .int .i64 c.mode, .slice Aa c.adjs.length ca, .int .i64 c.line, .int .i64 c.col]
  have b0 := bl_alloc (bl_refl w) (.cells #[.string c.meter, .bool c.win.has, .int .i64 c.win.from_.1, .int .i64 c.win.from_.2.1, .int .i64 c.win.from_.2.2, .int .i64 c.win.to_.1, .int .i64 c.win.to_.2.1, .int .i64 c.win.to_.2.2, .int .i64 c.allow, .int .i64 c.block, .int .i64 c.kind, .slice At c.tiers.length ct, .int .i64 c.mode, .slice Aa c.adjs.length ca, .int .i64 c.line, .int .i64 c.col] 58)
  have hT0 : (w.alloc (.cells #[.string c.meter, .bool c.win.has, .int .i64 c.win.from_.1, .int .i64 c.win.from_.2.1, .int .i64 c.win.from_.2.2, .int .i64 c.win.to_.1, .int .i64 c.win.to_.2.1, .int .i64 c.win.to_.2.2, .int .i64 c.allow, .int .i64 c.block, .int .i64 c.kind, .slice At c.tiers.length ct, .int .i64 c.mode, .slice Aa c.adjs.length ca, .int .i64 c.line, .int .i64 c.col] 58)).ownsRow B 94 2 (.slice At c.tiers.length ct) c.tiers.length (c.tiers.flatMap tierF) := own_keep hT fun g hg => b0.block g (World.ownsRow.lt hT g hg).2
  have hA0 : (w.alloc (.cells #[.string c.meter, .bool c.win.has, .int .i64 c.win.from_.1, .int .i64 c.win.from_.2.1, .int .i64 c.win.from_.2.2, .int .i64 c.win.to_.1, .int .i64 c.win.to_.2.1, .int .i64 c.win.to_.2.2, .int .i64 c.allow, .int .i64 c.block, .int .i64 c.kind, .slice At c.tiers.length ct, .int .i64 c.mode, .slice Aa c.adjs.length ca, .int .i64 c.line, .int .i64 c.col] 58)).ownsRow B 97 3 (.slice Aa c.adjs.length ca) c.adjs.length (c.adjs.flatMap adjF) := own_keep hA fun g hg => b0.block g (World.ownsRow.lt hA g hg).2
  have hw1 : IntKind.i64.wrap (mx - c.allow) = mx - c.allow := by rw [IntKind.wrap_i64]; omega
  obtain ⟨_, _, he, ht1, ht2, ht3⟩ := Lies.open (f := tierF) (l := c.tiers) (Lies.of hT0)
  injection he with he1 he2 he3
  subst he1 he3
  obtain ⟨_, _, he, ha1, ha2, ha3⟩ := Lies.open (f := adjF) (l := c.adjs) (Lies.of hA0)
  injection he with he1 he2 he3
  subst he1 he3
  unfold maxLen at ht2 ha2
  obtain ⟨e0, e1, e2, e3, e4, e5, e6, e7, e8, e9, e10, e11, e12, e13, e14, e15, _, _, _, _, _, _, _, _, _, _, _, _, _, _, _, _⟩ := kc0.c16
  go_enter Try.func29, Try.ntmps29
  go_wp2_with fail
  refine (hUp.out _).mono ?_
  rintro e w1 ⟨rfl, hb1⟩
  have kc1 := kc0.call hb1
  have b1 := bl_call b0 hb1
  have hT1 := own_keep hT0 fun g hg => hb1.block g (hT0.lt g hg).2
  have hA1 := own_keep hA0 fun g hg => hb1.block g (hA0.lt g hg).2
  clear e0 e1 e2 e3 e4 e5 e6 e7 e8 e9 e10 e11 e12 e13 e14 e15
  obtain ⟨e0, e1, e2, e3, e4, e5, e6, e7, e8, e9, e10, e11, e12, e13, e14, e15, _, _, _, _, _, _, _, _, _, _, _, _, _, _, _, _⟩ := kc1.c16
  go_wp2_with fail
  go_loopw [8, 30] (fun v8 v30 wr => ∃ k : Nat, k ≤ c.tiers.length ∧ v30 = .int .i64 k ∧ v8 = .int .i64 (rateM (c.tiers.take k)) ∧ Below w.heap.size w wr ∧ Below w1.heap.size w1 wr) (fun _ v30 _ => c.tiers.length - (intOf v30).toNat)
  case atStart => exact ⟨0, by omega, rfl, rfl, b1, bl_refl w1⟩
  case round =>
    obtain ⟨k, hk, rfl, rfl, hbw, hb1r⟩ := hrel
    have hTr := own_keep hT1 fun g hg => hb1r.block g (hT1.lt g hg).2
    have kcr := kc1.call hb1r
    clear e0 e1 e2 e3 e4 e5 e6 e7 e8 e9 e10 e11 e12 e13 e14 e15
    obtain ⟨e0, e1, e2, e3, e4, e5, e6, e7, e8, e9, e10, e11, e12, e13, e14, e15, _, _, _, _, _, _, _, _, _, _, _, _, _, _, _, _⟩ := kcr.c16
    by_cases hlt : k < c.tiers.length
    · obtain ⟨g0, rfl, hg0⟩ := ht3 (by omega)
      obtain ⟨m, hm⟩ : ∃ m, c.tiers[k]? = some m := ⟨c.tiers[k], List.getElem?_eq_getElem hlt⟩
      have r0 : (wr).cell? ⟨g0, k * 2, none⟩ = some (.int .i64 m.upto) := Lies.at (f := tierF) (l := c.tiers) (Lies.of hTr) (fun _ => rfl) (i := k) hm (j := 0) rfl
      have r1 : (wr).cell? ⟨g0, k * 2 + 1, none⟩ = some (.int .i64 m.rate) := Lies.at (f := tierF) (l := c.tiers) (Lies.of hTr) (fun _ => rfl) (i := k) hm (j := 1) rfl
      have gg0 : (0 : Int) ≤ (k : Int) := by omega
      have gg1 : (k : Int) < (c.tiers.length : Int) := by omega
      have gg2 : (k : Int) < (ct : Int) := by have := ht1; omega
      have hrk := Lib.hid (rate_take hm)
      have kt := Blk.new wr 94 #[.int .i64 m.upto, .int .i64 m.rate]
      have hbw1 := bl_alloc hbw (.cells #[.int .i64 m.upto, .int .i64 m.rate] 94)
      have hbw2 := bl_alloc hb1r (.cells #[.int .i64 m.upto, .int .i64 m.rate] 94)
      obtain ⟨z0, z1, _, _⟩ := kt.c2
      generalize rateM (c.tiers.take k) = R at *
      go_wp2_with fail
      go_roundw
      case rel => exact ⟨k + 1, by omega, by go_num, by rw [hrk.out], hbw1, hbw2⟩
      case measure => simp [intOf]; omega
    · obtain rfl : k = c.tiers.length := by omega
      have eT : rateM (c.tiers.take c.tiers.length) = rateM c.tiers := by rw [List.take_length]
      rw [eT]
      go_wp2_with fail
      refine (hMD.out _).mono ?_
      rintro e w2 ⟨rfl, hb2⟩
      have kc2 := kcr.call hb2
      have bb2 := bl_call hbw hb2
      have hA2 := own_keep hA1 fun g hg => (bl_call hb1r hb2).block g (hA1.lt g hg).2
      clear e0 e1 e2 e3 e4 e5 e6 e7 e8 e9 e10 e11 e12 e13 e14 e15
      obtain ⟨e0, e1, e2, e3, e4, e5, e6, e7, e8, e9, e10, e11, e12, e13, e14, e15, _, _, _, _, _, _, _, _, _, _, _, _, _, _, _, _⟩ := kc2.c16
      go_wp2_with fail
      clear e0 e1 e2 e3 e4 e5 e6 e7 e8 e9 e10 e11 e12 e13 e14 e15
      go_loopw [11, 7, 52] (fun v11 v7 v52 wr => ∃ (k : Nat) (N : Int) (ok : Bool), k ≤ c.adjs.length ∧ v52 = .int .i64 k ∧ v11 = .int .i64 N ∧ v7 = .bool ok ∧ adjP (c.adjs.take k) (st, true) = (N, ok) ∧ 0 ≤ N ∧ N < 9223372036854775808 ∧ Below w.heap.size w wr ∧ Below w2.heap.size w2 wr) (fun _ _ v52 _ => c.adjs.length - (intOf v52).toNat)
      case atStart => exact ⟨0, st, true, by omega, rfl, rfl, rfl, rfl, hs0, by omega, bb2, bl_refl w2⟩
      case round =>
        clear hk hlt hTr r0 r1
        obtain ⟨k, N, ok, hk, rfl, rfl, rfl, hadj, hN0, hN1, hbwx, hb2r⟩ := hrel
        have hAr := own_keep hA2 fun g hg => hb2r.block g (hA2.lt g hg).2
        have kcx := kc2.call hb2r
        have hadj' := Lib.hid hadj
        clear hadj
        by_cases hlt : k < c.adjs.length
        · obtain ⟨g0, rfl, hg0⟩ := ha3 (by omega)
          obtain ⟨m, hm⟩ : ∃ m, c.adjs[k]? = some m := ⟨c.adjs[k], List.getElem?_eq_getElem hlt⟩
          have r0 : (wr).cell? ⟨g0, k * 3, none⟩ = some (.int .i64 m.kind) := Lies.at (f := adjF) (l := c.adjs) (Lies.of hAr) (fun _ => rfl) (i := k) hm (j := 0) rfl
          have r1 : (wr).cell? ⟨g0, k * 3 + 1, none⟩ = some (.int .i64 m.n) := Lies.at (f := adjF) (l := c.adjs) (Lies.of hAr) (fun _ => rfl) (i := k) hm (j := 1) rfl
          have r2 : (wr).cell? ⟨g0, k * 3 + 2, none⟩ = some (.int .i64 m.mode) := Lies.at (f := adjF) (l := c.adjs) (Lies.of hAr) (fun _ => rfl) (i := k) hm (j := 2) rfl
          have gg0 : (0 : Int) ≤ (k : Int) := by omega
          have gg1 : (k : Int) < (c.adjs.length : Int) := by omega
          have gg2 : (k : Int) < (ca : Int) := by have := ha1; omega
          have hak := haj m (List.mem_of_getElem? hm)
          have hx0 := step_ge hak hN0
          have hx1 := step_lt hak hN1
          have hnx := adjP_take hm (st, true)
          rw [hadj'.out] at hnx
          unfold adjP1 at hnx
          have kt := Blk.new wr 97 #[.int .i64 m.kind, .int .i64 m.n, .int .i64 m.mode]
          have hbw1 := bl_alloc hbwx (.cells #[.int .i64 m.kind, .int .i64 m.n, .int .i64 m.mode] 97)
          have hbw2 := bl_alloc hb2r (.cells #[.int .i64 m.kind, .int .i64 m.n, .int .i64 m.mode] 97)
          obtain ⟨z0, z1, z2, _, _, _⟩ := kt.c3
          clear hm
          rcases hak with ⟨hk1, hn, hmd⟩ | ⟨hk1, hn, hmd⟩ <;> clear hmd
          · have ea : adjStep m N = upB (N * m.n) 100000 := by unfold adjStep; rw [if_pos hk1]
            have hC := fun W => rmuldiv_any N m.n 100000 W hN0 hN1 (by omega) (by omega) (by decide) (by decide) (.inr rfl)
            rw [← ea] at hC
            obtain ⟨x, hx⟩ : ∃ x, (adjStep m N).1 = x := ⟨_, rfl⟩
            obtain ⟨y, hy⟩ : ∃ x, (adjStep m N).2 = x := ⟨_, rfl⟩
            rw [hx, hy] at hC hnx
            rw [hx] at hx0 hx1
            replace hnx := Lib.hid hnx
            replace hC := Lib.hid hC
            clear ea hx hy
            have f1 : (m.kind == 1) = true := by rw [hk1]; rfl
            have f2 : (m.kind == 2) = false := by rw [hk1]; rfl
            have f3 : (m.kind == 3) = false := by rw [hk1]; rfl
            have f4 : (m.kind == 4) = false := by rw [hk1]; rfl
            clear hk1
            go_wp2_with fail
            refine (hC.out _).mono ?_
            rintro e w3 ⟨rfl, hb3⟩
            have kt3 := kt.call hb3
            clear z0 z1 z2
            obtain ⟨z0, z1, z2, _, _, _⟩ := kt3.c3
            replace hbw1 := bl_call hbw1 hb3
            replace hbw2 := bl_call hbw2 hb3
            cases ok with
            | false =>
              go_wp2_with fail
              go_roundw
              case rel => exact ⟨k + 1, x, false, by omega, by go_num, rfl, rfl, by rw [hnx.out]; simp, hx0, hx1, hbw1, hbw2⟩
              case measure => simp [intOf]; omega
            | true =>
              cases y with
              | false =>
                go_wp2_with fail
                go_roundw
                case rel => exact ⟨k + 1, x, false, by omega, by go_num, rfl, rfl, by rw [hnx.out]; simp, hx0, hx1, hbw1, hbw2⟩
                case measure => simp [intOf]; omega
              | true =>
                by_cases hc : x < 1152921504606846976
                · go_wp2_with fail
                  go_roundw
                  case rel => exact ⟨k + 1, x, true, by omega, by go_num, rfl, rfl, by rw [hnx.out]; simp [hc], hx0, hx1, hbw1, hbw2⟩
                  case measure => simp [intOf]; omega
                · go_wp2_with fail
                  go_roundw
                  case rel => exact ⟨k + 1, x, false, by omega, by go_num, rfl, by first | rfl | exact congrArg Value.bool (decide_eq_false (by omega)), by rw [hnx.out]; simp [hc], hx0, hx1, hbw1, hbw2⟩
                  case measure => simp [intOf]; omega
          · rcases hk1 with hk1 | hk1 | hk1
            · have ea : adjStep m N = (min N m.n, true) := by unfold adjStep; rw [if_neg (by omega), if_pos hk1]
              rw [ea] at hnx hx0 hx1
              obtain ⟨x, hx⟩ : ∃ x, min N m.n = x := ⟨_, rfl⟩
              dsimp only at hnx hx0 hx1
              rw [hx] at hnx hx0 hx1
              replace hnx := Lib.hid hnx
              clear ea
              have f1 : (m.kind == 1) = false := by rw [hk1]; rfl
              have f2 : (m.kind == 2) = true := by rw [hk1]; rfl
              have f3 : (m.kind == 3) = false := by rw [hk1]; rfl
              have f4 : (m.kind == 4) = false := by rw [hk1]; rfl
              clear hk1
              cases ok with
              | false =>
                go_wp2_with fail
                go_roundw
                case rel => exact ⟨k + 1, x, false, by omega, by go_num, rfl, rfl, by rw [hnx.out]; simp, hx0, hx1, hbw1, hbw2⟩
                case measure => simp [intOf]; omega
              | true =>
                by_cases hc : x < 1152921504606846976
                · go_wp2_with fail
                  go_roundw
                  case rel => exact ⟨k + 1, x, true, by omega, by go_num, rfl, rfl, by rw [hnx.out]; simp [hc], hx0, hx1, hbw1, hbw2⟩
                  case measure => simp [intOf]; omega
                · exfalso; omega
            · have ea : adjStep m N = (max N m.n, true) := by unfold adjStep; rw [if_neg (by omega), if_neg (by omega), if_pos hk1]
              rw [ea] at hnx hx0 hx1
              obtain ⟨x, hx⟩ : ∃ x, max N m.n = x := ⟨_, rfl⟩
              dsimp only at hnx hx0 hx1
              rw [hx] at hnx hx0 hx1
              replace hnx := Lib.hid hnx
              clear ea
              have f1 : (m.kind == 1) = false := by rw [hk1]; rfl
              have f2 : (m.kind == 2) = false := by rw [hk1]; rfl
              have f3 : (m.kind == 3) = true := by rw [hk1]; rfl
              have f4 : (m.kind == 4) = false := by rw [hk1]; rfl
              clear hk1
              cases ok with
              | false =>
                go_wp2_with fail
                go_roundw
                case rel => exact ⟨k + 1, x, false, by omega, by go_num, rfl, rfl, by rw [hnx.out]; simp, hx0, hx1, hbw1, hbw2⟩
                case measure => simp [intOf]; omega
              | true =>
                by_cases hc : x < 1152921504606846976
                · go_wp2_with fail
                  go_roundw
                  case rel => exact ⟨k + 1, x, true, by omega, by go_num, rfl, rfl, by rw [hnx.out]; simp [hc], hx0, hx1, hbw1, hbw2⟩
                  case measure => simp [intOf]; omega
                · go_wp2_with fail
                  go_roundw
                  case rel => exact ⟨k + 1, x, false, by omega, by go_num, rfl, by first | rfl | exact congrArg Value.bool (decide_eq_false (by omega)), by rw [hnx.out]; simp [hc], hx0, hx1, hbw1, hbw2⟩
                  case measure => simp [intOf]; omega
            · by_cases hs : N + m.n < 9223372036854775808
              · have ea : adjStep m N = (N + m.n, true) := by unfold adjStep; rw [if_neg (by omega), if_neg (by omega), if_neg (by omega), if_pos hk1, if_pos hs]
                have hC := fun W => eadd_yes N m.n W hN0 (by omega) hs
                rw [ea] at hnx hx0 hx1
                dsimp only at hnx hx0 hx1
                generalize N + m.n = x at *
                replace hnx := Lib.hid hnx
                replace hC := Lib.hid hC
                clear ea
                have f1 : (m.kind == 1) = false := by rw [hk1]; rfl
                have f2 : (m.kind == 2) = false := by rw [hk1]; rfl
                have f3 : (m.kind == 3) = false := by rw [hk1]; rfl
                have f4 : (m.kind == 4) = true := by rw [hk1]; rfl
                clear hk1
                go_wp2_with fail
                refine (hC.out _).mono ?_
                rintro e w3 ⟨rfl, rfl⟩
                cases ok with
                | false =>
                  go_wp2_with fail
                  go_roundw
                  case rel => exact ⟨k + 1, x, false, by omega, by go_num, rfl, rfl, by rw [hnx.out]; simp, hx0, hx1, hbw1, hbw2⟩
                  case measure => simp [intOf]; omega
                | true =>
                  by_cases hc : x < 1152921504606846976
                  · go_wp2_with fail
                    go_roundw
                    case rel => exact ⟨k + 1, x, true, by omega, by go_num, rfl, rfl, by rw [hnx.out]; simp [hc], hx0, hx1, hbw1, hbw2⟩
                    case measure => simp [intOf]; omega
                  · go_wp2_with fail
                    go_roundw
                    case rel => exact ⟨k + 1, x, false, by omega, by go_num, rfl, by first | rfl | exact congrArg Value.bool (decide_eq_false (by omega)), by rw [hnx.out]; simp [hc], hx0, hx1, hbw1, hbw2⟩
                    case measure => simp [intOf]; omega
              · have ea : adjStep m N = (0, false) := by unfold adjStep; rw [if_neg (by omega), if_neg (by omega), if_neg (by omega), if_pos hk1, if_neg hs]
                have hC := fun W => eadd_no N m.n W hN0 hN1 (by omega) (by omega) hs
                rw [ea] at hnx hx0 hx1
                dsimp only at hnx hx0 hx1
                replace hnx := Lib.hid hnx
                replace hC := Lib.hid hC
                clear ea hs
                have f1 : (m.kind == 1) = false := by rw [hk1]; rfl
                have f2 : (m.kind == 2) = false := by rw [hk1]; rfl
                have f3 : (m.kind == 3) = false := by rw [hk1]; rfl
                have f4 : (m.kind == 4) = true := by rw [hk1]; rfl
                clear hk1
                go_wp2_with fail
                refine (hC.out _).mono ?_
                rintro e w3 ⟨rfl, rfl⟩
                cases ok with
                | false =>
                  go_wp2_with fail
                  go_roundw
                  case rel => exact ⟨k + 1, 0, false, by omega, by go_num, rfl, rfl, by rw [hnx.out]; simp, hx0, hx1, hbw1, hbw2⟩
                  case measure => simp [intOf]; omega
                | true =>
                  go_wp2_with fail
                  go_roundw
                  case rel => exact ⟨k + 1, 0, false, by omega, by go_num, rfl, rfl, by rw [hnx.out]; simp, hx0, hx1, hbw1, hbw2⟩
                  case measure => simp [intOf]; omega
        · obtain rfl : k = c.adjs.length := by omega
          rw [List.take_length] at hadj'
          by_cases hO : O = none
          · have h1 := n1.out hO
            rw [hadj'.out] at h1
            obtain rfl : ok = false := h1
            subst hO
            go_wp2_with fail
            go_ret2
            first | exact ⟨N, rfl, fun m hm => (by cases hm), hN0, hN1, hbwx⟩ | exact ⟨N, rfl, hN0, hN1, hbwx⟩
          · obtain ⟨m, rfl⟩ : ∃ m, O = some m := by cases O with | none => exact absurd rfl hO | some m => exact ⟨m, rfl⟩
            have h2 := n2.out m rfl
            rw [hadj'.out] at h2
            injection h2 with h2 h3
            subst h2 h3
            have h4 := hsm.out N rfl
            go_wp2_with fail
            go_ret2
            exact ⟨N, by rfl, fun m hm => (by injection hm), hN0, hN1, hbwx⟩
end Go.Proofs.Ytcgkfgklggjmaaa.Par
end
section
namespace Go.Proofs.Ytcgkfgklggjmaaa.Par
set_option linter.unusedVariables false
set_option linter.unusedSimpArgs false
open Go.RowKit
/-- what a sum is, as it lies in memory -/
def SumSt (s : Option Int) (T : Int) (O : Bool) : Prop := O = s.isSome ∧ (∀ v, s = some v → T = v) ∧ 0 ≤ T ∧ T < 1152921504606846976
/-- all but two blocks stands -/
structure Fr2 (a b : Nat) (w w' : World) : Prop where
  os : w'.os = w.os
  tape : w'.tape = w.tape
  output : w'.output = w.output
  size : w'.heap.size = w.heap.size
  block : ∀ g, g ≠ a → g ≠ b → w'.heap[g]? = w.heap[g]?
theorem Fr2.below {a b : Nat} {w0 w w' : World} (h : Fr2 a b w w') (hb : Below w0.heap.size w0 w) (ha : w0.heap.size ≤ a) (hb' : w0.heap.size ≤ b) : Below w0.heap.size w0 w' :=
  ⟨h.os.trans hb.os, h.tape.trans hb.tape, h.output.trans hb.output, by rw [h.size]; exact hb.size, fun g hg => (h.block g (by omega) (by omega)).trans (hb.block g hg)⟩
theorem Fr2.blk {a b g : Nat} {w w' : World} {t : TypeId} {cs : Array Value} (h : Fr2 a b w w') (k : Blk w g t cs) (ha : g ≠ a) (hb : g ≠ b) : Blk w' g t cs := (h.block g ha hb).trans k
theorem sum_add {s x : Option Int} {T n : Int} {O f : Bool} (h : SumSt s T O) (hf : f = x.isSome) (hx : ∀ v, x = some v → n = v) (hn : 0 ≤ n) :
    (O = false ∨ f = false ∨ 1152921504606846976 ≤ T + n → addO s x = none) ∧ (O = true → f = true → T + n < 1152921504606846976 → addO s x = some (T + n)) := by
  obtain ⟨h1, h2, h3, h4⟩ := h
  cases s with
  | none =>
    refine ⟨fun _ => (by cases x <;> rfl), fun e => ?_⟩
    rw [h1] at e; cases e
  | some v =>
    obtain rfl := h2 v rfl
    cases x with
    | none => exact ⟨fun _ => rfl, fun _ e => by rw [hf] at e; cases e⟩
    | some m =>
      obtain rfl := hx m rfl
      have e : addO (some T) (some n) = if T + n < 1152921504606846976 then some (T + n) else none := rfl
      rw [e]
      refine ⟨fun hh => ?_, fun _ _ hlt => if_pos hlt⟩
      rcases hh with hh | hh | hh
      · rw [h1] at hh; cases hh
      · rw [hf] at hh; cases hh
      · exact if_neg (by omega)
theorem sumSt_none {T : Int} (h0 : 0 ≤ T) (h1 : T < 1152921504606846976) : SumSt none T false := ⟨rfl, fun v h => (by cases h), h0, h1⟩
theorem sumSt_some {T : Int} (h0 : 0 ≤ T) (h1 : T < 1152921504606846976) : SumSt (some T) T true := ⟨rfl, fun v h => (by injection h), h0, h1⟩
theorem fr2_ok (w : World) (gt go : Nat) (u : Value) : Fr2 gt go w (w.setCell ⟨go, 0, none⟩ u) :=
  ⟨rfl, rfl, rfl, by simp [World.setCell], fun g _ h2 => Below.heap_setCell w ⟨go, 0, none⟩ u g h2⟩
theorem fr2_both (w : World) (gt go : Nat) (u v : Value) : Fr2 gt go w ((w.setCell ⟨go, 0, none⟩ u).setCell ⟨gt, 0, none⟩ v) :=
  ⟨rfl, rfl, rfl, by simp [World.setCell], fun g h1 h2 => (Below.heap_setCell _ ⟨gt, 0, none⟩ v g h1).trans (Below.heap_setCell w ⟨go, 0, none⟩ u g h2)⟩
set_option maxHeartbeats 16000000 in
set_option maxRecDepth 100000 in
theorem badd_any (n : Int) (f : Bool) (gt go : Nat) (T : Int) (O : Bool) (s x : Option Int) (w : World) (kt : Blk w gt 3 #[.int .i64 T]) (ko : Blk w go 4 #[.bool O]) (h : SumSt s T O) (hf : f = x.isSome) (hx : ∀ v, x = some v → n = v) (hn : 0 ≤ n) (hn1 : n < 9223372036854775808) :
    Calls Try.prog 26 #[.int .i64 n, .bool f, .pointer (some ⟨gt, 0, none⟩), .pointer (some ⟨go, 0, none⟩)] w fun e w' => ∃ T' O', e = .returned (.tuple #[]) ∧ Blk w' gt 3 #[.int .i64 T'] ∧ Blk w' go 4 #[.bool O'] ∧ SumSt (addO s x) T' O' ∧ Fr2 gt go w w' := by
  have hne : gt ≠ go := kt.ne_ ko (by decide)
  obtain ⟨s1, s2⟩ := sum_add h hf hx hn
  obtain ⟨u1, u2, h3, h4⟩ := h
  clear u1 u2
  obtain ⟨x0, y0⟩ := kt.c1
  obtain ⟨x1, y1⟩ := ko.c1
  have lt1 := kt.lt
  have lt2 := ko.lt
  clear hf hx
  by_cases hov : T + n < 9223372036854775808
  · cases O with
    | false =>
      rw [s1 (.inl rfl)]
      have hs := sumSt_none h3 h4
      clear s1 s2
      go_enter Try.func26, Try.ntmps26
      go_wp2_with fail
      refine (eadd_yes T n _ h3 hn hov).mono ?_
      rintro e w1 ⟨rfl, rfl⟩
      have z0 := (ko.set_ 0 (.bool false)).c1.1
      go_wp2_with fail
      go_end0
      exact ⟨T, false, rfl, kt.far (p := ⟨go, 0, none⟩) hne (.bool false), ko.set_ 0 (.bool false), hs, fr2_ok w gt go _⟩
    | true =>
      cases f with
      | false =>
        rw [s1 (.inr (.inl rfl))]
        have hs := sumSt_none h3 h4
        clear s1 s2
        go_enter Try.func26, Try.ntmps26
        go_wp2_with fail
        refine (eadd_yes T n _ h3 hn hov).mono ?_
        rintro e w1 ⟨rfl, rfl⟩
        have z0 := (ko.set_ 0 (.bool false)).c1.1
        go_wp2_with fail
        go_end0
        exact ⟨T, false, rfl, kt.far (p := ⟨go, 0, none⟩) hne (.bool false), ko.set_ 0 (.bool false), hs, fr2_ok w gt go _⟩
      | true =>
        by_cases hlt : T + n < 1152921504606846976
        · rw [s2 rfl rfl hlt]
          have hs : SumSt (some (T + n)) (T + n) true := sumSt_some (by omega) hlt
          clear s1 s2
          have z0 := (ko.set_ 0 (.bool true)).c1.1
          have z1 := (kt.far (p := ⟨go, 0, none⟩) hne (.bool true)).c1
          obtain ⟨z1, z2⟩ := z1
          go_enter Try.func26, Try.ntmps26
          go_wp2_with fail
          refine (eadd_yes T n _ h3 hn hov).mono ?_
          rintro e w1 ⟨rfl, rfl⟩
          go_wp2_with fail
          go_end0
          exact ⟨T + n, true, rfl, (kt.far (p := ⟨go, 0, none⟩) hne (.bool true)).set_ 0 (.int .i64 (T + n)), (ko.set_ 0 (.bool true)).far (p := ⟨gt, 0, none⟩) (fun e => hne e.symm) (.int .i64 (T + n)), hs, fr2_both w gt go _ _⟩
        · rw [s1 (.inr (.inr (by omega)))]
          have hs := sumSt_none h3 h4
          have hd : decide (T + n < 1152921504606846976) = false := decide_eq_false hlt
          clear s1 s2
          go_enter Try.func26, Try.ntmps26
          go_wp2_with fail
          refine (eadd_yes T n _ h3 hn hov).mono ?_
          rintro e w1 ⟨rfl, rfl⟩
          have z0 := (ko.set_ 0 (.bool false)).c1.1
          go_wp2_with fail
          go_end0
          exact ⟨T, false, rfl, kt.far (p := ⟨go, 0, none⟩) hne (.bool false), ko.set_ 0 (.bool false), hs, fr2_ok w gt go _⟩
  · have hs := sumSt_none h3 h4
    rw [s1 (.inr (.inr (by omega)))]
    clear s1 s2
    cases O with
    | false =>
      go_enter Try.func26, Try.ntmps26
      go_wp2_with fail
      refine (eadd_no T n _ h3 (by omega) hn hn1 (by omega)).mono ?_
      rintro e w1 ⟨rfl, rfl⟩
      have z0 := (ko.set_ 0 (.bool false)).c1.1
      go_wp2_with fail
      go_end0
      exact ⟨T, false, rfl, kt.far (p := ⟨go, 0, none⟩) hne (.bool false), ko.set_ 0 (.bool false), hs, fr2_ok w gt go _⟩
    | true =>
      cases f with
      | false =>
        go_enter Try.func26, Try.ntmps26
        go_wp2_with fail
        refine (eadd_no T n _ h3 (by omega) hn hn1 (by omega)).mono ?_
        rintro e w1 ⟨rfl, rfl⟩
        have z0 := (ko.set_ 0 (.bool false)).c1.1
        go_wp2_with fail
        go_end0
        exact ⟨T, false, rfl, kt.far (p := ⟨go, 0, none⟩) hne (.bool false), ko.set_ 0 (.bool false), hs, fr2_ok w gt go _⟩
      | true =>
        go_enter Try.func26, Try.ntmps26
        go_wp2_with fail
        refine (eadd_no T n _ h3 (by omega) hn hn1 (by omega)).mono ?_
        rintro e w1 ⟨rfl, rfl⟩
        have z0 := (ko.set_ 0 (.bool false)).c1.1
        go_wp2_with fail
        go_end0
        exact ⟨T, false, rfl, kt.far (p := ⟨go, 0, none⟩) hne (.bool false), ko.set_ 0 (.bool false), hs, fr2_ok w gt go _⟩
end Go.Proofs.Ytcgkfgklggjmaaa.Par
end
section
namespace Go.Proofs.Ytcgkfgklggjmaaa.Par
set_option linter.unusedVariables false
set_option linter.unusedSimpArgs false
open Go.RowKit
/-- a plan's numbers, so that its bound can be told -/
structure BNum (p : Plan) : Prop where
  mets : ∀ m ∈ p.mets, 0 ≤ m.max ∧ m.max ≤ 2000
  fees : ∀ f ∈ p.fees, 0 ≤ f.amount ∧ f.amount ≤ 1000000000000
  chgs : ∀ c ∈ p.chgs, (0 ≤ c.allow ∧ c.allow ≤ 1000000) ∧ (1 ≤ c.block ∧ c.block ≤ 1000000) ∧ (∀ t ∈ c.tiers, 0 ≤ t.rate ∧ t.rate ≤ 1000000000000) ∧ ∀ a ∈ c.adjs, AOk a
theorem BNum.num {p : Plan} (h : BNum p) {c : Chg} (hc : c ∈ p.chgs) {k : Nat} {m : Met} (hm : p.mets[k]? = some m) : CNum c m.max := by
  obtain ⟨h1, h2, h3, h4⟩ := h.chgs c hc
  exact ⟨h.mets m (List.mem_of_getElem? hm), h1, h2, h3, h4⟩
theorem fees_take {l : List Fee} {k : Nat} {f : Fee} (h : l[k]? = some f) (s : Option Int) : ((l.take (k + 1)).map (fun f => some f.amount)).foldl addO s = addO (((l.take k).map (fun f => some f.amount)).foldl addO s) (some f.amount) := by
  rw [List.take_add_one, h]
  simp
theorem chgs_take {p : Plan} {k : Nat} {c : Chg} (h : p.chgs[k]? = some c) (s : Option Int) :
    ((p.chgs.take (k + 1)).filterMap (chgMost p)).foldl addO s = (match chgMost p c with | none => ((p.chgs.take k).filterMap (chgMost p)).foldl addO s | some x => addO (((p.chgs.take k).filterMap (chgMost p)).foldl addO s) x) := by
  rw [List.take_add_one, h, List.filterMap_append]
  cases hc : chgMost p c with
  | none => simp [hc]
  | some x => simp [hc]
theorem bound_eq (p : Plan) : boundO p = (p.chgs.filterMap (chgMost p)).foldl addO ((p.fees.map (fun f => some f.amount)).foldl addO (some 0)) := by
  unfold boundO sumList
  rw [List.foldl_append]
def FeeS (p : Plan) (k : Nat) : Option Int := ((p.fees.take k).map (fun f => some f.amount)).foldl addO (some 0)
def ChgS (p : Plan) (k : Nat) : Option Int := ((p.chgs.take k).filterMap (chgMost p)).foldl addO (FeeS p p.fees.length)
theorem FeeS_next {p : Plan} {k : Nat} {f : Fee} (h : p.fees[k]? = some f) : FeeS p (k + 1) = addO (FeeS p k) (some f.amount) := fees_take h _
theorem ChgS_zero (p : Plan) : ChgS p 0 = FeeS p p.fees.length := rfl
theorem ChgS_end (p : Plan) : ChgS p p.chgs.length = boundO p := by
  unfold ChgS FeeS
  rw [List.take_length, List.take_length, bound_eq]
theorem ChgS_skip {p : Plan} {k : Nat} {c : Chg} (h : p.chgs[k]? = some c) (hi : metI c.meter p.mets < 0) : ChgS p (k + 1) = ChgS p k := by
  unfold ChgS
  rw [chgs_take h, show chgMost p c = none from if_pos hi]
theorem ChgS_add {p : Plan} {k j : Nat} {c : Chg} {m : Met} (h : p.chgs[k]? = some c) (hi : metI c.meter p.mets = j) (hm : p.mets[j]? = some m) : ChgS p (k + 1) = addO (ChgS p k) (mostO c m.max) := by
  have e : chgMost p c = some (mostO c m.max) := by
    unfold chgMost
    rw [if_neg (by omega), hi, Int.toNat_natCast, hm]
    rfl
  unfold ChgS
  rw [chgs_take h, e]
theorem Rows.fr2 {a b : Nat} {w w' : World} {B : Nat} {p : Plan} {mv fv cv : Value} {cs : List CT} (h : Rows w B p mv fv cv cs) (hf : Fr2 a b w w') (ha : ∀ g, blocks mv fv cv cs g → g ≠ a ∧ g ≠ b) : Rows w' B p mv fv cv cs :=
  h.keep fun g hg => hf.block g (ha g hg).1 (ha g hg).2
set_option maxHeartbeats 16000000 in
set_option maxRecDepth 100000 in
theorem pbound_any (p : Plan) (Am Af Ac : Option Addr) (cm cf cc : Nat) (cs : List CT) (w : World) {B : Nat} (hR : Rows w B p (.slice Am p.mets.length cm) (.slice Af p.fees.length cf) (.slice Ac cs.length cc) cs) (hN : BNum p) (hcl : p.fees.length ≤ 10000 ∧ cs.length ≤ 10000) :
    Calls Try.prog 11 #[.agg #[.string p.name, .string p.cur, .int .i64 p.from_.1, .int .i64 p.from_.2.1, .int .i64 p.from_.2.2, .int .i64 p.to_.1, .int .i64 p.to_.2.1, .int .i64 p.to_.2.2, .slice Am p.mets.length cm, .slice Af p.fees.length cf, .slice Ac cs.length cc, .int .i64 p.line, .int .i64 p.col]] w fun e w' => e = .returned (.tuple #[.int .i64 ((boundO p).getD 0), .bool (boundO p).isSome]) ∧ Below w.heap.size w w' := by
  obtain ⟨hcl1, hcl2⟩ := hcl
  obtain ⟨_, _, he, ht1, ht2, ht3⟩ := Lies.open (f := feeF) (l := p.fees) (Lies.of hR.fo)
  injection he with he1 he2 he3
  subst he1 he3
  obtain ⟨_, _, he, hc1, hc2, hc3⟩ := Lies.open (f := chgF) (l := cs) (Lies.of hR.co)
  injection he with he1 he2 he3
  subst he1 he3
  obtain ⟨_, _, he, hm1, hm2, hm3⟩ := Lies.open (f := metF) (l := p.mets) (Lies.of hR.mo)
  injection he with he1 he2 he3
  subst he1 he3
  obtain ⟨W0, hW0⟩ : ∃ W0, W0 = ((w.alloc (.cells #[.string p.name, .string p.cur, .int .i64 p.from_.1, .int .i64 p.from_.2.1, .int .i64 p.from_.2.2, .int .i64 p.to_.1, .int .i64 p.to_.2.1, .int .i64 p.to_.2.2, .slice Am p.mets.length cm, .slice Af p.fees.length cf, .slice Ac cs.length cc, .int .i64 p.line, .int .i64 p.col] 29)).alloc (.cells #[.int .i64 0] 3)).alloc (.cells #[.bool true] 4) := ⟨_, rfl⟩
  have kp : Blk W0 w.heap.size 29 #[.string p.name, .string p.cur, .int .i64 p.from_.1, .int .i64 p.from_.2.1, .int .i64 p.from_.2.2, .int .i64 p.to_.1, .int .i64 p.to_.2.1, .int .i64 p.to_.2.2, .slice Am p.mets.length cm, .slice Af p.fees.length cf, .slice Ac cs.length cc, .int .i64 p.line, .int .i64 p.col] := by rw [hW0]; exact ((Blk.new w 29 #[.string p.name, .string p.cur, .int .i64 p.from_.1, .int .i64 p.from_.2.1, .int .i64 p.from_.2.2, .int .i64 p.to_.1, .int .i64 p.to_.2.1, .int .i64 p.to_.2.2, .slice Am p.mets.length cm, .slice Af p.fees.length cf, .slice Ac cs.length cc, .int .i64 p.line, .int .i64 p.col]).alloc _).alloc _
  have kt : Blk W0 (w.heap.size + 1) 3 #[.int .i64 0] := by
    rw [hW0]
    have := Dec.Blk.new2 w (.cells #[.string p.name, .string p.cur, .int .i64 p.from_.1, .int .i64 p.from_.2.1, .int .i64 p.from_.2.2, .int .i64 p.to_.1, .int .i64 p.to_.2.1, .int .i64 p.to_.2.2, .slice Am p.mets.length cm, .slice Af p.fees.length cf, .slice Ac cs.length cc, .int .i64 p.line, .int .i64 p.col] 29) 3 #[.int .i64 0]
    exact this.alloc _
  have ko : Blk W0 (w.heap.size + 1 + 1) 4 #[.bool true] := by
    rw [hW0]
    have := Dec.Blk.new2 (w.alloc (.cells #[.string p.name, .string p.cur, .int .i64 p.from_.1, .int .i64 p.from_.2.1, .int .i64 p.from_.2.2, .int .i64 p.to_.1, .int .i64 p.to_.2.1, .int .i64 p.to_.2.2, .slice Am p.mets.length cm, .slice Af p.fees.length cf, .slice Ac cs.length cc, .int .i64 p.line, .int .i64 p.col] 29)) (.cells #[.int .i64 0] 3) 4 #[.bool true]
    rwa [World.size_alloc] at this
  have b0 : Below w.heap.size w W0 := by rw [hW0]; exact bl_alloc (bl_alloc (bl_alloc (bl_refl w) _) _) _
  obtain ⟨a0, a1, a2, a3, a4, a5, a6, a7, a8, a9, a10, a11, a12, _, _, _, _, _, _, _, _, _, _, _, _, _⟩ := kp.c13
  go_enter Try.func11, Try.ntmps11
  go_upto_region 2 with fail
  rw [← hW0]
  clear hW0
  go_wp2_with fail
  go_loopw [16] (fun v16 wr => ∃ (k : Nat) (T : Int) (O : Bool), k ≤ p.fees.length ∧ v16 = .int .i64 k ∧ SumSt (FeeS p k) T O ∧ Blk wr w.heap.size 29 #[.string p.name, .string p.cur, .int .i64 p.from_.1, .int .i64 p.from_.2.1, .int .i64 p.from_.2.2, .int .i64 p.to_.1, .int .i64 p.to_.2.1, .int .i64 p.to_.2.2, .slice Am p.mets.length cm, .slice Af p.fees.length cf, .slice Ac cs.length cc, .int .i64 p.line, .int .i64 p.col] ∧ Blk wr (w.heap.size + 1) 3 #[.int .i64 T] ∧ Blk wr (w.heap.size + 1 + 1) 4 #[.bool O] ∧ Below w.heap.size w wr) (fun v16 _ => p.fees.length - (intOf v16).toNat)
  case atStart => exact ⟨0, 0, true, by omega, rfl, sumSt_some (by decide) (by decide), kp, kt, ko, b0⟩
  case round =>
    clear kp kt ko b0 a0 a1 a2 a3 a4 a5 a6 a7 a8 a9 a10 a11 a12
    obtain ⟨k, T, O, hk, rfl, hS, kpr, ktr, kor, hbw⟩ := hrel
    replace hS := Lib.hid hS
    have hfo := (hR.below hbw).fo
    have lp := kpr.lt
    have lt := ktr.lt
    have lo := kor.lt
    by_cases hlt : k < p.fees.length
    · obtain ⟨g0, rfl, hg0⟩ := ht3 (by omega)
      obtain ⟨m, hm⟩ : ∃ m, p.fees[k]? = some m := ⟨p.fees[k], List.getElem?_eq_getElem hlt⟩
      have r0 : (wr).cell? ⟨g0, k * 10, none⟩ = some (.int .i64 m.amount) := Lies.at (f := feeF) (l := p.fees) (Lies.of hfo) (fun _ => rfl) (i := k) hm (j := 0) rfl
      have r1 : (wr).cell? ⟨g0, k * 10 + 1, none⟩ = some (.bool m.win.has) := Lies.at (f := feeF) (l := p.fees) (Lies.of hfo) (fun _ => rfl) (i := k) hm (j := 1) rfl
      have r2 : (wr).cell? ⟨g0, k * 10 + 2, none⟩ = some (.int .i64 m.win.from_.1) := Lies.at (f := feeF) (l := p.fees) (Lies.of hfo) (fun _ => rfl) (i := k) hm (j := 2) rfl
      have r3 : (wr).cell? ⟨g0, k * 10 + 3, none⟩ = some (.int .i64 m.win.from_.2.1) := Lies.at (f := feeF) (l := p.fees) (Lies.of hfo) (fun _ => rfl) (i := k) hm (j := 3) rfl
      have r4 : (wr).cell? ⟨g0, k * 10 + 4, none⟩ = some (.int .i64 m.win.from_.2.2) := Lies.at (f := feeF) (l := p.fees) (Lies.of hfo) (fun _ => rfl) (i := k) hm (j := 4) rfl
      have r5 : (wr).cell? ⟨g0, k * 10 + 5, none⟩ = some (.int .i64 m.win.to_.1) := Lies.at (f := feeF) (l := p.fees) (Lies.of hfo) (fun _ => rfl) (i := k) hm (j := 5) rfl
      have r6 : (wr).cell? ⟨g0, k * 10 + 6, none⟩ = some (.int .i64 m.win.to_.2.1) := Lies.at (f := feeF) (l := p.fees) (Lies.of hfo) (fun _ => rfl) (i := k) hm (j := 6) rfl
      have r7 : (wr).cell? ⟨g0, k * 10 + 7, none⟩ = some (.int .i64 m.win.to_.2.2) := Lies.at (f := feeF) (l := p.fees) (Lies.of hfo) (fun _ => rfl) (i := k) hm (j := 7) rfl
      have r8 : (wr).cell? ⟨g0, k * 10 + 8, none⟩ = some (.int .i64 m.line) := Lies.at (f := feeF) (l := p.fees) (Lies.of hfo) (fun _ => rfl) (i := k) hm (j := 8) rfl
      have r9 : (wr).cell? ⟨g0, k * 10 + 9, none⟩ = some (.int .i64 m.col) := Lies.at (f := feeF) (l := p.fees) (Lies.of hfo) (fun _ => rfl) (i := k) hm (j := 9) rfl
      have gg0 : (0 : Int) ≤ (k : Int) := by omega
      have gg1 : (k : Int) < (p.fees.length : Int) := by omega
      have gg2 : (k : Int) < (cf : Int) := by have := ht1; omega
      have hnm := hN.fees m (List.mem_of_getElem? hm)
      have hnx := Lib.hid (FeeS_next hm)
      have kt1 := ktr.alloc (.cells #[.int .i64 m.amount, .bool m.win.has, .int .i64 m.win.from_.1, .int .i64 m.win.from_.2.1, .int .i64 m.win.from_.2.2, .int .i64 m.win.to_.1, .int .i64 m.win.to_.2.1, .int .i64 m.win.to_.2.2, .int .i64 m.line, .int .i64 m.col] 54)
      have ko1 := kor.alloc (.cells #[.int .i64 m.amount, .bool m.win.has, .int .i64 m.win.from_.1, .int .i64 m.win.from_.2.1, .int .i64 m.win.from_.2.2, .int .i64 m.win.to_.1, .int .i64 m.win.to_.2.1, .int .i64 m.win.to_.2.2, .int .i64 m.line, .int .i64 m.col] 54)
      have kp1 := kpr.alloc (.cells #[.int .i64 m.amount, .bool m.win.has, .int .i64 m.win.from_.1, .int .i64 m.win.from_.2.1, .int .i64 m.win.from_.2.2, .int .i64 m.win.to_.1, .int .i64 m.win.to_.2.1, .int .i64 m.win.to_.2.2, .int .i64 m.line, .int .i64 m.col] 54)
      have kf := Blk.new wr 54 #[.int .i64 m.amount, .bool m.win.has, .int .i64 m.win.from_.1, .int .i64 m.win.from_.2.1, .int .i64 m.win.from_.2.2, .int .i64 m.win.to_.1, .int .i64 m.win.to_.2.1, .int .i64 m.win.to_.2.2, .int .i64 m.line, .int .i64 m.col]
      have hbw1 := bl_alloc hbw (.cells #[.int .i64 m.amount, .bool m.win.has, .int .i64 m.win.from_.1, .int .i64 m.win.from_.2.1, .int .i64 m.win.from_.2.2, .int .i64 m.win.to_.1, .int .i64 m.win.to_.2.1, .int .i64 m.win.to_.2.2, .int .i64 m.line, .int .i64 m.col] 54)
      have hA := Lib.hid (badd_any m.amount true (w.heap.size + 1) (w.heap.size + 1 + 1) T O (FeeS p k) (some m.amount) _ kt1 ko1 hS.out rfl (fun v h => by injection h) (by omega) (by omega))
      obtain ⟨z0, z1, z2, z3, z4, z5, z6, z7, z8, z9, _, _, _, _, _, _, _, _, _, _⟩ := kf.c10
      clear hnm hm
      go_wp2_with fail
      refine hA.out.mono ?_
      rintro e w1 ⟨T', O', rfl, kt2, ko2, hS2, hfr⟩
      have hbw2 := hfr.below hbw1 (by omega) (by omega)
      have kp2 := hfr.blk kp1 (by omega) (by omega)
      rw [← hnx.out] at hS2
      replace hS2 := Lib.hid hS2
      go_wp2_with fail
      go_roundw
      case rel => exact ⟨k + 1, T', O', by omega, by go_num, hS2.out, kp2, kt2, ko2, hbw2⟩
      case measure => simp [intOf]; omega
    · obtain rfl : k = p.fees.length := by omega
      clear hlt hk
      obtain ⟨a0, a1, a2, a3, a4, a5, a6, a7, a8, a9, a10, a11, a12, _, _, _, _, _, _, _, _, _, _, _, _, _⟩ := kpr.c13
      go_wp2_with fail
      clear a0 a1 a2 a3 a4 a5 a6 a7 a8 a9 a10 a11 a12
      have eC := ChgS_zero p
      rw [← eC] at hS
      clear eC
      go_loopw [28] (fun v28 wr => ∃ (k : Nat) (T : Int) (O : Bool), k ≤ cs.length ∧ v28 = .int .i64 k ∧ Hid (SumSt (ChgS p k) T O) ∧ Blk wr w.heap.size 29 #[.string p.name, .string p.cur, .int .i64 p.from_.1, .int .i64 p.from_.2.1, .int .i64 p.from_.2.2, .int .i64 p.to_.1, .int .i64 p.to_.2.1, .int .i64 p.to_.2.2, .slice Am p.mets.length cm, .slice Af p.fees.length cf, .slice Ac cs.length cc, .int .i64 p.line, .int .i64 p.col] ∧ Blk wr (w.heap.size + 1) 3 #[.int .i64 T] ∧ Blk wr (w.heap.size + 1 + 1) 4 #[.bool O] ∧ Below w.heap.size w wr) (fun v28 _ => cs.length - (intOf v28).toNat)
      case atStart => exact ⟨0, T, O, by omega, rfl, hS, kpr, ktr, kor, hbw⟩
      case round =>
        clear kpr ktr kor hbw hfo lp lt lo hS
        obtain ⟨k, T, O, hk, rfl, hS, kpr, ktr, kor, hbw⟩ := hrel
        have hRr := hR.below hbw
        have lp := kpr.lt
        have lt := ktr.lt
        have lo := kor.lt
        by_cases hlt : k < cs.length
        · obtain ⟨g0, rfl, hg0⟩ := hc3 (by omega)
          obtain ⟨x, hm⟩ : ∃ m, cs[k]? = some m := ⟨cs[k], List.getElem?_eq_getElem hlt⟩
          have hmem := List.mem_of_getElem? hm
          have hcq : p.chgs[k]? = some x.1 := by rw [← hR.eq, List.getElem?_map, hm]; rfl
          obtain ⟨c, tv, av⟩ := x
          obtain ⟨At, ct, rfl, _, _, _⟩ := Lies.open (f := tierF) (l := c.tiers) (Lies.of (hR.ne _ hmem).1)
          obtain ⟨Aa, ca, rfl, _, _, _⟩ := Lies.open (f := adjF) (l := c.adjs) (Lies.of (hR.ne _ hmem).2)
          dsimp only at hcq
          have r0 : (wr).cell? ⟨g0, k * 16, none⟩ = some (.string c.meter) := Lies.at (f := chgF) (l := cs) (Lies.of hRr.co) (fun _ => rfl) (i := k) hm (j := 0) rfl
          have r1 : (wr).cell? ⟨g0, k * 16 + 1, none⟩ = some (.bool c.win.has) := Lies.at (f := chgF) (l := cs) (Lies.of hRr.co) (fun _ => rfl) (i := k) hm (j := 1) rfl
          have r2 : (wr).cell? ⟨g0, k * 16 + 2, none⟩ = some (.int .i64 c.win.from_.1) := Lies.at (f := chgF) (l := cs) (Lies.of hRr.co) (fun _ => rfl) (i := k) hm (j := 2) rfl
          have r3 : (wr).cell? ⟨g0, k * 16 + 3, none⟩ = some (.int .i64 c.win.from_.2.1) := Lies.at (f := chgF) (l := cs) (Lies.of hRr.co) (fun _ => rfl) (i := k) hm (j := 3) rfl
          have r4 : (wr).cell? ⟨g0, k * 16 + 4, none⟩ = some (.int .i64 c.win.from_.2.2) := Lies.at (f := chgF) (l := cs) (Lies.of hRr.co) (fun _ => rfl) (i := k) hm (j := 4) rfl
          have r5 : (wr).cell? ⟨g0, k * 16 + 5, none⟩ = some (.int .i64 c.win.to_.1) := Lies.at (f := chgF) (l := cs) (Lies.of hRr.co) (fun _ => rfl) (i := k) hm (j := 5) rfl
          have r6 : (wr).cell? ⟨g0, k * 16 + 6, none⟩ = some (.int .i64 c.win.to_.2.1) := Lies.at (f := chgF) (l := cs) (Lies.of hRr.co) (fun _ => rfl) (i := k) hm (j := 6) rfl
          have r7 : (wr).cell? ⟨g0, k * 16 + 7, none⟩ = some (.int .i64 c.win.to_.2.2) := Lies.at (f := chgF) (l := cs) (Lies.of hRr.co) (fun _ => rfl) (i := k) hm (j := 7) rfl
          have r8 : (wr).cell? ⟨g0, k * 16 + 8, none⟩ = some (.int .i64 c.allow) := Lies.at (f := chgF) (l := cs) (Lies.of hRr.co) (fun _ => rfl) (i := k) hm (j := 8) rfl
          have r9 : (wr).cell? ⟨g0, k * 16 + 9, none⟩ = some (.int .i64 c.block) := Lies.at (f := chgF) (l := cs) (Lies.of hRr.co) (fun _ => rfl) (i := k) hm (j := 9) rfl
          have r10 : (wr).cell? ⟨g0, k * 16 + 10, none⟩ = some (.int .i64 c.kind) := Lies.at (f := chgF) (l := cs) (Lies.of hRr.co) (fun _ => rfl) (i := k) hm (j := 10) rfl
          have r11 : (wr).cell? ⟨g0, k * 16 + 11, none⟩ = some (.slice At c.tiers.length ct) := Lies.at (f := chgF) (l := cs) (Lies.of hRr.co) (fun _ => rfl) (i := k) hm (j := 11) rfl
          have r12 : (wr).cell? ⟨g0, k * 16 + 12, none⟩ = some (.int .i64 c.mode) := Lies.at (f := chgF) (l := cs) (Lies.of hRr.co) (fun _ => rfl) (i := k) hm (j := 12) rfl
          have r13 : (wr).cell? ⟨g0, k * 16 + 13, none⟩ = some (.slice Aa c.adjs.length ca) := Lies.at (f := chgF) (l := cs) (Lies.of hRr.co) (fun _ => rfl) (i := k) hm (j := 13) rfl
          have r14 : (wr).cell? ⟨g0, k * 16 + 14, none⟩ = some (.int .i64 c.line) := Lies.at (f := chgF) (l := cs) (Lies.of hRr.co) (fun _ => rfl) (i := k) hm (j := 14) rfl
          have r15 : (wr).cell? ⟨g0, k * 16 + 15, none⟩ = some (.int .i64 c.col) := Lies.at (f := chgF) (l := cs) (Lies.of hRr.co) (fun _ => rfl) (i := k) hm (j := 15) rfl
          have gg0 : (0 : Int) ≤ (k : Int) := by omega
          have gg1 : (k : Int) < (cs.length : Int) := by omega
          have gg2 : (k : Int) < (cc : Int) := by have := hc1; omega
          have kt1 := ktr.alloc (.cells #[.string c.meter, .bool c.win.has, .int .i64 c.win.from_.1, .int .i64 c.win.from_.2.1, .int .i64 c.win.from_.2.2, .int .i64 c.win.to_.1, .int .i64 c.win.to_.2.1, .int .i64 c.win.to_.2.2, .int .i64 c.allow, .int .i64 c.block, .int .i64 c.kind, .slice At c.tiers.length ct, .int .i64 c.mode, .slice Aa c.adjs.length ca, .int .i64 c.line, .int .i64 c.col] 58)
          have ko1 := kor.alloc (.cells #[.string c.meter, .bool c.win.has, .int .i64 c.win.from_.1, .int .i64 c.win.from_.2.1, .int .i64 c.win.from_.2.2, .int .i64 c.win.to_.1, .int .i64 c.win.to_.2.1, .int .i64 c.win.to_.2.2, .int .i64 c.allow, .int .i64 c.block, .int .i64 c.kind, .slice At c.tiers.length ct, .int .i64 c.mode, .slice Aa c.adjs.length ca, .int .i64 c.line, .int .i64 c.col] 58)
          have kp1 := kpr.alloc (.cells #[.string c.meter, .bool c.win.has, .int .i64 c.win.from_.1, .int .i64 c.win.from_.2.1, .int .i64 c.win.from_.2.2, .int .i64 c.win.to_.1, .int .i64 c.win.to_.2.1, .int .i64 c.win.to_.2.2, .int .i64 c.allow, .int .i64 c.block, .int .i64 c.kind, .slice At c.tiers.length ct, .int .i64 c.mode, .slice Aa c.adjs.length ca, .int .i64 c.line, .int .i64 c.col] 58)
          have kc1 := Blk.new wr 58 #[.string c.meter, .bool c.win.has, .int .i64 c.win.from_.1, .int .i64 c.win.from_.2.1, .int .i64 c.win.from_.2.2, .int .i64 c.win.to_.1, .int .i64 c.win.to_.2.1, .int .i64 c.win.to_.2.2, .int .i64 c.allow, .int .i64 c.block, .int .i64 c.kind, .slice At c.tiers.length ct, .int .i64 c.mode, .slice Aa c.adjs.length ca, .int .i64 c.line, .int .i64 c.col]
          have hbw1 := bl_alloc hbw (.cells #[.string c.meter, .bool c.win.has, .int .i64 c.win.from_.1, .int .i64 c.win.from_.2.1, .int .i64 c.win.from_.2.2, .int .i64 c.win.to_.1, .int .i64 c.win.to_.2.1, .int .i64 c.win.to_.2.2, .int .i64 c.allow, .int .i64 c.block, .int .i64 c.kind, .slice At c.tiers.length ct, .int .i64 c.mode, .slice Aa c.adjs.length ca, .int .i64 c.line, .int .i64 c.col] 58)
          have hcm := List.mem_of_getElem? hcq
          have hM := Lib.hid (treeMeter_any p Am Af (some ⟨g0, 0, none⟩) cm cf cc cs c.meter _ (hR.below hbw1).mo)
          obtain ⟨i, hi⟩ : ∃ i, metI c.meter p.mets = i := ⟨_, rfl⟩
          rw [hi] at hM
          obtain ⟨z0, z1, z2, z3, z4, z5, z6, z7, z8, z9, z10, z11, z12, z13, z14, z15, _, _, _, _, _, _, _, _, _, _, _, _, _, _, _, _⟩ := kc1.c16
          obtain ⟨a0, a1, a2, a3, a4, a5, a6, a7, a8, a9, a10, a11, a12, _, _, _, _, _, _, _, _, _, _, _, _, _⟩ := kp1.c13
          go_wp2_with fail
          refine hM.out.mono ?_
          rintro e w2 ⟨rfl, hb2⟩
          have hbw2 := bl_call hbw1 hb2
          have kt2 := kt1.call hb2
          have ko2 := ko1.call hb2
          have kp2 := kp1.call hb2
          have kc2 := kc1.call hb2
          clear hM a0 a1 a2 a3 a4 a5 a6 a7 a8 a9 a10 a11 a12 z0 z1 z2 z3 z4 z5 z6 z7 z8 z9 z10 z11 z12 z13 z14 z15 kt1 ko1 kp1 kc1 hbw1
          by_cases hneg : i < 0
          · have hsk := Lib.hid (ChgS_skip hcq (by omega))
            clear hi hcq hm
            go_wp2_with fail
            go_roundw
            case rel => exact ⟨k + 1, T, O, by omega, by go_num, by rw [hsk.out]; exact hS, kp2, kt2, ko2, hbw2⟩
            case measure => simp [intOf]; omega
          · obtain ⟨j, mm, hj, hmm, _⟩ := metI_some (n := c.meter) (l := p.mets) (by omega)
            have hlm : j < p.mets.length := (List.getElem?_eq_some_iff.1 hmm).1
            have hnx := Lib.hid (ChgS_add hcq hj hmm)
            have hCN := hN.num hcm hmm
            obtain rfl : i = j := by omega
            clear hi hcq hm hj
            obtain ⟨gm, rfl, hgm⟩ := hm3 (by omega)
            go_upto_region 13 with fail
            have hRd : Rows w2.drew B p _ _ _ cs := hR.below (bl_drew hbw2)
            have hMo := Lib.hid (pmost_any c At Aa ct ca mm.max w2.drew (hRd.ne _ hmem).1 (hRd.ne _ hmem).2 hCN)
            have kt3 := kt2.drew
            have ko3 := ko2.drew
            have kp3 := kp2.drew
            have kc3 := kc2.drew
            have hbw3 := bl_drew hbw2
            have lgm : gm < w2.drew.heap.size := by have := hbw3.size; omega
            have m2 : (w2.drew).cell? ⟨gm, j * 5 + 2, none⟩ = some (.int .i64 mm.max) := Lies.at (f := metF) (l := p.mets) (Lies.of hRd.mo) (fun _ => rfl) (i := j) hmm (j := 2) rfl
            obtain ⟨z0, z1, z2, z3, z4, z5, z6, z7, z8, z9, z10, z11, z12, z13, z14, z15, _, _, _, _, _, _, _, _, _, _, _, _, _, _, _, _⟩ := kc3.c16
            obtain ⟨a0, a1, a2, a3, a4, a5, a6, a7, a8, a9, a10, a11, a12, _, _, _, _, _, _, _, _, _, _, _, _, _⟩ := kp3.c13
            clear hmm hRd
            have gg0 : (0 : Int) ≤ (j : Int) := by omega
            have gg1 : (j : Int) < (p.mets.length : Int) := by omega
            have gg2 : (j : Int) < (cm : Int) := by have := hm1; omega
            go_region_held3 (fun w' => w'.cell? ⟨wr.heap.size, 0, none⟩ = some (.string c.meter) ∧ w'.cell? ⟨wr.heap.size, 1, none⟩ = some (.bool c.win.has) ∧ w'.cell? ⟨wr.heap.size, 2, none⟩ = some (.int .i64 c.win.from_.1) ∧ w'.cell? ⟨wr.heap.size, 3, none⟩ = some (.int .i64 c.win.from_.2.1) ∧ w'.cell? ⟨wr.heap.size, 4, none⟩ = some (.int .i64 c.win.from_.2.2) ∧ w'.cell? ⟨wr.heap.size, 5, none⟩ = some (.int .i64 c.win.to_.1) ∧ w'.cell? ⟨wr.heap.size, 6, none⟩ = some (.int .i64 c.win.to_.2.1) ∧ w'.cell? ⟨wr.heap.size, 7, none⟩ = some (.int .i64 c.win.to_.2.2) ∧ w'.cell? ⟨wr.heap.size, 8, none⟩ = some (.int .i64 c.allow) ∧ w'.cell? ⟨wr.heap.size, 9, none⟩ = some (.int .i64 c.block) ∧ w'.cell? ⟨wr.heap.size, 10, none⟩ = some (.int .i64 c.kind) ∧ w'.cell? ⟨wr.heap.size, 11, none⟩ = some (.slice At c.tiers.length ct) ∧ w'.cell? ⟨wr.heap.size, 12, none⟩ = some (.int .i64 c.mode) ∧ w'.cell? ⟨wr.heap.size, 13, none⟩ = some (.slice Aa c.adjs.length ca) ∧ w'.cell? ⟨wr.heap.size, 14, none⟩ = some (.int .i64 c.line) ∧ w'.cell? ⟨wr.heap.size, 15, none⟩ = some (.int .i64 c.col) ∧ w'.cell? ⟨w.heap.size, 0, none⟩ = some (.string p.name) ∧ w'.cell? ⟨w.heap.size, 1, none⟩ = some (.string p.cur) ∧ w'.cell? ⟨w.heap.size, 2, none⟩ = some (.int .i64 p.from_.1) ∧ w'.cell? ⟨w.heap.size, 3, none⟩ = some (.int .i64 p.from_.2.1) ∧ w'.cell? ⟨w.heap.size, 4, none⟩ = some (.int .i64 p.from_.2.2) ∧ w'.cell? ⟨w.heap.size, 5, none⟩ = some (.int .i64 p.to_.1) ∧ w'.cell? ⟨w.heap.size, 6, none⟩ = some (.int .i64 p.to_.2.1) ∧ w'.cell? ⟨w.heap.size, 7, none⟩ = some (.int .i64 p.to_.2.2) ∧ w'.cell? ⟨w.heap.size, 8, none⟩ = some (.slice (some ⟨gm, 0, none⟩) p.mets.length cm) ∧ w'.cell? ⟨w.heap.size, 9, none⟩ = some (.slice Af p.fees.length cf) ∧ w'.cell? ⟨w.heap.size, 10, none⟩ = some (.slice (some ⟨g0, 0, none⟩) cs.length cc) ∧ w'.cell? ⟨w.heap.size, 11, none⟩ = some (.int .i64 p.line) ∧ w'.cell? ⟨w.heap.size, 12, none⟩ = some (.int .i64 p.col) ∧ w'.cell? ⟨gm, j * 5 + 2, none⟩ = some (.int .i64 mm.max))
              (refine ⟨?_, ?_, ?_, ?_, ?_, ?_, ?_, ?_, ?_, ?_, ?_, ?_, ?_, ?_, ?_, ?_, ?_, ?_, ?_, ?_, ?_, ?_, ?_, ?_, ?_, ?_, ?_, ?_, ?_, ?_⟩ <;> first | with_reducible assumption | (go_keep; done))
              ((first | (go_at_call 29; (refine hMo.out.mono ?_); rintro e' w5 ⟨n', rfl, hn1, hn2, hn3, hb5⟩; (replace hn1 := Lib.hid hn1); (have kt5 := kt3.call hb5); (have ko5 := ko3.call hb5); (have kp5 := kp3.call hb5); (have kc5 := kc3.call hb5); (have hbw5 := bl_call hbw3 hb5); (have lgm5 : gm < w5.heap.size := Nat.lt_of_lt_of_le lgm hb5.size); (have yy2 := (hb5.cell (p := ⟨gm, j * 5 + 2, none⟩) lgm).trans m2); obtain ⟨y0, y1, y2, y3, y4, y5, y6, y7, y8, y9, y10, y11, y12, y13, y14, y15, _, _, _, _, _, _, _, _, _, _, _, _, _, _, _, _⟩ := kc5.c16; obtain ⟨b0, b1, b2, b3, b4, b5, b6, b7, b8, b9, b10, b11, b12, _, _, _, _, _, _, _, _, _, _, _, _, _⟩ := kp5.c13) | (go_at_call 26; (refine (badd_any n' (mostO c mm.max).isSome (w.heap.size + 1) (w.heap.size + 1 + 1) T O (ChgS p k) (mostO c mm.max) _ kt5 ko5 hS.out rfl hn1.out hn2 hn3).mono ?_); rintro e' w6 ⟨T', O', rfl, kt6, ko6, hS6, hfr⟩; (rw [← hnx.out] at hS6); (replace hS6 := Lib.hid hS6); (have kp6 := hfr.blk kp5 (by omega) (by omega)); (have kc6 := hfr.blk kc5 (by omega) (by omega)); (have hbw6 := hfr.below hbw5 (by omega) (by omega)); (have x2 : w6.cell? ⟨gm, j * 5 + 2, none⟩ = some (.int .i64 mm.max) := (World.cell?_of_block (hfr.block gm (by omega) (by omega))).trans yy2); obtain ⟨x0, x1, x2, x3, x4, x5, x6, x7, x8, x9, x10, x11, x12, x13, x14, x15, _, _, _, _, _, _, _, _, _, _, _, _, _, _, _, _⟩ := kc6.c16; obtain ⟨d0, d1, d2, d3, d4, d5, d6, d7, d8, d9, d10, d11, d12, _, _, _, _, _, _, _, _, _, _, _, _, _⟩ := kp6.c13)))
            all_goals go_wp2_with fail
            all_goals go_roundw
            case rel => exact ⟨k + 1, T', O', by omega, by go_num, hS6, kp6, kt6, ko6, hbw6⟩
            case measure => simp [intOf]; omega
        · obtain rfl : k = cs.length := by omega
          have hcl : cs.length = p.chgs.length := by have h := congrArg List.length hR.eq; rw [List.length_map] at h; exact h
          have hE := ChgS_end p
          rw [← hcl] at hE
          obtain ⟨s1, s2, s3, s4⟩ := hS.out
          rw [hE] at s1 s2
          replace s2 := Lib.hid s2
          obtain ⟨x0, _⟩ := ktr.c1
          obtain ⟨x1, _⟩ := kor.c1
          clear hE
          cases hb : boundO p with
          | none =>
            rw [hb] at s1
            obtain rfl : O = false := s1
            go_wp2_with fail
            go_ret2
            exact ⟨by rw [hb]; rfl, hbw⟩
          | some v =>
            rw [hb] at s1
            obtain rfl : O = true := s1
            obtain rfl : T = v := s2.out v hb
            clear s2
            go_wp2_with fail
            go_ret2
            exact ⟨by rw [hb]; rfl, hbw⟩
end Go.Proofs.Ytcgkfgklggjmaaa.Par
end
section
namespace Go.Proofs.Ytcgkfgklggjmaaa.Par
set_option linter.unusedVariables false
set_option linter.unusedSimpArgs false
open Go.RowKit
theorem pok_bnum {p : Plan} (h : POk p) (hc : ∀ c ∈ p.chgs, 1 ≤ c.block) : BNum p :=
  ⟨fun m hm => (h.mets m hm).2.2, fun f hf => (h.fees f hf).1, fun c hcm => ⟨(h.chgs c hcm).allow, ⟨hc c hcm, (h.chgs c hcm).block.2⟩, fun t ht => by
    obtain ⟨l, r, e, h1, h2⟩ := (h.chgs c hcm).tiers
    rw [e] at ht
    rcases List.mem_append.1 ht with ht | ht
    · exact (h1 t ht).2
    · obtain rfl := List.mem_singleton.1 ht; exact h2, (h.chgs c hcm).adjs⟩⟩
theorem cok_upto {c : Chg} (h : COk c) : ∀ t ∈ c.tiers, 0 ≤ t.upto := fun t ht => by
  obtain ⟨l, r, e, h1, h2⟩ := h.tiers
  rw [e] at ht
  rcases List.mem_append.1 ht with ht | ht
  · exact (h1 t ht).1.1
  · obtain rfl := List.mem_singleton.1 ht; exact Int.le_refl _
theorem hor_chk {p : Plan} (h : horE p ≠ 0) : chkL p = (horE p, p.line, p.col) := by
  unfold chkL
  unfold horE at h ⊢
  split
  · rfl
  · split
    · rfl
    · rename_i h1 h2; rw [if_neg h1, if_neg h2] at h; exact absurd rfl h
theorem hor_ok {p : Plan} (h : horE p = 0) : ¬ numT p.to_ < numT p.from_ ∧ ¬ 4000 ≤ numT p.to_ - numT p.from_ := by
  unfold horE at h
  split at h
  · cases h
  · split at h
    · cases h
    · exact ⟨by assumption, by assumption⟩
theorem ne_fst {α : Type} {e : Nat → α → Int} {pl : α → Int × Int} {l : List α} {k : Nat} {m : α} (h0 : ∀ (j : Nat) (x : α), j < k → l[j]? = some x → e j x = 0) (hm : l[k]? = some m) (he : e k m ≠ 0) : firstE e pl 0 l = (e k m, pl m) ∧ (firstE e pl 0 l).1 ≠ 0 := by
  have h := firstE_at (e := e) (pl := pl) (i := 0) (fun j x hj hx => by rw [Nat.zero_add]; exact h0 j x hj hx) hm (by rw [Nat.zero_add]; exact he)
  rw [Nat.zero_add] at h
  exact ⟨h, by rw [h]; exact he⟩
theorem all_fst {α : Type} {e : Nat → α → Int} {pl : α → Int × Int} {l : List α} (h0 : ∀ (j : Nat) (x : α), j < l.length → l[j]? = some x → e j x = 0) : (firstE e pl 0 l).1 = 0 :=
  first_zero.2 fun j x hx => by rw [Nat.zero_add]; exact h0 j x (List.getElem?_eq_some_iff.1 hx).1 hx
abbrev plM : Met → Int × Int := fun m => (m.line, m.col)
abbrev plF : Fee → Int × Int := fun m => (m.line, m.col)
abbrev plC : Chg → Int × Int := fun m => (m.line, m.col)
theorem chk_met {p : Plan} (h : horE p = 0) (hm : (firstE (metE p) plM 0 p.mets).1 ≠ 0) : chkL p = firstE (metE p) plM 0 p.mets := by
  obtain ⟨h1, h2⟩ := hor_ok h
  unfold chkL
  rw [if_neg h1, if_neg h2, if_pos hm]
theorem chk_fee {p : Plan} (h : horE p = 0) (hm : (firstE (metE p) plM 0 p.mets).1 = 0) (hf : (firstE (feeE p) plF 0 p.fees).1 ≠ 0) : chkL p = firstE (feeE p) plF 0 p.fees := by
  obtain ⟨h1, h2⟩ := hor_ok h
  unfold chkL
  rw [if_neg h1, if_neg h2, if_neg (by simpa using hm), if_pos hf]
theorem chk_chg {p : Plan} (h : horE p = 0) (hm : (firstE (metE p) plM 0 p.mets).1 = 0) (hf : (firstE (feeE p) plF 0 p.fees).1 = 0) (hc : (firstE (chgE p) plC 0 p.chgs).1 ≠ 0) : chkL p = firstE (chgE p) plC 0 p.chgs := by
  obtain ⟨h1, h2⟩ := hor_ok h
  unfold chkL
  rw [if_neg h1, if_neg h2, if_neg (by simpa using hm), if_neg (by simpa using hf), if_pos hc]
theorem chk_end {p : Plan} (h : horE p = 0) (hm : (firstE (metE p) plM 0 p.mets).1 = 0) (hf : (firstE (feeE p) plF 0 p.fees).1 = 0) (hc : (firstE (chgE p) plC 0 p.chgs).1 = 0) : chkL p = if boundO p = none then (6, p.line, p.col) else (0, 0, 0) := by
  obtain ⟨h1, h2⟩ := hor_ok h
  unfold chkL
  rw [if_neg h1, if_neg h2, if_neg (by simpa using hm), if_neg (by simpa using hf), if_neg (by simpa using hc)]
theorem chgE_block {p : Plan} {k : Nat} {c : Chg} (h : chgE p k c = 0) : 1 ≤ c.block := by
  unfold chgE at h
  split at h
  · cases h
  split at h
  · cases h
  split at h
  · cases h
  split at h
  · cases h
  · omega
theorem chgE_len {p : Plan} (h : ∀ (j : Nat) (x : Chg), p.chgs[j]? = some x → chgE p j x = 0) : p.chgs.length ≤ 8 := by
  rcases Nat.lt_or_ge 8 p.chgs.length with h8 | h8
  · have := h 8 p.chgs[8] (List.getElem?_eq_getElem h8)
    unfold chgE at this
    rw [if_pos (Nat.le_refl 8)] at this
    cases this
  · exact h8
theorem feeE_len {p : Plan} (h : ∀ (j : Nat) (x : Fee), p.fees[j]? = some x → feeE p j x = 0) : p.fees.length ≤ 8 := by
  rcases Nat.lt_or_ge 8 p.fees.length with h8 | h8
  · have := h 8 p.fees[8] (List.getElem?_eq_getElem h8)
    unfold feeE at this
    rw [if_pos (Nat.le_refl 8)] at this
    cases this
  · exact h8
theorem mem_at {α : Type} {l : List α} {P : α → Prop} (h : ∀ (j : Nat) (x : α), j < l.length → l[j]? = some x → P x) : ∀ x ∈ l, P x := fun x hx => by
  obtain ⟨j, hj, e⟩ := List.mem_iff_getElem.1 hx
  exact h j x hj (by rw [List.getElem?_eq_getElem hj, e])
set_option maxHeartbeats 16000000 in
set_option maxRecDepth 100000 in
theorem cplan_any (p : Plan) (Am Af Ac : Option Addr) (cm cf cc : Nat) (cs : List CT) (w : World) {B : Nat} (hR : Rows w B p (.slice Am p.mets.length cm) (.slice Af p.fees.length cf) (.slice Ac cs.length cc) cs) (hP : POk p) :
    Calls Try.prog 7 #[.agg #[.string p.name, .string p.cur, .int .i64 p.from_.1, .int .i64 p.from_.2.1, .int .i64 p.from_.2.2, .int .i64 p.to_.1, .int .i64 p.to_.2.1, .int .i64 p.to_.2.2, .slice Am p.mets.length cm, .slice Af p.fees.length cf, .slice Ac cs.length cc, .int .i64 p.line, .int .i64 p.col]] w fun e w' => e = .returned (.agg #[.int .i64 (chkL p).1, .int .i64 (chkL p).2.1, .int .i64 (chkL p).2.2]) ∧ Below w.heap.size w w' := by
  have hf := dok_good hP.from_
  have ht := dok_good hP.to_
  obtain ⟨_, _, he, ht1, ht2, ht3⟩ := Lies.open (f := feeF) (l := p.fees) (Lies.of hR.fo)
  injection he with he1 he2 he3
  subst he1 he3
  obtain ⟨_, _, he, hc1, hc2, hc3⟩ := Lies.open (f := chgF) (l := cs) (Lies.of hR.co)
  injection he with he1 he2 he3
  subst he1 he3
  obtain ⟨_, _, he, hm1, hm2, hm3⟩ := Lies.open (f := metF) (l := p.mets) (Lies.of hR.mo)
  injection he with he1 he2 he3
  subst he1 he3
  unfold maxLen at ht2 hc2 hm2
  have hcl : Hid (cs.length = p.chgs.length) := Lib.hid (by have h := congrArg List.length hR.eq; rw [List.length_map] at h; exact h)
  have kp0 := (Blk.new w 29 #[.string p.name, .string p.cur, .int .i64 p.from_.1, .int .i64 p.from_.2.1, .int .i64 p.from_.2.2, .int .i64 p.to_.1, .int .i64 p.to_.2.1, .int .i64 p.to_.2.2, .slice Am p.mets.length cm, .slice Af p.fees.length cf, .slice Ac cs.length cc, .int .i64 p.line, .int .i64 p.col]).alloc (.cells #[.int .i64 0, .int .i64 0, .int .i64 0] 34)
  have kr0 := Dec.Blk.new2 w (.cells #[.string p.name, .string p.cur, .int .i64 p.from_.1, .int .i64 p.from_.2.1, .int .i64 p.from_.2.2, .int .i64 p.to_.1, .int .i64 p.to_.2.1, .int .i64 p.to_.2.2, .slice Am p.mets.length cm, .slice Af p.fees.length cf, .slice Ac cs.length cc, .int .i64 p.line, .int .i64 p.col] 29) 34 #[.int .i64 0, .int .i64 0, .int .i64 0]
  have b0 := bl_alloc (bl_alloc (bl_refl w) (.cells #[.string p.name, .string p.cur, .int .i64 p.from_.1, .int .i64 p.from_.2.1, .int .i64 p.from_.2.2, .int .i64 p.to_.1, .int .i64 p.to_.2.1, .int .i64 p.to_.2.2, .slice Am p.mets.length cm, .slice Af p.fees.length cf, .slice Ac cs.length cc, .int .i64 p.line, .int .i64 p.col] 29)) (.cells #[.int .i64 0, .int .i64 0, .int .i64 0] 34)
  have hH := Lib.hid (fun W => horizon_any p Am Af Ac cm cf cc cs W hf ht)
  have hX1 := Lib.hid (hor_chk (p := p))
  obtain ⟨a0, a1, a2, a3, a4, a5, a6, a7, a8, a9, a10, a11, a12, _, _, _, _, _, _, _, _, _, _, _, _, _⟩ := kp0.c13
  go_enter Try.func7, Try.ntmps7
  go_wp2_with fail
  refine (hH.out _).mono ?_
  rintro e w1 ⟨rfl, hb1⟩
  have kp1 := kp0.call hb1
  have kr1 := kr0.call hb1
  have bb1 := bl_call b0 hb1
  clear a0 a1 a2 a3 a4 a5 a6 a7 a8 a9 a10 a11 a12 hH
  obtain ⟨a0, a1, a2, a3, a4, a5, a6, a7, a8, a9, a10, a11, a12, _, _, _, _, _, _, _, _, _, _, _, _, _⟩ := kp1.c13
  obtain ⟨q0, q1, q2, _, _, _⟩ := kr1.c3
  have lr := kr1.lt
  obtain ⟨H, hHe⟩ : ∃ H, horE p = H := ⟨_, rfl⟩
  rw [hHe] at hX1 ⊢
  by_cases hz : H = 0
  · subst hz
    have hor0 : Hid (horE p = 0) := Lib.hid hHe
    clear hX1 hHe
    go_wp2_with fail
    go_loopw [28] (fun v wr => ∃ k : Nat, k ≤ p.mets.length ∧ v = .int .i64 k ∧ Hid (∀ (j : Nat) (x : Met), j < k → p.mets[j]? = some x → metE p j x = 0) ∧ Blk wr w.heap.size 29 #[.string p.name, .string p.cur, .int .i64 p.from_.1, .int .i64 p.from_.2.1, .int .i64 p.from_.2.2, .int .i64 p.to_.1, .int .i64 p.to_.2.1, .int .i64 p.to_.2.2, .slice Am p.mets.length cm, .slice Af p.fees.length cf, .slice Ac cs.length cc, .int .i64 p.line, .int .i64 p.col] ∧ Blk wr (w.heap.size + 1) 34 #[.int .i64 0, .int .i64 0, .int .i64 0] ∧ Below w.heap.size w wr) (fun v _ => p.mets.length - (intOf v).toNat)
    case atStart => exact ⟨0, by omega, rfl, Lib.hid (fun j x hj => absurd hj (by omega)), kp1, kr1, bb1⟩
    case round =>
      clear kp1 kr1 bb1 lr q0 q1 q2 a0 a1 a2 a3 a4 a5 a6 a7 a8 a9 a10 a11 a12
      obtain ⟨k, hk, rfl, hno, kpr, krr, hbw⟩ := hrel
      have hRr := hR.below hbw
      have lp := kpr.lt
      have lr := krr.lt
      by_cases hlt : k < p.mets.length
      · obtain ⟨g0, rfl, hg0⟩ := hm3 (by omega)
        obtain ⟨m, hm⟩ : ∃ m, p.mets[k]? = some m := ⟨p.mets[k], List.getElem?_eq_getElem hlt⟩
        have r0 : (wr).cell? ⟨g0, k * 5, none⟩ = some (.string m.name) := Lies.at (f := metF) (l := p.mets) (Lies.of hRr.mo) (fun _ => rfl) (i := k) hm (j := 0) rfl
        have r1 : (wr).cell? ⟨g0, k * 5 + 1, none⟩ = some (.string m.unit) := Lies.at (f := metF) (l := p.mets) (Lies.of hRr.mo) (fun _ => rfl) (i := k) hm (j := 1) rfl
        have r2 : (wr).cell? ⟨g0, k * 5 + 2, none⟩ = some (.int .i64 m.max) := Lies.at (f := metF) (l := p.mets) (Lies.of hRr.mo) (fun _ => rfl) (i := k) hm (j := 2) rfl
        have r3 : (wr).cell? ⟨g0, k * 5 + 3, none⟩ = some (.int .i64 m.line) := Lies.at (f := metF) (l := p.mets) (Lies.of hRr.mo) (fun _ => rfl) (i := k) hm (j := 3) rfl
        have r4 : (wr).cell? ⟨g0, k * 5 + 4, none⟩ = some (.int .i64 m.col) := Lies.at (f := metF) (l := p.mets) (Lies.of hRr.mo) (fun _ => rfl) (i := k) hm (j := 4) rfl
        have gg0 : (0 : Int) ≤ (k : Int) := by omega
        have gg1 : (k : Int) < (p.mets.length : Int) := by omega
        have gg2 : (k : Int) < (cm : Int) := by have := hm1; omega
        have kp1 := kpr.alloc (.cells #[.string m.name, .string m.unit, .int .i64 m.max, .int .i64 m.line, .int .i64 m.col] 49)
        have kr1 := krr.alloc (.cells #[.string m.name, .string m.unit, .int .i64 m.max, .int .i64 m.line, .int .i64 m.col] 49)
        have km1 := Blk.new wr 49 #[.string m.name, .string m.unit, .int .i64 m.max, .int .i64 m.line, .int .i64 m.col]
        have hbw1 := bl_alloc hbw (.cells #[.string m.name, .string m.unit, .int .i64 m.max, .int .i64 m.line, .int .i64 m.col] 49)
        have hC := Lib.hid (meter_any p (some ⟨g0, 0, none⟩) Af Ac cm cf cc cs k m _ (hR.below hbw1).mo hm)
        obtain ⟨z0, z1, z2, z3, z4, _, _, _, _, _⟩ := km1.c5
        obtain ⟨a0, a1, a2, a3, a4, a5, a6, a7, a8, a9, a10, a11, a12, _, _, _, _, _, _, _, _, _, _, _, _, _⟩ := kp1.c13
        obtain ⟨E, hE⟩ : ∃ E, metE p k m = E := ⟨_, rfl⟩
        rw [hE] at hC
        replace hE := Lib.hid hE
        go_wp2_with fail
        refine hC.out.mono ?_
        rintro e w2 ⟨rfl, hb2⟩
        have kp2 := kp1.call hb2
        have kr2 := kr1.call hb2
        have km2 := km1.call hb2
        have hbw2 := bl_call hbw1 hb2
        clear hC z0 z1 z2 z3 z4 a0 a1 a2 a3 a4 a5 a6 a7 a8 a9 a10 a11 a12 r0 r1 r2 r3 r4 kp1 kr1 km1 hbw1
        obtain ⟨z0, z1, z2, z3, z4, _, _, _, _, _⟩ := km2.c5
        by_cases hEz : E = 0
        · subst hEz
          have hno2 : Hid (∀ (j : Nat) (x : Met), j < k + 1 → p.mets[j]? = some x → metE p j x = 0) := Lib.hid (fun j x hj hx => by
            rcases Nat.lt_or_ge j k with h1 | h1
            · exact hno.out j x h1 hx
            · obtain rfl : j = k := by omega
              rw [hm] at hx; injection hx with hx; subst hx; exact hE.out)
          clear hm
          go_wp2_with fail
          go_roundw
          case rel => exact ⟨k + 1, by omega, by go_num, hno2, kp2, kr2, hbw2⟩
          case measure => simp [intOf]; omega
        · have hEq : metE p k m ≠ 0 := by rw [hE.out]; exact hEz
          have hres : chkL p = (E, m.line, m.col) := by rw [← hE.out]; exact (chk_met hor0.out (ne_fst (pl := plM) hno.out hm hEq).2).trans (ne_fst (pl := plM) hno.out hm hEq).1
          have hne : (E != 0) = true := bne_iff_ne.mpr hEz
          have lr2 := kr2.lt
          obtain ⟨q0, q1, q2, _, _, _⟩ := kr2.c3
          replace hres := Lib.hid hres
          clear hm hEq
          go_wp2_with fail
          exact bodyPost_ret (results_cell_row rfl _ _ (w.heap.size + 1) _ #[.int .i64 E, .int .i64 m.line, .int .i64 m.col] (0, 0) _ rfl (((kr2.set_ 0 (.int .i64 E)).set_ 1 (.int .i64 m.line)).set_ 2 (.int .i64 m.col)) Try.underlying34 rfl (by kernel_rfl)) rfl
            ⟨by rw [hres.out], bl_set (bl_set (bl_set hbw2 (by show w.heap.size ≤ w.heap.size + 1; omega) _) (by show w.heap.size ≤ w.heap.size + 1; omega) _) (by show w.heap.size ≤ w.heap.size + 1; omega) _⟩
      · obtain rfl : k = p.mets.length := by omega
        have hmet0 := Lib.hid (all_fst (pl := plM) hno.out)
        obtain ⟨a0, a1, a2, a3, a4, a5, a6, a7, a8, a9, a10, a11, a12, _, _, _, _, _, _, _, _, _, _, _, _, _⟩ := kpr.c13
        go_wp2_with fail
        clear a0 a1 a2 a3 a4 a5 a6 a7 a8 a9 a10 a11 a12 hlt hk
        go_loopw [48] (fun v wr => ∃ k : Nat, k ≤ p.fees.length ∧ v = .int .i64 k ∧ Hid (∀ (j : Nat) (x : Fee), j < k → p.fees[j]? = some x → feeE p j x = 0) ∧ Blk wr w.heap.size 29 #[.string p.name, .string p.cur, .int .i64 p.from_.1, .int .i64 p.from_.2.1, .int .i64 p.from_.2.2, .int .i64 p.to_.1, .int .i64 p.to_.2.1, .int .i64 p.to_.2.2, .slice Am p.mets.length cm, .slice Af p.fees.length cf, .slice Ac cs.length cc, .int .i64 p.line, .int .i64 p.col] ∧ Blk wr (w.heap.size + 1) 34 #[.int .i64 0, .int .i64 0, .int .i64 0] ∧ Below w.heap.size w wr) (fun v _ => p.fees.length - (intOf v).toNat)
        case atStart => exact ⟨0, by omega, rfl, Lib.hid (fun j x hj => absurd hj (by omega)), kpr, krr, hbw⟩
        case round =>
          clear kpr krr hbw hRr lp lr hno
          obtain ⟨k, hk, rfl, hno, kpr, krr, hbw⟩ := hrel
          have hRr := hR.below hbw
          have lp := kpr.lt
          have lr := krr.lt
          by_cases hlt : k < p.fees.length
          · obtain ⟨g0, rfl, hg0⟩ := ht3 (by omega)
            obtain ⟨m, hm⟩ : ∃ m, p.fees[k]? = some m := ⟨p.fees[k], List.getElem?_eq_getElem hlt⟩
            have r0 : (wr).cell? ⟨g0, k * 10, none⟩ = some (.int .i64 m.amount) := Lies.at (f := feeF) (l := p.fees) (Lies.of hRr.fo) (fun _ => rfl) (i := k) hm (j := 0) rfl
            have r1 : (wr).cell? ⟨g0, k * 10 + 1, none⟩ = some (.bool m.win.has) := Lies.at (f := feeF) (l := p.fees) (Lies.of hRr.fo) (fun _ => rfl) (i := k) hm (j := 1) rfl
            have r2 : (wr).cell? ⟨g0, k * 10 + 2, none⟩ = some (.int .i64 m.win.from_.1) := Lies.at (f := feeF) (l := p.fees) (Lies.of hRr.fo) (fun _ => rfl) (i := k) hm (j := 2) rfl
            have r3 : (wr).cell? ⟨g0, k * 10 + 3, none⟩ = some (.int .i64 m.win.from_.2.1) := Lies.at (f := feeF) (l := p.fees) (Lies.of hRr.fo) (fun _ => rfl) (i := k) hm (j := 3) rfl
            have r4 : (wr).cell? ⟨g0, k * 10 + 4, none⟩ = some (.int .i64 m.win.from_.2.2) := Lies.at (f := feeF) (l := p.fees) (Lies.of hRr.fo) (fun _ => rfl) (i := k) hm (j := 4) rfl
            have r5 : (wr).cell? ⟨g0, k * 10 + 5, none⟩ = some (.int .i64 m.win.to_.1) := Lies.at (f := feeF) (l := p.fees) (Lies.of hRr.fo) (fun _ => rfl) (i := k) hm (j := 5) rfl
            have r6 : (wr).cell? ⟨g0, k * 10 + 6, none⟩ = some (.int .i64 m.win.to_.2.1) := Lies.at (f := feeF) (l := p.fees) (Lies.of hRr.fo) (fun _ => rfl) (i := k) hm (j := 6) rfl
            have r7 : (wr).cell? ⟨g0, k * 10 + 7, none⟩ = some (.int .i64 m.win.to_.2.2) := Lies.at (f := feeF) (l := p.fees) (Lies.of hRr.fo) (fun _ => rfl) (i := k) hm (j := 7) rfl
            have r8 : (wr).cell? ⟨g0, k * 10 + 8, none⟩ = some (.int .i64 m.line) := Lies.at (f := feeF) (l := p.fees) (Lies.of hRr.fo) (fun _ => rfl) (i := k) hm (j := 8) rfl
            have r9 : (wr).cell? ⟨g0, k * 10 + 9, none⟩ = some (.int .i64 m.col) := Lies.at (f := feeF) (l := p.fees) (Lies.of hRr.fo) (fun _ => rfl) (i := k) hm (j := 9) rfl
            have gg0 : (0 : Int) ≤ (k : Int) := by omega
            have gg1 : (k : Int) < (p.fees.length : Int) := by omega
            have gg2 : (k : Int) < (cf : Int) := by have := ht1; omega
            have kp1 := kpr.alloc (.cells #[.int .i64 m.amount, .bool m.win.has, .int .i64 m.win.from_.1, .int .i64 m.win.from_.2.1, .int .i64 m.win.from_.2.2, .int .i64 m.win.to_.1, .int .i64 m.win.to_.2.1, .int .i64 m.win.to_.2.2, .int .i64 m.line, .int .i64 m.col] 54)
            have kr1 := krr.alloc (.cells #[.int .i64 m.amount, .bool m.win.has, .int .i64 m.win.from_.1, .int .i64 m.win.from_.2.1, .int .i64 m.win.from_.2.2, .int .i64 m.win.to_.1, .int .i64 m.win.to_.2.1, .int .i64 m.win.to_.2.2, .int .i64 m.line, .int .i64 m.col] 54)
            have km1 := Blk.new wr 54 #[.int .i64 m.amount, .bool m.win.has, .int .i64 m.win.from_.1, .int .i64 m.win.from_.2.1, .int .i64 m.win.from_.2.2, .int .i64 m.win.to_.1, .int .i64 m.win.to_.2.1, .int .i64 m.win.to_.2.2, .int .i64 m.line, .int .i64 m.col]
            have hbw1 := bl_alloc hbw (.cells #[.int .i64 m.amount, .bool m.win.has, .int .i64 m.win.from_.1, .int .i64 m.win.from_.2.1, .int .i64 m.win.from_.2.2, .int .i64 m.win.to_.1, .int .i64 m.win.to_.2.1, .int .i64 m.win.to_.2.2, .int .i64 m.line, .int .i64 m.col] 54)
            have hC := Lib.hid (fee_any p Am (some ⟨g0, 0, none⟩) Ac cm cf cc cs k m _ (hR.below hbw1).fo hm hf ht (wok_wg (hP.fees m (List.mem_of_getElem? hm)).2))
            obtain ⟨z0, z1, z2, z3, z4, z5, z6, z7, z8, z9, _, _, _, _, _, _, _, _, _, _⟩ := km1.c10
            obtain ⟨a0, a1, a2, a3, a4, a5, a6, a7, a8, a9, a10, a11, a12, _, _, _, _, _, _, _, _, _, _, _, _, _⟩ := kp1.c13
            obtain ⟨E, hE⟩ : ∃ E, feeE p k m = E := ⟨_, rfl⟩
            rw [hE] at hC
            replace hE := Lib.hid hE
            go_wp2_with fail
            refine hC.out.mono ?_
            rintro e w2 ⟨rfl, hb2⟩
            have kp2 := kp1.call hb2
            have kr2 := kr1.call hb2
            have km2 := km1.call hb2
            have hbw2 := bl_call hbw1 hb2
            clear hC z0 z1 z2 z3 z4 z5 z6 z7 z8 z9 a0 a1 a2 a3 a4 a5 a6 a7 a8 a9 a10 a11 a12 r0 r1 r2 r3 r4 r5 r6 r7 r8 r9 kp1 kr1 km1 hbw1
            obtain ⟨z0, z1, z2, z3, z4, z5, z6, z7, z8, z9, _, _, _, _, _, _, _, _, _, _⟩ := km2.c10
            by_cases hEz : E = 0
            · subst hEz
              have hno2 : Hid (∀ (j : Nat) (x : Fee), j < k + 1 → p.fees[j]? = some x → feeE p j x = 0) := Lib.hid (fun j x hj hx => by
                rcases Nat.lt_or_ge j k with h1 | h1
                · exact hno.out j x h1 hx
                · obtain rfl : j = k := by omega
                  rw [hm] at hx; injection hx with hx; subst hx; exact hE.out)
              clear hm
              go_wp2_with fail
              go_roundw
              case rel => exact ⟨k + 1, by omega, by go_num, hno2, kp2, kr2, hbw2⟩
              case measure => simp [intOf]; omega
            · have hEq : feeE p k m ≠ 0 := by rw [hE.out]; exact hEz
              have hres : chkL p = (E, m.line, m.col) := by rw [← hE.out]; exact (chk_fee hor0.out hmet0.out (ne_fst (pl := plF) hno.out hm hEq).2).trans (ne_fst (pl := plF) hno.out hm hEq).1
              have hne : (E != 0) = true := bne_iff_ne.mpr hEz
              have lr2 := kr2.lt
              obtain ⟨q0, q1, q2, _, _, _⟩ := kr2.c3
              replace hres := Lib.hid hres
              clear hm hEq
              go_wp2_with fail
              exact bodyPost_ret (results_cell_row rfl _ _ (w.heap.size + 1) _ #[.int .i64 E, .int .i64 m.line, .int .i64 m.col] (0, 0) _ rfl (((kr2.set_ 0 (.int .i64 E)).set_ 1 (.int .i64 m.line)).set_ 2 (.int .i64 m.col)) Try.underlying34 rfl (by kernel_rfl)) rfl
                ⟨by rw [hres.out], bl_set (bl_set (bl_set hbw2 (by show w.heap.size ≤ w.heap.size + 1; omega) _) (by show w.heap.size ≤ w.heap.size + 1; omega) _) (by show w.heap.size ≤ w.heap.size + 1; omega) _⟩
          · obtain rfl : k = p.fees.length := by omega
            have hfee0 := Lib.hid (all_fst (pl := plF) hno.out)
            have hfl := Lib.hid (feeE_len fun j x hx => hno.out j x (List.getElem?_eq_some_iff.1 hx).1 hx)
            obtain ⟨a0, a1, a2, a3, a4, a5, a6, a7, a8, a9, a10, a11, a12, _, _, _, _, _, _, _, _, _, _, _, _, _⟩ := kpr.c13
            go_wp2_with fail
            clear a0 a1 a2 a3 a4 a5 a6 a7 a8 a9 a10 a11 a12 hlt hk
            go_loopw [68] (fun v wr => ∃ k : Nat, k ≤ cs.length ∧ v = .int .i64 k ∧ Hid (∀ (j : Nat) (x : Chg), j < k → p.chgs[j]? = some x → chgE p j x = 0) ∧ Blk wr w.heap.size 29 #[.string p.name, .string p.cur, .int .i64 p.from_.1, .int .i64 p.from_.2.1, .int .i64 p.from_.2.2, .int .i64 p.to_.1, .int .i64 p.to_.2.1, .int .i64 p.to_.2.2, .slice Am p.mets.length cm, .slice Af p.fees.length cf, .slice Ac cs.length cc, .int .i64 p.line, .int .i64 p.col] ∧ Blk wr (w.heap.size + 1) 34 #[.int .i64 0, .int .i64 0, .int .i64 0] ∧ Below w.heap.size w wr) (fun v _ => cs.length - (intOf v).toNat)
            case atStart => exact ⟨0, by omega, rfl, Lib.hid (fun j x hj => absurd hj (by omega)), kpr, krr, hbw⟩
            case round =>
              clear kpr krr hbw hRr lp lr hno
              obtain ⟨k, hk, rfl, hno, kpr, krr, hbw⟩ := hrel
              have hRr := hR.below hbw
              have lp := kpr.lt
              have lr := krr.lt
              by_cases hlt : k < cs.length
              · obtain ⟨g0, rfl, hg0⟩ := hc3 (by omega)
                obtain ⟨x, hmx⟩ : ∃ m, cs[k]? = some m := ⟨cs[k], List.getElem?_eq_getElem hlt⟩
                have hmem := List.mem_of_getElem? hmx
                have hm : p.chgs[k]? = some x.1 := by rw [← hR.eq, List.getElem?_map, hmx]; rfl
                obtain ⟨m, tv, av⟩ := x
                obtain ⟨At, ct, rfl, _, _, _⟩ := Lies.open (f := tierF) (l := m.tiers) (Lies.of (hR.ne _ hmem).1)
                obtain ⟨Aa, ca, rfl, _, _, _⟩ := Lies.open (f := adjF) (l := m.adjs) (Lies.of (hR.ne _ hmem).2)
                dsimp only at hm
                have r0 : (wr).cell? ⟨g0, k * 16, none⟩ = some (.string m.meter) := Lies.at (f := chgF) (l := cs) (Lies.of hRr.co) (fun _ => rfl) (i := k) hmx (j := 0) rfl
                have r1 : (wr).cell? ⟨g0, k * 16 + 1, none⟩ = some (.bool m.win.has) := Lies.at (f := chgF) (l := cs) (Lies.of hRr.co) (fun _ => rfl) (i := k) hmx (j := 1) rfl
                have r2 : (wr).cell? ⟨g0, k * 16 + 2, none⟩ = some (.int .i64 m.win.from_.1) := Lies.at (f := chgF) (l := cs) (Lies.of hRr.co) (fun _ => rfl) (i := k) hmx (j := 2) rfl
                have r3 : (wr).cell? ⟨g0, k * 16 + 3, none⟩ = some (.int .i64 m.win.from_.2.1) := Lies.at (f := chgF) (l := cs) (Lies.of hRr.co) (fun _ => rfl) (i := k) hmx (j := 3) rfl
                have r4 : (wr).cell? ⟨g0, k * 16 + 4, none⟩ = some (.int .i64 m.win.from_.2.2) := Lies.at (f := chgF) (l := cs) (Lies.of hRr.co) (fun _ => rfl) (i := k) hmx (j := 4) rfl
                have r5 : (wr).cell? ⟨g0, k * 16 + 5, none⟩ = some (.int .i64 m.win.to_.1) := Lies.at (f := chgF) (l := cs) (Lies.of hRr.co) (fun _ => rfl) (i := k) hmx (j := 5) rfl
                have r6 : (wr).cell? ⟨g0, k * 16 + 6, none⟩ = some (.int .i64 m.win.to_.2.1) := Lies.at (f := chgF) (l := cs) (Lies.of hRr.co) (fun _ => rfl) (i := k) hmx (j := 6) rfl
                have r7 : (wr).cell? ⟨g0, k * 16 + 7, none⟩ = some (.int .i64 m.win.to_.2.2) := Lies.at (f := chgF) (l := cs) (Lies.of hRr.co) (fun _ => rfl) (i := k) hmx (j := 7) rfl
                have r8 : (wr).cell? ⟨g0, k * 16 + 8, none⟩ = some (.int .i64 m.allow) := Lies.at (f := chgF) (l := cs) (Lies.of hRr.co) (fun _ => rfl) (i := k) hmx (j := 8) rfl
                have r9 : (wr).cell? ⟨g0, k * 16 + 9, none⟩ = some (.int .i64 m.block) := Lies.at (f := chgF) (l := cs) (Lies.of hRr.co) (fun _ => rfl) (i := k) hmx (j := 9) rfl
                have r10 : (wr).cell? ⟨g0, k * 16 + 10, none⟩ = some (.int .i64 m.kind) := Lies.at (f := chgF) (l := cs) (Lies.of hRr.co) (fun _ => rfl) (i := k) hmx (j := 10) rfl
                have r11 : (wr).cell? ⟨g0, k * 16 + 11, none⟩ = some (.slice At m.tiers.length ct) := Lies.at (f := chgF) (l := cs) (Lies.of hRr.co) (fun _ => rfl) (i := k) hmx (j := 11) rfl
                have r12 : (wr).cell? ⟨g0, k * 16 + 12, none⟩ = some (.int .i64 m.mode) := Lies.at (f := chgF) (l := cs) (Lies.of hRr.co) (fun _ => rfl) (i := k) hmx (j := 12) rfl
                have r13 : (wr).cell? ⟨g0, k * 16 + 13, none⟩ = some (.slice Aa m.adjs.length ca) := Lies.at (f := chgF) (l := cs) (Lies.of hRr.co) (fun _ => rfl) (i := k) hmx (j := 13) rfl
                have r14 : (wr).cell? ⟨g0, k * 16 + 14, none⟩ = some (.int .i64 m.line) := Lies.at (f := chgF) (l := cs) (Lies.of hRr.co) (fun _ => rfl) (i := k) hmx (j := 14) rfl
                have r15 : (wr).cell? ⟨g0, k * 16 + 15, none⟩ = some (.int .i64 m.col) := Lies.at (f := chgF) (l := cs) (Lies.of hRr.co) (fun _ => rfl) (i := k) hmx (j := 15) rfl
                have gg0 : (0 : Int) ≤ (k : Int) := by omega
                have gg1 : (k : Int) < (cs.length : Int) := by omega
                have gg2 : (k : Int) < (cc : Int) := by have := hc1; omega
                have kp1 := kpr.alloc (.cells #[.string m.meter, .bool m.win.has, .int .i64 m.win.from_.1, .int .i64 m.win.from_.2.1, .int .i64 m.win.from_.2.2, .int .i64 m.win.to_.1, .int .i64 m.win.to_.2.1, .int .i64 m.win.to_.2.2, .int .i64 m.allow, .int .i64 m.block, .int .i64 m.kind, .slice At m.tiers.length ct, .int .i64 m.mode, .slice Aa m.adjs.length ca, .int .i64 m.line, .int .i64 m.col] 58)
                have kr1 := krr.alloc (.cells #[.string m.meter, .bool m.win.has, .int .i64 m.win.from_.1, .int .i64 m.win.from_.2.1, .int .i64 m.win.from_.2.2, .int .i64 m.win.to_.1, .int .i64 m.win.to_.2.1, .int .i64 m.win.to_.2.2, .int .i64 m.allow, .int .i64 m.block, .int .i64 m.kind, .slice At m.tiers.length ct, .int .i64 m.mode, .slice Aa m.adjs.length ca, .int .i64 m.line, .int .i64 m.col] 58)
                have km1 := Blk.new wr 58 #[.string m.meter, .bool m.win.has, .int .i64 m.win.from_.1, .int .i64 m.win.from_.2.1, .int .i64 m.win.from_.2.2, .int .i64 m.win.to_.1, .int .i64 m.win.to_.2.1, .int .i64 m.win.to_.2.2, .int .i64 m.allow, .int .i64 m.block, .int .i64 m.kind, .slice At m.tiers.length ct, .int .i64 m.mode, .slice Aa m.adjs.length ca, .int .i64 m.line, .int .i64 m.col]
                have hbw1 := bl_alloc hbw (.cells #[.string m.meter, .bool m.win.has, .int .i64 m.win.from_.1, .int .i64 m.win.from_.2.1, .int .i64 m.win.from_.2.2, .int .i64 m.win.to_.1, .int .i64 m.win.to_.2.1, .int .i64 m.win.to_.2.2, .int .i64 m.allow, .int .i64 m.block, .int .i64 m.kind, .slice At m.tiers.length ct, .int .i64 m.mode, .slice Aa m.adjs.length ca, .int .i64 m.line, .int .i64 m.col] 58)
                have hC := Lib.hid (ccharge_any p Am Af (some ⟨g0, 0, none⟩) cm cf cc cs k m At Aa ct ca _ (hR.below hbw1) hmx hf ht (wok_wg (hP.chgs m (List.mem_of_getElem? hm)).win) (cok_upto (hP.chgs m (List.mem_of_getElem? hm))))
                obtain ⟨z0, z1, z2, z3, z4, z5, z6, z7, z8, z9, z10, z11, z12, z13, z14, z15, _, _, _, _, _, _, _, _, _, _, _, _, _, _, _, _⟩ := km1.c16
                obtain ⟨a0, a1, a2, a3, a4, a5, a6, a7, a8, a9, a10, a11, a12, _, _, _, _, _, _, _, _, _, _, _, _, _⟩ := kp1.c13
                obtain ⟨E, hE⟩ : ∃ E, chgE p k m = E := ⟨_, rfl⟩
                rw [hE] at hC
                replace hE := Lib.hid hE
                go_wp2_with fail
                refine hC.out.mono ?_
                rintro e w2 ⟨rfl, hb2⟩
                have kp2 := kp1.call hb2
                have kr2 := kr1.call hb2
                have km2 := km1.call hb2
                have hbw2 := bl_call hbw1 hb2
                clear hC z0 z1 z2 z3 z4 z5 z6 z7 z8 z9 z10 z11 z12 z13 z14 z15 a0 a1 a2 a3 a4 a5 a6 a7 a8 a9 a10 a11 a12 r0 r1 r2 r3 r4 r5 r6 r7 r8 r9 r10 r11 r12 r13 r14 r15 kp1 kr1 km1 hbw1
                obtain ⟨z0, z1, z2, z3, z4, z5, z6, z7, z8, z9, z10, z11, z12, z13, z14, z15, _, _, _, _, _, _, _, _, _, _, _, _, _, _, _, _⟩ := km2.c16
                by_cases hEz : E = 0
                · subst hEz
                  have hno2 : Hid (∀ (j : Nat) (x : Chg), j < k + 1 → p.chgs[j]? = some x → chgE p j x = 0) := Lib.hid (fun j x hj hx => by
                    rcases Nat.lt_or_ge j k with h1 | h1
                    · exact hno.out j x h1 hx
                    · obtain rfl : j = k := by omega
                      rw [hm] at hx; injection hx with hx; subst hx; exact hE.out)
                  clear hm
                  go_wp2_with fail
                  go_roundw
                  case rel => exact ⟨k + 1, by omega, by go_num, hno2, kp2, kr2, hbw2⟩
                  case measure => simp [intOf]; omega
                · have hEq : chgE p k m ≠ 0 := by rw [hE.out]; exact hEz
                  have hres : chkL p = (E, m.line, m.col) := by rw [← hE.out]; exact (chk_chg hor0.out hmet0.out hfee0.out (ne_fst (pl := plC) hno.out hm hEq).2).trans (ne_fst (pl := plC) hno.out hm hEq).1
                  have hne : (E != 0) = true := bne_iff_ne.mpr hEz
                  have lr2 := kr2.lt
                  obtain ⟨q0, q1, q2, _, _, _⟩ := kr2.c3
                  replace hres := Lib.hid hres
                  clear hm hEq
                  go_wp2_with fail
                  exact bodyPost_ret (results_cell_row rfl _ _ (w.heap.size + 1) _ #[.int .i64 E, .int .i64 m.line, .int .i64 m.col] (0, 0) _ rfl (((kr2.set_ 0 (.int .i64 E)).set_ 1 (.int .i64 m.line)).set_ 2 (.int .i64 m.col)) Try.underlying34 rfl (by kernel_rfl)) rfl
                    ⟨by rw [hres.out], bl_set (bl_set (bl_set hbw2 (by show w.heap.size ≤ w.heap.size + 1; omega) _) (by show w.heap.size ≤ w.heap.size + 1; omega) _) (by show w.heap.size ≤ w.heap.size + 1; omega) _⟩
              · obtain rfl : k = cs.length := by omega
                have hchg0 := Lib.hid (all_fst (pl := plC) (l := p.chgs) (fun j x hj hx => hno.out j x (by have := hcl.out; omega) hx))
                have hall := Lib.hid (fun (j : Nat) (x : Chg) (hx : p.chgs[j]? = some x) => hno.out j x (by have := hcl.out; have := (List.getElem?_eq_some_iff.1 hx).1; omega) hx)
                have hBN := pok_bnum hP (mem_at fun j x _ hx => chgE_block (hall.out j x hx))
                have hl8 := chgE_len hall.out
                have hB := Lib.hid (pbound_any p Am Af Ac cm cf cc cs _ hRr hBN ⟨by have := hfl.out; omega, by have := hcl.out; omega⟩)
                have hend := Lib.hid (chk_end hor0.out hmet0.out hfee0.out hchg0.out)
                clear hBN hl8
                obtain ⟨a0, a1, a2, a3, a4, a5, a6, a7, a8, a9, a10, a11, a12, _, _, _, _, _, _, _, _, _, _, _, _, _⟩ := kpr.c13
                go_wp2_with fail
                refine hB.out.mono ?_
                rintro e w2 ⟨rfl, hb2⟩
                have kp2 := kpr.call hb2
                have kr2 := krr.call hb2
                have hbw2 := bl_call hbw hb2
                have lr2 := kr2.lt
                clear a0 a1 a2 a3 a4 a5 a6 a7 a8 a9 a10 a11 a12
                obtain ⟨a0, a1, a2, a3, a4, a5, a6, a7, a8, a9, a10, a11, a12, _, _, _, _, _, _, _, _, _, _, _, _, _⟩ := kp2.c13
                obtain ⟨q0, q1, q2, _, _, _⟩ := kr2.c3
                cases hb : boundO p with
                | none =>
                  have hres := hend.out
                  rw [if_pos hb] at hres
                  replace hres := Lib.hid hres
                  go_wp2_with fail
                  exact bodyPost_ret (results_cell_row rfl _ _ (w.heap.size + 1) _ #[.int .i64 6, .int .i64 p.line, .int .i64 p.col] (0, 0) _ rfl (((kr2.set_ 0 (.int .i64 6)).set_ 1 (.int .i64 p.line)).set_ 2 (.int .i64 p.col)) Try.underlying34 rfl (by kernel_rfl)) rfl
                    ⟨by rw [hres.out], bl_set (bl_set (bl_set hbw2 (by show w.heap.size ≤ w.heap.size + 1; omega) _) (by show w.heap.size ≤ w.heap.size + 1; omega) _) (by show w.heap.size ≤ w.heap.size + 1; omega) _⟩
                | some v =>
                  have hres := hend.out
                  rw [if_neg (by rw [hb]; exact Option.some_ne_none v)] at hres
                  replace hres := Lib.hid hres
                  go_wp2_with fail
                  exact bodyPost_ret (results_cell_row rfl _ _ (w.heap.size + 1) _ #[.int .i64 0, .int .i64 0, .int .i64 0] (0, 0) _ rfl (((kr2.set_ 0 (.int .i64 0)).set_ 1 (.int .i64 0)).set_ 2 (.int .i64 0)) Try.underlying34 rfl (by kernel_rfl)) rfl
                    ⟨by rw [hres.out], bl_set (bl_set (bl_set hbw2 (by show w.heap.size ≤ w.heap.size + 1; omega) _) (by show w.heap.size ≤ w.heap.size + 1; omega) _) (by show w.heap.size ≤ w.heap.size + 1; omega) _⟩
  · have hne : (H != 0) = true := bne_iff_ne.mpr hz
    have hres := hX1.out hz
    clear hHe hX1
    go_wp2_with fail
    exact bodyPost_ret (results_cell_row rfl _ _ (w.heap.size + 1) _ #[.int .i64 H, .int .i64 p.line, .int .i64 p.col] (0, 0) _ rfl (((kr1.set_ 0 (.int .i64 H)).set_ 1 (.int .i64 p.line)).set_ 2 (.int .i64 p.col)) Try.underlying34 rfl (by kernel_rfl)) rfl
      ⟨by rw [hres], bl_set (bl_set (bl_set bb1 (by show w.heap.size ≤ w.heap.size + 1; omega) _) (by show w.heap.size ≤ w.heap.size + 1; omega) _) (by show w.heap.size ≤ w.heap.size + 1; omega) _⟩
end Go.Proofs.Ytcgkfgklggjmaaa.Par
end
section
namespace Go.Proofs.Ytcgkfgklggjmaaa.Par
set_option linter.unusedVariables false
set_option linter.unusedSimpArgs false
open Go.RowKit
theorem ba_inj {a b : ByteArray} (h : a.data.toList = b.data.toList) : a = b := by
  apply ByteArray.ext; exact Array.toList_inj.mp h
theorem ba_beq (a : ByteArray) : (a.toList == a.toList) = true := by rw [beq_bytes]; exact beq_refl_bytes a
/-- what the reference's Parse does (RefZ) -/
def RParses8 : Prop := ∀ (s : ByteArray) (w : World), s.size ≤ 9223372036854775807 → Calls Try.prog 12 #[.string s] w fun e w' => ∃ v, e = .returned (.tuple #[v, .int .i64 (RParse s.data.toList).2.1, .int .i64 (RParse s.data.toList).2.2.1, .int .i64 (RParse s.data.toList).2.2.2]) ∧ PlanLies w.heap.size w' v (RParse s.data.toList).1 ∧ Below w.heap.size w w'
end Go.Proofs.Ytcgkfgklggjmaaa.Par
end
section
namespace Go.Proofs.Ytcgkfgklggjmaaa.Par
set_option linter.unusedVariables false
set_option linter.unusedSimpArgs false
open Go.RowKit
def a9A : List UInt8 := [112, 108, 97, 110, 32, 112, 32, 99, 117, 114, 114, 101, 110, 99, 121, 32, 69, 85, 82, 59, 32, 104, 111, 114, 105, 122, 111, 110, 32, 50, 48, 50, 52, 45, 48, 49, 45, 48, 49, 32, 50, 48, 50, 52, 45, 49, 50, 45, 51, 49, 59, 10, 99, 104, 97, 114, 103, 101, 32, 109, 32, 123, 32, 103, 114, 97, 100, 117, 97, 116, 101, 100, 32, 123, 32, 114, 101, 115, 116, 32, 114, 97, 116, 101, 32, 49, 59, 32, 125, 32, 114, 111, 117, 110, 100, 32, 102, 108, 111, 111, 114, 59, 32, 125]
def a9At : List Tok := [⟨2, ⟨#[112, 108, 97, 110]⟩, 1, 1⟩, ⟨1, ⟨#[112]⟩, 1, 6⟩, ⟨2, ⟨#[99, 117, 114, 114, 101, 110, 99, 121]⟩, 1, 8⟩, ⟨1, ⟨#[69, 85, 82]⟩, 1, 17⟩, ⟨5, ⟨#[59]⟩, 1, 20⟩, ⟨2, ⟨#[104, 111, 114, 105, 122, 111, 110]⟩, 1, 22⟩, ⟨4, ⟨#[50, 48, 50, 52, 45, 48, 49, 45, 48, 49]⟩, 1, 30⟩, ⟨4, ⟨#[50, 48, 50, 52, 45, 49, 50, 45, 51, 49]⟩, 1, 41⟩, ⟨5, ⟨#[59]⟩, 1, 51⟩, ⟨2, ⟨#[99, 104, 97, 114, 103, 101]⟩, 2, 1⟩, ⟨1, ⟨#[109]⟩, 2, 8⟩, ⟨5, ⟨#[123]⟩, 2, 10⟩, ⟨2, ⟨#[103, 114, 97, 100, 117, 97, 116, 101, 100]⟩, 2, 12⟩, ⟨5, ⟨#[123]⟩, 2, 22⟩, ⟨2, ⟨#[114, 101, 115, 116]⟩, 2, 24⟩, ⟨2, ⟨#[114, 97, 116, 101]⟩, 2, 29⟩, ⟨3, ⟨#[49]⟩, 2, 34⟩, ⟨5, ⟨#[59]⟩, 2, 35⟩, ⟨5, ⟨#[125]⟩, 2, 37⟩, ⟨2, ⟨#[114, 111, 117, 110, 100]⟩, 2, 39⟩, ⟨2, ⟨#[102, 108, 111, 111, 114]⟩, 2, 45⟩, ⟨5, ⟨#[59]⟩, 2, 50⟩, ⟨5, ⟨#[125]⟩, 2, 52⟩, ⟨0, ⟨#[]⟩, 2, 53⟩]
def a9Ap : Plan := ⟨⟨#[112]⟩, ⟨#[69, 85, 82]⟩, (2024, 1, 1), (2024, 12, 31), [], [], [⟨⟨#[109]⟩, noWin, 0, 1, 1, [⟨0, 1000000⟩], 0, [], 2, 1⟩], 1, 1⟩
set_option maxRecDepth 100000 in
theorem a9A_tok : lexAll a9A = (a9At, 0, 0, 0) := by
  rw [lexAll, if_neg (by decide), ← lexF_eq 300 a9A 1 1 (by decide)]
  have : lexF 300 a9A 1 1 = .ok a9At := by kernel_rfl
  rw [this]
theorem a9A_e : (P.plan dp npV a9At).2.err = 0 := by kernel_rfl
theorem a9A_parse : RParse a9A = (a9Ap, 0, 0, 0) := by
  rw [PParse_ok a9A_tok a9A_e]
  exact congrArg (fun x => (x, (0 : Int), (0 : Int), (0 : Int))) (by kernel_rfl)
theorem a9A_pok : POk a9Ap := by
  have h := pok_parse (l := a9A) (by rw [a9A_parse])
  rw [a9A_parse] at h
  exact h
theorem a9A_told : Told a9Ap := by
  have h := told_parse (l := a9A) (by rw [a9A_parse])
  rw [a9A_parse] at h
  exact h
theorem a9A_chk : chkL a9Ap = (5, 2, 1) := by kernel_rfl
def a9B : List UInt8 := [112, 108, 97, 110, 32, 112, 32, 99, 117, 114, 114, 101, 110, 99, 121, 32, 69, 85, 82, 59, 32, 104, 111, 114, 105, 122, 111, 110, 32, 50, 48, 50, 52, 45, 48, 49, 45, 48, 49, 32, 50, 48, 50, 52, 45, 49, 50, 45, 51, 49, 59, 32, 109, 101, 116, 101, 114, 32, 109, 32, 117, 110, 105, 116, 32, 108, 32, 109, 97, 120, 32, 57, 59, 32, 102, 101, 101, 32, 53, 59, 10, 99, 104, 97, 114, 103, 101, 32, 109, 32, 123, 32, 103, 114, 97, 100, 117, 97, 116, 101, 100, 32, 123, 32, 114, 101, 115, 116, 32, 114, 97, 116, 101, 32, 49, 59, 32, 125, 32, 114, 111, 117, 110, 100, 32, 102, 108, 111, 111, 114, 59, 32, 125]
def a9Bt : List Tok := [⟨2, ⟨#[112, 108, 97, 110]⟩, 1, 1⟩, ⟨1, ⟨#[112]⟩, 1, 6⟩, ⟨2, ⟨#[99, 117, 114, 114, 101, 110, 99, 121]⟩, 1, 8⟩, ⟨1, ⟨#[69, 85, 82]⟩, 1, 17⟩, ⟨5, ⟨#[59]⟩, 1, 20⟩, ⟨2, ⟨#[104, 111, 114, 105, 122, 111, 110]⟩, 1, 22⟩, ⟨4, ⟨#[50, 48, 50, 52, 45, 48, 49, 45, 48, 49]⟩, 1, 30⟩, ⟨4, ⟨#[50, 48, 50, 52, 45, 49, 50, 45, 51, 49]⟩, 1, 41⟩, ⟨5, ⟨#[59]⟩, 1, 51⟩, ⟨2, ⟨#[109, 101, 116, 101, 114]⟩, 1, 53⟩, ⟨1, ⟨#[109]⟩, 1, 59⟩, ⟨2, ⟨#[117, 110, 105, 116]⟩, 1, 61⟩, ⟨1, ⟨#[108]⟩, 1, 66⟩, ⟨2, ⟨#[109, 97, 120]⟩, 1, 68⟩, ⟨3, ⟨#[57]⟩, 1, 72⟩, ⟨5, ⟨#[59]⟩, 1, 73⟩, ⟨2, ⟨#[102, 101, 101]⟩, 1, 75⟩, ⟨3, ⟨#[53]⟩, 1, 79⟩, ⟨5, ⟨#[59]⟩, 1, 80⟩, ⟨2, ⟨#[99, 104, 97, 114, 103, 101]⟩, 2, 1⟩, ⟨1, ⟨#[109]⟩, 2, 8⟩, ⟨5, ⟨#[123]⟩, 2, 10⟩, ⟨2, ⟨#[103, 114, 97, 100, 117, 97, 116, 101, 100]⟩, 2, 12⟩, ⟨5, ⟨#[123]⟩, 2, 22⟩, ⟨2, ⟨#[114, 101, 115, 116]⟩, 2, 24⟩, ⟨2, ⟨#[114, 97, 116, 101]⟩, 2, 29⟩, ⟨3, ⟨#[49]⟩, 2, 34⟩, ⟨5, ⟨#[59]⟩, 2, 35⟩, ⟨5, ⟨#[125]⟩, 2, 37⟩, ⟨2, ⟨#[114, 111, 117, 110, 100]⟩, 2, 39⟩, ⟨2, ⟨#[102, 108, 111, 111, 114]⟩, 2, 45⟩, ⟨5, ⟨#[59]⟩, 2, 50⟩, ⟨5, ⟨#[125]⟩, 2, 52⟩, ⟨0, ⟨#[]⟩, 2, 53⟩]
def a9Bp : Plan := ⟨⟨#[112]⟩, ⟨#[69, 85, 82]⟩, (2024, 1, 1), (2024, 12, 31), [⟨⟨#[109]⟩, ⟨#[108]⟩, 9, 1, 53⟩], [⟨5, noWin, 1, 75⟩], [⟨⟨#[109]⟩, noWin, 0, 1, 1, [⟨0, 1000000⟩], 0, [], 2, 1⟩], 1, 1⟩
set_option maxRecDepth 100000 in
theorem a9B_tok : lexAll a9B = (a9Bt, 0, 0, 0) := by
  rw [lexAll, if_neg (by decide), ← lexF_eq 300 a9B 1 1 (by decide)]
  have : lexF 300 a9B 1 1 = .ok a9Bt := by kernel_rfl
  rw [this]
theorem a9B_e : (P.plan dp npV a9Bt).2.err = 0 := by kernel_rfl
theorem a9B_parse : RParse a9B = (a9Bp, 0, 0, 0) := by
  rw [PParse_ok a9B_tok a9B_e]
  exact congrArg (fun x => (x, (0 : Int), (0 : Int), (0 : Int))) (by kernel_rfl)
theorem a9B_pok : POk a9Bp := by
  have h := pok_parse (l := a9B) (by rw [a9B_parse])
  rw [a9B_parse] at h
  exact h
theorem a9B_told : Told a9Bp := by
  have h := told_parse (l := a9B) (by rw [a9B_parse])
  rw [a9B_parse] at h
  exact h
theorem a9B_chk : chkL a9Bp = (0, 0, 0) := by kernel_rfl
theorem a9B_bound : boundO a9Bp = some 14 := by kernel_rfl
theorem a9B_blk : ∀ c ∈ a9Bp.chgs, 1 ≤ c.block := by
  intro c hc
  simp only [a9Bp, List.mem_singleton] at hc
  subst hc
  decide
end Go.Proofs.Ytcgkfgklggjmaaa.Par
end
section
namespace Go.Proofs.Ytcgkfgklggjmaaa.Par
set_option linter.unusedVariables false
set_option linter.unusedSimpArgs false
open Go.RowKit
theorem sets13 (a0 a1 a2 a3 a4 a5 a6 a7 a8 a9 a10 a11 a12 b0 b1 b2 b3 b4 b5 b6 b7 b8 b9 b10 b11 b12 : Value) : setsA #[a0, a1, a2, a3, a4, a5, a6, a7, a8, a9, a10, a11, a12] 0 [b0, b1, b2, b3, b4, b5, b6, b7, b8, b9, b10, b11, b12] = #[b0, b1, b2, b3, b4, b5, b6, b7, b8, b9, b10, b11, b12] := by
  simp [setsA]
theorem Rows.notBelow {w : World} {B : Nat} {p : Plan} {mv fv cv : Value} {cs : List CT} (h : Rows w B p mv fv cv cs) {g : Nat} (hB : g < B) : ¬ blocks mv fv cv cs g := by
  rintro (hg | hg | hg | ⟨c, hc, hg | hg⟩)
  · have := (h.mo.lt g hg).1; omega
  · have := (h.fo.lt g hg).1; omega
  · have := (h.co.lt g hg).1; omega
  · have := (World.ownsRow.lt (h.ne c hc).1 g hg).1; omega
  · have := (World.ownsRow.lt (h.ne c hc).2 g hg).1; omega
set_option maxHeartbeats 16000000 in
set_option maxRecDepth 100000 in
theorem of9_any (hRP : RParses8) (s : ByteArray) (w : World) (hs : s.size ≤ 9223372036854775807) :
    Calls Try.prog 6 #[.string s] w fun e w' => ∃ v, e = .returned (.tuple #[v, .bool (decide ((RParse s.data.toList).2.1 = 0) && decide (s.size ≤ 8192))]) ∧ PlanLies w.heap.size w' v (RParse s.data.toList).1 ∧ Below w.heap.size w w' := by
  have hQ := hRP s
  obtain ⟨p, er, li, co, hpq⟩ : ∃ p er li co, RParse s.data.toList = (p, er, li, co) := ⟨_, _, _, _, rfl⟩
  rw [hpq] at hQ ⊢
  clear hpq hRP
  dsimp only at hQ ⊢
  replace hQ := Lib.hid (fun W => hQ W hs)
  have kr0 := Blk.new w 29 #[.string ⟨#[]⟩, .string ⟨#[]⟩, .int .i64 0, .int .i64 0, .int .i64 0, .int .i64 0, .int .i64 0, .int .i64 0, .slice none 0 0, .slice none 0 0, .slice none 0 0, .int .i64 0, .int .i64 0]
  have b0 := bl_alloc (bl_refl w) (.cells #[.string ⟨#[]⟩, .string ⟨#[]⟩, .int .i64 0, .int .i64 0, .int .i64 0, .int .i64 0, .int .i64 0, .int .i64 0, .slice none 0 0, .slice none 0 0, .slice none 0 0, .int .i64 0, .int .i64 0] 29)
  by_cases her : er = 0
  · subst her
    by_cases hz : s.size ≤ 8192
    · have e1 : (decide ((0 : Int) = 0) && decide (s.size ≤ 8192)) = true := by simp [hz]
      rw [e1]
      have hz' : (s.size : Int) ≤ 8192 := by omega
      clear e1 hz
      go_enter Try.func6, Try.ntmps6
      go_wp2_with fail
      refine (hQ.out _).mono ?_
      rintro e w2 ⟨v, rfl, hv, hb2⟩
      obtain ⟨mv, fv, cv, cs, rfl, hR⟩ := hv
      obtain ⟨Am, cm, rfl, _, _, _⟩ := Lies.open (f := metF) (l := p.mets) (Lies.of hR.mo)
      obtain ⟨Af, cf, rfl, _, _, _⟩ := Lies.open (f := feeF) (l := p.fees) (Lies.of hR.fo)
      obtain ⟨Ac, cc, rfl, _, _, _⟩ := Lies.open (f := chgF) (l := cs) (Lies.of hR.co)
      unfold planC
      have kp := Blk.new w2 29 #[.string p.name, .string p.cur, .int .i64 p.from_.1, .int .i64 p.from_.2.1, .int .i64 p.from_.2.2, .int .i64 p.to_.1, .int .i64 p.to_.2.1, .int .i64 p.to_.2.2, .slice Am p.mets.length cm, .slice Af p.fees.length cf, .slice Ac cs.length cc, .int .i64 p.line, .int .i64 p.col]
      have kr2 := (kr0.call hb2).alloc (.cells #[.string p.name, .string p.cur, .int .i64 p.from_.1, .int .i64 p.from_.2.1, .int .i64 p.from_.2.2, .int .i64 p.to_.1, .int .i64 p.to_.2.1, .int .i64 p.to_.2.2, .slice Am p.mets.length cm, .slice Af p.fees.length cf, .slice Ac cs.length cc, .int .i64 p.line, .int .i64 p.col] 29)
      have hR2 := hR.below (bl_alloc (bl_refl w2) (.cells #[.string p.name, .string p.cur, .int .i64 p.from_.1, .int .i64 p.from_.2.1, .int .i64 p.from_.2.2, .int .i64 p.to_.1, .int .i64 p.to_.2.1, .int .i64 p.to_.2.2, .slice Am p.mets.length cm, .slice Af p.fees.length cf, .slice Ac cs.length cc, .int .i64 p.line, .int .i64 p.col] 29))
      have b2 := bl_alloc (bl_call b0 hb2) (.cells #[.string p.name, .string p.cur, .int .i64 p.from_.1, .int .i64 p.from_.2.1, .int .i64 p.from_.2.2, .int .i64 p.to_.1, .int .i64 p.to_.2.1, .int .i64 p.to_.2.2, .slice Am p.mets.length cm, .slice Af p.fees.length cf, .slice Ac cs.length cc, .int .i64 p.line, .int .i64 p.col] 29)
      have lr := kr0.lt
      have lr2 := hb2.size
      obtain ⟨a0, a1, a2, a3, a4, a5, a6, a7, a8, a9, a10, a11, a12, _, _, _, _, _, _, _, _, _, _, _, _, _⟩ := kp.c13
      obtain ⟨z0, z1, z2, z3, z4, z5, z6, z7, z8, z9, z10, z11, z12, _, _, _, _, _, _, _, _, _, _, _, _, _⟩ := kr2.c13
      go_wp2_with fail
      have hng := hR2.notBelow (show w.heap.size < (w.alloc (.cells #[.string ⟨#[]⟩, .string ⟨#[]⟩, .int .i64 0, .int .i64 0, .int .i64 0, .int .i64 0, .int .i64 0, .int .i64 0, .slice none 0 0, .slice none 0 0, .slice none 0 0, .int .i64 0, .int .i64 0] 29)).heap.size by rw [World.size_alloc]; omega)
      have qa := kr2.putAll [.string p.name, .string p.cur, .int .i64 p.from_.1, .int .i64 p.from_.2.1, .int .i64 p.from_.2.2, .int .i64 p.to_.1, .int .i64 p.to_.2.1, .int .i64 p.to_.2.2, .slice Am p.mets.length cm, .slice Af p.fees.length cf, .slice Ac cs.length cc, .int .i64 p.line, .int .i64 p.col] 0
      rw [sets13] at qa
      have qb := bl_puts b2 (Nat.le_refl w.heap.size) 0 [.string p.name, .string p.cur, .int .i64 p.from_.1, .int .i64 p.from_.2.1, .int .i64 p.from_.2.2, .int .i64 p.to_.1, .int .i64 p.to_.2.1, .int .i64 p.to_.2.2, .slice Am p.mets.length cm, .slice Af p.fees.length cf, .slice Ac cs.length cc, .int .i64 p.line, .int .i64 p.col]
      have qr := hR2.puts_ hng 0 [.string p.name, .string p.cur, .int .i64 p.from_.1, .int .i64 p.from_.2.1, .int .i64 p.from_.2.2, .int .i64 p.to_.1, .int .i64 p.to_.2.1, .int .i64 p.to_.2.2, .slice Am p.mets.length cm, .slice Af p.fees.length cf, .slice Ac cs.length cc, .int .i64 p.line, .int .i64 p.col]
      simp only [puts, Nat.zero_add, Nat.reduceAdd] at qa qb qr
      exact bodyPost_ret (results_cell_tmp_row rfl _ _ w.heap.size _ #[.string p.name, .string p.cur, .int .i64 p.from_.1, .int .i64 p.from_.2.1, .int .i64 p.from_.2.2, .int .i64 p.to_.1, .int .i64 p.to_.2.1, .int .i64 p.to_.2.2, .slice Am p.mets.length cm, .slice Af p.fees.length cf, .slice Ac cs.length cc, .int .i64 p.line, .int .i64 p.col] _ rfl qa Try.underlying29 rfl (by kernel_rfl)) rfl
        ⟨_, rfl, ⟨_, _, _, cs, rfl, qr.base (by rw [World.size_alloc]; omega)⟩, qb⟩
    · have e1 : (decide ((0 : Int) = 0) && decide (s.size ≤ 8192)) = false := by simp [hz]
      rw [e1]
      have hd : decide ((s.size : Int) ≤ 8192) = false := decide_eq_false (by omega)
      clear e1 hz
      go_enter Try.func6, Try.ntmps6
      go_wp2_with fail
      refine (hQ.out _).mono ?_
      rintro e w2 ⟨v, rfl, hv, hb2⟩
      obtain ⟨mv, fv, cv, cs, rfl, hR⟩ := hv
      obtain ⟨Am, cm, rfl, _, _, _⟩ := Lies.open (f := metF) (l := p.mets) (Lies.of hR.mo)
      obtain ⟨Af, cf, rfl, _, _, _⟩ := Lies.open (f := feeF) (l := p.fees) (Lies.of hR.fo)
      obtain ⟨Ac, cc, rfl, _, _, _⟩ := Lies.open (f := chgF) (l := cs) (Lies.of hR.co)
      unfold planC
      have kp := Blk.new w2 29 #[.string p.name, .string p.cur, .int .i64 p.from_.1, .int .i64 p.from_.2.1, .int .i64 p.from_.2.2, .int .i64 p.to_.1, .int .i64 p.to_.2.1, .int .i64 p.to_.2.2, .slice Am p.mets.length cm, .slice Af p.fees.length cf, .slice Ac cs.length cc, .int .i64 p.line, .int .i64 p.col]
      have kr2 := (kr0.call hb2).alloc (.cells #[.string p.name, .string p.cur, .int .i64 p.from_.1, .int .i64 p.from_.2.1, .int .i64 p.from_.2.2, .int .i64 p.to_.1, .int .i64 p.to_.2.1, .int .i64 p.to_.2.2, .slice Am p.mets.length cm, .slice Af p.fees.length cf, .slice Ac cs.length cc, .int .i64 p.line, .int .i64 p.col] 29)
      have hR2 := hR.below (bl_alloc (bl_refl w2) (.cells #[.string p.name, .string p.cur, .int .i64 p.from_.1, .int .i64 p.from_.2.1, .int .i64 p.from_.2.2, .int .i64 p.to_.1, .int .i64 p.to_.2.1, .int .i64 p.to_.2.2, .slice Am p.mets.length cm, .slice Af p.fees.length cf, .slice Ac cs.length cc, .int .i64 p.line, .int .i64 p.col] 29))
      have b2 := bl_alloc (bl_call b0 hb2) (.cells #[.string p.name, .string p.cur, .int .i64 p.from_.1, .int .i64 p.from_.2.1, .int .i64 p.from_.2.2, .int .i64 p.to_.1, .int .i64 p.to_.2.1, .int .i64 p.to_.2.2, .slice Am p.mets.length cm, .slice Af p.fees.length cf, .slice Ac cs.length cc, .int .i64 p.line, .int .i64 p.col] 29)
      have lr := kr0.lt
      have lr2 := hb2.size
      obtain ⟨a0, a1, a2, a3, a4, a5, a6, a7, a8, a9, a10, a11, a12, _, _, _, _, _, _, _, _, _, _, _, _, _⟩ := kp.c13
      obtain ⟨z0, z1, z2, z3, z4, z5, z6, z7, z8, z9, z10, z11, z12, _, _, _, _, _, _, _, _, _, _, _, _, _⟩ := kr2.c13
      go_wp2_with fail
      have hng := hR2.notBelow (show w.heap.size < (w.alloc (.cells #[.string ⟨#[]⟩, .string ⟨#[]⟩, .int .i64 0, .int .i64 0, .int .i64 0, .int .i64 0, .int .i64 0, .int .i64 0, .slice none 0 0, .slice none 0 0, .slice none 0 0, .int .i64 0, .int .i64 0] 29)).heap.size by rw [World.size_alloc]; omega)
      have qa := kr2.putAll [.string p.name, .string p.cur, .int .i64 p.from_.1, .int .i64 p.from_.2.1, .int .i64 p.from_.2.2, .int .i64 p.to_.1, .int .i64 p.to_.2.1, .int .i64 p.to_.2.2, .slice Am p.mets.length cm, .slice Af p.fees.length cf, .slice Ac cs.length cc, .int .i64 p.line, .int .i64 p.col] 0
      rw [sets13] at qa
      have qb := bl_puts b2 (Nat.le_refl w.heap.size) 0 [.string p.name, .string p.cur, .int .i64 p.from_.1, .int .i64 p.from_.2.1, .int .i64 p.from_.2.2, .int .i64 p.to_.1, .int .i64 p.to_.2.1, .int .i64 p.to_.2.2, .slice Am p.mets.length cm, .slice Af p.fees.length cf, .slice Ac cs.length cc, .int .i64 p.line, .int .i64 p.col]
      have qr := hR2.puts_ hng 0 [.string p.name, .string p.cur, .int .i64 p.from_.1, .int .i64 p.from_.2.1, .int .i64 p.from_.2.2, .int .i64 p.to_.1, .int .i64 p.to_.2.1, .int .i64 p.to_.2.2, .slice Am p.mets.length cm, .slice Af p.fees.length cf, .slice Ac cs.length cc, .int .i64 p.line, .int .i64 p.col]
      simp only [puts, Nat.zero_add, Nat.reduceAdd] at qa qb qr
      exact bodyPost_ret (results_cell_tmp_row rfl _ _ w.heap.size _ #[.string p.name, .string p.cur, .int .i64 p.from_.1, .int .i64 p.from_.2.1, .int .i64 p.from_.2.2, .int .i64 p.to_.1, .int .i64 p.to_.2.1, .int .i64 p.to_.2.2, .slice Am p.mets.length cm, .slice Af p.fees.length cf, .slice Ac cs.length cc, .int .i64 p.line, .int .i64 p.col] _ rfl qa Try.underlying29 rfl (by kernel_rfl)) rfl
        ⟨_, rfl, ⟨_, _, _, cs, rfl, qr.base (by rw [World.size_alloc]; omega)⟩, qb⟩
  · have e1 : (decide (er = 0) && decide (s.size ≤ 8192)) = false := by simp [her]
    rw [e1]
    have hq : (er == 0) = false := by rw [beq_eq_false_iff_ne]; exact her
    clear e1 her
    go_enter Try.func6, Try.ntmps6
    go_wp2_with fail
    refine (hQ.out _).mono ?_
    rintro e w2 ⟨v, rfl, hv, hb2⟩
    obtain ⟨mv, fv, cv, cs, rfl, hR⟩ := hv
    obtain ⟨Am, cm, rfl, _, _, _⟩ := Lies.open (f := metF) (l := p.mets) (Lies.of hR.mo)
    obtain ⟨Af, cf, rfl, _, _, _⟩ := Lies.open (f := feeF) (l := p.fees) (Lies.of hR.fo)
    obtain ⟨Ac, cc, rfl, _, _, _⟩ := Lies.open (f := chgF) (l := cs) (Lies.of hR.co)
    unfold planC
    have kp := Blk.new w2 29 #[.string p.name, .string p.cur, .int .i64 p.from_.1, .int .i64 p.from_.2.1, .int .i64 p.from_.2.2, .int .i64 p.to_.1, .int .i64 p.to_.2.1, .int .i64 p.to_.2.2, .slice Am p.mets.length cm, .slice Af p.fees.length cf, .slice Ac cs.length cc, .int .i64 p.line, .int .i64 p.col]
    have kr2 := (kr0.call hb2).alloc (.cells #[.string p.name, .string p.cur, .int .i64 p.from_.1, .int .i64 p.from_.2.1, .int .i64 p.from_.2.2, .int .i64 p.to_.1, .int .i64 p.to_.2.1, .int .i64 p.to_.2.2, .slice Am p.mets.length cm, .slice Af p.fees.length cf, .slice Ac cs.length cc, .int .i64 p.line, .int .i64 p.col] 29)
    have hR2 := hR.below (bl_alloc (bl_refl w2) (.cells #[.string p.name, .string p.cur, .int .i64 p.from_.1, .int .i64 p.from_.2.1, .int .i64 p.from_.2.2, .int .i64 p.to_.1, .int .i64 p.to_.2.1, .int .i64 p.to_.2.2, .slice Am p.mets.length cm, .slice Af p.fees.length cf, .slice Ac cs.length cc, .int .i64 p.line, .int .i64 p.col] 29))
    have b2 := bl_alloc (bl_call b0 hb2) (.cells #[.string p.name, .string p.cur, .int .i64 p.from_.1, .int .i64 p.from_.2.1, .int .i64 p.from_.2.2, .int .i64 p.to_.1, .int .i64 p.to_.2.1, .int .i64 p.to_.2.2, .slice Am p.mets.length cm, .slice Af p.fees.length cf, .slice Ac cs.length cc, .int .i64 p.line, .int .i64 p.col] 29)
    have lr := kr0.lt
    have lr2 := hb2.size
    obtain ⟨a0, a1, a2, a3, a4, a5, a6, a7, a8, a9, a10, a11, a12, _, _, _, _, _, _, _, _, _, _, _, _, _⟩ := kp.c13
    obtain ⟨z0, z1, z2, z3, z4, z5, z6, z7, z8, z9, z10, z11, z12, _, _, _, _, _, _, _, _, _, _, _, _, _⟩ := kr2.c13
    go_wp2_with fail
    have hng := hR2.notBelow (show w.heap.size < (w.alloc (.cells #[.string ⟨#[]⟩, .string ⟨#[]⟩, .int .i64 0, .int .i64 0, .int .i64 0, .int .i64 0, .int .i64 0, .int .i64 0, .slice none 0 0, .slice none 0 0, .slice none 0 0, .int .i64 0, .int .i64 0] 29)).heap.size by rw [World.size_alloc]; omega)
    have qa := kr2.putAll [.string p.name, .string p.cur, .int .i64 p.from_.1, .int .i64 p.from_.2.1, .int .i64 p.from_.2.2, .int .i64 p.to_.1, .int .i64 p.to_.2.1, .int .i64 p.to_.2.2, .slice Am p.mets.length cm, .slice Af p.fees.length cf, .slice Ac cs.length cc, .int .i64 p.line, .int .i64 p.col] 0
    rw [sets13] at qa
    have qb := bl_puts b2 (Nat.le_refl w.heap.size) 0 [.string p.name, .string p.cur, .int .i64 p.from_.1, .int .i64 p.from_.2.1, .int .i64 p.from_.2.2, .int .i64 p.to_.1, .int .i64 p.to_.2.1, .int .i64 p.to_.2.2, .slice Am p.mets.length cm, .slice Af p.fees.length cf, .slice Ac cs.length cc, .int .i64 p.line, .int .i64 p.col]
    have qr := hR2.puts_ hng 0 [.string p.name, .string p.cur, .int .i64 p.from_.1, .int .i64 p.from_.2.1, .int .i64 p.from_.2.2, .int .i64 p.to_.1, .int .i64 p.to_.2.1, .int .i64 p.to_.2.2, .slice Am p.mets.length cm, .slice Af p.fees.length cf, .slice Ac cs.length cc, .int .i64 p.line, .int .i64 p.col]
    simp only [puts, Nat.zero_add, Nat.reduceAdd] at qa qb qr
    exact bodyPost_ret (results_cell_tmp_row rfl _ _ w.heap.size _ #[.string p.name, .string p.cur, .int .i64 p.from_.1, .int .i64 p.from_.2.1, .int .i64 p.from_.2.2, .int .i64 p.to_.1, .int .i64 p.to_.2.1, .int .i64 p.to_.2.2, .slice Am p.mets.length cm, .slice Af p.fees.length cf, .slice Ac cs.length cc, .int .i64 p.line, .int .i64 p.col] _ rfl qa Try.underlying29 rfl (by kernel_rfl)) rfl
      ⟨_, rfl, ⟨_, _, _, cs, rfl, qr.base (by rw [World.size_alloc]; omega)⟩, qb⟩
end Go.Proofs.Ytcgkfgklggjmaaa.Par
end
section
namespace Go.Proofs.Ytcgkfgklggjmaaa.Par
set_option linter.unusedVariables false
set_option linter.unusedSimpArgs false
open Go.RowKit
/-! faults, compared whole -/
theorem flt_eq (d : Nat) (a b c a' b' c' : Int) (w : World) :
    (Op.equalIn (d + 2) 34 (.agg #[.int .i64 a, .int .i64 b, .int .i64 c]) (.agg #[.int .i64 a', .int .i64 b', .int .i64 c'])).run Try.prog w = .ok (a == a' && (b == b' && (c == c' && true))) w := by
  refine eqS_of _ _ _ _ _ _ Try.underlying34 (by kernel_rfl) ?_
  refine eqF_cons _ _ _ _ _ (.int .i64 a) (.int .i64 a') _ _ rfl (by go_simp) (by go_simp) (by go_simp) ?_
  refine eqF_cons _ _ _ _ _ (.int .i64 b) (.int .i64 b') _ _ rfl (by go_simp) (by go_simp) (by go_simp) ?_
  refine eqF_cons _ _ _ _ _ (.int .i64 c) (.int .i64 c') _ _ rfl (by go_simp) (by go_simp) (by go_simp) ?_
  exact eqF_nil _ _ _
theorem flt_same (a b c : Int) (w : World) : (binOp .eql 34 (.agg #[.int .i64 a, .int .i64 b, .int .i64 c]) (.agg #[.int .i64 a, .int .i64 b, .int .i64 c])).run Try.prog w = .ok (.bool true) w := by
  have h := eql_S (fun d => flt_eq (d + 1) a b c a b c w)
  simpa using h
theorem flt_zero (w : World) : (binOp .neq 34 (.agg #[.int .i64 0, .int .i64 0, .int .i64 0]) (.agg #[.int .i64 0, .int .i64 0, .int .i64 0])).run Try.prog w = .ok (.bool false) w := by
  have h := neq_S (fun d => flt_eq (d + 1) 0 0 0 0 0 0 w)
  simpa using h
theorem flt_bad {a : Int} (b c : Int) (ha : a ≠ 0) (w : World) : (binOp .neq 34 (.agg #[.int .i64 a, .int .i64 b, .int .i64 c]) (.agg #[.int .i64 0, .int .i64 0, .int .i64 0])).run Try.prog w = .ok (.bool true) w := by
  have h := neq_S (fun d => flt_eq (d + 1) a b c 0 0 0 w)
  have h0 : (a == 0) = false := by simpa using ha
  rw [h0] at h
  simpa using h
end Go.Proofs.Ytcgkfgklggjmaaa.Par
end
section
namespace Go.Proofs.Ytcgkfgklggjmaaa.Par
set_option linter.unusedVariables false
set_option linter.unusedSimpArgs false
open Go.RowKit
theorem text9 (hRP : RParses8) {l : List UInt8} {p : Plan} (hp : RParse l = (p, 0, 0, 0)) (hl : l.length ≤ 8192) (X : ByteArray) (hX : X.data.toList = l) (W : World) :
    Calls Try.prog 6 #[.string X] W fun e w' => ∃ v, e = .returned (.tuple #[v, .bool true]) ∧ PlanLies W.heap.size w' v p ∧ Below W.heap.size W w' := by
  have hz : X.size = l.length := by rw [← hX]; simp
  have h := of9_any hRP X W (by omega)
  rw [hX, hp] at h
  have e : (decide ((0 : Int) = 0) && decide (X.size ≤ 8192)) = true := by simp; omega
  dsimp only at h
  rw [e] at h
  exact h
set_option maxHeartbeats 16000000 in
set_option maxRecDepth 100000 in
theorem alive9_any (hRP : RParses8) (w : World) :
    Calls Try.prog 5 #[] w fun e w' => e = .returned (.bool true) ∧ Below w.heap.size w w' := by
  have hT1 := Lib.hid (fun X hX W => text9 hRP a9A_parse (by decide) X hX W)
  have hT2 := Lib.hid (fun X hX W => text9 hRP a9B_parse (by decide) X hX W)
  have q1 := flt_same 5 2 1
  have q2 := flt_same 0 0 0
  clear hRP
  go_enter Try.func5, Try.ntmps5
  go_wp2_with fail
  refine (hT1.out _ (by rfl) _).mono ?_
  rintro e w1 ⟨v, rfl, hv, hb1⟩
  obtain ⟨mv, fv, cv, cs, rfl, hR1⟩ := hv
  obtain ⟨Am, cm, rfl, _, _, _⟩ := Lies.open (f := metF) (l := a9Ap.mets) (Lies.of hR1.mo)
  obtain ⟨Af, cf, rfl, _, _, _⟩ := Lies.open (f := feeF) (l := a9Ap.fees) (Lies.of hR1.fo)
  obtain ⟨Ac, cc, rfl, _, _, _⟩ := Lies.open (f := chgF) (l := cs) (Lies.of hR1.co)
  unfold planC
  have k1 := Blk.new w1 29 #[.string a9Ap.name, .string a9Ap.cur, .int .i64 a9Ap.from_.1, .int .i64 a9Ap.from_.2.1, .int .i64 a9Ap.from_.2.2, .int .i64 a9Ap.to_.1, .int .i64 a9Ap.to_.2.1, .int .i64 a9Ap.to_.2.2, .slice Am a9Ap.mets.length cm, .slice Af a9Ap.fees.length cf, .slice Ac cs.length cc, .int .i64 a9Ap.line, .int .i64 a9Ap.col]
  have R1 := hR1.below (bl_alloc (bl_refl w1) (.cells #[.string a9Ap.name, .string a9Ap.cur, .int .i64 a9Ap.from_.1, .int .i64 a9Ap.from_.2.1, .int .i64 a9Ap.from_.2.2, .int .i64 a9Ap.to_.1, .int .i64 a9Ap.to_.2.1, .int .i64 a9Ap.to_.2.2, .slice Am a9Ap.mets.length cm, .slice Af a9Ap.fees.length cf, .slice Ac cs.length cc, .int .i64 a9Ap.line, .int .i64 a9Ap.col] 29))
  have b1 := bl_alloc hb1 (.cells #[.string a9Ap.name, .string a9Ap.cur, .int .i64 a9Ap.from_.1, .int .i64 a9Ap.from_.2.1, .int .i64 a9Ap.from_.2.2, .int .i64 a9Ap.to_.1, .int .i64 a9Ap.to_.2.1, .int .i64 a9Ap.to_.2.2, .slice Am a9Ap.mets.length cm, .slice Af a9Ap.fees.length cf, .slice Ac cs.length cc, .int .i64 a9Ap.line, .int .i64 a9Ap.col] 29)
  clear hR1 hT1
  go_wp2_with fail
  refine (hT2.out _ (by rfl) _).mono ?_
  rintro e w2 ⟨v, rfl, hv, hb2⟩
  obtain ⟨mv, fv, cv, ds, rfl, hR2⟩ := hv
  obtain ⟨Bm, dm, rfl, _, _, _⟩ := Lies.open (f := metF) (l := a9Bp.mets) (Lies.of hR2.mo)
  obtain ⟨Bf, df, rfl, _, _, _⟩ := Lies.open (f := feeF) (l := a9Bp.fees) (Lies.of hR2.fo)
  obtain ⟨Bc, dc, rfl, _, _, _⟩ := Lies.open (f := chgF) (l := ds) (Lies.of hR2.co)
  unfold planC
  have k2 := Blk.new w2 29 #[.string a9Bp.name, .string a9Bp.cur, .int .i64 a9Bp.from_.1, .int .i64 a9Bp.from_.2.1, .int .i64 a9Bp.from_.2.2, .int .i64 a9Bp.to_.1, .int .i64 a9Bp.to_.2.1, .int .i64 a9Bp.to_.2.2, .slice Bm a9Bp.mets.length dm, .slice Bf a9Bp.fees.length df, .slice Bc ds.length dc, .int .i64 a9Bp.line, .int .i64 a9Bp.col]
  have k1b := (k1.call hb2).alloc (.cells #[.string a9Bp.name, .string a9Bp.cur, .int .i64 a9Bp.from_.1, .int .i64 a9Bp.from_.2.1, .int .i64 a9Bp.from_.2.2, .int .i64 a9Bp.to_.1, .int .i64 a9Bp.to_.2.1, .int .i64 a9Bp.to_.2.2, .slice Bm a9Bp.mets.length dm, .slice Bf a9Bp.fees.length df, .slice Bc ds.length dc, .int .i64 a9Bp.line, .int .i64 a9Bp.col] 29)
  have l2 := bl_alloc hb2 (.cells #[.string a9Bp.name, .string a9Bp.cur, .int .i64 a9Bp.from_.1, .int .i64 a9Bp.from_.2.1, .int .i64 a9Bp.from_.2.2, .int .i64 a9Bp.to_.1, .int .i64 a9Bp.to_.2.1, .int .i64 a9Bp.to_.2.2, .slice Bm a9Bp.mets.length dm, .slice Bf a9Bp.fees.length df, .slice Bc ds.length dc, .int .i64 a9Bp.line, .int .i64 a9Bp.col] 29)
  have b2 := bl_call b1 l2
  have R2 := hR2.below (bl_alloc (bl_refl w2) (.cells #[.string a9Bp.name, .string a9Bp.cur, .int .i64 a9Bp.from_.1, .int .i64 a9Bp.from_.2.1, .int .i64 a9Bp.from_.2.2, .int .i64 a9Bp.to_.1, .int .i64 a9Bp.to_.2.1, .int .i64 a9Bp.to_.2.2, .slice Bm a9Bp.mets.length dm, .slice Bf a9Bp.fees.length df, .slice Bc ds.length dc, .int .i64 a9Bp.line, .int .i64 a9Bp.col] 29))
  have R1b := R1.below l2
  clear hR2 hT2
  obtain ⟨a0, a1, a2, a3, a4, a5, a6, a7, a8, a9, a10, a11, a12, _, _, _, _, _, _, _, _, _, _, _, _, _⟩ := k2.c13
  have hB := Lib.hid (pbound_any a9Bp Bm Bf Bc dm df dc ds _ R2 (pok_bnum a9B_pok a9B_blk) ⟨by decide, by have h := congrArg List.length R2.eq; rw [List.length_map] at h; rw [h]; decide⟩)
  rw [a9B_bound] at hB
  go_upto_region 3 with fail
  generalize hu2 : w2.alloc (.cells #[.string a9Bp.name, .string a9Bp.cur, .int .i64 a9Bp.from_.1, .int .i64 a9Bp.from_.2.1, .int .i64 a9Bp.from_.2.2, .int .i64 a9Bp.to_.1, .int .i64 a9Bp.to_.2.1, .int .i64 a9Bp.to_.2.2, .slice Bm a9Bp.mets.length dm, .slice Bf a9Bp.fees.length df, .slice Bc ds.length dc, .int .i64 a9Bp.line, .int .i64 a9Bp.col] 29) = u2 at *
  go_wp2_with fail
  refine hB.out.mono ?_
  rintro e w3 ⟨rfl, hb3⟩
  have k1c := k1b.call hb3
  have k2c := k2.call hb3
  have b3 := bl_call b2 hb3
  clear a0 a1 a2 a3 a4 a5 a6 a7 a8 a9 a10 a11 a12
  obtain ⟨a0, a1, a2, a3, a4, a5, a6, a7, a8, a9, a10, a11, a12, _, _, _, _, _, _, _, _, _, _, _, _, _⟩ := k1c.c13
  obtain ⟨z0, z1, z2, z3, z4, z5, z6, z7, z8, z9, z10, z11, z12, _, _, _, _, _, _, _, _, _, _, _, _, _⟩ := k2c.c13
  have hC1 := Lib.hid (cplan_any a9Ap Am Af Ac cm cf cc cs _ (R1b.below hb3) a9A_pok)
  rw [a9A_chk] at hC1
  go_wp2_with fail
  refine hC1.out.mono ?_
  rintro e w4 ⟨rfl, hb4⟩
  have k2d := k2c.call hb4
  have b4 := bl_call b3 hb4
  clear a0 a1 a2 a3 a4 a5 a6 a7 a8 a9 a10 a11 a12 z0 z1 z2 z3 z4 z5 z6 z7 z8 z9 z10 z11 z12
  obtain ⟨z0, z1, z2, z3, z4, z5, z6, z7, z8, z9, z10, z11, z12, _, _, _, _, _, _, _, _, _, _, _, _, _⟩ := k2d.c13
  have hC2 := Lib.hid (cplan_any a9Bp Bm Bf Bc dm df dc ds _ ((R2.below hb3).below hb4) a9B_pok)
  rw [a9B_chk] at hC2
  go_wp2_with fail
  refine hC2.out.mono ?_
  rintro e w5 ⟨rfl, hb5⟩
  go_wp2_with fail
  go_ret
  exact ⟨rfl, bl_call b4 hb5⟩
end Go.Proofs.Ytcgkfgklggjmaaa.Par
end
section
namespace Go.Proofs.Ytcgkfgklggjmaaa
set_option linter.unusedVariables false
set_option linter.unusedSimpArgs false
open Go.RowKit
set_option maxHeartbeats 2000000 in
set_option maxRecDepth 100000 in
theorem rnumber_any (y m d : Int) (w : World) (hg : goodB y m d = true) :
    Calls Try.prog 17 #[.agg #[.int .i64 y, .int .i64 m, .int .i64 d]] w fun e w' => e = .returned (.int .i64 (numD y m d)) ∧ Below w.heap.size w w' := by
  obtain ⟨g1, g2, g3, g4, g5, g6, g7⟩ := good_of hg
  clear g4
  go_enter Try.func17, Try.ntmps17
  go_wp2_with fail
  go_loopw [3, 4] (fun v3 v4 wr => ∃ k : Int, 1 ≤ k ∧ k ≤ m ∧ v4 = .int .i64 k ∧ v3 = .int .i64 (cum y k + d - 1) ∧ Blk wr w.heap.size 24 #[.int .i64 y, .int .i64 m, .int .i64 d] ∧ Below w.heap.size w wr) (fun _ v4 _ => (m - intOf v4).toNat)
  case atStart => exact ⟨1, by omega, by omega, rfl, by rw [cum_one]; congr 1; omega, Blk.new _ _ _, bl_alloc (bl_refl _) _⟩
  case round =>
    obtain ⟨k, k1, k2, rfl, rfl, kb, hbw⟩ := hrel
    have cb := cum_bd y k
    obtain ⟨cb1, cb2⟩ := cb
    have db := days_bd y k
    obtain ⟨db1, db2⟩ := db
    obtain ⟨c0, c1, c2, _, _, _⟩ := kb.c3
    by_cases hlt : k < m
    · have CS := Lib.hid (cum_succ y k k1 (by omega))
      go_wp2_with (go_at_call 23; refine (rdays_any _ _ _).mono ?_; rintro e w1 ⟨rfl, hb1⟩)
      go_roundw
      case rel => exact ⟨k + 1, by omega, by omega, rfl, by rw [CS.out]; congr 1; omega, kb.call hb1, bl_call hbw hb1⟩
      case measure => simp [intOf]; omega
    · obtain rfl : k = m := by omega
      go_wp2_with fail
      go_loop [3, 5] (fun v3 v5 => ∃ j : Int, 1 ≤ j ∧ j ≤ y ∧ v5 = .int .i64 j ∧ v3 = .int .i64 (dby j + cum y k + d - 1)) (fun _ v5 => (y - intOf v5).toNat)
      case atStart => exact ⟨1, by omega, by omega, rfl, by rw [dby_one]; congr 1; omega⟩
      case round =>
        obtain ⟨j, j1, j2, rfl, rfl⟩ := hrel
        have hz := dby_bd j j1 (by omega)
        obtain ⟨z1, z2⟩ := hz
        by_cases hlt : j < y
        · have DS := Lib.hid (dby_succ j)
          cases hlp : leapB j with
          | true =>
            have HL := Lib.hid (show lp j = 1 by simp [lp, hlp])
            go_wp2_with (go_at_call 22; refine (rleap_any _ _).mono ?_; rintro e w' ⟨rfl, rfl⟩)
            go_round
            case rel => exact ⟨j + 1, by omega, by omega, rfl, by rw [DS.out, HL.out]; congr 1; omega⟩
            case measure => simp [intOf]; omega
          | false =>
            have HL := Lib.hid (show lp j = 0 by simp [lp, hlp])
            go_wp2_with (go_at_call 22; refine (rleap_any _ _).mono ?_; rintro e w' ⟨rfl, rfl⟩)
            go_round
            case rel => exact ⟨j + 1, by omega, by omega, rfl, by rw [DS.out, HL.out]; congr 1; omega⟩
            case measure => simp [intOf]; omega
        · obtain rfl : j = y := by omega
          go_wp2
          go_ret
          exact ⟨rfl, hbw⟩
end Go.Proofs.Ytcgkfgklggjmaaa
end
section
namespace Go.Proofs.Ytcgkfgklggjmaaa
set_option linter.unusedVariables false
set_option linter.unusedSimpArgs false
open Go.RowKit
theorem good_first (y : Int) (h1 : 1 ≤ y) (h2 : y ≤ 9999) : goodB y 1 1 = true := good_mk h1 h2 (by omega) (by have := days_pos y 1 (by omega) (by omega); omega)
theorem bad_first (y : Int) (h1 : 9999 < y) : goodB y 1 1 = false := by
  cases h : goodB y 1 1 with
  | false => rfl
  | true => have := good_of h; omega
theorem num_first1 (y : Int) : numD y 1 1 = dby y := by unfold numD; rw [cum_one]; omega
theorem nN_first (y : Int) (h1 : 1 ≤ y) (h2 : y ≤ 9999) : nN y 1 1 = dby y := by rw [nN_yes (good_first y h1 h2), num_first1]
theorem year_low {y m d : Int} (h : goodB y m d = true) : 1 + numD y m d / 366 ≤ y := by
  have h1 := num_in_year h
  obtain ⟨h2, _⟩ := good_of h
  unfold dby at h1
  omega
end Go.Proofs.Ytcgkfgklggjmaaa
end
