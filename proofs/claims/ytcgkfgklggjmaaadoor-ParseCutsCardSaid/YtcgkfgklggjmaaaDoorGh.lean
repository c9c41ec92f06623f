import Derived.Test.YtcgkfgklggjmaaaDoorGg
import Derived.KernelRfl
section
namespace Go.Proofs.YtcgkfgklggjmaaaDoor.Par
set_option linter.unusedVariables false
set_option linter.unusedSimpArgs false
/-! what a parse does with the tokens that it takes hangs on no place, and on no token behind them -/
def Al (x y : Tok) : Prop := x.kind = y.kind ∧ x.text = y.text ∧ x.kind ≠ 0
def Als : List Tok → List Tok → Prop
  | [], [] => True
  | x :: l, y :: m => Al x y ∧ Als l m
  | _, _ => False
/-- how it ends: one side with the end e, the other one with t; cut: t is anything, else an end, too -/
structure Tl where
  cut : Bool
  e : Tok
  t : List Tok
/-- the tokens that are left are alike, and behind them each side ends -/
structure Loc (T : Tl) (s r : St) : Prop where
  err : s.err = 0
  err' : r.err = 0
  rest : ∃ l m, s.rest = l ++ [T.e] ∧ r.rest = m ++ T.t ∧ Als l m
/-- a fault, told at the end -/
def AtE (T : Tl) (s : St) : Prop := T.cut = true ∧ s.err = 4 ∧ s.line = T.e.line ∧ s.col = T.e.col ∧ s.rest = [T.e]
/-- a fault stays as it is -/
structure Kept (s s' : St) : Prop where
  err : s'.err = s.err
  line : s'.line = s.line
  col : s'.col = s.col
  rest : (peek s).kind = 0 → s'.rest = s.rest
/-- at the end -/
def End (T : Tl) (s : St) : Prop := T.cut = true ∧ s.err = 0 ∧ s.rest = [T.e]
def Tails (T : Tl) : Prop := T.e.kind = 0 ∧ (T.cut = false → ∃ x, T.t = [x] ∧ x.kind = 0)
def Out {α : Type} (T : Tl) (b : Bool) (x y : α × St) : Prop := AtE T x.2 ∨ (x.2.err ≠ 0 ∧ x.2.err = y.2.err) ∨ (b = true ∧ End T x.2) ∨ (x.1 = y.1 ∧ Loc T x.2 y.2)
structure Good (T : Tl) (b : Bool) {α : Type} (F : St → α × St) : Prop where
  K : ∀ s, s.err ≠ 0 → Kept s (F s).2
  E : ∀ s, End T s → AtE T (F s).2 ∨ (b = true ∧ End T (F s).2)
  L : ∀ s r, Loc T s r → Out T b (F s) (F r)
def bnd {α β : Type} (F : St → α × St) (G : α → St → β × St) (s : St) : β × St := G (F s).1 (F s).2
def mp {α β : Type} (f : α → β) (F : St → α × St) (s : St) : β × St := (f (F s).1, (F s).2)
def un (f : St → St) (s : St) : Unit × St := ((), f s)
theorem must2_eq (w v : ByteArray) : un (P.must [w, v]) = bnd (un (P.must [w])) (fun _ => un (P.must [v])) := by
  funext s
  show ((), P.must [w, v] s) = ((), P.must [v] (P.must [w] s))
  have e1 : P.must [w, v] s = if (P.eat w s).1 = true then P.must [v] (P.eat w s).2 else fail 4 (peek s) (P.eat w s).2 := rfl
  have e2 : P.must [w] s = if (P.eat w s).1 = true then (P.eat w s).2 else fail 4 (peek s) (P.eat w s).2 := rfl
  rw [e1, e2]
  by_cases hc : (P.eat w s).1 = true
  · rw [if_pos hc, if_pos hc]
  · rw [if_neg hc, if_neg hc]
    have hb : (fail 4 (peek s) (P.eat w s).2).err ≠ 0 := fail_err 4 _ _ (by decide)
    rw [P.must, eat_bad hb]
    simp only [Bool.false_eq_true, if_false]
    rw [fail_keep hb]
section
variable {T : Tl} {α β : Type}
theorem Kept.rfl' (s : St) : Kept s s := ⟨rfl, rfl, rfl, fun _ => rfl⟩
theorem Kept.trans {s s' s'' : St} (h : Kept s s') (k : Kept s' s'') : Kept s s'' := ⟨k.err.trans h.err, k.line.trans h.line, k.col.trans h.col, fun h0 => by
  have h1 := h.rest h0
  exact (k.rest (by unfold peek at h0 ⊢; rw [h1]; exact h0)).trans h1⟩
theorem AtE.keep {T : Tl} (he : T.e.kind = 0) {s s' : St} (h : AtE T s) (k : Kept s s') : AtE T s' :=
  ⟨h.1, k.err.trans h.2.1, k.line.trans h.2.2.1, k.col.trans h.2.2.2.1, (k.rest (by unfold peek; rw [h.2.2.2.2]; exact he)).trans h.2.2.2.2⟩
theorem AtE.bad {s : St} (h : AtE T s) : s.err ≠ 0 := by rw [h.2.1]; decide
theorem Good.bnd (he : T.e.kind = 0) {b c : Bool} {F : St → α × St} {G : α → St → β × St} (hF : Good T b F) (hG : ∀ a, Good T c (G a)) : Good T c (bnd F G) := by
  refine ⟨fun s h => ?_, fun s h => ?_, fun s r h => ?_⟩
  · have h1 := hF.K s h
    exact h1.trans ((hG (F s).1).K (F s).2 (by rw [h1.err]; exact h))
  · rcases hF.E s h with h1 | h1
    · exact .inl (h1.keep he ((hG (F s).1).K (F s).2 h1.bad))
    · exact (hG (F s).1).E (F s).2 h1.2
  · rcases hF.L s r h with h1 | h1 | h1 | h1
    · exact .inl (h1.keep he ((hG (F s).1).K (F s).2 h1.bad))
    · have h2 := (hG (F s).1).K (F s).2 h1.1
      have h3 := (hG (F r).1).K (F r).2 (h1.2 ▸ h1.1)
      exact .inr (.inl ⟨by show (G (F s).1 (F s).2).2.err ≠ 0; rw [h2.err]; exact h1.1, by show (G (F s).1 (F s).2).2.err = (G (F r).1 (F r).2).2.err; rw [h2.err, h3.err]; exact h1.2⟩)
    · rcases (hG (F s).1).E (F s).2 h1.2 with h2 | h2
      · exact .inl h2
      · exact .inr (.inr (.inl h2))
    · show Out T c (G (F s).1 (F s).2) (G (F r).1 (F r).2)
      rw [← h1.1]
      exact (hG (F s).1).L _ _ h1.2
theorem Good.mp {b : Bool} {F : St → α × St} (f : α → β) (hF : Good T b F) : Good T b (mp f F) := by
  refine ⟨hF.K, hF.E, fun s r h => ?_⟩
  rcases hF.L s r h with h1 | h1 | h1 | h1
  · exact .inl h1
  · exact .inr (.inl h1)
  · exact .inr (.inr (.inl h1))
  · exact .inr (.inr (.inr ⟨congrArg f h1.1, h1.2⟩))
theorem Good.ret (a : α) : Good T true (fun s => (a, s)) := ⟨fun s h => Kept.rfl' s, fun s h => .inr ⟨rfl, h⟩, fun s r h => .inr (.inr (.inr ⟨rfl, h⟩))⟩
theorem Good.up {b : Bool} {F : St → α × St} (hF : Good T b F) : Good T true F := by
  refine ⟨hF.K, fun s h => ?_, fun s r h => ?_⟩
  · rcases hF.E s h with h1 | h1
    · exact .inl h1
    · exact .inr ⟨rfl, h1.2⟩
  · rcases hF.L s r h with h1 | h1 | h1 | h1
    · exact .inl h1
    · exact .inr (.inl h1)
    · exact .inr (.inr (.inl ⟨rfl, h1.2⟩))
    · exact .inr (.inr (.inr h1))
theorem Good.ite {b : Bool} {p : Prop} [Decidable p] {F G : St → α × St} (hF : p → Good T b F) (hG : ¬ p → Good T b G) : Good T b (fun s => if p then F s else G s) := by
  by_cases hp : p
  · simp only [if_pos hp]; exact hF hp
  · simp only [if_neg hp]; exact hG hp
/-- a round that ends at a fault, too -/
theorem Good.iteErr {p : Prop} [Decidable p] {a : α} {F : St → α × St} (hF : ¬ p → Good T true F) : Good T true (fun s => if p ∨ s.err ≠ 0 then (a, s) else F s) := by
  by_cases hp : p
  · simp only [hp, true_or, if_true]; exact Good.ret a
  · have hg := hF hp
    refine ⟨fun s h => ?_, fun s h => ?_, fun s r h => ?_⟩
    · simp only [if_pos (Or.inr h : p ∨ s.err ≠ 0)]; exact Kept.rfl' s
    · have hn : ¬ (p ∨ s.err ≠ 0) := by rintro (c | c); exact hp c; exact c h.2.1
      show AtE T (if p ∨ s.err ≠ 0 then (a, s) else F s).2 ∨ _
      rw [if_neg hn]; exact hg.E s h
    · have hn : ¬ (p ∨ s.err ≠ 0) := by rintro (c | c); exact hp c; exact c h.err
      have hm : ¬ (p ∨ r.err ≠ 0) := by rintro (c | c); exact hp c; exact c h.err'
      show Out T true (if p ∨ s.err ≠ 0 then (a, s) else F s) (if p ∨ r.err ≠ 0 then (a, r) else F r)
      rw [if_neg hn, if_neg hm]; exact hg.L s r h
theorem on_none {w : ByteArray} {s : St} (h : (peek s).kind = 0) : on w s = false := by unfold on; simp [h]
variable (hu : Tails T)
include hu
theorem End.kind {s : St} (h : End T s) : (peek s).kind = 0 ∧ (peek s) = T.e := by
  unfold peek; rw [h.2.2]; exact ⟨hu.1, rfl⟩
/-- alike: at the end of one side, or both at the end, or a token that is alike on both -/
theorem Loc.cases {s r : St} (h : Loc T s r) : End T s ∨ ((peek s).kind = 0 ∧ (peek r).kind = 0 ∧ (∀ w, on w s = false) ∧ (∀ w, on w r = false)) ∨
    ((peek s).kind = (peek r).kind ∧ (peek s).text = (peek r).text ∧ Loc T (drop1 s) (drop1 r)) := by
  obtain ⟨l, m, h1, h2, h3⟩ := h.rest
  cases l with
  | nil =>
    cases m with
    | cons y m => exact absurd h3 (by simp [Als])
    | nil =>
      cases hc : T.cut with
      | true => exact .inl ⟨hc, h.err, h1⟩
      | false =>
        obtain ⟨x, hx, hk⟩ := hu.2 hc
        have hp : (peek s).kind = 0 := by unfold peek; rw [h1]; exact hu.1
        have hq : (peek r).kind = 0 := by unfold peek; rw [h2, hx]; exact hk
        exact .inr (.inl ⟨hp, hq, fun w => on_none hp, fun w => on_none hq⟩)
  | cons x l =>
    cases m with
    | nil => exact absurd h3 (by simp [Als])
    | cons y m =>
      have hp : peek s = x := by unfold peek; rw [h1]; rfl
      have hq : peek r = y := by unfold peek; rw [h2]; rfl
      exact .inr (.inr ⟨by rw [hp, hq]; exact h3.1.1, by rw [hp, hq]; exact h3.1.2.1, h.err, h.err', l, m, by show s.rest.tail = _; rw [h1]; rfl, by show r.rest.tail = _; rw [h2]; rfl, h3.2⟩)
theorem good_eat (w : ByteArray) : Good T true (P.eat w) := by
  refine ⟨fun s h => ?_, fun s h => ?_, fun s r h => ?_⟩
  · rw [eat_bad h]; exact Kept.rfl' s
  · have ho := on_none (w := w) (h.kind hu).1
    unfold P.eat
    rw [if_neg (fun c => by rw [ho] at c; cases c.2)]
    exact .inr ⟨rfl, h⟩
  · rcases h.cases hu with h1 | ⟨h1, h2, h3, h4⟩ | ⟨h1, h2, h3⟩
    · have ho := on_none (w := w) (h1.kind hu).1
      refine .inr (.inr (.inl ⟨rfl, ?_⟩))
      unfold P.eat
      rw [if_neg (fun c => by rw [ho] at c; cases c.2)]
      exact h1
    · unfold P.eat
      rw [if_neg (fun c => by rw [h3] at c; cases c.2), if_neg (fun c => by rw [h4] at c; cases c.2)]
      exact .inr (.inr (.inr ⟨rfl, h⟩))
    · have ho : on w s = on w r := by unfold on; rw [h1, h2]
      unfold P.eat
      rw [← ho]
      by_cases hc : on w s = true
      · rw [if_pos ⟨h.err, hc⟩, if_pos ⟨h.err', hc⟩]
        refine .inr (.inr (.inr ⟨rfl, ?_⟩))
        have hk := on_kind hc
        rw [next_drop hk, next_drop (by rw [← h1]; exact hk)]
        exact h3
      · rw [if_neg (fun c => hc c.2), if_neg (fun c => hc c.2)]
        exact .inr (.inr (.inr ⟨rfl, h⟩))
theorem good_fail (e : α) : Good T false (fun s => (e, fail 4 (peek s) s)) := by
  refine ⟨fun s h => ?_, fun s h => ?_, fun s r h => ?_⟩
  · simp only [fail_keep h]; exact Kept.rfl' s
  · refine .inl ⟨h.1, ?_, ?_, ?_, ?_⟩
    · simp only [fail, if_pos h.2.1]
    · simp only [fail, if_pos h.2.1, (h.kind hu).2]
    · simp only [fail, if_pos h.2.1, (h.kind hu).2]
    · simp only [fail, if_pos h.2.1, h.2.2]
  · refine .inr (.inl ⟨fail_err 4 _ _ (by decide), ?_⟩)
    simp only [fail, if_pos h.err, if_pos h.err']
theorem good_must1 (w : ByteArray) : Good T false (un (P.must [w])) := by
  have h : un (P.must [w]) = bnd (P.eat w) (fun a s => if a = true then ((), s) else ((), fail 4 (peek s) s)) := by
    funext s
    show ((), if (P.eat w s).1 = true then (P.eat w s).2 else fail 4 (peek s) (P.eat w s).2) = if (P.eat w s).1 = true then ((), (P.eat w s).2) else ((), fail 4 (peek (P.eat w s).2) (P.eat w s).2)
    by_cases hc : (P.eat w s).1 = true
    · rw [if_pos hc, if_pos hc]
    · rw [if_neg hc, if_neg hc, eat_no (by simpa using hc)]
  refine ⟨fun s hs => ?_, fun s hs => ?_, fun s r hs => ?_⟩
  · rw [h]; exact ((good_eat hu w).bnd hu.1 (c := true) fun a => Good.ite (fun _ => Good.ret _) (fun _ => (good_fail hu ()).up)).K s hs
  · have ho := on_none (w := w) (hs.kind hu).1
    have he : P.eat w s = (false, s) := by
      unfold P.eat
      rw [if_neg (fun c => by rw [ho] at c; cases c.2)]
    rw [h]
    unfold bnd
    rw [he]
    exact (good_fail hu ()).E s hs
  · rw [h]
    rcases hs.cases hu with h1 | ⟨h1, h2, h3, h4⟩ | ⟨h1, h2, h3⟩
    · have ho := on_none (w := w) (h1.kind hu).1
      have he : P.eat w s = (false, s) := by
        unfold P.eat
        rw [if_neg (fun c => by rw [ho] at c; cases c.2)]
      rcases (good_fail hu ()).E s h1 with h5 | h5
      · refine .inl ?_
        unfold bnd
        rw [he]
        exact h5
      · cases h5.1
    · have he : P.eat w s = (false, s) := by unfold P.eat; rw [if_neg (fun c => by rw [h3] at c; cases c.2)]
      have he' : P.eat w r = (false, r) := by unfold P.eat; rw [if_neg (fun c => by rw [h4] at c; cases c.2)]
      unfold bnd
      rw [he, he']
      exact (good_fail hu ()).L s r hs
    · have ho : on w s = on w r := by unfold on; rw [h1, h2]
      by_cases hc : on w s = true
      · have he : P.eat w s = (true, P.next s) := by unfold P.eat; rw [if_pos ⟨hs.err, hc⟩]
        have he' : P.eat w r = (true, P.next r) := by unfold P.eat; rw [if_pos ⟨hs.err', ho ▸ hc⟩]
        have hk := on_kind hc
        unfold bnd
        rw [he, he', next_drop hk, next_drop (by rw [← h1]; exact hk)]
        exact .inr (.inr (.inr ⟨rfl, h3⟩))
      · have he : P.eat w s = (false, s) := by unfold P.eat; rw [if_neg (fun c => hc c.2)]
        have he' : P.eat w r = (false, r) := by unfold P.eat; rw [if_neg (fun c => hc (ho ▸ c.2))]
        unfold bnd
        rw [he, he']
        exact (good_fail hu ()).L s r hs
theorem good_must2 (w v : ByteArray) : Good T false (un (P.must [w, v])) := by
  rw [must2_eq w v]
  exact (good_must1 hu w).bnd hu.1 fun _ => good_must1 hu v
theorem good_kind (k : Int) (hk : k ≠ 0) : Good T false (P.kind k) := by
  refine ⟨fun s h => ?_, fun s h => ?_, fun s r h => ?_⟩
  · unfold P.kind
    split
    · have hn := next_err s
      exact ⟨hn.1, hn.2.1, hn.2.2, fun h0 => by show (P.next s).rest = s.rest; unfold P.next; rw [if_pos h0]⟩
    · rw [fail_keep h]; exact Kept.rfl' s
  · unfold P.kind
    rw [if_neg (by rw [(h.kind hu).1]; exact fun c => hk c.symm)]
    exact (good_fail hu (⟨#[]⟩ : ByteArray)).E s h
  · rcases h.cases hu with h1 | ⟨h1, h2, h3, h4⟩ | ⟨h1, h2, h3⟩
    · unfold P.kind
      rw [if_neg (by rw [(h1.kind hu).1]; exact fun c => hk c.symm)]
      rcases (good_fail hu (⟨#[]⟩ : ByteArray)).E s h1 with h5 | h5
      · exact .inl h5
      · cases h5.1
    · unfold P.kind
      rw [if_neg (by rw [h1]; exact fun c => hk c.symm), if_neg (by rw [h2]; exact fun c => hk c.symm)]
      exact (good_fail hu (⟨#[]⟩ : ByteArray)).L s r h
    · unfold P.kind
      rw [← h1, ← h2]
      by_cases hc : (peek s).kind = k
      · rw [if_pos hc, if_pos hc, next_drop (by rw [hc]; exact hk), next_drop (by rw [← h1, hc]; exact hk)]
        exact .inr (.inr (.inr ⟨rfl, h3⟩))
      · rw [if_neg hc, if_neg hc]
        exact (good_fail hu (⟨#[]⟩ : ByteArray)).L s r h
variable (dp : ByteArray → Day) (np : ByteArray → Int → Int → Int × Int)
theorem good_number (pl most : Int) : Good T false (P.number np pl most) := by
  have hk := good_kind hu 3 (by decide)
  refine ⟨fun s h => ?_, fun s h => ?_, fun s r h => ?_⟩
  · have h1 := hk.K s h
    unfold P.number
    simp only
    rw [if_neg (by rw [h1.err]; exact h)]
    exact h1
  · rcases hk.E s h with h1 | h1
    · refine .inl ?_
      unfold P.number
      simp only
      rw [if_neg h1.bad]
      exact h1
    · cases h1.1
  · rcases hk.L s r h with h1 | h1 | h1 | h1
    · refine .inl ?_
      unfold P.number
      simp only
      rw [if_neg h1.bad]
      exact h1
    · refine .inr (.inl ?_)
      unfold P.number
      simp only
      rw [if_neg h1.1, if_neg (h1.2 ▸ h1.1)]
      exact h1
    · cases h1.1
    · unfold P.number
      simp only
      rw [if_pos h1.2.err, if_pos h1.2.err', ← h1.1]
      by_cases c1 : (np (P.kind 3 s).1 pl most).2 = 1
      · refine .inr (.inl ?_)
        simp only [if_pos c1]
        exact ⟨fail_err 4 _ _ (by decide), by simp only [fail, if_pos h1.2.err, if_pos h1.2.err']⟩
      · simp only [if_neg c1]
        by_cases c2 : (np (P.kind 3 s).1 pl most).2 = 2
        · refine .inr (.inl ?_)
          simp only [if_pos c2]
          exact ⟨fail_err 6 _ _ (by decide), by simp only [fail, if_pos h1.2.err, if_pos h1.2.err']⟩
        · simp only [if_neg c2]
          exact .inr (.inr (.inr ⟨rfl, h1.2⟩))
theorem good_day : Good T false (P.day dp) := (good_kind hu 4 (by decide)).mp dp
theorem good_one : ∀ (l : List ByteArray) (i : Int), Good T true (P.one l i)
  | [], i => Good.ret (-1)
  | w :: ws, i => (good_eat hu w).bnd hu.1 (G := fun a s => if a = true then (i, s) else P.one ws (i + 1) s) fun a => Good.ite (fun _ => Good.ret i) (fun _ => good_one ws (i + 1))
theorem good_mode : Good T true P.mode :=
  (good_one hu [wFloor, wCeil, wHalfup, wHalfeven] 0).bnd hu.1 (G := fun o s => if o < 0 then (0, fail 4 (peek s) s) else (o, s)) fun o => Good.ite (fun _ => (good_fail hu 0).up) (fun _ => Good.ret o)
theorem good_window : Good T true (P.window dp) :=
  (good_eat hu wFrom).bnd hu.1 (G := fun a s => if a = true then bnd (P.day dp) (fun f => bnd (un (P.must [wTo])) (fun _ => mp (fun t => (⟨true, f, t⟩ : Win)) (P.day dp))) s else (noWin, s)) fun a =>
    Good.ite (fun _ => ((good_day hu dp).bnd hu.1 fun f => (good_must1 hu wTo).bnd hu.1 fun _ => (good_day hu dp).mp _).up) (fun _ => Good.ret noWin)
theorem good_opt (w : ByteArray) (d : Int) : Good T true (P.opt np w d) :=
  (good_eat hu w).bnd hu.1 (G := fun a s => if a = true then bnd (P.number np 0 1000000) (fun x => mp (fun _ => x) (un (P.must [wSemi]))) s else (d, s)) fun a =>
    Good.ite (fun _ => ((good_number hu np 0 1000000).bnd hu.1 fun x => (good_must1 hu wSemi).mp _).up) (fun _ => Good.ret d)
theorem good_ckind : Good T true P.ckind :=
  (good_eat hu wVolume).bnd hu.1 (G := fun a s => if a = true then ((2 : Int), s) else mp (fun _ => (1 : Int)) (un (P.must [wGraduated])) s) fun a =>
    Good.ite (fun _ => Good.ret 2) (fun _ => ((good_must1 hu wGraduated).mp _).up)
theorem good_tierLoop : ∀ (f : Nat) (acc : List Tier), Good T true (P.tierLoop np f acc)
  | 0, acc => Good.ret acc
  | f + 1, acc => (good_eat hu wUpto).bnd hu.1 (G := fun a s => if a = true then bnd (P.number np 0 1000000) (fun x => bnd (un (P.must [wRate])) (fun _ => bnd (P.number np 6 1000000000000) (fun y => bnd (un (P.must [wSemi])) (fun _ => P.tierLoop np f (acc ++ [(⟨x, y⟩ : Tier)]))))) s else (acc, s)) fun a =>
    Good.ite (fun _ => (good_number hu np 0 1000000).bnd hu.1 fun x => (good_must1 hu wRate).bnd hu.1 fun _ => (good_number hu np 6 1000000000000).bnd hu.1 fun y => (good_must1 hu wSemi).bnd hu.1 fun _ => good_tierLoop f _) (fun _ => Good.ret acc)
theorem good_tierAll (acc : List Tier) : Good T true (P.tierAll np acc) := by
  refine ⟨fun s h => (good_tierLoop hu np (len s) acc).K s h, fun s h => (good_tierLoop hu np (len s) acc).E s h, fun s r h => ?_⟩
  have hl := (good_tierLoop hu np (len s + len r) acc).L s r h
  rw [tier_fuel np _ (len s) acc s (by omega) (Nat.le_refl _), tier_fuel np _ (len r) acc r (by omega) (Nat.le_refl _)] at hl
  exact hl
theorem good_tiers : Good T false (P.tiers np) :=
  (good_must1 hu wOpen).bnd hu.1 (G := fun _ => bnd (P.tierAll np []) (fun l => bnd (un (P.must [wRest, wRate])) (fun _ => bnd (P.number np 6 1000000000000) (fun r => mp (fun _ => l ++ [(⟨0, r⟩ : Tier)]) (un (P.must [wSemi, wClose])))))) fun _ =>
    (good_tierAll hu np []).bnd hu.1 fun l => (good_must2 hu wRest wRate).bnd hu.1 fun _ => (good_number hu np 6 1000000000000).bnd hu.1 fun r => (good_must2 hu wSemi wClose).mp _
theorem good_adjBody (k : Int) : Good T false (P.adjBody np k) := by
  have h : P.adjBody np k = fun s => if k = 1 then bnd (P.number np 3 100000000) (fun n => bnd P.mode (fun m => mp (fun _ => (⟨1, n, m⟩ : Adj)) (un (P.must [wSemi])))) s else bnd (P.number np 0 1000000000000) (fun n => mp (fun _ => (⟨k, n, 0⟩ : Adj)) (un (P.must [wSemi]))) s := rfl
  rw [h]
  exact Good.ite (fun _ => (good_number hu np 3 100000000).bnd hu.1 fun n => (good_mode hu).bnd hu.1 fun m => (good_must1 hu wSemi).mp _) (fun _ => (good_number hu np 0 1000000000000).bnd hu.1 fun n => (good_must1 hu wSemi).mp _)
theorem good_adjust : Good T true (P.adjust np) :=
  (good_one hu [wPercent, wCap, wMinimum, wAdd] 1).bnd hu.1 (G := fun o s => if o < 0 then (((⟨0, 0, 0⟩ : Adj), false), s) else mp (fun b => (b, true)) (P.adjBody np o) s) fun o =>
    Good.ite (fun _ => Good.ret _) (fun _ => ((good_adjBody hu np o).mp _).up)
theorem good_adjLoop : ∀ (f : Nat) (acc : List Adj), Good T true (P.adjLoop np f acc)
  | 0, acc => Good.ret acc
  | f + 1, acc => (good_adjust hu np).bnd hu.1 (G := fun a s => if a.2 = false ∨ s.err ≠ 0 then (acc, s) else P.adjLoop np f (acc ++ [a.1]) s) fun a => Good.iteErr (fun _ => good_adjLoop f _)
theorem good_adjAll (acc : List Adj) : Good T true (P.adjAll np acc) := by
  refine ⟨fun s h => (good_adjLoop hu np (len s) acc).K s h, fun s h => (good_adjLoop hu np (len s) acc).E s h, fun s r h => ?_⟩
  have hl := (good_adjLoop hu np (len s + len r) acc).L s r h
  rw [adj_fuel np _ (len s) acc s (by omega) (Nat.le_refl _), adj_fuel np _ (len r) acc r (by omega) (Nat.le_refl _)] at hl
  exact hl
theorem good_charge (l c : Int) : Good T false (P.charge dp np l c) :=
  (good_kind hu 1 (by decide)).bnd hu.1 (G := fun n => bnd (P.window dp) fun w => bnd (un (P.must [wOpen])) fun _ => bnd (P.opt np wAllowance 0) fun a => bnd (P.opt np wBlock 1) fun b => bnd P.ckind fun k => bnd (P.tiers np) fun t =>
      bnd (un (P.must [wRound])) fun _ => bnd P.mode fun m => bnd (un (P.must [wSemi])) fun _ => bnd (P.adjAll np []) fun d => mp (fun _ => (⟨n, w, a, b, k, t, m, d, l, c⟩ : Chg)) (un (P.must [wClose]))) fun n =>
    (good_window hu dp).bnd hu.1 fun w => (good_must1 hu wOpen).bnd hu.1 fun _ => (good_opt hu np wAllowance 0).bnd hu.1 fun a => (good_opt hu np wBlock 1).bnd hu.1 fun b => (good_ckind hu).bnd hu.1 fun k => (good_tiers hu np).bnd hu.1 fun t =>
      (good_must1 hu wRound).bnd hu.1 fun _ => (good_mode hu).bnd hu.1 fun m => (good_must1 hu wSemi).bnd hu.1 fun _ => (good_adjAll hu np []).bnd hu.1 fun d => (good_must1 hu wClose).mp _
theorem good_meter (l c : Int) : Good T false (P.meter np l c) :=
  (good_kind hu 1 (by decide)).bnd hu.1 (G := fun n => bnd (un (P.must [wUnit])) fun _ => bnd (P.kind 1) fun x => bnd (un (P.must [wMax])) fun _ => bnd (P.number np 0 2000) fun m => mp (fun _ => (⟨n, x, m, l, c⟩ : Met)) (un (P.must [wSemi]))) fun n =>
    (good_must1 hu wUnit).bnd hu.1 fun _ => (good_kind hu 1 (by decide)).bnd hu.1 fun x => (good_must1 hu wMax).bnd hu.1 fun _ => (good_number hu np 0 2000).bnd hu.1 fun m => (good_must1 hu wSemi).mp _
theorem good_fee (l c : Int) : Good T false (P.fee dp np l c) :=
  (good_number hu np 0 1000000000000).bnd hu.1 (G := fun x => bnd (P.window dp) fun w => mp (fun _ => (⟨x, w, l, c⟩ : Fee)) (un (P.must [wSemi]))) fun x =>
    (good_window hu dp).bnd hu.1 fun w => (good_must1 hu wSemi).mp _
end
/-- an item, without its place -/
inductive Thing where
  | met (m : Met)
  | fee (f : Fee)
  | chg (c : Chg)
  | none
def put (p : Plan) (l c : Int) : Thing → Plan
  | .met m => { p with mets := p.mets ++ [{ m with line := l, col := c }] }
  | .fee f => { p with fees := p.fees ++ [{ f with line := l, col := c }] }
  | .chg x => { p with chgs := p.chgs ++ [{ x with line := l, col := c }] }
  | .none => p
section
variable (dp : ByteArray → Day) (np : ByteArray → Int → Int → Int × Int)
def itm : St → Thing × St := bnd (P.one [wMeter, wFee, wCharge] 0) fun o s =>
  if o = 0 then mp Thing.met (P.meter np 0 0) s else if o = 1 then mp Thing.fee (P.fee dp np 0 0) s else if o = 2 then mp Thing.chg (P.charge dp np 0 0) s
  else bnd (fun s => ((), fail 4 (peek s) s)) (fun _ => mp (fun _ => Thing.none) (un (P.must [wSemi]))) s
theorem item_itm (p : Plan) (s : St) : P.item dp np p s = (put p (peek s).line (peek s).col (itm dp np s).1, (itm dp np s).2) := by
  have hr := one_range [wMeter, wFee, wCharge] 0 s
  have hn := one_none [wMeter, wFee, wCharge] 0 s (by decide)
  unfold P.item itm bnd
  simp only
  split
  · rfl
  · split
    · rfl
    · split
      · rfl
      · rename_i h0 h1 h2
        have h3 : (P.one [wMeter, wFee, wCharge] 0 s).1 = -1 := by
          have hl : ([wMeter, wFee, wCharge].length : Int) = 3 := rfl
          omega
        rw [hn h3]
        rfl
theorem good_itm {T : Tl} (hu : Tails T) : Good T false (itm dp np) :=
  (good_one hu [wMeter, wFee, wCharge] 0).bnd hu.1 fun o => Good.ite (fun _ => (good_meter hu np 0 0).mp _) fun _ => Good.ite (fun _ => (good_fee hu dp np 0 0).mp _) fun _ => Good.ite (fun _ => (good_charge hu dp np 0 0).mp _)
    fun _ => (good_fail hu ()).bnd hu.1 fun _ => (good_must1 hu wSemi).mp _
end
end Go.Proofs.YtcgkfgklggjmaaaDoor.Par
end
section
namespace Go.Proofs.YtcgkfgklggjmaaaDoor.Par
set_option linter.unusedVariables false
set_option linter.unusedSimpArgs false
/-! plans without places; items behind items -/
def sM (m : Met) : Met := { m with line := 0, col := 0 }
def sF (m : Fee) : Fee := { m with line := 0, col := 0 }
def sC (m : Chg) : Chg := { m with line := 0, col := 0 }
def strip (p : Plan) : Plan := { p with mets := p.mets.map sM, fees := p.fees.map sF, chgs := p.chgs.map sC, line := 0, col := 0 }
/-- the items of another plan behind its own -/
def adds (b p : Plan) : Plan := { b with mets := b.mets ++ p.mets, fees := b.fees ++ p.fees, chgs := b.chgs ++ p.chgs }
theorem strip_put {p q : Plan} (h : strip p = strip q) (l c l' c' : Int) (x : Thing) : strip (put p l c x) = strip (put q l' c' x) := by
  obtain ⟨n, cu, f, t, ms, fs, cs, a, b⟩ := p
  obtain ⟨n', cu', f', t', ms', fs', cs', a', b'⟩ := q
  simp only [strip, Plan.mk.injEq] at h
  obtain ⟨rfl, rfl, rfl, rfl, h1, h2, h3, -, -⟩ := h
  cases x <;> simp [put, strip, h1, h2, h3, sM, sF, sC]
theorem put_adds (b p : Plan) (l c : Int) (x : Thing) : put (adds b p) l c x = adds b (put p l c x) := by
  cases x <;> simp [put, adds]
section
variable (dp : ByteArray → Day) (np : ByteArray → Int → Int → Int × Int)
theorem itemsAll_itm {p : Plan} {s : St} (h0 : s.err = 0) (hk : (peek s).kind ≠ 0) : P.itemsAll dp np p s = P.itemsAll dp np (put p (peek s).line (peek s).col (itm dp np s).1) (itm dp np s).2 := by
  rw [itemsAll_step dp np h0 hk, item_itm]
theorem itm_round {s : St} (h : (itm dp np s).2.err = 0) : len (itm dp np s).2 < len s := by
  have hr := item_round dp np noPlan s
  rw [item_itm] at hr
  exact hr.resolve_left (fun c => c h)
theorem Loc.live {T : Tl} {s r : St} (h : Loc T s r) : (s.rest = [T.e] ∧ r.rest = T.t) ∨ ((peek s).kind ≠ 0 ∧ (peek r).kind ≠ 0) := by
  obtain ⟨l, m, h1, h2, h3⟩ := h.rest
  cases l with
  | nil =>
    cases m with
    | cons y m => exact absurd h3 (by simp [Als])
    | nil => exact .inl ⟨h1, h2⟩
  | cons x l =>
    cases m with
    | nil => exact absurd h3 (by simp [Als])
    | cons y m =>
      have hp : peek s = x := by unfold peek; rw [h1]; rfl
      have hq : peek r = y := by unfold peek; rw [h2]; rfl
      refine .inr ⟨by rw [hp]; exact h3.1.2.2, by rw [hq, ← h3.1.1]; exact h3.1.2.2⟩
/-- the items of one side, where the other one goes on -/
theorem items_cut {T : Tl} (hT : Tails T) : ∀ (n : Nat) (s r : St) (p q : Plan), len s ≤ n → Loc T s r → strip p = strip q →
    AtE T (P.itemsAll dp np p s).2 ∨ ((P.itemsAll dp np p s).2.err ≠ 0 ∧ (P.itemsAll dp np q r).2.err ≠ 0) ∨
    ((P.itemsAll dp np p s).2.err = 0 ∧ (P.itemsAll dp np p s).2.rest = [T.e] ∧ ∃ q' r', r'.err = 0 ∧ r'.rest = T.t ∧ strip q' = strip (P.itemsAll dp np p s).1 ∧ P.itemsAll dp np q r = P.itemsAll dp np q' r') := by
  intro n
  induction n with
  | zero =>
    intro s r p q hn h hp
    obtain ⟨l, m, h1, -, -⟩ := h.rest
    unfold len at hn
    rw [h1] at hn
    simp at hn
  | succ n ih =>
    intro s r p q hn h hp
    rcases h.live with ⟨h1, h2⟩ | ⟨h1, h2⟩
    · rw [itemsAll_end dp np (p := p) (s := s) (.inr (by unfold peek; rw [h1]; exact hT.1))]
      exact .inr (.inr ⟨h.err, h1, q, r, h.err', h2, hp.symm, rfl⟩)
    · rw [itemsAll_itm dp np h.err h1, itemsAll_itm dp np h.err' h2]
      rcases (good_itm dp np hT).L s r h with h3 | h3 | h3 | h3
      · rw [itemsAll_end dp np (.inl h3.bad)]
        exact .inl h3
      · rw [itemsAll_end dp np (s := (itm dp np s).2) (.inl h3.1), itemsAll_end dp np (s := (itm dp np r).2) (.inl (h3.2 ▸ h3.1))]
        exact .inr (.inl ⟨h3.1, h3.2 ▸ h3.1⟩)
      · cases h3.1
      · have hl := itm_round dp np h3.2.err
        rw [← h3.1]
        exact ih _ _ _ _ (by omega) h3.2 (strip_put hp _ _ _ _ _)
/-- the same items behind two plans -/
theorem items_alike {T : Tl} (hT : Tails T) (hc : T.cut = false) : ∀ (n : Nat) (s r : St) (p q b : Plan), len s ≤ n → Loc T s r → strip q = strip (adds b p) →
    (P.itemsAll dp np p s).2.err = (P.itemsAll dp np q r).2.err ∧ ((P.itemsAll dp np p s).2.err = 0 → strip (P.itemsAll dp np q r).1 = strip (adds b (P.itemsAll dp np p s).1)) := by
  intro n
  induction n with
  | zero =>
    intro s r p q b hn h hp
    obtain ⟨l, m, h1, -, -⟩ := h.rest
    unfold len at hn
    rw [h1] at hn
    simp at hn
  | succ n ih =>
    intro s r p q b hn h hp
    rcases h.live with ⟨h1, h2⟩ | ⟨h1, h2⟩
    · obtain ⟨x, hx, hk⟩ := hT.2 hc
      rw [itemsAll_end dp np (p := p) (s := s) (.inr (by unfold peek; rw [h1]; exact hT.1)), itemsAll_end dp np (p := q) (s := r) (.inr (by unfold peek; rw [h2, hx]; exact hk))]
      exact ⟨h.err.trans h.err'.symm, fun _ => hp⟩
    · rw [itemsAll_itm dp np h.err h1, itemsAll_itm dp np h.err' h2]
      rcases (good_itm dp np hT).L s r h with h3 | h3 | h3 | h3
      · exact absurd h3.1 (by rw [hc]; decide)
      · rw [itemsAll_end dp np (s := (itm dp np s).2) (.inl h3.1), itemsAll_end dp np (s := (itm dp np r).2) (.inl (h3.2 ▸ h3.1))]
        exact ⟨h3.2, fun c => absurd c h3.1⟩
      · cases h3.1
      · have hl := itm_round dp np h3.2.err
        rw [← h3.1]
        refine ih _ _ _ _ b (by omega) h3.2 ?_
        rw [← put_adds]
        exact strip_put hp _ _ _ _ _
/-- the head of a plan -/
def hd : St → Plan × St :=
  bnd (un (P.must [wPlan])) fun _ => bnd (P.kind 1) fun n => bnd (un (P.must [wCurrency])) fun _ => bnd (P.kind 1) fun c => bnd (un (P.must [wSemi, wHorizon])) fun _ => bnd (P.day dp) fun f => bnd (P.day dp) fun t =>
    mp (fun _ => (⟨n, c, f, t, [], [], [], 0, 0⟩ : Plan)) (un (P.must [wSemi]))
theorem head_hd (s : St) : P.head dp s = ({ (hd dp s).1 with line := (peek s).line, col := (peek s).col }, (hd dp s).2) := by
  simp only [P.head, hd, bnd, mp, un]
theorem good_hd {T : Tl} (hu : Tails T) : Good T false (hd dp) :=
  (good_must1 hu wPlan).bnd hu.1 fun _ => (good_kind hu 1 (by decide)).bnd hu.1 fun n => (good_must1 hu wCurrency).bnd hu.1 fun _ => (good_kind hu 1 (by decide)).bnd hu.1 fun c => (good_must2 hu wSemi wHorizon).bnd hu.1 fun _ =>
    (good_day hu dp).bnd hu.1 fun f => (good_day hu dp).bnd hu.1 fun t => (good_must1 hu wSemi).mp _
theorem plan_hd (l : List Tok) : P.plan dp np l = P.itemsAll dp np { (hd dp ⟨l, 0, 0, 0⟩).1 with line := (peek ⟨l, 0, 0, 0⟩).line, col := (peek ⟨l, 0, 0, 0⟩).col } (hd dp ⟨l, 0, 0, 0⟩).2 := by
  unfold P.plan P.itemsAll
  rw [head_hd]
  rfl
/-- a plan's tokens, where the other side goes on -/
theorem plan_cut {T : Tl} (hT : Tails T) {l m : List Tok} (ha : Als l m) :
    AtE T (P.plan dp np (l ++ [T.e])).2 ∨ ((P.plan dp np (l ++ [T.e])).2.err ≠ 0 ∧ (P.plan dp np (m ++ T.t)).2.err ≠ 0) ∨
    ((P.plan dp np (l ++ [T.e])).2.err = 0 ∧ (P.plan dp np (l ++ [T.e])).2.rest = [T.e] ∧ ∃ q' r', r'.err = 0 ∧ r'.rest = T.t ∧ strip q' = strip (P.plan dp np (l ++ [T.e])).1 ∧ P.plan dp np (m ++ T.t) = P.itemsAll dp np q' r') := by
  have h0 : Loc T ⟨l ++ [T.e], 0, 0, 0⟩ ⟨m ++ T.t, 0, 0, 0⟩ := ⟨rfl, rfl, l, m, rfl, rfl, ha⟩
  rw [plan_hd, plan_hd]
  rcases (good_hd dp hT).L _ _ h0 with h3 | h3 | h3 | h3
  · rw [itemsAll_end dp np (.inl h3.bad)]
    exact .inl h3
  · rw [itemsAll_end dp np (s := (hd dp ⟨l ++ [T.e], 0, 0, 0⟩).2) (.inl h3.1), itemsAll_end dp np (s := (hd dp ⟨m ++ T.t, 0, 0, 0⟩).2) (.inl (h3.2 ▸ h3.1))]
    exact .inr (.inl ⟨h3.1, h3.2 ▸ h3.1⟩)
  · cases h3.1
  · exact items_cut dp np hT _ _ _ _ _ (Nat.le_refl _) h3.2 (by rw [h3.1]; rfl)
end
end Go.Proofs.YtcgkfgklggjmaaaDoor.Par
end
section
namespace Go.Proofs.YtcgkfgklggjmaaaDoor.Par
set_option linter.unusedVariables false
set_option linter.unusedSimpArgs false
/-! braces and semicolons tell where an item ends -/
structure Sc where
  deep : Int
  ends : Int
  whole : Bool
def stp (σ : Sc) (x : Tok) : Sc :=
  let d := if x.text = wOpen then σ.deep + 1 else σ.deep
  let d' := if x.text = wClose then d - 1 else d
  let w := decide ((x.text = wSemi ∨ x.text = wClose) ∧ d' = 0)
  ⟨d', if w = true then σ.ends + 1 else σ.ends, w⟩
def scan (σ : Sc) (l : List Tok) : Sc := l.foldl stp σ
def Fl (x : Tok) : Prop := x.text ≠ wSemi ∧ x.text ≠ wOpen ∧ x.text ≠ wClose
def Tk (x : Tok) : Prop := (x.kind = 1 ∨ x.kind = 3 ∨ x.kind = 4) → Fl x
theorem scan_app (σ : Sc) (a b : List Tok) : scan σ (a ++ b) = scan (scan σ a) b := by simp [scan]
theorem stp_flat (σ : Sc) {x : Tok} (h : Fl x) : stp σ x = ⟨σ.deep, σ.ends, false⟩ := by
  obtain ⟨h1, h2, h3⟩ := h
  simp [stp, h1, h2, h3]
theorem scan_flat : ∀ (c : List Tok) (σ : Sc), (∀ x ∈ c, Fl x) → (scan σ c).ends = σ.ends ∧ (scan σ c).deep = σ.deep ∧ (c ≠ [] → (scan σ c).whole = false)
  | [], σ, _ => ⟨rfl, rfl, fun h => absurd rfl h⟩
  | x :: c, σ, h => by
    have hx := stp_flat σ (h x (by simp))
    obtain ⟨h1, h2, h3⟩ := scan_flat c (stp σ x) (fun y hy => h y (by simp [hy]))
    refine ⟨?_, ?_, fun _ => ?_⟩
    · show (scan (stp σ x) c).ends = _; rw [h1, hx]
    · show (scan (stp σ x) c).deep = _; rw [h2, hx]
    · show (scan (stp σ x) c).whole = _
      by_cases hc : c = []
      · subst hc; show (stp σ x).whole = false; rw [hx]
      · exact h3 hc
/-- from depth d to depth d', and no end within -/
structure Qt (d d' : Int) (s s' : St) (c : List Tok) : Prop where
  eq : s.rest = c ++ s'.rest
  bad : s.err ≠ 0 → s'.err ≠ 0 ∧ ∀ x ∈ c, Fl x
  good : s.err = 0 → ∀ σ : Sc, σ.deep = d → (scan σ c).ends = σ.ends ∧ (c ≠ [] → (scan σ c).whole = false) ∧ (s'.err = 0 → (scan σ c).deep = d')
def Q {α : Type} (d d' : Int) (F : St → α × St) : Prop := ∀ s, (∀ x ∈ s.rest, Tk x) → ∃ c, Qt d d' s (F s).2 c
/-- it ends at depth 0, with an end -/
structure Et (s s' : St) (c : List Tok) : Prop where
  eq : s.rest = c ++ s'.rest
  bad : s.err ≠ 0 → s'.err ≠ 0 ∧ ∀ x ∈ c, Fl x
  no : s.err = 0 → s'.err ≠ 0 → ∀ σ : Sc, σ.deep = 0 → (scan σ c).ends = σ.ends ∧ (c ≠ [] → (scan σ c).whole = false)
  ok : s.err = 0 → s'.err = 0 → ∀ σ : Sc, σ.deep = 0 → (scan σ c).ends = σ.ends + 1 ∧ (scan σ c).whole = true ∧ (scan σ c).deep = 0
def E {α : Type} (F : St → α × St) : Prop := ∀ s, (∀ x ∈ s.rest, Tk x) → ∃ c, Et s (F s).2 c
section
variable {α β : Type}
theorem tk_rest {s s' : St} {c : List Tok} (h : ∀ x ∈ s.rest, Tk x) (he : s.rest = c ++ s'.rest) : ∀ x ∈ s'.rest, Tk x := fun x hx => h x (by rw [he]; exact List.mem_append_right _ hx)
theorem Q.bnd {d d' d'' : Int} {F : St → α × St} {G : α → St → β × St} (hF : Q d d' F) (hG : ∀ a, Q d' d'' (G a)) : Q d d'' (bnd F G) := by
  intro s hs
  obtain ⟨c1, h1⟩ := hF s hs
  obtain ⟨c2, h2⟩ := hG (F s).1 (F s).2 (tk_rest hs h1.eq)
  refine ⟨c1 ++ c2, by rw [h1.eq, h2.eq, List.append_assoc]; rfl, fun he => ?_, fun he σ hσ => ?_⟩
  · have k1 := h1.bad he
    have k2 := h2.bad k1.1
    refine ⟨k2.1, fun x hx => ?_⟩
    rcases List.mem_append.1 hx with hx | hx
    · exact k1.2 x hx
    · exact k2.2 x hx
  · obtain ⟨a1, a2, a3⟩ := h1.good he σ hσ
    rw [scan_app]
    by_cases hf : (F s).2.err = 0
    · obtain ⟨b1, b2, b3⟩ := h2.good hf _ (a3 hf)
      refine ⟨b1.trans a1, fun hc => ?_, b3⟩
      by_cases hc2 : c2 = []
      · subst hc2
        exact a2 (by simpa using hc)
      · exact b2 hc2
    · obtain ⟨k1, k2⟩ := h2.bad hf
      obtain ⟨b1, b2, b3⟩ := scan_flat c2 (scan σ c1) k2
      refine ⟨b1.trans a1, fun hc => ?_, fun c => absurd c k1⟩
      by_cases hc2 : c2 = []
      · subst hc2
        exact a2 (by simpa using hc)
      · exact b3 hc2
theorem Q.bndE {d : Int} {F : St → α × St} {G : α → St → β × St} (hF : Q 0 d F) (hG : ∀ a s, (∀ x ∈ s.rest, Tk x) → ∃ c, s.rest = c ++ (G a s).2.rest ∧ (s.err ≠ 0 → (G a s).2.err ≠ 0 ∧ ∀ x ∈ c, Fl x) ∧
      (s.err = 0 → (G a s).2.err ≠ 0 → ∀ σ : Sc, σ.deep = d → (scan σ c).ends = σ.ends ∧ (c ≠ [] → (scan σ c).whole = false)) ∧
      (s.err = 0 → (G a s).2.err = 0 → ∀ σ : Sc, σ.deep = d → (scan σ c).ends = σ.ends + 1 ∧ (scan σ c).whole = true ∧ (scan σ c).deep = 0)) : E (Par.bnd F G) := by
  intro s hs
  obtain ⟨c1, h1⟩ := hF s hs
  obtain ⟨c2, g1, g2, g3, g4⟩ := hG (F s).1 (F s).2 (tk_rest hs h1.eq)
  refine ⟨c1 ++ c2, by rw [h1.eq, g1, List.append_assoc]; rfl, fun he => ?_, fun he hn σ hσ => ?_, fun he hn σ hσ => ?_⟩
  · have k1 := h1.bad he
    have k2 := g2 k1.1
    refine ⟨k2.1, fun x hx => ?_⟩
    rcases List.mem_append.1 hx with hx | hx
    · exact k1.2 x hx
    · exact k2.2 x hx
  · obtain ⟨a1, a2, a3⟩ := h1.good he σ hσ
    rw [scan_app]
    by_cases hf : (F s).2.err = 0
    · obtain ⟨b1, b2⟩ := g3 hf hn _ (a3 hf)
      refine ⟨b1.trans a1, fun hc => ?_⟩
      by_cases hc2 : c2 = []
      · subst hc2
        exact a2 (by simpa using hc)
      · exact b2 hc2
    · obtain ⟨k1, k2⟩ := g2 hf
      obtain ⟨b1, b2, b3⟩ := scan_flat c2 (scan σ c1) k2
      refine ⟨b1.trans a1, fun hc => ?_⟩
      by_cases hc2 : c2 = []
      · subst hc2
        exact a2 (by simpa using hc)
      · exact b3 hc2
  · have hf : (F s).2.err = 0 := Classical.byContradiction fun c => (g2 c).1 hn
    obtain ⟨a1, a2, a3⟩ := h1.good he σ hσ
    rw [scan_app]
    obtain ⟨b1, b2, b3⟩ := g4 hf hn _ (a3 hf)
    exact ⟨by rw [b1, a1], b2, b3⟩
theorem Q.thenE {F : St → α × St} {G : α → St → β × St} (hF : Q 0 0 F) (hG : ∀ a, E (G a)) : E (Par.bnd F G) :=
  hF.bndE fun a s hs => by obtain ⟨c, h⟩ := hG a s hs; exact ⟨c, h.eq, h.bad, h.no, h.ok⟩
theorem Q.mp {d d' : Int} {F : St → α × St} (f : α → β) (h : Q d d' F) : Q d d' (mp f F) := h
theorem E.mp {F : St → α × St} (f : α → β) (h : E F) : E (mp f F) := h
theorem Q.ret (d : Int) (a : α) : Q d d (fun s => (a, s)) := fun s _ => ⟨[], rfl, fun h => ⟨h, fun x hx => by cases hx⟩, fun _ σ hσ => ⟨rfl, fun c => absurd rfl c, fun _ => hσ⟩⟩
theorem Q.ite {d d' : Int} {p : Prop} [Decidable p] {F G : St → α × St} (hF : p → Q d d' F) (hG : ¬ p → Q d d' G) : Q d d' (fun s => if p then F s else G s) := by
  by_cases hp : p
  · simp only [if_pos hp]; exact hF hp
  · simp only [if_neg hp]; exact hG hp
theorem E.ite {p : Prop} [Decidable p] {F G : St → α × St} (hF : p → E F) (hG : ¬ p → E G) : E (fun s => if p then F s else G s) := by
  by_cases hp : p
  · simp only [if_pos hp]; exact hF hp
  · simp only [if_neg hp]; exact hG hp
theorem Q.iteErr {d : Int} {p : Prop} [Decidable p] {a : α} {F : St → α × St} (hF : ¬ p → Q d d F) : Q d d (fun s => if p ∨ s.err ≠ 0 then (a, s) else F s) := by
  intro s hs
  by_cases hp : p ∨ s.err ≠ 0
  · simp only [if_pos hp]; exact Q.ret d a s hs
  · simp only [if_neg hp]; exact hF (fun c => hp (.inl c)) s hs
theorem fail_rest (e : Int) (t : Tok) (s : St) : (fail e t s).rest = s.rest := by unfold fail; split <;> rfl
theorem fail_q (d d' : Int) (e : α) : Q d d' (fun s => (e, fail 4 (peek s) s)) := fun s _ =>
  ⟨[], by rw [fail_rest]; rfl, fun _ => ⟨fail_err 4 _ _ (by decide), fun x hx => by cases hx⟩, fun _ σ hσ => ⟨rfl, fun c => absurd rfl c, fun c => absurd c (fail_err 4 _ _ (by decide))⟩⟩
/-- what is eaten -/
theorem eaten_rest {w : ByteArray} {s : St} (h : (P.eat w s).1 = true) : s.err = 0 ∧ (P.eat w s).2.err = 0 ∧ ∃ x, x.text = w ∧ s.rest = x :: (P.eat w s).2.rest := by
  unfold P.eat at h ⊢
  split
  · rename_i hc
    have hk := on_kind hc.2
    have ht : (peek s).text = w := by
      have := hc.2
      unfold on at this
      rw [Bool.and_eq_true] at this
      exact text_eq this.2
    refine ⟨hc.1, (next_err s).1.trans hc.1, peek s, ht, ?_⟩
    show s.rest = peek s :: (P.next s).rest
    rw [next_drop hk]
    cases hr : s.rest with
    | nil => unfold peek at hk; rw [hr] at hk; exact absurd rfl hk
    | cons a b => unfold peek drop1; rw [hr]; rfl
  · rename_i hc; rw [if_neg hc] at h; cases h
def FlW (w : ByteArray) : Prop := w ≠ wSemi ∧ w ≠ wOpen ∧ w ≠ wClose
theorem q_eat (d : Int) {w : ByteArray} (hw : FlW w) : Q d d (P.eat w) := by
  intro s hs
  by_cases hc : (P.eat w s).1 = true
  · obtain ⟨h0, h1, x, hx, hr⟩ := eaten_rest hc
    have hf : ∀ y ∈ [x], Fl y := fun y hy => by
      obtain rfl := List.mem_singleton.1 hy
      unfold Fl; rw [hx]; exact hw
    refine ⟨[x], hr, fun c => absurd h0 c, fun _ σ hσ => ?_⟩
    obtain ⟨b1, b2, b3⟩ := scan_flat [x] σ hf
    exact ⟨b1, b3, fun _ => b2.trans hσ⟩
  · rw [eat_no (by simpa using hc)]
    exact Q.ret d (0 : Int) s hs
/-- a word that must come, told by what it does -/
theorem must_word (w : ByteArray) (s : St) : ∃ c, s.rest = c ++ (P.must [w] s).rest ∧ (s.err ≠ 0 → (P.must [w] s).err ≠ 0 ∧ c = []) ∧ ((P.must [w] s).err ≠ 0 → c = []) ∧ (s.err = 0 → (P.must [w] s).err = 0 → ∃ x, c = [x] ∧ x.text = w) := by
  have h : P.must [w] s = if (P.eat w s).1 = true then (P.eat w s).2 else fail 4 (peek s) (P.eat w s).2 := rfl
  by_cases hc : (P.eat w s).1 = true
  · obtain ⟨h0, h1, x, hx, hr⟩ := eaten_rest hc
    rw [h, if_pos hc]
    exact ⟨[x], hr, fun c => absurd h0 c, fun c => absurd h1 c, fun _ _ => ⟨x, rfl, hx⟩⟩
  · rw [h, if_neg hc, eat_no (by simpa using hc)]
    have hb := fail_err 4 (peek s) s (by decide)
    exact ⟨[], by rw [fail_rest]; rfl, fun _ => ⟨hb, rfl⟩, fun _ => rfl, fun _ c => absurd c hb⟩
theorem q_must {d d' : Int} (w : ByteArray) (hw : ∀ (σ : Sc) (x : Tok), σ.deep = d → x.text = w → (stp σ x).ends = σ.ends ∧ (stp σ x).whole = false ∧ (stp σ x).deep = d') : Q d d' (un (P.must [w])) := by
  intro s hs
  obtain ⟨c, h1, h2, h3, h4⟩ := must_word w s
  refine ⟨c, h1, fun he => ⟨(h2 he).1, fun x hx => by rw [(h2 he).2] at hx; cases hx⟩, fun he σ hσ => ?_⟩
  by_cases hf : (P.must [w] s).err = 0
  · obtain ⟨x, rfl, hx⟩ := h4 he hf
    obtain ⟨b1, b2, b3⟩ := hw σ x hσ hx
    exact ⟨b1, fun _ => b2, fun _ => b3⟩
  · rw [h3 hf]
    exact ⟨rfl, fun c => absurd rfl c, fun c => absurd c hf⟩
theorem q_word (d : Int) {w : ByteArray} (hw : FlW w) : Q d d (un (P.must [w])) := q_must w fun σ x hσ hx => by
  rw [stp_flat σ (by unfold Fl; rw [hx]; exact hw)]; exact ⟨rfl, rfl, hσ⟩
theorem open_ne : wOpen ≠ wClose ∧ wOpen ≠ wSemi ∧ wSemi ≠ wClose := ⟨by decide, by decide, by decide⟩
theorem q_semi {d : Int} (hd : d ≠ 0) : Q d d (un (P.must [wSemi])) := q_must wSemi fun σ x hσ hx => by
  have h1 := open_ne
  simp [stp, hx, h1.2.1.symm, h1.2.2, hσ, hd]
theorem q_open {d : Int} (hd : d + 1 ≠ 0) : Q d (d + 1) (un (P.must [wOpen])) := q_must wOpen fun σ x hσ hx => by
  have h1 := open_ne
  simp [stp, hx, h1.1, h1.2.1, hσ]
theorem q_close {d : Int} (hd : d - 1 ≠ 0) : Q d (d - 1) (un (P.must [wClose])) := q_must wClose fun σ x hσ hx => by
  have h1 := open_ne
  simp [stp, hx, h1.1.symm, hσ, hd]
/-- the word with which an item ends -/
theorem e_last {d : Int} {F : St → α × St} (f : α → β) (w : ByteArray) (hF : Q 0 d F) (hw : ∀ (σ : Sc) (x : Tok), σ.deep = d → x.text = w → stp σ x = ⟨0, σ.ends + 1, true⟩) : E (bnd F fun a => mp (fun _ => f a) (un (P.must [w]))) := by
  refine hF.bndE fun a s hs => ?_
  obtain ⟨c, h1, h2, h3, h4⟩ := must_word w s
  refine ⟨c, h1, fun he => ⟨(h2 he).1, fun x hx => by rw [(h2 he).2] at hx; cases hx⟩, fun he hf σ hσ => ?_, fun he hf σ hσ => ?_⟩
  · rw [h3 hf]
    exact ⟨rfl, fun c => absurd rfl c⟩
  · obtain ⟨x, rfl, hx⟩ := h4 he hf
    have h5 : scan σ [x] = _ := hw σ x hσ hx
    rw [h5]
    exact ⟨rfl, rfl, rfl⟩
theorem semi_last (σ : Sc) (x : Tok) (hσ : σ.deep = 0) (hx : x.text = wSemi) : stp σ x = ⟨0, σ.ends + 1, true⟩ := by
  have h1 := open_ne
  simp [stp, hx, h1.2.1.symm, h1.2.2, hσ]
theorem close_last (σ : Sc) (x : Tok) (hσ : σ.deep = 1) (hx : x.text = wClose) : stp σ x = ⟨0, σ.ends + 1, true⟩ := by
  have h1 := open_ne
  simp [stp, hx, h1.1.symm, hσ]
theorem q_must2 {d d' d'' : Int} {w v : ByteArray} (h1 : Q d d' (un (P.must [w]))) (h2 : Q d' d'' (un (P.must [v]))) : Q d d'' (un (P.must [w, v])) := by
  have h : un (P.must [w, v]) = Par.bnd (un (P.must [w])) (fun _ => un (P.must [v])) := must2_eq w v
  rw [h]
  exact h1.bnd fun _ => h2
theorem q_kind (d k : Int) (hk : k = 1 ∨ k = 3 ∨ k = 4) : Q d d (P.kind k) := by
  intro s hs
  unfold P.kind
  by_cases hc : (peek s).kind = k
  · rw [if_pos hc]
    have h0 : (peek s).kind ≠ 0 := by omega
    have hr : s.rest = peek s :: (drop1 s).rest := by
      cases hr : s.rest with
      | nil => unfold peek at h0; rw [hr] at h0; exact absurd rfl h0
      | cons a b => unfold peek drop1; rw [hr]; rfl
    have hf : ∀ y ∈ [peek s], Fl y := fun y hy => by
      obtain rfl := List.mem_singleton.1 hy
      exact hs (peek s) (by rw [hr]; simp) (by rw [hc]; exact hk)
    have hn := (next_err s).1
    refine ⟨[peek s], by show s.rest = [peek s] ++ (P.next s).rest; rw [next_drop h0]; exact hr, fun he => ⟨by show (P.next s).err ≠ 0; rw [hn]; exact he, hf⟩, fun he σ hσ => ?_⟩
    obtain ⟨b1, b2, b3⟩ := scan_flat [peek s] σ hf
    exact ⟨b1, b3, fun _ => b2.trans hσ⟩
  · rw [if_neg hc]
    exact fail_q d d (⟨#[]⟩ : ByteArray) s hs
variable (dp : ByteArray → Day) (np : ByteArray → Int → Int → Int × Int)
theorem number_rest (a b : Int) (s : St) : (P.number np a b s).2.rest = (P.kind 3 s).2.rest ∧ ((P.number np a b s).2.err = 0 → (P.kind 3 s).2.err = 0) ∧ ((P.kind 3 s).2.err ≠ 0 → (P.number np a b s).2.err ≠ 0) := by
  unfold P.number
  simp only
  by_cases h : (P.kind 3 s).2.err = 0
  · rw [if_pos h]
    simp only
    refine ⟨?_, fun _ => h, fun c => absurd h c⟩
    split
    · exact fail_rest _ _ _
    · split
      · exact fail_rest _ _ _
      · rfl
  · rw [if_neg h]
    exact ⟨rfl, fun c => c, fun c => c⟩
theorem q_number (d a b : Int) : Q d d (P.number np a b) := by
  intro s hs
  obtain ⟨c, h⟩ := q_kind d 3 (.inr (.inl rfl)) s hs
  obtain ⟨n1, n2, n3⟩ := number_rest np a b s
  exact ⟨c, by rw [n1]; exact h.eq, fun he => ⟨n3 (h.bad he).1, (h.bad he).2⟩, fun he σ hσ => ⟨(h.good he σ hσ).1, (h.good he σ hσ).2.1, fun c => (h.good he σ hσ).2.2 (n2 c)⟩⟩
theorem q_day (d : Int) : Q d d (P.day dp) := q_kind d 4 (.inr (.inr rfl))
theorem q_one (d : Int) : ∀ (l : List ByteArray) (i : Int), (∀ w ∈ l, FlW w) → Q d d (P.one l i)
  | [], i, _ => Q.ret d (-1)
  | w :: ws, i, h => (q_eat d (h w (by simp))).bnd (G := fun a s => if a = true then (i, s) else P.one ws (i + 1) s) fun a => Q.ite (fun _ => Q.ret d i) (fun _ => q_one d ws (i + 1) fun v hv => h v (by simp [hv]))
theorem q_mode (d : Int) : Q d d P.mode :=
  (q_one d [wFloor, wCeil, wHalfup, wHalfeven] 0 (by unfold FlW; decide)).bnd (G := fun o s => if o < 0 then (0, fail 4 (peek s) s) else (o, s)) fun o => Q.ite (fun _ => fail_q d d 0) (fun _ => Q.ret d o)
theorem q_window (d : Int) : Q d d (P.window dp) :=
  (q_eat d (w := wFrom) (by unfold FlW; decide)).bnd (G := fun a s => if a = true then bnd (P.day dp) (fun f => bnd (un (P.must [wTo])) (fun _ => mp (fun t => (⟨true, f, t⟩ : Win)) (P.day dp))) s else (noWin, s)) fun a =>
    Q.ite (fun _ => (q_day dp d).bnd fun f => (q_word d (w := wTo) (by unfold FlW; decide)).bnd fun _ => (q_day dp d).mp _) (fun _ => Q.ret d noWin)
theorem q_opt {d : Int} (hd : d ≠ 0) {w : ByteArray} (hw : FlW w) (x : Int) : Q d d (P.opt np w x) :=
  (q_eat d hw).bnd (G := fun a s => if a = true then bnd (P.number np 0 1000000) (fun x => mp (fun _ => x) (un (P.must [wSemi]))) s else (x, s)) fun a =>
    Q.ite (fun _ => (q_number np d 0 1000000).bnd fun x => (q_semi hd).mp _) (fun _ => Q.ret d x)
theorem q_ckind (d : Int) : Q d d P.ckind :=
  (q_eat d (w := wVolume) (by unfold FlW; decide)).bnd (G := fun a s => if a = true then ((2 : Int), s) else mp (fun _ => (1 : Int)) (un (P.must [wGraduated])) s) fun a =>
    Q.ite (fun _ => Q.ret d 2) (fun _ => (q_word d (w := wGraduated) (by unfold FlW; decide)).mp _)
theorem q_tierLoop : ∀ (f : Nat) (acc : List Tier), Q 2 2 (P.tierLoop np f acc)
  | 0, acc => Q.ret 2 acc
  | f + 1, acc => (q_eat 2 (w := wUpto) (by unfold FlW; decide)).bnd (G := fun a s => if a = true then bnd (P.number np 0 1000000) (fun x => bnd (un (P.must [wRate])) (fun _ => bnd (P.number np 6 1000000000000) (fun y => bnd (un (P.must [wSemi])) (fun _ => P.tierLoop np f (acc ++ [(⟨x, y⟩ : Tier)]))))) s else (acc, s)) fun a =>
    Q.ite (fun _ => (q_number np 2 0 1000000).bnd fun x => (q_word 2 (w := wRate) (by unfold FlW; decide)).bnd fun _ => (q_number np 2 6 1000000000000).bnd fun y => (q_semi (by decide)).bnd fun _ => q_tierLoop f _) (fun _ => Q.ret 2 acc)
theorem q_tierAll (acc : List Tier) : Q 2 2 (P.tierAll np acc) := fun s hs => q_tierLoop np (len s) acc s hs
theorem q_tiers : Q 1 1 (P.tiers np) :=
  (q_open (d := 1) (by decide)).bnd (G := fun _ => bnd (P.tierAll np []) (fun l => bnd (un (P.must [wRest, wRate])) (fun _ => bnd (P.number np 6 1000000000000) (fun r => mp (fun _ => l ++ [(⟨0, r⟩ : Tier)]) (un (P.must [wSemi, wClose])))))) fun _ =>
    (q_tierAll np []).bnd fun l => (q_must2 (q_word 2 (w := wRest) (by unfold FlW; decide)) (q_word 2 (w := wRate) (by unfold FlW; decide))).bnd fun _ => (q_number np 2 6 1000000000000).bnd fun r => (q_must2 (q_semi (by decide)) (q_close (d := 2) (by decide))).mp _
theorem q_adjBody (k : Int) : Q 1 1 (P.adjBody np k) := by
  have h : P.adjBody np k = fun s => if k = 1 then bnd (P.number np 3 100000000) (fun n => bnd P.mode (fun m => mp (fun _ => (⟨1, n, m⟩ : Adj)) (un (P.must [wSemi])))) s else bnd (P.number np 0 1000000000000) (fun n => mp (fun _ => (⟨k, n, 0⟩ : Adj)) (un (P.must [wSemi]))) s := rfl
  rw [h]
  exact Q.ite (fun _ => (q_number np 1 3 100000000).bnd fun n => (q_mode 1).bnd fun m => (q_semi (by decide)).mp _) (fun _ => (q_number np 1 0 1000000000000).bnd fun n => (q_semi (by decide)).mp _)
theorem q_adjust : Q 1 1 (P.adjust np) :=
  (q_one 1 [wPercent, wCap, wMinimum, wAdd] 1 (by unfold FlW; decide)).bnd (G := fun o s => if o < 0 then (((⟨0, 0, 0⟩ : Adj), false), s) else mp (fun b => (b, true)) (P.adjBody np o) s) fun o =>
    Q.ite (fun _ => Q.ret 1 _) (fun _ => (q_adjBody np o).mp _)
theorem q_adjLoop : ∀ (f : Nat) (acc : List Adj), Q 1 1 (P.adjLoop np f acc)
  | 0, acc => Q.ret 1 acc
  | f + 1, acc => (q_adjust np).bnd (G := fun a s => if a.2 = false ∨ s.err ≠ 0 then (acc, s) else P.adjLoop np f (acc ++ [a.1]) s) fun a => Q.iteErr (fun _ => q_adjLoop f _)
theorem q_adjAll (acc : List Adj) : Q 1 1 (P.adjAll np acc) := fun s hs => q_adjLoop np (len s) acc s hs
/-- a charge but for its last brace -/
def chgB : St → Chg × St :=
  bnd (P.kind 1) fun n => bnd (P.window dp) fun w => bnd (un (P.must [wOpen])) fun _ => bnd (P.opt np wAllowance 0) fun a => bnd (P.opt np wBlock 1) fun b => bnd P.ckind fun k => bnd (P.tiers np) fun t =>
      bnd (un (P.must [wRound])) fun _ => bnd P.mode fun m => bnd (un (P.must [wSemi])) fun _ => mp (fun d => (⟨n, w, a, b, k, t, m, d, 0, 0⟩ : Chg)) (P.adjAll np [])
theorem q_chgB : Q 0 1 (chgB dp np) :=
  (q_kind 0 1 (.inl rfl)).bnd fun n => (q_window dp 0).bnd fun w => (q_open (d := 0) (by decide)).bnd fun _ => (q_opt np (by decide) (w := wAllowance) (by unfold FlW; decide) 0).bnd fun a => (q_opt np (by decide) (w := wBlock) (by unfold FlW; decide) 1).bnd fun b => (q_ckind 1).bnd fun k => (q_tiers np).bnd fun t =>
      (q_word 1 (w := wRound) (by unfold FlW; decide)).bnd fun _ => (q_mode 1).bnd fun m => (q_semi (by decide)).bnd fun _ => (q_adjAll np []).mp _
theorem e_charge : E (P.charge dp np 0 0) := e_last (fun c : Chg => c) wClose (q_chgB dp np) close_last
def metB : St → Met × St :=
  bnd (P.kind 1) fun n => bnd (un (P.must [wUnit])) fun _ => bnd (P.kind 1) fun x => bnd (un (P.must [wMax])) fun _ => mp (fun m => (⟨n, x, m, 0, 0⟩ : Met)) (P.number np 0 2000)
theorem e_meter : E (P.meter np 0 0) :=
  e_last (F := metB np) (fun c : Met => c) wSemi ((q_kind 0 1 (.inl rfl)).bnd fun n => (q_word 0 (w := wUnit) (by unfold FlW; decide)).bnd fun _ => (q_kind 0 1 (.inl rfl)).bnd fun x => (q_word 0 (w := wMax) (by unfold FlW; decide)).bnd fun _ => (q_number np 0 0 2000).mp _) semi_last
def feeB : St → Fee × St := bnd (P.number np 0 1000000000000) fun x => mp (fun w => (⟨x, w, 0, 0⟩ : Fee)) (P.window dp)
theorem e_fee : E (P.fee dp np 0 0) :=
  e_last (F := feeB dp np) (fun c : Fee => c) wSemi ((q_number np 0 0 1000000000000).bnd fun x => (q_window dp 0).mp _) semi_last
theorem e_itm : E (itm dp np) :=
  (q_one 0 [wMeter, wFee, wCharge] 0 (by unfold FlW; decide)).thenE fun o => E.ite (fun _ => (e_meter np).mp _) fun _ => E.ite (fun _ => (e_fee dp np).mp _) fun _ => E.ite (fun _ => (e_charge dp np).mp _)
    fun _ => e_last (F := fun s => ((), fail 4 (peek s) s)) (fun _ => Thing.none) wSemi (fail_q 0 0 ()) semi_last
/-- the head's two lines -/
def hd1 : St → (ByteArray × ByteArray) × St :=
  bnd (un (P.must [wPlan])) fun _ => bnd (P.kind 1) fun n => bnd (un (P.must [wCurrency])) fun _ => mp (fun c => (n, c)) (P.kind 1)
def hd2 (x : ByteArray × ByteArray) : St → Plan × St :=
  bnd (un (P.must [wHorizon])) fun _ => bnd (P.day dp) fun f => mp (fun t => (⟨x.1, x.2, f, t, [], [], [], 0, 0⟩ : Plan)) (P.day dp)
def hdA : St → (ByteArray × ByteArray) × St := bnd hd1 fun x => mp (fun _ => x) (un (P.must [wSemi]))
def hdB (x : ByteArray × ByteArray) : St → Plan × St := bnd (hd2 dp x) fun p => mp (fun _ => p) (un (P.must [wSemi]))
theorem e_hdA : E hdA :=
  e_last (F := hd1) (fun x => x) wSemi ((q_word 0 (w := wPlan) (by unfold FlW; decide)).bnd fun _ => (q_kind 0 1 (.inl rfl)).bnd fun n => (q_word 0 (w := wCurrency) (by unfold FlW; decide)).bnd fun _ => (q_kind 0 1 (.inl rfl)).mp _) semi_last
theorem e_hdB (x : ByteArray × ByteArray) : E (hdB dp x) :=
  e_last (F := hd2 dp x) (fun x => x) wSemi ((q_word 0 (w := wHorizon) (by unfold FlW; decide)).bnd fun _ => (q_day dp 0).bnd fun f => (q_day dp 0).mp _) semi_last
theorem hd_two : hd dp = bnd hdA (hdB dp) := by
  funext s
  have h := must2_eq wSemi wHorizon
  unfold hd hdA hdB hd1 hd2
  rw [h]
  rfl
/-- the items, counted -/
theorem scan_items : ∀ (n : Nat) (s : St) (p : Plan) (σ : Sc), len s ≤ n → s.err = 0 → (∀ x ∈ s.rest, Tk x) → σ.deep = 0 → σ.whole = true → 2 ≤ σ.ends →
    ∃ c, s.rest = c ++ (P.itemsAll dp np p s).2.rest ∧ ((P.itemsAll dp np p s).2.err = 0 → (scan σ c).whole = true ∧ 2 ≤ (scan σ c).ends) ∧ ((P.itemsAll dp np p s).2.err ≠ 0 → (scan σ c).whole = false ∨ (peek (P.itemsAll dp np p s).2).kind ≠ 0) := by
  intro n
  induction n with
  | zero =>
    intro s p σ hn h0 ht hd hw he
    have hk : (peek s).kind = 0 := by
      unfold len at hn
      unfold peek
      rw [List.length_eq_zero_iff.1 (Nat.le_zero.1 hn)]; rfl
    rw [itemsAll_end dp np (.inr hk)]
    exact ⟨[], rfl, fun _ => ⟨hw, he⟩, fun c => absurd h0 c⟩
  | succ n ih =>
    intro s p σ hn h0 ht hd hw he
    by_cases hk : (peek s).kind = 0
    · rw [itemsAll_end dp np (.inr hk)]
      exact ⟨[], rfl, fun _ => ⟨hw, he⟩, fun c => absurd h0 c⟩
    · rw [itemsAll_itm dp np h0 hk]
      obtain ⟨c1, h1⟩ := e_itm dp np s ht
      by_cases h2 : (itm dp np s).2.err = 0
      · obtain ⟨a1, a2, a3⟩ := h1.ok h0 h2 σ hd
        have hl := itm_round dp np h2
        obtain ⟨c2, b1, b2, b3⟩ := ih (itm dp np s).2 (put p (peek s).line (peek s).col (itm dp np s).1) (scan σ c1) (by omega) h2 (tk_rest ht h1.eq) a3 a2 (by omega)
        refine ⟨c1 ++ c2, by rw [h1.eq, List.append_assoc, ← b1], ?_, ?_⟩
        · rw [scan_app]; exact b2
        · rw [scan_app]; exact b3
      · rw [itemsAll_end dp np (.inl h2)]
        refine ⟨c1, h1.eq, fun c => absurd c h2, fun _ => ?_⟩
        by_cases hc : c1 = []
        · right
          have := h1.eq
          rw [hc, List.nil_append] at this
          show (peek (itm dp np s).2).kind ≠ 0
          unfold peek at hk ⊢
          rw [← this]; exact hk
        · exact .inl ((h1.no h0 h2 σ hd).2 hc)
theorem scan_plan {l : List Tok} {e : Tok} (he : e.kind = 0) (ht : ∀ x ∈ l, Tk x) (hr : (P.plan dp np (l ++ [e])).2.rest = [e]) :
    ((P.plan dp np (l ++ [e])).2.err = 0 → (scan ⟨0, 0, false⟩ l).whole = true ∧ 2 ≤ (scan ⟨0, 0, false⟩ l).ends) ∧ ((P.plan dp np (l ++ [e])).2.err ≠ 0 → ¬ ((scan ⟨0, 0, false⟩ l).whole = true ∧ 2 ≤ (scan ⟨0, 0, false⟩ l).ends)) := by
  have ht' : ∀ x ∈ l ++ [e], Tk x := fun x hx => by
    rcases List.mem_append.1 hx with hx | hx
    · exact ht x hx
    · obtain rfl := List.mem_singleton.1 hx
      intro h; rw [he] at h; rcases h with h | h | h <;> cases h
  obtain ⟨p0, hp0⟩ : ∃ p0, P.plan dp np (l ++ [e]) = P.itemsAll dp np p0 (hd dp ⟨l ++ [e], 0, 0, 0⟩).2 := ⟨_, plan_hd dp np _⟩
  rw [hp0] at hr ⊢
  rw [hd_two] at hr ⊢
  obtain ⟨c1, h1⟩ := e_hdA ⟨l ++ [e], 0, 0, 0⟩ ht'
  obtain ⟨c2, h2⟩ := e_hdB dp (hdA ⟨l ++ [e], 0, 0, 0⟩).1 (hdA ⟨l ++ [e], 0, 0, 0⟩).2 (tk_rest (s := ⟨l ++ [e], 0, 0, 0⟩) ht' h1.eq)
  have hb : bnd hdA (hdB dp) ⟨l ++ [e], 0, 0, 0⟩ = hdB dp (hdA ⟨l ++ [e], 0, 0, 0⟩).1 (hdA ⟨l ++ [e], 0, 0, 0⟩).2 := rfl
  rw [hb] at hr ⊢
  generalize hA : hdA ⟨l ++ [e], 0, 0, 0⟩ = A at *
  generalize hB : hdB dp A.1 A.2 = B at *
  have q1 : l ++ [e] = c1 ++ A.2.rest := h1.eq
  have q2 : A.2.rest = c2 ++ B.2.rest := h2.eq
  by_cases hBe : B.2.err = 0
  · have hAe : A.2.err = 0 := Classical.byContradiction fun c => (h2.bad c).1 hBe
    obtain ⟨a1, a2, a3⟩ := h1.ok rfl hAe ⟨0, 0, false⟩ rfl
    obtain ⟨b1, b2, b3⟩ := h2.ok hAe hBe _ a3
    obtain ⟨c3, k1, k2, k3⟩ := scan_items dp np _ B.2 p0 _ (Nat.le_refl _) hBe (tk_rest (tk_rest (s := ⟨l ++ [e], 0, 0, 0⟩) ht' h1.eq) h2.eq) b3 b2 (by rw [b1, a1]; decide)
    rw [hr] at k1
    have hl : l = c1 ++ c2 ++ c3 := by
      rw [q2, k1, ← List.append_assoc, ← List.append_assoc] at q1
      exact (List.append_inj' q1 rfl).1
    rw [hl, scan_app, scan_app]
    refine ⟨k2, fun hn => ?_⟩
    rcases k3 hn with h | h
    · rw [h]; exact fun c => by cases c.1
    · unfold peek at h; rw [hr] at h; exact absurd he h
  · rw [itemsAll_end dp np (.inl hBe)] at hr ⊢
    have hr' : B.2.rest = [e] := hr
    have hl : l = c1 ++ c2 := by
      rw [q2, hr', ← List.append_assoc] at q1
      exact (List.append_inj' q1 rfl).1
    refine ⟨fun c => absurd c hBe, fun _ => ?_⟩
    rw [hl, scan_app]
    by_cases hAe : A.2.err = 0
    · obtain ⟨a1, a2, a3⟩ := h1.ok rfl hAe ⟨0, 0, false⟩ rfl
      obtain ⟨b1, b2⟩ := h2.no hAe hBe _ a3
      rw [b1, a1]
      exact fun c => absurd c.2 (by decide)
    · obtain ⟨k1, k2⟩ := h2.bad hAe
      obtain ⟨a1, a2⟩ := h1.no rfl hAe ⟨0, 0, false⟩ rfl
      rw [(scan_flat c2 _ k2).1, a1]
      exact fun c => absurd c.2 (by decide)
end
end Go.Proofs.YtcgkfgklggjmaaaDoor.Par
end
section
namespace Go.Proofs.YtcgkfgklggjmaaaDoor.Par
set_option linter.unusedVariables false
set_option linter.unusedSimpArgs false
/-! the plan of one fee whose amount is a number's digits -/
def nPre : List UInt8 := [112, 108, 97, 110, 32, 112, 32, 99, 117, 114, 114, 101, 110, 99, 121, 32, 99, 59, 32, 104, 111, 114, 105, 122, 111, 110, 32, 50, 48, 50, 52, 45, 48, 49, 45, 48, 49, 32, 50, 48, 50, 52, 45, 48, 49, 45, 48, 50, 59]
def nUs : List Tok := [⟨2, ⟨#[112, 108, 97, 110]⟩, 1, 1⟩, ⟨1, ⟨#[112]⟩, 1, 6⟩, ⟨2, ⟨#[99, 117, 114, 114, 101, 110, 99, 121]⟩, 1, 8⟩, ⟨1, ⟨#[99]⟩, 1, 17⟩, ⟨5, ⟨#[59]⟩, 1, 18⟩, ⟨2, ⟨#[104, 111, 114, 105, 122, 111, 110]⟩, 1, 20⟩, ⟨4, ⟨#[50, 48, 50, 52, 45, 48, 49, 45, 48, 49]⟩, 1, 28⟩, ⟨4, ⟨#[50, 48, 50, 52, 45, 48, 49, 45, 48, 50]⟩, 1, 39⟩, ⟨5, ⟨#[59]⟩, 1, 49⟩]
def nToks (T : ByteArray) (c1 c2 : Int) : List Tok := nUs ++ [⟨2, ⟨#[102, 101, 101]⟩, 2, 1⟩, ⟨3, T, 2, 5⟩, ⟨5, ⟨#[59]⟩, 2, c1⟩, ⟨0, ⟨#[]⟩, 2, c2⟩]
def nPlan (v : Int) : Plan := ⟨⟨#[112]⟩, ⟨#[99]⟩, (2024, 1, 1), (2024, 1, 2), [], [⟨v, noWin, 2, 1⟩], [], 1, 1⟩
def nHead : Plan := ⟨⟨#[112]⟩, ⟨#[99]⟩, (2024, 1, 1), (2024, 1, 2), [], [], [], 1, 1⟩
def nS1 (T : ByteArray) (c1 c2 : Int) : St := ⟨[⟨2, ⟨#[102, 101, 101]⟩, 2, 1⟩, ⟨3, T, 2, 5⟩, ⟨5, ⟨#[59]⟩, 2, c1⟩, ⟨0, ⟨#[]⟩, 2, c2⟩], 0, 0, 0⟩
def nS2 (T : ByteArray) (c1 c2 : Int) : St := ⟨[⟨3, T, 2, 5⟩, ⟨5, ⟨#[59]⟩, 2, c1⟩, ⟨0, ⟨#[]⟩, 2, c2⟩], 0, 0, 0⟩
def nS3 (c1 c2 : Int) : St := ⟨[⟨5, ⟨#[59]⟩, 2, c1⟩, ⟨0, ⟨#[]⟩, 2, c2⟩], 0, 0, 0⟩
theorem nplan_items (T : ByteArray) (c1 c2 : Int) : P.plan dp npV (nToks T c1 c2) = P.items dp npV 3 (P.item dp npV nHead (nS1 T c1 c2)).1 (P.item dp npV nHead (nS1 T c1 c2)).2 := by
  have e : P.head dp ⟨nToks T c1 c2, 0, 0, 0⟩ = (nHead, nS1 T c1 c2) := by kernel_rfl
  unfold P.plan
  rw [e]
  show P.items dp npV 4 nHead (nS1 T c1 c2) = _
  rw [P.items]
  rw [if_pos ⟨rfl, (by decide : (2 : Int) ≠ 0)⟩]
theorem nitem (T : ByteArray) (c1 c2 : Int) (x : Fee × St) (h : P.fee dp npV 2 1 (nS2 T c1 c2) = x) : P.item dp npV nHead (nS1 T c1 c2) = ({ nHead with fees := [x.1] }, x.2) := by
  have ho : P.one [wMeter, wFee, wCharge] 0 (nS1 T c1 c2) = (1, nS2 T c1 c2) := by kernel_rfl
  rw [P_item_fee ho rfl]
  subst h
  rfl
theorem nnumber (T : ByteArray) (c1 c2 : Int) : P.number npV 0 1000000000000 (nS2 T c1 c2) = ((npV T 0 1000000000000).1, if (npV T 0 1000000000000).2 = 1 then fail 4 ⟨3, T, 2, 5⟩ (nS3 c1 c2) else if (npV T 0 1000000000000).2 = 2 then fail 6 ⟨3, T, 2, 5⟩ (nS3 c1 c2) else nS3 c1 c2) := by
  have hk : P.kind 3 (nS2 T c1 c2) = (T, nS3 c1 c2) := by kernel_rfl
  unfold P.number
  simp only [hk]
  rfl
theorem nplan_ok (T : ByteArray) (c1 c2 v : Int) (h : npV T 0 1000000000000 = (v, 0)) : (P.plan dp npV (nToks T c1 c2)).1 = nPlan v ∧ (P.plan dp npV (nToks T c1 c2)).2.err = 0 := by
  have hn := nnumber T c1 c2
  rw [h] at hn
  have hf : P.fee dp npV 2 1 (nS2 T c1 c2) = (⟨v, noWin, 2, 1⟩, ⟨[⟨0, ⟨#[]⟩, 2, c2⟩], 0, 0, 0⟩) := by
    unfold P.fee
    rw [hn]
    kernel_rfl
  rw [nplan_items, nitem _ _ _ _ hf]
  exact ⟨by kernel_rfl, by kernel_rfl⟩
theorem nplan_no (T : ByteArray) (c1 c2 v : Int) (h : npV T 0 1000000000000 = (v, 2)) : ((P.plan dp npV (nToks T c1 c2)).2.err, (P.plan dp npV (nToks T c1 c2)).2.line, (P.plan dp npV (nToks T c1 c2)).2.col) = (6, 2, 5) := by
  have hn := nnumber T c1 c2
  rw [h] at hn
  have hf : P.fee dp npV 2 1 (nS2 T c1 c2) = (⟨v, noWin, 2, 1⟩, fail 6 ⟨3, T, 2, 5⟩ (nS3 c1 c2)) := by
    unfold P.fee
    rw [hn]
    kernel_rfl
  rw [nplan_items, nitem _ _ _ _ hf]
  rfl
theorem runLen_semi (cs r : List UInt8) (h : cs.all isLet = true) : runLen (cs ++ 59 :: r) = cs.length := by
  have h32 : isLet 59 = false := by decide
  induction cs with
  | nil => simp [runLen, h32]
  | cons x cs ih =>
    simp only [List.all_cons, Bool.and_eq_true] at h
    have := ih h.2
    simp only [runLen, List.cons_append, List.takeWhile_cons, h.1, if_true, List.length_cons] at this ⊢
    omega
theorem lex_semi (l r : List UInt8) (line col : Int) (h : kindOf l ≠ 0) (h1 : l ≠ [] ∧ l.all isLet = true) : lexL (l ++ 59 :: r) line col = consR ⟨kindOf l, ⟨l.toArray⟩, line, col⟩ (consR ⟨5, ⟨#[59]⟩, line, col + l.length⟩ (lexL r line (col + l.length + 1))) := by
  obtain ⟨c, cs, rfl, h35, h10, h3, ht⟩ : ∃ c cs, l = c :: cs ∧ c ≠ 35 ∧ c ≠ 10 ∧ ¬ (c = 32 ∨ c = 9 ∨ c = 13) ∧ tokLen c (cs ++ 59 :: r) = cs.length := by
    cases l with
    | nil => exact absurd rfl h1.1
    | cons c cs =>
      have h2 := h1.2
      simp only [List.all_cons, Bool.and_eq_true] at h2
      have hc := h2.1
      refine ⟨c, cs, rfl, ?_, ?_, ?_, ?_⟩
      · rintro rfl; revert hc; decide
      · rintro rfl; revert hc; decide
      · rintro (rfl | rfl | rfl) <;> revert hc <;> decide
      · rw [tokLen, if_pos hc, runLen_semi cs r h2.2]
  rw [List.cons_append, lexL, if_neg h35, if_neg h10, if_neg h3, ht, List.take_left', List.drop_left', if_neg h]
  · have hk : kindOf [59] = 5 := by kernel_rfl
    rw [List.length_cons, lexL, if_neg (by decide), if_neg (by decide), if_neg (by decide), show tokLen 59 r = 0 from rfl, List.take_zero, List.drop_zero, if_neg (by rw [hk]; decide), hk]
    rw [show col + 1 + (cs.length : Int) = col + ((cs.length + 1 : Nat) : Int) from by omega, show col + ((cs.length + 1 : Nat) : Int) + 1 + ((0 : Nat) : Int) = col + ((cs.length + 1 : Nat) : Int) + 1 from by omega]
  · rfl
  · rfl
theorem n_pre : lexL nPre 1 1 = .ok (nUs ++ [⟨0, ⟨#[]⟩, 1, 50⟩]) := by
  rw [← lexF_eq 100 nPre 1 1 (by decide)]
  kernel_rfl
theorem n_lex (l : List UInt8) (hk : kindOf l = 3) (hl : l ≠ [] ∧ l.all isLet = true) (hn : l.length ≤ 1000) : lexAll (nPre ++ 10 :: ([102, 101, 101] ++ 32 :: (l ++ [59]))) = (nToks ⟨l.toArray⟩ (5 + l.length) (5 + l.length + 1), 0, 0, 0) := by
  have hj := lexL_join ([102, 101, 101] ++ 32 :: (l ++ [59])) _ nPre 1 1 (Nat.le_refl _)
  rw [n_pre] at hj
  obtain ⟨us, e, h1, h2⟩ := hj
  obtain ⟨h3, h4⟩ := List.append_inj' h1 rfl
  obtain rfl := h3
  obtain rfl : (⟨0, ⟨#[]⟩, 1, 50⟩ : Tok) = e := by injection h4
  have hf : kindOf [102, 101, 101] = 2 := by kernel_rfl
  rw [lex_tok [102, 101, 101] _ _ _ (by rw [hf]; decide), lex_semi l [] _ _ (by rw [hk]; decide) hl, lexL, hk, hf] at h2
  unfold lexAll
  rw [if_neg (by simp [nPre]; omega), h2]
  rfl
theorem parse_digits (n : Nat) (hn : n < 9223372036854775808) : Dec.parseL (Lib.decDigits n) 0 1000000000000 = if 1000000000000 < n then (0, 2) else ((n : Int), 0) := by
  have h : Dec.fracL n 0 = [] := rfl
  have ht : Dec.textN n 0 = Lib.decDigits n := by rw [Dec.textN, Dec.tailL, if_pos h, List.append_nil, Nat.pow_zero, Nat.div_one]
  have hf := Dec.frac_fill n 0
  have hform := Dec.form_textN n 0
  have hv := Dec.val_text n 0
  rw [ht, if_pos h] at hform
  rw [h] at hf
  unfold Dec.parseL Dec.parseW
  rw [hform, Dec.cut_whole (Dec.dec_all _), if_neg (by simp), if_neg (by simp)]
  simp only [hf]
  rw [Nat.pow_zero, Nat.div_one] at hv
  rw [show Int.toNat 0 = 0 from rfl, hf, hv]
  by_cases hm : 1000000000000 < n
  · rw [if_pos (.inr (by omega)), if_pos hm]
  · rw [if_neg (by omega), if_neg hm]
theorem dec_let (n : Nat) : (Lib.decDigits n).all isLet = true := by
  have h := Dec.dec_all n
  rw [List.all_eq_true] at h ⊢
  intro x hx
  have := h x hx
  simp only [Dec.isDig, isDig, decide_eq_true_eq, Bool.and_eq_true] at this
  simp only [isLet, decide_eq_true_eq]
  omega
theorem kind_digits (n : Nat) : kindOf (Lib.decDigits n) = 3 := by
  have hne := Dec.dec_ne n
  have hd := Dec.dec_all n
  have hlead := Dec.lead_dec n
  rw [kind_let (dec_let n) hne]
  generalize Lib.decDigits n = l at *
  have hw : isWord l = false := by
    cases h : isWord l with
    | false => rfl
    | true =>
      have hm : l ∈ wordsL := by simpa [isWord] using h
      have ha : ∀ w ∈ wordsL, w.all Dec.isDig = false := by decide
      rw [ha l hm] at hd
      cases hd
  have hd' : l.all isDig = true := hd
  have hf : digFirst l = true := by
    cases l with
    | nil => exact absurd rfl hne
    | cons c cs =>
      simp only [List.all_cons, Bool.and_eq_true] at hd'
      exact hd'.1
  have hb : digitsB l = true := by
    unfold digitsB
    rw [hd']
    cases l with
    | nil => exact absurd rfl hne
    | cons c cs => rfl
  have hn : numForm l = 1 := by
    have hl : ¬ (1 < l.length ∧ l.getD 0 0 = 48) := by
      rintro ⟨a1, a2⟩
      cases l with
      | nil => exact absurd rfl hne
      | cons c cs =>
        obtain rfl : c = 48 := a2
        unfold Dec.leadB at hlead
        rw [decide_eq_true a1] at hlead
        cases hlead
    unfold numForm
    rw [Dec.cut_whole hd]
    simp only
    rw [if_neg (by rw [hb]; exact fun h => h.elim (fun h => by cases h) hl), if_pos trivial]
  rw [hw, hf, hn]
  simp
/-- what Parse says of the plan with one fee of an amount -/
theorem n_parse (n : Nat) (hn : n < 9223372036854775808) : RParse (nPre ++ 10 :: ([102, 101, 101] ++ 32 :: (Lib.decDigits n ++ [59]))) = if 1000000000000 < n then (noPlan, 6, 2, 5) else (nPlan n, 0, 0, 0) := by
  have hlen : (Lib.decDigits n).length ≤ 19 := Dec.dec_len n 19 (by omega) (by decide)
  have hlex := n_lex (Lib.decDigits n) (kind_digits n) ⟨Dec.dec_ne n, dec_let n⟩ (by omega)
  have hp : npV ⟨(Lib.decDigits n).toArray⟩ 0 1000000000000 = if 1000000000000 < n then (0, 2) else ((n : Int), 0) := parse_digits n hn
  by_cases hm : 1000000000000 < n
  · rw [if_pos hm] at hp ⊢
    have h := nplan_no ⟨(Lib.decDigits n).toArray⟩ (5 + (Lib.decDigits n).length) (5 + (Lib.decDigits n).length + 1) 0 hp
    simp only [Prod.mk.injEq] at h
    rw [PParse_bad hlex (by rw [h.1]; decide), h.1, h.2.1, h.2.2]
  · rw [if_neg hm] at hp ⊢
    have h := nplan_ok ⟨(Lib.decDigits n).toArray⟩ (5 + (Lib.decDigits n).length) (5 + (Lib.decDigits n).length + 1) n hp
    rw [PParse_ok hlex h.2, h.1]
end Go.Proofs.YtcgkfgklggjmaaaDoor.Par
end
