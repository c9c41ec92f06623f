import Derived.Test.YtcgkfgklggjmaaaDoorGg
import Derived.KernelRfl
section
namespace Go.Proofs.YtcgkfgklggjmaaaDoor.Par
set_option linter.unusedVariables false
set_option linter.unusedSimpArgs false
/-! what a parse does with the tokens that it takes hangs on no place, and on no token behind them -/
def Al (x y : Tok) : Prop := x.kind = y.kind ∧ x.text = y.text ∧ x.kind ≠ 0
def Als : List Tok → List Tok → Prop
  | [], [] => True
  | x :: l, y :: m => Al x y ∧ Als l m
  | _, _ => False
/-- how it ends: one side with the end e, the other one with t; cut: t is anything, else an end, too -/
structure Tl where
  cut : Bool
  e : Tok
  t : List Tok
/-- the tokens that are left are alike, and behind them each side ends -/
structure Loc (T : Tl) (s r : St) : Prop where
  err : s.err = 0
  err' : r.err = 0
  rest : ∃ l m, s.rest = l ++ [T.e] ∧ r.rest = m ++ T.t ∧ Als l m
/-- a fault, told at the end -/
def AtE (T : Tl) (s : St) : Prop := T.cut = true ∧ s.err = 4 ∧ s.line = T.e.line ∧ s.col = T.e.col ∧ s.rest = [T.e]
/-- a fault stays as it is -/
structure Kept (s s' : St) : Prop where
  err : s'.err = s.err
  line : s'.line = s.line
  col : s'.col = s.col
  rest : (peek s).kind = 0 → s'.rest = s.rest
/-- at the end -/
def End (T : Tl) (s : St) : Prop := T.cut = true ∧ s.err = 0 ∧ s.rest = [T.e]
def Tails (T : Tl) : Prop := T.e.kind = 0 ∧ (T.cut = false → ∃ x, T.t = [x] ∧ x.kind = 0)
def Out {α : Type} (T : Tl) (b : Bool) (x y : α × St) : Prop := AtE T x.2 ∨ (x.2.err ≠ 0 ∧ x.2.err = y.2.err) ∨ (b = true ∧ End T x.2) ∨ (x.1 = y.1 ∧ Loc T x.2 y.2)
structure Good (T : Tl) (b : Bool) {α : Type} (F : St → α × St) : Prop where
  K : ∀ s, s.err ≠ 0 → Kept s (F s).2
  E : ∀ s, End T s → AtE T (F s).2 ∨ (b = true ∧ End T (F s).2)
  L : ∀ s r, Loc T s r → Out T b (F s) (F r)
def bnd {α β : Type} (F : St → α × St) (G : α → St → β × St) (s : St) : β × St := G (F s).1 (F s).2
def mp {α β : Type} (f : α → β) (F : St → α × St) (s : St) : β × St := (f (F s).1, (F s).2)
def un (f : St → St) (s : St) : Unit × St := ((), f s)
theorem must2_eq (w v : ByteArray) : un (P.must [w, v]) = bnd (un (P.must [w])) (fun _ => un (P.must [v])) := by
  funext s
  show ((), P.must [w, v] s) = ((), P.must [v] (P.must [w] s))
  have e1 : P.must [w, v] s = if (P.eat w s).1 = true then P.must [v] (P.eat w s).2 else fail 4 (peek s) (P.eat w s).2 := rfl
  have e2 : P.must [w] s = if (P.eat w s).1 = true then (P.eat w s).2 else fail 4 (peek s) (P.eat w s).2 := rfl
  rw [e1, e2]
  by_cases hc : (P.eat w s).1 = true
  · rw [if_pos hc, if_pos hc]
  · rw [if_neg hc, if_neg hc]
    have hb : (fail 4 (peek s) (P.eat w s).2).err ≠ 0 := fail_err 4 _ _ (by decide)
    rw [P.must, eat_bad hb]
    simp only [Bool.false_eq_true, if_false]
    rw [fail_keep hb]
section
variable {T : Tl} {α β : Type}
theorem Kept.rfl' (s : St) : Kept s s := ⟨rfl, rfl, rfl, fun _ => rfl⟩
theorem Kept.trans {s s' s'' : St} (h : Kept s s') (k : Kept s' s'') : Kept s s'' := ⟨k.err.trans h.err, k.line.trans h.line, k.col.trans h.col, fun h0 => by
  have h1 := h.rest h0
  exact (k.rest (by unfold peek at h0 ⊢; rw [h1]; exact h0)).trans h1⟩
theorem AtE.keep {T : Tl} (he : T.e.kind = 0) {s s' : St} (h : AtE T s) (k : Kept s s') : AtE T s' :=
  ⟨h.1, k.err.trans h.2.1, k.line.trans h.2.2.1, k.col.trans h.2.2.2.1, (k.rest (by unfold peek; rw [h.2.2.2.2]; exact he)).trans h.2.2.2.2⟩
theorem AtE.bad {s : St} (h : AtE T s) : s.err ≠ 0 := by rw [h.2.1]; decide
theorem Good.bnd (he : T.e.kind = 0) {b c : Bool} {F : St → α × St} {G : α → St → β × St} (hF : Good T b F) (hG : ∀ a, Good T c (G a)) : Good T c (bnd F G) := by
  refine ⟨fun s h => ?_, fun s h => ?_, fun s r h => ?_⟩
  · have h1 := hF.K s h
    exact h1.trans ((hG (F s).1).K (F s).2 (by rw [h1.err]; exact h))
  · rcases hF.E s h with h1 | h1
    · exact .inl (h1.keep he ((hG (F s).1).K (F s).2 h1.bad))
    · exact (hG (F s).1).E (F s).2 h1.2
  · rcases hF.L s r h with h1 | h1 | h1 | h1
    · exact .inl (h1.keep he ((hG (F s).1).K (F s).2 h1.bad))
    · have h2 := (hG (F s).1).K (F s).2 h1.1
      have h3 := (hG (F r).1).K (F r).2 (h1.2 ▸ h1.1)
      exact .inr (.inl ⟨by show (G (F s).1 (F s).2).2.err ≠ 0; rw [h2.err]; exact h1.1, by show (G (F s).1 (F s).2).2.err = (G (F r).1 (F r).2).2.err; rw [h2.err, h3.err]; exact h1.2⟩)
    · rcases (hG (F s).1).E (F s).2 h1.2 with h2 | h2
      · exact .inl h2
      · exact .inr (.inr (.inl h2))
    · show Out T c (G (F s).1 (F s).2) (G (F r).1 (F r).2)
      rw [← h1.1]
      exact (hG (F s).1).L _ _ h1.2
theorem Good.mp {b : Bool} {F : St → α × St} (f : α → β) (hF : Good T b F) : Good T b (mp f F) := by
  refine ⟨hF.K, hF.E, fun s r h => ?_⟩
  rcases hF.L s r h with h1 | h1 | h1 | h1
  · exact .inl h1
  · exact .inr (.inl h1)
  · exact .inr (.inr (.inl h1))
  · exact .inr (.inr (.inr ⟨congrArg f h1.1, h1.2⟩))
theorem Good.ret (a : α) : Good T true (fun s => (a, s)) := ⟨fun s h => Kept.rfl' s, fun s h => .inr ⟨rfl, h⟩, fun s r h => .inr (.inr (.inr ⟨rfl, h⟩))⟩
theorem Good.up {b : Bool} {F : St → α × St} (hF : Good T b F) : Good T true F := by
  refine ⟨hF.K, fun s h => ?_, fun s r h => ?_⟩
  · rcases hF.E s h with h1 | h1
    · exact .inl h1
    · exact .inr ⟨rfl, h1.2⟩
  · rcases hF.L s r h with h1 | h1 | h1 | h1
    · exact .inl h1
    · exact .inr (.inl h1)
    · exact .inr (.inr (.inl ⟨rfl, h1.2⟩))
    · exact .inr (.inr (.inr h1))
theorem Good.ite {b : Bool} {p : Prop} [Decidable p] {F G : St → α × St} (hF : p → Good T b F) (hG : ¬ p → Good T b G) : Good T b (fun s => if p then F s else G s) := by
  by_cases hp : p
  · simp only [if_pos hp]; exact hF hp
  · simp only [if_neg hp]; exact hG hp
/-- a round that ends at a fault, too -/
theorem Good.iteErr {p : Prop} [Decidable p] {a : α} {F : St → α × St} (hF : ¬ p → Good T true F) : Good T true (fun s => if p ∨ s.err ≠ 0 then (a, s) else F s) := by
  by_cases hp : p
  · simp only [hp, true_or, if_true]; exact Good.ret a
  · have hg := hF hp
    refine ⟨fun s h => ?_, fun s h => ?_, fun s r h => ?_⟩
    · simp only [if_pos (Or.inr h : p ∨ s.err ≠ 0)]; exact Kept.rfl' s
    · have hn : ¬ (p ∨ s.err ≠ 0) := by rintro (c | c); exact hp c; exact c h.2.1
      show AtE T (if p ∨ s.err ≠ 0 then (a, s) else F s).2 ∨ _
      rw [if_neg hn]; exact hg.E s h
    · have hn : ¬ (p ∨ s.err ≠ 0) := by rintro (c | c); exact hp c; exact c h.err
      have hm : ¬ (p ∨ r.err ≠ 0) := by rintro (c | c); exact hp c; exact c h.err'
      show Out T true (if p ∨ s.err ≠ 0 then (a, s) else F s) (if p ∨ r.err ≠ 0 then (a, r) else F r)
      rw [if_neg hn, if_neg hm]; exact hg.L s r h
theorem on_none {w : ByteArray} {s : St} (h : (peek s).kind = 0) : on w s = false := by unfold on; simp [h]
variable (hu : Tails T)
include hu
theorem End.kind {s : St} (h : End T s) : (peek s).kind = 0 ∧ (peek s) = T.e := by
  unfold peek; rw [h.2.2]; exact ⟨hu.1, rfl⟩
/-- alike: at the end of one side, or both at the end, or a token that is alike on both -/
theorem Loc.cases {s r : St} (h : Loc T s r) : End T s ∨ ((peek s).kind = 0 ∧ (peek r).kind = 0 ∧ (∀ w, on w s = false) ∧ (∀ w, on w r = false)) ∨
    ((peek s).kind = (peek r).kind ∧ (peek s).text = (peek r).text ∧ Loc T (drop1 s) (drop1 r)) := by
  obtain ⟨l, m, h1, h2, h3⟩ := h.rest
  cases l with
  | nil =>
    cases m with
    | cons y m => exact absurd h3 (by simp [Als])
    | nil =>
      cases hc : T.cut with
      | true => exact .inl ⟨hc, h.err, h1⟩
      | false =>
        obtain ⟨x, hx, hk⟩ := hu.2 hc
        have hp : (peek s).kind = 0 := by unfold peek; rw [h1]; exact hu.1
        have hq : (peek r).kind = 0 := by unfold peek; rw [h2, hx]; exact hk
        exact .inr (.inl ⟨hp, hq, fun w => on_none hp, fun w => on_none hq⟩)
  | cons x l =>
    cases m with
    | nil => exact absurd h3 (by simp [Als])
    | cons y m =>
      have hp : peek s = x := by unfold peek; rw [h1]; rfl
      have hq : peek r = y := by unfold peek; rw [h2]; rfl
      exact .inr (.inr ⟨by rw [hp, hq]; exact h3.1.1, by rw [hp, hq]; exact h3.1.2.1, h.err, h.err', l, m, by show s.rest.tail = _; rw [h1]; rfl, by show r.rest.tail = _; rw [h2]; rfl, h3.2⟩)
theorem good_eat (w : ByteArray) : Good T true (P.eat w) := by
  refine ⟨fun s h => ?_, fun s h => ?_, fun s r h => ?_⟩
  · rw [eat_bad h]; exact Kept.rfl' s
  · have ho := on_none (w := w) (h.kind hu).1
    unfold P.eat
    rw [if_neg (fun c => by rw [ho] at c; cases c.2)]
    exact .inr ⟨rfl, h⟩
  · rcases h.cases hu with h1 | ⟨h1, h2, h3, h4⟩ | ⟨h1, h2, h3⟩
    · have ho := on_none (w := w) (h1.kind hu).1
      refine .inr (.inr (.inl ⟨rfl, ?_⟩))
      unfold P.eat
      rw [if_neg (fun c => by rw [ho] at c; cases c.2)]
      exact h1
    · unfold P.eat
      rw [if_neg (fun c => by rw [h3] at c; cases c.2), if_neg (fun c => by rw [h4] at c; cases c.2)]
      exact .inr (.inr (.inr ⟨rfl, h⟩))
    · have ho : on w s = on w r := by unfold on; rw [h1, h2]
      unfold P.eat
      rw [← ho]
      by_cases hc : on w s = true
      · rw [if_pos ⟨h.err, hc⟩, if_pos ⟨h.err', hc⟩]
        refine .inr (.inr (.inr ⟨rfl, ?_⟩))
        have hk := on_kind hc
        rw [next_drop hk, next_drop (by rw [← h1]; exact hk)]
        exact h3
      · rw [if_neg (fun c => hc c.2), if_neg (fun c => hc c.2)]
        exact .inr (.inr (.inr ⟨rfl, h⟩))
theorem good_fail (e : α) : Good T false (fun s => (e, fail 4 (peek s) s)) := by
  refine ⟨fun s h => ?_, fun s h => ?_, fun s r h => ?_⟩
  · simp only [fail_keep h]; exact Kept.rfl' s
  · refine .inl ⟨h.1, ?_, ?_, ?_, ?_⟩
    · simp only [fail, if_pos h.2.1]
    · simp only [fail, if_pos h.2.1, (h.kind hu).2]
    · simp only [fail, if_pos h.2.1, (h.kind hu).2]
    · simp only [fail, if_pos h.2.1, h.2.2]
  · refine .inr (.inl ⟨fail_err 4 _ _ (by decide), ?_⟩)
    simp only [fail, if_pos h.err, if_pos h.err']
theorem good_must1 (w : ByteArray) : Good T false (un (P.must [w])) := by
  have h : un (P.must [w]) = bnd (P.eat w) (fun a s => if a = true then ((), s) else ((), fail 4 (peek s) s)) := by
    funext s
    show ((), if (P.eat w s).1 = true then (P.eat w s).2 else fail 4 (peek s) (P.eat w s).2) = if (P.eat w s).1 = true then ((), (P.eat w s).2) else ((), fail 4 (peek (P.eat w s).2) (P.eat w s).2)
    by_cases hc : (P.eat w s).1 = true
    · rw [if_pos hc, if_pos hc]
    · rw [if_neg hc, if_neg hc, eat_no (by simpa using hc)]
  refine ⟨fun s hs => ?_, fun s hs => ?_, fun s r hs => ?_⟩
  · rw [h]; exact ((good_eat hu w).bnd hu.1 (c := true) fun a => Good.ite (fun _ => Good.ret _) (fun _ => (good_fail hu ()).up)).K s hs
  · have ho := on_none (w := w) (hs.kind hu).1
    have he : P.eat w s = (false, s) := by
      unfold P.eat
      rw [if_neg (fun c => by rw [ho] at c; cases c.2)]
    rw [h]
    unfold bnd
    rw [he]
    exact (good_fail hu ()).E s hs
  · rw [h]
    rcases hs.cases hu with h1 | ⟨h1, h2, h3, h4⟩ | ⟨h1, h2, h3⟩
    · have ho := on_none (w := w) (h1.kind hu).1
      have he : P.eat w s = (false, s) := by
        unfold P.eat
        rw [if_neg (fun c => by rw [ho] at c; cases c.2)]
      rcases (good_fail hu ()).E s h1 with h5 | h5
      · refine .inl ?_
        unfold bnd
        rw [he]
        exact h5
      · cases h5.1
    · have he : P.eat w s = (false, s) := by unfold P.eat; rw [if_neg (fun c => by rw [h3] at c; cases c.2)]
      have he' : P.eat w r = (false, r) := by unfold P.eat; rw [if_neg (fun c => by rw [h4] at c; cases c.2)]
      unfold bnd
      rw [he, he']
      exact (good_fail hu ()).L s r hs
    · have ho : on w s = on w r := by unfold on; rw [h1, h2]
      by_cases hc : on w s = true
      · have he : P.eat w s = (true, P.next s) := by unfold P.eat; rw [if_pos ⟨hs.err, hc⟩]
        have he' : P.eat w r = (true, P.next r) := by unfold P.eat; rw [if_pos ⟨hs.err', ho ▸ hc⟩]
        have hk := on_kind hc
        unfold bnd
        rw [he, he', next_drop hk, next_drop (by rw [← h1]; exact hk)]
        exact .inr (.inr (.inr ⟨rfl, h3⟩))
      · have he : P.eat w s = (false, s) := by unfold P.eat; rw [if_neg (fun c => hc c.2)]
        have he' : P.eat w r = (false, r) := by unfold P.eat; rw [if_neg (fun c => hc (ho ▸ c.2))]
        unfold bnd
        rw [he, he']
        exact (good_fail hu ()).L s r hs
theorem good_must2 (w v : ByteArray) : Good T false (un (P.must [w, v])) := by
  rw [must2_eq w v]
  exact (good_must1 hu w).bnd hu.1 fun _ => good_must1 hu v
theorem good_kind (k : Int) (hk : k ≠ 0) : Good T false (P.kind k) := by
  refine ⟨fun s h => ?_, fun s h => ?_, fun s r h => ?_⟩
  · unfold P.kind
    split
    · have hn := next_err s
      exact ⟨hn.1, hn.2.1, hn.2.2, fun h0 => by show (P.next s).rest = s.rest; unfold P.next; rw [if_pos h0]⟩
    · rw [fail_keep h]; exact Kept.rfl' s
  · unfold P.kind
    rw [if_neg (by rw [(h.kind hu).1]; exact fun c => hk c.symm)]
    exact (good_fail hu (⟨#[]⟩ : ByteArray)).E s h
  · rcases h.cases hu with h1 | ⟨h1, h2, h3, h4⟩ | ⟨h1, h2, h3⟩
    · unfold P.kind
      rw [if_neg (by rw [(h1.kind hu).1]; exact fun c => hk c.symm)]
      rcases (good_fail hu (⟨#[]⟩ : ByteArray)).E s h1 with h5 | h5
      · exact .inl h5
      · cases h5.1
    · unfold P.kind
      rw [if_neg (by rw [h1]; exact fun c => hk c.symm), if_neg (by rw [h2]; exact fun c => hk c.symm)]
      exact (good_fail hu (⟨#[]⟩ : ByteArray)).L s r h
    · unfold P.kind
      rw [← h1, ← h2]
      by_cases hc : (peek s).kind = k
      · rw [if_pos hc, if_pos hc, next_drop (by rw [hc]; exact hk), next_drop (by rw [← h1, hc]; exact hk)]
        exact .inr (.inr (.inr ⟨rfl, h3⟩))
      · rw [if_neg hc, if_neg hc]
        exact (good_fail hu (⟨#[]⟩ : ByteArray)).L s r h
variable (dp : ByteArray → Day) (np : ByteArray → Int → Int → Int × Int)
theorem good_number (pl most : Int) : Good T false (P.number np pl most) := by
  have hk := good_kind hu 3 (by decide)
  refine ⟨fun s h => ?_, fun s h => ?_, fun s r h => ?_⟩
  · have h1 := hk.K s h
    unfold P.number
    simp only
    rw [if_neg (by rw [h1.err]; exact h)]
    exact h1
  · rcases hk.E s h with h1 | h1
    · refine .inl ?_
      unfold P.number
      simp only
      rw [if_neg h1.bad]
      exact h1
    · cases h1.1
  · rcases hk.L s r h with h1 | h1 | h1 | h1
    · refine .inl ?_
      unfold P.number
      simp only
      rw [if_neg h1.bad]
      exact h1
    · refine .inr (.inl ?_)
      unfold P.number
      simp only
      rw [if_neg h1.1, if_neg (h1.2 ▸ h1.1)]
      exact h1
    · cases h1.1
    · unfold P.number
      simp only
      rw [if_pos h1.2.err, if_pos h1.2.err', ← h1.1]
      by_cases c1 : (np (P.kind 3 s).1 pl most).2 = 1
      · refine .inr (.inl ?_)
        simp only [if_pos c1]
        exact ⟨fail_err 4 _ _ (by decide), by simp only [fail, if_pos h1.2.err, if_pos h1.2.err']⟩
      · simp only [if_neg c1]
        by_cases c2 : (np (P.kind 3 s).1 pl most).2 = 2
        · refine .inr (.inl ?_)
          simp only [if_pos c2]
          exact ⟨fail_err 6 _ _ (by decide), by simp only [fail, if_pos h1.2.err, if_pos h1.2.err']⟩
        · simp only [if_neg c2]
          exact .inr (.inr (.inr ⟨rfl, h1.2⟩))
theorem good_day : Good T false (P.day dp) := (good_kind hu 4 (by decide)).mp dp
theorem good_one : ∀ (l : List ByteArray) (i : Int), Good T true (P.one l i)
  | [], i => Good.ret (-1)
  | w :: ws, i => (good_eat hu w).bnd hu.1 (G := fun a s => if a = true then (i, s) else P.one ws (i + 1) s) fun a => Good.ite (fun _ => Good.ret i) (fun _ => good_one ws (i + 1))
theorem good_mode : Good T true P.mode :=
  (good_one hu [wFloor, wCeil, wHalfup, wHalfeven] 0).bnd hu.1 (G := fun o s => if o < 0 then (0, fail 4 (peek s) s) else (o, s)) fun o => Good.ite (fun _ => (good_fail hu 0).up) (fun _ => Good.ret o)
theorem good_window : Good T true (P.window dp) :=
  (good_eat hu wFrom).bnd hu.1 (G := fun a s => if a = true then bnd (P.day dp) (fun f => bnd (un (P.must [wTo])) (fun _ => mp (fun t => (⟨true, f, t⟩ : Win)) (P.day dp))) s else (noWin, s)) fun a =>
    Good.ite (fun _ => ((good_day hu dp).bnd hu.1 fun f => (good_must1 hu wTo).bnd hu.1 fun _ => (good_day hu dp).mp _).up) (fun _ => Good.ret noWin)
theorem good_opt (w : ByteArray) (d : Int) : Good T true (P.opt np w d) :=
  (good_eat hu w).bnd hu.1 (G := fun a s => if a = true then bnd (P.number np 0 1000000) (fun x => mp (fun _ => x) (un (P.must [wSemi]))) s else (d, s)) fun a =>
    Good.ite (fun _ => ((good_number hu np 0 1000000).bnd hu.1 fun x => (good_must1 hu wSemi).mp _).up) (fun _ => Good.ret d)
theorem good_ckind : Good T true P.ckind :=
  (good_eat hu wVolume).bnd hu.1 (G := fun a s => if a = true then ((2 : Int), s) else mp (fun _ => (1 : Int)) (un (P.must [wGraduated])) s) fun a =>
    Good.ite (fun _ => Good.ret 2) (fun _ => ((good_must1 hu wGraduated).mp _).up)
theorem good_tierLoop : ∀ (f : Nat) (acc : List Tier), Good T true (P.tierLoop np f acc)
  | 0, acc => Good.ret acc
  | f + 1, acc => (good_eat hu wUpto).bnd hu.1 (G := fun a s => if a = true then bnd (P.number np 0 1000000) (fun x => bnd (un (P.must [wRate])) (fun _ => bnd (P.number np 6 1000000000000) (fun y => bnd (un (P.must [wSemi])) (fun _ => P.tierLoop np f (acc ++ [(⟨x, y⟩ : Tier)]))))) s else (acc, s)) fun a =>
    Good.ite (fun _ => (good_number hu np 0 1000000).bnd hu.1 fun x => (good_must1 hu wRate).bnd hu.1 fun _ => (good_number hu np 6 1000000000000).bnd hu.1 fun y => (good_must1 hu wSemi).bnd hu.1 fun _ => good_tierLoop f _) (fun _ => Good.ret acc)
theorem good_tierAll (acc : List Tier) : Good T true (P.tierAll np acc) := by
  refine ⟨fun s h => (good_tierLoop hu np (len s) acc).K s h, fun s h => (good_tierLoop hu np (len s) acc).E s h, fun s r h => ?_⟩
  have hl := (good_tierLoop hu np (len s + len r) acc).L s r h
  rw [tier_fuel np _ (len s) acc s (by omega) (Nat.le_refl _), tier_fuel np _ (len r) acc r (by omega) (Nat.le_refl _)] at hl
  exact hl
theorem good_tiers : Good T false (P.tiers np) :=
  (good_must1 hu wOpen).bnd hu.1 (G := fun _ => bnd (P.tierAll np []) (fun l => bnd (un (P.must [wRest, wRate])) (fun _ => bnd (P.number np 6 1000000000000) (fun r => mp (fun _ => l ++ [(⟨0, r⟩ : Tier)]) (un (P.must [wSemi, wClose])))))) fun _ =>
    (good_tierAll hu np []).bnd hu.1 fun l => (good_must2 hu wRest wRate).bnd hu.1 fun _ => (good_number hu np 6 1000000000000).bnd hu.1 fun r => (good_must2 hu wSemi wClose).mp _
theorem good_adjBody (k : Int) : Good T false (P.adjBody np k) := by
  have h : P.adjBody np k = fun s => if k = 1 then bnd (P.number np 3 100000000) (fun n => bnd P.mode (fun m => mp (fun _ => (⟨1, n, m⟩ : Adj)) (un (P.must [wSemi])))) s else bnd (P.number np 0 1000000000000) (fun n => mp (fun _ => (⟨k, n, 0⟩ : Adj)) (un (P.must [wSemi]))) s := rfl
  rw [h]
  exact Good.ite (fun _ => (good_number hu np 3 100000000).bnd hu.1 fun n => (good_mode hu).bnd hu.1 fun m => (good_must1 hu wSemi).mp _) (fun _ => (good_number hu np 0 1000000000000).bnd hu.1 fun n => (good_must1 hu wSemi).mp _)
theorem good_adjust : Good T true (P.adjust np) :=
  (good_one hu [wPercent, wCap, wMinimum, wAdd] 1).bnd hu.1 (G := fun o s => if o < 0 then (((⟨0, 0, 0⟩ : Adj), false), s) else mp (fun b => (b, true)) (P.adjBody np o) s) fun o =>
    Good.ite (fun _ => Good.ret _) (fun _ => ((good_adjBody hu np o).mp _).up)
theorem good_adjLoop : ∀ (f : Nat) (acc : List Adj), Good T true (P.adjLoop np f acc)
  | 0, acc => Good.ret acc
  | f + 1, acc => (good_adjust hu np).bnd hu.1 (G := fun a s => if a.2 = false ∨ s.err ≠ 0 then (acc, s) else P.adjLoop np f (acc ++ [a.1]) s) fun a => Good.iteErr (fun _ => good_adjLoop f _)
theorem good_adjAll (acc : List Adj) : Good T true (P.adjAll np acc) := by
  refine ⟨fun s h => (good_adjLoop hu np (len s) acc).K s h, fun s h => (good_adjLoop hu np (len s) acc).E s h, fun s r h => ?_⟩
  have hl := (good_adjLoop hu np (len s + len r) acc).L s r h
  rw [adj_fuel np _ (len s) acc s (by omega) (Nat.le_refl _), adj_fuel np _ (len r) acc r (by omega) (Nat.le_refl _)] at hl
  exact hl
theorem good_charge (l c : Int) : Good T false (P.charge dp np l c) :=
  (good_kind hu 1 (by decide)).bnd hu.1 (G := fun n => bnd (P.window dp) fun w => bnd (un (P.must [wOpen])) fun _ => bnd (P.opt np wAllowance 0) fun a => bnd (P.opt np wBlock 1) fun b => bnd P.ckind fun k => bnd (P.tiers np) fun t =>
      bnd (un (P.must [wRound])) fun _ => bnd P.mode fun m => bnd (un (P.must [wSemi])) fun _ => bnd (P.adjAll np []) fun d => mp (fun _ => (⟨n, w, a, b, k, t, m, d, l, c⟩ : Chg)) (un (P.must [wClose]))) fun n =>
    (good_window hu dp).bnd hu.1 fun w => (good_must1 hu wOpen).bnd hu.1 fun _ => (good_opt hu np wAllowance 0).bnd hu.1 fun a => (good_opt hu np wBlock 1).bnd hu.1 fun b => (good_ckind hu).bnd hu.1 fun k => (good_tiers hu np).bnd hu.1 fun t =>
      (good_must1 hu wRound).bnd hu.1 fun _ => (good_mode hu).bnd hu.1 fun m => (good_must1 hu wSemi).bnd hu.1 fun _ => (good_adjAll hu np []).bnd hu.1 fun d => (good_must1 hu wClose).mp _
theorem good_meter (l c : Int) : Good T false (P.meter np l c) :=
  (good_kind hu 1 (by decide)).bnd hu.1 (G := fun n => bnd (un (P.must [wUnit])) fun _ => bnd (P.kind 1) fun x => bnd (un (P.must [wMax])) fun _ => bnd (P.number np 0 2000) fun m => mp (fun _ => (⟨n, x, m, l, c⟩ : Met)) (un (P.must [wSemi]))) fun n =>
    (good_must1 hu wUnit).bnd hu.1 fun _ => (good_kind hu 1 (by decide)).bnd hu.1 fun x => (good_must1 hu wMax).bnd hu.1 fun _ => (good_number hu np 0 2000).bnd hu.1 fun m => (good_must1 hu wSemi).mp _
theorem good_fee (l c : Int) : Good T false (P.fee dp np l c) :=
  (good_number hu np 0 1000000000000).bnd hu.1 (G := fun x => bnd (P.window dp) fun w => mp (fun _ => (⟨x, w, l, c⟩ : Fee)) (un (P.must [wSemi]))) fun x =>
    (good_window hu dp).bnd hu.1 fun w => (good_must1 hu wSemi).mp _
end
/-- an item, without its place -/
inductive Thing where
  | met (m : Met)
  | fee (f : Fee)
  | chg (c : Chg)
  | none
def put (p : Plan) (l c : Int) : Thing → Plan
  | .met m => { p with mets := p.mets ++ [{ m with line := l, col := c }] }
  | .fee f => { p with fees := p.fees ++ [{ f with line := l, col := c }] }
  | .chg x => { p with chgs := p.chgs ++ [{ x with line := l, col := c }] }
  | .none => p
section
variable (dp : ByteArray → Day) (np : ByteArray → Int → Int → Int × Int)
def itm : St → Thing × St := bnd (P.one [wMeter, wFee, wCharge] 0) fun o s =>
  if o = 0 then mp Thing.met (P.meter np 0 0) s else if o = 1 then mp Thing.fee (P.fee dp np 0 0) s else if o = 2 then mp Thing.chg (P.charge dp np 0 0) s
  else bnd (fun s => ((), fail 4 (peek s) s)) (fun _ => mp (fun _ => Thing.none) (un (P.must [wSemi]))) s
theorem item_itm (p : Plan) (s : St) : P.item dp np p s = (put p (peek s).line (peek s).col (itm dp np s).1, (itm dp np s).2) := by
  have hr := one_range [wMeter, wFee, wCharge] 0 s
  have hn := one_none [wMeter, wFee, wCharge] 0 s (by decide)
  unfold P.item itm bnd
  simp only
  split
  · rfl
  · split
    · rfl
    · split
      · rfl
      · rename_i h0 h1 h2
        have h3 : (P.one [wMeter, wFee, wCharge] 0 s).1 = -1 := by
          have hl : ([wMeter, wFee, wCharge].length : Int) = 3 := rfl
          omega
        rw [hn h3]
        rfl
theorem good_itm {T : Tl} (hu : Tails T) : Good T false (itm dp np) :=
  (good_one hu [wMeter, wFee, wCharge] 0).bnd hu.1 fun o => Good.ite (fun _ => (good_meter hu np 0 0).mp _) fun _ => Good.ite (fun _ => (good_fee hu dp np 0 0).mp _) fun _ => Good.ite (fun _ => (good_charge hu dp np 0 0).mp _)
    fun _ => (good_fail hu ()).bnd hu.1 fun _ => (good_must1 hu wSemi).mp _
end
end Go.Proofs.YtcgkfgklggjmaaaDoor.Par
end
section
namespace Go.Proofs.YtcgkfgklggjmaaaDoor.Par
set_option linter.unusedVariables false
set_option linter.unusedSimpArgs false
/-! plans without places; items behind items -/
def sM (m : Met) : Met := { m with line := 0, col := 0 }
def sF (m : Fee) : Fee := { m with line := 0, col := 0 }
def sC (m : Chg) : Chg := { m with line := 0, col := 0 }
def strip (p : Plan) : Plan := { p with mets := p.mets.map sM, fees := p.fees.map sF, chgs := p.chgs.map sC, line := 0, col := 0 }
/-- the items of another plan behind its own -/
def adds (b p : Plan) : Plan := { b with mets := b.mets ++ p.mets, fees := b.fees ++ p.fees, chgs := b.chgs ++ p.chgs }
theorem strip_put {p q : Plan} (h : strip p = strip q) (l c l' c' : Int) (x : Thing) : strip (put p l c x) = strip (put q l' c' x) := by
  obtain ⟨n, cu, f, t, ms, fs, cs, a, b⟩ := p
  obtain ⟨n', cu', f', t', ms', fs', cs', a', b'⟩ := q
  simp only [strip, Plan.mk.injEq] at h
  obtain ⟨rfl, rfl, rfl, rfl, h1, h2, h3, -, -⟩ := h
  cases x <;> simp [put, strip, h1, h2, h3, sM, sF, sC]
theorem put_adds (b p : Plan) (l c : Int) (x : Thing) : put (adds b p) l c x = adds b (put p l c x) := by
  cases x <;> simp [put, adds]
section
variable (dp : ByteArray → Day) (np : ByteArray → Int → Int → Int × Int)
theorem itemsAll_itm {p : Plan} {s : St} (h0 : s.err = 0) (hk : (peek s).kind ≠ 0) : P.itemsAll dp np p s = P.itemsAll dp np (put p (peek s).line (peek s).col (itm dp np s).1) (itm dp np s).2 := by
  rw [itemsAll_step dp np h0 hk, item_itm]
theorem itm_round {s : St} (h : (itm dp np s).2.err = 0) : len (itm dp np s).2 < len s := by
  have hr := item_round dp np noPlan s
  rw [item_itm] at hr
  exact hr.resolve_left (fun c => c h)
theorem Loc.live {T : Tl} {s r : St} (h : Loc T s r) : (s.rest = [T.e] ∧ r.rest = T.t) ∨ ((peek s).kind ≠ 0 ∧ (peek r).kind ≠ 0) := by
  obtain ⟨l, m, h1, h2, h3⟩ := h.rest
  cases l with
  | nil =>
    cases m with
    | cons y m => exact absurd h3 (by simp [Als])
    | nil => exact .inl ⟨h1, h2⟩
  | cons x l =>
    cases m with
    | nil => exact absurd h3 (by simp [Als])
    | cons y m =>
      have hp : peek s = x := by unfold peek; rw [h1]; rfl
      have hq : peek r = y := by unfold peek; rw [h2]; rfl
      refine .inr ⟨by rw [hp]; exact h3.1.2.2, by rw [hq, ← h3.1.1]; exact h3.1.2.2⟩
/-- the items of one side, where the other one goes on -/
theorem items_cut {T : Tl} (hT : Tails T) : ∀ (n : Nat) (s r : St) (p q : Plan), len s ≤ n → Loc T s r → strip p = strip q →
    AtE T (P.itemsAll dp np p s).2 ∨ ((P.itemsAll dp np p s).2.err ≠ 0 ∧ (P.itemsAll dp np q r).2.err ≠ 0) ∨
    ((P.itemsAll dp np p s).2.err = 0 ∧ (P.itemsAll dp np p s).2.rest = [T.e] ∧ ∃ q' r', r'.err = 0 ∧ r'.rest = T.t ∧ strip q' = strip (P.itemsAll dp np p s).1 ∧ P.itemsAll dp np q r = P.itemsAll dp np q' r') := by
  intro n
  induction n with
  | zero =>
    intro s r p q hn h hp
    obtain ⟨l, m, h1, -, -⟩ := h.rest
    unfold len at hn
    rw [h1] at hn
    simp at hn
  | succ n ih =>
    intro s r p q hn h hp
    rcases h.live with ⟨h1, h2⟩ | ⟨h1, h2⟩
    · rw [itemsAll_end dp np (p := p) (s := s) (.inr (by unfold peek; rw [h1]; exact hT.1))]
      exact .inr (.inr ⟨h.err, h1, q, r, h.err', h2, hp.symm, rfl⟩)
    · rw [itemsAll_itm dp np h.err h1, itemsAll_itm dp np h.err' h2]
      rcases (good_itm dp np hT).L s r h with h3 | h3 | h3 | h3
      · rw [itemsAll_end dp np (.inl h3.bad)]
        exact .inl h3
      · rw [itemsAll_end dp np (s := (itm dp np s).2) (.inl h3.1), itemsAll_end dp np (s := (itm dp np r).2) (.inl (h3.2 ▸ h3.1))]
        exact .inr (.inl ⟨h3.1, h3.2 ▸ h3.1⟩)
      · cases h3.1
      · have hl := itm_round dp np h3.2.err
        rw [← h3.1]
        exact ih _ _ _ _ (by omega) h3.2 (strip_put hp _ _ _ _ _)
/-- the same items behind two plans -/
theorem items_alike {T : Tl} (hT : Tails T) (hc : T.cut = false) : ∀ (n : Nat) (s r : St) (p q b : Plan), len s ≤ n → Loc T s r → strip q = strip (adds b p) →
    (P.itemsAll dp np p s).2.err = (P.itemsAll dp np q r).2.err ∧ ((P.itemsAll dp np p s).2.err = 0 → strip (P.itemsAll dp np q r).1 = strip (adds b (P.itemsAll dp np p s).1)) := by
  intro n
  induction n with
  | zero =>
    intro s r p q b hn h hp
    obtain ⟨l, m, h1, -, -⟩ := h.rest
    unfold len at hn
    rw [h1] at hn
    simp at hn
  | succ n ih =>
    intro s r p q b hn h hp
    rcases h.live with ⟨h1, h2⟩ | ⟨h1, h2⟩
    · obtain ⟨x, hx, hk⟩ := hT.2 hc
      rw [itemsAll_end dp np (p := p) (s := s) (.inr (by unfold peek; rw [h1]; exact hT.1)), itemsAll_end dp np (p := q) (s := r) (.inr (by unfold peek; rw [h2, hx]; exact hk))]
      exact ⟨h.err.trans h.err'.symm, fun _ => hp⟩
    · rw [itemsAll_itm dp np h.err h1, itemsAll_itm dp np h.err' h2]
      rcases (good_itm dp np hT).L s r h with h3 | h3 | h3 | h3
      · exact absurd h3.1 (by rw [hc]; decide)
      · rw [itemsAll_end dp np (s := (itm dp np s).2) (.inl h3.1), itemsAll_end dp np (s := (itm dp np r).2) (.inl (h3.2 ▸ h3.1))]
        exact ⟨h3.2, fun c => absurd c h3.1⟩
      · cases h3.1
      · have hl := itm_round dp np h3.2.err
        rw [← h3.1]
        refine ih _ _ _ _ b (by omega) h3.2 ?_
        rw [← put_adds]
        exact strip_put hp _ _ _ _ _
/-- the head of a plan -/
def hd : St → Plan × St :=
  bnd (un (P.must [wPlan])) fun _ => bnd (P.kind 1) fun n => bnd (un (P.must [wCurrency])) fun _ => bnd (P.kind 1) fun c => bnd (un (P.must [wSemi, wHorizon])) fun _ => bnd (P.day dp) fun f => bnd (P.day dp) fun t =>
    mp (fun _ => (⟨n, c, f, t, [], [], [], 0, 0⟩ : Plan)) (un (P.must [wSemi]))
theorem head_hd (s : St) : P.head dp s = ({ (hd dp s).1 with line := (peek s).line, col := (peek s).col }, (hd dp s).2) := by
  simp only [P.head, hd, bnd, mp, un]
theorem good_hd {T : Tl} (hu : Tails T) : Good T false (hd dp) :=
  (good_must1 hu wPlan).bnd hu.1 fun _ => (good_kind hu 1 (by decide)).bnd hu.1 fun n => (good_must1 hu wCurrency).bnd hu.1 fun _ => (good_kind hu 1 (by decide)).bnd hu.1 fun c => (good_must2 hu wSemi wHorizon).bnd hu.1 fun _ =>
    (good_day hu dp).bnd hu.1 fun f => (good_day hu dp).bnd hu.1 fun t => (good_must1 hu wSemi).mp _
theorem plan_hd (l : List Tok) : P.plan dp np l = P.itemsAll dp np { (hd dp ⟨l, 0, 0, 0⟩).1 with line := (peek ⟨l, 0, 0, 0⟩).line, col := (peek ⟨l, 0, 0, 0⟩).col } (hd dp ⟨l, 0, 0, 0⟩).2 := by
  unfold P.plan P.itemsAll
  rw [head_hd]
  rfl
/-- a plan's tokens, where the other side goes on -/
theorem plan_cut {T : Tl} (hT : Tails T) {l m : List Tok} (ha : Als l m) :
    AtE T (P.plan dp np (l ++ [T.e])).2 ∨ ((P.plan dp np (l ++ [T.e])).2.err ≠ 0 ∧ (P.plan dp np (m ++ T.t)).2.err ≠ 0) ∨
    ((P.plan dp np (l ++ [T.e])).2.err = 0 ∧ (P.plan dp np (l ++ [T.e])).2.rest = [T.e] ∧ ∃ q' r', r'.err = 0 ∧ r'.rest = T.t ∧ strip q' = strip (P.plan dp np (l ++ [T.e])).1 ∧ P.plan dp np (m ++ T.t) = P.itemsAll dp np q' r') := by
  have h0 : Loc T ⟨l ++ [T.e], 0, 0, 0⟩ ⟨m ++ T.t, 0, 0, 0⟩ := ⟨rfl, rfl, l, m, rfl, rfl, ha⟩
  rw [plan_hd, plan_hd]
  rcases (good_hd dp hT).L _ _ h0 with h3 | h3 | h3 | h3
  · rw [itemsAll_end dp np (.inl h3.bad)]
    exact .inl h3
  · rw [itemsAll_end dp np (s := (hd dp ⟨l ++ [T.e], 0, 0, 0⟩).2) (.inl h3.1), itemsAll_end dp np (s := (hd dp ⟨m ++ T.t, 0, 0, 0⟩).2) (.inl (h3.2 ▸ h3.1))]
    exact .inr (.inl ⟨h3.1, h3.2 ▸ h3.1⟩)
  · cases h3.1
  · exact items_cut dp np hT _ _ _ _ _ (Nat.le_refl _) h3.2 (by rw [h3.1]; rfl)
end
end Go.Proofs.YtcgkfgklggjmaaaDoor.Par
end
section
namespace Go.Proofs.YtcgkfgklggjmaaaDoor.Par
set_option linter.unusedVariables false
set_option linter.unusedSimpArgs false
/-! the plan of one fee whose amount is a number's digits -/
def nPre : List UInt8 := [112, 108, 97, 110, 32, 112, 32, 99, 117, 114, 114, 101, 110, 99, 121, 32, 99, 59, 32, 104, 111, 114, 105, 122, 111, 110, 32, 50, 48, 50, 52, 45, 48, 49, 45, 48, 49, 32, 50, 48, 50, 52, 45, 48, 49, 45, 48, 50, 59]
def nUs : List Tok := [⟨2, ⟨#[112, 108, 97, 110]⟩, 1, 1⟩, ⟨1, ⟨#[112]⟩, 1, 6⟩, ⟨2, ⟨#[99, 117, 114, 114, 101, 110, 99, 121]⟩, 1, 8⟩, ⟨1, ⟨#[99]⟩, 1, 17⟩, ⟨5, ⟨#[59]⟩, 1, 18⟩, ⟨2, ⟨#[104, 111, 114, 105, 122, 111, 110]⟩, 1, 20⟩, ⟨4, ⟨#[50, 48, 50, 52, 45, 48, 49, 45, 48, 49]⟩, 1, 28⟩, ⟨4, ⟨#[50, 48, 50, 52, 45, 48, 49, 45, 48, 50]⟩, 1, 39⟩, ⟨5, ⟨#[59]⟩, 1, 49⟩]
def nToks (T : ByteArray) (c1 c2 : Int) : List Tok := nUs ++ [⟨2, ⟨#[102, 101, 101]⟩, 2, 1⟩, ⟨3, T, 2, 5⟩, ⟨5, ⟨#[59]⟩, 2, c1⟩, ⟨0, ⟨#[]⟩, 2, c2⟩]
def nPlan (v : Int) : Plan := ⟨⟨#[112]⟩, ⟨#[99]⟩, (2024, 1, 1), (2024, 1, 2), [], [⟨v, noWin, 2, 1⟩], [], 1, 1⟩
def nHead : Plan := ⟨⟨#[112]⟩, ⟨#[99]⟩, (2024, 1, 1), (2024, 1, 2), [], [], [], 1, 1⟩
def nS1 (T : ByteArray) (c1 c2 : Int) : St := ⟨[⟨2, ⟨#[102, 101, 101]⟩, 2, 1⟩, ⟨3, T, 2, 5⟩, ⟨5, ⟨#[59]⟩, 2, c1⟩, ⟨0, ⟨#[]⟩, 2, c2⟩], 0, 0, 0⟩
def nS2 (T : ByteArray) (c1 c2 : Int) : St := ⟨[⟨3, T, 2, 5⟩, ⟨5, ⟨#[59]⟩, 2, c1⟩, ⟨0, ⟨#[]⟩, 2, c2⟩], 0, 0, 0⟩
def nS3 (c1 c2 : Int) : St := ⟨[⟨5, ⟨#[59]⟩, 2, c1⟩, ⟨0, ⟨#[]⟩, 2, c2⟩], 0, 0, 0⟩
theorem nplan_items (T : ByteArray) (c1 c2 : Int) : P.plan dp npV (nToks T c1 c2) = P.items dp npV 3 (P.item dp npV nHead (nS1 T c1 c2)).1 (P.item dp npV nHead (nS1 T c1 c2)).2 := by
  have e : P.head dp ⟨nToks T c1 c2, 0, 0, 0⟩ = (nHead, nS1 T c1 c2) := by kernel_rfl
  unfold P.plan
  rw [e]
  show P.items dp npV 4 nHead (nS1 T c1 c2) = _
  rw [P.items]
  rw [if_pos ⟨rfl, (by decide : (2 : Int) ≠ 0)⟩]
theorem nitem (T : ByteArray) (c1 c2 : Int) (x : Fee × St) (h : P.fee dp npV 2 1 (nS2 T c1 c2) = x) : P.item dp npV nHead (nS1 T c1 c2) = ({ nHead with fees := [x.1] }, x.2) := by
  have ho : P.one [wMeter, wFee, wCharge] 0 (nS1 T c1 c2) = (1, nS2 T c1 c2) := by kernel_rfl
  rw [P_item_fee ho rfl]
  subst h
  rfl
theorem nnumber (T : ByteArray) (c1 c2 : Int) : P.number npV 0 1000000000000 (nS2 T c1 c2) = ((npV T 0 1000000000000).1, if (npV T 0 1000000000000).2 = 1 then fail 4 ⟨3, T, 2, 5⟩ (nS3 c1 c2) else if (npV T 0 1000000000000).2 = 2 then fail 6 ⟨3, T, 2, 5⟩ (nS3 c1 c2) else nS3 c1 c2) := by
  have hk : P.kind 3 (nS2 T c1 c2) = (T, nS3 c1 c2) := by kernel_rfl
  unfold P.number
  simp only [hk]
  rfl
theorem nplan_ok (T : ByteArray) (c1 c2 v : Int) (h : npV T 0 1000000000000 = (v, 0)) : (P.plan dp npV (nToks T c1 c2)).1 = nPlan v ∧ (P.plan dp npV (nToks T c1 c2)).2.err = 0 := by
  have hn := nnumber T c1 c2
  rw [h] at hn
  have hf : P.fee dp npV 2 1 (nS2 T c1 c2) = (⟨v, noWin, 2, 1⟩, ⟨[⟨0, ⟨#[]⟩, 2, c2⟩], 0, 0, 0⟩) := by
    unfold P.fee
    rw [hn]
    kernel_rfl
  rw [nplan_items, nitem _ _ _ _ hf]
  exact ⟨by kernel_rfl, by kernel_rfl⟩
theorem nplan_no (T : ByteArray) (c1 c2 v : Int) (h : npV T 0 1000000000000 = (v, 2)) : ((P.plan dp npV (nToks T c1 c2)).2.err, (P.plan dp npV (nToks T c1 c2)).2.line, (P.plan dp npV (nToks T c1 c2)).2.col) = (6, 2, 5) := by
  have hn := nnumber T c1 c2
  rw [h] at hn
  have hf : P.fee dp npV 2 1 (nS2 T c1 c2) = (⟨v, noWin, 2, 1⟩, fail 6 ⟨3, T, 2, 5⟩ (nS3 c1 c2)) := by
    unfold P.fee
    rw [hn]
    kernel_rfl
  rw [nplan_items, nitem _ _ _ _ hf]
  rfl
theorem runLen_semi (cs r : List UInt8) (h : cs.all isLet = true) : runLen (cs ++ 59 :: r) = cs.length := by
  have h32 : isLet 59 = false := by decide
  induction cs with
  | nil => simp [runLen, h32]
  | cons x cs ih =>
    simp only [List.all_cons, Bool.and_eq_true] at h
    have := ih h.2
    simp only [runLen, List.cons_append, List.takeWhile_cons, h.1, if_true, List.length_cons] at this ⊢
    omega
theorem lex_semi (l r : List UInt8) (line col : Int) (h : kindOf l ≠ 0) (h1 : l ≠ [] ∧ l.all isLet = true) : lexL (l ++ 59 :: r) line col = consR ⟨kindOf l, ⟨l.toArray⟩, line, col⟩ (consR ⟨5, ⟨#[59]⟩, line, col + l.length⟩ (lexL r line (col + l.length + 1))) := by
  obtain ⟨c, cs, rfl, h35, h10, h3, ht⟩ : ∃ c cs, l = c :: cs ∧ c ≠ 35 ∧ c ≠ 10 ∧ ¬ (c = 32 ∨ c = 9 ∨ c = 13) ∧ tokLen c (cs ++ 59 :: r) = cs.length := by
    cases l with
    | nil => exact absurd rfl h1.1
    | cons c cs =>
      have h2 := h1.2
      simp only [List.all_cons, Bool.and_eq_true] at h2
      have hc := h2.1
      refine ⟨c, cs, rfl, ?_, ?_, ?_, ?_⟩
      · rintro rfl; revert hc; decide
      · rintro rfl; revert hc; decide
      · rintro (rfl | rfl | rfl) <;> revert hc <;> decide
      · rw [tokLen, if_pos hc, runLen_semi cs r h2.2]
  rw [List.cons_append, lexL, if_neg h35, if_neg h10, if_neg h3, ht, List.take_left', List.drop_left', if_neg h]
  · have hk : kindOf [59] = 5 := by kernel_rfl
    rw [List.length_cons, lexL, if_neg (by decide), if_neg (by decide), if_neg (by decide), show tokLen 59 r = 0 from rfl, List.take_zero, List.drop_zero, if_neg (by rw [hk]; decide), hk]
    rw [show col + 1 + (cs.length : Int) = col + ((cs.length + 1 : Nat) : Int) from by omega, show col + ((cs.length + 1 : Nat) : Int) + 1 + ((0 : Nat) : Int) = col + ((cs.length + 1 : Nat) : Int) + 1 from by omega]
  · rfl
  · rfl
theorem n_pre : lexL nPre 1 1 = .ok (nUs ++ [⟨0, ⟨#[]⟩, 1, 50⟩]) := by
  rw [← lexF_eq 100 nPre 1 1 (by decide)]
  kernel_rfl
theorem n_lex (l : List UInt8) (hk : kindOf l = 3) (hl : l ≠ [] ∧ l.all isLet = true) (hn : l.length ≤ 1000) : lexAll (nPre ++ 10 :: ([102, 101, 101] ++ 32 :: (l ++ [59]))) = (nToks ⟨l.toArray⟩ (5 + l.length) (5 + l.length + 1), 0, 0, 0) := by
  have hj := lexL_join ([102, 101, 101] ++ 32 :: (l ++ [59])) _ nPre 1 1 (Nat.le_refl _)
  rw [n_pre] at hj
  obtain ⟨us, e, h1, h2⟩ := hj
  obtain ⟨h3, h4⟩ := List.append_inj' h1 rfl
  obtain rfl := h3
  obtain rfl : (⟨0, ⟨#[]⟩, 1, 50⟩ : Tok) = e := by injection h4
  have hf : kindOf [102, 101, 101] = 2 := by kernel_rfl
  rw [lex_tok [102, 101, 101] _ _ _ (by rw [hf]; decide), lex_semi l [] _ _ (by rw [hk]; decide) hl, lexL, hk, hf] at h2
  unfold lexAll
  rw [if_neg (by simp [nPre]; omega), h2]
  rfl
theorem parse_digits (n : Nat) (hn : n < 9223372036854775808) : Dec.parseL (Lib.decDigits n) 0 1000000000000 = if 1000000000000 < n then (0, 2) else ((n : Int), 0) := by
  have h : Dec.fracL n 0 = [] := rfl
  have ht : Dec.textN n 0 = Lib.decDigits n := by rw [Dec.textN, Dec.tailL, if_pos h, List.append_nil, Nat.pow_zero, Nat.div_one]
  have hf := Dec.frac_fill n 0
  have hform := Dec.form_textN n 0
  have hv := Dec.val_text n 0
  rw [ht, if_pos h] at hform
  rw [h] at hf
  unfold Dec.parseL Dec.parseW
  rw [hform, Dec.cut_whole (Dec.dec_all _), if_neg (by simp), if_neg (by simp)]
  simp only [hf]
  rw [Nat.pow_zero, Nat.div_one] at hv
  rw [show Int.toNat 0 = 0 from rfl, hf, hv]
  by_cases hm : 1000000000000 < n
  · rw [if_pos (.inr (by omega)), if_pos hm]
  · rw [if_neg (by omega), if_neg hm]
theorem dec_let (n : Nat) : (Lib.decDigits n).all isLet = true := by
  have h := Dec.dec_all n
  rw [List.all_eq_true] at h ⊢
  intro x hx
  have := h x hx
  simp only [Dec.isDig, isDig, decide_eq_true_eq, Bool.and_eq_true] at this
  simp only [isLet, decide_eq_true_eq]
  omega
theorem kind_digits (n : Nat) : kindOf (Lib.decDigits n) = 3 := by
  have hne := Dec.dec_ne n
  have hd := Dec.dec_all n
  have hlead := Dec.lead_dec n
  rw [kind_let (dec_let n) hne]
  generalize Lib.decDigits n = l at *
  have hw : isWord l = false := by
    cases h : isWord l with
    | false => rfl
    | true =>
      have hm : l ∈ wordsL := by simpa [isWord] using h
      have ha : ∀ w ∈ wordsL, w.all Dec.isDig = false := by decide
      rw [ha l hm] at hd
      cases hd
  have hd' : l.all isDig = true := hd
  have hf : digFirst l = true := by
    cases l with
    | nil => exact absurd rfl hne
    | cons c cs =>
      simp only [List.all_cons, Bool.and_eq_true] at hd'
      exact hd'.1
  have hb : digitsB l = true := by
    unfold digitsB
    rw [hd']
    cases l with
    | nil => exact absurd rfl hne
    | cons c cs => rfl
  have hn : numForm l = 1 := by
    have hl : ¬ (1 < l.length ∧ l.getD 0 0 = 48) := by
      rintro ⟨a1, a2⟩
      cases l with
      | nil => exact absurd rfl hne
      | cons c cs =>
        obtain rfl : c = 48 := a2
        unfold Dec.leadB at hlead
        rw [decide_eq_true a1] at hlead
        cases hlead
    unfold numForm
    rw [Dec.cut_whole hd]
    simp only
    rw [if_neg (by rw [hb]; exact fun h => h.elim (fun h => by cases h) hl), if_pos trivial]
  rw [hw, hf, hn]
  simp
/-- what Parse says of the plan with one fee of an amount -/
theorem n_parse (n : Nat) (hn : n < 9223372036854775808) : RParse (nPre ++ 10 :: ([102, 101, 101] ++ 32 :: (Lib.decDigits n ++ [59]))) = if 1000000000000 < n then (noPlan, 6, 2, 5) else (nPlan n, 0, 0, 0) := by
  have hlen : (Lib.decDigits n).length ≤ 19 := Dec.dec_len n 19 (by omega) (by decide)
  have hlex := n_lex (Lib.decDigits n) (kind_digits n) ⟨Dec.dec_ne n, dec_let n⟩ (by omega)
  have hp : npV ⟨(Lib.decDigits n).toArray⟩ 0 1000000000000 = if 1000000000000 < n then (0, 2) else ((n : Int), 0) := parse_digits n hn
  by_cases hm : 1000000000000 < n
  · rw [if_pos hm] at hp ⊢
    have h := nplan_no ⟨(Lib.decDigits n).toArray⟩ (5 + (Lib.decDigits n).length) (5 + (Lib.decDigits n).length + 1) 0 hp
    simp only [Prod.mk.injEq] at h
    rw [PParse_bad hlex (by rw [h.1]; decide), h.1, h.2.1, h.2.2]
  · rw [if_neg hm] at hp ⊢
    have h := nplan_ok ⟨(Lib.decDigits n).toArray⟩ (5 + (Lib.decDigits n).length) (5 + (Lib.decDigits n).length + 1) n hp
    rw [PParse_ok hlex h.2, h.1]
end Go.Proofs.YtcgkfgklggjmaaaDoor.Par
end
section
namespace Go.Proofs.YtcgkfgklggjmaaaDoor.Par
set_option linter.unusedVariables false
set_option linter.unusedSimpArgs false
open Go.RowKit
/-! a plan as a row of texts -/
def metT (m : Met) : List ByteArray := [m.name, m.unit, textB m.max]
def feeT (f : Fee) : List ByteArray := [textB f.amount] ++ winT f.win
def tierT (t : Tier) : List ByteArray := [textB t.upto, textB t.rate]
def adjT (a : Adj) : List ByteArray := [textB a.kind, textB a.n, textB a.mode]
def chgH (c : Chg) : List ByteArray := [c.meter] ++ winT c.win ++ [textB c.allow, textB c.block, textB c.kind, textB c.mode, textB c.tiers.length, textB c.adjs.length]
def chgT (c : Chg) : List ByteArray := chgH c ++ c.tiers.flatMap tierT ++ c.adjs.flatMap adjT
def headT (p : Plan) : List ByteArray := [p.name, p.cur] ++ winT ⟨false, p.from_, p.to_⟩ ++ [textB p.mets.length, textB p.fees.length, textB p.chgs.length]
def rowT (p : Plan) : List ByteArray := headT p ++ p.mets.flatMap metT ++ p.fees.flatMap feeT ++ p.chgs.flatMap chgT
/-- no row of a plan is longer than this -/
structure Small (p : Plan) : Prop where
  mets : p.mets.length ≤ 10000
  fees : p.fees.length ≤ 10000
  chgs : p.chgs.length ≤ 10000
  tiers : ∀ c ∈ p.chgs, c.tiers.length ≤ 10000
  adjs : ∀ c ∈ p.chgs, c.adjs.length ≤ 10000
theorem flat_take {α β : Type} (f : α → List β) {l : List α} {k : Nat} {a : α} (h : l[k]? = some a) : (l.take (k + 1)).flatMap f = (l.take k).flatMap f ++ f a := by
  rw [List.take_add_one, List.flatMap_append, h]
  simp
theorem flat_le {α β : Type} (f : α → List β) (n : Nat) : ∀ l : List α, (∀ a ∈ l, (f a).length ≤ n) → (l.flatMap f).length ≤ l.length * n
  | [], _ => by simp
  | a :: l, h => by
    have h1 := flat_le f n l (fun b hb => h b (by simp [hb]))
    have h2 := h a (by simp)
    rw [List.flatMap_cons, List.length_append, List.length_cons, Nat.succ_mul]
    omega
theorem winT_len (x : Win) : (winT x).length = 7 := rfl
theorem str_flat (l : List ByteArray) : l.flatMap strF = l.map Value.string := by
  induction l with
  | nil => rfl
  | cons a l ih => simp [strF, ih]
theorem strInfo : (Tryd.prog.info? 9).map (fun i => (i.zero, i.size, i.bytes)) = some (some (.string ⟨#[]⟩), 1, 16) := by kernel_rfl
/-- within Row: the plan's own block, and what has been written -/
structure RW (w0 w : World) (C : Array Value) (v : Value) (l : List ByteArray) : Prop where
  lb : LB w0 w
  kp : Blk w w0.heap.size 29 C
  out : w.ownsRow w0.heap.size 9 1 v l.length (l.flatMap strF)
section
variable {w0 w w' : World} {C : Array Value} {v : Value} {l : List ByteArray}
theorem RW.below (h : RW w0 w C v l) (hb : Below w.heap.size w w') : RW w0 w' C v l := ⟨h.lb.call hb, h.kp.call hb, own_keep h.out fun g hg => hb.block g (h.out.lt g hg).2⟩
theorem RW.alloc (h : RW w0 w C v l) (o : Obj) : RW w0 (w.alloc o) C v l := h.below (bl_alloc (bl_refl _) o)
theorem RW.drew (h : RW w0 w C v l) : RW w0 w.drew C v l := h.below (bl_drew (bl_refl _))
theorem RW.add {v' : Value} {m : Nat} {news : List Value} {l' : List ByteArray} (h : RW w0 w C v l) (hg : w.grownBy w' v.ownBlock) (ho : w'.ownsRow w0.heap.size 9 1 v' (l.length + m) (l.flatMap strF ++ news)) (hm : l'.length = m) (hn : l'.flatMap strF = news) : RW w0 w' C v' (l ++ l') :=
  ⟨⟨h.lb.out.grown hg h.lb.out.size (fun k hk => (h.out.lt k hk).1)⟩, h.kp.grown hg (fun e => own_ne_blk h.out h.kp (by decide) e.symm), by rw [List.length_append, hm, List.flatMap_append, hn]; exact ho⟩
theorem RW.apart (h : RW w0 w C v l) {g : Nat} {T : TypeId} {cells : Array Value} (hk : Blk w g T cells) (hT : 9 ≠ T) : some g ≠ v.ownBlock := fun e => own_ne_blk h.out hk hT e.symm
theorem RW.lt (h : RW w0 w C v l) : w0.heap.size < w.heap.size := h.kp.lt
end
set_option maxHeartbeats 16000000 in
set_option maxRecDepth 100000 in
theorem row_any {B : Nat} {p : Plan} {mv fv cv : Value} {cs : List CT} (w : World) (h : Rows w B p mv fv cv cs) (hsm : Small p) : Calls Tryd.prog 55 #[.agg (planC p mv fv cv)] w fun e w' => ∃ v, e = .returned v ∧ w'.ownsRow w.heap.size 9 1 v (rowT p).length ((rowT p).flatMap strF) ∧ Below w.heap.size w w' := by
  obtain ⟨Am, cm, rfl, hm1, hm2, hm3⟩ := Lies.open (f := metF) (l := p.mets) (Lies.of h.mo)
  obtain ⟨Af, cf, rfl, hf1, hf2, hf3⟩ := Lies.open (f := feeF) (l := p.fees) (Lies.of h.fo)
  obtain ⟨Ac, cc, rfl, hc1, hc2, hc3⟩ := Lies.open (f := chgF) (l := cs) (Lies.of h.co)
  have hcl : cs.length = p.chgs.length := by have := congrArg List.length h.eq; rwa [List.length_map] at this
  obtain ⟨n1, n2, n3, n4, n5⟩ := hsm
  replace n4 := Lib.hid n4
  replace n5 := Lib.hid n5
  have hR := Lib.hid h
  have hcl2 := Lib.hid hcl
  have n3' : cs.length ≤ 10000 := by omega
  clear h hcl
  obtain ⟨iS, hS0, hS1, hS2, hS3⟩ := info_parts strInfo
  have kb := Blk.new w 29 (planC p (.slice Am p.mets.length cm) (.slice Af p.fees.length cf) (.slice Ac cs.length cc))
  obtain ⟨c0, c1, c2, c3, c4, c5, c6, c7, c8, c9, c10, c11, c12, f0, f1, f2, f3, f4, f5, f6, f7, f8, f9, f10, f11, f12⟩ := kb.c13
  clear f0 f1 f2 f3 f4 f5 f6 f7 f8 f9 f10 f11 f12
  unfold planC
  have hW0 : RW w ((w.alloc (.cells #[.string p.name, .string p.cur, .int .i64 p.from_.1, .int .i64 p.from_.2.1, .int .i64 p.from_.2.2, .int .i64 p.to_.1, .int .i64 p.to_.2.1, .int .i64 p.to_.2.2, .slice Am p.mets.length cm, .slice Af p.fees.length cf, .slice Ac cs.length cc, .int .i64 p.line, .int .i64 p.col] 29)).alloc (.cells #[.string p.name, .string p.cur] 9)) (planC p (.slice Am p.mets.length cm) (.slice Af p.fees.length cf) (.slice Ac cs.length cc)) (.slice (some ⟨w.heap.size + 1, 0, none⟩) 2 2) [p.name, p.cur] := by
    refine ⟨⟨bl_alloc (bl_alloc (bl_refl w) _) _⟩, kb.alloc _, ?_⟩
    have hk := Blk.new (w.alloc (.cells #[.string p.name, .string p.cur, .int .i64 p.from_.1, .int .i64 p.from_.2.1, .int .i64 p.from_.2.2, .int .i64 p.to_.1, .int .i64 p.to_.2.1, .int .i64 p.to_.2.2, .slice Am p.mets.length cm, .slice Af p.fees.length cf, .slice Ac cs.length cc, .int .i64 p.line, .int .i64 p.col] 29)) 9 #[.string p.name, .string p.cur]
    rw [World.size_alloc] at hk
    exact ⟨rfl, .inr ⟨w.heap.size + 1, 2, _, rfl, Nat.le_succ _, hk, Nat.le_refl _, by decide, rfl, rfl⟩⟩
  have hwn := fun (W : World) => win6_any ⟨false, p.from_, p.to_⟩ W
  simp only at hwn
  replace hwn := Lib.hid hwn
  clear kb
  go_enter Tryd.func55, Tryd.ntmps55
  go_wp2_with fail
  refine (hwn.out _).mono ?_
  rintro e w1 ⟨g1, rfl, hk1, hg1, hb1⟩
  have hW1 := hW0.below hb1
  clear hW0 hb1 hwn c0 c1 c2 c3 c4 c5 c6 c7 c8 c9 c10 c11 c12
  have hl1 := hW1.lt
  go_wp2_with (at_builtin; refine wpList_append_lies _ rfl (.tmp 19) (.tmp 25) 79 rfl w.heap.size 9 iS _ 1 16 Tryd.underlying79 hS0 hS1 hS2 hS3 (by rfl) (by decide) _ _ _ (by rfl) hW1.out ⟨g1, 0, none⟩ 7 7 ((winT ⟨false, p.from_, p.to_⟩).map Value.string) (by rfl) (by rfl) (World.news_of_block (fr := (0, 0)) hk1) (by intro u hu; obtain ⟨b, _, rfl⟩ := List.mem_map.1 hu; rfl) (by decide) (by (try simp only [List.length_cons, List.length_nil, List.length_append, winT_len]); unfold maxLen; omega) (by (try simp only [List.length_cons, List.length_nil, List.length_append, winT_len]); omega) hW1.lb.out.size _ rfl ?_; intro g cp w10 hown10 hgrow10 hat10 hlt10; (have hW10 := hW1.add (l' := winT ⟨false, p.from_, p.to_⟩) hgrow10 hown10 rfl (str_flat _)))
  have hW2 := hW10
  have kP2 := hW2.kp
  unfold planC at kP2
  clear hW1 hk1 hgrow10 hown10 hat10 hlt10 hW10 hl1
  have kd_ : Blk w10.drew w.heap.size 29 #[.string p.name, .string p.cur, .int .i64 p.from_.1, .int .i64 p.from_.2.1, .int .i64 p.from_.2.2, .int .i64 p.to_.1, .int .i64 p.to_.2.1, .int .i64 p.to_.2.2, .slice Am p.mets.length cm, .slice Af p.fees.length cf, .slice Ac cs.length cc, .int .i64 p.line, .int .i64 p.col] := kP2.drew
  have hd_ : RW w w10.drew (planC p (.slice Am p.mets.length cm) (.slice Af p.fees.length cf) (.slice Ac cs.length cc)) (.slice (some ⟨g, 0, none⟩) ([p.name, p.cur].length + 7) cp) ([p.name, p.cur] ++ winT ⟨false, p.from_, p.to_⟩) := hW2.drew
  obtain ⟨_, _, _, _, _, _, _, _, k8_, k9_, k10_, _, _, _, _, _, _, _, _, _, _, _, _, _, _, _⟩ := kd_.c13
  go_region_held3 (fun w' => w'.cell? ⟨w.heap.size, 8, none⟩ = some (.slice Am p.mets.length cm) ∧ w'.cell? ⟨w.heap.size, 9, none⟩ = some (.slice Af p.fees.length cf) ∧ w'.cell? ⟨w.heap.size, 10, none⟩ = some (.slice Ac cs.length cc))
    (refine ⟨?_, ?_, ?_⟩ <;> first | with_reducible assumption | exact LB.alloc (by with_reducible assumption) _ | (go_keep; done))
    ((first | (refine step_append_lies _ (by rfl) (.tmp 27) (.tmp 40) 79 (by rfl) w.heap.size 9 iS _ 1 16 Tryd.underlying79 hS0 hS1 hS2 hS3 (by rfl) (by decide) _ _ _ (by rfl) (hW6.alloc _).out ⟨w6.heap.size, 0, none⟩ 3 3 [.string (textB p.mets.length), .string (textB p.fees.length), .string (textB cs.length)] (by rfl) rfl (World.news_of_block (cs := #[.string (textB p.mets.length), .string (textB p.fees.length), .string (textB cs.length)]) (t := 9) (fr := (0, 0)) (heap_alloc_new _ _)) (by simp [Value.oneCell']) (by decide) (by (try simp only [List.length_cons, List.length_nil, List.length_append, winT_len]); unfold maxLen; omega) (by (try simp only [List.length_cons, List.length_nil, List.length_append, winT_len]); omega) (hW6.alloc _).lb.out.size _ rfl ?_; intro g cp w10 hown10 hgrow10 hat10 hlt10; (have hW10 := (hW6.alloc _).add (l' := [textB p.mets.length, textB p.fees.length, textB cs.length]) hgrow10 hown10 rfl rfl); (have hl6 := hW6.lt); (have kX := kA.grown hgrow10 ((hW6.alloc _).apart kA (by decide))); obtain ⟨_, _, _, _, _, _, _, _, x8_, x9_, x10_, _, _, _, _, _, _, _, _, _, _, _, _, _, _, _⟩ := kX.c13) | (go_at_call 95; refine (text_any _ _).mono ?_; rintro e w6 ⟨rfl, hb6⟩; (have kW : Blk w6 w.heap.size 29 #[.string p.name, .string p.cur, .int .i64 p.from_.1, .int .i64 p.from_.2.1, .int .i64 p.from_.2.2, .int .i64 p.to_.1, .int .i64 p.to_.2.1, .int .i64 p.to_.2.2, .slice Am p.mets.length cm, .slice Af p.fees.length cf, .slice Ac cs.length cc, .int .i64 p.line, .int .i64 p.col] := Blk.call (by with_reducible assumption) hb6); obtain ⟨_, _, _, _, _, _, _, _, j8_, j9_, j10_, _, _, _, _, _, _, _, _, _, _, _, _, _, _, _⟩ := kW.c13; (have hW6 : RW w w6 (planC p (.slice Am p.mets.length cm) (.slice Af p.fees.length cf) (.slice Ac cs.length cc)) (.slice (some ⟨g, 0, none⟩) ([p.name, p.cur].length + 7) cp) ([p.name, p.cur] ++ winT ⟨false, p.from_, p.to_⟩) := RW.below (by with_reducible assumption) hb6); (have kA := kW.alloc (.cells #[.string (textB p.mets.length), .string (textB p.fees.length), .string (textB cs.length)] 9)); obtain ⟨_, _, _, _, _, _, _, _, a8_, a9_, a10_, _, _, _, _, _, _, _, _, _, _, _, _, _, _, _⟩ := kA.c13)))
  have hW3 := hW10
  have hH : ([p.name, p.cur] ++ winT ⟨false, p.from_, p.to_⟩) ++ [textB p.mets.length, textB p.fees.length, textB cs.length] = headT p := by unfold headT; rw [hcl2.out]
  rw [hH] at hW3
  clear hH hW2 kP2 hW6 hl6 hgrow10 hown10 hat10 hlt10 hW10 kA kX kW kd_ hd_ hb6 k8_ k9_ k10_ j8_ j9_ j10_ a8_ a9_ a10_ x8_ x9_ x10_
  have hP3 := hW3.kp
  unfold planC at hP3
  obtain ⟨_, _, _, _, _, _, _, _, z8_, z9_, z10_, _, _, _, _, _, _, _, _, _, _, _, _, _, _, _⟩ := hP3.c13
  go_wp2_with fail
  go_loopg [3, 45] p.mets.length (fun n_ v3_ vi_ wr => ∃ k : Nat, k ≤ p.mets.length ∧ vi_ = .int .i64 k ∧ n_ = p.mets.length - k ∧ RW w wr (planC p (.slice Am p.mets.length cm) (.slice Af p.fees.length cf) (.slice Ac cs.length cc)) v3_ (headT p ++ (p.mets.take k).flatMap metT))
  case atStart => exact ⟨0, Nat.zero_le _, rfl, rfl, by simpa using hW3⟩
  case round =>
    obtain ⟨k, hk, rfl, rfl, hW⟩ := hrel
    clear hW3 hP3 z8_ z9_ z10_
    by_cases hlt : k < p.mets.length
    · obtain ⟨m, hi⟩ : ∃ m, p.mets[k]? = some m := ⟨_, List.getElem?_eq_getElem hlt⟩
      obtain ⟨gm, rfl, hgm⟩ := hm3 (by omega)
      obtain ⟨L, hL⟩ : ∃ L, L = headT p ++ (p.mets.take k).flatMap metT := ⟨_, rfl⟩
      rw [← hL] at hW
      have hln : L.length ≤ 100000 := by
        have h1 := flat_le metT 3 (p.mets.take k) (fun _ _ => Nat.le_refl 3)
        have h2 : (headT p).length = 12 := rfl
        rw [List.length_take] at h1
        rw [hL, List.length_append]
        omega
      replace hL := Lib.hid hL
      have hLs := (Lies.of (hR.out.below hW.lb.out).mo : Lies metF 44 5 wr (.slice (some ⟨gm, 0, none⟩) p.mets.length cm) p.mets)
      have y0 := hLs.at metF_len hi (j := 0) rfl
      have y1 := hLs.at metF_len hi (j := 1) rfl
      have y2 := hLs.at metF_len hi (j := 2) rfl
      have y3 := hLs.at metF_len hi (j := 3) rfl
      have y4 := hLs.at metF_len hi (j := 4) rfl
      simp only [Nat.add_zero] at y0
      have b0 : (0 : Int) ≤ (k : Int) := by omega
      have b1 : (k : Int) < (p.mets.length : Int) := by omega
      have hlw := hW.lt
      have hWa := hW.alloc (.cells #[.string m.name, .string m.unit, .int .i64 m.max, .int .i64 m.line, .int .i64 m.col] 44)
      have kM := Blk.new wr 44 #[.string m.name, .string m.unit, .int .i64 m.max, .int .i64 m.line, .int .i64 m.col]
      replace hi := Lib.hid hi
      clear hLs
      go_wp2_with fail
      clear y0 y1 y2 y3 y4 hW
      generalize wr.alloc (.cells #[.string m.name, .string m.unit, .int .i64 m.max, .int .i64 m.line, .int .i64 m.col] 44) = W at *
      have kd_ : Blk W.drew wr.heap.size 44 #[.string m.name, .string m.unit, .int .i64 m.max, .int .i64 m.line, .int .i64 m.col] := kM.drew
      have hd_ : RW w W.drew (planC p (.slice (some ⟨gm, 0, none⟩) p.mets.length cm) (.slice Af p.fees.length cf) (.slice Ac cs.length cc)) u3 L := hWa.drew
      obtain ⟨k0_, k1_, k2_, _, _, _, _, _, _, _⟩ := kd_.c5
      go_region_held3 (fun w' => w'.cell? ⟨wr.heap.size, 0, none⟩ = some (.string m.name) ∧ w'.cell? ⟨wr.heap.size, 1, none⟩ = some (.string m.unit) ∧ w'.cell? ⟨wr.heap.size, 2, none⟩ = some (.int .i64 m.max))
        (refine ⟨?_, ?_, ?_⟩ <;> first | with_reducible assumption | exact LB.alloc (by with_reducible assumption) _ | (go_keep; done))
        ((first | (refine step_append_lies _ (by rfl) (.tmp 49) (.tmp 57) 79 (by rfl) w.heap.size 9 iS _ 1 16 Tryd.underlying79 hS0 hS1 hS2 hS3 (by rfl) (by decide) _ _ _ (by rfl) (hW6.alloc _).out ⟨w6.heap.size, 0, none⟩ 3 3 [.string m.name, .string m.unit, .string (textB m.max)] (by rfl) rfl (World.news_of_block (cs := #[.string m.name, .string m.unit, .string (textB m.max)]) (t := 9) (fr := (0, 0)) (heap_alloc_new _ _)) (by simp [Value.oneCell']) (by decide) (by (try simp only [List.length_cons, List.length_nil, List.length_append, winT_len]); unfold maxLen; omega) (by (try simp only [List.length_cons, List.length_nil, List.length_append, winT_len]); omega) (hW6.alloc _).lb.out.size _ rfl ?_; intro g cp w10 hown10 hgrow10 hat10 hlt10; (have hW10 := (hW6.alloc _).add (l' := [m.name, m.unit, textB m.max]) hgrow10 hown10 rfl rfl); (have hl6 := hW6.lt); (have kX := kA.grown hgrow10 ((hW6.alloc _).apart kA (by decide))); obtain ⟨x0_, x1_, x2_, _, _, _, _, _, _, _⟩ := kX.c5) | (go_at_call 95; refine (text_any _ _).mono ?_; rintro e w6 ⟨rfl, hb6⟩; (have kW : Blk w6 wr.heap.size 44 #[.string m.name, .string m.unit, .int .i64 m.max, .int .i64 m.line, .int .i64 m.col] := Blk.call (by with_reducible assumption) hb6); obtain ⟨j0_, j1_, j2_, _, _, _, _, _, _, _⟩ := kW.c5; (have hW6 : RW w w6 (planC p (.slice (some ⟨gm, 0, none⟩) p.mets.length cm) (.slice Af p.fees.length cf) (.slice Ac cs.length cc)) u3 L := RW.below (by with_reducible assumption) hb6); (have kA := kW.alloc (.cells #[.string m.name, .string m.unit, .string (textB m.max)] 9)); obtain ⟨a0_, a1_, a2_, _, _, _, _, _, _, _⟩ := kA.c5)))
      go_wp2_with fail
      go_roundg (p.mets.length - (k + 1))
      case rel => exact ⟨k + 1, by omega, by go_num, rfl, by rw [flat_take metT hi.out, ← List.append_assoc, ← hL.out]; exact hW10⟩
      case measure => omega
    · obtain rfl : k = p.mets.length := by omega
      rw [List.take_length] at hW
      have hW4 := hW
      clear hW
      have hP := hW4.kp
      unfold planC at hP
      obtain ⟨_, _, _, _, _, _, _, _, z8_, z9_, z10_, _, _, _, _, _, _, _, _, _, _, _, _, _, _, _⟩ := hP.c13
      go_wp2_with fail
      go_loopg [3, 63] p.fees.length (fun n_ v3_ vi_ wr => ∃ k : Nat, k ≤ p.fees.length ∧ vi_ = .int .i64 k ∧ n_ = p.fees.length - k ∧ RW w wr (planC p (.slice Am p.mets.length cm) (.slice Af p.fees.length cf) (.slice Ac cs.length cc)) v3_ ((headT p ++ p.mets.flatMap metT) ++ (p.fees.take k).flatMap feeT))
      case atStart => exact ⟨0, Nat.zero_le _, rfl, rfl, by simpa using hW4⟩
      case round =>
        obtain ⟨k, hk, rfl, rfl, hW⟩ := hrel
        clear hW4 hP z8_ z9_ z10_
        by_cases hlt : k < p.fees.length
        · obtain ⟨f, hi⟩ : ∃ f, p.fees[k]? = some f := ⟨_, List.getElem?_eq_getElem hlt⟩
          obtain ⟨gf, rfl, hgf⟩ := hf3 (by omega)
          obtain ⟨L, hL⟩ : ∃ L, L = headT p ++ p.mets.flatMap metT ++ (p.fees.take k).flatMap feeT := ⟨_, rfl⟩
          rw [← hL] at hW
          have hln : L.length ≤ 1000000 := by
            have h1 := flat_le feeT 8 (p.fees.take k) (fun _ _ => Nat.le_refl 8)
            have h3 := flat_le metT 3 p.mets (fun _ _ => Nat.le_refl 3)
            have h2 : (headT p).length = 12 := rfl
            rw [List.length_take] at h1
            rw [hL, List.length_append, List.length_append]
            omega
          replace hL := Lib.hid hL
          have hLs := (Lies.of (hR.out.below hW.lb.out).fo : Lies feeF 48 10 wr (.slice (some ⟨gf, 0, none⟩) p.fees.length cf) p.fees)
          have y0 := hLs.at feeF_len hi (j := 0) rfl
          have y1 := hLs.at feeF_len hi (j := 1) rfl
          have y2 := hLs.at feeF_len hi (j := 2) rfl
          have y3 := hLs.at feeF_len hi (j := 3) rfl
          have y4 := hLs.at feeF_len hi (j := 4) rfl
          have y5 := hLs.at feeF_len hi (j := 5) rfl
          have y6 := hLs.at feeF_len hi (j := 6) rfl
          have y7 := hLs.at feeF_len hi (j := 7) rfl
          have y8 := hLs.at feeF_len hi (j := 8) rfl
          have y9 := hLs.at feeF_len hi (j := 9) rfl
          simp only [Nat.add_zero] at y0
          have b0 : (0 : Int) ≤ (k : Int) := by omega
          have b1 : (k : Int) < (p.fees.length : Int) := by omega
          have hlw := hW.lt
          have hWa := hW.alloc (.cells #[.int .i64 f.amount, .bool f.win.has, .int .i64 f.win.from_.1, .int .i64 f.win.from_.2.1, .int .i64 f.win.from_.2.2, .int .i64 f.win.to_.1, .int .i64 f.win.to_.2.1, .int .i64 f.win.to_.2.2, .int .i64 f.line, .int .i64 f.col] 48)
          have kM := Blk.new wr 48 #[.int .i64 f.amount, .bool f.win.has, .int .i64 f.win.from_.1, .int .i64 f.win.from_.2.1, .int .i64 f.win.from_.2.2, .int .i64 f.win.to_.1, .int .i64 f.win.to_.2.1, .int .i64 f.win.to_.2.2, .int .i64 f.line, .int .i64 f.col]
          replace hi := Lib.hid hi
          clear hLs
          go_wp2_with fail
          clear y0 y1 y2 y3 y4 y5 y6 y7 y8 y9 hW
          generalize wr.alloc (.cells #[.int .i64 f.amount, .bool f.win.has, .int .i64 f.win.from_.1, .int .i64 f.win.from_.2.1, .int .i64 f.win.from_.2.2, .int .i64 f.win.to_.1, .int .i64 f.win.to_.2.1, .int .i64 f.win.to_.2.2, .int .i64 f.line, .int .i64 f.col] 48) = W at *
          have hlW := hWa.lt
          have kd_ : Blk W.drew wr.heap.size 48 #[.int .i64 f.amount, .bool f.win.has, .int .i64 f.win.from_.1, .int .i64 f.win.from_.2.1, .int .i64 f.win.from_.2.2, .int .i64 f.win.to_.1, .int .i64 f.win.to_.2.1, .int .i64 f.win.to_.2.2, .int .i64 f.line, .int .i64 f.col] := kM.drew
          have hd_ : RW w W.drew (planC p (.slice Am p.mets.length cm) (.slice (some ⟨gf, 0, none⟩) p.fees.length cf) (.slice Ac cs.length cc)) u3 L := hWa.drew
          obtain ⟨k0_, k1_, k2_, k3_, k4_, k5_, k6_, k7_, _, _, _, _, _, _, _, _, _, _, _, _⟩ := kd_.c10
          go_region_held3 (fun w' => w'.cell? ⟨wr.heap.size, 0, none⟩ = some (.int .i64 f.amount) ∧ w'.cell? ⟨wr.heap.size, 1, none⟩ = some (.bool f.win.has) ∧ w'.cell? ⟨wr.heap.size, 2, none⟩ = some (.int .i64 f.win.from_.1) ∧ w'.cell? ⟨wr.heap.size, 3, none⟩ = some (.int .i64 f.win.from_.2.1) ∧ w'.cell? ⟨wr.heap.size, 4, none⟩ = some (.int .i64 f.win.from_.2.2) ∧ w'.cell? ⟨wr.heap.size, 5, none⟩ = some (.int .i64 f.win.to_.1) ∧ w'.cell? ⟨wr.heap.size, 6, none⟩ = some (.int .i64 f.win.to_.2.1) ∧ w'.cell? ⟨wr.heap.size, 7, none⟩ = some (.int .i64 f.win.to_.2.2))
            (refine ⟨?_, ?_, ?_, ?_, ?_, ?_, ?_, ?_⟩ <;> first | with_reducible assumption | exact LB.alloc (by with_reducible assumption) _ | (go_keep; done))
            ((first | (refine step_append_lies _ (by rfl) (.tmp 72) (.tmp 75) 79 (by rfl) w.heap.size 9 iS _ 1 16 Tryd.underlying79 hS0 hS1 hS2 hS3 (by rfl) (by decide) _ _ _ (by rfl) hW11.out ⟨g1, 0, none⟩ 7 7 ((winT f.win).map Value.string) (by rfl) (by rfl) (World.news_of_block (fr := (0, 0)) hk1) (by intro u hu; obtain ⟨b, _, rfl⟩ := List.mem_map.1 hu; rfl) (by decide) (by (try simp only [List.length_cons, List.length_nil, List.length_append, winT_len]); unfold maxLen; omega) (by (try simp only [List.length_cons, List.length_nil, List.length_append, winT_len]); omega) hW11.lb.out.size _ rfl ?_; intro g2 cp2 w12 hown12 hgrow12 hat12 hlt12; (have hW12 := hW11.add (l' := winT f.win) hgrow12 hown12 rfl (str_flat _)); (have kZ := kY.grown hgrow12 (hW11.apart kY (by decide))); obtain ⟨q0_, q1_, q2_, q3_, q4_, q5_, q6_, q7_, _, _, _, _, _, _, _, _, _, _, _, _⟩ := kZ.c10) | (refine step_append_lies _ (by rfl) (.tmp 67) (.tmp 71) 79 (by rfl) w.heap.size 9 iS _ 1 16 Tryd.underlying79 hS0 hS1 hS2 hS3 (by rfl) (by decide) _ _ _ (by rfl) (hW6.alloc _).out ⟨w6.heap.size, 0, none⟩ 1 1 [.string (textB f.amount)] (by rfl) rfl (World.news_of_block (cs := #[.string (textB f.amount)]) (t := 9) (fr := (0, 0)) (heap_alloc_new _ _)) (by simp [Value.oneCell']) (by decide) (by (try simp only [List.length_cons, List.length_nil, List.length_append, winT_len]); unfold maxLen; omega) (by (try simp only [List.length_cons, List.length_nil, List.length_append, winT_len]); omega) (hW6.alloc _).lb.out.size _ rfl ?_; intro g cp w10 hown10 hgrow10 hat10 hlt10; (have hW10 := (hW6.alloc _).add (l' := [textB f.amount]) hgrow10 hown10 rfl rfl); (have hl6 := hW6.lt); (have kX := kA.grown hgrow10 ((hW6.alloc _).apart kA (by decide))); obtain ⟨x0_, x1_, x2_, x3_, x4_, x5_, x6_, x7_, _, _, _, _, _, _, _, _, _, _, _, _⟩ := kX.c10) | (go_at_call 95; refine (text_any _ _).mono ?_; rintro e w6 ⟨rfl, hb6⟩; (have kW : Blk w6 wr.heap.size 48 #[.int .i64 f.amount, .bool f.win.has, .int .i64 f.win.from_.1, .int .i64 f.win.from_.2.1, .int .i64 f.win.from_.2.2, .int .i64 f.win.to_.1, .int .i64 f.win.to_.2.1, .int .i64 f.win.to_.2.2, .int .i64 f.line, .int .i64 f.col] := Blk.call kd_ hb6); obtain ⟨j0_, j1_, j2_, j3_, j4_, j5_, j6_, j7_, _, _, _, _, _, _, _, _, _, _, _, _⟩ := kW.c10; (have hW6 : RW w w6 (planC p (.slice Am p.mets.length cm) (.slice (some ⟨gf, 0, none⟩) p.fees.length cf) (.slice Ac cs.length cc)) u3 L := RW.below hd_ hb6); (have kA := kW.alloc (.cells #[.string (textB f.amount)] 9)); obtain ⟨a0_, a1_, a2_, a3_, a4_, a5_, a6_, a7_, _, _, _, _, _, _, _, _, _, _, _, _⟩ := kA.c10) | (go_at_call 94; refine (win6_any f.win _).mono ?_; rintro e w11 ⟨g1, rfl, hk1, hg1, hb11⟩; (have kY := kX.call hb11); obtain ⟨v0_, v1_, v2_, v3_, v4_, v5_, v6_, v7_, _, _, _, _, _, _, _, _, _, _, _, _⟩ := kY.c10; (have hW11 := hW10.below hb11))))
          go_wp2_with fail
          go_roundg (p.fees.length - (k + 1))
          case rel => exact ⟨k + 1, by omega, by go_num, rfl, by rw [flat_take feeT hi.out, ← List.append_assoc, ← hL.out]; unfold feeT; rw [← List.append_assoc]; simp only [List.length_append, List.length_singleton] at hW12; exact hW12⟩
          case measure => omega
        · obtain rfl : k = p.fees.length := by omega
          rw [List.take_length] at hW
          have hW5 := hW
          clear hW
          have hP := hW5.kp
          unfold planC at hP
          obtain ⟨_, _, _, _, _, _, _, _, z8_, z9_, z10_, _, _, _, _, _, _, _, _, _, _, _, _, _, _, _⟩ := hP.c13
          go_wp2_with fail
          go_loopg [3, 81] cs.length (fun n_ v3_ vi_ wr => ∃ k : Nat, k ≤ cs.length ∧ vi_ = .int .i64 k ∧ n_ = cs.length - k ∧ RW w wr (planC p (.slice Am p.mets.length cm) (.slice Af p.fees.length cf) (.slice Ac cs.length cc)) v3_ ((headT p ++ p.mets.flatMap metT ++ p.fees.flatMap feeT) ++ (cs.take k).flatMap (fun x => chgT x.1)))
          case atStart => exact ⟨0, Nat.zero_le _, rfl, rfl, by simpa using hW5⟩
          case round =>
            obtain ⟨k, hk, rfl, rfl, hW⟩ := hrel
            clear hW5 hP z8_ z9_ z10_
            by_cases hlt : k < cs.length
            · obtain ⟨⟨c, tv, av⟩, hi⟩ : ∃ c, cs[k]? = some c := ⟨_, List.getElem?_eq_getElem hlt⟩
              have hmem : (c, tv, av) ∈ cs := List.mem_of_getElem? hi
              have hcm : c ∈ p.chgs := by rw [← hR.out.eq]; exact List.mem_map.2 ⟨_, hmem, rfl⟩
              have q4 := n4.out c hcm
              have q5 := n5.out c hcm
              have hti := (hR.out.ne _ hmem).1
              have haj := (hR.out.ne _ hmem).2
              simp only at hti haj
              obtain ⟨At, ct, rfl, ht1, ht2, ht3⟩ := Lies.open (f := tierF) (l := c.tiers) (Lies.of hti)
              obtain ⟨Aa, ca, rfl, ha1, ha2, ha3⟩ := Lies.open (f := adjF) (l := c.adjs) (Lies.of haj)
              replace hti := Lib.hid hti
              replace haj := Lib.hid haj
              replace hmem := Lib.hid hmem
              clear hcm
              obtain ⟨gc, rfl, hgc⟩ := hc3 (by omega)
              obtain ⟨L, hL⟩ : ∃ L, L = headT p ++ p.mets.flatMap metT ++ p.fees.flatMap feeT ++ (cs.take k).flatMap (fun x => chgT x.1) := ⟨_, rfl⟩
              rw [← hL] at hW
              have hln : L.length ≤ 600000000 := by
                have h1 := flat_le (fun x : CT => chgT x.1) 50014 (cs.take k) (fun x hx => by
                  have hm := List.mem_of_mem_take hx
                  have hm2 : x.1 ∈ p.chgs := by rw [← hR.out.eq]; exact List.mem_map.2 ⟨_, hm, rfl⟩
                  have e4 := n4.out x.1 hm2
                  have e5 := n5.out x.1 hm2
                  have e6 := flat_le tierT 2 x.1.tiers (fun _ _ => Nat.le_refl 2)
                  have e7 := flat_le adjT 3 x.1.adjs (fun _ _ => Nat.le_refl 3)
                  have e8 : (chgH x.1).length = 14 := rfl
                  show (chgH x.1 ++ x.1.tiers.flatMap tierT ++ x.1.adjs.flatMap adjT).length ≤ 50014
                  rw [List.length_append, List.length_append]
                  omega)
                have h3 := flat_le metT 3 p.mets (fun _ _ => Nat.le_refl 3)
                have h4 := flat_le feeT 8 p.fees (fun _ _ => Nat.le_refl 8)
                have h2 : (headT p).length = 12 := rfl
                rw [List.length_take] at h1
                rw [hL, List.length_append, List.length_append, List.length_append]
                omega
              replace hL := Lib.hid hL
              have hLs := (Lies.of (hR.out.below hW.lb.out).co : Lies chgF 52 16 wr (.slice (some ⟨gc, 0, none⟩) cs.length cc) cs)
              have y0 := hLs.at chgF_len hi (j := 0) rfl
              have y1 := hLs.at chgF_len hi (j := 1) rfl
              have y2 := hLs.at chgF_len hi (j := 2) rfl
              have y3 := hLs.at chgF_len hi (j := 3) rfl
              have y4 := hLs.at chgF_len hi (j := 4) rfl
              have y5 := hLs.at chgF_len hi (j := 5) rfl
              have y6 := hLs.at chgF_len hi (j := 6) rfl
              have y7 := hLs.at chgF_len hi (j := 7) rfl
              have y8 := hLs.at chgF_len hi (j := 8) rfl
              have y9 := hLs.at chgF_len hi (j := 9) rfl
              have y10 := hLs.at chgF_len hi (j := 10) rfl
              have y11 := hLs.at chgF_len hi (j := 11) rfl
              have y12 := hLs.at chgF_len hi (j := 12) rfl
              have y13 := hLs.at chgF_len hi (j := 13) rfl
              have y14 := hLs.at chgF_len hi (j := 14) rfl
              have y15 := hLs.at chgF_len hi (j := 15) rfl
              simp only [Nat.add_zero] at y0
              have b0 : (0 : Int) ≤ (k : Int) := by omega
              have b1 : (k : Int) < (cs.length : Int) := by omega
              have hlw := hW.lt
              have hWa := hW.alloc (.cells #[.string c.meter, .bool c.win.has, .int .i64 c.win.from_.1, .int .i64 c.win.from_.2.1, .int .i64 c.win.from_.2.2, .int .i64 c.win.to_.1, .int .i64 c.win.to_.2.1, .int .i64 c.win.to_.2.2, .int .i64 c.allow, .int .i64 c.block, .int .i64 c.kind, .slice At c.tiers.length ct, .int .i64 c.mode, .slice Aa c.adjs.length ca, .int .i64 c.line, .int .i64 c.col] 52)
              have kM := Blk.new wr 52 #[.string c.meter, .bool c.win.has, .int .i64 c.win.from_.1, .int .i64 c.win.from_.2.1, .int .i64 c.win.from_.2.2, .int .i64 c.win.to_.1, .int .i64 c.win.to_.2.1, .int .i64 c.win.to_.2.2, .int .i64 c.allow, .int .i64 c.block, .int .i64 c.kind, .slice At c.tiers.length ct, .int .i64 c.mode, .slice Aa c.adjs.length ca, .int .i64 c.line, .int .i64 c.col]
              replace hi := Lib.hid hi
              clear hLs
              go_wp2_with fail
              clear y0 y1 y2 y3 y4 y5 y6 y7 y8 y9 y10 y11 y12 y13 y14 y15 hW
              generalize wr.alloc (.cells #[.string c.meter, .bool c.win.has, .int .i64 c.win.from_.1, .int .i64 c.win.from_.2.1, .int .i64 c.win.from_.2.2, .int .i64 c.win.to_.1, .int .i64 c.win.to_.2.1, .int .i64 c.win.to_.2.2, .int .i64 c.allow, .int .i64 c.block, .int .i64 c.kind, .slice At c.tiers.length ct, .int .i64 c.mode, .slice Aa c.adjs.length ca, .int .i64 c.line, .int .i64 c.col] 52) = W at *
              have hlW := hWa.lt
              have hGW := kM.lt
              generalize wr.heap.size = GM at *
              have kd_ : Blk W.drew GM 52 #[.string c.meter, .bool c.win.has, .int .i64 c.win.from_.1, .int .i64 c.win.from_.2.1, .int .i64 c.win.from_.2.2, .int .i64 c.win.to_.1, .int .i64 c.win.to_.2.1, .int .i64 c.win.to_.2.2, .int .i64 c.allow, .int .i64 c.block, .int .i64 c.kind, .slice At c.tiers.length ct, .int .i64 c.mode, .slice Aa c.adjs.length ca, .int .i64 c.line, .int .i64 c.col] := kM.drew
              obtain ⟨k0_, k1_, k2_, k3_, k4_, k5_, k6_, k7_, _, _, _, _, _, _, _, _, _, _, _, _, _, _, _, _, _, _, _, _, _, _, _, _⟩ := kd_.c16
              have ke_ : Blk (W.alloc (.cells #[.string c.meter] 9)).drew GM 52 #[.string c.meter, .bool c.win.has, .int .i64 c.win.from_.1, .int .i64 c.win.from_.2.1, .int .i64 c.win.from_.2.2, .int .i64 c.win.to_.1, .int .i64 c.win.to_.2.1, .int .i64 c.win.to_.2.2, .int .i64 c.allow, .int .i64 c.block, .int .i64 c.kind, .slice At c.tiers.length ct, .int .i64 c.mode, .slice Aa c.adjs.length ca, .int .i64 c.line, .int .i64 c.col] := (kM.alloc (.cells #[.string c.meter] 9)).drew
              obtain ⟨e0_, e1_, e2_, e3_, e4_, e5_, e6_, e7_, _, _, _, _, _, _, _, _, _, _, _, _, _, _, _, _, _, _, _, _, _, _, _, _⟩ := ke_.c16
              have he_ : RW w (W.alloc (.cells #[.string c.meter] 9)).drew (planC p (.slice Am p.mets.length cm) (.slice Af p.fees.length cf) (.slice (some ⟨gc, 0, none⟩) cs.length cc)) u3 L := (hWa.alloc (.cells #[.string c.meter] 9)).drew
              have hne_ : (W.alloc (.cells #[.string c.meter] 9)).drew.heap[W.heap.size]? = some (.cells #[.string c.meter] 9) := heap_alloc_new W (.cells #[.string c.meter] 9)
              go_region_held3 (fun w' => w'.cell? ⟨GM, 0, none⟩ = some (.string c.meter) ∧ w'.cell? ⟨GM, 1, none⟩ = some (.bool c.win.has) ∧ w'.cell? ⟨GM, 2, none⟩ = some (.int .i64 c.win.from_.1) ∧ w'.cell? ⟨GM, 3, none⟩ = some (.int .i64 c.win.from_.2.1) ∧ w'.cell? ⟨GM, 4, none⟩ = some (.int .i64 c.win.from_.2.2) ∧ w'.cell? ⟨GM, 5, none⟩ = some (.int .i64 c.win.to_.1) ∧ w'.cell? ⟨GM, 6, none⟩ = some (.int .i64 c.win.to_.2.1) ∧ w'.cell? ⟨GM, 7, none⟩ = some (.int .i64 c.win.to_.2.2))
                (refine ⟨?_, ?_, ?_, ?_, ?_, ?_, ?_, ?_⟩ <;> first | with_reducible assumption | exact LB.alloc (by with_reducible assumption) _ | (go_keep; done))
                ((first | (refine step_append_lies _ (by rfl) (.tmp 89) (.tmp 92) 79 (by rfl) w.heap.size 9 iS _ 1 16 Tryd.underlying79 hS0 hS1 hS2 hS3 (by rfl) (by decide) _ _ _ (by rfl) hW11.out ⟨g1, 0, none⟩ 7 7 ((winT c.win).map Value.string) (by rfl) (by rfl) (World.news_of_block (fr := (0, 0)) hk1) (by intro u hu; obtain ⟨b, _, rfl⟩ := List.mem_map.1 hu; rfl) (by decide) (by (try simp only [List.length_cons, List.length_nil, List.length_append, winT_len]); unfold maxLen; omega) (by (try simp only [List.length_cons, List.length_nil, List.length_append, winT_len]); omega) hW11.lb.out.size _ rfl ?_; intro g2 cp2 w12 hown12 hgrow12 hat12 hlt12; (have hW12 := hW11.add (l' := winT c.win) hgrow12 hown12 rfl (str_flat _)); (have kZ := kY.grown hgrow12 (hW11.apart kY (by decide))); obtain ⟨q0_, q1_, q2_, q3_, q4_, q5_, q6_, q7_, _, _, _, _, _, _, _, _, _, _, _, _, _, _, _, _, _, _, _, _, _, _, _, _⟩ := kZ.c16) | (refine step_append_lies _ (by rfl) (.tmp 85) (.tmp 88) 79 (by rfl) w.heap.size 9 iS _ 1 16 Tryd.underlying79 hS0 hS1 hS2 hS3 (by rfl) (by decide) _ _ _ (by rfl) he_.out ⟨W.heap.size, 0, none⟩ 1 1 [.string c.meter] (by rfl) rfl (World.news_of_block (cs := #[.string c.meter]) (t := 9) (fr := (0, 0)) hne_) (by simp [Value.oneCell']) (by decide) (by (try simp only [List.length_cons, List.length_nil, List.length_append, winT_len]); unfold maxLen; omega) (by (try simp only [List.length_cons, List.length_nil, List.length_append, winT_len]); omega) he_.lb.out.size _ rfl ?_; intro g cp w10 hown10 hgrow10 hat10 hlt10; (have hW10 := he_.add (l' := [c.meter]) hgrow10 hown10 rfl rfl); (have kX := ke_.grown hgrow10 (he_.apart ke_ (by decide))); obtain ⟨x0_, x1_, x2_, x3_, x4_, x5_, x6_, x7_, _, _, _, _, _, _, _, _, _, _, _, _, _, _, _, _, _, _, _, _, _, _, _, _⟩ := kX.c16) | (go_at_call 94; refine (win6_any c.win _).mono ?_; rintro e w11 ⟨g1, rfl, hk1, hg1, hb11⟩; (have kY := kX.call hb11); obtain ⟨v0_, v1_, v2_, v3_, v4_, v5_, v6_, v7_, _, _, _, _, _, _, _, _, _, _, _, _, _, _, _, _, _, _, _, _, _, _, _, _⟩ := kY.c16; (have hW11 := hW10.below hb11))))
              simp only [List.length_append, List.length_singleton] at hW12
              clear k0_ k1_ k2_ k3_ k4_ k5_ k6_ k7_ e0_ e1_ e2_ e3_ e4_ e5_ e6_ e7_ x0_ x1_ x2_ x3_ x4_ x5_ x6_ x7_ v0_ v1_ v2_ v3_ v4_ v5_ v6_ v7_ q0_ q1_ q2_ q3_ q4_ q5_ q6_ q7_ kd_ ke_ he_ hne_ kX kY hk1 hW10 hW11 hgrow10 hgrow12 hown10 hown12 hat10 hat12 hlt10 hlt12
              go_wp2_with fail
              obtain ⟨L2, hL2⟩ : ∃ L2, L2 = L ++ [c.meter] ++ winT c.win := ⟨_, rfl⟩
              have hln3 : L2.length = L.length + 8 := by rw [hL2, List.length_append, List.length_append]; rfl
              rw [← hL2] at hW12
              rw [show L.length + 1 + 7 = L2.length from by omega] at hW12
              have hsv : (.slice (some ⟨g2, 0, none⟩) (L.length + 1 + 7) cp2 : Value) = (.slice (some ⟨g2, 0, none⟩) L2.length cp2) := by rw [hln3]
              rw [hsv]
              clear hsv
              replace hL2 := Lib.hid hL2
              replace hln3 := Lib.hid hln3
              have hln4 : L2.length ≤ 600000008 := by rw [hln3.out]; omega
              have kd_ : Blk w12.drew GM 52 #[.string c.meter, .bool c.win.has, .int .i64 c.win.from_.1, .int .i64 c.win.from_.2.1, .int .i64 c.win.from_.2.2, .int .i64 c.win.to_.1, .int .i64 c.win.to_.2.1, .int .i64 c.win.to_.2.2, .int .i64 c.allow, .int .i64 c.block, .int .i64 c.kind, .slice At c.tiers.length ct, .int .i64 c.mode, .slice Aa c.adjs.length ca, .int .i64 c.line, .int .i64 c.col] := kZ.drew
              have hd_ : RW w w12.drew (planC p (.slice Am p.mets.length cm) (.slice Af p.fees.length cf) (.slice (some ⟨gc, 0, none⟩) cs.length cc)) (.slice (some ⟨g2, 0, none⟩) L2.length cp2) L2 := hW12.drew
              obtain ⟨_, _, _, _, _, _, _, _, k8_, k9_, k10_, k11_, k12_, k13_, _, _, _, _, _, _, _, _, _, _, _, _, _, _, _, _, _, _⟩ := kd_.c16
              go_region_held3 (fun w' => w'.cell? ⟨GM, 8, none⟩ = some (.int .i64 c.allow) ∧ w'.cell? ⟨GM, 9, none⟩ = some (.int .i64 c.block) ∧ w'.cell? ⟨GM, 10, none⟩ = some (.int .i64 c.kind) ∧ w'.cell? ⟨GM, 11, none⟩ = some (.slice At c.tiers.length ct) ∧ w'.cell? ⟨GM, 12, none⟩ = some (.int .i64 c.mode) ∧ w'.cell? ⟨GM, 13, none⟩ = some (.slice Aa c.adjs.length ca))
                (refine ⟨?_, ?_, ?_, ?_, ?_, ?_⟩ <;> first | with_reducible assumption | exact LB.alloc (by with_reducible assumption) _ | (go_keep; done))
                ((first | (refine step_append_lies _ (by rfl) (.tmp 94) (.tmp 115) 79 (by rfl) w.heap.size 9 iS _ 1 16 Tryd.underlying79 hS0 hS1 hS2 hS3 (by rfl) (by decide) _ _ _ (by rfl) (hW6.alloc _).out ⟨w6.heap.size, 0, none⟩ 6 6 [.string (textB c.allow), .string (textB c.block), .string (textB c.kind), .string (textB c.mode), .string (textB c.tiers.length), .string (textB c.adjs.length)] (by rfl) rfl (World.news_of_block (cs := #[.string (textB c.allow), .string (textB c.block), .string (textB c.kind), .string (textB c.mode), .string (textB c.tiers.length), .string (textB c.adjs.length)]) (t := 9) (fr := (0, 0)) (heap_alloc_new _ _)) (by simp [Value.oneCell']) (by decide) (by (try simp only [List.length_cons, List.length_nil, List.length_append, winT_len]); unfold maxLen; omega) (by (try simp only [List.length_cons, List.length_nil, List.length_append, winT_len]); omega) (hW6.alloc _).lb.out.size _ rfl ?_; intro g cp w10 hown10 hgrow10 hat10 hlt10; (have hW10 := (hW6.alloc _).add (l' := [textB c.allow, textB c.block, textB c.kind, textB c.mode, textB c.tiers.length, textB c.adjs.length]) hgrow10 hown10 rfl rfl); (have hl6 := hW6.lt); (have kX := kA.grown hgrow10 ((hW6.alloc _).apart kA (by decide))); obtain ⟨_, _, _, _, _, _, _, _, x8_, x9_, x10_, x11_, x12_, x13_, _, _, _, _, _, _, _, _, _, _, _, _, _, _, _, _, _, _⟩ := kX.c16) | (go_at_call 95; refine (text_any _ _).mono ?_; rintro e w6 ⟨rfl, hb6⟩; (have kW : Blk w6 GM 52 #[.string c.meter, .bool c.win.has, .int .i64 c.win.from_.1, .int .i64 c.win.from_.2.1, .int .i64 c.win.from_.2.2, .int .i64 c.win.to_.1, .int .i64 c.win.to_.2.1, .int .i64 c.win.to_.2.2, .int .i64 c.allow, .int .i64 c.block, .int .i64 c.kind, .slice At c.tiers.length ct, .int .i64 c.mode, .slice Aa c.adjs.length ca, .int .i64 c.line, .int .i64 c.col] := Blk.call (by with_reducible assumption) hb6); obtain ⟨_, _, _, _, _, _, _, _, j8_, j9_, j10_, j11_, j12_, j13_, _, _, _, _, _, _, _, _, _, _, _, _, _, _, _, _, _, _⟩ := kW.c16; (have hW6 : RW w w6 (planC p (.slice Am p.mets.length cm) (.slice Af p.fees.length cf) (.slice (some ⟨gc, 0, none⟩) cs.length cc)) (.slice (some ⟨g2, 0, none⟩) L2.length cp2) L2 := RW.below (by with_reducible assumption) hb6); (have kA := kW.alloc (.cells #[.string (textB c.allow), .string (textB c.block), .string (textB c.kind), .string (textB c.mode), .string (textB c.tiers.length), .string (textB c.adjs.length)] 9)); obtain ⟨_, _, _, _, _, _, _, _, a8_, a9_, a10_, a11_, a12_, a13_, _, _, _, _, _, _, _, _, _, _, _, _, _, _, _, _, _, _⟩ := kA.c16)))
              have hLC0 : L2 ++ [textB c.allow, textB c.block, textB c.kind, textB c.mode, textB c.tiers.length, textB c.adjs.length] = L ++ chgH c := by rw [hL2.out]; unfold chgH; simp only [List.append_assoc]
              obtain ⟨LC, hLC⟩ : ∃ LC, LC = L ++ chgH c := ⟨_, rfl⟩
              rw [hLC0, ← hLC] at hW10
              have hlnC : LC.length ≤ 600000014 := by rw [hLC, List.length_append, show (chgH c).length = 14 from rfl]; omega
              replace hLC := Lib.hid hLC
              have hT := hW10
              have hTk := kX
              go_wp2_with fail
              clear hLC0 hW10 hW12 kX kZ kA kW hW6 hl6 hgrow10 hown10 hat10 hlt10 hd_ kd_ k8_ k9_ k10_ k11_ k12_ k13_ j8_ j9_ j10_ j11_ j12_ j13_ a8_ a9_ a10_ a11_ a12_ a13_
              go_loopg [3, 120] c.tiers.length (fun n_ v3_ vi_ wr2 => ∃ k2 : Nat, k2 ≤ c.tiers.length ∧ vi_ = .int .i64 k2 ∧ n_ = c.tiers.length - k2 ∧ RW w wr2 (planC p (.slice Am p.mets.length cm) (.slice Af p.fees.length cf) (.slice (some ⟨gc, 0, none⟩) cs.length cc)) v3_ (LC ++ (c.tiers.take k2).flatMap tierT) ∧ Blk wr2 GM 52 #[.string c.meter, .bool c.win.has, .int .i64 c.win.from_.1, .int .i64 c.win.from_.2.1, .int .i64 c.win.from_.2.2, .int .i64 c.win.to_.1, .int .i64 c.win.to_.2.1, .int .i64 c.win.to_.2.2, .int .i64 c.allow, .int .i64 c.block, .int .i64 c.kind, .slice At c.tiers.length ct, .int .i64 c.mode, .slice Aa c.adjs.length ca, .int .i64 c.line, .int .i64 c.col])
              case atStart => exact ⟨0, Nat.zero_le _, rfl, rfl, by simpa using hT, hTk⟩
              case round =>
                obtain ⟨k2, hkk2, rfl, rfl, hV, kC⟩ := hrel
                clear hT hTk x8_ x9_ x10_ x11_ x12_ x13_
                by_cases hltk2 : k2 < c.tiers.length
                · obtain ⟨t, hik2⟩ : ∃ t, c.tiers[k2]? = some t := ⟨_, List.getElem?_eq_getElem hltk2⟩
                  obtain ⟨gt, rfl, hgt⟩ := ht3 (by omega)
                  obtain ⟨Mk2, hMk2⟩ : ∃ L, L = LC ++ (c.tiers.take k2).flatMap tierT := ⟨_, rfl⟩
                  rw [← hMk2] at hV
                  have hln2 : Mk2.length ≤ 700000000 := by
                    have h1 := flat_le tierT 2 (c.tiers.take k2) (fun _ _ => Nat.le_refl 2)
                    rw [List.length_take] at h1
                    rw [hMk2, List.length_append]
                    omega
                  replace hMk2 := Lib.hid hMk2
                  have hLs2 := (Lies.of ((hR.out.below hV.lb.out).ne _ hmem.out).1 : Lies tierF 119 2 wr (.slice (some ⟨gt, 0, none⟩) c.tiers.length ct) c.tiers)
                  have y0 := hLs2.at tierF_len hik2 (j := 0) rfl
                  have y1 := hLs2.at tierF_len hik2 (j := 1) rfl
                  simp only [Nat.add_zero] at y0
                  have b2 : (0 : Int) ≤ (k2 : Int) := by omega
                  have b3 : (k2 : Int) < (c.tiers.length : Int) := by omega
                  have hlw2 := hV.lt
                  have hVa := hV.alloc (.cells #[.int .i64 t.upto, .int .i64 t.rate] 119)
                  have kM2 := Blk.new wr 119 #[.int .i64 t.upto, .int .i64 t.rate]
                  have kC2 := kC.alloc (.cells #[.int .i64 t.upto, .int .i64 t.rate] 119)
                  replace hik2 := Lib.hid hik2
                  clear hLs2
                  go_wp2_with fail
                  clear y0 y1 hV kC
                  generalize wr.alloc (.cells #[.int .i64 t.upto, .int .i64 t.rate] 119) = W2 at *
                  have kd_ : Blk W2.drew wr.heap.size 119 #[.int .i64 t.upto, .int .i64 t.rate] := kM2.drew
                  have hd_ : RW w W2.drew (planC p (.slice Am p.mets.length cm) (.slice Af p.fees.length cf) (.slice (some ⟨gc, 0, none⟩) cs.length cc)) u3 Mk2 := hVa.drew
                  obtain ⟨k0_, k1_, _, _⟩ := kd_.c2
                  have kC2d : Blk W2.drew GM 52 #[.string c.meter, .bool c.win.has, .int .i64 c.win.from_.1, .int .i64 c.win.from_.2.1, .int .i64 c.win.from_.2.2, .int .i64 c.win.to_.1, .int .i64 c.win.to_.2.1, .int .i64 c.win.to_.2.2, .int .i64 c.allow, .int .i64 c.block, .int .i64 c.kind, .slice (some ⟨gt, 0, none⟩) c.tiers.length ct, .int .i64 c.mode, .slice Aa c.adjs.length ca, .int .i64 c.line, .int .i64 c.col] := kC2.drew
                  go_region_held3 (fun w' => w'.cell? ⟨wr.heap.size, 0, none⟩ = some (.int .i64 t.upto) ∧ w'.cell? ⟨wr.heap.size, 1, none⟩ = some (.int .i64 t.rate))
                    (refine ⟨?_, ?_⟩ <;> first | with_reducible assumption | exact LB.alloc (by with_reducible assumption) _ | (go_keep; done))
                    ((first | (refine step_append_lies _ (by rfl) (.tmp 124) (.tmp 131) 79 (by rfl) w.heap.size 9 iS _ 1 16 Tryd.underlying79 hS0 hS1 hS2 hS3 (by rfl) (by decide) _ _ _ (by rfl) (hW6.alloc _).out ⟨w6.heap.size, 0, none⟩ 2 2 [.string (textB t.upto), .string (textB t.rate)] (by rfl) rfl (World.news_of_block (cs := #[.string (textB t.upto), .string (textB t.rate)]) (t := 9) (fr := (0, 0)) (heap_alloc_new _ _)) (by simp [Value.oneCell']) (by decide) (by (try simp only [List.length_cons, List.length_nil, List.length_append, winT_len]); unfold maxLen; omega) (by (try simp only [List.length_cons, List.length_nil, List.length_append, winT_len]); omega) (hW6.alloc _).lb.out.size _ rfl ?_; intro g cp w10 hown10 hgrow10 hat10 hlt10; (have hW10 := (hW6.alloc _).add (l' := [textB t.upto, textB t.rate]) hgrow10 hown10 rfl rfl); (have hl6 := hW6.lt); (have kX := kA.grown hgrow10 ((hW6.alloc _).apart kA (by decide))); obtain ⟨x0_, x1_, _, _⟩ := kX.c2; (have kC28 := kC27.grown hgrow10 ((hW6.alloc _).apart kC27 (by decide)))) | (go_at_call 95; refine (text_any _ _).mono ?_; rintro e w6 ⟨rfl, hb6⟩; (have kW : Blk w6 wr.heap.size 119 #[.int .i64 t.upto, .int .i64 t.rate] := Blk.call (by with_reducible assumption) hb6); obtain ⟨j0_, j1_, _, _⟩ := kW.c2; (have hW6 : RW w w6 (planC p (.slice Am p.mets.length cm) (.slice Af p.fees.length cf) (.slice (some ⟨gc, 0, none⟩) cs.length cc)) u3 Mk2 := RW.below (by with_reducible assumption) hb6); (have kC26 : Blk w6 GM 52 #[.string c.meter, .bool c.win.has, .int .i64 c.win.from_.1, .int .i64 c.win.from_.2.1, .int .i64 c.win.from_.2.2, .int .i64 c.win.to_.1, .int .i64 c.win.to_.2.1, .int .i64 c.win.to_.2.2, .int .i64 c.allow, .int .i64 c.block, .int .i64 c.kind, .slice (some ⟨gt, 0, none⟩) c.tiers.length ct, .int .i64 c.mode, .slice Aa c.adjs.length ca, .int .i64 c.line, .int .i64 c.col] := Blk.call (by with_reducible assumption) hb6); (have kC27 := kC26.alloc (.cells #[.string (textB t.upto), .string (textB t.rate)] 9)); (have kA := kW.alloc (.cells #[.string (textB t.upto), .string (textB t.rate)] 9)); obtain ⟨a0_, a1_, _, _⟩ := kA.c2)))
                  go_wp2_with fail
                  go_roundg (c.tiers.length - (k2 + 1))
                  case rel => exact ⟨k2 + 1, by omega, by go_num, rfl, by rw [flat_take tierT hik2.out, ← List.append_assoc, ← hMk2.out]; exact hW10, kC28⟩
                  case measure => omega
                · obtain rfl : k2 = c.tiers.length := by omega
                  rw [List.take_length] at hV
                  obtain ⟨LD, hLD⟩ : ∃ LD, LD = LC ++ c.tiers.flatMap tierT := ⟨_, rfl⟩
                  rw [← hLD] at hV
                  have hlnD : LD.length ≤ 600100014 := by
                    have h1 := flat_le tierT 2 c.tiers (fun _ _ => Nat.le_refl 2)
                    rw [hLD, List.length_append]
                    omega
                  replace hLD := Lib.hid hLD
                  have hU := hV
                  have hUk := kC
                  clear hV kC
                  obtain ⟨_, _, _, _, _, _, _, _, _, _, _, _, _, p13_, _, _, _, _, _, _, _, _, _, _, _, _, _, _, _, _, _, _⟩ := hUk.c16
                  go_wp2_with fail
                  go_loopg [3, 137] c.adjs.length (fun n_ v3_ vi_ wr2 => ∃ k3 : Nat, k3 ≤ c.adjs.length ∧ vi_ = .int .i64 k3 ∧ n_ = c.adjs.length - k3 ∧ RW w wr2 (planC p (.slice Am p.mets.length cm) (.slice Af p.fees.length cf) (.slice (some ⟨gc, 0, none⟩) cs.length cc)) v3_ (LD ++ (c.adjs.take k3).flatMap adjT) ∧ Blk wr2 GM 52 #[.string c.meter, .bool c.win.has, .int .i64 c.win.from_.1, .int .i64 c.win.from_.2.1, .int .i64 c.win.from_.2.2, .int .i64 c.win.to_.1, .int .i64 c.win.to_.2.1, .int .i64 c.win.to_.2.2, .int .i64 c.allow, .int .i64 c.block, .int .i64 c.kind, .slice At c.tiers.length ct, .int .i64 c.mode, .slice Aa c.adjs.length ca, .int .i64 c.line, .int .i64 c.col])
                  case atStart => exact ⟨0, Nat.zero_le _, rfl, rfl, by simpa using hU, hUk⟩
                  case round =>
                    obtain ⟨k3, hkk3, rfl, rfl, hV, kC⟩ := hrel
                    clear hU hUk p13_
                    by_cases hltk3 : k3 < c.adjs.length
                    · obtain ⟨a, hik3⟩ : ∃ a, c.adjs[k3]? = some a := ⟨_, List.getElem?_eq_getElem hltk3⟩
                      obtain ⟨ga, rfl, hga⟩ := ha3 (by omega)
                      obtain ⟨Mk3, hMk3⟩ : ∃ L, L = LD ++ (c.adjs.take k3).flatMap adjT := ⟨_, rfl⟩
                      rw [← hMk3] at hV
                      have hln2 : Mk3.length ≤ 700000000 := by
                        have h1 := flat_le adjT 3 (c.adjs.take k3) (fun _ _ => Nat.le_refl 3)
                        rw [List.length_take] at h1
                        rw [hMk3, List.length_append]
                        omega
                      replace hMk3 := Lib.hid hMk3
                      have hLs2 := (Lies.of ((hR.out.below hV.lb.out).ne _ hmem.out).2 : Lies adjF 121 3 wr (.slice (some ⟨ga, 0, none⟩) c.adjs.length ca) c.adjs)
                      have y0 := hLs2.at adjF_len hik3 (j := 0) rfl
                      have y1 := hLs2.at adjF_len hik3 (j := 1) rfl
                      have y2 := hLs2.at adjF_len hik3 (j := 2) rfl
                      simp only [Nat.add_zero] at y0
                      have b2 : (0 : Int) ≤ (k3 : Int) := by omega
                      have b3 : (k3 : Int) < (c.adjs.length : Int) := by omega
                      have hlw2 := hV.lt
                      have hVa := hV.alloc (.cells #[.int .i64 a.kind, .int .i64 a.n, .int .i64 a.mode] 121)
                      have kM2 := Blk.new wr 121 #[.int .i64 a.kind, .int .i64 a.n, .int .i64 a.mode]
                      have kC2 := kC.alloc (.cells #[.int .i64 a.kind, .int .i64 a.n, .int .i64 a.mode] 121)
                      replace hik3 := Lib.hid hik3
                      clear hLs2
                      go_wp2_with fail
                      clear y0 y1 y2 hV kC
                      generalize wr.alloc (.cells #[.int .i64 a.kind, .int .i64 a.n, .int .i64 a.mode] 121) = W2 at *
                      have kd_ : Blk W2.drew wr.heap.size 121 #[.int .i64 a.kind, .int .i64 a.n, .int .i64 a.mode] := kM2.drew
                      have hd_ : RW w W2.drew (planC p (.slice Am p.mets.length cm) (.slice Af p.fees.length cf) (.slice (some ⟨gc, 0, none⟩) cs.length cc)) u3 Mk3 := hVa.drew
                      obtain ⟨k0_, k1_, k2_, _, _, _⟩ := kd_.c3
                      have kC2d : Blk W2.drew GM 52 #[.string c.meter, .bool c.win.has, .int .i64 c.win.from_.1, .int .i64 c.win.from_.2.1, .int .i64 c.win.from_.2.2, .int .i64 c.win.to_.1, .int .i64 c.win.to_.2.1, .int .i64 c.win.to_.2.2, .int .i64 c.allow, .int .i64 c.block, .int .i64 c.kind, .slice At c.tiers.length ct, .int .i64 c.mode, .slice (some ⟨ga, 0, none⟩) c.adjs.length ca, .int .i64 c.line, .int .i64 c.col] := kC2.drew
                      go_region_held3 (fun w' => w'.cell? ⟨wr.heap.size, 0, none⟩ = some (.int .i64 a.kind) ∧ w'.cell? ⟨wr.heap.size, 1, none⟩ = some (.int .i64 a.n) ∧ w'.cell? ⟨wr.heap.size, 2, none⟩ = some (.int .i64 a.mode))
                        (refine ⟨?_, ?_, ?_⟩ <;> first | with_reducible assumption | exact LB.alloc (by with_reducible assumption) _ | (go_keep; done))
                        ((first | (refine step_append_lies _ (by rfl) (.tmp 141) (.tmp 151) 79 (by rfl) w.heap.size 9 iS _ 1 16 Tryd.underlying79 hS0 hS1 hS2 hS3 (by rfl) (by decide) _ _ _ (by rfl) (hW6.alloc _).out ⟨w6.heap.size, 0, none⟩ 3 3 [.string (textB a.kind), .string (textB a.n), .string (textB a.mode)] (by rfl) rfl (World.news_of_block (cs := #[.string (textB a.kind), .string (textB a.n), .string (textB a.mode)]) (t := 9) (fr := (0, 0)) (heap_alloc_new _ _)) (by simp [Value.oneCell']) (by decide) (by (try simp only [List.length_cons, List.length_nil, List.length_append, winT_len]); unfold maxLen; omega) (by (try simp only [List.length_cons, List.length_nil, List.length_append, winT_len]); omega) (hW6.alloc _).lb.out.size _ rfl ?_; intro g cp w10 hown10 hgrow10 hat10 hlt10; (have hW10 := (hW6.alloc _).add (l' := [textB a.kind, textB a.n, textB a.mode]) hgrow10 hown10 rfl rfl); (have hl6 := hW6.lt); (have kX := kA.grown hgrow10 ((hW6.alloc _).apart kA (by decide))); obtain ⟨x0_, x1_, x2_, _, _, _⟩ := kX.c3; (have kC28 := kC27.grown hgrow10 ((hW6.alloc _).apart kC27 (by decide)))) | (go_at_call 95; refine (text_any _ _).mono ?_; rintro e w6 ⟨rfl, hb6⟩; (have kW : Blk w6 wr.heap.size 121 #[.int .i64 a.kind, .int .i64 a.n, .int .i64 a.mode] := Blk.call (by with_reducible assumption) hb6); obtain ⟨j0_, j1_, j2_, _, _, _⟩ := kW.c3; (have hW6 : RW w w6 (planC p (.slice Am p.mets.length cm) (.slice Af p.fees.length cf) (.slice (some ⟨gc, 0, none⟩) cs.length cc)) u3 Mk3 := RW.below (by with_reducible assumption) hb6); (have kC26 : Blk w6 GM 52 #[.string c.meter, .bool c.win.has, .int .i64 c.win.from_.1, .int .i64 c.win.from_.2.1, .int .i64 c.win.from_.2.2, .int .i64 c.win.to_.1, .int .i64 c.win.to_.2.1, .int .i64 c.win.to_.2.2, .int .i64 c.allow, .int .i64 c.block, .int .i64 c.kind, .slice At c.tiers.length ct, .int .i64 c.mode, .slice (some ⟨ga, 0, none⟩) c.adjs.length ca, .int .i64 c.line, .int .i64 c.col] := Blk.call (by with_reducible assumption) hb6); (have kC27 := kC26.alloc (.cells #[.string (textB a.kind), .string (textB a.n), .string (textB a.mode)] 9)); (have kA := kW.alloc (.cells #[.string (textB a.kind), .string (textB a.n), .string (textB a.mode)] 9)); obtain ⟨a0_, a1_, a2_, _, _, _⟩ := kA.c3)))
                      go_wp2_with fail
                      go_roundg (c.adjs.length - (k3 + 1))
                      case rel => exact ⟨k3 + 1, by omega, by go_num, rfl, by rw [flat_take adjT hik3.out, ← List.append_assoc, ← hMk3.out]; exact hW10, kC28⟩
                      case measure => omega
                    · obtain rfl : k3 = c.adjs.length := by omega
                      rw [List.take_length] at hV
                      go_wp2_with fail
                      go_roundg (cs.length - (k + 1))
                      case rel => exact ⟨k + 1, by omega, by go_num, rfl, by rw [flat_take (fun x : CT => chgT x.1) hi.out, ← List.append_assoc, ← hL.out]; unfold chgT; simp only; rw [← List.append_assoc, ← List.append_assoc, ← hLC.out, ← hLD.out]; exact hV⟩
                      case measure => omega
            · obtain rfl : k = cs.length := by omega
              rw [List.take_length] at hW
              have hq : headT p ++ p.mets.flatMap metT ++ p.fees.flatMap feeT ++ cs.flatMap (fun x => chgT x.1) = rowT p := by
                unfold rowT
                rw [← hR.out.eq, List.flatMap_map]
              rw [hq] at hW
              go_wp2_with fail
              go_ret
              exact ⟨_, rfl, hW.out, hW.lb.out⟩
end Go.Proofs.YtcgkfgklggjmaaaDoor.Par
end
section
namespace Go.Proofs.YtcgkfgklggjmaaaDoor.Par
set_option linter.unusedVariables false
set_option linter.unusedSimpArgs false
/-! a plan that is parsed is small -/
theorem ptierLoop_len : ∀ (f : Nat) (acc : List Tier) (s : St), (P.tierLoop npV f acc s).1.length + len (P.tierLoop npV f acc s).2 ≤ acc.length + len s
  | 0, acc, s => Nat.le_refl _
  | f + 1, acc, s => by
    rw [P.tierLoop]
    by_cases hc : (P.eat wUpto s).1 = true
    · rw [if_pos hc]
      simp only
      have h1 := len_eaten hc
      have h2 := len_number npV 0 1000000 (P.eat wUpto s).2
      have h3 := len_must [wRate] (P.number npV 0 1000000 (P.eat wUpto s).2).2
      have h4 := len_number npV 6 1000000000000 (P.must [wRate] (P.number npV 0 1000000 (P.eat wUpto s).2).2)
      have h5 := len_must [wSemi] (P.number npV 6 1000000000000 (P.must [wRate] (P.number npV 0 1000000 (P.eat wUpto s).2).2)).2
      have ih := ptierLoop_len f (acc ++ [⟨(P.number npV 0 1000000 (P.eat wUpto s).2).1, (P.number npV 6 1000000000000 (P.must [wRate] (P.number npV 0 1000000 (P.eat wUpto s).2).2)).1⟩]) (P.must [wSemi] (P.number npV 6 1000000000000 (P.must [wRate] (P.number npV 0 1000000 (P.eat wUpto s).2).2)).2)
      rw [List.length_append, List.length_singleton] at ih
      omega
    · rw [if_neg hc]
      have := len_eat wUpto s
      simp only
      omega
theorem ptiers_len (s : St) : (P.tiers npV s).1.length ≤ len s + 1 := by
  have h1 := len_must [wOpen] s
  have h2 := ptierLoop_len (P.must [wOpen] s).rest.length [] (P.must [wOpen] s)
  unfold P.tiers
  simp only [List.length_append, List.length_singleton]
  rw [List.length_nil] at h2
  omega
theorem padjLoop_len : ∀ (f : Nat) (acc : List Adj) (s : St), (P.adjLoop npV f acc s).1.length + len (P.adjLoop npV f acc s).2 ≤ acc.length + len s
  | 0, acc, s => Nat.le_refl _
  | f + 1, acc, s => by
    rw [P.adjLoop]
    by_cases hc : (P.adjust npV s).1.2 = false ∨ (P.adjust npV s).2.err ≠ 0
    · rw [if_pos hc]
      have := len_adjust npV s
      simp only
      omega
    · rw [if_neg hc]
      have h1 : (P.adjust npV s).1.2 = true := by
        cases h : (P.adjust npV s).1.2 with
        | true => rfl
        | false => exact absurd (.inl h) hc
      have h2 := adj_round npV h1
      have ih := padjLoop_len f (acc ++ [(P.adjust npV s).1.1]) (P.adjust npV s).2
      rw [List.length_append, List.length_singleton] at ih
      omega
theorem pcharge_small (l c : Int) (s : St) : (P.charge dp npV l c s).1.tiers.length ≤ len s + 1 ∧ (P.charge dp npV l c s).1.adjs.length ≤ len s + 1 := by
  have h1 := len_kind 1 s
  have h2 := len_window dp (P.kind 1 s).2
  have h3 := len_must [wOpen] (P.window dp (P.kind 1 s).2).2
  have h4 := len_opt npV wAllowance 0 (P.must [wOpen] (P.window dp (P.kind 1 s).2).2)
  have h5 := len_opt npV wBlock 1 (P.opt npV wAllowance 0 (P.must [wOpen] (P.window dp (P.kind 1 s).2).2)).2
  have h6 := len_ckind (P.opt npV wBlock 1 (P.opt npV wAllowance 0 (P.must [wOpen] (P.window dp (P.kind 1 s).2).2)).2).2
  unfold P.charge
  simp only
  generalize P.ckind (P.opt npV wBlock 1 (P.opt npV wAllowance 0 (P.must [wOpen] (P.window dp (P.kind 1 s).2).2)).2).2 = k at *
  have h7 := ptiers_len k.2
  have h8 := len_tiers npV k.2
  have h9 := len_must [wRound] (P.tiers npV k.2).2
  have h10 := len_mode (P.must [wRound] (P.tiers npV k.2).2)
  have h11 := len_must [wSemi] (P.mode (P.must [wRound] (P.tiers npV k.2).2)).2
  have h12 := padjLoop_len (P.must [wSemi] (P.mode (P.must [wRound] (P.tiers npV k.2).2)).2).rest.length [] (P.must [wSemi] (P.mode (P.must [wRound] (P.tiers npV k.2).2)).2)
  rw [List.length_nil] at h12
  omega
/-- what a parse keeps: so many items, and so many parts of each, at most -/
def Bd (n : Nat) (p : Plan) (s : St) : Prop := countP p + len s ≤ n ∧ ∀ c ∈ p.chgs, c.tiers.length ≤ n + 1 ∧ c.adjs.length ≤ n + 1
theorem pitem_bd {n : Nat} {p : Plan} {s : St} (h : Bd n p s) : Bd n (P.item dp npV p s).1 (P.item dp npV p s).2 := by
  refine ⟨Nat.le_trans (pitem_all p s).1 h.1, ?_⟩
  have h0 := len_one [wMeter, wFee, wCharge] 0 s
  unfold P.item
  simp only
  split
  · exact h.2
  · split
    · exact h.2
    · split
      · intro c hc
        rcases List.mem_append.1 hc with hc | hc
        · exact h.2 c hc
        · obtain rfl := List.mem_singleton.1 hc
          have h1 := pcharge_small (peek s).line (peek s).col (P.one [wMeter, wFee, wCharge] 0 s).2
          have h2 := h.1
          omega
      · exact h.2
theorem pitems_bd {n : Nat} : ∀ (f : Nat) (p : Plan) (s : St), Bd n p s → Bd n (P.items dp npV f p s).1 (P.items dp npV f p s).2
  | 0, p, s, h => h
  | f + 1, p, s, h => by
    rw [P.items]
    split
    · exact pitems_bd f _ _ (pitem_bd h)
    · exact h
theorem phead_len (ts : List Tok) : len (P.head dp ⟨ts, 0, 0, 0⟩).2 ≤ ts.length := by
  unfold P.head
  simp only
  have g1 := len_must [wPlan] ⟨ts, 0, 0, 0⟩
  have g2 := len_kind 1 (P.must [wPlan] ⟨ts, 0, 0, 0⟩)
  generalize P.kind 1 (P.must [wPlan] ⟨ts, 0, 0, 0⟩) = n at *
  have g3 := len_must [wCurrency] n.2
  have g4 := len_kind 1 (P.must [wCurrency] n.2)
  generalize P.kind 1 (P.must [wCurrency] n.2) = c at *
  have g5 := len_must [wSemi, wHorizon] c.2
  have g6 := len_day dp (P.must [wSemi, wHorizon] c.2)
  generalize P.day dp (P.must [wSemi, wHorizon] c.2) = f at *
  have g7 := len_day dp f.2
  generalize P.day dp f.2 = t at *
  have g8 := len_must [wSemi] t.2
  have g0 : len (⟨ts, 0, 0, 0⟩ : St) = ts.length := rfl
  omega
theorem noPlan_small : Small noPlan := ⟨by decide, by decide, by decide, fun c h => (by cases h), fun c h => (by cases h)⟩
theorem RParse_small (l : List UInt8) : Small (RParse l).1 := by
  obtain ⟨ts, er, a, b, hall⟩ : ∃ ts er a b, lexAll l = (ts, er, a, b) := ⟨_, _, _, _, rfl⟩
  by_cases her : er = 0
  · subst her
    by_cases h0 : (P.plan dp npV ts).2.err = 0
    · rw [PParse_ok hall h0]
      obtain ⟨_, _, hc⟩ := all_shape hall
      have hb : Bd 8193 (P.plan dp npV ts).1 (P.plan dp npV ts).2 := by
        unfold P.plan
        refine pitems_bd _ _ _ ⟨?_, fun c hc => by cases hc⟩
        have := phead_len ts
        show 0 + 0 + 0 + len (P.head dp ⟨ts, 0, 0, 0⟩).2 ≤ 8193
        omega
      have h1 := hb.1
      unfold countP at h1
      exact ⟨by show (P.plan dp npV ts).1.mets.length ≤ 10000; omega, by show (P.plan dp npV ts).1.fees.length ≤ 10000; omega, by show (P.plan dp npV ts).1.chgs.length ≤ 10000; omega, fun c hc => Nat.le_trans (hb.2 c hc).1 (by decide), fun c hc => Nat.le_trans (hb.2 c hc).2 (by decide)⟩
    · rw [PParse_bad hall h0]; exact noPlan_small
  · rw [RParse_lex hall her]; exact noPlan_small
end Go.Proofs.YtcgkfgklggjmaaaDoor.Par
end
