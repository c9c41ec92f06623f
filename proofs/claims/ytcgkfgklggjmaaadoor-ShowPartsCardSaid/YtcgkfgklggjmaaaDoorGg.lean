import Derived.Test.YtcgkfgklggjmaaaDoorGf
section
namespace Go.Proofs.YtcgkfgklggjmaaaDoor.Par
set_option linter.unusedVariables false
set_option linter.unusedSimpArgs false
open Go.RowKit
theorem PenAt.call {w w' : World} {gp : Nat} {l : List UInt8} {deep : Int} (h : PenAt w gp l deep) (hb : Below w.heap.size w w') : PenAt w' gp l deep := by
  obtain ⟨a, v, ha, hk, ho⟩ := h
  exact ⟨a, v, ha, hk.call hb, own_keep ho fun g hg => hb.block g (ho.lt g hg).2⟩
theorem PenAt.drew {w : World} {gp : Nat} {l : List UInt8} {deep : Int} (h : PenAt w gp l deep) : PenAt w.drew gp l deep := h.call (bl_drew (bl_refl _))
theorem PenAt.alloc {w : World} {gp : Nat} {l : List UInt8} {deep : Int} (h : PenAt w gp l deep) (o : Obj) : PenAt (w.alloc o) gp l deep := h.call (bl_alloc (bl_refl _) o)
theorem PenAt.lt {w : World} {gp : Nat} {l : List UInt8} {deep : Int} (h : PenAt w gp l deep) : gp < w.heap.size := by
  obtain ⟨a, v, ha, hk, ho⟩ := h
  exact hk.lt
theorem PenAt.deep_ {w : World} {gp : Nat} {l : List UInt8} {deep : Int} (h : PenAt w gp l deep) : w.cell? ⟨gp, 2, none⟩ = some (.int .i64 deep) ∧ w.frozen? ⟨gp, 2, none⟩ = false := by
  obtain ⟨a, v, ha, hk, ho⟩ := h
  exact ⟨hk.cell 2, hk.frozen 2⟩
theorem PenAt.to {w : World} {gp : Nat} {l : List UInt8} {deep : Int} (h : PenAt w gp l deep) (d : Int) : PenAt (w.setCell ⟨gp, 2, none⟩ (.int .i64 d)) gp l d ∧ PK gp w (w.setCell ⟨gp, 2, none⟩ (.int .i64 d)) := by
  obtain ⟨a, v, ha, hk, ho⟩ := h
  exact ⟨⟨a, v, ha, hk.set_ 2 _, own_keep ho fun k hg => Below.heap_setCell w ⟨gp, 2, none⟩ _ k (by have := (ho.lt k hg).1; show k ≠ gp; omega)⟩, (PK.refl gp w).set 2 _⟩
def tabsL (d : Nat) : List UInt8 := Lib.repeatL [9] d
def lineL (d : Nat) (xs : List ByteArray) : List UInt8 := tabsL d ++ Lib.join (xs.map (·.data.toList)) [32] ++ [10]
theorem tabs_len {d : Nat} (h : d ≤ 2) : (tabsL d).length ≤ 2 := by
  have : d = 0 ∨ d = 1 ∨ d = 2 := by omega
  rcases this with rfl | rfl | rfl <;> decide
theorem srep_any (d : Nat) (hd : d ≤ 2) (w : World) : Calls Tryd.prog 75 #[.string ⟨#[9]⟩, .int .i64 d] w (Says (tabsL d) 2 w) :=
  (Tryd.strings_Repeat ⟨#[9]⟩ d w (by omega) (by show 1 * d ≤ _; omega)).mono fun e w' h => says_of (tabs_len hd) h
theorem sjoin_any (sb c : Nat) (xs : List ByteArray) (w : World) (hc : ∀ j x, xs[j]? = some x → w.cell? ⟨sb, j, none⟩ = some (.string x)) (hsb : sb < w.heap.size) (hcap : xs.length ≤ c) (hn : xs.length ≤ 10) (m : Nat) (hm : (Lib.join (xs.map (·.data.toList)) [32]).length ≤ m) (hm2 : m ≤ 140737488355328) :
    Calls Tryd.prog 76 #[.slice (some ⟨sb, 0, none⟩) xs.length c, .string ⟨#[32]⟩] w (Says (Lib.join (xs.map (·.data.toList)) [32]) m w) :=
  (Tryd.strings_Join sb 0 c xs ⟨#[32]⟩ w (fun j x hj => by rw [Nat.zero_add]; exact hc j x hj) hsb (by omega) hcap (Nat.le_trans hm hm2)).mono fun e w' h => says_of hm h
set_option maxHeartbeats 8000000 in
set_option maxRecDepth 100000 in
theorem line_any (w : World) (gp : Nat) (l : List UInt8) (d : Nat) (hd : d ≤ 2) (sb c : Nat) (xs : List ByteArray) (h : PenAt w gp l (d : Int)) (hc : ∀ j x, xs[j]? = some x → w.cell? ⟨sb, j, none⟩ = some (.string x)) (hsb : sb < w.heap.size) (hcap : xs.length ≤ c) (hn : xs.length ≤ 10)
    (hm : (Lib.join (xs.map (·.data.toList)) [32]).length ≤ 1000000) (hl : l.length ≤ 100000000000) :
    Calls Tryd.prog 43 #[.pointer (some ⟨gp, 0, none⟩), .slice (some ⟨sb, 0, none⟩) xs.length c] w fun e w' => e = .returned (.tuple #[]) ∧ PenAt w' gp (l ++ lineL d xs) (d : Int) ∧ PK gp w w' := by
  have h0 := h.drew
  have hsb0 : sb < w.drew.heap.size := hsb
  have hc0 : ∀ j x, xs[j]? = some x → w.drew.cell? ⟨sb, j, none⟩ = some (.string x) := hc
  have hlt := h0.lt
  obtain ⟨x2, _⟩ := h0.deep_
  have e10 : (⟨#[10]⟩ : ByteArray).size = 1 := rfl
  go_enter Tryd.func43, Tryd.ntmps43
  go_wp2_with fail
  go_region_held3 (fun w' => w'.cell? ⟨gp, 2, none⟩ = some (.int .i64 d))
    (with_reducible assumption)
    ((first | (go_at_call 75; (with_reducible refine (srep_any d hd _).mono ?_); rintro e' w6 ⟨s1, rfl, hs1, hz1, hb6⟩; (have h6 := h0.call hb6); (have y2 := h6.deep_.1)) | (go_at_call 76; (with_reducible refine (sjoin_any sb c xs _ (fun j x hj => (hb6.cell (World.block_lt_of_cell? _ _ (hc0 j x hj))).trans (hc0 j x hj)) (by have := hb6.size; omega) hcap hn 1000000 hm (by decide)).mono ?_); rintro e' w7 ⟨s2, rfl, hs2, hz2, hb7⟩; (have t1 : ¬ (9223372036854775807 < s1.size + s2.size) := by omega); (have t2 : ¬ (9223372036854775807 < s1.size + s2.size + 1) := by omega); (have h7 := h6.call hb7); (have z2 := h7.deep_.1)) | (go_at_call 74; (with_reducible refine (ws_any _ gp l d _ h7 (by rw [ByteArray.size_append, ByteArray.size_append, e10]; omega)).mono ?_); rintro e' w8 ⟨rfl, h8, hk8⟩; (have u2 := h8.deep_.1))))
  all_goals go_wp2_with fail
  all_goals go_end0
  all_goals refine ⟨rfl, ?_, ((((PK.refl gp w).drew (show gp < w.heap.size from hlt)).call hb6 hlt).call hb7 h6.lt).trans hk8⟩
  all_goals (have e1 : l ++ (s1 ++ s2 ++ ⟨#[10]⟩ : ByteArray).data.toList = l ++ lineL d xs := by rw [ba_app, ba_app, hs1, hs2]; rfl)
  all_goals (rw [← e1]; exact h8)
end Go.Proofs.YtcgkfgklggjmaaaDoor.Par
end
section
namespace Go.Proofs.YtcgkfgklggjmaaaDoor.Par
set_option linter.unusedVariables false
set_option linter.unusedSimpArgs false
/-! what a parse does with the tokens that it takes hangs on no place, and on no token behind them -/
def Al (x y : Tok) : Prop := x.kind = y.kind ∧ x.text = y.text ∧ x.kind ≠ 0
def Als : List Tok → List Tok → Prop
  | [], [] => True
  | x :: l, y :: m => Al x y ∧ Als l m
  | _, _ => False
/-- how it ends: one side with the end e, the other one with t; cut: t is anything, else an end, too -/
structure Tl where
  cut : Bool
  e : Tok
  t : List Tok
/-- the tokens that are left are alike, and behind them each side ends -/
structure Loc (T : Tl) (s r : St) : Prop where
  err : s.err = 0
  err' : r.err = 0
  rest : ∃ l m, s.rest = l ++ [T.e] ∧ r.rest = m ++ T.t ∧ Als l m
/-- a fault, told at the end -/
def AtE (T : Tl) (s : St) : Prop := T.cut = true ∧ s.err = 4 ∧ s.line = T.e.line ∧ s.col = T.e.col ∧ s.rest = [T.e]
/-- a fault stays as it is -/
structure Kept (s s' : St) : Prop where
  err : s'.err = s.err
  line : s'.line = s.line
  col : s'.col = s.col
  rest : (peek s).kind = 0 → s'.rest = s.rest
/-- at the end -/
def End (T : Tl) (s : St) : Prop := T.cut = true ∧ s.err = 0 ∧ s.rest = [T.e]
def Tails (T : Tl) : Prop := T.e.kind = 0 ∧ (T.cut = false → ∃ x, T.t = [x] ∧ x.kind = 0)
def Out {α : Type} (T : Tl) (b : Bool) (x y : α × St) : Prop := AtE T x.2 ∨ (x.2.err ≠ 0 ∧ x.2.err = y.2.err) ∨ (b = true ∧ End T x.2) ∨ (x.1 = y.1 ∧ Loc T x.2 y.2)
structure Good (T : Tl) (b : Bool) {α : Type} (F : St → α × St) : Prop where
  K : ∀ s, s.err ≠ 0 → Kept s (F s).2
  E : ∀ s, End T s → AtE T (F s).2 ∨ (b = true ∧ End T (F s).2)
  L : ∀ s r, Loc T s r → Out T b (F s) (F r)
def bnd {α β : Type} (F : St → α × St) (G : α → St → β × St) (s : St) : β × St := G (F s).1 (F s).2
def mp {α β : Type} (f : α → β) (F : St → α × St) (s : St) : β × St := (f (F s).1, (F s).2)
def un (f : St → St) (s : St) : Unit × St := ((), f s)
theorem must2_eq (w v : ByteArray) : un (P.must [w, v]) = bnd (un (P.must [w])) (fun _ => un (P.must [v])) := by
  funext s
  show ((), P.must [w, v] s) = ((), P.must [v] (P.must [w] s))
  have e1 : P.must [w, v] s = if (P.eat w s).1 = true then P.must [v] (P.eat w s).2 else fail 4 (peek s) (P.eat w s).2 := rfl
  have e2 : P.must [w] s = if (P.eat w s).1 = true then (P.eat w s).2 else fail 4 (peek s) (P.eat w s).2 := rfl
  rw [e1, e2]
  by_cases hc : (P.eat w s).1 = true
  · rw [if_pos hc, if_pos hc]
  · rw [if_neg hc, if_neg hc]
    have hb : (fail 4 (peek s) (P.eat w s).2).err ≠ 0 := fail_err 4 _ _ (by decide)
    rw [P.must, eat_bad hb]
    simp only [Bool.false_eq_true, if_false]
    rw [fail_keep hb]
section
variable {T : Tl} {α β : Type}
theorem Kept.rfl' (s : St) : Kept s s := ⟨rfl, rfl, rfl, fun _ => rfl⟩
theorem Kept.trans {s s' s'' : St} (h : Kept s s') (k : Kept s' s'') : Kept s s'' := ⟨k.err.trans h.err, k.line.trans h.line, k.col.trans h.col, fun h0 => by
  have h1 := h.rest h0
  exact (k.rest (by unfold peek at h0 ⊢; rw [h1]; exact h0)).trans h1⟩
theorem AtE.keep {T : Tl} (he : T.e.kind = 0) {s s' : St} (h : AtE T s) (k : Kept s s') : AtE T s' :=
  ⟨h.1, k.err.trans h.2.1, k.line.trans h.2.2.1, k.col.trans h.2.2.2.1, (k.rest (by unfold peek; rw [h.2.2.2.2]; exact he)).trans h.2.2.2.2⟩
theorem AtE.bad {s : St} (h : AtE T s) : s.err ≠ 0 := by rw [h.2.1]; decide
theorem Good.bnd (he : T.e.kind = 0) {b c : Bool} {F : St → α × St} {G : α → St → β × St} (hF : Good T b F) (hG : ∀ a, Good T c (G a)) : Good T c (bnd F G) := by
  refine ⟨fun s h => ?_, fun s h => ?_, fun s r h => ?_⟩
  · have h1 := hF.K s h
    exact h1.trans ((hG (F s).1).K (F s).2 (by rw [h1.err]; exact h))
  · rcases hF.E s h with h1 | h1
    · exact .inl (h1.keep he ((hG (F s).1).K (F s).2 h1.bad))
    · exact (hG (F s).1).E (F s).2 h1.2
  · rcases hF.L s r h with h1 | h1 | h1 | h1
    · exact .inl (h1.keep he ((hG (F s).1).K (F s).2 h1.bad))
    · have h2 := (hG (F s).1).K (F s).2 h1.1
      have h3 := (hG (F r).1).K (F r).2 (h1.2 ▸ h1.1)
      exact .inr (.inl ⟨by show (G (F s).1 (F s).2).2.err ≠ 0; rw [h2.err]; exact h1.1, by show (G (F s).1 (F s).2).2.err = (G (F r).1 (F r).2).2.err; rw [h2.err, h3.err]; exact h1.2⟩)
    · rcases (hG (F s).1).E (F s).2 h1.2 with h2 | h2
      · exact .inl h2
      · exact .inr (.inr (.inl h2))
    · show Out T c (G (F s).1 (F s).2) (G (F r).1 (F r).2)
      rw [← h1.1]
      exact (hG (F s).1).L _ _ h1.2
theorem Good.mp {b : Bool} {F : St → α × St} (f : α → β) (hF : Good T b F) : Good T b (mp f F) := by
  refine ⟨hF.K, hF.E, fun s r h => ?_⟩
  rcases hF.L s r h with h1 | h1 | h1 | h1
  · exact .inl h1
  · exact .inr (.inl h1)
  · exact .inr (.inr (.inl h1))
  · exact .inr (.inr (.inr ⟨congrArg f h1.1, h1.2⟩))
theorem Good.ret (a : α) : Good T true (fun s => (a, s)) := ⟨fun s h => Kept.rfl' s, fun s h => .inr ⟨rfl, h⟩, fun s r h => .inr (.inr (.inr ⟨rfl, h⟩))⟩
theorem Good.up {b : Bool} {F : St → α × St} (hF : Good T b F) : Good T true F := by
  refine ⟨hF.K, fun s h => ?_, fun s r h => ?_⟩
  · rcases hF.E s h with h1 | h1
    · exact .inl h1
    · exact .inr ⟨rfl, h1.2⟩
  · rcases hF.L s r h with h1 | h1 | h1 | h1
    · exact .inl h1
    · exact .inr (.inl h1)
    · exact .inr (.inr (.inl ⟨rfl, h1.2⟩))
    · exact .inr (.inr (.inr h1))
theorem Good.ite {b : Bool} {p : Prop} [Decidable p] {F G : St → α × St} (hF : p → Good T b F) (hG : ¬ p → Good T b G) : Good T b (fun s => if p then F s else G s) := by
  by_cases hp : p
  · simp only [if_pos hp]; exact hF hp
  · simp only [if_neg hp]; exact hG hp
/-- a round that ends at a fault, too -/
theorem Good.iteErr {p : Prop} [Decidable p] {a : α} {F : St → α × St} (hF : ¬ p → Good T true F) : Good T true (fun s => if p ∨ s.err ≠ 0 then (a, s) else F s) := by
  by_cases hp : p
  · simp only [hp, true_or, if_true]; exact Good.ret a
  · have hg := hF hp
    refine ⟨fun s h => ?_, fun s h => ?_, fun s r h => ?_⟩
    · simp only [if_pos (Or.inr h : p ∨ s.err ≠ 0)]; exact Kept.rfl' s
    · have hn : ¬ (p ∨ s.err ≠ 0) := by rintro (c | c); exact hp c; exact c h.2.1
      show AtE T (if p ∨ s.err ≠ 0 then (a, s) else F s).2 ∨ _
      rw [if_neg hn]; exact hg.E s h
    · have hn : ¬ (p ∨ s.err ≠ 0) := by rintro (c | c); exact hp c; exact c h.err
      have hm : ¬ (p ∨ r.err ≠ 0) := by rintro (c | c); exact hp c; exact c h.err'
      show Out T true (if p ∨ s.err ≠ 0 then (a, s) else F s) (if p ∨ r.err ≠ 0 then (a, r) else F r)
      rw [if_neg hn, if_neg hm]; exact hg.L s r h
theorem on_none {w : ByteArray} {s : St} (h : (peek s).kind = 0) : on w s = false := by unfold on; simp [h]
variable (hu : Tails T)
include hu
theorem End.kind {s : St} (h : End T s) : (peek s).kind = 0 ∧ (peek s) = T.e := by
  unfold peek; rw [h.2.2]; exact ⟨hu.1, rfl⟩
/-- alike: at the end of one side, or both at the end, or a token that is alike on both -/
theorem Loc.cases {s r : St} (h : Loc T s r) : End T s ∨ ((peek s).kind = 0 ∧ (peek r).kind = 0 ∧ (∀ w, on w s = false) ∧ (∀ w, on w r = false)) ∨
    ((peek s).kind = (peek r).kind ∧ (peek s).text = (peek r).text ∧ Loc T (drop1 s) (drop1 r)) := by
  obtain ⟨l, m, h1, h2, h3⟩ := h.rest
  cases l with
  | nil =>
    cases m with
    | cons y m => exact absurd h3 (by simp [Als])
    | nil =>
      cases hc : T.cut with
      | true => exact .inl ⟨hc, h.err, h1⟩
      | false =>
        obtain ⟨x, hx, hk⟩ := hu.2 hc
        have hp : (peek s).kind = 0 := by unfold peek; rw [h1]; exact hu.1
        have hq : (peek r).kind = 0 := by unfold peek; rw [h2, hx]; exact hk
        exact .inr (.inl ⟨hp, hq, fun w => on_none hp, fun w => on_none hq⟩)
  | cons x l =>
    cases m with
    | nil => exact absurd h3 (by simp [Als])
    | cons y m =>
      have hp : peek s = x := by unfold peek; rw [h1]; rfl
      have hq : peek r = y := by unfold peek; rw [h2]; rfl
      exact .inr (.inr ⟨by rw [hp, hq]; exact h3.1.1, by rw [hp, hq]; exact h3.1.2.1, h.err, h.err', l, m, by show s.rest.tail = _; rw [h1]; rfl, by show r.rest.tail = _; rw [h2]; rfl, h3.2⟩)
theorem good_eat (w : ByteArray) : Good T true (P.eat w) := by
  refine ⟨fun s h => ?_, fun s h => ?_, fun s r h => ?_⟩
  · rw [eat_bad h]; exact Kept.rfl' s
  · have ho := on_none (w := w) (h.kind hu).1
    unfold P.eat
    rw [if_neg (fun c => by rw [ho] at c; cases c.2)]
    exact .inr ⟨rfl, h⟩
  · rcases h.cases hu with h1 | ⟨h1, h2, h3, h4⟩ | ⟨h1, h2, h3⟩
    · have ho := on_none (w := w) (h1.kind hu).1
      refine .inr (.inr (.inl ⟨rfl, ?_⟩))
      unfold P.eat
      rw [if_neg (fun c => by rw [ho] at c; cases c.2)]
      exact h1
    · unfold P.eat
      rw [if_neg (fun c => by rw [h3] at c; cases c.2), if_neg (fun c => by rw [h4] at c; cases c.2)]
      exact .inr (.inr (.inr ⟨rfl, h⟩))
    · have ho : on w s = on w r := by unfold on; rw [h1, h2]
      unfold P.eat
      rw [← ho]
      by_cases hc : on w s = true
      · rw [if_pos ⟨h.err, hc⟩, if_pos ⟨h.err', hc⟩]
        refine .inr (.inr (.inr ⟨rfl, ?_⟩))
        have hk := on_kind hc
        rw [next_drop hk, next_drop (by rw [← h1]; exact hk)]
        exact h3
      · rw [if_neg (fun c => hc c.2), if_neg (fun c => hc c.2)]
        exact .inr (.inr (.inr ⟨rfl, h⟩))
theorem good_fail (e : α) : Good T false (fun s => (e, fail 4 (peek s) s)) := by
  refine ⟨fun s h => ?_, fun s h => ?_, fun s r h => ?_⟩
  · simp only [fail_keep h]; exact Kept.rfl' s
  · refine .inl ⟨h.1, ?_, ?_, ?_, ?_⟩
    · simp only [fail, if_pos h.2.1]
    · simp only [fail, if_pos h.2.1, (h.kind hu).2]
    · simp only [fail, if_pos h.2.1, (h.kind hu).2]
    · simp only [fail, if_pos h.2.1, h.2.2]
  · refine .inr (.inl ⟨fail_err 4 _ _ (by decide), ?_⟩)
    simp only [fail, if_pos h.err, if_pos h.err']
theorem good_must1 (w : ByteArray) : Good T false (un (P.must [w])) := by
  have h : un (P.must [w]) = bnd (P.eat w) (fun a s => if a = true then ((), s) else ((), fail 4 (peek s) s)) := by
    funext s
    show ((), if (P.eat w s).1 = true then (P.eat w s).2 else fail 4 (peek s) (P.eat w s).2) = if (P.eat w s).1 = true then ((), (P.eat w s).2) else ((), fail 4 (peek (P.eat w s).2) (P.eat w s).2)
    by_cases hc : (P.eat w s).1 = true
    · rw [if_pos hc, if_pos hc]
    · rw [if_neg hc, if_neg hc, eat_no (by simpa using hc)]
  refine ⟨fun s hs => ?_, fun s hs => ?_, fun s r hs => ?_⟩
  · rw [h]; exact ((good_eat hu w).bnd hu.1 (c := true) fun a => Good.ite (fun _ => Good.ret _) (fun _ => (good_fail hu ()).up)).K s hs
  · have ho := on_none (w := w) (hs.kind hu).1
    have he : P.eat w s = (false, s) := by
      unfold P.eat
      rw [if_neg (fun c => by rw [ho] at c; cases c.2)]
    rw [h]
    unfold bnd
    rw [he]
    exact (good_fail hu ()).E s hs
  · rw [h]
    rcases hs.cases hu with h1 | ⟨h1, h2, h3, h4⟩ | ⟨h1, h2, h3⟩
    · have ho := on_none (w := w) (h1.kind hu).1
      have he : P.eat w s = (false, s) := by
        unfold P.eat
        rw [if_neg (fun c => by rw [ho] at c; cases c.2)]
      rcases (good_fail hu ()).E s h1 with h5 | h5
      · refine .inl ?_
        unfold bnd
        rw [he]
        exact h5
      · cases h5.1
    · have he : P.eat w s = (false, s) := by unfold P.eat; rw [if_neg (fun c => by rw [h3] at c; cases c.2)]
      have he' : P.eat w r = (false, r) := by unfold P.eat; rw [if_neg (fun c => by rw [h4] at c; cases c.2)]
      unfold bnd
      rw [he, he']
      exact (good_fail hu ()).L s r hs
    · have ho : on w s = on w r := by unfold on; rw [h1, h2]
      by_cases hc : on w s = true
      · have he : P.eat w s = (true, P.next s) := by unfold P.eat; rw [if_pos ⟨hs.err, hc⟩]
        have he' : P.eat w r = (true, P.next r) := by unfold P.eat; rw [if_pos ⟨hs.err', ho ▸ hc⟩]
        have hk := on_kind hc
        unfold bnd
        rw [he, he', next_drop hk, next_drop (by rw [← h1]; exact hk)]
        exact .inr (.inr (.inr ⟨rfl, h3⟩))
      · have he : P.eat w s = (false, s) := by unfold P.eat; rw [if_neg (fun c => hc c.2)]
        have he' : P.eat w r = (false, r) := by unfold P.eat; rw [if_neg (fun c => hc (ho ▸ c.2))]
        unfold bnd
        rw [he, he']
        exact (good_fail hu ()).L s r hs
theorem good_must2 (w v : ByteArray) : Good T false (un (P.must [w, v])) := by
  rw [must2_eq w v]
  exact (good_must1 hu w).bnd hu.1 fun _ => good_must1 hu v
theorem good_kind (k : Int) (hk : k ≠ 0) : Good T false (P.kind k) := by
  refine ⟨fun s h => ?_, fun s h => ?_, fun s r h => ?_⟩
  · unfold P.kind
    split
    · have hn := next_err s
      exact ⟨hn.1, hn.2.1, hn.2.2, fun h0 => by show (P.next s).rest = s.rest; unfold P.next; rw [if_pos h0]⟩
    · rw [fail_keep h]; exact Kept.rfl' s
  · unfold P.kind
    rw [if_neg (by rw [(h.kind hu).1]; exact fun c => hk c.symm)]
    exact (good_fail hu (⟨#[]⟩ : ByteArray)).E s h
  · rcases h.cases hu with h1 | ⟨h1, h2, h3, h4⟩ | ⟨h1, h2, h3⟩
    · unfold P.kind
      rw [if_neg (by rw [(h1.kind hu).1]; exact fun c => hk c.symm)]
      rcases (good_fail hu (⟨#[]⟩ : ByteArray)).E s h1 with h5 | h5
      · exact .inl h5
      · cases h5.1
    · unfold P.kind
      rw [if_neg (by rw [h1]; exact fun c => hk c.symm), if_neg (by rw [h2]; exact fun c => hk c.symm)]
      exact (good_fail hu (⟨#[]⟩ : ByteArray)).L s r h
    · unfold P.kind
      rw [← h1, ← h2]
      by_cases hc : (peek s).kind = k
      · rw [if_pos hc, if_pos hc, next_drop (by rw [hc]; exact hk), next_drop (by rw [← h1, hc]; exact hk)]
        exact .inr (.inr (.inr ⟨rfl, h3⟩))
      · rw [if_neg hc, if_neg hc]
        exact (good_fail hu (⟨#[]⟩ : ByteArray)).L s r h
variable (dp : ByteArray → Day) (np : ByteArray → Int → Int → Int × Int)
theorem good_number (pl most : Int) : Good T false (P.number np pl most) := by
  have hk := good_kind hu 3 (by decide)
  refine ⟨fun s h => ?_, fun s h => ?_, fun s r h => ?_⟩
  · have h1 := hk.K s h
    unfold P.number
    simp only
    rw [if_neg (by rw [h1.err]; exact h)]
    exact h1
  · rcases hk.E s h with h1 | h1
    · refine .inl ?_
      unfold P.number
      simp only
      rw [if_neg h1.bad]
      exact h1
    · cases h1.1
  · rcases hk.L s r h with h1 | h1 | h1 | h1
    · refine .inl ?_
      unfold P.number
      simp only
      rw [if_neg h1.bad]
      exact h1
    · refine .inr (.inl ?_)
      unfold P.number
      simp only
      rw [if_neg h1.1, if_neg (h1.2 ▸ h1.1)]
      exact h1
    · cases h1.1
    · unfold P.number
      simp only
      rw [if_pos h1.2.err, if_pos h1.2.err', ← h1.1]
      by_cases c1 : (np (P.kind 3 s).1 pl most).2 = 1
      · refine .inr (.inl ?_)
        simp only [if_pos c1]
        exact ⟨fail_err 4 _ _ (by decide), by simp only [fail, if_pos h1.2.err, if_pos h1.2.err']⟩
      · simp only [if_neg c1]
        by_cases c2 : (np (P.kind 3 s).1 pl most).2 = 2
        · refine .inr (.inl ?_)
          simp only [if_pos c2]
          exact ⟨fail_err 6 _ _ (by decide), by simp only [fail, if_pos h1.2.err, if_pos h1.2.err']⟩
        · simp only [if_neg c2]
          exact .inr (.inr (.inr ⟨rfl, h1.2⟩))
theorem good_day : Good T false (P.day dp) := (good_kind hu 4 (by decide)).mp dp
theorem good_one : ∀ (l : List ByteArray) (i : Int), Good T true (P.one l i)
  | [], i => Good.ret (-1)
  | w :: ws, i => (good_eat hu w).bnd hu.1 (G := fun a s => if a = true then (i, s) else P.one ws (i + 1) s) fun a => Good.ite (fun _ => Good.ret i) (fun _ => good_one ws (i + 1))
theorem good_mode : Good T true P.mode :=
  (good_one hu [wFloor, wCeil, wHalfup, wHalfeven] 0).bnd hu.1 (G := fun o s => if o < 0 then (0, fail 4 (peek s) s) else (o, s)) fun o => Good.ite (fun _ => (good_fail hu 0).up) (fun _ => Good.ret o)
theorem good_window : Good T true (P.window dp) :=
  (good_eat hu wFrom).bnd hu.1 (G := fun a s => if a = true then bnd (P.day dp) (fun f => bnd (un (P.must [wTo])) (fun _ => mp (fun t => (⟨true, f, t⟩ : Win)) (P.day dp))) s else (noWin, s)) fun a =>
    Good.ite (fun _ => ((good_day hu dp).bnd hu.1 fun f => (good_must1 hu wTo).bnd hu.1 fun _ => (good_day hu dp).mp _).up) (fun _ => Good.ret noWin)
theorem good_opt (w : ByteArray) (d : Int) : Good T true (P.opt np w d) :=
  (good_eat hu w).bnd hu.1 (G := fun a s => if a = true then bnd (P.number np 0 1000000) (fun x => mp (fun _ => x) (un (P.must [wSemi]))) s else (d, s)) fun a =>
    Good.ite (fun _ => ((good_number hu np 0 1000000).bnd hu.1 fun x => (good_must1 hu wSemi).mp _).up) (fun _ => Good.ret d)
theorem good_ckind : Good T true P.ckind :=
  (good_eat hu wVolume).bnd hu.1 (G := fun a s => if a = true then ((2 : Int), s) else mp (fun _ => (1 : Int)) (un (P.must [wGraduated])) s) fun a =>
    Good.ite (fun _ => Good.ret 2) (fun _ => ((good_must1 hu wGraduated).mp _).up)
theorem good_tierLoop : ∀ (f : Nat) (acc : List Tier), Good T true (P.tierLoop np f acc)
  | 0, acc => Good.ret acc
  | f + 1, acc => (good_eat hu wUpto).bnd hu.1 (G := fun a s => if a = true then bnd (P.number np 0 1000000) (fun x => bnd (un (P.must [wRate])) (fun _ => bnd (P.number np 6 1000000000000) (fun y => bnd (un (P.must [wSemi])) (fun _ => P.tierLoop np f (acc ++ [(⟨x, y⟩ : Tier)]))))) s else (acc, s)) fun a =>
    Good.ite (fun _ => (good_number hu np 0 1000000).bnd hu.1 fun x => (good_must1 hu wRate).bnd hu.1 fun _ => (good_number hu np 6 1000000000000).bnd hu.1 fun y => (good_must1 hu wSemi).bnd hu.1 fun _ => good_tierLoop f _) (fun _ => Good.ret acc)
theorem good_tierAll (acc : List Tier) : Good T true (P.tierAll np acc) := by
  refine ⟨fun s h => (good_tierLoop hu np (len s) acc).K s h, fun s h => (good_tierLoop hu np (len s) acc).E s h, fun s r h => ?_⟩
  have hl := (good_tierLoop hu np (len s + len r) acc).L s r h
  rw [tier_fuel np _ (len s) acc s (by omega) (Nat.le_refl _), tier_fuel np _ (len r) acc r (by omega) (Nat.le_refl _)] at hl
  exact hl
theorem good_tiers : Good T false (P.tiers np) :=
  (good_must1 hu wOpen).bnd hu.1 (G := fun _ => bnd (P.tierAll np []) (fun l => bnd (un (P.must [wRest, wRate])) (fun _ => bnd (P.number np 6 1000000000000) (fun r => mp (fun _ => l ++ [(⟨0, r⟩ : Tier)]) (un (P.must [wSemi, wClose])))))) fun _ =>
    (good_tierAll hu np []).bnd hu.1 fun l => (good_must2 hu wRest wRate).bnd hu.1 fun _ => (good_number hu np 6 1000000000000).bnd hu.1 fun r => (good_must2 hu wSemi wClose).mp _
theorem good_adjBody (k : Int) : Good T false (P.adjBody np k) := by
  have h : P.adjBody np k = fun s => if k = 1 then bnd (P.number np 3 100000000) (fun n => bnd P.mode (fun m => mp (fun _ => (⟨1, n, m⟩ : Adj)) (un (P.must [wSemi])))) s else bnd (P.number np 0 1000000000000) (fun n => mp (fun _ => (⟨k, n, 0⟩ : Adj)) (un (P.must [wSemi]))) s := rfl
  rw [h]
  exact Good.ite (fun _ => (good_number hu np 3 100000000).bnd hu.1 fun n => (good_mode hu).bnd hu.1 fun m => (good_must1 hu wSemi).mp _) (fun _ => (good_number hu np 0 1000000000000).bnd hu.1 fun n => (good_must1 hu wSemi).mp _)
theorem good_adjust : Good T true (P.adjust np) :=
  (good_one hu [wPercent, wCap, wMinimum, wAdd] 1).bnd hu.1 (G := fun o s => if o < 0 then (((⟨0, 0, 0⟩ : Adj), false), s) else mp (fun b => (b, true)) (P.adjBody np o) s) fun o =>
    Good.ite (fun _ => Good.ret _) (fun _ => ((good_adjBody hu np o).mp _).up)
theorem good_adjLoop : ∀ (f : Nat) (acc : List Adj), Good T true (P.adjLoop np f acc)
  | 0, acc => Good.ret acc
  | f + 1, acc => (good_adjust hu np).bnd hu.1 (G := fun a s => if a.2 = false ∨ s.err ≠ 0 then (acc, s) else P.adjLoop np f (acc ++ [a.1]) s) fun a => Good.iteErr (fun _ => good_adjLoop f _)
theorem good_adjAll (acc : List Adj) : Good T true (P.adjAll np acc) := by
  refine ⟨fun s h => (good_adjLoop hu np (len s) acc).K s h, fun s h => (good_adjLoop hu np (len s) acc).E s h, fun s r h => ?_⟩
  have hl := (good_adjLoop hu np (len s + len r) acc).L s r h
  rw [adj_fuel np _ (len s) acc s (by omega) (Nat.le_refl _), adj_fuel np _ (len r) acc r (by omega) (Nat.le_refl _)] at hl
  exact hl
theorem good_charge (l c : Int) : Good T false (P.charge dp np l c) :=
  (good_kind hu 1 (by decide)).bnd hu.1 (G := fun n => bnd (P.window dp) fun w => bnd (un (P.must [wOpen])) fun _ => bnd (P.opt np wAllowance 0) fun a => bnd (P.opt np wBlock 1) fun b => bnd P.ckind fun k => bnd (P.tiers np) fun t =>
      bnd (un (P.must [wRound])) fun _ => bnd P.mode fun m => bnd (un (P.must [wSemi])) fun _ => bnd (P.adjAll np []) fun d => mp (fun _ => (⟨n, w, a, b, k, t, m, d, l, c⟩ : Chg)) (un (P.must [wClose]))) fun n =>
    (good_window hu dp).bnd hu.1 fun w => (good_must1 hu wOpen).bnd hu.1 fun _ => (good_opt hu np wAllowance 0).bnd hu.1 fun a => (good_opt hu np wBlock 1).bnd hu.1 fun b => (good_ckind hu).bnd hu.1 fun k => (good_tiers hu np).bnd hu.1 fun t =>
      (good_must1 hu wRound).bnd hu.1 fun _ => (good_mode hu).bnd hu.1 fun m => (good_must1 hu wSemi).bnd hu.1 fun _ => (good_adjAll hu np []).bnd hu.1 fun d => (good_must1 hu wClose).mp _
theorem good_meter (l c : Int) : Good T false (P.meter np l c) :=
  (good_kind hu 1 (by decide)).bnd hu.1 (G := fun n => bnd (un (P.must [wUnit])) fun _ => bnd (P.kind 1) fun x => bnd (un (P.must [wMax])) fun _ => bnd (P.number np 0 2000) fun m => mp (fun _ => (⟨n, x, m, l, c⟩ : Met)) (un (P.must [wSemi]))) fun n =>
    (good_must1 hu wUnit).bnd hu.1 fun _ => (good_kind hu 1 (by decide)).bnd hu.1 fun x => (good_must1 hu wMax).bnd hu.1 fun _ => (good_number hu np 0 2000).bnd hu.1 fun m => (good_must1 hu wSemi).mp _
theorem good_fee (l c : Int) : Good T false (P.fee dp np l c) :=
  (good_number hu np 0 1000000000000).bnd hu.1 (G := fun x => bnd (P.window dp) fun w => mp (fun _ => (⟨x, w, l, c⟩ : Fee)) (un (P.must [wSemi]))) fun x =>
    (good_window hu dp).bnd hu.1 fun w => (good_must1 hu wSemi).mp _
end
/-- an item, without its place -/
inductive Thing where
  | met (m : Met)
  | fee (f : Fee)
  | chg (c : Chg)
  | none
def put (p : Plan) (l c : Int) : Thing → Plan
  | .met m => { p with mets := p.mets ++ [{ m with line := l, col := c }] }
  | .fee f => { p with fees := p.fees ++ [{ f with line := l, col := c }] }
  | .chg x => { p with chgs := p.chgs ++ [{ x with line := l, col := c }] }
  | .none => p
section
variable (dp : ByteArray → Day) (np : ByteArray → Int → Int → Int × Int)
def itm : St → Thing × St := bnd (P.one [wMeter, wFee, wCharge] 0) fun o s =>
  if o = 0 then mp Thing.met (P.meter np 0 0) s else if o = 1 then mp Thing.fee (P.fee dp np 0 0) s else if o = 2 then mp Thing.chg (P.charge dp np 0 0) s
  else bnd (fun s => ((), fail 4 (peek s) s)) (fun _ => mp (fun _ => Thing.none) (un (P.must [wSemi]))) s
theorem item_itm (p : Plan) (s : St) : P.item dp np p s = (put p (peek s).line (peek s).col (itm dp np s).1, (itm dp np s).2) := by
  have hr := one_range [wMeter, wFee, wCharge] 0 s
  have hn := one_none [wMeter, wFee, wCharge] 0 s (by decide)
  unfold P.item itm bnd
  simp only
  split
  · rfl
  · split
    · rfl
    · split
      · rfl
      · rename_i h0 h1 h2
        have h3 : (P.one [wMeter, wFee, wCharge] 0 s).1 = -1 := by
          have hl : ([wMeter, wFee, wCharge].length : Int) = 3 := rfl
          omega
        rw [hn h3]
        rfl
theorem good_itm {T : Tl} (hu : Tails T) : Good T false (itm dp np) :=
  (good_one hu [wMeter, wFee, wCharge] 0).bnd hu.1 fun o => Good.ite (fun _ => (good_meter hu np 0 0).mp _) fun _ => Good.ite (fun _ => (good_fee hu dp np 0 0).mp _) fun _ => Good.ite (fun _ => (good_charge hu dp np 0 0).mp _)
    fun _ => (good_fail hu ()).bnd hu.1 fun _ => (good_must1 hu wSemi).mp _
end
end Go.Proofs.YtcgkfgklggjmaaaDoor.Par
end
section
namespace Go.Proofs.YtcgkfgklggjmaaaDoor.Par
set_option linter.unusedVariables false
set_option linter.unusedSimpArgs false
/-! what is parsed can be told -/
def Ts (l : List Tok) : Prop := ∀ x ∈ l, x.text.size ≤ 8192
def V {α : Type} (Φ : α → Prop) (F : St → α × St) : Prop := ∀ s, Ts s.rest → Φ (F s).1 ∧ Ts (F s).2.rest
section
variable {α β : Type}
theorem V.bnd {Φ : α → Prop} {Ψ : β → Prop} {F : St → α × St} {G : α → St → β × St} (hF : V Φ F) (hG : ∀ a, Φ a → V Ψ (G a)) : V Ψ (bnd F G) := fun s hs => hG _ (hF s hs).1 _ (hF s hs).2
theorem V.mp {Φ : α → Prop} {Ψ : β → Prop} {F : St → α × St} (f : α → β) (hF : V Φ F) (hf : ∀ a, Φ a → Ψ (f a)) : V Ψ (mp f F) := fun s hs => ⟨hf _ (hF s hs).1, (hF s hs).2⟩
theorem V.ret {Φ : α → Prop} {a : α} (h : Φ a) : V Φ (fun s => (a, s)) := fun s hs => ⟨h, hs⟩
theorem V.ite {Φ : α → Prop} {p : Prop} [Decidable p] {F G : St → α × St} (hF : V Φ F) (hG : V Φ G) : V Φ (fun s => if p then F s else G s) := by
  by_cases hp : p
  · simp only [if_pos hp]; exact hF
  · simp only [if_neg hp]; exact hG
theorem V.iteErr {Φ : α → Prop} {p : Prop} [Decidable p] {a : α} {F : St → α × St} (ha : Φ a) (hF : V Φ F) : V Φ (fun s => if p ∨ s.err ≠ 0 then (a, s) else F s) := by
  intro s hs
  by_cases hp : p ∨ s.err ≠ 0
  · simp only [if_pos hp]; exact ⟨ha, hs⟩
  · simp only [if_neg hp]; exact hF s hs
theorem ts_tail {l : List Tok} (h : Ts l) : Ts l.tail := fun x hx => h x (List.mem_of_mem_tail hx)
theorem ts_next {s : St} (h : Ts s.rest) : Ts (P.next s).rest := by
  unfold P.next; split
  · exact h
  · exact ts_tail h
theorem ts_fail {e : Int} {t : Tok} {s : St} (h : Ts s.rest) : Ts (fail e t s).rest := by
  unfold fail; split <;> exact h
theorem v_eat (w : ByteArray) : V (fun _ => True) (P.eat w) := fun s hs => by
  unfold P.eat; split
  · exact ⟨trivial, ts_next hs⟩
  · exact ⟨trivial, hs⟩
theorem v_must : ∀ (l : List ByteArray), V (fun _ => True) (un (P.must l))
  | [], s, hs => ⟨trivial, hs⟩
  | w :: ws, s, hs => by
    have h1 := (v_eat w s hs).2
    refine ⟨trivial, ?_⟩
    show Ts (P.must (w :: ws) s).rest
    rw [P.must]
    split
    · exact (v_must ws _ h1).2
    · exact ts_fail h1
theorem v_kind (k : Int) : V (fun t : ByteArray => t.size ≤ 8192) (P.kind k) := fun s hs => by
  unfold P.kind; split
  · refine ⟨?_, ts_next hs⟩
    show (peek s).text.size ≤ 8192
    unfold peek
    cases hr : s.rest with
    | nil => exact Nat.zero_le _
    | cons a b => exact hs a (by rw [hr]; simp)
  · exact ⟨Nat.zero_le _, ts_fail hs⟩
variable (dp : ByteArray → Day) (np : ByteArray → Int → Int → Int × Int) (hnp : ∀ t pl most, 0 ≤ most → 0 ≤ (np t pl most).1 ∧ (np t pl most).1 ≤ most)
theorem v_day : V (fun _ => True) (P.day dp) := (v_kind 4).mp dp fun _ _ => trivial
theorem v_one : ∀ (l : List ByteArray) (i : Int), V (fun _ => True) (P.one l i)
  | [], i => V.ret trivial
  | w :: ws, i => (v_eat w).bnd (G := fun a s => if a = true then (i, s) else P.one ws (i + 1) s) fun a _ => V.ite (V.ret trivial) (v_one ws (i + 1))
theorem v_fail {Φ : α → Prop} {a : α} (h : Φ a) : V Φ (fun s => (a, fail 4 (peek s) s)) := fun s hs => ⟨h, ts_fail hs⟩
theorem v_mode : V (fun _ => True) P.mode := (v_one [wFloor, wCeil, wHalfup, wHalfeven] 0).bnd (G := fun o s => if o < 0 then (0, fail 4 (peek s) s) else (o, s)) fun o _ => V.ite (v_fail trivial) (V.ret trivial)
theorem v_window : V (fun _ => True) (P.window dp) :=
  (v_eat wFrom).bnd (G := fun a s => if a = true then bnd (P.day dp) (fun f => bnd (un (P.must [wTo])) (fun _ => mp (fun t => (⟨true, f, t⟩ : Win)) (P.day dp))) s else (noWin, s)) fun a _ =>
    V.ite ((v_day dp).bnd fun f _ => (v_must [wTo]).bnd fun _ _ => (v_day dp).mp _ fun _ _ => trivial) (V.ret trivial)
theorem v_ckind : V (fun _ => True) P.ckind :=
  (v_eat wVolume).bnd (G := fun a s => if a = true then ((2 : Int), s) else mp (fun _ => (1 : Int)) (un (P.must [wGraduated])) s) fun a _ => V.ite (V.ret trivial) ((v_must [wGraduated]).mp _ fun _ _ => trivial)
def TB (t : Tier) : Prop := (0 ≤ t.upto ∧ t.upto ≤ 1000000) ∧ (0 ≤ t.rate ∧ t.rate ≤ 1000000000000)
def AB (a : Adj) : Prop := 0 ≤ a.n ∧ a.n ≤ 1000000000000
def CB (c : Chg) : Prop := c.meter.size ≤ 8192 ∧ (0 ≤ c.allow ∧ c.allow ≤ 1000000) ∧ (0 ≤ c.block ∧ c.block ≤ 1000000) ∧ (∀ t ∈ c.tiers, TB t) ∧ (∀ a ∈ c.adjs, AB a)
def MB (m : Met) : Prop := (m.name.size ≤ 8192 ∧ m.unit.size ≤ 8192) ∧ 0 ≤ m.max ∧ m.max ≤ 2000
def FB (f : Fee) : Prop := 0 ≤ f.amount ∧ f.amount ≤ 1000000000000
structure PB (p : Plan) : Prop where
  name : p.name.size ≤ 8192
  cur : p.cur.size ≤ 8192
  mets : ∀ m ∈ p.mets, MB m
  fees : ∀ m ∈ p.fees, FB m
  chgs : ∀ m ∈ p.chgs, CB m
theorem v_head : V PB (P.head dp) := fun s hs => by
  have h1 := (v_must [wPlan] s hs).2
  have h2 := v_kind 1 _ h1
  have h3 := (v_must [wCurrency] _ h2.2).2
  have h4 := v_kind 1 _ h3
  have h5 := (v_must [wSemi, wHorizon] _ h4.2).2
  have h6 := v_day dp _ h5
  have h7 := v_day dp _ h6.2
  have h8 := (v_must [wSemi] _ h7.2).2
  exact ⟨⟨h2.1, h4.1, (fun x hx => by cases hx), (fun x hx => by cases hx), (fun x hx => by cases hx)⟩, h8⟩
include hnp
theorem v_number (pl most : Int) (hm : 0 ≤ most) : V (fun n => 0 ≤ n ∧ n ≤ most) (P.number np pl most) := fun s hs => by
  have hk := v_kind 3 s hs
  unfold P.number
  simp only
  split
  · refine ⟨hnp _ _ _ hm, ?_⟩
    simp only
    split
    · exact ts_fail hk.2
    · split
      · exact ts_fail hk.2
      · exact hk.2
  · exact ⟨⟨Int.le_refl _, hm⟩, hk.2⟩
theorem v_opt (w : ByteArray) (d : Int) (hd : 0 ≤ d ∧ d ≤ 1000000) : V (fun n => 0 ≤ n ∧ n ≤ 1000000) (P.opt np w d) :=
  (v_eat w).bnd (G := fun a s => if a = true then bnd (P.number np 0 1000000) (fun x => mp (fun _ => x) (un (P.must [wSemi]))) s else (d, s)) fun a _ =>
    V.ite ((v_number np hnp 0 1000000 (by decide)).bnd fun x hx => (v_must [wSemi]).mp _ fun _ _ => hx) (V.ret hd)
theorem v_tierLoop : ∀ (f : Nat) (acc : List Tier), (∀ t ∈ acc, TB t) → V (fun l => ∀ t ∈ l, TB t) (P.tierLoop np f acc)
  | 0, acc, h => V.ret h
  | f + 1, acc, h => (v_eat wUpto).bnd (G := fun a s => if a = true then bnd (P.number np 0 1000000) (fun x => bnd (un (P.must [wRate])) (fun _ => bnd (P.number np 6 1000000000000) (fun y => bnd (un (P.must [wSemi])) (fun _ => P.tierLoop np f (acc ++ [(⟨x, y⟩ : Tier)]))))) s else (acc, s)) fun a _ =>
    V.ite ((v_number np hnp 0 1000000 (by decide)).bnd fun x hx => (v_must [wRate]).bnd fun _ _ => (v_number np hnp 6 1000000000000 (by decide)).bnd fun y hy => (v_must [wSemi]).bnd fun _ _ => v_tierLoop f _ fun t ht => by
      rcases List.mem_append.1 ht with ht | ht
      · exact h t ht
      · obtain rfl := List.mem_singleton.1 ht; exact ⟨hx, hy⟩) (V.ret h)
theorem v_tierAll : V (fun l => ∀ t ∈ l, TB t) (P.tierAll np []) := fun s hs => v_tierLoop np hnp (len s) [] (fun t ht => by cases ht) s hs
theorem v_tiers : V (fun l => ∀ t ∈ l, TB t) (P.tiers np) :=
  (v_must [wOpen]).bnd (G := fun _ => bnd (P.tierAll np []) (fun l => bnd (un (P.must [wRest, wRate])) (fun _ => bnd (P.number np 6 1000000000000) (fun r => mp (fun _ => l ++ [(⟨0, r⟩ : Tier)]) (un (P.must [wSemi, wClose])))))) fun _ _ =>
    (v_tierAll np hnp).bnd fun l hl => (v_must [wRest, wRate]).bnd fun _ _ => (v_number np hnp 6 1000000000000 (by decide)).bnd fun r hr => (v_must [wSemi, wClose]).mp _ fun _ _ t ht => by
      rcases List.mem_append.1 ht with ht | ht
      · exact hl t ht
      · obtain rfl := List.mem_singleton.1 ht; exact ⟨⟨Int.le_refl _, by show (0 : Int) ≤ 1000000; decide⟩, hr⟩
theorem v_adjBody (k : Int) : V AB (P.adjBody np k) := by
  have h : P.adjBody np k = fun s => if k = 1 then bnd (P.number np 3 100000000) (fun n => bnd P.mode (fun m => mp (fun _ => (⟨1, n, m⟩ : Adj)) (un (P.must [wSemi])))) s else bnd (P.number np 0 1000000000000) (fun n => mp (fun _ => (⟨k, n, 0⟩ : Adj)) (un (P.must [wSemi]))) s := rfl
  rw [h]
  exact V.ite ((v_number np hnp 3 100000000 (by decide)).bnd fun n hn => v_mode.bnd fun m _ => (v_must [wSemi]).mp _ fun _ _ => ⟨hn.1, by show n ≤ 1000000000000; have := hn.2; omega⟩) ((v_number np hnp 0 1000000000000 (by decide)).bnd fun n hn => (v_must [wSemi]).mp _ fun _ _ => hn)
theorem v_adjust : V (fun x : Adj × Bool => AB x.1) (P.adjust np) :=
  (v_one [wPercent, wCap, wMinimum, wAdd] 1).bnd (G := fun o s => if o < 0 then (((⟨0, 0, 0⟩ : Adj), false), s) else mp (fun b => (b, true)) (P.adjBody np o) s) fun o _ =>
    V.ite (V.ret ⟨Int.le_refl _, by show (0 : Int) ≤ 1000000000000; decide⟩) ((v_adjBody np hnp o).mp _ fun _ h => h)
theorem v_adjLoop : ∀ (f : Nat) (acc : List Adj), (∀ a ∈ acc, AB a) → V (fun l => ∀ a ∈ l, AB a) (P.adjLoop np f acc)
  | 0, acc, h => V.ret h
  | f + 1, acc, h => (v_adjust np hnp).bnd (G := fun a s => if a.2 = false ∨ s.err ≠ 0 then (acc, s) else P.adjLoop np f (acc ++ [a.1]) s) fun a ha => V.iteErr h (v_adjLoop f _ fun x hx => by
      rcases List.mem_append.1 hx with hx | hx
      · exact h x hx
      · obtain rfl := List.mem_singleton.1 hx; exact ha)
theorem v_adjAll : V (fun l => ∀ a ∈ l, AB a) (P.adjAll np []) := fun s hs => v_adjLoop np hnp (len s) [] (fun t ht => by cases ht) s hs
theorem v_charge (l c : Int) : V CB (P.charge dp np l c) :=
  (v_kind 1).bnd (G := fun n => bnd (P.window dp) fun w => bnd (un (P.must [wOpen])) fun _ => bnd (P.opt np wAllowance 0) fun a => bnd (P.opt np wBlock 1) fun b => bnd P.ckind fun k => bnd (P.tiers np) fun t =>
      bnd (un (P.must [wRound])) fun _ => bnd P.mode fun m => bnd (un (P.must [wSemi])) fun _ => bnd (P.adjAll np []) fun d => mp (fun _ => (⟨n, w, a, b, k, t, m, d, l, c⟩ : Chg)) (un (P.must [wClose]))) fun n hn =>
    (v_window dp).bnd fun w _ => (v_must [wOpen]).bnd fun _ _ => (v_opt np hnp wAllowance 0 (by decide)).bnd fun a ha => (v_opt np hnp wBlock 1 (by decide)).bnd fun b hb => v_ckind.bnd fun k _ => (v_tiers np hnp).bnd fun t ht =>
      (v_must [wRound]).bnd fun _ _ => v_mode.bnd fun m _ => (v_must [wSemi]).bnd fun _ _ => (v_adjAll np hnp).bnd fun d hd => (v_must [wClose]).mp _ fun _ _ => ⟨hn, ha, hb, ht, hd⟩
theorem v_meter (l c : Int) : V MB (P.meter np l c) :=
  (v_kind 1).bnd (G := fun n => bnd (un (P.must [wUnit])) fun _ => bnd (P.kind 1) fun x => bnd (un (P.must [wMax])) fun _ => bnd (P.number np 0 2000) fun m => mp (fun _ => (⟨n, x, m, l, c⟩ : Met)) (un (P.must [wSemi]))) fun n hn =>
    (v_must [wUnit]).bnd fun _ _ => (v_kind 1).bnd fun x hx => (v_must [wMax]).bnd fun _ _ => (v_number np hnp 0 2000 (by decide)).bnd fun m hm => (v_must [wSemi]).mp _ fun _ _ => ⟨⟨hn, hx⟩, hm⟩
theorem v_fee (l c : Int) : V FB (P.fee dp np l c) :=
  (v_number np hnp 0 1000000000000 (by decide)).bnd (G := fun x => bnd (P.window dp) fun w => mp (fun _ => (⟨x, w, l, c⟩ : Fee)) (un (P.must [wSemi]))) fun x hx =>
    (v_window dp).bnd fun w _ => (v_must [wSemi]).mp _ fun _ _ => hx
theorem v_item (p : Plan) (hp : PB p) : V PB (P.item dp np p) := fun s hs => by
  have ho := (v_one [wMeter, wFee, wCharge] 0 s hs).2
  have hm := v_meter np hnp (peek s).line (peek s).col _ ho
  have hf := v_fee dp np hnp (peek s).line (peek s).col _ ho
  have hc := v_charge dp np hnp (peek s).line (peek s).col _ ho
  unfold P.item
  simp only
  split
  · exact ⟨⟨hp.name, hp.cur, fun x hx => by
      rcases List.mem_append.1 hx with hx | hx
      · exact hp.mets x hx
      · obtain rfl := List.mem_singleton.1 hx; exact hm.1, hp.fees, hp.chgs⟩, hm.2⟩
  · split
    · exact ⟨⟨hp.name, hp.cur, hp.mets, fun x hx => by
        rcases List.mem_append.1 hx with hx | hx
        · exact hp.fees x hx
        · obtain rfl := List.mem_singleton.1 hx; exact hf.1, hp.chgs⟩, hf.2⟩
    · split
      · exact ⟨⟨hp.name, hp.cur, hp.mets, hp.fees, fun x hx => by
          rcases List.mem_append.1 hx with hx | hx
          · exact hp.chgs x hx
          · obtain rfl := List.mem_singleton.1 hx; exact hc.1⟩, hc.2⟩
      · exact ⟨hp, (v_must [wSemi] _ (ts_fail ho)).2⟩
theorem v_items : ∀ (f : Nat) (p : Plan), PB p → V PB (P.items dp np f p)
  | 0, p, hp => V.ret hp
  | f + 1, p, hp => fun s hs => by
    rw [P.items]
    split
    · have h := v_item dp np hnp p hp s hs
      exact v_items f _ h.1 _ h.2
    · exact ⟨hp, hs⟩
end
theorem npV_in (t : ByteArray) (pl most : Int) (hm : 0 ≤ most) : 0 ≤ (npV t pl most).1 ∧ (npV t pl most).1 ≤ most := by
  unfold npV Dec.parseL Dec.parseW
  split
  · exact ⟨Int.le_refl _, hm⟩
  · split
    · exact ⟨Int.le_refl _, hm⟩
    · split
      · exact ⟨Int.le_refl _, hm⟩
      · rename_i h
        exact ⟨Int.natCast_nonneg _, by simp only; omega⟩
/-- a plan that is parsed can be told -/
theorem told_parse {l : List UInt8} (h : (RParse l).2.1 = 0) : Told (RParse l).1 := by
  have hs := RParse_small l
  have hpb : PB (RParse l).1 := by
    obtain ⟨ts, er, a, b, hall⟩ : ∃ ts er a b, lexAll l = (ts, er, a, b) := ⟨_, _, _, _, rfl⟩
    by_cases her : er = 0
    · subst her
      by_cases h0 : (P.plan dp npV ts).2.err = 0
      · rw [PParse_ok hall h0]
        have h1 := v_head dp ⟨ts, 0, 0, 0⟩ (all_sizes hall)
        exact (v_items dp npV npV_in _ _ h1.1 _ h1.2).1
      · rw [PParse_bad hall h0] at h; exact absurd h h0
    · rw [RParse_lex hall her] at h; exact absurd h her
  exact ⟨⟨fun m hm => (hpb.mets m hm).2, fun f hf => hpb.fees f hf, fun c hc => ⟨(hpb.chgs c hc).2.1, (hpb.chgs c hc).2.2.1, (hpb.chgs c hc).2.2.2.1, (hpb.chgs c hc).2.2.2.2⟩⟩, hs, hpb.name, hpb.cur, fun m hm => (hpb.mets m hm).1, fun c hc => (hpb.chgs c hc).1⟩
end Go.Proofs.YtcgkfgklggjmaaaDoor.Par
end
section
namespace Go.Proofs.YtcgkfgklggjmaaaDoor
set_option linter.unusedVariables false
set_option linter.unusedSimpArgs false
open Go.RowKit
theorem lexL_note (cs : List UInt8) (line col : Int) : lexL (35 :: cs) line col = lexL (cs.drop (noteLen cs)) line (col + 1 + noteLen cs) := by rw [lexL, if_pos rfl]
theorem lexL_nl (cs : List UInt8) (line col : Int) : lexL (10 :: cs) line col = lexL cs (line + 1) 1 := by rw [lexL, if_neg (by decide), if_pos rfl]
theorem lexL_bl (c : UInt8) (cs : List UInt8) (line col : Int) (h : c = 32 ∨ c = 9 ∨ c = 13) : lexL (c :: cs) line col = lexL cs line (col + 1) := by
  have h1 : c ≠ 35 := by rcases h with rfl | rfl | rfl <;> decide
  have h2 : c ≠ 10 := by rcases h with rfl | rfl | rfl <;> decide
  rw [lexL, if_neg h1, if_neg h2, if_pos h]
theorem lexL_tok (c : UInt8) (cs : List UInt8) (line col : Int) (h1 : c ≠ 35) (h2 : c ≠ 10) (h3 : ¬ (c = 32 ∨ c = 9 ∨ c = 13)) :
    lexL (c :: cs) line col = if kindOf (c :: cs.take (tokLen c cs)) = 0 then .error (line, col) else consR ⟨kindOf (c :: cs.take (tokLen c cs)), ⟨(c :: cs.take (tokLen c cs)).toArray⟩, line, col⟩ (lexL (cs.drop (tokLen c cs)) line (col + 1 + tokLen c cs)) := by
  rw [lexL, if_neg h1, if_neg h2, if_neg h3]
theorem noteLen_step (s : ByteArray) (k : Nat) (h : k < s.size) (hc : s[k] ≠ 10) : noteLen (s.data.toList.drop k) = 1 + noteLen (s.data.toList.drop (k + 1)) := by
  rw [drop_at s k h, noteLen, List.takeWhile_cons, if_pos (by simpa using hc)]; simp [noteLen]; omega
theorem noteLen_stop (s : ByteArray) (k : Nat) (h : k < s.size) (hc : s[k] = 10) : noteLen (s.data.toList.drop k) = 0 := by
  rw [drop_at s k h, noteLen, List.takeWhile_cons, if_neg (by simp [hc])]; rfl
def lexRR (v : Value) (er l c : Int) : Value := .tuple #[v, .int .i64 er, .int .i64 l, .int .i64 c]
theorem rtokInfo : (Tryd.prog.info? 61).map (fun i => (i.zero, i.size, i.bytes)) = some (some (.agg #[.int .i64 0, .string ⟨#[]⟩, .int .i64 0, .int .i64 0]), 4, 40) := by kernel_rfl
theorem results_tmp4 {fn : Func} {t u v x : Tmp} (h : fn.results = #[.tmp t, .tmp u, .tmp v, .tmp x]) (tmps : Array Value) (P : Program) (w : World) :
    (results fn tmps).run P w = .ok (.tuple #[tmps.getD t undef, tmps.getD u undef, tmps.getD v undef, tmps.getD x undef]) w := by simp [results, h]
set_option maxHeartbeats 4000000 in
set_option maxRecDepth 100000 in
theorem rlex_any (s : ByteArray) (w : World) (hs : s.size ≤ 9223372036854775807) :
    Calls Tryd.prog 21 #[.string s] w (LexOut 61 s w lexRR) := by
  have hlen : s.data.toList.length = s.size := by simp
  have HLEN := Lib.hid hlen
  clear hlen
  by_cases hbig : 8192 < s.size
  · have HA : Hid (lexAll s.data.toList = ([], 6, 1, 1)) := by
      show _ = _
      rw [lexAll, if_pos (by rw [HLEN.out]; exact hbig)]
    go_enter Tryd.func21, Tryd.ntmps21
    go_wp2
    refine bodyPost_ret (results_tmp4 rfl _ _ _) rfl ?_
    exact ⟨.slice none 0 0, [], 6, 1, 1, rfl, World.ownsRow_nil _ _ _ _, bl_refl _, HA.out⟩
  · obtain ⟨i0, hi0, hz0, hz1, hz2⟩ := info_parts rtokInfo
    go_enter Tryd.func21, Tryd.ntmps21
    go_wp2_with fail
    go_loopw [6, 7, 8, 9] (fun v6 v7 v8 v9 wr => ∃ (ts : List Tok) (a : Nat) (line col : Int), a ≤ s.size ∧ 0 ≤ line ∧ line ≤ a + 1 ∧ 0 ≤ col ∧ col ≤ a + 1 ∧ v7 = .int .i64 line ∧ v8 = .int .i64 col ∧ v9 = .int .i64 a ∧
      wr.ownsRow w.heap.size 61 4 v6 ts.length (toksCells ts) ∧ ts.length ≤ a ∧ Below w.heap.size w wr ∧ Hid (LexIn s.data.toList ts a line col)) (fun _ _ _ v9 _ => s.size - (intOf v9).toNat)
    case atStart => exact ⟨[], 0, 1, 1, by omega, by omega, by omega, by omega, by omega, rfl, rfl, rfl, World.ownsRow_nil _ _ _ _, Nat.le_refl _, bl_refl _, by simp [Hid, LexIn, preR_nil]⟩
    case round =>
      obtain ⟨ts, a, line, col, ha, l1, l2, c1, c2, rfl, rfl, rfl, hown, hts, hbw, HI⟩ := hrel
      have hlw := hbw.size
      by_cases hend : s.size ≤ a
      · obtain rfl : a = s.size := by omega
        have HR : Hid (lexAll s.data.toList = (ts ++ [⟨0, ⟨#[]⟩, line, col⟩], 0, 0, 0)) := by
          have h := HI.out
          unfold LexIn at h
          rw [drop_end, lexL] at h
          show _ = _
          rw [lexAll, if_neg (by rw [HLEN.out]; exact hbig), h]; rfl
        clear HI
        go_wp2_with (at_builtin; refine wpList_append_own _ rfl _ _ 57 rfl w.heap.size 61 i0 _ 4 40 Tryd.underlying57 hi0 hz0 hz1 hz2 rfl (by decide) _ _ _ rfl (hown.alloc _) ⟨wr.heap.size, 0, none⟩ 1 1 [.int .i64 0, .string ⟨#[]⟩, .int .i64 line, .int .i64 col] rfl rfl (World.news_of_block (cs := #[.int .i64 0, .string ⟨#[]⟩, .int .i64 line, .int .i64 col]) (t := 61) (fr := (0, 0)) (heap_alloc_new _ _)) (by simp [Value.oneCell']) (by unfold maxLen; omega) (by omega) (by simp; omega) ?_; intro v1 w1 hown1 hgrow1 hnil1)
        refine bodyPost_ret (results_tmp4 rfl _ _ _) rfl ?_
        refine ⟨v1, ts ++ [⟨0, ⟨#[]⟩, line, col⟩], 0, 0, 0, rfl, ?_, ?_, HR.out⟩
        · rw [toks_snoc, List.length_append]
          exact hown1
        · exact bl_grown (bl_alloc hbw _) hgrow1 (fun k hk => (hown.lt _ hk).1)
      · have hlt : a < s.size := by omega
        have hdr := drop_at s a hlt
        have HD := Lib.hid hdr
        have hcl := (s[a]'hlt).toNat_lt
        clear hdr
        by_cases h35 : s[a]'hlt = 35
        · have hb : (((s[a]'hlt).toNat : Int) == 35) = true := by rw [h35]; rfl
          have hb10 : (((s[a]'hlt).toNat : Int) == 10) = false := by rw [h35]; rfl
          have HST : ∀ k : Nat, k = a + 1 + noteLen (s.data.toList.drop (a + 1)) → LexIn s.data.toList ts k line (col + k - a) := fun k hk => by
            have h := HI.out
            unfold LexIn at h ⊢
            rw [HD.out, h35, lexL_note, List.drop_drop] at h
            rw [h, ← hk, show col + 1 + (noteLen (s.data.toList.drop (a + 1)) : Int) = col + k - a from by omega]
          have HSTH := Lib.hid HST
          clear HST h35 HI HD
          go_wp2_with fail
          obtain ⟨wo, rfl⟩ : ∃ wo : World, wo = wr := ⟨_, rfl⟩
          go_loop [11] (fun v => ∃ k : Nat, a + 1 ≤ k ∧ k ≤ s.size ∧ v = .int .i64 k ∧ Hid (k + noteLen (s.data.toList.drop k) = a + 1 + noteLen (s.data.toList.drop (a + 1)))) (fun v => s.size - (intOf v).toNat)
          case atStart => exact ⟨a + 1, by omega, by omega, by go_num, rfl⟩
          case round =>
            obtain ⟨k, hk1, hk2, rfl, HN⟩ := hrel
            by_cases hklt : k < s.size
            · have hckl := (s[k]'hklt).toNat_lt
              by_cases h10 : s[k]'hklt = 10
              · have hbk : (((s[k]'hklt).toNat : Int) != 10) = false := by rw [h10]; rfl
                have HF := Lib.hid (HSTH.out k (by rw [← HN.out, noteLen_stop s k hklt h10, Nat.add_zero]))
                clear h10
                go_wp2
                go_roundw
                case rel => exact ⟨ts, k, line, col + k - a, by omega, l1, by omega, by omega, by omega, rfl, rfl, rfl, hown, by omega, hbw, HF⟩
                case measure => simp [intOf]; omega
              · have hbk : (((s[k]'hklt).toNat : Int) != 10) = true := by simp [bne, u8_nb (d := 10) (n := 10) rfl h10]
                have HX : Hid (k + 1 + noteLen (s.data.toList.drop (k + 1)) = a + 1 + noteLen (s.data.toList.drop (a + 1))) := by
                  show _ = _
                  rw [← HN.out, noteLen_step s k hklt h10]; omega
                clear h10
                go_wp2
                go_round
                case rel => exact ⟨k + 1, by omega, by omega, by go_num, HX⟩
                case measure => simp [intOf]; omega
            · obtain rfl : k = s.size := by omega
              have HF := Lib.hid (HSTH.out s.size (by rw [← HN.out, drop_end]; rfl))
              go_wp2
              go_roundw
              case rel => exact ⟨ts, s.size, line, col + s.size - a, by omega, l1, by omega, by omega, by omega, rfl, rfl, rfl, hown, by omega, hbw, HF⟩
              case measure => simp [intOf]; omega
        · have hb : (((s[a]'hlt).toNat : Int) == 35) = false := u8_nb rfl h35
          by_cases h : s[a]'hlt = 32
          · have HF : Hid (LexIn s.data.toList ts (a + 1) line (col + 1)) := by
              have hh := HI.out
              show LexIn _ _ _ _ _
              unfold LexIn at hh ⊢
              rw [HD.out, h, lexL_bl _ _ _ _ (by decide)] at hh
              exact hh
            have g0 : (((s[a]'hlt).toNat : Int) != 32) = false := by rw [h]; rfl
            have gn : (((s[a]'hlt).toNat : Int) == 10) = false := by rw [h]; rfl
            clear h h35 HI HD
            go_wp2
            go_roundw
            case rel => exact ⟨ts, a + 1, line, col + 1, by omega, by omega, by omega, by omega, by omega, rfl, by go_num, by go_num, hown, by omega, hbw, HF⟩
            case measure => simp [intOf]; omega
          have n32 := h
          have g0 : (((s[a]'hlt).toNat : Int) != 32) = true := by simp [bne, u8_nb (d := 32) (n := 32) rfl h]
          clear h
          by_cases h : s[a]'hlt = 9
          · have HF : Hid (LexIn s.data.toList ts (a + 1) line (col + 1)) := by
              have hh := HI.out
              show LexIn _ _ _ _ _
              unfold LexIn at hh ⊢
              rw [HD.out, h, lexL_bl _ _ _ _ (by decide)] at hh
              exact hh
            have g0 : (((s[a]'hlt).toNat : Int) != 32) = true := by rw [h]; rfl
            have g1 : (((s[a]'hlt).toNat : Int) != 9) = false := by rw [h]; rfl
            have gn : (((s[a]'hlt).toNat : Int) == 10) = false := by rw [h]; rfl
            clear h h35 HI HD
            go_wp2
            go_roundw
            case rel => exact ⟨ts, a + 1, line, col + 1, by omega, by omega, by omega, by omega, by omega, rfl, by go_num, by go_num, hown, by omega, hbw, HF⟩
            case measure => simp [intOf]; omega
          have n9 := h
          have g1 : (((s[a]'hlt).toNat : Int) != 9) = true := by simp [bne, u8_nb (d := 9) (n := 9) rfl h]
          clear h
          by_cases h : s[a]'hlt = 10
          · have HF : Hid (LexIn s.data.toList ts (a + 1) (line + 1) 1) := by
              have hh := HI.out
              show LexIn _ _ _ _ _
              unfold LexIn at hh ⊢
              rw [HD.out, h, lexL_nl] at hh
              exact hh
            have g0 : (((s[a]'hlt).toNat : Int) != 32) = true := by rw [h]; rfl
            have g1 : (((s[a]'hlt).toNat : Int) != 9) = true := by rw [h]; rfl
            have g2 : (((s[a]'hlt).toNat : Int) != 10) = false := by rw [h]; rfl
            have gn : (((s[a]'hlt).toNat : Int) == 10) = true := by rw [h]; rfl
            clear h h35 HI HD
            go_wp2
            go_roundw
            case rel => exact ⟨ts, a + 1, line + 1, 1, by omega, by omega, by omega, by omega, by omega, rfl, rfl, by go_num, hown, by omega, hbw, HF⟩
            case measure => simp [intOf]; omega
          have n10 := h
          have g2 : (((s[a]'hlt).toNat : Int) != 10) = true := by simp [bne, u8_nb (d := 10) (n := 10) rfl h]
          clear h
          by_cases h : s[a]'hlt = 13
          · have HF : Hid (LexIn s.data.toList ts (a + 1) line (col + 1)) := by
              have hh := HI.out
              show LexIn _ _ _ _ _
              unfold LexIn at hh ⊢
              rw [HD.out, h, lexL_bl _ _ _ _ (by decide)] at hh
              exact hh
            have g0 : (((s[a]'hlt).toNat : Int) != 32) = true := by rw [h]; rfl
            have g1 : (((s[a]'hlt).toNat : Int) != 9) = true := by rw [h]; rfl
            have g2 : (((s[a]'hlt).toNat : Int) != 10) = true := by rw [h]; rfl
            have g3 : (((s[a]'hlt).toNat : Int) != 13) = false := by rw [h]; rfl
            have gn : (((s[a]'hlt).toNat : Int) == 10) = false := by rw [h]; rfl
            clear h h35 HI HD
            go_wp2
            go_roundw
            case rel => exact ⟨ts, a + 1, line, col + 1, by omega, by omega, by omega, by omega, by omega, rfl, by go_num, by go_num, hown, by omega, hbw, HF⟩
            case measure => simp [intOf]; omega
          have n13 := h
          have g3 : (((s[a]'hlt).toNat : Int) != 13) = true := by simp [bne, u8_nb (d := 13) (n := 13) rfl h]
          clear h
          have gn : (((s[a]'hlt).toNat : Int) == 10) = false := u8_nb rfl n10
          have n3 : ¬ (s[a]'hlt = 32 ∨ s[a]'hlt = 9 ∨ s[a]'hlt = 13) := fun h => by rcases h with h | h | h <;> simp_all
          have hst := lexL_tok (s[a]'hlt) (s.data.toList.drop (a + 1)) line col h35 n10 n3
          have hI := HI.out
          unfold LexIn at hI
          rw [HD.out, hst] at hI
          have HII := Lib.hid hI
          have htl := tokLen_le (s[a]'hlt) (s.data.toList.drop (a + 1))
          have hbnd : a + 1 + tokLen (s[a]'hlt) (s.data.toList.drop (a + 1)) ≤ s.size := by
            have := HLEN.out
            rw [List.length_drop] at htl; omega
          have hexl : (s.extract a (a + 1 + tokLen (s[a]'hlt) (s.data.toList.drop (a + 1)))).data.toList = s[a]'hlt :: (s.data.toList.drop (a + 1)).take (tokLen (s[a]'hlt) (s.data.toList.drop (a + 1))) := by
            rw [Lib.extract_data, HD.out, show a + 1 + tokLen (s[a]'hlt) (s.data.toList.drop (a + 1)) - a = tokLen (s[a]'hlt) (s.data.toList.drop (a + 1)) + 1 from by omega, List.take_succ_cons]
          have hex2 : (⟨(s[a]'hlt :: (s.data.toList.drop (a + 1)).take (tokLen (s[a]'hlt) (s.data.toList.drop (a + 1)))).toArray⟩ : ByteArray) = s.extract a (a + 1 + tokLen (s[a]'hlt) (s.data.toList.drop (a + 1))) := by rw [← hexl]
          rw [hex2] at HII
          have HEXL := Lib.hid hexl
          generalize htll : s[a]'hlt :: (s.data.toList.drop (a + 1)).take (tokLen (s[a]'hlt) (s.data.toList.drop (a + 1))) = tl at *
          have htk : ∀ l, tokLen (s[a]'hlt) l = if isLet (s[a]'hlt) then runLen l else 0 := fun l => rfl
          have HTK := Lib.hid htk
          generalize hn : tokLen (s[a]'hlt) (s.data.toList.drop (a + 1)) = n at *
          rw [List.drop_drop] at HII
          clear hst hI HI HD h35 n32 n9 n10 n13 n3 htl hexl hex2 htll htk
          have HNN := Lib.hid hn
          clear hn
          go_wp2_with fail
          obtain ⟨wo, rfl⟩ : ∃ wo : World, wo = wr := ⟨_, rfl⟩
          go_loop [11] (fun v => ∃ k : Nat, a + 1 ≤ k ∧ k ≤ s.size ∧ v = .int .i64 k ∧ Hid (k + tokLen (s[a]'hlt) (s.data.toList.drop k) = a + 1 + n)) (fun v => s.size - (intOf v).toNat)
          case atStart => exact ⟨a + 1, by omega, by omega, by go_num, by show _ = _; rw [HNN.out]⟩
          case round =>
            obtain ⟨k, hk1, hk2, rfl, HN⟩ := hrel
            cases hi : isLet (s[a]'hlt) with
            | false =>
              have HNK : Hid (k = a + 1 + n) := by
                have h := HN.out
                rw [HTK.out, hi] at h
                show _ = _
                simpa using h
              have hnk := HNK.out
              obtain rfl : n = k - (a + 1) := by omega
              have hex : a + 1 + (k - (a + 1)) = k := by omega
              rw [hex] at HII HEXL
              clear HN HNN hex HNK hnk
              have hszk : (s.extract a k).size ≤ 9223372036854775807 := Nat.le_trans (show (s.extract a k).size ≤ 8192 by rw [ByteArray.size_extract]; omega) (by decide)
              by_cases hkz : kindOf tl = 0
              · have HR : Hid (lexAll s.data.toList = ([], 3, line, col)) := by
                  have h := HII.out
                  rw [if_pos hkz] at h
                  show _ = _
                  rw [lexAll, if_neg (by rw [HLEN.out]; exact hbig), h]; rfl
                have HOF := Lib.hid (rOf5_any (s.extract a k))
                rw [HEXL.out, hkz] at HOF
                clear hkz HII HEXL
                go_wp2_with (first | (go_at_call 56; refine (rletter_any _ _).mono ?_; rintro e w' ⟨rfl, rfl⟩) | (go_at_call 57; refine (HOF.out _ hszk).mono ?_; rintro e w2 ⟨rfl, hb2⟩))
                refine bodyPost_ret (results_tmp4 rfl _ _ _) rfl ?_
                exact ⟨.slice none 0 0, [], 3, line, col, rfl, World.ownsRow_nil _ _ _ _, bl_call hbw hb2, HR.out⟩
              · have HS2 : Hid (LexIn s.data.toList (ts ++ [⟨kindOf tl, s.extract a k, line, col⟩]) k line (col + k - a)) := by
                  have h := HII.out
                  rw [if_neg hkz] at h
                  show LexIn _ _ _ _ _
                  unfold LexIn
                  rw [h, preR_snoc, show col + 1 + ((k - (a + 1) : Nat) : Int) = col + k - a from by omega]
                have hk0 : (kindOf tl == 0) = false := beq_eq_false_iff_ne.2 hkz
                have HOF := Lib.hid (rOf5_any (s.extract a k))
                rw [HEXL.out] at HOF
                clear hkz HII HEXL
                generalize hkk : kindOf tl = kd at *
                clear hkk
                go_wp2_with (first | (go_at_call 56; refine (rletter_any _ _).mono ?_; rintro e w' ⟨rfl, rfl⟩) | (go_at_call 57; refine (HOF.out _ hszk).mono ?_; rintro e w2 ⟨rfl, hb2⟩; (have hown2 := ownsRow_below hown hb2); (have hbw2 := bl_call hbw hb2); (have hlw2 := hbw2.size)) | (at_builtin; refine wpList_append_own _ rfl _ _ 57 rfl w.heap.size 61 i0 _ 4 40 Tryd.underlying57 hi0 hz0 hz1 hz2 rfl (by decide) _ _ _ rfl (hown2.alloc _) ⟨w2.heap.size, 0, none⟩ 1 1 [.int .i64 kd, .string (s.extract a k), .int .i64 line, .int .i64 col] rfl rfl (World.news_of_block (cs := #[.int .i64 kd, .string (s.extract a k), .int .i64 line, .int .i64 col]) (t := 61) (fr := (0, 0)) (heap_alloc_new _ _)) (by simp [Value.oneCell']) (by unfold maxLen; omega) (by omega) (by simp; omega) ?_; intro v1 w3 hown3 hgrow3 hnil3))
                go_roundw
                case rel =>
                  refine ⟨ts ++ [⟨kd, s.extract a k, line, col⟩], k, line, col + k - a, hk2, l1, by omega, by omega, by omega, rfl, rfl, rfl, ?_, by simp; omega, ?_, HS2⟩
                  · rw [toks_snoc, List.length_append]; exact hown3
                  · exact bl_grown (bl_alloc hbw2 _) hgrow3 (fun k hk => (hown2.lt _ hk).1)
                case measure => simp [intOf]; omega
            | true =>
              by_cases hklt : k < s.size
              · cases hik : isLet (s[k]'hklt) with
                | true =>
                  have HX : Hid (k + 1 + tokLen (s[a]'hlt) (s.data.toList.drop (k + 1)) = a + 1 + n) := by
                    have h := HN.out
                    rw [HTK.out, hi, if_pos rfl, runLen_step s k hklt hik] at h
                    show _ = _
                    rw [HTK.out, hi, if_pos rfl]; omega
                  go_wp2_with (go_at_call 56; refine (rletter_any _ _).mono ?_; rintro e w' ⟨rfl, rfl⟩)
                  go_round
                  case rel => exact ⟨k + 1, by omega, by omega, by go_num, HX⟩
                  case measure => simp [intOf]; omega
                | false =>
                  have HNK : Hid (k = a + 1 + n) := by
                    have h := HN.out
                    rw [HTK.out, hi, if_pos rfl, runLen_stop s k hklt hik] at h
                    exact h
                  have hnk := HNK.out
                  obtain rfl : n = k - (a + 1) := by omega
                  have hex : a + 1 + (k - (a + 1)) = k := by omega
                  rw [hex] at HII HEXL
                  clear HN HNN hex HNK hnk
                  have hszk : (s.extract a k).size ≤ 9223372036854775807 := Nat.le_trans (show (s.extract a k).size ≤ 8192 by rw [ByteArray.size_extract]; omega) (by decide)
                  by_cases hkz : kindOf tl = 0
                  · have HR : Hid (lexAll s.data.toList = ([], 3, line, col)) := by
                      have h := HII.out
                      rw [if_pos hkz] at h
                      show _ = _
                      rw [lexAll, if_neg (by rw [HLEN.out]; exact hbig), h]; rfl
                    have HOF := Lib.hid (rOf5_any (s.extract a k))
                    rw [HEXL.out, hkz] at HOF
                    clear hkz HII HEXL
                    go_wp2_with (first | (go_at_call 56; refine (rletter_any _ _).mono ?_; rintro e w' ⟨rfl, rfl⟩) | (go_at_call 57; refine (HOF.out _ hszk).mono ?_; rintro e w2 ⟨rfl, hb2⟩))
                    refine bodyPost_ret (results_tmp4 rfl _ _ _) rfl ?_
                    exact ⟨.slice none 0 0, [], 3, line, col, rfl, World.ownsRow_nil _ _ _ _, bl_call hbw hb2, HR.out⟩
                  · have HS2 : Hid (LexIn s.data.toList (ts ++ [⟨kindOf tl, s.extract a k, line, col⟩]) k line (col + k - a)) := by
                      have h := HII.out
                      rw [if_neg hkz] at h
                      show LexIn _ _ _ _ _
                      unfold LexIn
                      rw [h, preR_snoc, show col + 1 + ((k - (a + 1) : Nat) : Int) = col + k - a from by omega]
                    have hk0 : (kindOf tl == 0) = false := beq_eq_false_iff_ne.2 hkz
                    have HOF := Lib.hid (rOf5_any (s.extract a k))
                    rw [HEXL.out] at HOF
                    clear hkz HII HEXL
                    generalize hkk : kindOf tl = kd at *
                    clear hkk
                    go_wp2_with (first | (go_at_call 56; refine (rletter_any _ _).mono ?_; rintro e w' ⟨rfl, rfl⟩) | (go_at_call 57; refine (HOF.out _ hszk).mono ?_; rintro e w2 ⟨rfl, hb2⟩; (have hown2 := ownsRow_below hown hb2); (have hbw2 := bl_call hbw hb2); (have hlw2 := hbw2.size)) | (at_builtin; refine wpList_append_own _ rfl _ _ 57 rfl w.heap.size 61 i0 _ 4 40 Tryd.underlying57 hi0 hz0 hz1 hz2 rfl (by decide) _ _ _ rfl (hown2.alloc _) ⟨w2.heap.size, 0, none⟩ 1 1 [.int .i64 kd, .string (s.extract a k), .int .i64 line, .int .i64 col] rfl rfl (World.news_of_block (cs := #[.int .i64 kd, .string (s.extract a k), .int .i64 line, .int .i64 col]) (t := 61) (fr := (0, 0)) (heap_alloc_new _ _)) (by simp [Value.oneCell']) (by unfold maxLen; omega) (by omega) (by simp; omega) ?_; intro v1 w3 hown3 hgrow3 hnil3))
                    go_roundw
                    case rel =>
                      refine ⟨ts ++ [⟨kd, s.extract a k, line, col⟩], k, line, col + k - a, hk2, l1, by omega, by omega, by omega, rfl, rfl, rfl, ?_, by simp; omega, ?_, HS2⟩
                      · rw [toks_snoc, List.length_append]; exact hown3
                      · exact bl_grown (bl_alloc hbw2 _) hgrow3 (fun k hk => (hown2.lt _ hk).1)
                    case measure => simp [intOf]; omega
              · have HNK : Hid (k = a + 1 + n) := by
                  obtain rfl : k = s.size := by omega
                  have h := HN.out
                  rw [HTK.out, hi, if_pos rfl, drop_end] at h
                  exact h
                have hnk := HNK.out
                obtain rfl : n = k - (a + 1) := by omega
                have hex : a + 1 + (k - (a + 1)) = k := by omega
                rw [hex] at HII HEXL
                clear HN HNN hex HNK hnk
                have hszk : (s.extract a k).size ≤ 9223372036854775807 := Nat.le_trans (show (s.extract a k).size ≤ 8192 by rw [ByteArray.size_extract]; omega) (by decide)
                by_cases hkz : kindOf tl = 0
                · have HR : Hid (lexAll s.data.toList = ([], 3, line, col)) := by
                    have h := HII.out
                    rw [if_pos hkz] at h
                    show _ = _
                    rw [lexAll, if_neg (by rw [HLEN.out]; exact hbig), h]; rfl
                  have HOF := Lib.hid (rOf5_any (s.extract a k))
                  rw [HEXL.out, hkz] at HOF
                  clear hkz HII HEXL
                  go_wp2_with (first | (go_at_call 56; refine (rletter_any _ _).mono ?_; rintro e w' ⟨rfl, rfl⟩) | (go_at_call 57; refine (HOF.out _ hszk).mono ?_; rintro e w2 ⟨rfl, hb2⟩))
                  refine bodyPost_ret (results_tmp4 rfl _ _ _) rfl ?_
                  exact ⟨.slice none 0 0, [], 3, line, col, rfl, World.ownsRow_nil _ _ _ _, bl_call hbw hb2, HR.out⟩
                · have HS2 : Hid (LexIn s.data.toList (ts ++ [⟨kindOf tl, s.extract a k, line, col⟩]) k line (col + k - a)) := by
                    have h := HII.out
                    rw [if_neg hkz] at h
                    show LexIn _ _ _ _ _
                    unfold LexIn
                    rw [h, preR_snoc, show col + 1 + ((k - (a + 1) : Nat) : Int) = col + k - a from by omega]
                  have hk0 : (kindOf tl == 0) = false := beq_eq_false_iff_ne.2 hkz
                  have HOF := Lib.hid (rOf5_any (s.extract a k))
                  rw [HEXL.out] at HOF
                  clear hkz HII HEXL
                  generalize hkk : kindOf tl = kd at *
                  clear hkk
                  go_wp2_with (first | (go_at_call 56; refine (rletter_any _ _).mono ?_; rintro e w' ⟨rfl, rfl⟩) | (go_at_call 57; refine (HOF.out _ hszk).mono ?_; rintro e w2 ⟨rfl, hb2⟩; (have hown2 := ownsRow_below hown hb2); (have hbw2 := bl_call hbw hb2); (have hlw2 := hbw2.size)) | (at_builtin; refine wpList_append_own _ rfl _ _ 57 rfl w.heap.size 61 i0 _ 4 40 Tryd.underlying57 hi0 hz0 hz1 hz2 rfl (by decide) _ _ _ rfl (hown2.alloc _) ⟨w2.heap.size, 0, none⟩ 1 1 [.int .i64 kd, .string (s.extract a k), .int .i64 line, .int .i64 col] rfl rfl (World.news_of_block (cs := #[.int .i64 kd, .string (s.extract a k), .int .i64 line, .int .i64 col]) (t := 61) (fr := (0, 0)) (heap_alloc_new _ _)) (by simp [Value.oneCell']) (by unfold maxLen; omega) (by omega) (by simp; omega) ?_; intro v1 w3 hown3 hgrow3 hnil3))
                  go_roundw
                  case rel =>
                    refine ⟨ts ++ [⟨kd, s.extract a k, line, col⟩], k, line, col + k - a, hk2, l1, by omega, by omega, by omega, rfl, rfl, rfl, ?_, by simp; omega, ?_, HS2⟩
                    · rw [toks_snoc, List.length_append]; exact hown3
                    · exact bl_grown (bl_alloc hbw2 _) hgrow3 (fun k hk => (hown2.lt _ hk).1)
                  case measure => simp [intOf]; omega
end Go.Proofs.YtcgkfgklggjmaaaDoor
end
