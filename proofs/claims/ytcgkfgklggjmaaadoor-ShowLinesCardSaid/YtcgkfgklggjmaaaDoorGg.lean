import Derived.Test.YtcgkfgklggjmaaaDoorGf
import Derived.KernelRfl
section
namespace Go.Proofs.YtcgkfgklggjmaaaDoor.Par
set_option linter.unusedVariables false
set_option linter.unusedSimpArgs false
open Go.RowKit
theorem PenAt.call {w w' : World} {gp : Nat} {l : List UInt8} {deep : Int} (h : PenAt w gp l deep) (hb : Below w.heap.size w w') : PenAt w' gp l deep := by
  obtain ⟨a, v, ha, hk, ho⟩ := h
  exact ⟨a, v, ha, hk.call hb, own_keep ho fun g hg => hb.block g (ho.lt g hg).2⟩
theorem PenAt.drew {w : World} {gp : Nat} {l : List UInt8} {deep : Int} (h : PenAt w gp l deep) : PenAt w.drew gp l deep := h.call (bl_drew (bl_refl _))
theorem PenAt.alloc {w : World} {gp : Nat} {l : List UInt8} {deep : Int} (h : PenAt w gp l deep) (o : Obj) : PenAt (w.alloc o) gp l deep := h.call (bl_alloc (bl_refl _) o)
theorem PenAt.lt {w : World} {gp : Nat} {l : List UInt8} {deep : Int} (h : PenAt w gp l deep) : gp < w.heap.size := by
  obtain ⟨a, v, ha, hk, ho⟩ := h
  exact hk.lt
theorem PenAt.deep_ {w : World} {gp : Nat} {l : List UInt8} {deep : Int} (h : PenAt w gp l deep) : w.cell? ⟨gp, 2, none⟩ = some (.int .i64 deep) ∧ w.frozen? ⟨gp, 2, none⟩ = false := by
  obtain ⟨a, v, ha, hk, ho⟩ := h
  exact ⟨hk.cell 2, hk.frozen 2⟩
theorem PenAt.to {w : World} {gp : Nat} {l : List UInt8} {deep : Int} (h : PenAt w gp l deep) (d : Int) : PenAt (w.setCell ⟨gp, 2, none⟩ (.int .i64 d)) gp l d ∧ PK gp w (w.setCell ⟨gp, 2, none⟩ (.int .i64 d)) := by
  obtain ⟨a, v, ha, hk, ho⟩ := h
  exact ⟨⟨a, v, ha, hk.set_ 2 _, own_keep ho fun k hg => Below.heap_setCell w ⟨gp, 2, none⟩ _ k (by have := (ho.lt k hg).1; show k ≠ gp; omega)⟩, (PK.refl gp w).set 2 _⟩
def tabsL (d : Nat) : List UInt8 := Lib.repeatL [9] d
def lineL (d : Nat) (xs : List ByteArray) : List UInt8 := tabsL d ++ Lib.join (xs.map (·.data.toList)) [32] ++ [10]
theorem tabs_len {d : Nat} (h : d ≤ 2) : (tabsL d).length ≤ 2 := by
  have : d = 0 ∨ d = 1 ∨ d = 2 := by omega
  rcases this with rfl | rfl | rfl <;> decide
theorem srep_any (d : Nat) (hd : d ≤ 2) (w : World) : Calls Tryd.prog 75 #[.string ⟨#[9]⟩, .int .i64 d] w (Says (tabsL d) 2 w) :=
  (Tryd.strings_Repeat ⟨#[9]⟩ d w (by omega) (by show 1 * d ≤ _; omega)).mono fun e w' h => says_of (tabs_len hd) h
theorem sjoin_any (sb c : Nat) (xs : List ByteArray) (w : World) (hc : ∀ j x, xs[j]? = some x → w.cell? ⟨sb, j, none⟩ = some (.string x)) (hsb : sb < w.heap.size) (hcap : xs.length ≤ c) (hn : xs.length ≤ 10) (m : Nat) (hm : (Lib.join (xs.map (·.data.toList)) [32]).length ≤ m) (hm2 : m ≤ 140737488355328) :
    Calls Tryd.prog 76 #[.slice (some ⟨sb, 0, none⟩) xs.length c, .string ⟨#[32]⟩] w (Says (Lib.join (xs.map (·.data.toList)) [32]) m w) :=
  (Tryd.strings_Join sb 0 c xs ⟨#[32]⟩ w (fun j x hj => by rw [Nat.zero_add]; exact hc j x hj) hsb (by omega) hcap (Nat.le_trans hm hm2)).mono fun e w' h => says_of hm h
set_option maxHeartbeats 8000000 in
set_option maxRecDepth 100000 in
theorem line_any (w : World) (gp : Nat) (l : List UInt8) (d : Nat) (hd : d ≤ 2) (sb c : Nat) (xs : List ByteArray) (h : PenAt w gp l (d : Int)) (hc : ∀ j x, xs[j]? = some x → w.cell? ⟨sb, j, none⟩ = some (.string x)) (hsb : sb < w.heap.size) (hcap : xs.length ≤ c) (hn : xs.length ≤ 10)
    (hm : (Lib.join (xs.map (·.data.toList)) [32]).length ≤ 1000000) (hl : l.length ≤ 100000000000) :
    Calls Tryd.prog 43 #[.pointer (some ⟨gp, 0, none⟩), .slice (some ⟨sb, 0, none⟩) xs.length c] w fun e w' => e = .returned (.tuple #[]) ∧ PenAt w' gp (l ++ lineL d xs) (d : Int) ∧ PK gp w w' := by
  have h0 := h.drew
  have hsb0 : sb < w.drew.heap.size := hsb
  have hc0 : ∀ j x, xs[j]? = some x → w.drew.cell? ⟨sb, j, none⟩ = some (.string x) := hc
  have hlt := h0.lt
  obtain ⟨x2, _⟩ := h0.deep_
  have e10 : (⟨#[10]⟩ : ByteArray).size = 1 := rfl
  go_enter Tryd.func43, Tryd.ntmps43
  go_wp2_with fail
  go_region_held3 (fun w' => w'.cell? ⟨gp, 2, none⟩ = some (.int .i64 d))
    (with_reducible assumption)
    ((first | (go_at_call 75; (with_reducible refine (srep_any d hd _).mono ?_); rintro e' w6 ⟨s1, rfl, hs1, hz1, hb6⟩; (have h6 := h0.call hb6); (have y2 := h6.deep_.1)) | (go_at_call 76; (with_reducible refine (sjoin_any sb c xs _ (fun j x hj => (hb6.cell (World.block_lt_of_cell? _ _ (hc0 j x hj))).trans (hc0 j x hj)) (by have := hb6.size; omega) hcap hn 1000000 hm (by decide)).mono ?_); rintro e' w7 ⟨s2, rfl, hs2, hz2, hb7⟩; (have t1 : ¬ (9223372036854775807 < s1.size + s2.size) := by omega); (have t2 : ¬ (9223372036854775807 < s1.size + s2.size + 1) := by omega); (have h7 := h6.call hb7); (have z2 := h7.deep_.1)) | (go_at_call 74; (with_reducible refine (ws_any _ gp l d _ h7 (by rw [ByteArray.size_append, ByteArray.size_append, e10]; omega)).mono ?_); rintro e' w8 ⟨rfl, h8, hk8⟩; (have u2 := h8.deep_.1))))
  all_goals go_wp2_with fail
  all_goals go_end0
  all_goals refine ⟨rfl, ?_, ((((PK.refl gp w).drew (show gp < w.heap.size from hlt)).call hb6 hlt).call hb7 h6.lt).trans hk8⟩
  all_goals (have e1 : l ++ (s1 ++ s2 ++ ⟨#[10]⟩ : ByteArray).data.toList = l ++ lineL d xs := by rw [ba_app, ba_app, hs1, hs2]; rfl)
  all_goals (rw [← e1]; exact h8)
end Go.Proofs.YtcgkfgklggjmaaaDoor.Par
end
section
namespace Go.Proofs.YtcgkfgklggjmaaaDoor.Par
set_option linter.unusedVariables false
set_option linter.unusedSimpArgs false
/-! what a parse does with the tokens that it takes hangs on no place, and on no token behind them -/
def Al (x y : Tok) : Prop := x.kind = y.kind ∧ x.text = y.text ∧ x.kind ≠ 0
def Als : List Tok → List Tok → Prop
  | [], [] => True
  | x :: l, y :: m => Al x y ∧ Als l m
  | _, _ => False
/-- how it ends: one side with the end e, the other one with t; cut: t is anything, else an end, too -/
structure Tl where
  cut : Bool
  e : Tok
  t : List Tok
/-- the tokens that are left are alike, and behind them each side ends -/
structure Loc (T : Tl) (s r : St) : Prop where
  err : s.err = 0
  err' : r.err = 0
  rest : ∃ l m, s.rest = l ++ [T.e] ∧ r.rest = m ++ T.t ∧ Als l m
/-- a fault, told at the end -/
def AtE (T : Tl) (s : St) : Prop := T.cut = true ∧ s.err = 4 ∧ s.line = T.e.line ∧ s.col = T.e.col ∧ s.rest = [T.e]
/-- a fault stays as it is -/
structure Kept (s s' : St) : Prop where
  err : s'.err = s.err
  line : s'.line = s.line
  col : s'.col = s.col
  rest : (peek s).kind = 0 → s'.rest = s.rest
/-- at the end -/
def End (T : Tl) (s : St) : Prop := T.cut = true ∧ s.err = 0 ∧ s.rest = [T.e]
def Tails (T : Tl) : Prop := T.e.kind = 0 ∧ (T.cut = false → ∃ x, T.t = [x] ∧ x.kind = 0)
def Out {α : Type} (T : Tl) (b : Bool) (x y : α × St) : Prop := AtE T x.2 ∨ (x.2.err ≠ 0 ∧ x.2.err = y.2.err) ∨ (b = true ∧ End T x.2) ∨ (x.1 = y.1 ∧ Loc T x.2 y.2)
structure Good (T : Tl) (b : Bool) {α : Type} (F : St → α × St) : Prop where
  K : ∀ s, s.err ≠ 0 → Kept s (F s).2
  E : ∀ s, End T s → AtE T (F s).2 ∨ (b = true ∧ End T (F s).2)
  L : ∀ s r, Loc T s r → Out T b (F s) (F r)
def bnd {α β : Type} (F : St → α × St) (G : α → St → β × St) (s : St) : β × St := G (F s).1 (F s).2
def mp {α β : Type} (f : α → β) (F : St → α × St) (s : St) : β × St := (f (F s).1, (F s).2)
def un (f : St → St) (s : St) : Unit × St := ((), f s)
theorem must2_eq (w v : ByteArray) : un (P.must [w, v]) = bnd (un (P.must [w])) (fun _ => un (P.must [v])) := by
  funext s
  show ((), P.must [w, v] s) = ((), P.must [v] (P.must [w] s))
  have e1 : P.must [w, v] s = if (P.eat w s).1 = true then P.must [v] (P.eat w s).2 else fail 4 (peek s) (P.eat w s).2 := rfl
  have e2 : P.must [w] s = if (P.eat w s).1 = true then (P.eat w s).2 else fail 4 (peek s) (P.eat w s).2 := rfl
  rw [e1, e2]
  by_cases hc : (P.eat w s).1 = true
  · rw [if_pos hc, if_pos hc]
  · rw [if_neg hc, if_neg hc]
    have hb : (fail 4 (peek s) (P.eat w s).2).err ≠ 0 := fail_err 4 _ _ (by decide)
    rw [P.must, eat_bad hb]
    simp only [Bool.false_eq_true, if_false]
    rw [fail_keep hb]
section
variable {T : Tl} {α β : Type}
theorem Kept.rfl' (s : St) : Kept s s := ⟨rfl, rfl, rfl, fun _ => rfl⟩
theorem Kept.trans {s s' s'' : St} (h : Kept s s') (k : Kept s' s'') : Kept s s'' := ⟨k.err.trans h.err, k.line.trans h.line, k.col.trans h.col, fun h0 => by
  have h1 := h.rest h0
  exact (k.rest (by unfold peek at h0 ⊢; rw [h1]; exact h0)).trans h1⟩
theorem AtE.keep {T : Tl} (he : T.e.kind = 0) {s s' : St} (h : AtE T s) (k : Kept s s') : AtE T s' :=
  ⟨h.1, k.err.trans h.2.1, k.line.trans h.2.2.1, k.col.trans h.2.2.2.1, (k.rest (by unfold peek; rw [h.2.2.2.2]; exact he)).trans h.2.2.2.2⟩
theorem AtE.bad {s : St} (h : AtE T s) : s.err ≠ 0 := by rw [h.2.1]; decide
theorem Good.bnd (he : T.e.kind = 0) {b c : Bool} {F : St → α × St} {G : α → St → β × St} (hF : Good T b F) (hG : ∀ a, Good T c (G a)) : Good T c (bnd F G) := by
  refine ⟨fun s h => ?_, fun s h => ?_, fun s r h => ?_⟩
  · have h1 := hF.K s h
    exact h1.trans ((hG (F s).1).K (F s).2 (by rw [h1.err]; exact h))
  · rcases hF.E s h with h1 | h1
    · exact .inl (h1.keep he ((hG (F s).1).K (F s).2 h1.bad))
    · exact (hG (F s).1).E (F s).2 h1.2
  · rcases hF.L s r h with h1 | h1 | h1 | h1
    · exact .inl (h1.keep he ((hG (F s).1).K (F s).2 h1.bad))
    · have h2 := (hG (F s).1).K (F s).2 h1.1
      have h3 := (hG (F r).1).K (F r).2 (h1.2 ▸ h1.1)
      exact .inr (.inl ⟨by show (G (F s).1 (F s).2).2.err ≠ 0; rw [h2.err]; exact h1.1, by show (G (F s).1 (F s).2).2.err = (G (F r).1 (F r).2).2.err; rw [h2.err, h3.err]; exact h1.2⟩)
    · rcases (hG (F s).1).E (F s).2 h1.2 with h2 | h2
      · exact .inl h2
      · exact .inr (.inr (.inl h2))
    · show Out T c (G (F s).1 (F s).2) (G (F r).1 (F r).2)
      rw [← h1.1]
      exact (hG (F s).1).L _ _ h1.2
theorem Good.mp {b : Bool} {F : St → α × St} (f : α → β) (hF : Good T b F) : Good T b (mp f F) := by
  refine ⟨hF.K, hF.E, fun s r h => ?_⟩
  rcases hF.L s r h with h1 | h1 | h1 | h1
  · exact .inl h1
  · exact .inr (.inl h1)
  · exact .inr (.inr (.inl h1))
  · exact .inr (.inr (.inr ⟨congrArg f h1.1, h1.2⟩))
theorem Good.ret (a : α) : Good T true (fun s => (a, s)) := ⟨fun s h => Kept.rfl' s, fun s h => .inr ⟨rfl, h⟩, fun s r h => .inr (.inr (.inr ⟨rfl, h⟩))⟩
theorem Good.up {b : Bool} {F : St → α × St} (hF : Good T b F) : Good T true F := by
  refine ⟨hF.K, fun s h => ?_, fun s r h => ?_⟩
  · rcases hF.E s h with h1 | h1
    · exact .inl h1
    · exact .inr ⟨rfl, h1.2⟩
  · rcases hF.L s r h with h1 | h1 | h1 | h1
    · exact .inl h1
    · exact .inr (.inl h1)
    · exact .inr (.inr (.inl ⟨rfl, h1.2⟩))
    · exact .inr (.inr (.inr h1))
theorem Good.ite {b : Bool} {p : Prop} [Decidable p] {F G : St → α × St} (hF : p → Good T b F) (hG : ¬ p → Good T b G) : Good T b (fun s => if p then F s else G s) := by
  by_cases hp : p
  · simp only [if_pos hp]; exact hF hp
  · simp only [if_neg hp]; exact hG hp
/-- a round that ends at a fault, too -/
theorem Good.iteErr {p : Prop} [Decidable p] {a : α} {F : St → α × St} (hF : ¬ p → Good T true F) : Good T true (fun s => if p ∨ s.err ≠ 0 then (a, s) else F s) := by
  by_cases hp : p
  · simp only [hp, true_or, if_true]; exact Good.ret a
  · have hg := hF hp
    refine ⟨fun s h => ?_, fun s h => ?_, fun s r h => ?_⟩
    · simp only [if_pos (Or.inr h : p ∨ s.err ≠ 0)]; exact Kept.rfl' s
    · have hn : ¬ (p ∨ s.err ≠ 0) := by rintro (c | c); exact hp c; exact c h.2.1
      show AtE T (if p ∨ s.err ≠ 0 then (a, s) else F s).2 ∨ _
      rw [if_neg hn]; exact hg.E s h
    · have hn : ¬ (p ∨ s.err ≠ 0) := by rintro (c | c); exact hp c; exact c h.err
      have hm : ¬ (p ∨ r.err ≠ 0) := by rintro (c | c); exact hp c; exact c h.err'
      show Out T true (if p ∨ s.err ≠ 0 then (a, s) else F s) (if p ∨ r.err ≠ 0 then (a, r) else F r)
      rw [if_neg hn, if_neg hm]; exact hg.L s r h
theorem on_none {w : ByteArray} {s : St} (h : (peek s).kind = 0) : on w s = false := by unfold on; simp [h]
variable (hu : Tails T)
include hu
theorem End.kind {s : St} (h : End T s) : (peek s).kind = 0 ∧ (peek s) = T.e := by
  unfold peek; rw [h.2.2]; exact ⟨hu.1, rfl⟩
/-- alike: at the end of one side, or both at the end, or a token that is alike on both -/
theorem Loc.cases {s r : St} (h : Loc T s r) : End T s ∨ ((peek s).kind = 0 ∧ (peek r).kind = 0 ∧ (∀ w, on w s = false) ∧ (∀ w, on w r = false)) ∨
    ((peek s).kind = (peek r).kind ∧ (peek s).text = (peek r).text ∧ Loc T (drop1 s) (drop1 r)) := by
  obtain ⟨l, m, h1, h2, h3⟩ := h.rest
  cases l with
  | nil =>
    cases m with
    | cons y m => exact absurd h3 (by simp [Als])
    | nil =>
      cases hc : T.cut with
      | true => exact .inl ⟨hc, h.err, h1⟩
      | false =>
        obtain ⟨x, hx, hk⟩ := hu.2 hc
        have hp : (peek s).kind = 0 := by unfold peek; rw [h1]; exact hu.1
        have hq : (peek r).kind = 0 := by unfold peek; rw [h2, hx]; exact hk
        exact .inr (.inl ⟨hp, hq, fun w => on_none hp, fun w => on_none hq⟩)
  | cons x l =>
    cases m with
    | nil => exact absurd h3 (by simp [Als])
    | cons y m =>
      have hp : peek s = x := by unfold peek; rw [h1]; rfl
      have hq : peek r = y := by unfold peek; rw [h2]; rfl
      exact .inr (.inr ⟨by rw [hp, hq]; exact h3.1.1, by rw [hp, hq]; exact h3.1.2.1, h.err, h.err', l, m, by show s.rest.tail = _; rw [h1]; rfl, by show r.rest.tail = _; rw [h2]; rfl, h3.2⟩)
theorem good_eat (w : ByteArray) : Good T true (P.eat w) := by
  refine ⟨fun s h => ?_, fun s h => ?_, fun s r h => ?_⟩
  · rw [eat_bad h]; exact Kept.rfl' s
  · have ho := on_none (w := w) (h.kind hu).1
    unfold P.eat
    rw [if_neg (fun c => by rw [ho] at c; cases c.2)]
    exact .inr ⟨rfl, h⟩
  · rcases h.cases hu with h1 | ⟨h1, h2, h3, h4⟩ | ⟨h1, h2, h3⟩
    · have ho := on_none (w := w) (h1.kind hu).1
      refine .inr (.inr (.inl ⟨rfl, ?_⟩))
      unfold P.eat
      rw [if_neg (fun c => by rw [ho] at c; cases c.2)]
      exact h1
    · unfold P.eat
      rw [if_neg (fun c => by rw [h3] at c; cases c.2), if_neg (fun c => by rw [h4] at c; cases c.2)]
      exact .inr (.inr (.inr ⟨rfl, h⟩))
    · have ho : on w s = on w r := by unfold on; rw [h1, h2]
      unfold P.eat
      rw [← ho]
      by_cases hc : on w s = true
      · rw [if_pos ⟨h.err, hc⟩, if_pos ⟨h.err', hc⟩]
        refine .inr (.inr (.inr ⟨rfl, ?_⟩))
        have hk := on_kind hc
        rw [next_drop hk, next_drop (by rw [← h1]; exact hk)]
        exact h3
      · rw [if_neg (fun c => hc c.2), if_neg (fun c => hc c.2)]
        exact .inr (.inr (.inr ⟨rfl, h⟩))
theorem good_fail (e : α) : Good T false (fun s => (e, fail 4 (peek s) s)) := by
  refine ⟨fun s h => ?_, fun s h => ?_, fun s r h => ?_⟩
  · simp only [fail_keep h]; exact Kept.rfl' s
  · refine .inl ⟨h.1, ?_, ?_, ?_, ?_⟩
    · simp only [fail, if_pos h.2.1]
    · simp only [fail, if_pos h.2.1, (h.kind hu).2]
    · simp only [fail, if_pos h.2.1, (h.kind hu).2]
    · simp only [fail, if_pos h.2.1, h.2.2]
  · refine .inr (.inl ⟨fail_err 4 _ _ (by decide), ?_⟩)
    simp only [fail, if_pos h.err, if_pos h.err']
theorem good_must1 (w : ByteArray) : Good T false (un (P.must [w])) := by
  have h : un (P.must [w]) = bnd (P.eat w) (fun a s => if a = true then ((), s) else ((), fail 4 (peek s) s)) := by
    funext s
    show ((), if (P.eat w s).1 = true then (P.eat w s).2 else fail 4 (peek s) (P.eat w s).2) = if (P.eat w s).1 = true then ((), (P.eat w s).2) else ((), fail 4 (peek (P.eat w s).2) (P.eat w s).2)
    by_cases hc : (P.eat w s).1 = true
    · rw [if_pos hc, if_pos hc]
    · rw [if_neg hc, if_neg hc, eat_no (by simpa using hc)]
  refine ⟨fun s hs => ?_, fun s hs => ?_, fun s r hs => ?_⟩
  · rw [h]; exact ((good_eat hu w).bnd hu.1 (c := true) fun a => Good.ite (fun _ => Good.ret _) (fun _ => (good_fail hu ()).up)).K s hs
  · have ho := on_none (w := w) (hs.kind hu).1
    have he : P.eat w s = (false, s) := by
      unfold P.eat
      rw [if_neg (fun c => by rw [ho] at c; cases c.2)]
    rw [h]
    unfold bnd
    rw [he]
    exact (good_fail hu ()).E s hs
  · rw [h]
    rcases hs.cases hu with h1 | ⟨h1, h2, h3, h4⟩ | ⟨h1, h2, h3⟩
    · have ho := on_none (w := w) (h1.kind hu).1
      have he : P.eat w s = (false, s) := by
        unfold P.eat
        rw [if_neg (fun c => by rw [ho] at c; cases c.2)]
      rcases (good_fail hu ()).E s h1 with h5 | h5
      · refine .inl ?_
        unfold bnd
        rw [he]
        exact h5
      · cases h5.1
    · have he : P.eat w s = (false, s) := by unfold P.eat; rw [if_neg (fun c => by rw [h3] at c; cases c.2)]
      have he' : P.eat w r = (false, r) := by unfold P.eat; rw [if_neg (fun c => by rw [h4] at c; cases c.2)]
      unfold bnd
      rw [he, he']
      exact (good_fail hu ()).L s r hs
    · have ho : on w s = on w r := by unfold on; rw [h1, h2]
      by_cases hc : on w s = true
      · have he : P.eat w s = (true, P.next s) := by unfold P.eat; rw [if_pos ⟨hs.err, hc⟩]
        have he' : P.eat w r = (true, P.next r) := by unfold P.eat; rw [if_pos ⟨hs.err', ho ▸ hc⟩]
        have hk := on_kind hc
        unfold bnd
        rw [he, he', next_drop hk, next_drop (by rw [← h1]; exact hk)]
        exact .inr (.inr (.inr ⟨rfl, h3⟩))
      · have he : P.eat w s = (false, s) := by unfold P.eat; rw [if_neg (fun c => hc c.2)]
        have he' : P.eat w r = (false, r) := by unfold P.eat; rw [if_neg (fun c => hc (ho ▸ c.2))]
        unfold bnd
        rw [he, he']
        exact (good_fail hu ()).L s r hs
theorem good_must2 (w v : ByteArray) : Good T false (un (P.must [w, v])) := by
  rw [must2_eq w v]
  exact (good_must1 hu w).bnd hu.1 fun _ => good_must1 hu v
theorem good_kind (k : Int) (hk : k ≠ 0) : Good T false (P.kind k) := by
  refine ⟨fun s h => ?_, fun s h => ?_, fun s r h => ?_⟩
  · unfold P.kind
    split
    · have hn := next_err s
      exact ⟨hn.1, hn.2.1, hn.2.2, fun h0 => by show (P.next s).rest = s.rest; unfold P.next; rw [if_pos h0]⟩
    · rw [fail_keep h]; exact Kept.rfl' s
  · unfold P.kind
    rw [if_neg (by rw [(h.kind hu).1]; exact fun c => hk c.symm)]
    exact (good_fail hu (⟨#[]⟩ : ByteArray)).E s h
  · rcases h.cases hu with h1 | ⟨h1, h2, h3, h4⟩ | ⟨h1, h2, h3⟩
    · unfold P.kind
      rw [if_neg (by rw [(h1.kind hu).1]; exact fun c => hk c.symm)]
      rcases (good_fail hu (⟨#[]⟩ : ByteArray)).E s h1 with h5 | h5
      · exact .inl h5
      · cases h5.1
    · unfold P.kind
      rw [if_neg (by rw [h1]; exact fun c => hk c.symm), if_neg (by rw [h2]; exact fun c => hk c.symm)]
      exact (good_fail hu (⟨#[]⟩ : ByteArray)).L s r h
    · unfold P.kind
      rw [← h1, ← h2]
      by_cases hc : (peek s).kind = k
      · rw [if_pos hc, if_pos hc, next_drop (by rw [hc]; exact hk), next_drop (by rw [← h1, hc]; exact hk)]
        exact .inr (.inr (.inr ⟨rfl, h3⟩))
      · rw [if_neg hc, if_neg hc]
        exact (good_fail hu (⟨#[]⟩ : ByteArray)).L s r h
variable (dp : ByteArray → Day) (np : ByteArray → Int → Int → Int × Int)
theorem good_number (pl most : Int) : Good T false (P.number np pl most) := by
  have hk := good_kind hu 3 (by decide)
  refine ⟨fun s h => ?_, fun s h => ?_, fun s r h => ?_⟩
  · have h1 := hk.K s h
    unfold P.number
    simp only
    rw [if_neg (by rw [h1.err]; exact h)]
    exact h1
  · rcases hk.E s h with h1 | h1
    · refine .inl ?_
      unfold P.number
      simp only
      rw [if_neg h1.bad]
      exact h1
    · cases h1.1
  · rcases hk.L s r h with h1 | h1 | h1 | h1
    · refine .inl ?_
      unfold P.number
      simp only
      rw [if_neg h1.bad]
      exact h1
    · refine .inr (.inl ?_)
      unfold P.number
      simp only
      rw [if_neg h1.1, if_neg (h1.2 ▸ h1.1)]
      exact h1
    · cases h1.1
    · unfold P.number
      simp only
      rw [if_pos h1.2.err, if_pos h1.2.err', ← h1.1]
      by_cases c1 : (np (P.kind 3 s).1 pl most).2 = 1
      · refine .inr (.inl ?_)
        simp only [if_pos c1]
        exact ⟨fail_err 4 _ _ (by decide), by simp only [fail, if_pos h1.2.err, if_pos h1.2.err']⟩
      · simp only [if_neg c1]
        by_cases c2 : (np (P.kind 3 s).1 pl most).2 = 2
        · refine .inr (.inl ?_)
          simp only [if_pos c2]
          exact ⟨fail_err 6 _ _ (by decide), by simp only [fail, if_pos h1.2.err, if_pos h1.2.err']⟩
        · simp only [if_neg c2]
          exact .inr (.inr (.inr ⟨rfl, h1.2⟩))
theorem good_day : Good T false (P.day dp) := (good_kind hu 4 (by decide)).mp dp
theorem good_one : ∀ (l : List ByteArray) (i : Int), Good T true (P.one l i)
  | [], i => Good.ret (-1)
  | w :: ws, i => (good_eat hu w).bnd hu.1 (G := fun a s => if a = true then (i, s) else P.one ws (i + 1) s) fun a => Good.ite (fun _ => Good.ret i) (fun _ => good_one ws (i + 1))
theorem good_mode : Good T true P.mode :=
  (good_one hu [wFloor, wCeil, wHalfup, wHalfeven] 0).bnd hu.1 (G := fun o s => if o < 0 then (0, fail 4 (peek s) s) else (o, s)) fun o => Good.ite (fun _ => (good_fail hu 0).up) (fun _ => Good.ret o)
theorem good_window : Good T true (P.window dp) :=
  (good_eat hu wFrom).bnd hu.1 (G := fun a s => if a = true then bnd (P.day dp) (fun f => bnd (un (P.must [wTo])) (fun _ => mp (fun t => (⟨true, f, t⟩ : Win)) (P.day dp))) s else (noWin, s)) fun a =>
    Good.ite (fun _ => ((good_day hu dp).bnd hu.1 fun f => (good_must1 hu wTo).bnd hu.1 fun _ => (good_day hu dp).mp _).up) (fun _ => Good.ret noWin)
theorem good_opt (w : ByteArray) (d : Int) : Good T true (P.opt np w d) :=
  (good_eat hu w).bnd hu.1 (G := fun a s => if a = true then bnd (P.number np 0 1000000) (fun x => mp (fun _ => x) (un (P.must [wSemi]))) s else (d, s)) fun a =>
    Good.ite (fun _ => ((good_number hu np 0 1000000).bnd hu.1 fun x => (good_must1 hu wSemi).mp _).up) (fun _ => Good.ret d)
theorem good_ckind : Good T true P.ckind :=
  (good_eat hu wVolume).bnd hu.1 (G := fun a s => if a = true then ((2 : Int), s) else mp (fun _ => (1 : Int)) (un (P.must [wGraduated])) s) fun a =>
    Good.ite (fun _ => Good.ret 2) (fun _ => ((good_must1 hu wGraduated).mp _).up)
theorem good_tierLoop : ∀ (f : Nat) (acc : List Tier), Good T true (P.tierLoop np f acc)
  | 0, acc => Good.ret acc
  | f + 1, acc => (good_eat hu wUpto).bnd hu.1 (G := fun a s => if a = true then bnd (P.number np 0 1000000) (fun x => bnd (un (P.must [wRate])) (fun _ => bnd (P.number np 6 1000000000000) (fun y => bnd (un (P.must [wSemi])) (fun _ => P.tierLoop np f (acc ++ [(⟨x, y⟩ : Tier)]))))) s else (acc, s)) fun a =>
    Good.ite (fun _ => (good_number hu np 0 1000000).bnd hu.1 fun x => (good_must1 hu wRate).bnd hu.1 fun _ => (good_number hu np 6 1000000000000).bnd hu.1 fun y => (good_must1 hu wSemi).bnd hu.1 fun _ => good_tierLoop f _) (fun _ => Good.ret acc)
theorem good_tierAll (acc : List Tier) : Good T true (P.tierAll np acc) := by
  refine ⟨fun s h => (good_tierLoop hu np (len s) acc).K s h, fun s h => (good_tierLoop hu np (len s) acc).E s h, fun s r h => ?_⟩
  have hl := (good_tierLoop hu np (len s + len r) acc).L s r h
  rw [tier_fuel np _ (len s) acc s (by omega) (Nat.le_refl _), tier_fuel np _ (len r) acc r (by omega) (Nat.le_refl _)] at hl
  exact hl
theorem good_tiers : Good T false (P.tiers np) :=
  (good_must1 hu wOpen).bnd hu.1 (G := fun _ => bnd (P.tierAll np []) (fun l => bnd (un (P.must [wRest, wRate])) (fun _ => bnd (P.number np 6 1000000000000) (fun r => mp (fun _ => l ++ [(⟨0, r⟩ : Tier)]) (un (P.must [wSemi, wClose])))))) fun _ =>
    (good_tierAll hu np []).bnd hu.1 fun l => (good_must2 hu wRest wRate).bnd hu.1 fun _ => (good_number hu np 6 1000000000000).bnd hu.1 fun r => (good_must2 hu wSemi wClose).mp _
theorem good_adjBody (k : Int) : Good T false (P.adjBody np k) := by
  have h : P.adjBody np k = fun s => if k = 1 then bnd (P.number np 3 100000000) (fun n => bnd P.mode (fun m => mp (fun _ => (⟨1, n, m⟩ : Adj)) (un (P.must [wSemi])))) s else bnd (P.number np 0 1000000000000) (fun n => mp (fun _ => (⟨k, n, 0⟩ : Adj)) (un (P.must [wSemi]))) s := rfl
  rw [h]
  exact Good.ite (fun _ => (good_number hu np 3 100000000).bnd hu.1 fun n => (good_mode hu).bnd hu.1 fun m => (good_must1 hu wSemi).mp _) (fun _ => (good_number hu np 0 1000000000000).bnd hu.1 fun n => (good_must1 hu wSemi).mp _)
theorem good_adjust : Good T true (P.adjust np) :=
  (good_one hu [wPercent, wCap, wMinimum, wAdd] 1).bnd hu.1 (G := fun o s => if o < 0 then (((⟨0, 0, 0⟩ : Adj), false), s) else mp (fun b => (b, true)) (P.adjBody np o) s) fun o =>
    Good.ite (fun _ => Good.ret _) (fun _ => ((good_adjBody hu np o).mp _).up)
theorem good_adjLoop : ∀ (f : Nat) (acc : List Adj), Good T true (P.adjLoop np f acc)
  | 0, acc => Good.ret acc
  | f + 1, acc => (good_adjust hu np).bnd hu.1 (G := fun a s => if a.2 = false ∨ s.err ≠ 0 then (acc, s) else P.adjLoop np f (acc ++ [a.1]) s) fun a => Good.iteErr (fun _ => good_adjLoop f _)
theorem good_adjAll (acc : List Adj) : Good T true (P.adjAll np acc) := by
  refine ⟨fun s h => (good_adjLoop hu np (len s) acc).K s h, fun s h => (good_adjLoop hu np (len s) acc).E s h, fun s r h => ?_⟩
  have hl := (good_adjLoop hu np (len s + len r) acc).L s r h
  rw [adj_fuel np _ (len s) acc s (by omega) (Nat.le_refl _), adj_fuel np _ (len r) acc r (by omega) (Nat.le_refl _)] at hl
  exact hl
theorem good_charge (l c : Int) : Good T false (P.charge dp np l c) :=
  (good_kind hu 1 (by decide)).bnd hu.1 (G := fun n => bnd (P.window dp) fun w => bnd (un (P.must [wOpen])) fun _ => bnd (P.opt np wAllowance 0) fun a => bnd (P.opt np wBlock 1) fun b => bnd P.ckind fun k => bnd (P.tiers np) fun t =>
      bnd (un (P.must [wRound])) fun _ => bnd P.mode fun m => bnd (un (P.must [wSemi])) fun _ => bnd (P.adjAll np []) fun d => mp (fun _ => (⟨n, w, a, b, k, t, m, d, l, c⟩ : Chg)) (un (P.must [wClose]))) fun n =>
    (good_window hu dp).bnd hu.1 fun w => (good_must1 hu wOpen).bnd hu.1 fun _ => (good_opt hu np wAllowance 0).bnd hu.1 fun a => (good_opt hu np wBlock 1).bnd hu.1 fun b => (good_ckind hu).bnd hu.1 fun k => (good_tiers hu np).bnd hu.1 fun t =>
      (good_must1 hu wRound).bnd hu.1 fun _ => (good_mode hu).bnd hu.1 fun m => (good_must1 hu wSemi).bnd hu.1 fun _ => (good_adjAll hu np []).bnd hu.1 fun d => (good_must1 hu wClose).mp _
theorem good_meter (l c : Int) : Good T false (P.meter np l c) :=
  (good_kind hu 1 (by decide)).bnd hu.1 (G := fun n => bnd (un (P.must [wUnit])) fun _ => bnd (P.kind 1) fun x => bnd (un (P.must [wMax])) fun _ => bnd (P.number np 0 2000) fun m => mp (fun _ => (⟨n, x, m, l, c⟩ : Met)) (un (P.must [wSemi]))) fun n =>
    (good_must1 hu wUnit).bnd hu.1 fun _ => (good_kind hu 1 (by decide)).bnd hu.1 fun x => (good_must1 hu wMax).bnd hu.1 fun _ => (good_number hu np 0 2000).bnd hu.1 fun m => (good_must1 hu wSemi).mp _
theorem good_fee (l c : Int) : Good T false (P.fee dp np l c) :=
  (good_number hu np 0 1000000000000).bnd hu.1 (G := fun x => bnd (P.window dp) fun w => mp (fun _ => (⟨x, w, l, c⟩ : Fee)) (un (P.must [wSemi]))) fun x =>
    (good_window hu dp).bnd hu.1 fun w => (good_must1 hu wSemi).mp _
end
/-- an item, without its place -/
inductive Thing where
  | met (m : Met)
  | fee (f : Fee)
  | chg (c : Chg)
  | none
def put (p : Plan) (l c : Int) : Thing → Plan
  | .met m => { p with mets := p.mets ++ [{ m with line := l, col := c }] }
  | .fee f => { p with fees := p.fees ++ [{ f with line := l, col := c }] }
  | .chg x => { p with chgs := p.chgs ++ [{ x with line := l, col := c }] }
  | .none => p
section
variable (dp : ByteArray → Day) (np : ByteArray → Int → Int → Int × Int)
def itm : St → Thing × St := bnd (P.one [wMeter, wFee, wCharge] 0) fun o s =>
  if o = 0 then mp Thing.met (P.meter np 0 0) s else if o = 1 then mp Thing.fee (P.fee dp np 0 0) s else if o = 2 then mp Thing.chg (P.charge dp np 0 0) s
  else bnd (fun s => ((), fail 4 (peek s) s)) (fun _ => mp (fun _ => Thing.none) (un (P.must [wSemi]))) s
theorem item_itm (p : Plan) (s : St) : P.item dp np p s = (put p (peek s).line (peek s).col (itm dp np s).1, (itm dp np s).2) := by
  have hr := one_range [wMeter, wFee, wCharge] 0 s
  have hn := one_none [wMeter, wFee, wCharge] 0 s (by decide)
  unfold P.item itm bnd
  simp only
  split
  · rfl
  · split
    · rfl
    · split
      · rfl
      · rename_i h0 h1 h2
        have h3 : (P.one [wMeter, wFee, wCharge] 0 s).1 = -1 := by
          have hl : ([wMeter, wFee, wCharge].length : Int) = 3 := rfl
          omega
        rw [hn h3]
        rfl
theorem good_itm {T : Tl} (hu : Tails T) : Good T false (itm dp np) :=
  (good_one hu [wMeter, wFee, wCharge] 0).bnd hu.1 fun o => Good.ite (fun _ => (good_meter hu np 0 0).mp _) fun _ => Good.ite (fun _ => (good_fee hu dp np 0 0).mp _) fun _ => Good.ite (fun _ => (good_charge hu dp np 0 0).mp _)
    fun _ => (good_fail hu ()).bnd hu.1 fun _ => (good_must1 hu wSemi).mp _
end
end Go.Proofs.YtcgkfgklggjmaaaDoor.Par
end
section
namespace Go.Proofs.YtcgkfgklggjmaaaDoor.Par
set_option linter.unusedVariables false
set_option linter.unusedSimpArgs false
/-! what is parsed can be told -/
def Ts (l : List Tok) : Prop := ∀ x ∈ l, x.text.size ≤ 8192
def V {α : Type} (Φ : α → Prop) (F : St → α × St) : Prop := ∀ s, Ts s.rest → Φ (F s).1 ∧ Ts (F s).2.rest
section
variable {α β : Type}
theorem V.bnd {Φ : α → Prop} {Ψ : β → Prop} {F : St → α × St} {G : α → St → β × St} (hF : V Φ F) (hG : ∀ a, Φ a → V Ψ (G a)) : V Ψ (bnd F G) := fun s hs => hG _ (hF s hs).1 _ (hF s hs).2
theorem V.mp {Φ : α → Prop} {Ψ : β → Prop} {F : St → α × St} (f : α → β) (hF : V Φ F) (hf : ∀ a, Φ a → Ψ (f a)) : V Ψ (mp f F) := fun s hs => ⟨hf _ (hF s hs).1, (hF s hs).2⟩
theorem V.ret {Φ : α → Prop} {a : α} (h : Φ a) : V Φ (fun s => (a, s)) := fun s hs => ⟨h, hs⟩
theorem V.ite {Φ : α → Prop} {p : Prop} [Decidable p] {F G : St → α × St} (hF : V Φ F) (hG : V Φ G) : V Φ (fun s => if p then F s else G s) := by
  by_cases hp : p
  · simp only [if_pos hp]; exact hF
  · simp only [if_neg hp]; exact hG
theorem V.iteErr {Φ : α → Prop} {p : Prop} [Decidable p] {a : α} {F : St → α × St} (ha : Φ a) (hF : V Φ F) : V Φ (fun s => if p ∨ s.err ≠ 0 then (a, s) else F s) := by
  intro s hs
  by_cases hp : p ∨ s.err ≠ 0
  · simp only [if_pos hp]; exact ⟨ha, hs⟩
  · simp only [if_neg hp]; exact hF s hs
theorem ts_tail {l : List Tok} (h : Ts l) : Ts l.tail := fun x hx => h x (List.mem_of_mem_tail hx)
theorem ts_next {s : St} (h : Ts s.rest) : Ts (P.next s).rest := by
  unfold P.next; split
  · exact h
  · exact ts_tail h
theorem ts_fail {e : Int} {t : Tok} {s : St} (h : Ts s.rest) : Ts (fail e t s).rest := by
  unfold fail; split <;> exact h
theorem v_eat (w : ByteArray) : V (fun _ => True) (P.eat w) := fun s hs => by
  unfold P.eat; split
  · exact ⟨trivial, ts_next hs⟩
  · exact ⟨trivial, hs⟩
theorem v_must : ∀ (l : List ByteArray), V (fun _ => True) (un (P.must l))
  | [], s, hs => ⟨trivial, hs⟩
  | w :: ws, s, hs => by
    have h1 := (v_eat w s hs).2
    refine ⟨trivial, ?_⟩
    show Ts (P.must (w :: ws) s).rest
    rw [P.must]
    split
    · exact (v_must ws _ h1).2
    · exact ts_fail h1
theorem v_kind (k : Int) : V (fun t : ByteArray => t.size ≤ 8192) (P.kind k) := fun s hs => by
  unfold P.kind; split
  · refine ⟨?_, ts_next hs⟩
    show (peek s).text.size ≤ 8192
    unfold peek
    cases hr : s.rest with
    | nil => exact Nat.zero_le _
    | cons a b => exact hs a (by rw [hr]; simp)
  · exact ⟨Nat.zero_le _, ts_fail hs⟩
variable (dp : ByteArray → Day) (np : ByteArray → Int → Int → Int × Int) (hnp : ∀ t pl most, 0 ≤ most → 0 ≤ (np t pl most).1 ∧ (np t pl most).1 ≤ most)
theorem v_day : V (fun _ => True) (P.day dp) := (v_kind 4).mp dp fun _ _ => trivial
theorem v_one : ∀ (l : List ByteArray) (i : Int), V (fun _ => True) (P.one l i)
  | [], i => V.ret trivial
  | w :: ws, i => (v_eat w).bnd (G := fun a s => if a = true then (i, s) else P.one ws (i + 1) s) fun a _ => V.ite (V.ret trivial) (v_one ws (i + 1))
theorem v_fail {Φ : α → Prop} {a : α} (h : Φ a) : V Φ (fun s => (a, fail 4 (peek s) s)) := fun s hs => ⟨h, ts_fail hs⟩
theorem v_mode : V (fun _ => True) P.mode := (v_one [wFloor, wCeil, wHalfup, wHalfeven] 0).bnd (G := fun o s => if o < 0 then (0, fail 4 (peek s) s) else (o, s)) fun o _ => V.ite (v_fail trivial) (V.ret trivial)
theorem v_window : V (fun _ => True) (P.window dp) :=
  (v_eat wFrom).bnd (G := fun a s => if a = true then bnd (P.day dp) (fun f => bnd (un (P.must [wTo])) (fun _ => mp (fun t => (⟨true, f, t⟩ : Win)) (P.day dp))) s else (noWin, s)) fun a _ =>
    V.ite ((v_day dp).bnd fun f _ => (v_must [wTo]).bnd fun _ _ => (v_day dp).mp _ fun _ _ => trivial) (V.ret trivial)
theorem v_ckind : V (fun _ => True) P.ckind :=
  (v_eat wVolume).bnd (G := fun a s => if a = true then ((2 : Int), s) else mp (fun _ => (1 : Int)) (un (P.must [wGraduated])) s) fun a _ => V.ite (V.ret trivial) ((v_must [wGraduated]).mp _ fun _ _ => trivial)
def TB (t : Tier) : Prop := (0 ≤ t.upto ∧ t.upto ≤ 1000000) ∧ (0 ≤ t.rate ∧ t.rate ≤ 1000000000000)
def AB (a : Adj) : Prop := 0 ≤ a.n ∧ a.n ≤ 1000000000000
def CB (c : Chg) : Prop := c.meter.size ≤ 8192 ∧ (0 ≤ c.allow ∧ c.allow ≤ 1000000) ∧ (0 ≤ c.block ∧ c.block ≤ 1000000) ∧ (∀ t ∈ c.tiers, TB t) ∧ (∀ a ∈ c.adjs, AB a)
def MB (m : Met) : Prop := (m.name.size ≤ 8192 ∧ m.unit.size ≤ 8192) ∧ 0 ≤ m.max ∧ m.max ≤ 2000
def FB (f : Fee) : Prop := 0 ≤ f.amount ∧ f.amount ≤ 1000000000000
structure PB (p : Plan) : Prop where
  name : p.name.size ≤ 8192
  cur : p.cur.size ≤ 8192
  mets : ∀ m ∈ p.mets, MB m
  fees : ∀ m ∈ p.fees, FB m
  chgs : ∀ m ∈ p.chgs, CB m
theorem v_head : V PB (P.head dp) := fun s hs => by
  have h1 := (v_must [wPlan] s hs).2
  have h2 := v_kind 1 _ h1
  have h3 := (v_must [wCurrency] _ h2.2).2
  have h4 := v_kind 1 _ h3
  have h5 := (v_must [wSemi, wHorizon] _ h4.2).2
  have h6 := v_day dp _ h5
  have h7 := v_day dp _ h6.2
  have h8 := (v_must [wSemi] _ h7.2).2
  exact ⟨⟨h2.1, h4.1, (fun x hx => by cases hx), (fun x hx => by cases hx), (fun x hx => by cases hx)⟩, h8⟩
include hnp
theorem v_number (pl most : Int) (hm : 0 ≤ most) : V (fun n => 0 ≤ n ∧ n ≤ most) (P.number np pl most) := fun s hs => by
  have hk := v_kind 3 s hs
  unfold P.number
  simp only
  split
  · refine ⟨hnp _ _ _ hm, ?_⟩
    simp only
    split
    · exact ts_fail hk.2
    · split
      · exact ts_fail hk.2
      · exact hk.2
  · exact ⟨⟨Int.le_refl _, hm⟩, hk.2⟩
theorem v_opt (w : ByteArray) (d : Int) (hd : 0 ≤ d ∧ d ≤ 1000000) : V (fun n => 0 ≤ n ∧ n ≤ 1000000) (P.opt np w d) :=
  (v_eat w).bnd (G := fun a s => if a = true then bnd (P.number np 0 1000000) (fun x => mp (fun _ => x) (un (P.must [wSemi]))) s else (d, s)) fun a _ =>
    V.ite ((v_number np hnp 0 1000000 (by decide)).bnd fun x hx => (v_must [wSemi]).mp _ fun _ _ => hx) (V.ret hd)
theorem v_tierLoop : ∀ (f : Nat) (acc : List Tier), (∀ t ∈ acc, TB t) → V (fun l => ∀ t ∈ l, TB t) (P.tierLoop np f acc)
  | 0, acc, h => V.ret h
  | f + 1, acc, h => (v_eat wUpto).bnd (G := fun a s => if a = true then bnd (P.number np 0 1000000) (fun x => bnd (un (P.must [wRate])) (fun _ => bnd (P.number np 6 1000000000000) (fun y => bnd (un (P.must [wSemi])) (fun _ => P.tierLoop np f (acc ++ [(⟨x, y⟩ : Tier)]))))) s else (acc, s)) fun a _ =>
    V.ite ((v_number np hnp 0 1000000 (by decide)).bnd fun x hx => (v_must [wRate]).bnd fun _ _ => (v_number np hnp 6 1000000000000 (by decide)).bnd fun y hy => (v_must [wSemi]).bnd fun _ _ => v_tierLoop f _ fun t ht => by
      rcases List.mem_append.1 ht with ht | ht
      · exact h t ht
      · obtain rfl := List.mem_singleton.1 ht; exact ⟨hx, hy⟩) (V.ret h)
theorem v_tierAll : V (fun l => ∀ t ∈ l, TB t) (P.tierAll np []) := fun s hs => v_tierLoop np hnp (len s) [] (fun t ht => by cases ht) s hs
theorem v_tiers : V (fun l => ∀ t ∈ l, TB t) (P.tiers np) :=
  (v_must [wOpen]).bnd (G := fun _ => bnd (P.tierAll np []) (fun l => bnd (un (P.must [wRest, wRate])) (fun _ => bnd (P.number np 6 1000000000000) (fun r => mp (fun _ => l ++ [(⟨0, r⟩ : Tier)]) (un (P.must [wSemi, wClose])))))) fun _ _ =>
    (v_tierAll np hnp).bnd fun l hl => (v_must [wRest, wRate]).bnd fun _ _ => (v_number np hnp 6 1000000000000 (by decide)).bnd fun r hr => (v_must [wSemi, wClose]).mp _ fun _ _ t ht => by
      rcases List.mem_append.1 ht with ht | ht
      · exact hl t ht
      · obtain rfl := List.mem_singleton.1 ht; exact ⟨⟨Int.le_refl _, by show (0 : Int) ≤ 1000000; decide⟩, hr⟩
theorem v_adjBody (k : Int) : V AB (P.adjBody np k) := by
  have h : P.adjBody np k = fun s => if k = 1 then bnd (P.number np 3 100000000) (fun n => bnd P.mode (fun m => mp (fun _ => (⟨1, n, m⟩ : Adj)) (un (P.must [wSemi])))) s else bnd (P.number np 0 1000000000000) (fun n => mp (fun _ => (⟨k, n, 0⟩ : Adj)) (un (P.must [wSemi]))) s := rfl
  rw [h]
  exact V.ite ((v_number np hnp 3 100000000 (by decide)).bnd fun n hn => v_mode.bnd fun m _ => (v_must [wSemi]).mp _ fun _ _ => ⟨hn.1, by show n ≤ 1000000000000; have := hn.2; omega⟩) ((v_number np hnp 0 1000000000000 (by decide)).bnd fun n hn => (v_must [wSemi]).mp _ fun _ _ => hn)
theorem v_adjust : V (fun x : Adj × Bool => AB x.1) (P.adjust np) :=
  (v_one [wPercent, wCap, wMinimum, wAdd] 1).bnd (G := fun o s => if o < 0 then (((⟨0, 0, 0⟩ : Adj), false), s) else mp (fun b => (b, true)) (P.adjBody np o) s) fun o _ =>
    V.ite (V.ret ⟨Int.le_refl _, by show (0 : Int) ≤ 1000000000000; decide⟩) ((v_adjBody np hnp o).mp _ fun _ h => h)
theorem v_adjLoop : ∀ (f : Nat) (acc : List Adj), (∀ a ∈ acc, AB a) → V (fun l => ∀ a ∈ l, AB a) (P.adjLoop np f acc)
  | 0, acc, h => V.ret h
  | f + 1, acc, h => (v_adjust np hnp).bnd (G := fun a s => if a.2 = false ∨ s.err ≠ 0 then (acc, s) else P.adjLoop np f (acc ++ [a.1]) s) fun a ha => V.iteErr h (v_adjLoop f _ fun x hx => by
      rcases List.mem_append.1 hx with hx | hx
      · exact h x hx
      · obtain rfl := List.mem_singleton.1 hx; exact ha)
theorem v_adjAll : V (fun l => ∀ a ∈ l, AB a) (P.adjAll np []) := fun s hs => v_adjLoop np hnp (len s) [] (fun t ht => by cases ht) s hs
theorem v_charge (l c : Int) : V CB (P.charge dp np l c) :=
  (v_kind 1).bnd (G := fun n => bnd (P.window dp) fun w => bnd (un (P.must [wOpen])) fun _ => bnd (P.opt np wAllowance 0) fun a => bnd (P.opt np wBlock 1) fun b => bnd P.ckind fun k => bnd (P.tiers np) fun t =>
      bnd (un (P.must [wRound])) fun _ => bnd P.mode fun m => bnd (un (P.must [wSemi])) fun _ => bnd (P.adjAll np []) fun d => mp (fun _ => (⟨n, w, a, b, k, t, m, d, l, c⟩ : Chg)) (un (P.must [wClose]))) fun n hn =>
    (v_window dp).bnd fun w _ => (v_must [wOpen]).bnd fun _ _ => (v_opt np hnp wAllowance 0 (by decide)).bnd fun a ha => (v_opt np hnp wBlock 1 (by decide)).bnd fun b hb => v_ckind.bnd fun k _ => (v_tiers np hnp).bnd fun t ht =>
      (v_must [wRound]).bnd fun _ _ => v_mode.bnd fun m _ => (v_must [wSemi]).bnd fun _ _ => (v_adjAll np hnp).bnd fun d hd => (v_must [wClose]).mp _ fun _ _ => ⟨hn, ha, hb, ht, hd⟩
theorem v_meter (l c : Int) : V MB (P.meter np l c) :=
  (v_kind 1).bnd (G := fun n => bnd (un (P.must [wUnit])) fun _ => bnd (P.kind 1) fun x => bnd (un (P.must [wMax])) fun _ => bnd (P.number np 0 2000) fun m => mp (fun _ => (⟨n, x, m, l, c⟩ : Met)) (un (P.must [wSemi]))) fun n hn =>
    (v_must [wUnit]).bnd fun _ _ => (v_kind 1).bnd fun x hx => (v_must [wMax]).bnd fun _ _ => (v_number np hnp 0 2000 (by decide)).bnd fun m hm => (v_must [wSemi]).mp _ fun _ _ => ⟨⟨hn, hx⟩, hm⟩
theorem v_fee (l c : Int) : V FB (P.fee dp np l c) :=
  (v_number np hnp 0 1000000000000 (by decide)).bnd (G := fun x => bnd (P.window dp) fun w => mp (fun _ => (⟨x, w, l, c⟩ : Fee)) (un (P.must [wSemi]))) fun x hx =>
    (v_window dp).bnd fun w _ => (v_must [wSemi]).mp _ fun _ _ => hx
theorem v_item (p : Plan) (hp : PB p) : V PB (P.item dp np p) := fun s hs => by
  have ho := (v_one [wMeter, wFee, wCharge] 0 s hs).2
  have hm := v_meter np hnp (peek s).line (peek s).col _ ho
  have hf := v_fee dp np hnp (peek s).line (peek s).col _ ho
  have hc := v_charge dp np hnp (peek s).line (peek s).col _ ho
  unfold P.item
  simp only
  split
  · exact ⟨⟨hp.name, hp.cur, fun x hx => by
      rcases List.mem_append.1 hx with hx | hx
      · exact hp.mets x hx
      · obtain rfl := List.mem_singleton.1 hx; exact hm.1, hp.fees, hp.chgs⟩, hm.2⟩
  · split
    · exact ⟨⟨hp.name, hp.cur, hp.mets, fun x hx => by
        rcases List.mem_append.1 hx with hx | hx
        · exact hp.fees x hx
        · obtain rfl := List.mem_singleton.1 hx; exact hf.1, hp.chgs⟩, hf.2⟩
    · split
      · exact ⟨⟨hp.name, hp.cur, hp.mets, hp.fees, fun x hx => by
          rcases List.mem_append.1 hx with hx | hx
          · exact hp.chgs x hx
          · obtain rfl := List.mem_singleton.1 hx; exact hc.1⟩, hc.2⟩
      · exact ⟨hp, (v_must [wSemi] _ (ts_fail ho)).2⟩
theorem v_items : ∀ (f : Nat) (p : Plan), PB p → V PB (P.items dp np f p)
  | 0, p, hp => V.ret hp
  | f + 1, p, hp => fun s hs => by
    rw [P.items]
    split
    · have h := v_item dp np hnp p hp s hs
      exact v_items f _ h.1 _ h.2
    · exact ⟨hp, hs⟩
end
theorem npV_in (t : ByteArray) (pl most : Int) (hm : 0 ≤ most) : 0 ≤ (npV t pl most).1 ∧ (npV t pl most).1 ≤ most := by
  unfold npV Dec.parseL Dec.parseW
  split
  · exact ⟨Int.le_refl _, hm⟩
  · split
    · exact ⟨Int.le_refl _, hm⟩
    · split
      · exact ⟨Int.le_refl _, hm⟩
      · rename_i h
        exact ⟨Int.natCast_nonneg _, by simp only; omega⟩
/-- a plan that is parsed can be told -/
theorem told_parse {l : List UInt8} (h : (RParse l).2.1 = 0) : Told (RParse l).1 := by
  have hs := RParse_small l
  have hpb : PB (RParse l).1 := by
    obtain ⟨ts, er, a, b, hall⟩ : ∃ ts er a b, lexAll l = (ts, er, a, b) := ⟨_, _, _, _, rfl⟩
    by_cases her : er = 0
    · subst her
      by_cases h0 : (P.plan dp npV ts).2.err = 0
      · rw [PParse_ok hall h0]
        have h1 := v_head dp ⟨ts, 0, 0, 0⟩ (all_sizes hall)
        exact (v_items dp npV npV_in _ _ h1.1 _ h1.2).1
      · rw [PParse_bad hall h0] at h; exact absurd h h0
    · rw [RParse_lex hall her] at h; exact absurd h her
  exact ⟨⟨fun m hm => (hpb.mets m hm).2, fun f hf => hpb.fees f hf, fun c hc => ⟨(hpb.chgs c hc).2.1, (hpb.chgs c hc).2.2.1, (hpb.chgs c hc).2.2.2.1, (hpb.chgs c hc).2.2.2.2⟩⟩, hs, hpb.name, hpb.cur, fun m hm => (hpb.mets m hm).1, fun c hc => (hpb.chgs c hc).1⟩
end Go.Proofs.YtcgkfgklggjmaaaDoor.Par
end
section
namespace Go.Proofs.YtcgkfgklggjmaaaDoor.Par
set_option linter.unusedVariables false
set_option linter.unusedSimpArgs false
/-! plans without places; items behind items -/
def sM (m : Met) : Met := { m with line := 0, col := 0 }
def sF (m : Fee) : Fee := { m with line := 0, col := 0 }
def sC (m : Chg) : Chg := { m with line := 0, col := 0 }
def strip (p : Plan) : Plan := { p with mets := p.mets.map sM, fees := p.fees.map sF, chgs := p.chgs.map sC, line := 0, col := 0 }
/-- the items of another plan behind its own -/
def adds (b p : Plan) : Plan := { b with mets := b.mets ++ p.mets, fees := b.fees ++ p.fees, chgs := b.chgs ++ p.chgs }
theorem strip_put {p q : Plan} (h : strip p = strip q) (l c l' c' : Int) (x : Thing) : strip (put p l c x) = strip (put q l' c' x) := by
  obtain ⟨n, cu, f, t, ms, fs, cs, a, b⟩ := p
  obtain ⟨n', cu', f', t', ms', fs', cs', a', b'⟩ := q
  simp only [strip, Plan.mk.injEq] at h
  obtain ⟨rfl, rfl, rfl, rfl, h1, h2, h3, -, -⟩ := h
  cases x <;> simp [put, strip, h1, h2, h3, sM, sF, sC]
theorem put_adds (b p : Plan) (l c : Int) (x : Thing) : put (adds b p) l c x = adds b (put p l c x) := by
  cases x <;> simp [put, adds]
section
variable (dp : ByteArray → Day) (np : ByteArray → Int → Int → Int × Int)
theorem itemsAll_itm {p : Plan} {s : St} (h0 : s.err = 0) (hk : (peek s).kind ≠ 0) : P.itemsAll dp np p s = P.itemsAll dp np (put p (peek s).line (peek s).col (itm dp np s).1) (itm dp np s).2 := by
  rw [itemsAll_step dp np h0 hk, item_itm]
theorem itm_round {s : St} (h : (itm dp np s).2.err = 0) : len (itm dp np s).2 < len s := by
  have hr := item_round dp np noPlan s
  rw [item_itm] at hr
  exact hr.resolve_left (fun c => c h)
theorem Loc.live {T : Tl} {s r : St} (h : Loc T s r) : (s.rest = [T.e] ∧ r.rest = T.t) ∨ ((peek s).kind ≠ 0 ∧ (peek r).kind ≠ 0) := by
  obtain ⟨l, m, h1, h2, h3⟩ := h.rest
  cases l with
  | nil =>
    cases m with
    | cons y m => exact absurd h3 (by simp [Als])
    | nil => exact .inl ⟨h1, h2⟩
  | cons x l =>
    cases m with
    | nil => exact absurd h3 (by simp [Als])
    | cons y m =>
      have hp : peek s = x := by unfold peek; rw [h1]; rfl
      have hq : peek r = y := by unfold peek; rw [h2]; rfl
      refine .inr ⟨by rw [hp]; exact h3.1.2.2, by rw [hq, ← h3.1.1]; exact h3.1.2.2⟩
/-- the items of one side, where the other one goes on -/
theorem items_cut {T : Tl} (hT : Tails T) : ∀ (n : Nat) (s r : St) (p q : Plan), len s ≤ n → Loc T s r → strip p = strip q →
    AtE T (P.itemsAll dp np p s).2 ∨ ((P.itemsAll dp np p s).2.err ≠ 0 ∧ (P.itemsAll dp np q r).2.err ≠ 0) ∨
    ((P.itemsAll dp np p s).2.err = 0 ∧ (P.itemsAll dp np p s).2.rest = [T.e] ∧ ∃ q' r', r'.err = 0 ∧ r'.rest = T.t ∧ strip q' = strip (P.itemsAll dp np p s).1 ∧ P.itemsAll dp np q r = P.itemsAll dp np q' r') := by
  intro n
  induction n with
  | zero =>
    intro s r p q hn h hp
    obtain ⟨l, m, h1, -, -⟩ := h.rest
    unfold len at hn
    rw [h1] at hn
    simp at hn
  | succ n ih =>
    intro s r p q hn h hp
    rcases h.live with ⟨h1, h2⟩ | ⟨h1, h2⟩
    · rw [itemsAll_end dp np (p := p) (s := s) (.inr (by unfold peek; rw [h1]; exact hT.1))]
      exact .inr (.inr ⟨h.err, h1, q, r, h.err', h2, hp.symm, rfl⟩)
    · rw [itemsAll_itm dp np h.err h1, itemsAll_itm dp np h.err' h2]
      rcases (good_itm dp np hT).L s r h with h3 | h3 | h3 | h3
      · rw [itemsAll_end dp np (.inl h3.bad)]
        exact .inl h3
      · rw [itemsAll_end dp np (s := (itm dp np s).2) (.inl h3.1), itemsAll_end dp np (s := (itm dp np r).2) (.inl (h3.2 ▸ h3.1))]
        exact .inr (.inl ⟨h3.1, h3.2 ▸ h3.1⟩)
      · cases h3.1
      · have hl := itm_round dp np h3.2.err
        rw [← h3.1]
        exact ih _ _ _ _ (by omega) h3.2 (strip_put hp _ _ _ _ _)
/-- the same items behind two plans -/
theorem items_alike {T : Tl} (hT : Tails T) (hc : T.cut = false) : ∀ (n : Nat) (s r : St) (p q b : Plan), len s ≤ n → Loc T s r → strip q = strip (adds b p) →
    (P.itemsAll dp np p s).2.err = (P.itemsAll dp np q r).2.err ∧ ((P.itemsAll dp np p s).2.err = 0 → strip (P.itemsAll dp np q r).1 = strip (adds b (P.itemsAll dp np p s).1)) := by
  intro n
  induction n with
  | zero =>
    intro s r p q b hn h hp
    obtain ⟨l, m, h1, -, -⟩ := h.rest
    unfold len at hn
    rw [h1] at hn
    simp at hn
  | succ n ih =>
    intro s r p q b hn h hp
    rcases h.live with ⟨h1, h2⟩ | ⟨h1, h2⟩
    · obtain ⟨x, hx, hk⟩ := hT.2 hc
      rw [itemsAll_end dp np (p := p) (s := s) (.inr (by unfold peek; rw [h1]; exact hT.1)), itemsAll_end dp np (p := q) (s := r) (.inr (by unfold peek; rw [h2, hx]; exact hk))]
      exact ⟨h.err.trans h.err'.symm, fun _ => hp⟩
    · rw [itemsAll_itm dp np h.err h1, itemsAll_itm dp np h.err' h2]
      rcases (good_itm dp np hT).L s r h with h3 | h3 | h3 | h3
      · exact absurd h3.1 (by rw [hc]; decide)
      · rw [itemsAll_end dp np (s := (itm dp np s).2) (.inl h3.1), itemsAll_end dp np (s := (itm dp np r).2) (.inl (h3.2 ▸ h3.1))]
        exact ⟨h3.2, fun c => absurd c h3.1⟩
      · cases h3.1
      · have hl := itm_round dp np h3.2.err
        rw [← h3.1]
        refine ih _ _ _ _ b (by omega) h3.2 ?_
        rw [← put_adds]
        exact strip_put hp _ _ _ _ _
/-- the head of a plan -/
def hd : St → Plan × St :=
  bnd (un (P.must [wPlan])) fun _ => bnd (P.kind 1) fun n => bnd (un (P.must [wCurrency])) fun _ => bnd (P.kind 1) fun c => bnd (un (P.must [wSemi, wHorizon])) fun _ => bnd (P.day dp) fun f => bnd (P.day dp) fun t =>
    mp (fun _ => (⟨n, c, f, t, [], [], [], 0, 0⟩ : Plan)) (un (P.must [wSemi]))
theorem head_hd (s : St) : P.head dp s = ({ (hd dp s).1 with line := (peek s).line, col := (peek s).col }, (hd dp s).2) := by
  simp only [P.head, hd, bnd, mp, un]
theorem good_hd {T : Tl} (hu : Tails T) : Good T false (hd dp) :=
  (good_must1 hu wPlan).bnd hu.1 fun _ => (good_kind hu 1 (by decide)).bnd hu.1 fun n => (good_must1 hu wCurrency).bnd hu.1 fun _ => (good_kind hu 1 (by decide)).bnd hu.1 fun c => (good_must2 hu wSemi wHorizon).bnd hu.1 fun _ =>
    (good_day hu dp).bnd hu.1 fun f => (good_day hu dp).bnd hu.1 fun t => (good_must1 hu wSemi).mp _
theorem plan_hd (l : List Tok) : P.plan dp np l = P.itemsAll dp np { (hd dp ⟨l, 0, 0, 0⟩).1 with line := (peek ⟨l, 0, 0, 0⟩).line, col := (peek ⟨l, 0, 0, 0⟩).col } (hd dp ⟨l, 0, 0, 0⟩).2 := by
  unfold P.plan P.itemsAll
  rw [head_hd]
  rfl
/-- a plan's tokens, where the other side goes on -/
theorem plan_cut {T : Tl} (hT : Tails T) {l m : List Tok} (ha : Als l m) :
    AtE T (P.plan dp np (l ++ [T.e])).2 ∨ ((P.plan dp np (l ++ [T.e])).2.err ≠ 0 ∧ (P.plan dp np (m ++ T.t)).2.err ≠ 0) ∨
    ((P.plan dp np (l ++ [T.e])).2.err = 0 ∧ (P.plan dp np (l ++ [T.e])).2.rest = [T.e] ∧ ∃ q' r', r'.err = 0 ∧ r'.rest = T.t ∧ strip q' = strip (P.plan dp np (l ++ [T.e])).1 ∧ P.plan dp np (m ++ T.t) = P.itemsAll dp np q' r') := by
  have h0 : Loc T ⟨l ++ [T.e], 0, 0, 0⟩ ⟨m ++ T.t, 0, 0, 0⟩ := ⟨rfl, rfl, l, m, rfl, rfl, ha⟩
  rw [plan_hd, plan_hd]
  rcases (good_hd dp hT).L _ _ h0 with h3 | h3 | h3 | h3
  · rw [itemsAll_end dp np (.inl h3.bad)]
    exact .inl h3
  · rw [itemsAll_end dp np (s := (hd dp ⟨l ++ [T.e], 0, 0, 0⟩).2) (.inl h3.1), itemsAll_end dp np (s := (hd dp ⟨m ++ T.t, 0, 0, 0⟩).2) (.inl (h3.2 ▸ h3.1))]
    exact .inr (.inl ⟨h3.1, h3.2 ▸ h3.1⟩)
  · cases h3.1
  · exact items_cut dp np hT _ _ _ _ _ (Nat.le_refl _) h3.2 (by rw [h3.1]; rfl)
end
end Go.Proofs.YtcgkfgklggjmaaaDoor.Par
end
section
namespace Go.Proofs.YtcgkfgklggjmaaaDoor
set_option linter.unusedVariables false
set_option linter.unusedSimpArgs false
/-! two texts with a line feed between -/
def downT (d : Int) (t : Tok) : Tok := { t with line := t.line + d }
def downR (d : Int) : Except (Int × Int) (List Tok) → Except (Int × Int) (List Tok)
  | .ok ts => .ok (ts.map (downT d))
  | .error (a, b) => .error (a + d, b)
theorem downR_cons (d : Int) (t : Tok) (r : Except (Int × Int) (List Tok)) : downR d (consR t r) = consR (downT d t) (downR d r) := by cases r <;> simp [downR, consR]
theorem lexL_down : ∀ (n : Nat) (l : List UInt8) (line col d : Int), l.length ≤ n → lexL l (line + d) col = downR d (lexL l line col) := by
  intro n
  induction n with
  | zero =>
    intro l line col d hl
    obtain rfl := List.length_eq_zero_iff.1 (Nat.le_zero.1 hl)
    rw [lexL, lexL]; simp [downR, downT]
  | succ n ih =>
    intro l line col d hl
    cases l with
    | nil => rw [lexL, lexL]; simp [downR, downT]
    | cons c cs =>
      rw [List.length_cons] at hl
      rw [lexL, lexL]
      split
      · exact ih _ _ _ _ (by rw [List.length_drop]; omega)
      · split
        · rw [show line + d + 1 = line + 1 + d from by omega]; exact ih _ _ _ _ (by omega)
        · split
          · exact ih _ _ _ _ (by omega)
          · split
            · rfl
            · rw [ih _ line _ d (by rw [List.length_drop]; omega), downR_cons]; rfl
/-- lines do not go past the text's length -/
def boundR (lo hi : Int) : Except (Int × Int) (List Tok) → Prop
  | .ok ts => ∀ t ∈ ts, lo ≤ t.line ∧ t.line ≤ hi
  | .error (a, _) => lo ≤ a ∧ a ≤ hi
theorem boundR_cons {lo hi : Int} {t : Tok} {r : Except (Int × Int) (List Tok)} (h : lo ≤ t.line ∧ t.line ≤ hi) (hr : boundR lo hi r) : boundR lo hi (consR t r) := by
  cases r with
  | ok ts =>
    intro x hx
    rcases List.mem_cons.1 hx with rfl | hx
    · exact h
    · exact hr x hx
  | error e => exact hr
theorem boundR_mono {lo hi lo' hi' : Int} {r : Except (Int × Int) (List Tok)} (h : boundR lo hi r) (h1 : lo' ≤ lo) (h2 : hi ≤ hi') : boundR lo' hi' r := by
  cases r with
  | ok ts => exact fun t ht => by have := h t ht; omega
  | error e => have : lo ≤ e.1 ∧ e.1 ≤ hi := h; show lo' ≤ e.1 ∧ e.1 ≤ hi'; omega
theorem lexL_bound : ∀ (n : Nat) (l : List UInt8) (line col : Int), l.length ≤ n → boundR line (line + l.length) (lexL l line col) := by
  intro n
  induction n with
  | zero =>
    intro l line col hl
    obtain rfl := List.length_eq_zero_iff.1 (Nat.le_zero.1 hl)
    rw [lexL]; intro t ht; simp at ht; subst ht; simp
  | succ n ih =>
    intro l line col hl
    cases l with
    | nil => rw [lexL]; intro t ht; simp at ht; subst ht; simp
    | cons c cs =>
      rw [List.length_cons] at hl
      rw [lexL, List.length_cons]
      split
      · exact boundR_mono (ih _ _ _ (by rw [List.length_drop]; omega)) (by omega) (by rw [List.length_drop]; omega)
      · split
        · exact boundR_mono (ih _ _ _ (by omega)) (by omega) (by omega)
        · split
          · exact boundR_mono (ih _ _ _ (by omega)) (by omega) (by omega)
          · split
            · show line ≤ line ∧ line ≤ _; omega
            · refine boundR_cons (by simp only; omega) (boundR_mono (ih _ _ _ (by rw [List.length_drop]; omega)) (by omega) (by rw [List.length_drop]; omega))
theorem noteLen_app (cs r : List UInt8) : noteLen (cs ++ 10 :: r) = noteLen cs := by
  induction cs with
  | nil => simp [noteLen]
  | cons x cs ih =>
    by_cases hx : x = 10
    · simp [noteLen, hx]
    · simp only [noteLen, List.cons_append, List.takeWhile_cons] at ih ⊢
      simp [hx, ih]
theorem runLen_app (cs r : List UInt8) : runLen (cs ++ 10 :: r) = runLen cs := by
  have h10 : isLet 10 = false := by decide
  induction cs with
  | nil => simp [runLen, h10]
  | cons x cs ih =>
    cases hx : isLet x with
    | true => simp only [runLen, List.cons_append, List.takeWhile_cons] at ih ⊢; simp [hx, ih]
    | false => simp [runLen, hx]
theorem tokLen_app (c : UInt8) (cs r : List UInt8) : tokLen c (cs ++ 10 :: r) = tokLen c cs := by unfold tokLen; rw [runLen_app]
theorem drop_app (cs r : List UInt8) (n : Nat) (h : n ≤ cs.length) : (cs ++ 10 :: r).drop n = cs.drop n ++ 10 :: r := by rw [List.drop_append_of_le_length h]
theorem take_app (cs r : List UInt8) (n : Nat) (h : n ≤ cs.length) : (cs ++ 10 :: r).take n = cs.take n := by rw [List.take_append_of_le_length h]
/-- what follows behind a text whose tokens are told -/
def joinR (r : List UInt8) : Except (Int × Int) (List Tok) → Except (Int × Int) (List Tok) → Prop
  | .error e, x => x = .error e
  | .ok ts, x => ∃ us e, ts = us ++ [e] ∧ x = preR us (lexL r (e.line + 1) 1)
theorem joinR_cons {r : List UInt8} {t : Tok} {y x : Except (Int × Int) (List Tok)} (h : joinR r y x) : joinR r (consR t y) (consR t x) := by
  cases y with
  | error e => have : x = .error e := h; subst this; rfl
  | ok ts =>
    obtain ⟨us, e, rfl, rfl⟩ := h
    refine ⟨t :: us, e, rfl, ?_⟩
    cases lexL r (e.line + 1) 1 <;> rfl
theorem lexL_join (r : List UInt8) : ∀ (n : Nat) (l : List UInt8) (line col : Int), l.length ≤ n → joinR r (lexL l line col) (lexL (l ++ 10 :: r) line col) := by
  intro n
  induction n with
  | zero =>
    intro l line col hl
    obtain rfl := List.length_eq_zero_iff.1 (Nat.le_zero.1 hl)
    rw [List.nil_append, lexL, lexL, if_neg (by decide), if_pos rfl]
    exact ⟨[], _, rfl, by rw [preR_nil]⟩
  | succ n ih =>
    intro l line col hl
    cases l with
    | nil =>
      rw [List.nil_append, lexL, lexL, if_neg (by decide), if_pos rfl]
      exact ⟨[], _, rfl, by rw [preR_nil]⟩
    | cons c cs =>
      rw [List.length_cons] at hl
      rw [List.cons_append, lexL, lexL, noteLen_app, tokLen_app, drop_app _ _ _ (noteLen_le cs), drop_app _ _ _ (tokLen_le c cs), take_app _ _ _ (tokLen_le c cs)]
      split
      · exact ih _ _ _ (by rw [List.length_drop]; omega)
      · split
        · exact ih _ _ _ (by omega)
        · split
          · exact ih _ _ _ (by omega)
          · split
            · rfl
            · exact joinR_cons (ih _ _ _ (by rw [List.length_drop]; omega))
/-- a short text: its tokens, the last one being the end; or the place of what is none -/
theorem all_cases (l : List UInt8) (hl : l.length ≤ 8192) : (∃ us e, lexL l 1 1 = .ok (us ++ [e]) ∧ lexAll l = (us ++ [e], 0, 0, 0)) ∨ ∃ a b, lexL l 1 1 = .error (a, b) ∧ lexAll l = ([], 3, a, b) := by
  have h := lexL_join [] _ l 1 1 (Nat.le_refl _)
  rw [lexAll, if_neg (by omega)]
  cases hr : lexL l 1 1 with
  | ok ts =>
    rw [hr] at h
    obtain ⟨us, e, rfl, _⟩ := h
    exact .inl ⟨us, e, rfl, rfl⟩
  | error p => exact .inr ⟨p.1, p.2, rfl, rfl⟩
theorem all_join_err {a b : List UInt8} {p q : Int} (ha : lexL a 1 1 = .error (p, q)) (hl : (a ++ 10 :: b).length ≤ 8192) : lexAll (a ++ 10 :: b) = ([], 3, p, q) := by
  have h := lexL_join b _ a 1 1 (Nat.le_refl _)
  rw [ha] at h
  have h : lexL (a ++ 10 :: b) 1 1 = .error (p, q) := h
  rw [lexAll, if_neg (by omega), h]
theorem all_join_ok {a b : List UInt8} {us : List Tok} {e : Tok} (ha : lexL a 1 1 = .ok (us ++ [e])) (hl : (a ++ 10 :: b).length ≤ 8192) :
    lexL (a ++ 10 :: b) 1 1 = preR us (downR e.line (lexL b 1 1)) := by
  have h := lexL_join b _ a 1 1 (Nat.le_refl _)
  rw [ha] at h
  obtain ⟨us', e', he, hx⟩ := h
  obtain ⟨rfl, h2⟩ := List.append_inj' he rfl
  injection h2 with h2
  subst h2
  rw [hx, ← lexL_down _ b 1 1 e.line (Nat.le_refl _), show (1 : Int) + e.line = e.line + 1 from by omega]
theorem all_bound {l : List UInt8} {ts : List Tok} (h : lexL l 1 1 = .ok ts) : ∀ t ∈ ts, 1 ≤ t.line ∧ t.line ≤ 1 + l.length := by
  have hb := lexL_bound _ l 1 1 (Nat.le_refl _)
  rw [h] at hb
  exact hb
theorem all_bound_err {l : List UInt8} {p q : Int} (h : lexL l 1 1 = .error (p, q)) : 1 ≤ p ∧ p ≤ 1 + l.length := by
  have hb := lexL_bound _ l 1 1 (Nat.le_refl _)
  rw [h] at hb
  exact hb
theorem count_ok : ∀ (n : Nat) (l : List UInt8) (line col : Int) (ts : List Tok), l.length ≤ n → lexL l line col = .ok ts → ts.length ≤ l.length + 1 := by
  intro n
  induction n with
  | zero =>
    intro l line col ts hl h
    obtain rfl := List.length_eq_zero_iff.1 (Nat.le_zero.1 hl)
    rw [lexL] at h; injection h with h; subst h; simp
  | succ n ih =>
    intro l line col ts hl h
    cases l with
    | nil => rw [lexL] at h; injection h with h; subst h; simp
    | cons c cs =>
      rw [List.length_cons] at hl ⊢
      rw [lexL] at h
      split at h
      · have := ih _ _ _ _ (by rw [List.length_drop]; omega) h
        rw [List.length_drop] at this; omega
      · split at h
        · have := ih _ _ _ _ (by omega) h; omega
        · split at h
          · have := ih _ _ _ _ (by omega) h; omega
          · split at h
            · cases h
            · cases hr : lexL (cs.drop (tokLen c cs)) line (col + 1 + tokLen c cs) with
              | error e => rw [hr] at h; cases h
              | ok ts' =>
                rw [hr] at h
                injection h with h
                subst h
                have := ih _ _ _ _ (by rw [List.length_drop]; omega) hr
                rw [List.length_drop] at this
                rw [List.length_cons]; omega
end Go.Proofs.YtcgkfgklggjmaaaDoor
end
section
namespace Go.Proofs.YtcgkfgklggjmaaaDoor
set_option linter.unusedVariables false
set_option linter.unusedSimpArgs false
/-! tokens put one behind the other, with blanks and notes between -/
def piece (note : List UInt8) (i : Nat) (t : List UInt8) : List UInt8 := t ++ 32 :: (if i % 3 = 0 then 9 :: 35 :: (note ++ [10]) else [])
def built (note : List UInt8) : Nat → List Tok → List UInt8
  | _, [] => []
  | i, t :: ts => piece note i t.text.data.toList ++ built note (i + 1) ts
theorem built_snoc (note : List UInt8) : ∀ (ts : List Tok) (i : Nat) (t : Tok), built note i (ts ++ [t]) = built note i ts ++ piece note (i + ts.length) t.text.data.toList
  | [], i, t => by simp [built]
  | x :: ts, i, t => by
    have ih := built_snoc note ts (i + 1) t
    simp only [List.cons_append, built, ih, List.length_cons, List.append_assoc]
    rw [show i + 1 + ts.length = i + (ts.length + 1) from by omega]
theorem kind_shape {l : List UInt8} (h : kindOf l ≠ 0) : (l = [123] ∨ l = [125] ∨ l = [59]) ∨ (l ≠ [] ∧ l.all isLet = true) := by
  refine Classical.byContradiction fun hc => h ?_
  refine kind_no (fun h1 => hc (.inl h1)) ?_
  by_cases h0 : l = []
  · exact .inl h0
  · cases ha : l.all isLet with
    | false => exact .inr rfl
    | true => exact absurd (.inr ⟨h0, ha⟩) hc
theorem runLen_all (cs r : List UInt8) (h : cs.all isLet = true) : runLen (cs ++ 32 :: r) = cs.length := by
  have h32 : isLet 32 = false := by decide
  induction cs with
  | nil => simp [runLen, h32]
  | cons x cs ih =>
    simp only [List.all_cons, Bool.and_eq_true] at h
    have := ih h.2
    simp only [runLen, List.cons_append, List.takeWhile_cons, h.1, if_true, List.length_cons] at this ⊢
    omega
theorem lexL_sp (r : List UInt8) (line col : Int) : lexL (32 :: r) line col = lexL r line (col + 1) := by
  rw [lexL, if_neg (by decide), if_neg (by decide), if_pos (by decide)]
/-- a token ahead of a blank is read as it stands -/
theorem lex_tok (l r : List UInt8) (line col : Int) (h : kindOf l ≠ 0) : lexL (l ++ 32 :: r) line col = consR ⟨kindOf l, ⟨l.toArray⟩, line, col⟩ (lexL r line (col + l.length + 1)) := by
  have key : ∃ c cs, l = c :: cs ∧ c ≠ 35 ∧ c ≠ 10 ∧ ¬ (c = 32 ∨ c = 9 ∨ c = 13) ∧ tokLen c (cs ++ 32 :: r) = cs.length := by
    rcases kind_shape h with h1 | ⟨h0, h1⟩
    · rcases h1 with rfl | rfl | rfl
      · exact ⟨123, [], rfl, by decide, by decide, by decide, rfl⟩
      · exact ⟨125, [], rfl, by decide, by decide, by decide, rfl⟩
      · exact ⟨59, [], rfl, by decide, by decide, by decide, rfl⟩
    · cases l with
      | nil => exact absurd rfl h0
      | cons c cs =>
        simp only [List.all_cons, Bool.and_eq_true] at h1
        have hc := h1.1
        refine ⟨c, cs, rfl, ?_, ?_, ?_, ?_⟩
        · rintro rfl; revert hc; decide
        · rintro rfl; revert hc; decide
        · rintro (rfl | rfl | rfl) <;> revert hc <;> decide
        · rw [tokLen, if_pos hc, runLen_all cs r h1.2]
  obtain ⟨c, cs, rfl, h35, h10, h3, ht⟩ := key
  rw [List.cons_append, lexL, if_neg h35, if_neg h10, if_neg h3, ht, List.take_left', List.drop_left', if_neg h]
  · rw [lexL_sp]
    rw [List.length_cons, show col + 1 + (cs.length : Int) + 1 = col + ((cs.length + 1 : Nat) : Int) + 1 from by omega]
  · rfl
  · rfl
theorem noteLen_free (note r : List UInt8) (h : ∀ x ∈ note, x ≠ 10) : noteLen (note ++ 10 :: r) = note.length := by
  induction note with
  | nil => simp [noteLen]
  | cons x note ih =>
    have hx := h x (by simp)
    have := ih fun y hy => h y (by simp [hy])
    simp only [noteLen, List.cons_append, List.takeWhile_cons] at this ⊢
    simp [hx, this]
theorem lex_note (note r : List UInt8) (line col : Int) (h : ∀ x ∈ note, x ≠ 10) : lexL (9 :: 35 :: (note ++ 10 :: r)) line col = lexL r (line + 1) 1 := by
  rw [lexL, if_neg (by decide), if_neg (by decide), if_pos (by decide), lexL, if_pos rfl, noteLen_free note r h, List.drop_left' rfl, lexL, if_neg (by decide), if_pos rfl]
def likeR (ts : List Tok) : Except (Int × Int) (List Tok) → Prop
  | .ok us => us.map (fun t => (t.kind, t.text)) = ts.map (fun t => (t.kind, t.text))
  | .error _ => False
theorem likeR_cons {t u : Tok} {ts : List Tok} {r : Except (Int × Int) (List Tok)} (h : likeR ts r) (hk : u.kind = t.kind) (ht : u.text = t.text) : likeR (t :: ts) (consR u r) := by
  cases r with
  | error e => exact h.elim
  | ok us =>
    have h : us.map (fun t => (t.kind, t.text)) = ts.map (fun t => (t.kind, t.text)) := h
    show (u :: us).map (fun t => (t.kind, t.text)) = (t :: ts).map (fun t => (t.kind, t.text))
    rw [List.map_cons, List.map_cons, h, hk, ht]
/-- the tokens of what was put together are the same ones, but for places -/
theorem lex_built (note : List UInt8) (hn : ∀ x ∈ note, x ≠ 10) (e : Tok) (he : e.kind = 0 ∧ e.text = ⟨#[]⟩) : ∀ (us : List Tok) (i : Nat) (line col : Int), (∀ t ∈ us, kindOf t.text.data.toList = t.kind ∧ t.kind ≠ 0) →
    likeR (us ++ [e]) (lexL (built note i (us ++ [e])) line col)
  | [], i, line, col, _ => by
    have h0 : built note i ([] ++ [e]) = 32 :: (if i % 3 = 0 then 9 :: 35 :: (note ++ 10 :: []) else []) := by
      simp [built, piece, he.2]
    rw [h0, lexL_sp]
    by_cases hi : i % 3 = 0
    · rw [if_pos hi, lex_note note [] _ _ hn, lexL]
      simp [likeR, he]
    · rw [if_neg hi, lexL]
      simp [likeR, he]
  | t :: us, i, line, col, h => by
    have ht := h t (by simp)
    have hk : kindOf t.text.data.toList ≠ 0 := by rw [ht.1]; exact ht.2
    have hs : built note i (t :: us ++ [e]) = t.text.data.toList ++ 32 :: ((if i % 3 = 0 then 9 :: 35 :: (note ++ [10]) else []) ++ built note (i + 1) (us ++ [e])) := by
      simp [built, piece]
    rw [hs, lex_tok _ _ _ _ hk]
    refine likeR_cons ?_ ht.1 (by simp)
    by_cases hi : i % 3 = 0
    · rw [if_pos hi]
      have e1 : 9 :: 35 :: (note ++ [10]) ++ built note (i + 1) (us ++ [e]) = 9 :: 35 :: (note ++ 10 :: built note (i + 1) (us ++ [e])) := by simp
      rw [e1, lex_note note _ _ _ hn]
      exact lex_built note hn e he us (i + 1) _ _ fun x hx => h x (by simp [hx])
    · rw [if_neg hi, List.nil_append]
      exact lex_built note hn e he us (i + 1) _ _ fun x hx => h x (by simp [hx])
theorem shape_ok : ∀ (n : Nat) (l : List UInt8) (line col : Int) (ts : List Tok), l.length ≤ n → lexL l line col = .ok ts → ∃ us e, ts = us ++ [e] ∧ (e.kind = 0 ∧ e.text = ⟨#[]⟩) ∧ ∀ t ∈ us, kindOf t.text.data.toList = t.kind ∧ t.kind ≠ 0 := by
  intro n
  induction n with
  | zero =>
    intro l line col ts hl h
    obtain rfl := List.length_eq_zero_iff.1 (Nat.le_zero.1 hl)
    rw [lexL] at h; injection h with h; subst h
    exact ⟨[], _, rfl, ⟨rfl, rfl⟩, by simp⟩
  | succ n ih =>
    intro l line col ts hl h
    cases l with
    | nil =>
      rw [lexL] at h; injection h with h; subst h
      exact ⟨[], _, rfl, ⟨rfl, rfl⟩, by simp⟩
    | cons c cs =>
      rw [List.length_cons] at hl
      rw [lexL] at h
      split at h
      · exact ih _ _ _ _ (by rw [List.length_drop]; omega) h
      · split at h
        · exact ih _ _ _ _ (by omega) h
        · split at h
          · exact ih _ _ _ _ (by omega) h
          · split at h
            · cases h
            · rename_i hk
              cases hr : lexL (cs.drop (tokLen c cs)) line (col + 1 + tokLen c cs) with
              | error e => rw [hr] at h; cases h
              | ok ts' =>
                rw [hr] at h
                injection h with h
                subst h
                obtain ⟨us, e, rfl, he, hu⟩ := ih _ _ _ _ (by rw [List.length_drop]; omega) hr
                refine ⟨_ :: us, e, rfl, he, fun t ht => ?_⟩
                rcases List.mem_cons.1 ht with rfl | ht
                · exact ⟨rfl, hk⟩
                · exact hu t ht
/-- what LexNotes hangs on -/
theorem all_built (l note : List UInt8) (hn : ∀ x ∈ note, x ≠ 10) {ts : List Tok} (h : lexL l 1 1 = .ok ts) (hl : (built note 0 ts).length ≤ 8192) :
    ∃ us, lexAll (built note 0 ts) = (us, 0, 0, 0) ∧ us.map (fun t => (t.kind, t.text)) = ts.map (fun t => (t.kind, t.text)) := by
  obtain ⟨us, e, rfl, he, hu⟩ := shape_ok _ l 1 1 ts (Nat.le_refl _) h
  have hb := lex_built note hn e he us 0 1 1 hu
  rw [lexAll, if_neg (by omega)]
  cases hr : lexL (built note 0 (us ++ [e])) 1 1 with
  | error p => rw [hr] at hb; exact hb.elim
  | ok vs =>
    rw [hr] at hb
    exact ⟨vs, rfl, hb⟩
end Go.Proofs.YtcgkfgklggjmaaaDoor
end
section
namespace Go.Proofs.YtcgkfgklggjmaaaDoor.Par
set_option linter.unusedVariables false
set_option linter.unusedSimpArgs false
/-! the plan of one fee whose amount is a number's digits -/
def nPre : List UInt8 := [112, 108, 97, 110, 32, 112, 32, 99, 117, 114, 114, 101, 110, 99, 121, 32, 99, 59, 32, 104, 111, 114, 105, 122, 111, 110, 32, 50, 48, 50, 52, 45, 48, 49, 45, 48, 49, 32, 50, 48, 50, 52, 45, 48, 49, 45, 48, 50, 59]
def nUs : List Tok := [⟨2, ⟨#[112, 108, 97, 110]⟩, 1, 1⟩, ⟨1, ⟨#[112]⟩, 1, 6⟩, ⟨2, ⟨#[99, 117, 114, 114, 101, 110, 99, 121]⟩, 1, 8⟩, ⟨1, ⟨#[99]⟩, 1, 17⟩, ⟨5, ⟨#[59]⟩, 1, 18⟩, ⟨2, ⟨#[104, 111, 114, 105, 122, 111, 110]⟩, 1, 20⟩, ⟨4, ⟨#[50, 48, 50, 52, 45, 48, 49, 45, 48, 49]⟩, 1, 28⟩, ⟨4, ⟨#[50, 48, 50, 52, 45, 48, 49, 45, 48, 50]⟩, 1, 39⟩, ⟨5, ⟨#[59]⟩, 1, 49⟩]
def nToks (T : ByteArray) (c1 c2 : Int) : List Tok := nUs ++ [⟨2, ⟨#[102, 101, 101]⟩, 2, 1⟩, ⟨3, T, 2, 5⟩, ⟨5, ⟨#[59]⟩, 2, c1⟩, ⟨0, ⟨#[]⟩, 2, c2⟩]
def nPlan (v : Int) : Plan := ⟨⟨#[112]⟩, ⟨#[99]⟩, (2024, 1, 1), (2024, 1, 2), [], [⟨v, noWin, 2, 1⟩], [], 1, 1⟩
def nHead : Plan := ⟨⟨#[112]⟩, ⟨#[99]⟩, (2024, 1, 1), (2024, 1, 2), [], [], [], 1, 1⟩
def nS1 (T : ByteArray) (c1 c2 : Int) : St := ⟨[⟨2, ⟨#[102, 101, 101]⟩, 2, 1⟩, ⟨3, T, 2, 5⟩, ⟨5, ⟨#[59]⟩, 2, c1⟩, ⟨0, ⟨#[]⟩, 2, c2⟩], 0, 0, 0⟩
def nS2 (T : ByteArray) (c1 c2 : Int) : St := ⟨[⟨3, T, 2, 5⟩, ⟨5, ⟨#[59]⟩, 2, c1⟩, ⟨0, ⟨#[]⟩, 2, c2⟩], 0, 0, 0⟩
def nS3 (c1 c2 : Int) : St := ⟨[⟨5, ⟨#[59]⟩, 2, c1⟩, ⟨0, ⟨#[]⟩, 2, c2⟩], 0, 0, 0⟩
theorem nplan_items (T : ByteArray) (c1 c2 : Int) : P.plan dp npV (nToks T c1 c2) = P.items dp npV 3 (P.item dp npV nHead (nS1 T c1 c2)).1 (P.item dp npV nHead (nS1 T c1 c2)).2 := by
  have e : P.head dp ⟨nToks T c1 c2, 0, 0, 0⟩ = (nHead, nS1 T c1 c2) := by kernel_rfl
  unfold P.plan
  rw [e]
  show P.items dp npV 4 nHead (nS1 T c1 c2) = _
  rw [P.items]
  rw [if_pos ⟨rfl, (by decide : (2 : Int) ≠ 0)⟩]
theorem nitem (T : ByteArray) (c1 c2 : Int) (x : Fee × St) (h : P.fee dp npV 2 1 (nS2 T c1 c2) = x) : P.item dp npV nHead (nS1 T c1 c2) = ({ nHead with fees := [x.1] }, x.2) := by
  have ho : P.one [wMeter, wFee, wCharge] 0 (nS1 T c1 c2) = (1, nS2 T c1 c2) := by kernel_rfl
  rw [P_item_fee ho rfl]
  subst h
  rfl
theorem nnumber (T : ByteArray) (c1 c2 : Int) : P.number npV 0 1000000000000 (nS2 T c1 c2) = ((npV T 0 1000000000000).1, if (npV T 0 1000000000000).2 = 1 then fail 4 ⟨3, T, 2, 5⟩ (nS3 c1 c2) else if (npV T 0 1000000000000).2 = 2 then fail 6 ⟨3, T, 2, 5⟩ (nS3 c1 c2) else nS3 c1 c2) := by
  have hk : P.kind 3 (nS2 T c1 c2) = (T, nS3 c1 c2) := by kernel_rfl
  unfold P.number
  simp only [hk]
  rfl
theorem nplan_ok (T : ByteArray) (c1 c2 v : Int) (h : npV T 0 1000000000000 = (v, 0)) : (P.plan dp npV (nToks T c1 c2)).1 = nPlan v ∧ (P.plan dp npV (nToks T c1 c2)).2.err = 0 := by
  have hn := nnumber T c1 c2
  rw [h] at hn
  have hf : P.fee dp npV 2 1 (nS2 T c1 c2) = (⟨v, noWin, 2, 1⟩, ⟨[⟨0, ⟨#[]⟩, 2, c2⟩], 0, 0, 0⟩) := by
    unfold P.fee
    rw [hn]
    kernel_rfl
  rw [nplan_items, nitem _ _ _ _ hf]
  exact ⟨by kernel_rfl, by kernel_rfl⟩
theorem nplan_no (T : ByteArray) (c1 c2 v : Int) (h : npV T 0 1000000000000 = (v, 2)) : ((P.plan dp npV (nToks T c1 c2)).2.err, (P.plan dp npV (nToks T c1 c2)).2.line, (P.plan dp npV (nToks T c1 c2)).2.col) = (6, 2, 5) := by
  have hn := nnumber T c1 c2
  rw [h] at hn
  have hf : P.fee dp npV 2 1 (nS2 T c1 c2) = (⟨v, noWin, 2, 1⟩, fail 6 ⟨3, T, 2, 5⟩ (nS3 c1 c2)) := by
    unfold P.fee
    rw [hn]
    kernel_rfl
  rw [nplan_items, nitem _ _ _ _ hf]
  rfl
theorem runLen_semi (cs r : List UInt8) (h : cs.all isLet = true) : runLen (cs ++ 59 :: r) = cs.length := by
  have h32 : isLet 59 = false := by decide
  induction cs with
  | nil => simp [runLen, h32]
  | cons x cs ih =>
    simp only [List.all_cons, Bool.and_eq_true] at h
    have := ih h.2
    simp only [runLen, List.cons_append, List.takeWhile_cons, h.1, if_true, List.length_cons] at this ⊢
    omega
theorem lex_semi (l r : List UInt8) (line col : Int) (h : kindOf l ≠ 0) (h1 : l ≠ [] ∧ l.all isLet = true) : lexL (l ++ 59 :: r) line col = consR ⟨kindOf l, ⟨l.toArray⟩, line, col⟩ (consR ⟨5, ⟨#[59]⟩, line, col + l.length⟩ (lexL r line (col + l.length + 1))) := by
  obtain ⟨c, cs, rfl, h35, h10, h3, ht⟩ : ∃ c cs, l = c :: cs ∧ c ≠ 35 ∧ c ≠ 10 ∧ ¬ (c = 32 ∨ c = 9 ∨ c = 13) ∧ tokLen c (cs ++ 59 :: r) = cs.length := by
    cases l with
    | nil => exact absurd rfl h1.1
    | cons c cs =>
      have h2 := h1.2
      simp only [List.all_cons, Bool.and_eq_true] at h2
      have hc := h2.1
      refine ⟨c, cs, rfl, ?_, ?_, ?_, ?_⟩
      · rintro rfl; revert hc; decide
      · rintro rfl; revert hc; decide
      · rintro (rfl | rfl | rfl) <;> revert hc <;> decide
      · rw [tokLen, if_pos hc, runLen_semi cs r h2.2]
  rw [List.cons_append, lexL, if_neg h35, if_neg h10, if_neg h3, ht, List.take_left', List.drop_left', if_neg h]
  · have hk : kindOf [59] = 5 := by kernel_rfl
    rw [List.length_cons, lexL, if_neg (by decide), if_neg (by decide), if_neg (by decide), show tokLen 59 r = 0 from rfl, List.take_zero, List.drop_zero, if_neg (by rw [hk]; decide), hk]
    rw [show col + 1 + (cs.length : Int) = col + ((cs.length + 1 : Nat) : Int) from by omega, show col + ((cs.length + 1 : Nat) : Int) + 1 + ((0 : Nat) : Int) = col + ((cs.length + 1 : Nat) : Int) + 1 from by omega]
  · rfl
  · rfl
theorem n_pre : lexL nPre 1 1 = .ok (nUs ++ [⟨0, ⟨#[]⟩, 1, 50⟩]) := by
  rw [← lexF_eq 100 nPre 1 1 (by decide)]
  kernel_rfl
theorem n_lex (l : List UInt8) (hk : kindOf l = 3) (hl : l ≠ [] ∧ l.all isLet = true) (hn : l.length ≤ 1000) : lexAll (nPre ++ 10 :: ([102, 101, 101] ++ 32 :: (l ++ [59]))) = (nToks ⟨l.toArray⟩ (5 + l.length) (5 + l.length + 1), 0, 0, 0) := by
  have hj := lexL_join ([102, 101, 101] ++ 32 :: (l ++ [59])) _ nPre 1 1 (Nat.le_refl _)
  rw [n_pre] at hj
  obtain ⟨us, e, h1, h2⟩ := hj
  obtain ⟨h3, h4⟩ := List.append_inj' h1 rfl
  obtain rfl := h3
  obtain rfl : (⟨0, ⟨#[]⟩, 1, 50⟩ : Tok) = e := by injection h4
  have hf : kindOf [102, 101, 101] = 2 := by kernel_rfl
  rw [lex_tok [102, 101, 101] _ _ _ (by rw [hf]; decide), lex_semi l [] _ _ (by rw [hk]; decide) hl, lexL, hk, hf] at h2
  unfold lexAll
  rw [if_neg (by simp [nPre]; omega), h2]
  rfl
theorem parse_digits (n : Nat) (hn : n < 9223372036854775808) : Dec.parseL (Lib.decDigits n) 0 1000000000000 = if 1000000000000 < n then (0, 2) else ((n : Int), 0) := by
  have h : Dec.fracL n 0 = [] := rfl
  have ht : Dec.textN n 0 = Lib.decDigits n := by rw [Dec.textN, Dec.tailL, if_pos h, List.append_nil, Nat.pow_zero, Nat.div_one]
  have hf := Dec.frac_fill n 0
  have hform := Dec.form_textN n 0
  have hv := Dec.val_text n 0
  rw [ht, if_pos h] at hform
  rw [h] at hf
  unfold Dec.parseL Dec.parseW
  rw [hform, Dec.cut_whole (Dec.dec_all _), if_neg (by simp), if_neg (by simp)]
  simp only [hf]
  rw [Nat.pow_zero, Nat.div_one] at hv
  rw [show Int.toNat 0 = 0 from rfl, hf, hv]
  by_cases hm : 1000000000000 < n
  · rw [if_pos (.inr (by omega)), if_pos hm]
  · rw [if_neg (by omega), if_neg hm]
theorem dec_let (n : Nat) : (Lib.decDigits n).all isLet = true := by
  have h := Dec.dec_all n
  rw [List.all_eq_true] at h ⊢
  intro x hx
  have := h x hx
  simp only [Dec.isDig, isDig, decide_eq_true_eq, Bool.and_eq_true] at this
  simp only [isLet, decide_eq_true_eq]
  omega
theorem kind_digits (n : Nat) : kindOf (Lib.decDigits n) = 3 := by
  have hne := Dec.dec_ne n
  have hd := Dec.dec_all n
  have hlead := Dec.lead_dec n
  rw [kind_let (dec_let n) hne]
  generalize Lib.decDigits n = l at *
  have hw : isWord l = false := by
    cases h : isWord l with
    | false => rfl
    | true =>
      have hm : l ∈ wordsL := by simpa [isWord] using h
      have ha : ∀ w ∈ wordsL, w.all Dec.isDig = false := by decide
      rw [ha l hm] at hd
      cases hd
  have hd' : l.all isDig = true := hd
  have hf : digFirst l = true := by
    cases l with
    | nil => exact absurd rfl hne
    | cons c cs =>
      simp only [List.all_cons, Bool.and_eq_true] at hd'
      exact hd'.1
  have hb : digitsB l = true := by
    unfold digitsB
    rw [hd']
    cases l with
    | nil => exact absurd rfl hne
    | cons c cs => rfl
  have hn : numForm l = 1 := by
    have hl : ¬ (1 < l.length ∧ l.getD 0 0 = 48) := by
      rintro ⟨a1, a2⟩
      cases l with
      | nil => exact absurd rfl hne
      | cons c cs =>
        obtain rfl : c = 48 := a2
        unfold Dec.leadB at hlead
        rw [decide_eq_true a1] at hlead
        cases hlead
    unfold numForm
    rw [Dec.cut_whole hd]
    simp only
    rw [if_neg (by rw [hb]; exact fun h => h.elim (fun h => by cases h) hl), if_pos trivial]
  rw [hw, hf, hn]
  simp
/-- what Parse says of the plan with one fee of an amount -/
theorem n_parse (n : Nat) (hn : n < 9223372036854775808) : RParse (nPre ++ 10 :: ([102, 101, 101] ++ 32 :: (Lib.decDigits n ++ [59]))) = if 1000000000000 < n then (noPlan, 6, 2, 5) else (nPlan n, 0, 0, 0) := by
  have hlen : (Lib.decDigits n).length ≤ 19 := Dec.dec_len n 19 (by omega) (by decide)
  have hlex := n_lex (Lib.decDigits n) (kind_digits n) ⟨Dec.dec_ne n, dec_let n⟩ (by omega)
  have hp : npV ⟨(Lib.decDigits n).toArray⟩ 0 1000000000000 = if 1000000000000 < n then (0, 2) else ((n : Int), 0) := parse_digits n hn
  by_cases hm : 1000000000000 < n
  · rw [if_pos hm] at hp ⊢
    have h := nplan_no ⟨(Lib.decDigits n).toArray⟩ (5 + (Lib.decDigits n).length) (5 + (Lib.decDigits n).length + 1) 0 hp
    simp only [Prod.mk.injEq] at h
    rw [PParse_bad hlex (by rw [h.1]; decide), h.1, h.2.1, h.2.2]
  · rw [if_neg hm] at hp ⊢
    have h := nplan_ok ⟨(Lib.decDigits n).toArray⟩ (5 + (Lib.decDigits n).length) (5 + (Lib.decDigits n).length + 1) n hp
    rw [PParse_ok hlex h.2, h.1]
end Go.Proofs.YtcgkfgklggjmaaaDoor.Par
end
section
namespace Go.Proofs.YtcgkfgklggjmaaaDoor.Par
set_option linter.unusedVariables false
set_option linter.unusedSimpArgs false
/-! the items of a text behind those of another one -/
theorem lex_live : ∀ (n : Nat) (l : List UInt8) (line col : Int) (ts : List Tok), l.length ≤ n → lexL l line col = .ok ts → ∃ us e, ts = us ++ [e] ∧ e.kind = 0 ∧ ∀ x ∈ us, x.kind ≠ 0 := by
  intro n
  induction n with
  | zero =>
    intro l line col ts hn h
    obtain rfl : l = [] := List.eq_nil_of_length_eq_zero (by omega)
    rw [lexL] at h
    injection h with h
    subst h
    exact ⟨[], _, rfl, rfl, fun x hx => by cases hx⟩
  | succ n ih =>
    intro l line col ts hn h
    cases l with
    | nil =>
      rw [lexL] at h
      injection h with h
      subst h
      exact ⟨[], _, rfl, rfl, fun x hx => by cases hx⟩
    | cons c cs =>
      rw [lexL] at h
      rw [List.length_cons] at hn
      split at h
      · exact ih _ _ _ _ (by rw [List.length_drop]; omega) h
      · split at h
        · exact ih _ _ _ _ (by omega) h
        · split at h
          · exact ih _ _ _ _ (by omega) h
          · split at h
            · cases h
            · rename_i hk
              cases hr : lexL (cs.drop (tokLen c cs)) line (col + 1 + tokLen c cs) with
              | error e => rw [hr] at h; cases h
              | ok ts' =>
                rw [hr] at h
                injection h with h
                subst h
                obtain ⟨us, e, rfl, he, hx⟩ := ih _ _ _ _ (by rw [List.length_drop]; omega) hr
                refine ⟨_ :: us, e, rfl, he, fun x hm => ?_⟩
                rcases List.mem_cons.1 hm with rfl | hm
                · exact hk
                · exact hx x hm
theorem als_self : ∀ (l : List Tok), (∀ x ∈ l, x.kind ≠ 0) → Als l l
  | [], _ => trivial
  | x :: l, h => ⟨⟨rfl, rfl, h x (by simp)⟩, als_self l fun y hy => h y (by simp [hy])⟩
theorem als_down (a b : Int) : ∀ (l : List Tok), (∀ x ∈ l, x.kind ≠ 0) → Als (l.map (downT a)) (l.map (downT b))
  | [], _ => trivial
  | x :: l, h => ⟨⟨rfl, rfl, h x (by simp)⟩, als_down a b l fun y hy => h y (by simp [hy])⟩
theorem rowT_strip (p : Plan) : rowT (strip p) = rowT p := by
  unfold rowT headT strip
  simp only [List.length_map, List.flatMap_map]
  rfl
theorem strip_none {p q : Plan} (h : strip p = strip q) (hm : q.mets = []) (hf : q.fees = []) (hc : q.chgs = []) : p.mets = [] ∧ p.fees = [] ∧ p.chgs = [] := by
  have h1 := congrArg Plan.mets h
  have h2 := congrArg Plan.fees h
  have h3 := congrArg Plan.chgs h
  simp only [strip, hm, hf, hc, List.map_nil, List.map_eq_nil_iff] at h1 h2 h3
  exact ⟨h1, h2, h3⟩
theorem adds_none (b : Plan) {p : Plan} (h : p.mets = [] ∧ p.fees = [] ∧ p.chgs = []) : adds b p = b := by
  unfold adds; rw [h.1, h.2.1, h.2.2, List.append_nil, List.append_nil, List.append_nil]
theorem small_strip {p q : Plan} (h : strip p = strip q) (hs : Small p) : Small q := by
  have h1 := congrArg (fun x => x.mets.length) h
  have h2 := congrArg (fun x => x.fees.length) h
  have h3 := congrArg (fun x => x.chgs.length) h
  have h4 := congrArg Plan.chgs h
  simp only [strip, List.length_map] at h1 h2 h3
  refine ⟨h1 ▸ hs.mets, h2 ▸ hs.fees, h3 ▸ hs.chgs, fun c hc => ?_, fun c hc => ?_⟩
  · have hm : sC c ∈ (strip p).chgs := by rw [h4]; exact List.mem_map_of_mem hc
    obtain ⟨d, hd, he⟩ := List.mem_map.1 hm
    have := congrArg Chg.tiers he
    simp only [sC] at this
    exact this ▸ hs.tiers d hd
  · have hm : sC c ∈ (strip p).chgs := by rw [h4]; exact List.mem_map_of_mem hc
    obtain ⟨d, hd, he⟩ := List.mem_map.1 hm
    have := congrArg Chg.adjs he
    simp only [sC] at this
    exact this ▸ hs.adjs d hd
/-- a text that is parsed, and another one behind it: its plan, and the items of the tokens behind -/
theorem join_items {us vs : List Tok} {e : Tok} (he : e.kind = 0) (hu : ∀ x ∈ us, x.kind ≠ 0) (h0 : (P.plan dp npV (us ++ [e])).2.err = 0) :
    ∃ q r, r.err = 0 ∧ r.rest = vs ∧ strip q = strip (P.plan dp npV (us ++ [e])).1 ∧ P.plan dp npV (us ++ vs) = P.itemsAll dp npV q r := by
  have h := plan_cut dp npV (T := ⟨true, e, vs⟩) ⟨he, fun c => by cases c⟩ (als_self us hu)
  rcases h with h | h | ⟨_, _, q, r, h1, h2, h3, h4⟩
  · exact absurd h0 h.bad
  · exact absurd h0 h.1
  · exact ⟨q, r, h1, h2, h3, h4⟩
theorem n_plan : P.plan dp npV (nUs ++ [⟨0, ⟨#[]⟩, 1, 50⟩]) = (nHead, ⟨[⟨0, ⟨#[]⟩, 1, 50⟩], 0, 0, 0⟩) := by kernel_rfl
theorem n_live : ∀ x ∈ nUs, x.kind ≠ 0 := by decide
theorem items_join {us ws : List Tok} {e z : Tok} (d d' : Int) (he : e.kind = 0) (hz : z.kind = 0) (hu : ∀ x ∈ us, x.kind ≠ 0) (hw : ∀ x ∈ ws, x.kind ≠ 0) (h0 : (P.plan dp npV (us ++ [e])).2.err = 0) :
    (P.plan dp npV (nUs ++ (ws ++ [z]).map (downT d))).2.err = (P.plan dp npV (us ++ (ws ++ [z]).map (downT d'))).2.err ∧
    ((P.plan dp npV (nUs ++ (ws ++ [z]).map (downT d))).2.err = 0 → strip (P.plan dp npV (us ++ (ws ++ [z]).map (downT d'))).1 = strip (adds (P.plan dp npV (us ++ [e])).1 (P.plan dp npV (nUs ++ (ws ++ [z]).map (downT d))).1)) := by
  obtain ⟨q1, r1, a1, a2, a3, a4⟩ := join_items (vs := (ws ++ [z]).map (downT d)) (e := ⟨0, ⟨#[]⟩, 1, 50⟩) rfl n_live (by rw [n_plan])
  obtain ⟨q2, r2, b1, b2, b3, b4⟩ := join_items (vs := (ws ++ [z]).map (downT d')) he hu h0
  rw [n_plan] at a3
  rw [a4, b4]
  have hl : Loc ⟨false, downT d z, [downT d' z]⟩ r1 r2 := ⟨a1, b1, _, _, by rw [a2, List.map_append]; rfl, by rw [b2, List.map_append]; rfl, als_down d d' ws hw⟩
  refine items_alike dp npV ⟨hz, fun _ => ⟨downT d' z, rfl, hz⟩⟩ rfl _ _ _ _ _ _ (Nat.le_refl _) hl ?_
  rw [b3, adds_none _ (strip_none a3 rfl rfl rfl)]
/-- what is said of a text without a fault -/
theorem RParse_zero {l : List UInt8} (h : (RParse l).2.1 = 0) : (RParse l).2.2.1 = 0 ∧ (RParse l).2.2.2 = 0 ∧ ∃ ts a b, lexAll l = (ts, 0, a, b) ∧ (P.plan dp npV ts).2.err = 0 ∧ (RParse l).1 = (P.plan dp npV ts).1 := by
  obtain ⟨ts, er, a, b, hall⟩ : ∃ ts er a b, lexAll l = (ts, er, a, b) := ⟨_, _, _, _, rfl⟩
  by_cases her : er = 0
  · subst her
    by_cases h0 : (P.plan dp npV ts).2.err = 0
    · rw [PParse_ok hall h0]
      exact ⟨rfl, rfl, ts, a, b, hall, h0, rfl⟩
    · rw [PParse_bad hall h0] at h; exact absurd h h0
  · rw [RParse_lex hall her] at h; exact absurd h her
theorem join_text {l m : List UInt8} {us : List Tok} {e : Tok} (ha : lexL l 1 1 = .ok (us ++ [e])) (hl : (l ++ 10 :: m).length ≤ 8192) :
    (∃ ts, lexL m 1 1 = .ok ts ∧ lexAll (l ++ 10 :: m) = (us ++ ts.map (downT e.line), 0, 0, 0)) ∨ (∃ p q, lexL m 1 1 = .error (p, q) ∧ lexAll (l ++ 10 :: m) = ([], 3, p + e.line, q)) := by
  have hj := all_join_ok (b := m) ha hl
  cases hm : lexL m 1 1 with
  | ok ts =>
    refine .inl ⟨ts, rfl, ?_⟩
    rw [hm] at hj
    unfold lexAll
    rw [if_neg (by omega), hj]
    rfl
  | error x =>
    refine .inr ⟨x.1, x.2, rfl, ?_⟩
    rw [hm] at hj
    unfold lexAll
    rw [if_neg (by omega), hj]
    rfl
theorem items_plain (a more : List UInt8) (ha : a.length ≤ 4096) (hm : more.length ≤ 2048) (h0 : (RParse a).2.1 = 0) :
    ((RParse (nPre ++ 10 :: more)).2.1 = (RParse (a ++ 10 :: more)).2.1) ∧
    ((RParse (nPre ++ 10 :: more)).2.1 = 0 → strip (RParse (a ++ 10 :: more)).1 = strip (adds (RParse a).1 (RParse (nPre ++ 10 :: more)).1)) := by
  obtain ⟨_, _, ts, p, q, hall, he0, hpl⟩ := RParse_zero h0
  rcases all_cases a (by omega) with ⟨us, e, h1, h2⟩ | ⟨_, _, _, h2⟩
  · rw [h2] at hall
    injection hall with hall _
    subst hall
    obtain ⟨us', e', h3, hek, hul⟩ := lex_live _ a 1 1 _ (Nat.le_refl _) h1
    obtain ⟨h4, h5⟩ := List.append_inj' h3 rfl
    obtain rfl := h4
    injection h5 with h5
    obtain rfl := h5
    have hn : nPre.length = 49 := rfl
    have l1 : (nPre ++ 10 :: more).length ≤ 8192 := by rw [List.length_append, List.length_cons]; omega
    have l2 : (a ++ 10 :: more).length ≤ 8192 := by rw [List.length_append, List.length_cons]; omega
    rcases join_text (m := more) n_pre l1 with ⟨vs, j1, j2⟩ | ⟨x, y, j1, j2⟩
    · rcases join_text (m := more) h1 l2 with ⟨vs', k1, k2⟩ | ⟨x, y, k1, k2⟩
      · rw [j1] at k1
        injection k1 with k1
        subst k1
        obtain ⟨ws, z, rfl, hz, hw⟩ := lex_live _ more 1 1 _ (Nat.le_refl _) j1
        have hj := items_join 1 e.line hek hz hul hw he0
        have j3 : lexAll (nPre ++ 10 :: more) = (nUs ++ (ws ++ [z]).map (downT 1), 0, 0, 0) := j2
        rw [hpl]
        clear j2
        generalize nUs ++ (ws ++ [z]).map (downT 1) = A at *
        generalize us ++ (ws ++ [z]).map (downT e.line) = B at *
        obtain ⟨hj1, hj2⟩ := hj
        by_cases h6 : (P.plan dp npV A).2.err = 0
        · have h7 : (P.plan dp npV B).2.err = 0 := hj1.symm.trans h6
          rw [PParse_ok j3 h6, PParse_ok k2 h7]
          exact ⟨rfl, fun _ => hj2 h6⟩
        · have h7 : (P.plan dp npV B).2.err ≠ 0 := fun c => h6 (hj1.trans c)
          rw [PParse_bad j3 h6, PParse_bad k2 h7]
          exact ⟨hj1, fun c => absurd c h6⟩
      · rw [j1] at k1; cases k1
    · rcases join_text (m := more) h1 l2 with ⟨vs', k1, k2⟩ | ⟨x', y', k1, k2⟩
      · rw [j1] at k1; cases k1
      · rw [RParse_lex j2 (by decide), RParse_lex k2 (by decide)]
        exact ⟨rfl, fun c => absurd (show (3 : Int) = 0 from c) (by decide)⟩
  · rw [h2] at hall
    injection hall with _ hall
    injection hall with hall _
    cases hall
end Go.Proofs.YtcgkfgklggjmaaaDoor.Par
end
section
namespace Go.Proofs.YtcgkfgklggjmaaaDoor
set_option linter.unusedVariables false
set_option linter.unusedSimpArgs false
open Go.RowKit
theorem lexL_note (cs : List UInt8) (line col : Int) : lexL (35 :: cs) line col = lexL (cs.drop (noteLen cs)) line (col + 1 + noteLen cs) := by rw [lexL, if_pos rfl]
theorem lexL_nl (cs : List UInt8) (line col : Int) : lexL (10 :: cs) line col = lexL cs (line + 1) 1 := by rw [lexL, if_neg (by decide), if_pos rfl]
theorem lexL_bl (c : UInt8) (cs : List UInt8) (line col : Int) (h : c = 32 ∨ c = 9 ∨ c = 13) : lexL (c :: cs) line col = lexL cs line (col + 1) := by
  have h1 : c ≠ 35 := by rcases h with rfl | rfl | rfl <;> decide
  have h2 : c ≠ 10 := by rcases h with rfl | rfl | rfl <;> decide
  rw [lexL, if_neg h1, if_neg h2, if_pos h]
theorem lexL_tok (c : UInt8) (cs : List UInt8) (line col : Int) (h1 : c ≠ 35) (h2 : c ≠ 10) (h3 : ¬ (c = 32 ∨ c = 9 ∨ c = 13)) :
    lexL (c :: cs) line col = if kindOf (c :: cs.take (tokLen c cs)) = 0 then .error (line, col) else consR ⟨kindOf (c :: cs.take (tokLen c cs)), ⟨(c :: cs.take (tokLen c cs)).toArray⟩, line, col⟩ (lexL (cs.drop (tokLen c cs)) line (col + 1 + tokLen c cs)) := by
  rw [lexL, if_neg h1, if_neg h2, if_neg h3]
theorem noteLen_step (s : ByteArray) (k : Nat) (h : k < s.size) (hc : s[k] ≠ 10) : noteLen (s.data.toList.drop k) = 1 + noteLen (s.data.toList.drop (k + 1)) := by
  rw [drop_at s k h, noteLen, List.takeWhile_cons, if_pos (by simpa using hc)]; simp [noteLen]; omega
theorem noteLen_stop (s : ByteArray) (k : Nat) (h : k < s.size) (hc : s[k] = 10) : noteLen (s.data.toList.drop k) = 0 := by
  rw [drop_at s k h, noteLen, List.takeWhile_cons, if_neg (by simp [hc])]; rfl
def lexRR (v : Value) (er l c : Int) : Value := .tuple #[v, .int .i64 er, .int .i64 l, .int .i64 c]
theorem rtokInfo : (Tryd.prog.info? 61).map (fun i => (i.zero, i.size, i.bytes)) = some (some (.agg #[.int .i64 0, .string ⟨#[]⟩, .int .i64 0, .int .i64 0]), 4, 40) := by kernel_rfl
theorem results_tmp4 {fn : Func} {t u v x : Tmp} (h : fn.results = #[.tmp t, .tmp u, .tmp v, .tmp x]) (tmps : Array Value) (P : Program) (w : World) :
    (results fn tmps).run P w = .ok (.tuple #[tmps.getD t undef, tmps.getD u undef, tmps.getD v undef, tmps.getD x undef]) w := by simp [results, h]
set_option maxHeartbeats 4000000 in
set_option maxRecDepth 100000 in
theorem rlex_any (s : ByteArray) (w : World) (hs : s.size ≤ 9223372036854775807) :
    Calls Tryd.prog 21 #[.string s] w (LexOut 61 s w lexRR) := by
  have hlen : s.data.toList.length = s.size := by simp
  have HLEN := Lib.hid hlen
  clear hlen
  by_cases hbig : 8192 < s.size
  · have HA : Hid (lexAll s.data.toList = ([], 6, 1, 1)) := by
      show _ = _
      rw [lexAll, if_pos (by rw [HLEN.out]; exact hbig)]
    go_enter Tryd.func21, Tryd.ntmps21
    go_wp2
    refine bodyPost_ret (results_tmp4 rfl _ _ _) rfl ?_
    exact ⟨.slice none 0 0, [], 6, 1, 1, rfl, World.ownsRow_nil _ _ _ _, bl_refl _, HA.out⟩
  · obtain ⟨i0, hi0, hz0, hz1, hz2⟩ := info_parts rtokInfo
    go_enter Tryd.func21, Tryd.ntmps21
    go_wp2_with fail
    go_loopw [6, 7, 8, 9] (fun v6 v7 v8 v9 wr => ∃ (ts : List Tok) (a : Nat) (line col : Int), a ≤ s.size ∧ 0 ≤ line ∧ line ≤ a + 1 ∧ 0 ≤ col ∧ col ≤ a + 1 ∧ v7 = .int .i64 line ∧ v8 = .int .i64 col ∧ v9 = .int .i64 a ∧
      wr.ownsRow w.heap.size 61 4 v6 ts.length (toksCells ts) ∧ ts.length ≤ a ∧ Below w.heap.size w wr ∧ Hid (LexIn s.data.toList ts a line col)) (fun _ _ _ v9 _ => s.size - (intOf v9).toNat)
    case atStart => exact ⟨[], 0, 1, 1, by omega, by omega, by omega, by omega, by omega, rfl, rfl, rfl, World.ownsRow_nil _ _ _ _, Nat.le_refl _, bl_refl _, by simp [Hid, LexIn, preR_nil]⟩
    case round =>
      obtain ⟨ts, a, line, col, ha, l1, l2, c1, c2, rfl, rfl, rfl, hown, hts, hbw, HI⟩ := hrel
      have hlw := hbw.size
      by_cases hend : s.size ≤ a
      · obtain rfl : a = s.size := by omega
        have HR : Hid (lexAll s.data.toList = (ts ++ [⟨0, ⟨#[]⟩, line, col⟩], 0, 0, 0)) := by
          have h := HI.out
          unfold LexIn at h
          rw [drop_end, lexL] at h
          show _ = _
          rw [lexAll, if_neg (by rw [HLEN.out]; exact hbig), h]; rfl
        clear HI
        go_wp2_with (at_builtin; refine wpList_append_own _ rfl _ _ 57 rfl w.heap.size 61 i0 _ 4 40 Tryd.underlying57 hi0 hz0 hz1 hz2 rfl (by decide) _ _ _ rfl (hown.alloc _) ⟨wr.heap.size, 0, none⟩ 1 1 [.int .i64 0, .string ⟨#[]⟩, .int .i64 line, .int .i64 col] rfl rfl (World.news_of_block (cs := #[.int .i64 0, .string ⟨#[]⟩, .int .i64 line, .int .i64 col]) (t := 61) (fr := (0, 0)) (heap_alloc_new _ _)) (by simp [Value.oneCell']) (by unfold maxLen; omega) (by omega) (by simp; omega) ?_; intro v1 w1 hown1 hgrow1 hnil1)
        refine bodyPost_ret (results_tmp4 rfl _ _ _) rfl ?_
        refine ⟨v1, ts ++ [⟨0, ⟨#[]⟩, line, col⟩], 0, 0, 0, rfl, ?_, ?_, HR.out⟩
        · rw [toks_snoc, List.length_append]
          exact hown1
        · exact bl_grown (bl_alloc hbw _) hgrow1 (fun k hk => (hown.lt _ hk).1)
      · have hlt : a < s.size := by omega
        have hdr := drop_at s a hlt
        have HD := Lib.hid hdr
        have hcl := (s[a]'hlt).toNat_lt
        clear hdr
        by_cases h35 : s[a]'hlt = 35
        · have hb : (((s[a]'hlt).toNat : Int) == 35) = true := by rw [h35]; rfl
          have hb10 : (((s[a]'hlt).toNat : Int) == 10) = false := by rw [h35]; rfl
          have HST : ∀ k : Nat, k = a + 1 + noteLen (s.data.toList.drop (a + 1)) → LexIn s.data.toList ts k line (col + k - a) := fun k hk => by
            have h := HI.out
            unfold LexIn at h ⊢
            rw [HD.out, h35, lexL_note, List.drop_drop] at h
            rw [h, ← hk, show col + 1 + (noteLen (s.data.toList.drop (a + 1)) : Int) = col + k - a from by omega]
          have HSTH := Lib.hid HST
          clear HST h35 HI HD
          go_wp2_with fail
          obtain ⟨wo, rfl⟩ : ∃ wo : World, wo = wr := ⟨_, rfl⟩
          go_loop [11] (fun v => ∃ k : Nat, a + 1 ≤ k ∧ k ≤ s.size ∧ v = .int .i64 k ∧ Hid (k + noteLen (s.data.toList.drop k) = a + 1 + noteLen (s.data.toList.drop (a + 1)))) (fun v => s.size - (intOf v).toNat)
          case atStart => exact ⟨a + 1, by omega, by omega, by go_num, rfl⟩
          case round =>
            obtain ⟨k, hk1, hk2, rfl, HN⟩ := hrel
            by_cases hklt : k < s.size
            · have hckl := (s[k]'hklt).toNat_lt
              by_cases h10 : s[k]'hklt = 10
              · have hbk : (((s[k]'hklt).toNat : Int) != 10) = false := by rw [h10]; rfl
                have HF := Lib.hid (HSTH.out k (by rw [← HN.out, noteLen_stop s k hklt h10, Nat.add_zero]))
                clear h10
                go_wp2
                go_roundw
                case rel => exact ⟨ts, k, line, col + k - a, by omega, l1, by omega, by omega, by omega, rfl, rfl, rfl, hown, by omega, hbw, HF⟩
                case measure => simp [intOf]; omega
              · have hbk : (((s[k]'hklt).toNat : Int) != 10) = true := by simp [bne, u8_nb (d := 10) (n := 10) rfl h10]
                have HX : Hid (k + 1 + noteLen (s.data.toList.drop (k + 1)) = a + 1 + noteLen (s.data.toList.drop (a + 1))) := by
                  show _ = _
                  rw [← HN.out, noteLen_step s k hklt h10]; omega
                clear h10
                go_wp2
                go_round
                case rel => exact ⟨k + 1, by omega, by omega, by go_num, HX⟩
                case measure => simp [intOf]; omega
            · obtain rfl : k = s.size := by omega
              have HF := Lib.hid (HSTH.out s.size (by rw [← HN.out, drop_end]; rfl))
              go_wp2
              go_roundw
              case rel => exact ⟨ts, s.size, line, col + s.size - a, by omega, l1, by omega, by omega, by omega, rfl, rfl, rfl, hown, by omega, hbw, HF⟩
              case measure => simp [intOf]; omega
        · have hb : (((s[a]'hlt).toNat : Int) == 35) = false := u8_nb rfl h35
          by_cases h : s[a]'hlt = 32
          · have HF : Hid (LexIn s.data.toList ts (a + 1) line (col + 1)) := by
              have hh := HI.out
              show LexIn _ _ _ _ _
              unfold LexIn at hh ⊢
              rw [HD.out, h, lexL_bl _ _ _ _ (by decide)] at hh
              exact hh
            have g0 : (((s[a]'hlt).toNat : Int) != 32) = false := by rw [h]; rfl
            have gn : (((s[a]'hlt).toNat : Int) == 10) = false := by rw [h]; rfl
            clear h h35 HI HD
            go_wp2
            go_roundw
            case rel => exact ⟨ts, a + 1, line, col + 1, by omega, by omega, by omega, by omega, by omega, rfl, by go_num, by go_num, hown, by omega, hbw, HF⟩
            case measure => simp [intOf]; omega
          have n32 := h
          have g0 : (((s[a]'hlt).toNat : Int) != 32) = true := by simp [bne, u8_nb (d := 32) (n := 32) rfl h]
          clear h
          by_cases h : s[a]'hlt = 9
          · have HF : Hid (LexIn s.data.toList ts (a + 1) line (col + 1)) := by
              have hh := HI.out
              show LexIn _ _ _ _ _
              unfold LexIn at hh ⊢
              rw [HD.out, h, lexL_bl _ _ _ _ (by decide)] at hh
              exact hh
            have g0 : (((s[a]'hlt).toNat : Int) != 32) = true := by rw [h]; rfl
            have g1 : (((s[a]'hlt).toNat : Int) != 9) = false := by rw [h]; rfl
            have gn : (((s[a]'hlt).toNat : Int) == 10) = false := by rw [h]; rfl
            clear h h35 HI HD
            go_wp2
            go_roundw
            case rel => exact ⟨ts, a + 1, line, col + 1, by omega, by omega, by omega, by omega, by omega, rfl, by go_num, by go_num, hown, by omega, hbw, HF⟩
            case measure => simp [intOf]; omega
          have n9 := h
          have g1 : (((s[a]'hlt).toNat : Int) != 9) = true := by simp [bne, u8_nb (d := 9) (n := 9) rfl h]
          clear h
          by_cases h : s[a]'hlt = 10
          · have HF : Hid (LexIn s.data.toList ts (a + 1) (line + 1) 1) := by
              have hh := HI.out
              show LexIn _ _ _ _ _
              unfold LexIn at hh ⊢
              rw [HD.out, h, lexL_nl] at hh
              exact hh
            have g0 : (((s[a]'hlt).toNat : Int) != 32) = true := by rw [h]; rfl
            have g1 : (((s[a]'hlt).toNat : Int) != 9) = true := by rw [h]; rfl
            have g2 : (((s[a]'hlt).toNat : Int) != 10) = false := by rw [h]; rfl
            have gn : (((s[a]'hlt).toNat : Int) == 10) = true := by rw [h]; rfl
            clear h h35 HI HD
            go_wp2
            go_roundw
            case rel => exact ⟨ts, a + 1, line + 1, 1, by omega, by omega, by omega, by omega, by omega, rfl, rfl, by go_num, hown, by omega, hbw, HF⟩
            case measure => simp [intOf]; omega
          have n10 := h
          have g2 : (((s[a]'hlt).toNat : Int) != 10) = true := by simp [bne, u8_nb (d := 10) (n := 10) rfl h]
          clear h
          by_cases h : s[a]'hlt = 13
          · have HF : Hid (LexIn s.data.toList ts (a + 1) line (col + 1)) := by
              have hh := HI.out
              show LexIn _ _ _ _ _
              unfold LexIn at hh ⊢
              rw [HD.out, h, lexL_bl _ _ _ _ (by decide)] at hh
              exact hh
            have g0 : (((s[a]'hlt).toNat : Int) != 32) = true := by rw [h]; rfl
            have g1 : (((s[a]'hlt).toNat : Int) != 9) = true := by rw [h]; rfl
            have g2 : (((s[a]'hlt).toNat : Int) != 10) = true := by rw [h]; rfl
            have g3 : (((s[a]'hlt).toNat : Int) != 13) = false := by rw [h]; rfl
            have gn : (((s[a]'hlt).toNat : Int) == 10) = false := by rw [h]; rfl
            clear h h35 HI HD
            go_wp2
            go_roundw
            case rel => exact ⟨ts, a + 1, line, col + 1, by omega, by omega, by omega, by omega, by omega, rfl, by go_num, by go_num, hown, by omega, hbw, HF⟩
            case measure => simp [intOf]; omega
          have n13 := h
          have g3 : (((s[a]'hlt).toNat : Int) != 13) = true := by simp [bne, u8_nb (d := 13) (n := 13) rfl h]
          clear h
          have gn : (((s[a]'hlt).toNat : Int) == 10) = false := u8_nb rfl n10
          have n3 : ¬ (s[a]'hlt = 32 ∨ s[a]'hlt = 9 ∨ s[a]'hlt = 13) := fun h => by rcases h with h | h | h <;> simp_all
          have hst := lexL_tok (s[a]'hlt) (s.data.toList.drop (a + 1)) line col h35 n10 n3
          have hI := HI.out
          unfold LexIn at hI
          rw [HD.out, hst] at hI
          have HII := Lib.hid hI
          have htl := tokLen_le (s[a]'hlt) (s.data.toList.drop (a + 1))
          have hbnd : a + 1 + tokLen (s[a]'hlt) (s.data.toList.drop (a + 1)) ≤ s.size := by
            have := HLEN.out
            rw [List.length_drop] at htl; omega
          have hexl : (s.extract a (a + 1 + tokLen (s[a]'hlt) (s.data.toList.drop (a + 1)))).data.toList = s[a]'hlt :: (s.data.toList.drop (a + 1)).take (tokLen (s[a]'hlt) (s.data.toList.drop (a + 1))) := by
            rw [Lib.extract_data, HD.out, show a + 1 + tokLen (s[a]'hlt) (s.data.toList.drop (a + 1)) - a = tokLen (s[a]'hlt) (s.data.toList.drop (a + 1)) + 1 from by omega, List.take_succ_cons]
          have hex2 : (⟨(s[a]'hlt :: (s.data.toList.drop (a + 1)).take (tokLen (s[a]'hlt) (s.data.toList.drop (a + 1)))).toArray⟩ : ByteArray) = s.extract a (a + 1 + tokLen (s[a]'hlt) (s.data.toList.drop (a + 1))) := by rw [← hexl]
          rw [hex2] at HII
          have HEXL := Lib.hid hexl
          generalize htll : s[a]'hlt :: (s.data.toList.drop (a + 1)).take (tokLen (s[a]'hlt) (s.data.toList.drop (a + 1))) = tl at *
          have htk : ∀ l, tokLen (s[a]'hlt) l = if isLet (s[a]'hlt) then runLen l else 0 := fun l => rfl
          have HTK := Lib.hid htk
          generalize hn : tokLen (s[a]'hlt) (s.data.toList.drop (a + 1)) = n at *
          rw [List.drop_drop] at HII
          clear hst hI HI HD h35 n32 n9 n10 n13 n3 htl hexl hex2 htll htk
          have HNN := Lib.hid hn
          clear hn
          go_wp2_with fail
          obtain ⟨wo, rfl⟩ : ∃ wo : World, wo = wr := ⟨_, rfl⟩
          go_loop [11] (fun v => ∃ k : Nat, a + 1 ≤ k ∧ k ≤ s.size ∧ v = .int .i64 k ∧ Hid (k + tokLen (s[a]'hlt) (s.data.toList.drop k) = a + 1 + n)) (fun v => s.size - (intOf v).toNat)
          case atStart => exact ⟨a + 1, by omega, by omega, by go_num, by show _ = _; rw [HNN.out]⟩
          case round =>
            obtain ⟨k, hk1, hk2, rfl, HN⟩ := hrel
            cases hi : isLet (s[a]'hlt) with
            | false =>
              have HNK : Hid (k = a + 1 + n) := by
                have h := HN.out
                rw [HTK.out, hi] at h
                show _ = _
                simpa using h
              have hnk := HNK.out
              obtain rfl : n = k - (a + 1) := by omega
              have hex : a + 1 + (k - (a + 1)) = k := by omega
              rw [hex] at HII HEXL
              clear HN HNN hex HNK hnk
              have hszk : (s.extract a k).size ≤ 9223372036854775807 := Nat.le_trans (show (s.extract a k).size ≤ 8192 by rw [ByteArray.size_extract]; omega) (by decide)
              by_cases hkz : kindOf tl = 0
              · have HR : Hid (lexAll s.data.toList = ([], 3, line, col)) := by
                  have h := HII.out
                  rw [if_pos hkz] at h
                  show _ = _
                  rw [lexAll, if_neg (by rw [HLEN.out]; exact hbig), h]; rfl
                have HOF := Lib.hid (rOf5_any (s.extract a k))
                rw [HEXL.out, hkz] at HOF
                clear hkz HII HEXL
                go_wp2_with (first | (go_at_call 56; refine (rletter_any _ _).mono ?_; rintro e w' ⟨rfl, rfl⟩) | (go_at_call 57; refine (HOF.out _ hszk).mono ?_; rintro e w2 ⟨rfl, hb2⟩))
                refine bodyPost_ret (results_tmp4 rfl _ _ _) rfl ?_
                exact ⟨.slice none 0 0, [], 3, line, col, rfl, World.ownsRow_nil _ _ _ _, bl_call hbw hb2, HR.out⟩
              · have HS2 : Hid (LexIn s.data.toList (ts ++ [⟨kindOf tl, s.extract a k, line, col⟩]) k line (col + k - a)) := by
                  have h := HII.out
                  rw [if_neg hkz] at h
                  show LexIn _ _ _ _ _
                  unfold LexIn
                  rw [h, preR_snoc, show col + 1 + ((k - (a + 1) : Nat) : Int) = col + k - a from by omega]
                have hk0 : (kindOf tl == 0) = false := beq_eq_false_iff_ne.2 hkz
                have HOF := Lib.hid (rOf5_any (s.extract a k))
                rw [HEXL.out] at HOF
                clear hkz HII HEXL
                generalize hkk : kindOf tl = kd at *
                clear hkk
                go_wp2_with (first | (go_at_call 56; refine (rletter_any _ _).mono ?_; rintro e w' ⟨rfl, rfl⟩) | (go_at_call 57; refine (HOF.out _ hszk).mono ?_; rintro e w2 ⟨rfl, hb2⟩; (have hown2 := ownsRow_below hown hb2); (have hbw2 := bl_call hbw hb2); (have hlw2 := hbw2.size)) | (at_builtin; refine wpList_append_own _ rfl _ _ 57 rfl w.heap.size 61 i0 _ 4 40 Tryd.underlying57 hi0 hz0 hz1 hz2 rfl (by decide) _ _ _ rfl (hown2.alloc _) ⟨w2.heap.size, 0, none⟩ 1 1 [.int .i64 kd, .string (s.extract a k), .int .i64 line, .int .i64 col] rfl rfl (World.news_of_block (cs := #[.int .i64 kd, .string (s.extract a k), .int .i64 line, .int .i64 col]) (t := 61) (fr := (0, 0)) (heap_alloc_new _ _)) (by simp [Value.oneCell']) (by unfold maxLen; omega) (by omega) (by simp; omega) ?_; intro v1 w3 hown3 hgrow3 hnil3))
                go_roundw
                case rel =>
                  refine ⟨ts ++ [⟨kd, s.extract a k, line, col⟩], k, line, col + k - a, hk2, l1, by omega, by omega, by omega, rfl, rfl, rfl, ?_, by simp; omega, ?_, HS2⟩
                  · rw [toks_snoc, List.length_append]; exact hown3
                  · exact bl_grown (bl_alloc hbw2 _) hgrow3 (fun k hk => (hown2.lt _ hk).1)
                case measure => simp [intOf]; omega
            | true =>
              by_cases hklt : k < s.size
              · cases hik : isLet (s[k]'hklt) with
                | true =>
                  have HX : Hid (k + 1 + tokLen (s[a]'hlt) (s.data.toList.drop (k + 1)) = a + 1 + n) := by
                    have h := HN.out
                    rw [HTK.out, hi, if_pos rfl, runLen_step s k hklt hik] at h
                    show _ = _
                    rw [HTK.out, hi, if_pos rfl]; omega
                  go_wp2_with (go_at_call 56; refine (rletter_any _ _).mono ?_; rintro e w' ⟨rfl, rfl⟩)
                  go_round
                  case rel => exact ⟨k + 1, by omega, by omega, by go_num, HX⟩
                  case measure => simp [intOf]; omega
                | false =>
                  have HNK : Hid (k = a + 1 + n) := by
                    have h := HN.out
                    rw [HTK.out, hi, if_pos rfl, runLen_stop s k hklt hik] at h
                    exact h
                  have hnk := HNK.out
                  obtain rfl : n = k - (a + 1) := by omega
                  have hex : a + 1 + (k - (a + 1)) = k := by omega
                  rw [hex] at HII HEXL
                  clear HN HNN hex HNK hnk
                  have hszk : (s.extract a k).size ≤ 9223372036854775807 := Nat.le_trans (show (s.extract a k).size ≤ 8192 by rw [ByteArray.size_extract]; omega) (by decide)
                  by_cases hkz : kindOf tl = 0
                  · have HR : Hid (lexAll s.data.toList = ([], 3, line, col)) := by
                      have h := HII.out
                      rw [if_pos hkz] at h
                      show _ = _
                      rw [lexAll, if_neg (by rw [HLEN.out]; exact hbig), h]; rfl
                    have HOF := Lib.hid (rOf5_any (s.extract a k))
                    rw [HEXL.out, hkz] at HOF
                    clear hkz HII HEXL
                    go_wp2_with (first | (go_at_call 56; refine (rletter_any _ _).mono ?_; rintro e w' ⟨rfl, rfl⟩) | (go_at_call 57; refine (HOF.out _ hszk).mono ?_; rintro e w2 ⟨rfl, hb2⟩))
                    refine bodyPost_ret (results_tmp4 rfl _ _ _) rfl ?_
                    exact ⟨.slice none 0 0, [], 3, line, col, rfl, World.ownsRow_nil _ _ _ _, bl_call hbw hb2, HR.out⟩
                  · have HS2 : Hid (LexIn s.data.toList (ts ++ [⟨kindOf tl, s.extract a k, line, col⟩]) k line (col + k - a)) := by
                      have h := HII.out
                      rw [if_neg hkz] at h
                      show LexIn _ _ _ _ _
                      unfold LexIn
                      rw [h, preR_snoc, show col + 1 + ((k - (a + 1) : Nat) : Int) = col + k - a from by omega]
                    have hk0 : (kindOf tl == 0) = false := beq_eq_false_iff_ne.2 hkz
                    have HOF := Lib.hid (rOf5_any (s.extract a k))
                    rw [HEXL.out] at HOF
                    clear hkz HII HEXL
                    generalize hkk : kindOf tl = kd at *
                    clear hkk
                    go_wp2_with (first | (go_at_call 56; refine (rletter_any _ _).mono ?_; rintro e w' ⟨rfl, rfl⟩) | (go_at_call 57; refine (HOF.out _ hszk).mono ?_; rintro e w2 ⟨rfl, hb2⟩; (have hown2 := ownsRow_below hown hb2); (have hbw2 := bl_call hbw hb2); (have hlw2 := hbw2.size)) | (at_builtin; refine wpList_append_own _ rfl _ _ 57 rfl w.heap.size 61 i0 _ 4 40 Tryd.underlying57 hi0 hz0 hz1 hz2 rfl (by decide) _ _ _ rfl (hown2.alloc _) ⟨w2.heap.size, 0, none⟩ 1 1 [.int .i64 kd, .string (s.extract a k), .int .i64 line, .int .i64 col] rfl rfl (World.news_of_block (cs := #[.int .i64 kd, .string (s.extract a k), .int .i64 line, .int .i64 col]) (t := 61) (fr := (0, 0)) (heap_alloc_new _ _)) (by simp [Value.oneCell']) (by unfold maxLen; omega) (by omega) (by simp; omega) ?_; intro v1 w3 hown3 hgrow3 hnil3))
                    go_roundw
                    case rel =>
                      refine ⟨ts ++ [⟨kd, s.extract a k, line, col⟩], k, line, col + k - a, hk2, l1, by omega, by omega, by omega, rfl, rfl, rfl, ?_, by simp; omega, ?_, HS2⟩
                      · rw [toks_snoc, List.length_append]; exact hown3
                      · exact bl_grown (bl_alloc hbw2 _) hgrow3 (fun k hk => (hown2.lt _ hk).1)
                    case measure => simp [intOf]; omega
              · have HNK : Hid (k = a + 1 + n) := by
                  obtain rfl : k = s.size := by omega
                  have h := HN.out
                  rw [HTK.out, hi, if_pos rfl, drop_end] at h
                  exact h
                have hnk := HNK.out
                obtain rfl : n = k - (a + 1) := by omega
                have hex : a + 1 + (k - (a + 1)) = k := by omega
                rw [hex] at HII HEXL
                clear HN HNN hex HNK hnk
                have hszk : (s.extract a k).size ≤ 9223372036854775807 := Nat.le_trans (show (s.extract a k).size ≤ 8192 by rw [ByteArray.size_extract]; omega) (by decide)
                by_cases hkz : kindOf tl = 0
                · have HR : Hid (lexAll s.data.toList = ([], 3, line, col)) := by
                    have h := HII.out
                    rw [if_pos hkz] at h
                    show _ = _
                    rw [lexAll, if_neg (by rw [HLEN.out]; exact hbig), h]; rfl
                  have HOF := Lib.hid (rOf5_any (s.extract a k))
                  rw [HEXL.out, hkz] at HOF
                  clear hkz HII HEXL
                  go_wp2_with (first | (go_at_call 56; refine (rletter_any _ _).mono ?_; rintro e w' ⟨rfl, rfl⟩) | (go_at_call 57; refine (HOF.out _ hszk).mono ?_; rintro e w2 ⟨rfl, hb2⟩))
                  refine bodyPost_ret (results_tmp4 rfl _ _ _) rfl ?_
                  exact ⟨.slice none 0 0, [], 3, line, col, rfl, World.ownsRow_nil _ _ _ _, bl_call hbw hb2, HR.out⟩
                · have HS2 : Hid (LexIn s.data.toList (ts ++ [⟨kindOf tl, s.extract a k, line, col⟩]) k line (col + k - a)) := by
                    have h := HII.out
                    rw [if_neg hkz] at h
                    show LexIn _ _ _ _ _
                    unfold LexIn
                    rw [h, preR_snoc, show col + 1 + ((k - (a + 1) : Nat) : Int) = col + k - a from by omega]
                  have hk0 : (kindOf tl == 0) = false := beq_eq_false_iff_ne.2 hkz
                  have HOF := Lib.hid (rOf5_any (s.extract a k))
                  rw [HEXL.out] at HOF
                  clear hkz HII HEXL
                  generalize hkk : kindOf tl = kd at *
                  clear hkk
                  go_wp2_with (first | (go_at_call 56; refine (rletter_any _ _).mono ?_; rintro e w' ⟨rfl, rfl⟩) | (go_at_call 57; refine (HOF.out _ hszk).mono ?_; rintro e w2 ⟨rfl, hb2⟩; (have hown2 := ownsRow_below hown hb2); (have hbw2 := bl_call hbw hb2); (have hlw2 := hbw2.size)) | (at_builtin; refine wpList_append_own _ rfl _ _ 57 rfl w.heap.size 61 i0 _ 4 40 Tryd.underlying57 hi0 hz0 hz1 hz2 rfl (by decide) _ _ _ rfl (hown2.alloc _) ⟨w2.heap.size, 0, none⟩ 1 1 [.int .i64 kd, .string (s.extract a k), .int .i64 line, .int .i64 col] rfl rfl (World.news_of_block (cs := #[.int .i64 kd, .string (s.extract a k), .int .i64 line, .int .i64 col]) (t := 61) (fr := (0, 0)) (heap_alloc_new _ _)) (by simp [Value.oneCell']) (by unfold maxLen; omega) (by omega) (by simp; omega) ?_; intro v1 w3 hown3 hgrow3 hnil3))
                  go_roundw
                  case rel =>
                    refine ⟨ts ++ [⟨kd, s.extract a k, line, col⟩], k, line, col + k - a, hk2, l1, by omega, by omega, by omega, rfl, rfl, rfl, ?_, by simp; omega, ?_, HS2⟩
                    · rw [toks_snoc, List.length_append]; exact hown3
                    · exact bl_grown (bl_alloc hbw2 _) hgrow3 (fun k hk => (hown2.lt _ hk).1)
                  case measure => simp [intOf]; omega
end Go.Proofs.YtcgkfgklggjmaaaDoor
end
section
namespace Go.Proofs.YtcgkfgklggjmaaaDoor.Par
set_option linter.unusedVariables false
set_option linter.unusedSimpArgs false
/-! a plan's plain text, read: its tokens -/
/-- the tokens, whatever their places -/
def Tw (ls : List Tok) (ws : List (Int × List UInt8)) : Prop := ls.map (fun t => (t.kind, t.text.data.toList)) = ws
/-- a text that ends where a token ends: what stands behind it is read by itself -/
def Lx (l : List UInt8) (ws : List (Int × List UInt8)) : Prop := ∀ (r : List UInt8) (line col : Int), ∃ ls line' col', lexL (l ++ r) line col = preR ls (lexL r line' col') ∧ Tw ls ws
theorem preR_app (a b : List Tok) (r : Except (Int × Int) (List Tok)) : preR (a ++ b) r = preR a (preR b r) := by cases r <;> simp [preR]
theorem preR_one (t : Tok) (r : Except (Int × Int) (List Tok)) : preR [t] r = consR t r := by cases r <;> simp [preR, consR]
theorem Lx.nil : Lx [] [] := fun r line col => ⟨[], line, col, by rw [preR_nil]; rfl, rfl⟩
theorem Lx.app {a b : List UInt8} {u v : List (Int × List UInt8)} (h : Lx a u) (k : Lx b v) : Lx (a ++ b) (u ++ v) := by
  intro r line col
  obtain ⟨l1, n1, c1, e1, t1⟩ := h (b ++ r) line col
  obtain ⟨l2, n2, c2, e2, t2⟩ := k r n1 c1
  refine ⟨l1 ++ l2, n2, c2, by rw [List.append_assoc, e1, e2, preR_app], ?_⟩
  unfold Tw at t1 t2 ⊢
  rw [List.map_append, t1, t2]
/-- a word ahead of a blank -/
theorem Lx.word {w : List UInt8} (h : kindOf w ≠ 0) : Lx (w ++ [32]) [(kindOf w, w)] := by
  intro r line col
  refine ⟨[⟨kindOf w, ⟨w.toArray⟩, line, col⟩], line, col + w.length + 1, ?_, by simp [Tw]⟩
  rw [List.append_assoc, List.singleton_append, lex_tok w r line col h, preR_one]
/-- a word ahead of a semicolon -/
theorem Lx.semi {w : List UInt8} (h : kindOf w ≠ 0) (hl : w ≠ [] ∧ w.all isLet = true) : Lx (w ++ [59]) [(kindOf w, w), (5, [59])] := by
  intro r line col
  refine ⟨[⟨kindOf w, ⟨w.toArray⟩, line, col⟩, ⟨5, ⟨#[59]⟩, line, col + w.length⟩], line, col + w.length + 1, ?_, by simp [Tw]⟩
  rw [List.append_assoc, List.singleton_append, lex_semi w r line col h hl]
  cases lexL r line (col + w.length + 1) <;> simp [preR, consR]
theorem Lx.nl : Lx [10] [] := fun r line col => ⟨[], line + 1, 1, by rw [preR_nil, List.singleton_append, lexL_nl], rfl⟩
theorem Lx.tab : Lx [9] [] := fun r line col => ⟨[], line, col + 1, by rw [preR_nil, List.singleton_append, lexL_bl 9 r line col (by decide)], rfl⟩
theorem Lx.sp : Lx [32] [] := fun r line col => ⟨[], line, col + 1, by rw [preR_nil, List.singleton_append, lexL_bl 32 r line col (by decide)], rfl⟩
theorem Lx.sign (c : UInt8) (hc : c = 123 ∨ c = 125 ∨ c = 59) : Lx [c] [(5, [c])] := by
  intro r line col
  have hk : kindOf [c] = 5 := by rcases hc with rfl | rfl | rfl <;> decide +kernel
  have ht : tokLen c r = 0 := by
    have : isLet c = false := by rcases hc with rfl | rfl | rfl <;> decide
    unfold tokLen; rw [this]; rfl
  refine ⟨[⟨5, ⟨#[c]⟩, line, col⟩], line, col + 1, ?_, by simp [Tw]⟩
  rw [List.singleton_append, lexL_tok c r line col (by rcases hc with rfl | rfl | rfl <;> decide) (by rcases hc with rfl | rfl | rfl <;> decide) (by rcases hc with rfl | rfl | rfl <;> decide), ht, List.take_zero, List.drop_zero, hk, if_neg (by decide), preR_one]
  rw [show col + 1 + ((0 : Nat) : Int) = col + 1 from by omega]
theorem Lx.flat {α : Type} (f : α → List UInt8) (g : α → List (Int × List UInt8)) : ∀ (l : List α), (∀ x ∈ l, Lx (f x) (g x)) → Lx (l.flatMap f) (l.flatMap g)
  | [], _ => Lx.nil
  | x :: l, h => by
    rw [List.flatMap_cons, List.flatMap_cons]
    exact (h x (by simp)).app (Lx.flat f g l fun y hy => h y (by simp [hy]))
/-- the whole text's tokens -/
theorem Lx.all {l : List UInt8} {ws : List (Int × List UInt8)} (h : Lx l ws) (hl : l.length ≤ 8192) : ∃ ls n c, lexAll l = (ls ++ [⟨0, ⟨#[]⟩, n, c⟩], 0, 0, 0) ∧ Tw ls ws := by
  obtain ⟨ls, n, c, e, t⟩ := h [] 1 1
  rw [List.append_nil] at e
  refine ⟨ls, n, c, ?_, t⟩
  unfold lexAll
  rw [if_neg (by omega), e]
  have : lexL [] n c = .ok [⟨0, ⟨#[]⟩, n, c⟩] := by rw [lexL]
  rw [this]; rfl
end Go.Proofs.YtcgkfgklggjmaaaDoor.Par
end
section
namespace Go.Proofs.YtcgkfgklggjmaaaDoor.Par
set_option linter.unusedVariables false
set_option linter.unusedSimpArgs false
/-! numbers' texts are read back -/
theorem parse_most {l : List UInt8} {pl M m v : Int} (h : Dec.parseL l pl M = (v, 0)) (hv : v ≤ m) : Dec.parseL l pl m = (v, 0) := by
  unfold Dec.parseL Dec.parseW at h ⊢
  split at h
  · cases h
  · rename_i h1
    rw [if_neg h1]
    split at h
    · cases h
    · rename_i h2
      rw [if_neg h2]
      split at h
      · cases h
      · rename_i h3
        injection h with h4 _
        rw [if_neg (by rintro (c | c); exact h3 (.inl c); omega), h4]
theorem npV_dig {n m : Int} (h0 : 0 ≤ n) (h : n ≤ m) (h1 : n < 9223372036854775808) : npV ⟨(digT n).toArray⟩ 0 m = (n, 0) := by
  obtain ⟨N, rfl⟩ : ∃ N : Nat, n = N := ⟨n.toNat, by omega⟩
  have hb := Dec.parse_back N 0 (by omega) (by decide)
  have he : Dec.textN N 0 = Lib.decDigits N := by
    have hf : Dec.fracL N 0 = [] := rfl
    rw [Dec.textN, Dec.tailL, if_pos hf, List.append_nil, Nat.pow_zero, Nat.div_one]
  rw [he] at hb
  exact parse_most hb h
theorem npV_dec {n m : Int} (k : Nat) (hk : k ≤ 9) (h0 : 0 ≤ n) (h : n ≤ m) (h1 : n < 9223372036854775808) : npV ⟨(Dec.textL n k).toArray⟩ k m = (n, 0) := by
  obtain ⟨N, rfl⟩ : ∃ N : Nat, n = N := ⟨n.toNat, by omega⟩
  have hb := Dec.parse_back N k (by omega) hk
  have he := Dec.text_good N k hk
  unfold npV
  rw [he]
  exact parse_most hb h
theorem word_dig {l : List UInt8} (h : digFirst l = true) : isWord l = false := by
  cases hw : isWord l with
  | false => rfl
  | true =>
    have hm : l ∈ wordsL := by simpa [isWord] using hw
    have ha : ∀ w ∈ wordsL, digFirst w = false := by decide
    rw [ha l hm] at h
    cases h
theorem dig_let {l : List UInt8} (h : l.all Dec.isDig = true) : l.all isLet = true := by
  rw [List.all_eq_true] at h ⊢
  intro x hx
  have := h x hx
  simp only [Dec.isDig, isDig, decide_eq_true_eq, Bool.and_eq_true] at this
  simp only [isLet, decide_eq_true_eq]
  omega
theorem dec_word (N k : Nat) (hk : k ≤ 9) : kindOf (Dec.textN N k) = 3 ∧ Dec.textN N k ≠ [] ∧ (Dec.textN N k).all isLet = true := by
  unfold Dec.textN Dec.tailL
  by_cases hf : Dec.fracL N k = []
  · rw [if_pos hf, List.append_nil]
    exact ⟨kind_digits _, Dec.dec_ne _, dec_let _⟩
  · rw [if_neg hf]
    have hd := Dec.dec_all (N / 10 ^ k)
    have hne := Dec.dec_ne (N / 10 ^ k)
    have hfa := Dec.frac_all N k
    have hlead := Dec.lead_dec (N / 10 ^ k)
    generalize Lib.decDigits (N / 10 ^ k) = a at *
    generalize Dec.fracL N k = f at *
    have hl : (a ++ 46 :: f).all isLet = true := by
      rw [List.all_append, dig_let hd, List.all_cons, dig_let hfa]; decide
    have hne2 : a ++ 46 :: f ≠ [] := by simp
    have hdf : digFirst (a ++ 46 :: f) = true := by
      cases a with
      | nil => exact absurd rfl hne
      | cons c cs =>
        have hd' : (c :: cs).all isDig = true := hd
        simp only [List.all_cons, Bool.and_eq_true] at hd'
        exact hd'.1
    have hnum : numForm (a ++ 46 :: f) = 2 := by
      have hb1 : digitsB a = true := by
        unfold digitsB; rw [show a.all isDig = true from hd]
        cases a with
        | nil => exact absurd rfl hne
        | cons c cs => rfl
      have hb2 : digitsB f = true := by
        unfold digitsB; rw [show f.all isDig = true from hfa]
        cases f with
        | nil => exact absurd rfl hf
        | cons c cs => rfl
      have hz : ¬ (1 < a.length ∧ a.getD 0 0 = 48) := by
        rintro ⟨a1, a2⟩
        cases a with
        | nil => exact absurd rfl hne
        | cons c cs =>
          obtain rfl : c = 48 := a2
          unfold Dec.leadB at hlead
          rw [decide_eq_true a1] at hlead
          cases hlead
      unfold numForm
      rw [Dec.cut_point hd]
      simp only
      rw [if_neg (by rw [hb1]; exact fun h => h.elim (fun h => by cases h) hz), if_neg (by decide), if_pos hb2]
    refine ⟨?_, hne2, hl⟩
    rw [kind_let hl hne2, word_dig hdf, hdf, hnum]
    simp
end Go.Proofs.YtcgkfgklggjmaaaDoor.Par
end
section
namespace Go.Proofs.YtcgkfgklggjmaaaDoor
set_option linter.unusedVariables false
set_option linter.unusedSimpArgs false
/-! every number is a day's -/
theorem year_ex (n : Int) (h0 : 0 ≤ n) : ∀ (k : Nat), n < dby (1 + k) → ∃ y : Int, 1 ≤ y ∧ y ≤ k ∧ dby y ≤ n ∧ n < dby (y + 1)
  | 0, h => by
    have : dby (1 + ((0 : Nat) : Int)) = 0 := by decide
    omega
  | k + 1, h => by
    by_cases hk : n < dby (1 + k)
    · obtain ⟨y, h1, h2, h3, h4⟩ := year_ex n h0 k hk
      exact ⟨y, h1, by omega, h3, h4⟩
    · refine ⟨1 + k, by omega, by omega, by omega, ?_⟩
      rwa [show (1 : Int) + k + 1 = 1 + ((k + 1 : Nat) : Int) from by omega]
theorem month_ex (y r : Int) (h0 : 0 ≤ r) : ∀ (k : Nat), k ≤ 12 → r < cum y (1 + k) → ∃ m : Int, 1 ≤ m ∧ m ≤ k ∧ cum y m ≤ r ∧ r < cum y (m + 1)
  | 0, _, h => by
    rw [show (1 : Int) + ((0 : Nat) : Int) = 1 from by omega, cum_one] at h
    omega
  | k + 1, hk12, h => by
    by_cases hk : r < cum y (1 + k)
    · obtain ⟨m, h1, h2, h3, h4⟩ := month_ex y r h0 k (by omega) hk
      exact ⟨m, h1, by omega, h3, h4⟩
    · refine ⟨1 + k, by omega, by omega, by omega, ?_⟩
      rwa [show (1 : Int) + k + 1 = 1 + ((k + 1 : Nat) : Int) from by omega]
theorem of_ex (n : Int) (h0 : 0 ≤ n) (h1 : n < 3652059) : ∃ y m d : Int, goodB y m d = true ∧ numD y m d = n := by
  obtain ⟨y, y1, y2, y3, y4⟩ := year_ex n h0 9999 (by rw [show (1 : Int) + ((9999 : Nat) : Int) = 10000 from rfl, dby_end]; exact h1)
  have hs := dby_succ y
  have hl := lp_01 y
  have he := cum_end y
  obtain ⟨m, m1, m2, m3, m4⟩ := month_ex y (n - dby y) (by omega) 12 (by omega) (by rw [show (1 : Int) + ((12 : Nat) : Int) = 13 from rfl]; omega)
  have hc := cum_succ y m m1 (by omega)
  refine ⟨y, m, n - dby y - cum y m + 1, good_mk y1 (by omega) (by omega) (by omega), ?_⟩
  unfold numD; omega
end Go.Proofs.YtcgkfgklggjmaaaDoor
end
section
namespace Go.Proofs.YtcgkfgklggjmaaaDoor
set_option linter.unusedVariables false
set_option linter.unusedSimpArgs false
/-! texts and days: one by one -/
theorem dig_back (c : UInt8) (h : isDig c = true) : UInt8.ofNat (48 + (digI c).toNat) = c := by
  have h := of_decide_eq_true h
  have e : 48 + (digI c).toNat = c.toNat := by unfold digI; omega
  rw [e, UInt8.ofNat_toNat]
theorem digL_numL : ∀ (n : Nat) (l : List UInt8), l.length = n → l.all isDig = true → digL (numL l).toNat n = l
  | 0, l, h, _ => by
    obtain rfl := List.length_eq_zero_iff.1 h
    rfl
  | n + 1, l, h, hd => by
    have hne : l ≠ [] := by rintro rfl; simp at h
    obtain ⟨l', c, rfl⟩ : ∃ l' c, l = l' ++ [c] := ⟨l.dropLast, l.getLast hne, (List.dropLast_concat_getLast hne).symm⟩
    rw [List.all_append, Bool.and_eq_true] at hd
    obtain ⟨hd1, hd2⟩ := hd
    have hdc : isDig c = true := by simpa using hd2
    have hl : l'.length = n := by simpa using h
    have hb := digI_bd hdc
    have hn := numL_bd l' hd1
    have ih := digL_numL n l' hl hd1
    have e1 : (10 * numL l' + digI c).toNat / 10 = (numL l').toNat := by omega
    have e2 : (10 * numL l' + digI c).toNat % 10 = (digI c).toNat := by omega
    rw [numL_snoc, digL, e1, e2, ih, dig_back c hdc]
theorem isDig_of (k : Nat) : isDig (UInt8.ofNat (48 + k % 10)) = true := by
  unfold isDig
  rw [UInt8.toNat_ofNat_of_lt' (show 48 + k % 10 < 256 by omega)]
  exact decide_eq_true (by omega)
theorem digI_of (k : Nat) : digI (UInt8.ofNat (48 + k % 10)) = ((k % 10 : Nat) : Int) := by
  unfold digI
  rw [UInt8.toNat_ofNat_of_lt' (show 48 + k % 10 < 256 by omega)]
  omega
theorem digL_dig : ∀ (k n : Nat), (digL n k).all isDig = true
  | 0, _ => rfl
  | k + 1, n => by
    rw [digL, List.all_append, digL_dig k (n / 10), Bool.true_and, List.all_cons, List.all_nil, Bool.and_true]
    exact isDig_of n
theorem numL_digL : ∀ (k n : Nat), n < 10 ^ k → numL (digL n k) = n
  | 0, n, h => by
    obtain rfl : n = 0 := by simpa using h
    rfl
  | k + 1, n, h => by
    rw [digL, numL_snoc, numL_digL k (n / 10) (by rw [Nat.pow_succ] at h; omega), digI_of]
    omega
/-- a text that is a day's is what that day's text is -/
theorem parse_text {l : List UInt8} (h : parseOk l = true) : l.length = 10 ∧ goodB (parseY l) (parseM l) (parseD l) = true ∧ dayL (parseY l) (parseM l) (parseD l) = l := by
  unfold parseOk at h
  rw [Bool.and_eq_true] at h
  obtain ⟨hs, hg⟩ := h
  unfold dateShape at hs
  simp only [Bool.and_eq_true, beq_iff_eq] at hs
  obtain ⟨⟨⟨⟨⟨hl, h4⟩, h7⟩, hy⟩, hm⟩, hd⟩ := hs
  refine ⟨hl, hg, ?_⟩
  unfold dayL parseY parseM parseD
  rw [digL_numL 4 _ (by simp; omega) hy, digL_numL 2 _ (by simp; omega) hm, digL_numL 2 _ (by simp; omega) hd]
  match l, hl with
  | [a0, a1, a2, a3, a4, a5, a6, a7, a8, a9], _ =>
    simp at h4 h7
    subst h4 h7
    rfl
/-- a day's text is that day's -/
theorem text_parse {y m d : Int} (h : goodB y m d = true) : parseOk (dayL y m d) = true ∧ parseY (dayL y m d) = y ∧ parseM (dayL y m d) = m ∧ parseD (dayL y m d) = d := by
  obtain ⟨h1, h2, h3, h4, h5, h6, h7⟩ := good_of h
  have t4 : (dayL y m d).take 4 = digL y.toNat 4 := List.take_left' (digL_len 4 _)
  have d4 : (dayL y m d).drop 4 = 45 :: (digL m.toNat 2 ++ 45 :: digL d.toNat 2) := List.drop_left' (digL_len 4 _)
  have d5 : (dayL y m d).drop 5 = digL m.toNat 2 ++ 45 :: digL d.toNat 2 := by
    rw [show 5 = 4 + 1 from rfl, ← List.drop_drop, d4]; rfl
  have t2 : ((dayL y m d).drop 5).take 2 = digL m.toNat 2 := by rw [d5]; exact List.take_left' (digL_len 2 _)
  have d7 : (dayL y m d).drop 7 = 45 :: digL d.toNat 2 := by
    rw [show 7 = 5 + 2 from rfl, ← List.drop_drop, d5]; exact List.drop_left' (digL_len 2 _)
  have d8 : (dayL y m d).drop 8 = digL d.toNat 2 := by
    rw [show 8 = 7 + 1 from rfl, ← List.drop_drop, d7]; rfl
  have g4 : (dayL y m d).getD 4 0 = 45 := by
    have : (dayL y m d)[4]? = some 45 := by rw [← List.head?_drop, d4]; rfl
    simp [List.getD, this]
  have g7 : (dayL y m d).getD 7 0 = 45 := by
    have : (dayL y m d)[7]? = some 45 := by rw [← List.head?_drop, d7]; rfl
    simp [List.getD, this]
  have ey : parseY (dayL y m d) = y := by unfold parseY; rw [t4, numL_digL 4 _ (by show y.toNat < 10000; omega)]; omega
  have em : parseM (dayL y m d) = m := by unfold parseM; rw [t2, numL_digL 2 _ (by show m.toNat < 100; omega)]; omega
  have ed : parseD (dayL y m d) = d := by unfold parseD; rw [d8, numL_digL 2 _ (by show d.toNat < 100; omega)]; omega
  refine ⟨?_, ey, em, ed⟩
  unfold parseOk
  rw [ey, em, ed, h, Bool.and_true]
  unfold dateShape
  rw [dayL_len, g4, g7, t4, t2, d8, digL_dig, digL_dig, digL_dig]
  rfl
end Go.Proofs.YtcgkfgklggjmaaaDoor
end
section
namespace Go.Proofs.YtcgkfgklggjmaaaDoor.Par
set_option linter.unusedVariables false
set_option linter.unusedSimpArgs false
theorem k_plan : kindOf [112, 108, 97, 110] = 2 := by kernel_rfl
theorem k_currency : kindOf [99, 117, 114, 114, 101, 110, 99, 121] = 2 := by kernel_rfl
theorem k_horizon : kindOf [104, 111, 114, 105, 122, 111, 110] = 2 := by kernel_rfl
theorem k_meter : kindOf [109, 101, 116, 101, 114] = 2 := by kernel_rfl
theorem k_unit : kindOf [117, 110, 105, 116] = 2 := by kernel_rfl
theorem k_max : kindOf [109, 97, 120] = 2 := by kernel_rfl
theorem k_fee : kindOf [102, 101, 101] = 2 := by kernel_rfl
theorem k_charge : kindOf [99, 104, 97, 114, 103, 101] = 2 := by kernel_rfl
theorem k_from : kindOf [102, 114, 111, 109] = 2 := by kernel_rfl
theorem k_to : kindOf [116, 111] = 2 := by kernel_rfl
theorem k_allowance : kindOf [97, 108, 108, 111, 119, 97, 110, 99, 101] = 2 := by kernel_rfl
theorem k_block : kindOf [98, 108, 111, 99, 107] = 2 := by kernel_rfl
theorem k_volume : kindOf [118, 111, 108, 117, 109, 101] = 2 := by kernel_rfl
theorem k_graduated : kindOf [103, 114, 97, 100, 117, 97, 116, 101, 100] = 2 := by kernel_rfl
theorem k_rest : kindOf [114, 101, 115, 116] = 2 := by kernel_rfl
theorem k_rate : kindOf [114, 97, 116, 101] = 2 := by kernel_rfl
theorem k_upto : kindOf [117, 112, 116, 111] = 2 := by kernel_rfl
theorem k_round : kindOf [114, 111, 117, 110, 100] = 2 := by kernel_rfl
theorem k_percent : kindOf [112, 101, 114, 99, 101, 110, 116] = 2 := by kernel_rfl
theorem k_cap : kindOf [99, 97, 112] = 2 := by kernel_rfl
theorem k_minimum : kindOf [109, 105, 110, 105, 109, 117, 109] = 2 := by kernel_rfl
theorem k_add : kindOf [97, 100, 100] = 2 := by kernel_rfl
theorem k_floor : kindOf [102, 108, 111, 111, 114] = 2 := by kernel_rfl
theorem k_ceil : kindOf [99, 101, 105, 108] = 2 := by kernel_rfl
theorem k_halfup : kindOf [104, 97, 108, 102, 117, 112] = 2 := by kernel_rfl
theorem k_halfeven : kindOf [104, 97, 108, 102, 101, 118, 101, 110] = 2 := by kernel_rfl
/-- a day's text is read back -/
theorem day_read {t : List UInt8} (h : kindOf t = 4) : dayT (dp ⟨t.toArray⟩) = t := by
  have hp : parseOk t = true := by
    unfold kindOf at h
    split at h
    · cases h
    split at h
    · cases h
    split at h
    · cases h
    split at h
    · cases h
    split at h
    · cases h
    split at h
    · assumption
    · cases h
  have hp' : parseOk (⟨t.toArray⟩ : ByteArray).data.toList = true := hp
  obtain ⟨e1, e2, e3, _⟩ := p_yes hp'
  obtain ⟨_, hg, hl⟩ := parse_text hp
  unfold dayT dp textL
  simp only [e1, e2, e3]
  rw [if_pos hg]
  exact hl
theorem let_of {t : List UInt8} (h : kindOf t ≠ 0) (h5 : kindOf t ≠ 5) : t ≠ [] ∧ t.all isLet = true := by
  rcases kind_shape h with h1 | h1
  · exfalso; apply h5; rcases h1 with rfl | rfl | rfl <;> kernel_rfl
  · exact h1
/-- a day that is read -/
def DOk (d : Day) : Prop := kindOf (dayT d) = 4 ∧ dp ⟨(dayT d).toArray⟩ = d
theorem dok_of {t : ByteArray} (h : kindOf t.data.toList = 4) : DOk (dp t) := by
  have e : (⟨t.data.toList.toArray⟩ : ByteArray) = t := by simp
  have hb := day_read h
  rw [e] at hb
  unfold DOk
  rw [hb, e]
  exact ⟨h, rfl⟩
def NOk (b : ByteArray) : Prop := kindOf b.data.toList = 1
def WOk (w : Win) : Prop := (w.has = true ∧ DOk w.from_ ∧ DOk w.to_) ∨ w = noWin
def TOk (t : Tier) : Prop := (0 ≤ t.upto ∧ t.upto ≤ 1000000) ∧ (0 ≤ t.rate ∧ t.rate ≤ 1000000000000)
def AOk (a : Adj) : Prop := (a.kind = 1 ∧ (0 ≤ a.n ∧ a.n ≤ 100000000) ∧ 0 ≤ a.mode ∧ a.mode ≤ 3) ∨ ((a.kind = 2 ∨ a.kind = 3 ∨ a.kind = 4) ∧ (0 ≤ a.n ∧ a.n ≤ 1000000000000) ∧ a.mode = 0)
structure COk (c : Chg) : Prop where
  meter : NOk c.meter
  win : WOk c.win
  allow : 0 ≤ c.allow ∧ c.allow ≤ 1000000
  block : 0 ≤ c.block ∧ c.block ≤ 1000000
  kind : c.kind = 1 ∨ c.kind = 2
  tiers : ∃ l r, c.tiers = l ++ [⟨0, r⟩] ∧ (∀ t ∈ l, TOk t) ∧ 0 ≤ r ∧ r ≤ 1000000000000
  mode : 0 ≤ c.mode ∧ c.mode ≤ 3
  adjs : ∀ a ∈ c.adjs, AOk a
/-- what a plan is that is read without a fault -/
structure POk (p : Plan) : Prop where
  name : NOk p.name
  cur : NOk p.cur
  from_ : DOk p.from_
  to_ : DOk p.to_
  mets : ∀ m ∈ p.mets, NOk m.name ∧ NOk m.unit ∧ 0 ≤ m.max ∧ m.max ≤ 2000
  fees : ∀ f ∈ p.fees, (0 ≤ f.amount ∧ f.amount ≤ 1000000000000) ∧ WOk f.win
  chgs : ∀ c ∈ p.chgs, COk c
/-! the tokens -/
abbrev Wd := Int × List UInt8
def tkW (w : Win) : List Wd := if w.has = true then [(2, [102, 114, 111, 109]), (4, dayT w.from_), (2, [116, 111]), (4, dayT w.to_)] else []
def tkM (m : Met) : List Wd := [(2, [109, 101, 116, 101, 114]), (1, m.name.data.toList), (2, [117, 110, 105, 116]), (1, m.unit.data.toList), (2, [109, 97, 120]), (3, digT m.max), (5, [59])]
def tkF (f : Fee) : List Wd := [(2, [102, 101, 101]), (3, digT f.amount)] ++ tkW f.win ++ [(5, [59])]
def tkT (t : Tier) : List Wd := [(2, [117, 112, 116, 111]), (3, digT t.upto), (2, [114, 97, 116, 101]), (3, Dec.textL t.rate 6), (5, [59])]
def tkZ (r : Int) : List Wd := [(2, [114, 101, 115, 116]), (2, [114, 97, 116, 101]), (3, Dec.textL r 6), (5, [59])]
def modeW (m : Int) : List Wd := if m = 0 then [(2, [102, 108, 111, 111, 114])] else if m = 1 then [(2, [99, 101, 105, 108])] else if m = 2 then [(2, [104, 97, 108, 102, 117, 112])] else if m = 3 then [(2, [104, 97, 108, 102, 101, 118, 101, 110])] else []
def tkA (a : Adj) : List Wd :=
  if a.kind = 1 then [(2, [112, 101, 114, 99, 101, 110, 116]), (3, Dec.textL a.n 3)] ++ modeW a.mode ++ [(5, [59])]
  else if a.kind = 2 then [(2, [99, 97, 112]), (3, digT a.n), (5, [59])]
  else if a.kind = 3 then [(2, [109, 105, 110, 105, 109, 117, 109]), (3, digT a.n), (5, [59])]
  else if a.kind = 4 then [(2, [97, 100, 100]), (3, digT a.n), (5, [59])] else []
def tkC (c : Chg) (l : List Tier) (r : Int) : List Wd :=
  [(2, [99, 104, 97, 114, 103, 101]), (1, c.meter.data.toList)] ++ tkW c.win ++ [(5, [123])] ++ (if c.allow ≠ 0 then [(2, [97, 108, 108, 111, 119, 97, 110, 99, 101]), (3, digT c.allow), (5, [59])] else []) ++ (if c.block ≠ 1 then [(2, [98, 108, 111, 99, 107]), (3, digT c.block), (5, [59])] else []) ++
  [if c.kind = 2 then (2, [118, 111, 108, 117, 109, 101]) else (2, [103, 114, 97, 100, 117, 97, 116, 101, 100]), (5, [123])] ++ l.flatMap tkT ++ tkZ r ++ [(5, [125]), (2, [114, 111, 117, 110, 100])] ++ modeW c.mode ++ [(5, [59])] ++ c.adjs.flatMap tkA ++ [(5, [125])]
def tkH (p : Plan) : List Wd := [(2, [112, 108, 97, 110]), (1, p.name.data.toList), (2, [99, 117, 114, 114, 101, 110, 99, 121]), (1, p.cur.data.toList), (5, [59]), (2, [104, 111, 114, 105, 122, 111, 110]), (4, dayT p.from_), (4, dayT p.to_), (5, [59])]
theorem Lx.kw {w : List UInt8} {k : Int} (h : kindOf w = k) (h0 : k ≠ 0) : Lx (w ++ [32]) [(k, w)] := by
  subst h; exact Lx.word h0
theorem Lx.ks {w : List UInt8} {k : Int} (h : kindOf w = k) (h0 : k ≠ 0) (h5 : k ≠ 5) : Lx (w ++ [59]) [(k, w), (5, [59])] := by
  subst h; exact Lx.semi h0 (let_of h0 h5)
theorem Lx.of {a b : List UInt8} {u v : List Wd} (h : Lx a u) (e : b = a) (f : v = u) : Lx b v := by subst e f; exact h
theorem k_dig {n : Int} : kindOf (digT n) = 3 := kind_digits _
theorem k_dec {n : Int} (k : Nat) (hk : k ≤ 9) (h0 : 0 ≤ n) : kindOf (Dec.textL n k) = 3 := by
  obtain ⟨N, rfl⟩ : ∃ N : Nat, n = N := ⟨n.toNat, by omega⟩
  rw [Dec.text_good N k hk]; exact (dec_word N k hk).1
theorem lx_met {m : Met} (h1 : NOk m.name) (h2 : NOk m.unit) : Lx (metL m) (tkM m) :=
  ((((((Lx.kw k_meter (by decide)).app (Lx.kw h1 (by decide))).app (Lx.kw k_unit (by decide))).app (Lx.kw h2 (by decide))).app (Lx.kw k_max (by decide))).app (Lx.ks (k_dig (n := m.max)) (by decide) (by decide)) |>.app Lx.nl).of (by simp [metL]) (by simp [tkM])
theorem lx_head {p : Plan} (h : POk p) : Lx (headL p) (tkH p) :=
  ((((((((Lx.kw k_plan (by decide)).app (Lx.kw h.name (by decide))).app (Lx.kw k_currency (by decide))).app (Lx.ks h.cur (by decide) (by decide))).app Lx.nl).app (Lx.kw k_horizon (by decide))).app (Lx.kw h.from_.1 (by decide))).app (Lx.ks h.to_.1 (by decide) (by decide)) |>.app Lx.nl).of (by simp [headL]) (by simp [tkH])
theorem lx_fee {f : Fee} (h : WOk f.win) : Lx (feeL f) (tkF f) := by
  rcases h with ⟨h0, h1, h2⟩ | h0
  · exact ((((((Lx.kw k_fee (by decide)).app (Lx.kw (k_dig (n := f.amount)) (by decide))).app (Lx.kw k_from (by decide))).app (Lx.kw h1.1 (by decide))).app (Lx.kw k_to (by decide))).app (Lx.ks h2.1 (by decide) (by decide)) |>.app Lx.nl).of (by simp [feeL, winL, h0]) (by simp [tkF, tkW, h0])
  · exact (((Lx.kw k_fee (by decide)).app (Lx.ks (k_dig (n := f.amount)) (by decide) (by decide))).app Lx.nl).of (by simp [feeL, winL, h0, noWin]) (by simp [tkF, tkW, h0, noWin])
end Go.Proofs.YtcgkfgklggjmaaaDoor.Par
end
section
namespace Go.Proofs.YtcgkfgklggjmaaaDoor.Par
set_option linter.unusedVariables false
set_option linter.unusedSimpArgs false
/-! a charge's tokens, and the whole plan's -/
theorem lx_tier {t : Tier} (h : TOk t) : Lx (tierL false t) (tkT t) :=
  ((((((Lx.tab.app Lx.tab).app (Lx.kw k_upto (by decide))).app (Lx.kw (k_dig (n := t.upto)) (by decide))).app (Lx.kw k_rate (by decide))).app (Lx.ks (k_dec 6 (by decide) h.2.1) (by decide) (by decide)))|>.app Lx.nl).of (by simp [tierL]) (by simp [tkT])
theorem lx_rest {r : Int} (h : 0 ≤ r) : Lx (tierL true ⟨0, r⟩) (tkZ r) :=
  (((((Lx.tab.app Lx.tab).app (Lx.kw k_rest (by decide))).app (Lx.kw k_rate (by decide))).app (Lx.ks (k_dec 6 (by decide) h) (by decide) (by decide)))|>.app Lx.nl).of (by simp [tierL]) (by simp [tkZ])
theorem tiers_take (l : List Tier) (z : Tier) : ∀ k, k ≤ l.length → tiersL (l ++ [z]) k = (l.take k).flatMap (tierL false)
  | 0, _ => by simp [tiersL]
  | k + 1, h => by
    have e : l[k]? = some l[k] := by simp
    have e2 : (l ++ [z])[k]? = some l[k] := by rw [List.getElem?_append_left (by omega)]; exact e
    rw [tiersL_succ e2, tiers_take l z k (by omega), flat_next _ e]
    have : decide (k + 1 = (l ++ [z]).length) = false := by simp; omega
    rw [this]
theorem tiers_snoc (l : List Tier) (z : Tier) : tiersL (l ++ [z]) (l ++ [z]).length = l.flatMap (tierL false) ++ tierL true z := by
  have e2 : (l ++ [z])[l.length]? = some z := by simp
  have : (l ++ [z]).length = l.length + 1 := by simp
  rw [this, tiersL_succ e2, tiers_take l z l.length (by omega), List.take_length]
  simp
theorem lx_tiers {l : List Tier} {r : Int} (h : ∀ t ∈ l, TOk t) (hr : 0 ≤ r) : Lx (tiersL (l ++ [(⟨0, r⟩ : Tier)]) (l ++ [(⟨0, r⟩ : Tier)]).length) (l.flatMap tkT ++ tkZ r) := by
  rw [tiers_snoc]
  exact (Lx.flat _ _ l fun t ht => lx_tier (h t ht)).app (lx_rest hr)
theorem lx_mode {m : Int} (h0 : 0 ≤ m) (h3 : m ≤ 3) : Lx (modeL m ++ [59]) (modeW m ++ [(5, [59])]) := by
  have : m = 0 ∨ m = 1 ∨ m = 2 ∨ m = 3 := by omega
  rcases this with rfl | rfl | rfl | rfl
  · exact (Lx.ks k_floor (by decide) (by decide)).of (by simp [modeL]) (by simp [modeW])
  · exact (Lx.ks k_ceil (by decide) (by decide)).of (by simp [modeL]) (by simp [modeW])
  · exact (Lx.ks k_halfup (by decide) (by decide)).of (by simp [modeL]) (by simp [modeW])
  · exact (Lx.ks k_halfeven (by decide) (by decide)).of (by simp [modeL]) (by simp [modeW])
theorem lx_adj {a : Adj} (h : AOk a) : Lx (adjL a) (tkA a) := by
  rcases h with ⟨hk, h1, h2, h3⟩ | ⟨hk | hk | hk, h1, h2⟩
  · exact ((((Lx.tab.app (Lx.kw k_percent (by decide))).app (Lx.kw (k_dec 3 (by decide) h1.1) (by decide))).app (lx_mode h2 h3)).app Lx.nl).of (by simp [adjL, hk]) (by simp [tkA, hk])
  · exact (((Lx.tab.app (Lx.kw k_cap (by decide))).app (Lx.ks (k_dig (n := a.n)) (by decide) (by decide))).app Lx.nl).of (by simp [adjL, hk]) (by simp [tkA, hk])
  · exact (((Lx.tab.app (Lx.kw k_minimum (by decide))).app (Lx.ks (k_dig (n := a.n)) (by decide) (by decide))).app Lx.nl).of (by simp [adjL, hk]) (by simp [tkA, hk])
  · exact (((Lx.tab.app (Lx.kw k_add (by decide))).app (Lx.ks (k_dig (n := a.n)) (by decide) (by decide))).app Lx.nl).of (by simp [adjL, hk]) (by simp [tkA, hk])
theorem lx_chg1 {c : Chg} (h1 : NOk c.meter) (h : WOk c.win) : Lx (chg1L c) ([(2, [99, 104, 97, 114, 103, 101]), (1, c.meter.data.toList)] ++ tkW c.win ++ [(5, [123])]) := by
  rcases h with ⟨h0, h2, h3⟩ | h0
  · exact ((((((((Lx.kw k_charge (by decide)).app (Lx.kw h1 (by decide))).app (Lx.kw k_from (by decide))).app (Lx.kw h2.1 (by decide))).app (Lx.kw k_to (by decide))).app (Lx.kw h3.1 (by decide))).app (Lx.sign 123 (by decide)))|>.app Lx.nl).of (by simp [chg1L, winL, h0]) (by simp [tkW, h0])
  · exact ((((Lx.kw k_charge (by decide)).app (Lx.kw h1 (by decide))).app (Lx.sign 123 (by decide)))|>.app Lx.nl).of (by simp [chg1L, winL, h0, noWin]) (by simp [tkW, h0, noWin])
theorem lx_alw (c : Chg) : Lx (alwL c) (if c.allow ≠ 0 then [(2, [97, 108, 108, 111, 119, 97, 110, 99, 101]), (3, digT c.allow), (5, [59])] else []) := by
  unfold alwL
  split
  · exact ((Lx.tab.app (Lx.kw k_allowance (by decide))).app (Lx.ks (k_dig (n := c.allow)) (by decide) (by decide)) |>.app Lx.nl).of (by simp) (by simp)
  · exact Lx.nil
theorem lx_blk (c : Chg) : Lx (blkL c) (if c.block ≠ 1 then [(2, [98, 108, 111, 99, 107]), (3, digT c.block), (5, [59])] else []) := by
  unfold blkL
  split
  · exact ((Lx.tab.app (Lx.kw k_block (by decide))).app (Lx.ks (k_dig (n := c.block)) (by decide) (by decide)) |>.app Lx.nl).of (by simp) (by simp)
  · exact Lx.nil
theorem lx_kind (c : Chg) : Lx (kindL c) [if c.kind = 2 then (2, [118, 111, 108, 117, 109, 101]) else (2, [103, 114, 97, 100, 117, 97, 116, 101, 100]), (5, [123])] := by
  unfold kindL
  split
  · exact ((Lx.tab.app (Lx.kw k_volume (by decide))).app (Lx.sign 123 (by decide)) |>.app Lx.nl).of (by simp) (by simp)
  · exact ((Lx.tab.app (Lx.kw k_graduated (by decide))).app (Lx.sign 123 (by decide)) |>.app Lx.nl).of (by simp) (by simp)
theorem lx_rnd {c : Chg} (h : 0 ≤ c.mode ∧ c.mode ≤ 3) : Lx (rndL c) ([(5, [125]), (2, [114, 111, 117, 110, 100])] ++ modeW c.mode ++ [(5, [59])]) :=
  (((((Lx.tab.app (Lx.sign 125 (by decide))).app Lx.nl).app Lx.tab).app (Lx.kw k_round (by decide))).app (lx_mode h.1 h.2) |>.app Lx.nl).of (by simp [rndL]) (by simp)
theorem lx_chg {c : Chg} {l : List Tier} {r : Int} (h : COk c) (ht : c.tiers = l ++ [⟨0, r⟩]) (hl : ∀ t ∈ l, TOk t) (hr : 0 ≤ r) : Lx (chgL c) (tkC c l r) := by
  have ht' := lx_tiers hl hr
  rw [← ht] at ht'
  exact (((((((lx_chg1 h.meter h.win).app (lx_alw c)).app (lx_blk c)).app (lx_kind c)).app ht').app (lx_rnd h.mode)).app (Lx.flat _ _ c.adjs fun a ha => lx_adj (h.adjs a ha)) |>.app ((Lx.sign 125 (by decide)).app Lx.nl)).of (by simp [chgL]) (by simp [tkC])
/-- a charge's tokens, from the charge alone -/
def tkG (c : Chg) : List Wd := tkC c c.tiers.dropLast (match c.tiers.getLast? with | some t => t.rate | none => 0)
theorem lx_chgG {c : Chg} (h : COk c) : Lx (chgL c) (tkG c) := by
  obtain ⟨l, r, e, hl, hr, _⟩ := h.tiers
  have := lx_chg h e hl hr
  unfold tkG
  rw [e]
  simpa using this
def tkP (p : Plan) : List Wd := tkH p ++ p.mets.flatMap tkM ++ p.fees.flatMap tkF ++ p.chgs.flatMap tkG
/-- the tokens of a plan's plain text -/
theorem lx_plan {p : Plan} (h : POk p) : Lx (planL p) (tkP p) :=
  (((lx_head h).app (Lx.flat _ _ p.mets fun m hm => lx_met (h.mets m hm).1 (h.mets m hm).2.1)).app (Lx.flat _ _ p.fees fun f hf => lx_fee (h.fees f hf).2)).app (Lx.flat _ _ p.chgs fun c hc => lx_chgG (h.chgs c hc))
end Go.Proofs.YtcgkfgklggjmaaaDoor.Par
end
