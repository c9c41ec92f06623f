import Derived.Test.YtcgkfgklggjmaaaDoorGf
import Derived.Test.YtcgkfgklggjmaaaDoorShelf
import Derived.Lib.SmallJoins
import Derived.Laws.Bits64b
section
namespace Go.Proofs.YtcgkfgklggjmaaaDoor.Par
set_option linter.unusedVariables false
set_option linter.unusedSimpArgs false
/-! the words of a plan's plain text, parsed -/
/-- it reads these words off, without a fault, and says x -/
def Rd {α : Type} (F : St → α × St) (ws ws' : List Wd) (x : α) : Prop := ∀ ls : List Tok, Tw ls ws → ∃ ls', Tw ls' ws' ∧ F ⟨ls, 0, 0, 0⟩ = (x, ⟨ls', 0, 0, 0⟩)
theorem Rd.bnd {α β : Type} {F : St → α × St} {G : α → St → β × St} {u v w : List Wd} {x : α} {y : β} (hF : Rd F u v x) (hG : Rd (G x) v w y) : Rd (bnd F G) u w y := by
  intro ls h
  obtain ⟨l1, t1, e1⟩ := hF ls h
  obtain ⟨l2, t2, e2⟩ := hG l1 t1
  refine ⟨l2, t2, ?_⟩
  show G (F ⟨ls, 0, 0, 0⟩).1 (F ⟨ls, 0, 0, 0⟩).2 = _
  rw [e1]; exact e2
theorem Rd.mp {α β : Type} {F : St → α × St} {u v : List Wd} {x : α} (hF : Rd F u v x) (f : α → β) : Rd (mp f F) u v (f x) := by
  intro ls h
  obtain ⟨l1, t1, e1⟩ := hF ls h
  refine ⟨l1, t1, ?_⟩
  show (f (F ⟨ls, 0, 0, 0⟩).1, (F ⟨ls, 0, 0, 0⟩).2) = _
  rw [e1]
theorem Rd.ret {α : Type} (a : α) (u : List Wd) : Rd (fun s => (a, s)) u u a := fun ls h => ⟨ls, h, rfl⟩
theorem Rd.yes {α : Type} {p : Prop} [Decidable p] {F G : St → α × St} {u v : List Wd} {x : α} (hp : p) (h : Rd F u v x) : Rd (fun s => if p then F s else G s) u v x := by
  intro ls hl
  obtain ⟨l1, t1, e1⟩ := h ls hl
  exact ⟨l1, t1, by simp only [if_pos hp]; exact e1⟩
theorem Rd.no {α : Type} {p : Prop} [Decidable p] {F G : St → α × St} {u v : List Wd} {x : α} (hp : ¬ p) (h : Rd G u v x) : Rd (fun s => if p then F s else G s) u v x := by
  intro ls hl
  obtain ⟨l1, t1, e1⟩ := h ls hl
  exact ⟨l1, t1, by simp only [if_neg hp]; exact e1⟩
theorem Rd.of {α : Type} {F : St → α × St} {u v u' v' : List Wd} {x y : α} (h : Rd F u v x) (e : u' = u) (f : v' = v) (g : y = x) : Rd F u' v' y := by subst e f g; exact h
theorem tw_cons {ls : List Tok} {k : Int} {t : List UInt8} {ws : List Wd} (h : Tw ls ((k, t) :: ws)) : ∃ u us, ls = u :: us ∧ u.kind = k ∧ u.text = str t ∧ Tw us ws := by
  cases ls with
  | nil => cases h
  | cons u us =>
    unfold Tw at h
    rw [List.map_cons] at h
    injection h with h1 h2
    injection h1 with h3 h4
    exact ⟨u, us, rfl, h3, by rw [← h4]; rfl, h2⟩
theorem str_inj {a b : List UInt8} (h : str a = str b) : a = b := by
  have := congrArg (fun x : ByteArray => x.data.toList) h
  simpa [str] using this
theorem ba_self (a : ByteArray) : (a == a) = true := by
  have h : (a == a) = (a.data == a.data) := by cases a; rfl
  rw [h]; exact beq_self_eq_true _
theorem rd_eat {k : Int} {t : List UInt8} {ws : List Wd} (hk : k = 2 ∨ k = 5) : Rd (P.eat (str t)) ((k, t) :: ws) ws true := by
  intro ls h
  obtain ⟨u, us, rfl, h1, h2, h3⟩ := tw_cons h
  have ho : on (str t) ⟨u :: us, 0, 0, 0⟩ = true := by
    unfold on peek
    simp only [List.headD_cons, h1, h2]
    rcases hk with rfl | rfl <;> simp [ba_self]
  refine ⟨us, h3, ?_⟩
  unfold P.eat
  rw [if_pos ⟨rfl, ho⟩, next_drop (on_kind ho)]
  rfl
theorem rd_pass {k : Int} {t v : List UInt8} {ws : List Wd} (hk : (k ≠ 2 ∧ k ≠ 5) ∨ t ≠ v) : Rd (P.eat (str v)) ((k, t) :: ws) ((k, t) :: ws) false := by
  intro ls h
  obtain ⟨u, us, rfl, h1, h2, h3⟩ := tw_cons h
  have ho : ¬ on (str v) ⟨u :: us, 0, 0, 0⟩ = true := by
    unfold on peek
    simp only [List.headD_cons, h1, h2]
    rcases hk with ⟨c1, c2⟩ | c
    · simp [c1, c2]
    · have : (str t == str v) = false := by
        rw [Bool.eq_false_iff]; exact fun e => c (str_inj (text_eq e))
      simp [this]
  refine ⟨u :: us, h, ?_⟩
  unfold P.eat
  rw [if_neg fun e => ho e.2]
theorem rd_must {k : Int} {t : List UInt8} {ws : List Wd} (hk : k = 2 ∨ k = 5) : Rd (un (P.must [str t])) ((k, t) :: ws) ws () := by
  intro ls h
  obtain ⟨l1, t1, e1⟩ := rd_eat hk ls h
  refine ⟨l1, t1, ?_⟩
  unfold un
  rw [P.must, e1]
  rfl
theorem rd_must2 {k j : Int} {t v : List UInt8} {ws : List Wd} (hk : k = 2 ∨ k = 5) (hj : j = 2 ∨ j = 5) : Rd (un (P.must [str t, str v])) ((k, t) :: (j, v) :: ws) ws () := by
  rw [must2_eq]
  exact (rd_must hk).bnd (rd_must hj)
theorem rd_kind {k : Int} {t : List UInt8} {ws : List Wd} (hk : k ≠ 0) : Rd (P.kind k) ((k, t) :: ws) ws (str t) := by
  intro ls h
  obtain ⟨u, us, rfl, h1, h2, h3⟩ := tw_cons h
  refine ⟨us, h3, ?_⟩
  have hp : peek ⟨u :: us, 0, 0, 0⟩ = u := rfl
  unfold P.kind
  rw [hp, if_pos h1, next_drop (by rw [hp, h1]; exact hk), h2]
  rfl
theorem rd_number {t : List UInt8} {ws : List Wd} {pl m n : Int} (hn : npV (str t) pl m = (n, 0)) : Rd (P.number npV pl m) ((3, t) :: ws) ws n := by
  intro ls h
  obtain ⟨l1, t1, e1⟩ := rd_kind (by decide) ls h
  refine ⟨l1, t1, ?_⟩
  unfold P.number
  rw [e1]
  simp only [hn]
  rfl
theorem rd_dig {ws : List Wd} {n m : Int} (h : 0 ≤ n ∧ n ≤ m) (hm : m ≤ 1000000000000) : Rd (P.number npV 0 m) ((3, digT n) :: ws) ws n := rd_number (npV_dig h.1 h.2 (by omega))
theorem rd_dec {ws : List Wd} {n m : Int} (k : Nat) (hk : k ≤ 9) (h : 0 ≤ n ∧ n ≤ m) (hm : m ≤ 1000000000000) : Rd (P.number npV k m) ((3, Dec.textL n k) :: ws) ws n := rd_number (npV_dec k hk h.1 h.2 (by omega))
theorem rd_day {ws : List Wd} {d : Day} (h : DOk d) : Rd (P.day dp) ((4, dayT d) :: ws) ws d :=
  ((rd_kind (by decide)).mp dp).of rfl rfl h.2.symm
theorem rd_name {ws : List Wd} {b : ByteArray} : Rd (P.kind 1) ((1, b.data.toList) :: ws) ws b :=
  (rd_kind (by decide)).of rfl rfl (by simp [str])
theorem rd_hit {k : Int} {t : List UInt8} {ws : List Wd} {vs : List ByteArray} {i : Int} (hk : k = 2 ∨ k = 5) : Rd (P.one (str t :: vs) i) ((k, t) :: ws) ws i :=
  (rd_eat hk).bnd (G := fun a s => if a = true then (i, s) else P.one vs (i + 1) s) (Rd.yes rfl (Rd.ret i _))
theorem rd_miss {k : Int} {t v : List UInt8} {ws us : List Wd} {vs : List ByteArray} {i x : Int} (hk : (k ≠ 2 ∧ k ≠ 5) ∨ t ≠ v) (h : Rd (P.one vs (i + 1)) ((k, t) :: ws) us x) : Rd (P.one (str v :: vs) i) ((k, t) :: ws) us x :=
  (rd_pass hk).bnd (G := fun a s => if a = true then (i, s) else P.one vs (i + 1) s) (Rd.no (by decide) h)
theorem rd_none {ws : List Wd} {i : Int} : Rd (P.one [] i) ws ws (-1) := Rd.ret (-1) _
theorem rd_mode {m : Int} {ws : List Wd} (h0 : 0 ≤ m) (h3 : m ≤ 3) : Rd P.mode (modeW m ++ ws) ws m := by
  have hm : m = 0 ∨ m = 1 ∨ m = 2 ∨ m = 3 := by omega
  have H : Rd (P.one [wFloor, wCeil, wHalfup, wHalfeven] 0) (modeW m ++ ws) ws m := by
    rcases hm with rfl | rfl | rfl | rfl
    · exact rd_hit (.inl rfl)
    · exact rd_miss (.inr (by decide)) (rd_hit (.inl rfl))
    · exact rd_miss (.inr (by decide)) (rd_miss (.inr (by decide)) (rd_hit (.inl rfl)))
    · exact rd_miss (.inr (by decide)) (rd_miss (.inr (by decide)) (rd_miss (.inr (by decide)) (rd_hit (.inl rfl))))
  exact H.bnd (G := fun o s => if o < 0 then (0, fail 4 (peek s) s) else (o, s)) (Rd.no (by omega) (Rd.ret m _))
theorem rd_window {w : Win} {t : List UInt8} {ws : List Wd} (h : WOk w) (ht : t ≠ [102, 114, 111, 109]) : Rd (P.window dp) (tkW w ++ (5, t) :: ws) ((5, t) :: ws) w := by
  rcases h with ⟨h0, h1, h2⟩ | rfl
  · have e : tkW w = [(2, [102, 114, 111, 109]), (4, dayT w.from_), (2, [116, 111]), (4, dayT w.to_)] := by unfold tkW; rw [if_pos h0]
    rw [e]
    refine ((rd_eat (.inl rfl)).bnd (G := fun a s => if a = true then bnd (P.day dp) (fun f => bnd (un (P.must [wTo])) (fun _ => mp (fun t => (⟨true, f, t⟩ : Win)) (P.day dp))) s else (noWin, s)) (Rd.yes rfl
      ((rd_day h1).bnd ((rd_must (.inl rfl)).bnd ((rd_day h2).mp _))))).of rfl rfl ?_
    cases w; simp only at h0 ⊢; rw [h0]
  · exact (rd_pass (.inr ht)).bnd (G := fun a s => if a = true then bnd (P.day dp) (fun f => bnd (un (P.must [wTo])) (fun _ => mp (fun t => (⟨true, f, t⟩ : Win)) (P.day dp))) s else (noWin, s)) (Rd.no (by decide) (Rd.ret noWin _))
theorem rd_opt {t : List UInt8} {ws : List Wd} {d n : Int} (h : 0 ≤ n ∧ n ≤ 1000000) : Rd (P.opt npV (str t) d) ((2, t) :: (3, digT n) :: (5, [59]) :: ws) ws n :=
  (rd_eat (.inl rfl)).bnd (G := fun a s => if a = true then bnd (P.number npV 0 1000000) (fun x => mp (fun _ => x) (un (P.must [wSemi]))) s else (d, s)) (Rd.yes rfl ((rd_dig h (by decide)).bnd ((rd_must (.inr rfl)).mp _)))
theorem rd_noopt {k : Int} {t v : List UInt8} {ws : List Wd} {d : Int} (ht : t ≠ v) : Rd (P.opt npV (str v) d) ((k, t) :: ws) ((k, t) :: ws) d :=
  (rd_pass (.inr ht)).bnd (G := fun a s => if a = true then bnd (P.number npV 0 1000000) (fun x => mp (fun _ => x) (un (P.must [wSemi]))) s else (d, s)) (Rd.no (by decide) (Rd.ret d _))
def kw (c : Chg) : List UInt8 := if c.kind = 2 then [118, 111, 108, 117, 109, 101] else [103, 114, 97, 100, 117, 97, 116, 101, 100]
theorem rd_ckind {c : Chg} {ws : List Wd} (h : c.kind = 1 ∨ c.kind = 2) : Rd P.ckind ((2, kw c) :: ws) ws c.kind := by
  rcases h with h | h
  · have e : kw c = [103, 114, 97, 100, 117, 97, 116, 101, 100] := by unfold kw; rw [h]; rfl
    rw [e, h]
    exact (rd_pass (.inr (by decide))).bnd (G := fun a s => if a = true then ((2 : Int), s) else mp (fun _ => (1 : Int)) (un (P.must [wGraduated])) s) (Rd.no (by decide) ((rd_must (.inl rfl)).mp _))
  · have e : kw c = [118, 111, 108, 117, 109, 101] := by unfold kw; rw [h]; rfl
    rw [e, h]
    exact (rd_eat (.inl rfl)).bnd (G := fun a s => if a = true then ((2 : Int), s) else mp (fun _ => (1 : Int)) (un (P.must [wGraduated])) s) (Rd.yes rfl (Rd.ret 2 _))
theorem rd_tierLoop {t : List UInt8} {ws : List Wd} (ht : t ≠ [117, 112, 116, 111]) : ∀ (l : List Tier) (f : Nat) (acc : List Tier), (∀ x ∈ l, TOk x) → l.length < f → Rd (P.tierLoop npV f acc) (l.flatMap tkT ++ (2, t) :: ws) ((2, t) :: ws) (acc ++ l)
  | _, 0, _, _, h => absurd h (by omega)
  | [], f + 1, acc, _, _ =>
    ((rd_pass (.inr ht)).bnd (G := fun a s => if a = true then bnd (P.number npV 0 1000000) (fun x => bnd (un (P.must [wRate])) (fun _ => bnd (P.number npV 6 1000000000000) (fun y => bnd (un (P.must [wSemi])) (fun _ => P.tierLoop npV f (acc ++ [(⟨x, y⟩ : Tier)]))))) s else (acc, s))
      (Rd.no (by decide) (Rd.ret acc _))).of rfl rfl (by simp)
  | x :: l, f + 1, acc, hl, h => by
    have hx := hl x (by simp)
    have hr := rd_tierLoop (ws := ws) ht l f (acc ++ [x]) (fun y hy => hl y (by simp [hy])) (by simpa using h)
    exact ((rd_eat (.inl rfl)).bnd (G := fun a s => if a = true then bnd (P.number npV 0 1000000) (fun x => bnd (un (P.must [wRate])) (fun _ => bnd (P.number npV 6 1000000000000) (fun y => bnd (un (P.must [wSemi])) (fun _ => P.tierLoop npV f (acc ++ [(⟨x, y⟩ : Tier)]))))) s else (acc, s))
      (Rd.yes rfl ((rd_dig hx.1 (by decide)).bnd ((rd_must (.inl rfl)).bnd ((rd_dec 6 (by decide) hx.2 (by decide)).bnd ((rd_must (.inr rfl)).bnd hr)))))).of (by simp [tkT]) rfl (by simp)
theorem tw_len {ls : List Tok} {ws : List Wd} (h : Tw ls ws) : ls.length = ws.length := by
  unfold Tw at h; rw [← h, List.length_map]
theorem flat_len {α : Type} {g : α → List Wd} (hg : ∀ x, g x ≠ []) : ∀ l : List α, l.length ≤ (l.flatMap g).length
  | [] => by simp
  | x :: l => by
    have := flat_len hg l
    have h1 : 0 < (g x).length := List.length_pos_iff.2 (hg x)
    rw [List.flatMap_cons, List.length_append, List.length_cons]; omega
theorem rd_tierAll {t : List UInt8} {ws : List Wd} (ht : t ≠ [117, 112, 116, 111]) {l : List Tier} (hl : ∀ x ∈ l, TOk x) : Rd (P.tierAll npV []) (l.flatMap tkT ++ (2, t) :: ws) ((2, t) :: ws) l := by
  intro ls h
  have h1 := tw_len h
  have h2 := flat_len (g := tkT) (by intro x; simp [tkT]) l
  rw [List.length_append, List.length_cons] at h1
  exact rd_tierLoop ht l ls.length [] hl (by omega) ls h
theorem rd_tiers {l : List Tier} {r : Int} {ws : List Wd} (hl : ∀ x ∈ l, TOk x) (hr : 0 ≤ r ∧ r ≤ 1000000000000) : Rd (P.tiers npV) ((5, [123]) :: (l.flatMap tkT ++ (2, [114, 101, 115, 116]) :: (2, [114, 97, 116, 101]) :: (3, Dec.textL r 6) :: (5, [59]) :: (5, [125]) :: ws)) ws (l ++ [⟨0, r⟩]) :=
  (rd_must (.inr rfl)).bnd (G := fun _ => bnd (P.tierAll npV []) (fun l => bnd (un (P.must [wRest, wRate])) (fun _ => bnd (P.number npV 6 1000000000000) (fun r => mp (fun _ => l ++ [(⟨0, r⟩ : Tier)]) (un (P.must [wSemi, wClose]))))))
    ((rd_tierAll (by decide) hl).bnd ((rd_must2 (.inl rfl) (.inl rfl)).bnd ((rd_dec 6 (by decide) hr (by decide)).bnd ((rd_must2 (.inr rfl) (.inr rfl)).mp _))))
end Go.Proofs.YtcgkfgklggjmaaaDoor.Par
end
section
namespace Go.Proofs.YtcgkfgklggjmaaaDoor.Par
set_option linter.unusedVariables false
set_option linter.unusedSimpArgs false
/-! a charge, an item, the plan: parsed -/
theorem rd_adjBody {a : Adj} {ws : List Wd} (h : AOk a) : Rd (P.adjBody npV a.kind) ((3, if a.kind = 1 then Dec.textL a.n 3 else digT a.n) :: ((if a.kind = 1 then modeW a.mode else []) ++ (5, [59]) :: ws)) ws a := by
  have e : P.adjBody npV a.kind = fun s => if a.kind = 1 then bnd (P.number npV 3 100000000) (fun n => bnd P.mode (fun m => mp (fun _ => (⟨1, n, m⟩ : Adj)) (un (P.must [wSemi])))) s else bnd (P.number npV 0 1000000000000) (fun n => mp (fun _ => (⟨a.kind, n, 0⟩ : Adj)) (un (P.must [wSemi]))) s := rfl
  rw [e]
  rcases h with ⟨hk, h1, h2, h3⟩ | ⟨hk, h1, h2⟩
  · rw [if_pos hk, if_pos hk]
    refine (Rd.yes hk ((rd_dec 3 (by decide) h1 (by decide)).bnd ((rd_mode h2 h3).bnd ((rd_must (.inr rfl)).mp _)))).of rfl rfl ?_
    cases a; simp only at hk ⊢; rw [hk]
  · have hk' : ¬ a.kind = 1 := by omega
    rw [if_neg hk', if_neg hk']
    refine (Rd.no hk' ((rd_dig h1 (by decide)).bnd ((rd_must (.inr rfl)).mp _))).of rfl rfl ?_
    cases a; simp only at h2 ⊢; rw [h2]
def adW (a : Adj) : List UInt8 := if a.kind = 1 then [112, 101, 114, 99, 101, 110, 116] else if a.kind = 2 then [99, 97, 112] else if a.kind = 3 then [109, 105, 110, 105, 109, 117, 109] else [97, 100, 100]
theorem tkA_eq {a : Adj} (h : AOk a) : tkA a = (2, adW a) :: (3, if a.kind = 1 then Dec.textL a.n 3 else digT a.n) :: ((if a.kind = 1 then modeW a.mode else []) ++ [(5, [59])]) := by
  unfold tkA adW
  rcases h with ⟨hk, _⟩ | ⟨hk | hk | hk, _⟩ <;> simp [hk]
theorem rd_adjust {a : Adj} {ws : List Wd} (h : AOk a) : Rd (P.adjust npV) (tkA a ++ ws) ws (a, true) := by
  have H : ∀ us, Rd (P.one [wPercent, wCap, wMinimum, wAdd] 1) ((2, adW a) :: us) us a.kind := by
    intro us
    unfold adW
    rcases h with ⟨hk, _⟩ | ⟨hk | hk | hk, _⟩ <;> rw [hk]
    · exact rd_hit (.inl rfl)
    · exact rd_miss (.inr (by decide)) (rd_hit (.inl rfl))
    · exact rd_miss (.inr (by decide)) (rd_miss (.inr (by decide)) (rd_hit (.inl rfl)))
    · exact rd_miss (.inr (by decide)) (rd_miss (.inr (by decide)) (rd_miss (.inr (by decide)) (rd_hit (.inl rfl))))
  have hk : ¬ a.kind < 0 := by rcases h with ⟨hk, _⟩ | ⟨hk | hk | hk, _⟩ <;> omega
  exact ((H _).bnd (G := fun o s => if o < 0 then (((⟨0, 0, 0⟩ : Adj), false), s) else mp (fun b => (b, true)) (P.adjBody npV o) s) (Rd.no hk ((rd_adjBody h).mp _))).of (by rw [tkA_eq h]; simp) rfl rfl
theorem rd_adjust_no {t : List UInt8} {ws : List Wd} : Rd (P.adjust npV) ((5, [125]) :: ws) ((5, [125]) :: ws) (⟨0, 0, 0⟩, false) :=
  (rd_miss (.inr (by decide)) (rd_miss (.inr (by decide)) (rd_miss (.inr (by decide)) (rd_miss (.inr (by decide)) rd_none)))).bnd (G := fun o s => if o < 0 then (((⟨0, 0, 0⟩ : Adj), false), s) else mp (fun b => (b, true)) (P.adjBody npV o) s) (Rd.yes (by decide) (Rd.ret _ _))
theorem Rd.err {α : Type} {p : Prop} [Decidable p] {F : St → α × St} {a : α} {u v : List Wd} {x : α} (hp : ¬ p) (h : Rd F u v x) : Rd (fun s => if p ∨ s.err ≠ 0 then (a, s) else F s) u v x := by
  intro ls hl
  obtain ⟨l1, t1, e1⟩ := h ls hl
  refine ⟨l1, t1, ?_⟩
  simp only
  rw [if_neg (by rintro (c | c); exact hp c; exact c rfl)]
  exact e1
theorem Rd.stop {α : Type} {p : Prop} [Decidable p] {F : St → α × St} {a : α} {u : List Wd} (hp : p) : Rd (fun s => if p ∨ s.err ≠ 0 then (a, s) else F s) u u a := by
  intro ls hl
  exact ⟨ls, hl, by simp only; rw [if_pos (.inl hp)]⟩
theorem rd_adjLoop {ws : List Wd} : ∀ (l : List Adj) (f : Nat) (acc : List Adj), (∀ x ∈ l, AOk x) → l.length < f → Rd (P.adjLoop npV f acc) (l.flatMap tkA ++ (5, [125]) :: ws) ((5, [125]) :: ws) (acc ++ l)
  | _, 0, _, _, h => absurd h (by omega)
  | [], f + 1, acc, _, _ => ((rd_adjust_no (t := [])).bnd (G := fun (a : Adj × Bool) s => if a.2 = false ∨ s.err ≠ 0 then (acc, s) else P.adjLoop npV f (acc ++ [a.1]) s) (Rd.stop rfl)).of rfl rfl (by simp)
  | x :: l, f + 1, acc, hl, h =>
    ((rd_adjust (hl x (by simp))).bnd (G := fun (a : Adj × Bool) s => if a.2 = false ∨ s.err ≠ 0 then (acc, s) else P.adjLoop npV f (acc ++ [a.1]) s)
      (Rd.err (by simp) (rd_adjLoop l f (acc ++ [x]) (fun y hy => hl y (by simp [hy])) (by simpa using h)))).of (by simp) rfl (by simp)
theorem tkA_ne {a : Adj} (h : AOk a) : tkA a ≠ [] := by rw [tkA_eq h]; simp
theorem flat_len' {α : Type} {g : α → List Wd} : ∀ l : List α, (∀ x ∈ l, g x ≠ []) → l.length ≤ (l.flatMap g).length
  | [], _ => by simp
  | x :: l, hg => by
    have := flat_len' l fun y hy => hg y (by simp [hy])
    have h1 : 0 < (g x).length := List.length_pos_iff.2 (hg x (by simp))
    rw [List.flatMap_cons, List.length_append, List.length_cons]; omega
theorem rd_adjAll {l : List Adj} {ws : List Wd} (hl : ∀ x ∈ l, AOk x) : Rd (P.adjAll npV []) (l.flatMap tkA ++ (5, [125]) :: ws) ((5, [125]) :: ws) l := by
  intro ls h
  have h1 := tw_len h
  have h2 := flat_len' (g := tkA) l fun x hx => tkA_ne (hl x hx)
  rw [List.length_append, List.length_cons] at h1
  exact rd_adjLoop l ls.length [] hl (by omega) ls h
theorem rd_opts {c : Chg} {ws : List Wd} (h : COk c) : Rd (bnd (P.opt npV wAllowance 0) fun a => mp (fun b => (a, b)) (P.opt npV wBlock 1))
    ((if c.allow ≠ 0 then [((2 : Int), [97, 108, 108, 111, 119, 97, 110, 99, 101]), (3, digT c.allow), (5, [59])] else []) ++ ((if c.block ≠ 1 then [((2 : Int), [98, 108, 111, 99, 107]), (3, digT c.block), (5, [59])] else []) ++ (2, kw c) :: ws)) ((2, kw c) :: ws) (c.allow, c.block) := by
  have k1 : kw c ≠ [97, 108, 108, 111, 119, 97, 110, 99, 101] := by unfold kw; split <;> decide
  have k2 : kw c ≠ [98, 108, 111, 99, 107] := by unfold kw; split <;> decide
  have hA := h.allow
  have hB := h.block
  have HB : ∀ us, Rd (P.opt npV wBlock 1) ((if c.block ≠ 1 then [((2 : Int), [98, 108, 111, 99, 107]), (3, digT c.block), (5, [59])] else []) ++ (2, kw c) :: us) ((2, kw c) :: us) c.block := by
    intro us
    by_cases hb : c.block = 1
    · rw [if_neg (by simp [hb]), hb]; exact rd_noopt k2
    · rw [if_pos hb]; exact rd_opt hB
  by_cases ha : c.allow = 0
  · rw [if_neg (by simp [ha])]
    refine Rd.bnd ?_ ((HB ws).mp _)
    rw [List.nil_append]
    by_cases hb : c.block = 1
    · rw [if_neg (by simp [hb]), ha]; exact rd_noopt k1
    · rw [if_pos hb, ha]; exact rd_noopt (by decide)
  · rw [if_pos ha]
    exact (rd_opt hA).bnd ((HB ws).mp _)
theorem rd_charge {c : Chg} {l : List Tier} {r : Int} {ws : List Wd} (h : COk c) (ht : c.tiers = l ++ [⟨0, r⟩]) (hl : ∀ t ∈ l, TOk t) (hr : 0 ≤ r ∧ r ≤ 1000000000000) :
    Rd (P.charge dp npV 0 0) ((tkC c l r).tail ++ ws) ws (sC c) := by
  have H : Rd (bnd (P.kind 1) fun n => bnd (P.window dp) fun w => bnd (un (P.must [wOpen])) fun _ => bnd (bnd (P.opt npV wAllowance 0) fun a => mp (fun b => (a, b)) (P.opt npV wBlock 1)) fun ab => bnd P.ckind fun k => bnd (P.tiers npV) fun t =>
      bnd (un (P.must [wRound])) fun _ => bnd P.mode fun m => bnd (un (P.must [wSemi])) fun _ => bnd (P.adjAll npV []) fun d => mp (fun _ => (⟨n, w, ab.1, ab.2, k, t, m, d, 0, 0⟩ : Chg)) (un (P.must [wClose])))
      ((1, c.meter.data.toList) :: (tkW c.win ++ (5, [123]) :: ((if c.allow ≠ 0 then [((2 : Int), [97, 108, 108, 111, 119, 97, 110, 99, 101]), (3, digT c.allow), (5, [59])] else []) ++ ((if c.block ≠ 1 then [((2 : Int), [98, 108, 111, 99, 107]), (3, digT c.block), (5, [59])] else []) ++ (2, kw c) ::
        (5, [123]) :: (l.flatMap tkT ++ (2, [114, 101, 115, 116]) :: (2, [114, 97, 116, 101]) :: (3, Dec.textL r 6) :: (5, [59]) :: (5, [125]) :: (2, [114, 111, 117, 110, 100]) :: (modeW c.mode ++ (5, [59]) :: (c.adjs.flatMap tkA ++ (5, [125]) :: ws))))))) ws
      ⟨c.meter, c.win, c.allow, c.block, c.kind, l ++ [⟨0, r⟩], c.mode, c.adjs, 0, 0⟩ :=
    rd_name.bnd ((rd_window h.win (by decide)).bnd ((rd_must (.inr rfl)).bnd ((rd_opts h).bnd ((rd_ckind h.kind).bnd ((rd_tiers hl hr).bnd ((rd_must (.inl rfl)).bnd ((rd_mode h.mode.1 h.mode.2).bnd ((rd_must (.inr rfl)).bnd ((rd_adjAll h.adjs).bnd ((rd_must (.inr rfl)).mp _))))))))))
  refine Rd.of (F := P.charge dp npV 0 0) H ?_ rfl ?_
  · have hk : (if c.kind = 2 then ((2 : Int), ([118, 111, 108, 117, 109, 101] : List UInt8)) else (2, [103, 114, 97, 100, 117, 97, 116, 101, 100])) = (2, kw c) := by unfold kw; split <;> rfl
    simp only [tkC, hk, tkZ, List.cons_append, List.nil_append, List.append_assoc, List.tail_cons]
  · unfold sC; rw [← ht]
theorem rd_met {m : Met} {ws : List Wd} (h : 0 ≤ m.max ∧ m.max ≤ 2000) : Rd (P.meter npV 0 0) ((tkM m).tail ++ ws) ws (sM m) :=
  (Rd.bnd (F := P.kind 1) (G := fun n => bnd (un (P.must [wUnit])) fun _ => bnd (P.kind 1) fun x => bnd (un (P.must [wMax])) fun _ => bnd (P.number npV 0 2000) fun m => mp (fun _ => (⟨n, x, m, 0, 0⟩ : Met)) (un (P.must [wSemi])))
    rd_name ((rd_must (.inl rfl)).bnd (rd_name.bnd ((rd_must (.inl rfl)).bnd ((rd_dig h (by decide)).bnd ((rd_must (.inr rfl)).mp _)))))).of (v := ws) (by simp [tkM]) rfl rfl
theorem rd_fee {f : Fee} {ws : List Wd} (h : 0 ≤ f.amount ∧ f.amount ≤ 1000000000000) (hw : WOk f.win) : Rd (P.fee dp npV 0 0) ((tkF f).tail ++ ws) ws (sF f) :=
  (Rd.bnd (F := P.number npV 0 1000000000000) (G := fun x => bnd (P.window dp) fun w => mp (fun _ => (⟨x, w, 0, 0⟩ : Fee)) (un (P.must [wSemi])))
    (rd_dig h (by decide)) ((rd_window hw (by decide)).bnd ((rd_must (.inr rfl)).mp _))).of (v := ws) (by simp [tkF]) rfl rfl
/-- an item's words -/
theorem rd_itm_met {m : Met} {ws : List Wd} (h : 0 ≤ m.max ∧ m.max ≤ 2000) : Rd (itm dp npV) (tkM m ++ ws) ws (.met (sM m)) :=
  ((rd_hit (.inl rfl)).bnd (Rd.yes rfl ((rd_met h).mp Thing.met))).of (v := ws) (by simp [tkM]) rfl rfl
theorem rd_itm_fee {f : Fee} {ws : List Wd} (h : 0 ≤ f.amount ∧ f.amount ≤ 1000000000000) (hw : WOk f.win) : Rd (itm dp npV) (tkF f ++ ws) ws (.fee (sF f)) :=
  ((rd_miss (.inr (by decide)) (rd_hit (.inl rfl))).bnd (Rd.no (by decide) (Rd.yes rfl ((rd_fee h hw).mp Thing.fee)))).of (v := ws) (by simp [tkF]) rfl rfl
end Go.Proofs.YtcgkfgklggjmaaaDoor.Par
end
section
namespace Go.Proofs.YtcgkfgklggjmaaaDoor.Par
set_option linter.unusedVariables false
set_option linter.unusedSimpArgs false
/-! a plan's plain text is read back -/
theorem rd_itm_chg {c : Chg} {ws : List Wd} (h : COk c) : Rd (itm dp npV) (tkG c ++ ws) ws (.chg (sC c)) := by
  obtain ⟨l, r, ht, hl, hr⟩ := h.tiers
  have e : tkG c = tkC c l r := by unfold tkG; rw [ht]; simp
  have e2 : ∃ us, tkC c l r = (2, [99, 104, 97, 114, 103, 101]) :: us := ⟨_, by simp only [tkC, List.cons_append, List.nil_append]; rfl⟩
  obtain ⟨us, e2⟩ := e2
  have hc := rd_charge (ws := ws) h ht hl hr
  rw [e, e2]
  rw [e2] at hc
  exact ((rd_miss (.inr (by decide)) (rd_miss (.inr (by decide)) (rd_hit (.inl rfl)))).bnd (Rd.no (by decide) (Rd.no (by decide) (Rd.yes rfl (hc.mp Thing.chg)))))
theorem rd_items : ∀ (xs : List (Thing × List Wd)), (∀ x ∈ xs, (∀ ws, Rd (itm dp npV) (x.2 ++ ws) ws x.1) ∧ ∃ k t us, x.2 = (k, t) :: us ∧ k ≠ 0) → ∀ (p q : Plan) (ls : List Tok), Tw ls (xs.flatMap (·.2) ++ [(0, [])]) → strip p = strip q →
    ∃ p' ls', P.itemsAll dp npV p ⟨ls, 0, 0, 0⟩ = (p', ⟨ls', 0, 0, 0⟩) ∧ strip p' = strip (xs.foldl (fun p x => put p 0 0 x.1) q)
  | [], _, p, q, ls, h, hp => by
    obtain ⟨u, us, rfl, h1, h2, h3⟩ := tw_cons h
    exact ⟨p, u :: us, itemsAll_end dp npV (.inr h1), hp⟩
  | x :: xs, hx, p, q, ls, h, hp => by
    obtain ⟨h1, k, t, us, h2, h3⟩ := hx x (by simp)
    rw [List.flatMap_cons, List.append_assoc] at h
    have hk : (peek ⟨ls, 0, 0, 0⟩).kind ≠ 0 := by
      rw [h2] at h
      obtain ⟨u, us, rfl, h4, h5, h6⟩ := tw_cons h
      exact fun e => h3 (h4 ▸ e)
    obtain ⟨l1, t1, e1⟩ := h1 _ ls h
    rw [itemsAll_itm dp npV (s := ⟨ls, 0, 0, 0⟩) rfl hk, e1]
    exact rd_items xs (fun y hy => hx y (by simp [hy])) _ _ l1 t1 (strip_put hp _ _ _ _ _)
theorem rd_hd {p : Plan} {ws : List Wd} (h1 : DOk p.from_) (h2 : DOk p.to_) : Rd (hd dp) (tkH p ++ ws) ws ⟨p.name, p.cur, p.from_, p.to_, [], [], [], 0, 0⟩ := by
  have H : Rd (hd dp) ((2, [112, 108, 97, 110]) :: (1, p.name.data.toList) :: (2, [99, 117, 114, 114, 101, 110, 99, 121]) :: (1, p.cur.data.toList) :: (5, [59]) :: (2, [104, 111, 114, 105, 122, 111, 110]) :: (4, dayT p.from_) :: (4, dayT p.to_) :: (5, [59]) :: ws) ws ⟨p.name, p.cur, p.from_, p.to_, [], [], [], 0, 0⟩ :=
    (rd_must (.inl rfl)).bnd (rd_name.bnd ((rd_must (.inl rfl)).bnd (rd_name.bnd ((rd_must2 (.inr rfl) (.inl rfl)).bnd ((rd_day h1).bnd ((rd_day h2).bnd ((rd_must (.inr rfl)).mp _)))))))
  exact H
def itms (p : Plan) : List (Thing × List Wd) := p.mets.map (fun m => (Thing.met (sM m), tkM m)) ++ p.fees.map (fun f => (Thing.fee (sF f), tkF f)) ++ p.chgs.map (fun c => (Thing.chg (sC c), tkG c))
theorem itms_flat (p : Plan) : (itms p).flatMap (·.2) = p.mets.flatMap tkM ++ p.fees.flatMap tkF ++ p.chgs.flatMap tkG := by
  unfold itms
  simp only [List.flatMap_append, List.flatMap_map]
theorem fold_met : ∀ (l : List Met) (q : Plan), (l.map (fun m => (Thing.met (sM m), tkM m))).foldl (fun p x => put p 0 0 x.1) q = { q with mets := q.mets ++ l.map sM }
  | [], q => by simp
  | m :: l, q => by
    rw [List.map_cons, List.foldl_cons, fold_met l]
    simp [put, sM]
theorem fold_fee : ∀ (l : List Fee) (q : Plan), (l.map (fun m => (Thing.fee (sF m), tkF m))).foldl (fun p x => put p 0 0 x.1) q = { q with fees := q.fees ++ l.map sF }
  | [], q => by simp
  | m :: l, q => by
    rw [List.map_cons, List.foldl_cons, fold_fee l]
    simp [put, sF]
theorem fold_chg : ∀ (l : List Chg) (q : Plan), (l.map (fun m => (Thing.chg (sC m), tkG m))).foldl (fun p x => put p 0 0 x.1) q = { q with chgs := q.chgs ++ l.map sC }
  | [], q => by simp
  | m :: l, q => by
    rw [List.map_cons, List.foldl_cons, fold_chg l]
    simp [put, sC]
theorem strip_itms (p : Plan) (li co : Int) : strip ((itms p).foldl (fun p x => put p 0 0 x.1) ⟨p.name, p.cur, p.from_, p.to_, [], [], [], li, co⟩) = strip p := by
  unfold itms
  rw [List.foldl_append, List.foldl_append, fold_met, fold_fee, fold_chg]
  have e1 : sM ∘ sM = sM := rfl
  have e2 : sF ∘ sF = sF := rfl
  have e3 : sC ∘ sC = sC := rfl
  simp [strip, e1, e2, e3]
theorem itms_ok {p : Plan} (h : POk p) : ∀ x ∈ itms p, (∀ ws, Rd (itm dp npV) (x.2 ++ ws) ws x.1) ∧ ∃ k t us, x.2 = (k, t) :: us ∧ k ≠ 0 := by
  intro x hx
  unfold itms at hx
  rw [List.mem_append, List.mem_append, List.mem_map, List.mem_map, List.mem_map] at hx
  rcases hx with (⟨m, hm, rfl⟩ | ⟨f, hf, rfl⟩) | ⟨c, hc, rfl⟩
  · exact ⟨fun ws => rd_itm_met (h.mets m hm).2.2, 2, _, _, rfl, by decide⟩
  · exact ⟨fun ws => rd_itm_fee (h.fees f hf).1 (h.fees f hf).2, 2, [102, 101, 101], (tkF f).tail, by simp [tkF], by decide⟩
  · exact ⟨fun ws => rd_itm_chg (h.chgs c hc), 2, [99, 104, 97, 114, 103, 101], (tkG c).tail, by simp only [tkG, tkC, List.cons_append, List.nil_append, List.tail_cons], by decide⟩
/-- the text of a plan, read again, is the plan: but for places -/
theorem plan_read {p : Plan} (h : POk p) (hl : (planL p).length ≤ 8192) : (RParse (planL p)).2 = (0, 0, 0) ∧ strip (RParse (planL p)).1 = strip p := by
  obtain ⟨ls, n, c, hall, ht⟩ := (lx_plan h).all hl
  have htw : Tw (ls ++ [⟨0, ⟨#[]⟩, n, c⟩]) (tkH p ++ ((itms p).flatMap (·.2) ++ [(0, [])])) := by
    rw [itms_flat]
    unfold Tw at ht ⊢
    rw [List.map_append, ht]
    simp [tkP]
  obtain ⟨l1, t1, e1⟩ := rd_hd h.from_ h.to_ _ htw
  have hs := plan_same dp npV (ls ++ [⟨0, ⟨#[]⟩, n, c⟩])
  have hP := plan_hd dp npV (ls ++ [⟨0, ⟨#[]⟩, n, c⟩])
  rw [e1] at hP
  obtain ⟨p', l2, e2, e3⟩ := rd_items (itms p) (itms_ok h) { (⟨p.name, p.cur, p.from_, p.to_, [], [], [], 0, 0⟩ : Plan) with line := (peek ⟨ls ++ [⟨0, ⟨#[]⟩, n, c⟩], 0, 0, 0⟩).line, col := (peek ⟨ls ++ [⟨0, ⟨#[]⟩, n, c⟩], 0, 0, 0⟩).col } _ l1 t1 rfl
  rw [e2] at hP
  rw [hP] at hs
  have hr := RParse_ok hall hs.1.symm
  rw [hr, ← hs.2.2.2 rfl]
  exact ⟨rfl, e3.trans (strip_itms p _ _)⟩
end Go.Proofs.YtcgkfgklggjmaaaDoor.Par
end
section
namespace Go.Proofs.YtcgkfgklggjmaaaDoor
set_option linter.unusedVariables false
set_option linter.unusedSimpArgs false
open Go.RowKit
def GT (w : World) : Prop := Lib.TabIs Tryd.prog w "internal/strconv.uint64pow10" .u64 Lib.pow10Tab
theorem gT : Tryd.prog.globalNamed "internal/strconv.uint64pow10" = some 2 := by kernel_rfl
theorem GT.below {w v : World} (h : GT w) (hb : Below w.heap.size w v) : GT v := Go.Joins.tab_stays gT h hb (Nat.le_refl _)
theorem bl_growN {w v : World} (h : Below w.heap.size w v) (k : Nat) (os : Array Obj) : Below w.heap.size w (Go.Sort.grow (v.drewN k) os) :=
  bl_call h ⟨rfl, rfl, rfl, by simp [Go.Sort.grow], fun i hi => by
    show ((v.drewN k).heap ++ os)[i]? = _
    rw [Array.getElem?_append_left (by show i < v.heap.size; omega)]
    rfl⟩
structure LB (w w' : World) : Prop where
  out : Below w.heap.size w w'
theorem LB.drew {w v : World} (h : LB w v) : LB w v.drew := ⟨bl_drew h.out⟩
theorem LB.call {w v w' : World} (h : LB w v) (hb : Below v.heap.size v w') : LB w w' := ⟨bl_call h.out hb⟩
theorem LB.start (w : World) : LB w w := ⟨bl_refl w⟩
theorem LB.alloc {w v : World} (h : LB w v) (o : Obj) : LB w (v.alloc o) := ⟨bl_alloc h.out o⟩
theorem cell_keep {v w' : World} {p : Addr} {x : Value} (h : v.cell? p = some x) (hb : Below v.heap.size v w') : w'.cell? p = some x := (hb.cell (World.block_lt_of_cell? v _ h)).trans h
theorem lt_ten {n k : Nat} (hn : n < 10 ^ k) (hk : k ≤ 4) : n < 10000 := Nat.lt_of_lt_of_le hn (Nat.pow_le_pow_right (by omega) hk)
theorem repeat_char (c : Nat) : Lib.repeatL (ByteArray.mk #[48]).data.toList c = List.replicate c 48 := by
  have := Lib.repeatL_replicate 48 1 c
  rw [Nat.mul_one] at this
  exact this
theorem pad_cat (a b : List UInt8) : (ByteArray.mk a.toArray) ++ ⟨b.toArray⟩ = ⟨(a ++ b).toArray⟩ := by
  apply ByteArray.ext; simp
set_option maxHeartbeats 2000000 in
set_option maxRecDepth 100000 in
theorem pad_any (n k : Nat) (w : World) (hT : GT w) (hn : n < 10 ^ k) (hk : 1 ≤ k) (hk4 : k ≤ 4) :
    Calls Tryd.prog 78 #[.int .i64 n, .int .i64 k] w fun e w' => e = .returned (.string ⟨(digL n k).toArray⟩) ∧ Below w.heap.size w w' := by
  obtain ⟨p1, p2⟩ := pad_eq k n hn hk
  have hb := lt_ten hn hk4
  rw [← p2]
  clear p2 hn
  obtain ⟨ds, hds⟩ : ∃ ds, Lib.decDigits n = ds := ⟨_, rfl⟩
  rw [hds] at p1 ⊢
  have HDS := Lib.hid hds
  clear hds
  go_enter Tryd.func78, Tryd.ntmps78
  go_wp2_with fail
  refine (Tryd.strconv_Itoa n (by omega) (by omega) w hT).mono ?_
  rintro e w1 ⟨rfl, q, os, rfl⟩
  rw [Lib.itoa_nonneg, HDS.out]
  have hb1 := bl_growN (bl_refl w) q os
  have hsz : (ByteArray.mk ds.toArray).size = ds.length := by simp [ByteArray.size]
  generalize Go.Sort.grow (w.drewN q) os = w1 at *
  have hc : (k : Int) - (ds.length : Int) = ((k - ds.length : Nat) : Int) := by omega
  have hmx : max ((k - ds.length : Nat) : Int) 0 = ((k - ds.length : Nat) : Int) := by omega
  go_wp2_with fail
  refine (Tryd.strings_Repeat _ (k - ds.length) _ (by omega) ?_).mono ?_
  · show 1 * (k - ds.length) ≤ _; omega
  rintro e w2 ⟨rfl, hb2⟩
  have hbb := bl_call hb1 hb2
  rw [repeat_char]
  go_wp2_with fail
  go_ret
  refine ⟨?_, hbb⟩
  show Ending.returned (.string ⟨((Array.replicate (k - ds.length) 48).toList ++ ds).toArray⟩) = _
  rw [Array.toList_replicate]
structure PadOk (n k : Int) : Prop where
  h0 : 0 ≤ n
  hn : n.toNat < 10 ^ k.toNat
  hk : 1 ≤ k
  hk4 : k ≤ 4
theorem pad4 {n : Int} (h0 : 0 ≤ n) (h1 : n ≤ 9999) : PadOk n 4 := ⟨h0, by show n.toNat < 10 ^ 4; omega, by omega, by omega⟩
theorem pad2 {n : Int} (h0 : 0 ≤ n) (h1 : n ≤ 99) : PadOk n 2 := ⟨h0, by show n.toNat < 10 ^ 2; omega, by omega, by omega⟩
theorem pad_int (n k : Int) (w : World) (hT : GT w) (h : PadOk n k) :
    Calls Tryd.prog 78 #[.int .i64 n, .int .i64 k] w fun e w' => e = .returned (.string ⟨(digL n.toNat k.toNat).toArray⟩) ∧ Below w.heap.size w w' := by
  have h1 := h.hk
  have h2 := h.hk4
  have hp := pad_any n.toNat k.toNat w hT h.hn (by omega) (by omega)
  rwa [Int.toNat_of_nonneg h.h0, Int.toNat_of_nonneg (by omega)] at hp
theorem text_cat (a b c : List UInt8) : (ByteArray.mk a.toArray) ++ ⟨#[45]⟩ ++ ⟨b.toArray⟩ ++ ⟨#[45]⟩ ++ ⟨c.toArray⟩ = ⟨(a ++ 45 :: (b ++ 45 :: c)).toArray⟩ := by
  apply ByteArray.ext; simp
set_option maxHeartbeats 400000 in
set_option maxRecDepth 100000 in
theorem text_yes (y m d : Int) (w : World) (hT : GT w) (hg : goodB y m d = true) :
    Calls Tryd.prog 44 #[.agg #[.int .i64 y, .int .i64 m, .int .i64 d]] w fun e w' => e = .returned (.string ⟨(dayL y m d).toArray⟩) ∧ Below w.heap.size w w' := by
  obtain ⟨g1, g2, g3, g4, g5, g6, g7⟩ := good_of hg
  have hG0 := hT.below (bl_alloc (bl_refl w) (.cells #[.int .i64 y, .int .i64 m, .int .i64 d] 24))
  go_enter Tryd.func44, Tryd.ntmps44
  go_wp2_with (go_at_call 77; refine (good_any _ _ _ _).mono ?_; rintro e w1 ⟨rfl, hb1⟩; rw [hg]; (have kb := (Blk.new w 24 #[.int .i64 y, .int .i64 m, .int .i64 d]).call hb1); obtain ⟨c0, c1, c2, _, _, _⟩ := kb.c3)
  have hbw := LB.mk (bl_call (bl_alloc (bl_refl w) _) hb1)
  have hlen := digL_len
  have py := pad4 (n := y) (by omega) (by omega)
  have pm := pad2 (n := m) (by omega) (by omega)
  have pd := pad2 (n := d) (by omega) (by omega)
  clear kb g1 g3 g4 g5 g6 g7 hG0 hb1
  go_region_held3 (fun w' => w'.cell? ⟨w.heap.size, 0, none⟩ = some (.int .i64 y) ∧ w'.cell? ⟨w.heap.size, 1, none⟩ = some (.int .i64 m) ∧ w'.cell? ⟨w.heap.size, 2, none⟩ = some (.int .i64 d) ∧ LB w w')
    (first
      | (refine ⟨?_, ?_, ?_, ?_⟩ <;> (first | assumption | (go_keep; done) | exact LB.drew (by assumption) | (refine cell_keep ?_ hb6; assumption) | (refine LB.call ?_ hb6; assumption))))
    ((go_at_call 78; go_split_ands; refine (pad_int _ _ _ (hT.below (LB.out (by assumption))) (by assumption)).mono ?_; rintro e w6 ⟨rfl, hb6⟩))
  all_goals
    go_split_ands
    go_wp2_with fail
    go_ret
    refine ⟨?_, LB.out (by assumption)⟩
    exact congrArg (fun b => Ending.returned (.string b)) (text_cat _ _ _)
set_option maxRecDepth 100000 in
theorem text_no (y m d : Int) (w : World) (hg : goodB y m d = false) :
    Calls Tryd.prog 44 #[.agg #[.int .i64 y, .int .i64 m, .int .i64 d]] w fun e w' => e = .returned (.string ⟨#[]⟩) ∧ Below w.heap.size w w' := by
  go_enter Tryd.func44, Tryd.ntmps44
  go_wp2_with (go_at_call 77; refine (good_any _ _ _ _).mono ?_; rintro e w1 ⟨rfl, hb1⟩; rw [hg])
  go_ret
  exact ⟨rfl, bl_call (bl_alloc (bl_refl w) _) hb1⟩
theorem text_any (y m d : Int) (w : World) (hT : GT w) :
    Calls Tryd.prog 44 #[.agg #[.int .i64 y, .int .i64 m, .int .i64 d]] w fun e w' => e = .returned (.string ⟨(textL y m d).toArray⟩) ∧ Below w.heap.size w w' := by
  cases hg : goodB y m d with
  | true => simpa only [textL, hg, if_true] using text_yes y m d w hT hg
  | false =>
    have h := text_no y m d w hg
    simpa [textL, hg] using h
end Go.Proofs.YtcgkfgklggjmaaaDoor
end
section
namespace Go.Proofs.YtcgkfgklggjmaaaDoor
set_option linter.unusedVariables false
set_option linter.unusedSimpArgs false
open Go.RowKit
theorem one_byte (w : World) (N : Nat) (h : (48 + (N : Int) % 10) = ((UInt8.ofNat (48 + N % 10)).toNat : Int)) :
    (convert 86 9 (.slice (some ⟨w.heap.size, 0, none⟩) 1 1)).run Tryd.prog (w.alloc (.cells #[.int .u8 (48 + (N : Int) % 10)] 5)) = .ok (.string ⟨#[UInt8.ofNat (48 + N % 10)]⟩) (w.alloc (.cells #[.int .u8 (48 + (N : Int) % 10)] 5)) := by
  refine run_convert_bytes_back _ _ _ 5 ⟨w.heap.size, 0, none⟩ 1 [UInt8.ofNat (48 + N % 10)] Tryd.underlying86 Tryd.underlying5 Tryd.underlying9 fun j hj => ?_
  obtain rfl : j = 0 := by simpa using hj
  have hb := (Blk.new w 5 #[.int .u8 (48 + (N : Int) % 10)]).cell 0
  simp only [List.getElem_cons_zero, ← h]
  exact hb
set_option maxHeartbeats 2000000 in
set_option maxRecDepth 100000 in
theorem rdigits_any (n k : Nat) (w : World) (hn : n ≤ 9999) (hk : k ≤ 4) :
    Calls Tryd.prog 63 #[.int .i64 n, .int .i64 k] w fun e w' => e = .returned (.string ⟨(digL n k).toArray⟩) ∧ Below w.heap.size w w' := by
  obtain ⟨ds, hds⟩ : ∃ ds, digL n k = ds := ⟨_, rfl⟩
  rw [hds]
  have HD := Lib.hid hds
  clear hds
  go_enter Tryd.func63, Tryd.ntmps63
  go_wp2_with fail
  go_loopw [0, 5, 6] (fun v0 v5 v6 wr => ∃ (i N : Nat) (s : List UInt8), i ≤ k ∧ N ≤ 9999 ∧ s.length ≤ i ∧ v6 = .int .i64 i ∧ v0 = .int .i64 N ∧ v5 = .string ⟨s.toArray⟩ ∧ Hid (digL N (k - i) ++ s = ds) ∧ Below w.heap.size w wr) (fun _ _ v6 _ => k - (intOf v6).toNat)
  case atStart => exact ⟨0, n, [], Nat.zero_le _, hn, Nat.le_refl _, rfl, rfl, rfl, Lib.hid (by rw [Nat.sub_zero, List.append_nil]; exact HD.out), bl_refl w⟩
  case round =>
    obtain ⟨i, N, s, hi, hN, hsl, rfl, rfl, rfl, HI, hbw⟩ := hrel
    by_cases hlt : i < k
    · have hu : (48 + (N : Int) % 10) = ((UInt8.ofNat (48 + N % 10)).toNat : Int) := by
        rw [UInt8.toNat_ofNat_of_lt' (show 48 + N % 10 < 256 by omega)]; omega
      have hcv := one_byte wr N hu
      clear hu
      have hov : ¬ 9223372036854775807 < 1 + s.length := by omega
      go_wp2_with fail
      go_roundw
      case rel =>
        refine ⟨i + 1, N / 10, UInt8.ofNat (48 + N % 10) :: s, by omega, by omega, by simpa using hsl, by go_num, by go_num, ?_, Lib.hid ?_, bl_alloc hbw _⟩
        · refine congrArg Value.string ?_
          apply ByteArray.ext; simp
        · rw [← HI.out, show k - i = (k - (i + 1)) + 1 from by omega, digL, List.append_assoc]
          rfl
      case measure => simp [intOf]; omega
    · obtain rfl : i = k := by omega
      have hf := HI.out
      rw [Nat.sub_self, digL, List.nil_append] at hf
      subst hf
      go_wp2_with fail
      go_ret
      exact ⟨rfl, hbw⟩
theorem rdigits_int (n k : Int) (w : World) (h : PadOk n k) :
    Calls Tryd.prog 63 #[.int .i64 n, .int .i64 k] w fun e w' => e = .returned (.string ⟨(digL n.toNat k.toNat).toArray⟩) ∧ Below w.heap.size w w' := by
  have h1 := h.hk
  have h2 := h.hk4
  have h3 := lt_ten h.hn (show k.toNat ≤ 4 by omega)
  have hp := rdigits_any n.toNat k.toNat w (by omega) (by omega)
  rwa [Int.toNat_of_nonneg h.h0, Int.toNat_of_nonneg (by omega)] at hp
set_option maxHeartbeats 400000 in
set_option maxRecDepth 100000 in
theorem rtext_yes (y m d : Int) (w : World) (hg : goodB y m d = true) :
    Calls Tryd.prog 27 #[.agg #[.int .i64 y, .int .i64 m, .int .i64 d]] w fun e w' => e = .returned (.string ⟨(dayL y m d).toArray⟩) ∧ Below w.heap.size w w' := by
  obtain ⟨g1, g2, g3, g4, g5, g6, g7⟩ := good_of hg
  go_enter Tryd.func27, Tryd.ntmps27
  go_wp2_with (go_at_call 62; refine (rgood_any _ _ _ _).mono ?_; rintro e w1 ⟨rfl, hb1⟩; rw [hg]; (have kb := (Blk.new w 24 #[.int .i64 y, .int .i64 m, .int .i64 d]).call hb1); obtain ⟨c0, c1, c2, _, _, _⟩ := kb.c3)
  have hbw := LB.mk (bl_call (bl_alloc (bl_refl w) _) hb1)
  have hlen := digL_len
  have py := pad4 (n := y) (by omega) (by omega)
  have pm := pad2 (n := m) (by omega) (by omega)
  have pd := pad2 (n := d) (by omega) (by omega)
  clear kb g1 g3 g4 g5 g6 g7 hb1
  go_region_held3 (fun w' => w'.cell? ⟨w.heap.size, 0, none⟩ = some (.int .i64 y) ∧ w'.cell? ⟨w.heap.size, 1, none⟩ = some (.int .i64 m) ∧ w'.cell? ⟨w.heap.size, 2, none⟩ = some (.int .i64 d) ∧ LB w w')
    (first
      | (refine ⟨?_, ?_, ?_, ?_⟩ <;> (first | assumption | (go_keep; done) | exact LB.drew (by assumption) | (refine cell_keep ?_ hb6; assumption) | (refine LB.call ?_ hb6; assumption))))
    ((go_at_call 63; go_split_ands; refine (rdigits_int _ _ _ (by assumption)).mono ?_; rintro e w6 ⟨rfl, hb6⟩))
  all_goals
    go_split_ands
    go_wp2_with fail
    go_ret
    refine ⟨?_, LB.out (by assumption)⟩
    exact congrArg (fun b => Ending.returned (.string b)) (text_cat _ _ _)
set_option maxRecDepth 100000 in
theorem rtext_no (y m d : Int) (w : World) (hg : goodB y m d = false) :
    Calls Tryd.prog 27 #[.agg #[.int .i64 y, .int .i64 m, .int .i64 d]] w fun e w' => e = .returned (.string ⟨#[]⟩) ∧ Below w.heap.size w w' := by
  go_enter Tryd.func27, Tryd.ntmps27
  go_wp2_with (go_at_call 62; refine (rgood_any _ _ _ _).mono ?_; rintro e w1 ⟨rfl, hb1⟩; rw [hg])
  go_ret
  exact ⟨rfl, bl_call (bl_alloc (bl_refl w) _) hb1⟩
theorem rtext_any (y m d : Int) (w : World) :
    Calls Tryd.prog 27 #[.agg #[.int .i64 y, .int .i64 m, .int .i64 d]] w fun e w' => e = .returned (.string ⟨(textL y m d).toArray⟩) ∧ Below w.heap.size w w' := by
  cases hg : goodB y m d with
  | true => simpa only [textL, hg, if_true] using rtext_yes y m d w hg
  | false =>
    have h := rtext_no y m d w hg
    simpa [textL, hg] using h
end Go.Proofs.YtcgkfgklggjmaaaDoor
end
section
namespace Go.Proofs.YtcgkfgklggjmaaaDoor.Dec
set_option linter.unusedVariables false
set_option linter.unusedSimpArgs false
open Go.RowKit
theorem one_byte (w : World) (N : Nat) (h : (48 + (N : Int) % 10) = ((UInt8.ofNat (48 + N % 10)).toNat : Int)) :
    (convert 86 9 (.slice (some ⟨w.heap.size, 0, none⟩) 1 1)).run Tryd.prog (w.alloc (.cells #[.int .u8 (48 + (N : Int) % 10)] 5)) = .ok (.string ⟨#[UInt8.ofNat (48 + N % 10)]⟩) (w.alloc (.cells #[.int .u8 (48 + (N : Int) % 10)] 5)) := by
  refine run_convert_bytes_back _ _ _ 5 ⟨w.heap.size, 0, none⟩ 1 [UInt8.ofNat (48 + N % 10)] Tryd.underlying86 Tryd.underlying5 Tryd.underlying9 fun j hj => ?_
  obtain rfl : j = 0 := by simpa using hj
  have hb := (Blk.new w 5 #[.int .u8 (48 + (N : Int) % 10)]).cell 0
  simp only [List.getElem_cons_zero, ← h]
  exact hb
set_option maxHeartbeats 4000000 in
set_option maxRecDepth 100000 in
theorem rtext_any (n places : Int) (w : World) (hn : n ≤ 9223372036854775807) :
    Calls Tryd.prog 64 #[.int .i64 n, .int .i64 places] w fun e w' => e = .returned (.string ⟨(textL n places).toArray⟩) ∧ Below w.heap.size w w' := by
  by_cases hbad : n < 0 ∨ places < 0 ∨ 9 < places
  · have e1 := text_bad hbad
    rw [e1]
    have hcc : n < 0 ∨ (0 ≤ n ∧ places < 0) ∨ (0 ≤ n ∧ 0 ≤ places ∧ 9 < places) := by omega
    clear hbad e1
    rcases hcc with h | ⟨h0, h⟩ | ⟨h0, h1, h⟩
    all_goals
      go_enter Tryd.func64, Tryd.ntmps64
      go_wp2_with fail
      go_ret
      exact ⟨rfl, bl_refl w⟩
  · obtain ⟨k, hk⟩ : ∃ k : Nat, places = (k : Int) := ⟨places.toNat, by omega⟩
    obtain ⟨N, hN⟩ : ∃ N : Nat, n = (N : Int) := ⟨n.toNat, by omega⟩
    subst hk hN
    rw [text_good N k (by omega)]
    obtain ⟨T, hT⟩ : ∃ T, textN N k = T := ⟨_, rfl⟩
    rw [hT]
    have HT := Lib.hid hT
    clear hT
    have hk9 : ¬ 9 < (k : Int) := by omega
    go_enter Tryd.func64, Tryd.ntmps64
    go_wp2_with fail
    go_loopw [0, 5, 6] (fun v0 v5 v6 wr => ∃ i : Nat, i ≤ k ∧ v6 = .int .i64 i ∧ v0 = .int .i64 ((N / 10 ^ i : Nat) : Int) ∧ v5 = .string ⟨(fracL N i).toArray⟩ ∧ Below w.heap.size w wr) (fun _ _ v6 _ => k - (intOf v6).toNat)
    case atStart => exact ⟨0, Nat.zero_le _, rfl, by simp, rfl, bl_refl w⟩
    case round =>
      obtain ⟨i, hi, rfl, rfl, rfl, hbw⟩ := hrel
      by_cases hlt : i < k
      · have hfs := frac_succ N i
        have hdv : N / 10 ^ (i + 1) = N / 10 ^ i / 10 := by rw [Nat.pow_succ, Nat.div_div_eq_div_mul]
        have hMb : N / 10 ^ i < 9223372036854775808 := Nat.lt_of_le_of_lt (Nat.div_le_self _ _) (by omega)
        have hfl := frac_len N i
        generalize N / 10 ^ i = M at *
        have HDV := Lib.hid hdv
        clear hdv
        by_cases hz : fracL N i = [] ∧ M % 10 = 0
        · rw [if_pos hz] at hfs
          have HFS := Lib.hid hfs
          rw [hz.1]
          have hm0 : ((M : Int) % 10) = 0 := by omega
          clear hfs hz hfl
          go_wp2_with fail
          go_roundw
          case rel => exact ⟨i + 1, by omega, by go_num, by rw [HDV.out]; go_num, by rw [HFS.out], hbw⟩
          case measure => simp [intOf]; omega
        · rw [if_neg hz] at hfs
          have HFS := Lib.hid hfs
          have hu : (48 + (M : Int) % 10) = ((UInt8.ofNat (48 + M % 10)).toNat : Int) := by
            rw [UInt8.toNat_ofNat_of_lt' (show 48 + M % 10 < 256 by omega)]; omega
          have hcv := one_byte wr M hu
          clear hu hfs
          have hcase : (fracL N i = [] ∧ ((M : Int) % 10 != 0) = true) ∨ ∃ c r, fracL N i = c :: r ∧ r.length ≤ 9 := by
            cases hF : fracL N i with
            | nil => exact .inl ⟨rfl, by rw [bne_iff_ne]; intro e; exact hz ⟨hF, by omega⟩⟩
            | cons c r => exact .inr ⟨c, r, rfl, by rw [hF] at hfl; simp at hfl; omega⟩
          clear hz hfl
          rcases hcase with ⟨hF, hm⟩ | ⟨c, r, hF, hrl⟩
          · rw [hF] at HFS ⊢
            go_wp2_with fail
            go_roundw
            case rel =>
              refine ⟨i + 1, by omega, by go_num, by rw [HDV.out]; go_num, ?_, bl_alloc hbw _⟩
              rw [HFS.out]
              refine congrArg Value.string ?_
              apply ByteArray.ext; simp
            case measure => simp [intOf]; omega
          · rw [hF] at HFS ⊢
            have hov : ¬ 9223372036854775807 < 1 + (r.length + 1) := by omega
            go_wp2_with fail
            go_roundw
            case rel =>
              refine ⟨i + 1, by omega, by go_num, by rw [HDV.out]; go_num, ?_, bl_alloc hbw _⟩
              rw [HFS.out]
              refine congrArg Value.string ?_
              apply ByteArray.ext; simp
            case measure => simp [intOf]; omega
      · obtain rfl : i = k := by omega
        have hT := HT.out
        unfold textN at hT
        have hMb : N / 10 ^ i < 9223372036854775808 := Nat.lt_of_le_of_lt (Nat.div_le_self _ _) (by omega)
        have hfl := frac_len N i
        generalize N / 10 ^ i = M at *
        have hcase : (fracL N i = [] ∧ tailL (fracL N i) = []) ∨ ∃ c r, fracL N i = c :: r ∧ r.length ≤ 9 ∧ tailL (fracL N i) = 46 :: c :: r := by
          cases hF : fracL N i with
          | nil => exact .inl ⟨rfl, rfl⟩
          | cons c r => exact .inr ⟨c, r, rfl, by rw [hF] at hfl; simp at hfl; omega, by unfold tailL; rw [if_neg (by simp)]⟩
        have hTl : T.length ≤ 40 := by
          rw [← hT, List.length_append]
          have h1 : (Lib.decDigits M).length ≤ 20 := by rw [Lib.decDigits_length]; exact Lib.nDigits_le20 _ (by omega)
          have h2 : (tailL (fracL N i)).length ≤ 11 := by
            rcases hcase with ⟨_, h⟩ | ⟨c, r, _, h1, h⟩
            · rw [h]; simp
            · rw [h]; simp; omega
          omega
        clear HT hfl
        rcases hcase with ⟨hF, hL⟩ | ⟨c, r, hF, hrl, hL⟩
        · rw [hL] at hT
          rw [hF]
          have HT := Lib.hid hT
          clear hT hL hF
          go_wp2_with fail
          go_loopw [0, 5] (fun v0 v5 wq => ∃ (m : Nat) (R : List UInt8), m < 9223372036854775808 ∧ R.length ≤ 40 ∧ v0 = .int .i64 m ∧ v5 = .string ⟨R.toArray⟩ ∧ Hid (Lib.decDigits m ++ R = T) ∧ Below w.heap.size w wq) (fun v0 _ _ => (intOf v0).toNat)
          case atStart => exact ⟨M, [], hMb, by simp; try omega, rfl, rfl, HT, hbw⟩
          case round =>
            obtain ⟨m, R, hm, hRl, rfl, rfl, HR, hbq⟩ := hrel
            have hu : (48 + (m : Int) % 10) = ((UInt8.ofNat (48 + m % 10)).toNat : Int) := by
              rw [UInt8.toNat_ofNat_of_lt' (show 48 + m % 10 < 256 by omega)]; omega
            have hcv := one_byte wr m hu
            clear hu
            have hov : ¬ 9223372036854775807 < 1 + R.length := by omega
            by_cases hm10 : m < 10
            · have hr := HR.out
              rw [Lib.decDigits_one hm10] at hr
              have hmm : m % 10 = m := Nat.mod_eq_of_lt hm10
              have hfin : (ByteArray.mk #[UInt8.ofNat (48 + m % 10)]) ++ (ByteArray.mk R.toArray) = ⟨T.toArray⟩ := by
                rw [← hr, hmm]; apply ByteArray.ext; simp
              have HFIN := Lib.hid hfin
              have hmd : (m : Int) / 10 = 0 := by omega
              clear hr hmm hfin HR
              go_wp2_with fail
              go_ret
              refine ⟨?_, bl_alloc hbq _⟩
              refine congrArg (fun b => Ending.returned (.string b)) ?_
              have h := HFIN.out
              rw [UInt8.ofNat_add] at h
              exact h
            · have hr := HR.out
              rw [Lib.decDigits, dif_neg hm10, List.append_assoc] at hr
              have HR2 := Lib.hid hr
              have hlen2 : R.length + 1 ≤ 40 := by
                have := congrArg List.length hr
                simp only [List.length_append, List.length_cons, List.length_nil] at this
                have h1 : 1 ≤ (Lib.decDigits (m / 10)).length := List.length_pos_iff.2 (dec_ne _)
                omega
              have hmd : (((m : Int) / 10) == 0) = false := by rw [beq_eq_false_iff_ne]; omega
              clear hr HR
              go_wp2_with fail
              go_roundw
              case rel =>
                refine ⟨m / 10, UInt8.ofNat (48 + m % 10) :: R, by omega, by simp; omega, by go_num, ?_, HR2, bl_alloc hbq _⟩
                refine congrArg Value.string ?_
                apply ByteArray.ext; simp
              case measure => simp [intOf]; omega
        · rw [hL] at hT
          rw [hF]
          have HT := Lib.hid hT
          clear hT hL hF
          have hov0 : ¬ 9223372036854775807 < 1 + (r.length + 1) := by omega
          go_wp2_with fail
          go_loopw [0, 5] (fun v0 v5 wq => ∃ (m : Nat) (R : List UInt8), m < 9223372036854775808 ∧ R.length ≤ 40 ∧ v0 = .int .i64 m ∧ v5 = .string ⟨R.toArray⟩ ∧ Hid (Lib.decDigits m ++ R = T) ∧ Below w.heap.size w wq) (fun v0 _ _ => (intOf v0).toNat)
          case atStart => exact ⟨M, 46 :: c :: r, hMb, by simp; try omega, rfl, by refine congrArg Value.string ?_; apply ByteArray.ext; simp, HT, hbw⟩
          case round =>
            obtain ⟨m, R, hm, hRl, rfl, rfl, HR, hbq⟩ := hrel
            have hu : (48 + (m : Int) % 10) = ((UInt8.ofNat (48 + m % 10)).toNat : Int) := by
              rw [UInt8.toNat_ofNat_of_lt' (show 48 + m % 10 < 256 by omega)]; omega
            have hcv := one_byte wr m hu
            clear hu
            have hov : ¬ 9223372036854775807 < 1 + R.length := by omega
            by_cases hm10 : m < 10
            · have hr := HR.out
              rw [Lib.decDigits_one hm10] at hr
              have hmm : m % 10 = m := Nat.mod_eq_of_lt hm10
              have hfin : (ByteArray.mk #[UInt8.ofNat (48 + m % 10)]) ++ (ByteArray.mk R.toArray) = ⟨T.toArray⟩ := by
                rw [← hr, hmm]; apply ByteArray.ext; simp
              have HFIN := Lib.hid hfin
              have hmd : (m : Int) / 10 = 0 := by omega
              clear hr hmm hfin HR
              go_wp2_with fail
              go_ret
              refine ⟨?_, bl_alloc hbq _⟩
              refine congrArg (fun b => Ending.returned (.string b)) ?_
              have h := HFIN.out
              rw [UInt8.ofNat_add] at h
              exact h
            · have hr := HR.out
              rw [Lib.decDigits, dif_neg hm10, List.append_assoc] at hr
              have HR2 := Lib.hid hr
              have hlen2 : R.length + 1 ≤ 40 := by
                have := congrArg List.length hr
                simp only [List.length_append, List.length_cons, List.length_nil] at this
                have h1 : 1 ≤ (Lib.decDigits (m / 10)).length := List.length_pos_iff.2 (dec_ne _)
                omega
              have hmd : (((m : Int) / 10) == 0) = false := by rw [beq_eq_false_iff_ne]; omega
              clear hr HR
              go_wp2_with fail
              go_roundw
              case rel =>
                refine ⟨m / 10, UInt8.ofNat (48 + m % 10) :: R, by omega, by simp; omega, by go_num, ?_, HR2, bl_alloc hbq _⟩
                refine congrArg Value.string ?_
                apply ByteArray.ext; simp
              case measure => simp [intOf]; omega
end Go.Proofs.YtcgkfgklggjmaaaDoor.Dec
end
section
namespace Go.Proofs.YtcgkfgklggjmaaaDoor.Dec
set_option linter.unusedVariables false
set_option linter.unusedSimpArgs false
open Go.RowKit
theorem itoaG_any (n : Nat) (w : World) (hT : GT w) (h : n < 9223372036854775808) :
    Calls Tryd.prog 22 #[.int .i64 n] w fun e w' => e = .returned (.string ⟨(Lib.decDigits n).toArray⟩) ∧ Below w.heap.size w w' := by
  refine (Tryd.strconv_Itoa n (by omega) (by omega) w hT).mono ?_
  rintro e w1 ⟨rfl, q, os, rfl⟩
  rw [Lib.itoa_nonneg]
  exact ⟨rfl, bl_growN (bl_refl w) q os⟩
set_option maxHeartbeats 4000000 in
set_option maxRecDepth 100000 in
theorem dtextG_any (n places : Int) (w : World) (hT : GT w) (hn : n ≤ 9223372036854775807) :
    Calls Tryd.prog 118 #[.int .i64 n, .int .i64 places] w fun e w' => e = .returned (.string ⟨(textL n places).toArray⟩) ∧ Below w.heap.size w w' := by
  by_cases hbad : n < 0 ∨ places < 0 ∨ 9 < places
  · have e1 : textL n places = [] := by unfold textL; rw [if_pos hbad]
    rw [e1]
    have hcc : n < 0 ∨ (0 ≤ n ∧ places < 0) ∨ (0 ≤ n ∧ 0 ≤ places ∧ 9 < places) := by omega
    clear hbad e1
    rcases hcc with h | ⟨h0, h⟩ | ⟨h0, h1, h⟩
    all_goals
      go_enter Tryd.func118, Tryd.ntmps118
      go_wp2_with fail
      go_ret
      exact ⟨rfl, bl_refl w⟩
  · obtain ⟨k, hk⟩ : ∃ k : Nat, places = (k : Int) := ⟨places.toNat, by omega⟩
    obtain ⟨N, hN⟩ : ∃ N : Nat, n = (N : Int) := ⟨n.toNat, by omega⟩
    subst hk hN
    have hk9 : k ≤ 9 := by omega
    have hN' : N < 9223372036854775808 := by omega
    have e1 : textL N k = Lib.decDigits (N / 10 ^ k) ++ tailL (fracL N k) := by unfold textL textN; rw [if_neg hbad, Int.toNat_natCast, Int.toNat_natCast]
    have hpp : 0 < 10 ^ k := Nat.pow_pos (by decide)
    have hp := pow_bd k hk9
    have hq : ((N : Int).tdiv ((10 ^ k : Nat) : Int)) = ((N / 10 ^ k : Nat) : Int) := by rw [Int.ofNat_tdiv]
    have hr : ((N : Int).tmod ((10 ^ k : Nat) : Int)) = ((N % 10 ^ k : Nat) : Int) := by rw [Int.ofNat_tmod]
    have hql : N / 10 ^ k < 9223372036854775808 := Nat.lt_of_le_of_lt (Nat.div_le_self _ _) hN'
    have hrl : N % 10 ^ k < 10 ^ k := Nat.mod_lt _ hpp
    have hrb : N % 10 ^ k < 9223372036854775808 := Nat.lt_of_le_of_lt (Nat.mod_le _ _) hN'
    have hf := frac_nil k N
    have hpd : N % 10 ^ k ≠ 0 → (Lib.decDigits (N % 10 ^ k)).length ≤ k ∧ List.replicate (k - (Lib.decDigits (N % 10 ^ k)).length) 48 ++ Lib.decDigits (N % 10 ^ k) = digL N k := fun h => by
      have hk1 : 1 ≤ k := by
        cases k with
        | zero => exact absurd (Nat.mod_one N) h
        | succ k => omega
      have := pad_eq k _ hrl hk1
      rw [digL_mod] at this
      exact this
    have hkk := fun v => power_any k v hk9
    rw [e1]
    obtain ⟨f, hfr⟩ : ∃ f, fracL N k = f := ⟨_, rfl⟩
    have hft : Lib.trimRightB (digL N k) 48 = f := hfr
    have hfl : f.length ≤ k := by rw [← hfr]; exact frac_len N k
    have hDl : (digL N k).length = k := digL_len k N
    rw [hfr] at hf ⊢
    clear e1 hbad hfr
    have hb1 : ¬ (N : Int) < 0 := by omega
    generalize hP : ((10 ^ k : Nat) : Int) = P at *
    have hPne : ¬ P = 0 := by omega
    have hPn1 : ¬ P = -1 := by omega
    clear hP hrl
    generalize N / 10 ^ k = q at *
    generalize N % 10 ^ k = r at *
    generalize digL N k = D at *
    have hwq : IntKind.i64.wrap (q : Int) = (q : Int) := by rw [IntKind.wrap_i64]; omega
    have hq21 : (Lib.decDigits q).length ≤ 20 := by rw [Lib.decDigits_length]; exact Lib.nDigits_le20 q (by omega)
    have hitq := fun v hb => itoaG_any q v (hT.below hb) hql
    generalize Lib.decDigits q = Q at *
    by_cases hr0 : r = 0
    · have hf0 : f = [] := hf.2 hr0
      subst hf0 hr0
      go_enter Tryd.func118, Tryd.ntmps118
      go_wp2_with fail
      refine (hkk _).mono ?_
      rintro e w1 ⟨rfl, rfl⟩
      go_wp2_with fail
      have hLB := LB.start w1
      go_region_held3 (fun w' => LB w1 w')
        (first | exact LB.drew (by assumption) | (refine LB.call ?_ hb6; assumption))
        ((go_at_call 22; refine (hitq _ (LB.out (by assumption))).mono ?_; rintro e w6 ⟨rfl, hb6⟩))
      all_goals
        rename_i hLB2
        go_wp2_with fail
        go_ret
        refine ⟨?_, LB.out (by assumption)⟩
        simp [tailL]
    · have hf0 : f ≠ [] := fun h => hr0 (hf.1 h)
      obtain ⟨pl, pd⟩ := hpd hr0
      have hrz : ((r : Nat) : Int) ≠ 0 := by omega
      have htl : tailL f = 46 :: f := by unfold tailL; rw [if_neg hf0]
      rw [htl]
      clear hpd hf htl hf0
      obtain ⟨ds, hds⟩ : ∃ ds, Lib.decDigits r = ds := ⟨_, rfl⟩
      have hit := fun v hb => itoaG_any r v (hT.below hb) hrb
      rw [hds] at pl pd hit
      have HDS := Lib.hid hds
      clear hds
      have hsz : (ByteArray.mk ds.toArray).size = ds.length := by simp [ByteArray.size]
      have hcat : (ByteArray.mk (Array.replicate (k - ds.length) (48 : UInt8))) ++ (ByteArray.mk ds.toArray) = ⟨D.toArray⟩ := by
        rw [← pd]; apply ByteArray.ext; simp
      have HC := Lib.hid hcat
      clear hcat pd
      have HFT := Lib.hid hft
      have eQ : (ByteArray.mk Q.toArray).size = Q.length := by simp [ByteArray.size]
      have eF : (ByteArray.mk f.toArray).size = f.length := by simp [ByteArray.size]
      have eD : (ByteArray.mk D.toArray).size = D.length := by simp [ByteArray.size]
      have eR : (ByteArray.mk (Array.replicate (k - ds.length) (48 : UInt8))).size = k - ds.length := by simp [ByteArray.size]
      have v1 : ¬ 9223372036854775807 < k - ds.length + ds.length := by omega
      have v2 : ¬ 9223372036854775807 < Q.length + 1 := by omega
      have v3 : ¬ 9223372036854775807 < Q.length + 1 + f.length := by omega
      clear hft
      have hc : (k : Int) - (ds.length : Int) = ((k - ds.length : Nat) : Int) := by omega
      go_enter Tryd.func118, Tryd.ntmps118
      go_wp2_with fail
      refine (hkk _).mono ?_
      rintro e w1 ⟨rfl, rfl⟩
      go_wp2_with fail
      have hLB := LB.start w1
      go_region_held3 (fun w' => LB w1 w')
        (first | exact LB.drew (by assumption) | (refine LB.call ?_ hb6; assumption))
        ((go_at_call 22; refine (hitq _ (LB.out (by assumption))).mono ?_; rintro e w6 ⟨rfl, hb6⟩))
      all_goals
        rename_i hLB2
        go_wp2_with fail
        refine (hit _ (LB.out (by assumption))).mono ?_
        rintro e w7 ⟨rfl, hb7⟩
        have hLB7 := LB.call hLB2 hb7
        go_wp2_with fail
        refine (Tryd.strings_Repeat _ (k - ds.length) _ (by omega) ?_).mono ?_
        · show 1 * (k - ds.length) ≤ _; omega
        rintro e w8 ⟨rfl, hb8⟩
        rw [repeat_char]
        have hLB8 := LB.call hLB7 hb8
        go_wp2_with fail
        rw [HC.out]
        refine (Tryd.strings_TrimRight_one ⟨D.toArray⟩ 48 (by decide) _ (by rw [eD]; omega)).mono ?_
        rintro e w9 ⟨rfl, rfl⟩
        rw [show Lib.trimRightB (ByteArray.mk D.toArray).data.toList 48 = f from HFT.out]
        go_wp2_with fail
        go_ret
        refine ⟨?_, hLB8.out⟩
        refine congrArg (fun b => Ending.returned (.string b)) ?_
        apply ByteArray.ext; simp
end Go.Proofs.YtcgkfgklggjmaaaDoor.Dec
end
section
namespace Go.Proofs.YtcgkfgklggjmaaaDoor.Par
set_option linter.unusedVariables false
set_option linter.unusedSimpArgs false
open Go.RowKit
/-- it answers a text of these bytes, not longer than m; what was there is as it was -/
def Says (l : List UInt8) (m : Nat) (w : World) (e : Ending) (w' : World) : Prop := ∃ s : ByteArray, e = .returned (.string s) ∧ s.data.toList = l ∧ s.size ≤ m ∧ Below w.heap.size w w'
theorem ba_size (l : List UInt8) : (⟨l.toArray⟩ : ByteArray).size = l.length := by simp [ByteArray.size]
theorem ba_len (s : ByteArray) : s.data.toList.length = s.size := by simp
theorem says_of {l : List UInt8} {m : Nat} (h : l.length ≤ m) {w : World} {e : Ending} {w' : World} (he : e = .returned (.string ⟨l.toArray⟩) ∧ Below w.heap.size w w') : Says l m w e w' := ⟨_, he.1, by simp, by rw [ba_size]; exact h, he.2⟩
theorem dayT_len (d : Day) : (dayT d).length ≤ 10 := by
  unfold dayT textL
  split
  · rw [dayL_len]; exact Nat.le_refl _
  · exact Nat.zero_le _
theorem digT_len {n : Int} (h0 : 0 ≤ n) (h : n ≤ 1000000000000) : (digT n).length ≤ 13 := Dec.dec_len n.toNat 13 (by omega) (by decide)
theorem decT_len {n : Int} (k : Int) (h : n ≤ 1000000000000) : (Dec.textL n k).length ≤ 30 := by
  unfold Dec.textL
  split
  · exact Nat.zero_le _
  · exact Dec.text_len _ _ (by omega) (by omega)
theorem modeL_len (m : Int) : (modeL m).length ≤ 8 := by
  unfold modeL
  split
  · decide
  split
  · decide
  split
  · decide
  split <;> decide
/-! the contracts in this form -/
theorem sday_any (d : Day) (w : World) : Calls Tryd.prog 27 #[.agg #[.int .i64 d.1, .int .i64 d.2.1, .int .i64 d.2.2]] w (Says (dayT d) 10 w) :=
  (rtext_any d.1 d.2.1 d.2.2 w).mono fun e w' h => says_of (dayT_len d) h
theorem sdig_any (n : Int) (w : World) (hD : Dec.GT w) (h0 : 0 ≤ n) (h : n ≤ 1000000000000) : Calls Tryd.prog 22 #[.int .i64 n] w (Says (digT n) 13 w) := by
  obtain ⟨N, rfl⟩ : ∃ N : Nat, n = N := ⟨n.toNat, by omega⟩
  exact (Dec.itoaG_any N w hD (by omega)).mono fun e w' he => says_of (digT_len h0 h) he
theorem sdec_any (n k : Int) (w : World) (h : n ≤ 1000000000000) : Calls Tryd.prog 64 #[.int .i64 n, .int .i64 k] w (Says (Dec.textL n k) 30 w) :=
  (Dec.rtext_any n k w (by omega)).mono fun e w' he => says_of (decT_len k h) he
set_option maxHeartbeats 4000000 in
set_option maxRecDepth 100000 in
theorem smode_any (m : Int) (w : World) : Calls Tryd.prog 65 #[.int .i64 m] w (Says (modeL m) 8 w) := by
  have hc : (m < 0 ∨ (0 ≤ m ∧ 3 < m)) ∨ m = 0 ∨ m = 1 ∨ m = 2 ∨ m = 3 := by omega
  rcases hc with (h | ⟨h0, h⟩) | rfl | rfl | rfl | rfl
  · have e1 : modeL m = [] := by unfold modeL; rw [if_neg (by omega), if_neg (by omega), if_neg (by omega), if_neg (by omega)]
    rw [e1]
    go_enter Tryd.func65, Tryd.ntmps65
    go_wp2_with fail
    go_ret
    exact ⟨_, rfl, rfl, by decide, bl_refl w⟩
  · have e1 : modeL m = [] := by unfold modeL; rw [if_neg (by omega), if_neg (by omega), if_neg (by omega), if_neg (by omega)]
    rw [e1]
    go_enter Tryd.func65, Tryd.ntmps65
    go_wp2_with fail
    go_ret
    exact ⟨_, rfl, rfl, by decide, bl_refl w⟩
  all_goals
    go_enter Tryd.func65, Tryd.ntmps65
    go_wp2_with fail
    go_ret
    exact ⟨_, rfl, rfl, by decide, bl_alloc (bl_refl w) _⟩
def winA (x : Win) : Array Value := #[.bool x.has, .int .i64 x.from_.1, .int .i64 x.from_.2.1, .int .i64 x.from_.2.2, .int .i64 x.to_.1, .int .i64 x.to_.2.1, .int .i64 x.to_.2.2]
set_option maxHeartbeats 4000000 in
set_option maxRecDepth 100000 in
theorem swin_any (x : Win) (w : World) : Calls Tryd.prog 28 #[.agg (winA x)] w (Says (winL x) 40 w) := by
  obtain ⟨has, ⟨a, b, c⟩, ⟨d, e, f⟩⟩ := x
  unfold winA
  simp only
  cases has with
  | false =>
    have e1 : winL ⟨false, (a, b, c), (d, e, f)⟩ = [] := by unfold winL; rw [if_neg (fun h => by cases h)]
    rw [e1]
    go_enter Tryd.func28, Tryd.ntmps28
    go_wp2_with fail
    go_ret
    exact ⟨_, rfl, rfl, by decide, bl_alloc (bl_refl w) _⟩
  | true =>
    have e1 : winL ⟨true, (a, b, c), (d, e, f)⟩ = [32, 102, 114, 111, 109, 32] ++ dayT (a, b, c) ++ [32, 116, 111, 32] ++ dayT (d, e, f) := by unfold winL; rw [if_pos rfl]
    have E1 := Lib.hid e1
    have h1 := fun W => sday_any (a, b, c) W
    have h2 := fun W => sday_any (d, e, f) W
    clear e1
    generalize dayT (a, b, c) = A at *
    generalize dayT (d, e, f) = B at *
    generalize winL ⟨true, (a, b, c), (d, e, f)⟩ = R at *
    have k1 := (Blk.new w 46 #[.bool true, .int .i64 a, .int .i64 b, .int .i64 c, .int .i64 d, .int .i64 e, .int .i64 f]).drew
    have hL := (LB.alloc (⟨bl_refl w⟩ : LB w w) (.cells #[.bool true, .int .i64 a, .int .i64 b, .int .i64 c, .int .i64 d, .int .i64 e, .int .i64 f] 46)).drew
    obtain ⟨x0, x1, x2, x3, x4, x5, x6, _, _, _, _, _, _, _⟩ := k1.c7
    go_enter Tryd.func28, Tryd.ntmps28
    go_wp2_with fail
    go_region_held3 (fun w' => w'.cell? ⟨w.heap.size, 0, none⟩ = some (.bool true) ∧ w'.cell? ⟨w.heap.size, 1, none⟩ = some (.int .i64 a) ∧ w'.cell? ⟨w.heap.size, 2, none⟩ = some (.int .i64 b) ∧ w'.cell? ⟨w.heap.size, 3, none⟩ = some (.int .i64 c) ∧ w'.cell? ⟨w.heap.size, 4, none⟩ = some (.int .i64 d) ∧ w'.cell? ⟨w.heap.size, 5, none⟩ = some (.int .i64 e) ∧ w'.cell? ⟨w.heap.size, 6, none⟩ = some (.int .i64 f))
      (refine ⟨?_, ?_, ?_, ?_, ?_, ?_, ?_⟩ <;> first | with_reducible assumption | (go_keep; done))
      ((first | (go_at_call 27; (with_reducible refine (h1 _).mono ?_); rintro e' w6 ⟨s1, rfl, hs1, hz1, hb6⟩; (have t1 : ¬ (9223372036854775807 < 6 + s1.size) := by omega); (have t2 : ¬ (9223372036854775807 < 6 + s1.size + 4) := by omega); (have j1 := k1.call hb6); (have hL6 := hL.call hb6); obtain ⟨y0, y1, y2, y3, y4, y5, y6, _, _, _, _, _, _, _⟩ := j1.c7) | (go_at_call 27; (with_reducible refine (h2 _).mono ?_); rintro e' w7 ⟨s2, rfl, hs2, hz2, hb7⟩; (have t3 : ¬ (9223372036854775807 < 6 + s1.size + 4 + s2.size) := by omega); (have j2 := j1.call hb7); (have hL7 := hL6.call hb7); obtain ⟨z0, z1, z2, z3, z4, z5, z6, _, _, _, _, _, _, _⟩ := j2.c7)))
    all_goals go_wp2_with fail
    all_goals go_ret
    all_goals exact ⟨_, rfl, by rw [E1.out, ← hs1, ← hs2]; simp, by simp only [ByteArray.size_append]; show 6 + s1.size + 4 + s2.size ≤ 40; omega, hL7.out⟩
end Go.Proofs.YtcgkfgklggjmaaaDoor.Par
end
section
namespace Go.Proofs.YtcgkfgklggjmaaaDoor.Par
set_option linter.unusedVariables false
set_option linter.unusedSimpArgs false
open Go.RowKit
/-- within the function: the charge's own block, and what was there -/
structure HW (w0 w : World) (T : TypeId) (C : Array Value) : Prop where
  lb : Below w0.heap.size w0 w
  kp : Blk w w0.heap.size T C
  dt : Dec.GT w
section
variable {w0 w w' : World} {T : TypeId} {C : Array Value}
theorem HW.alloc (h : HW w0 w T C) (o : Obj) : HW w0 (w.alloc o) T C := ⟨bl_alloc h.lb o, h.kp.alloc o, h.dt.below (bl_alloc (bl_refl _) o)⟩
theorem HW.drew (h : HW w0 w T C) : HW w0 w.drew T C := ⟨bl_drew h.lb, h.kp.drew, h.dt.below (bl_drew (bl_refl _))⟩
theorem HW.call (h : HW w0 w T C) (hb : Below w.heap.size w w') : HW w0 w' T C := ⟨bl_call h.lb hb, h.kp.call hb, h.dt.below hb⟩
theorem HW.row (h : HW w0 w T C) {B : Nat} {e : TypeId} {size n : Nat} {v : Value} {xs : List Value} (ho : w0.ownsRow B e size v n xs) : w.ownsRow B e size v n xs := own_keep ho fun g hg => h.lb.block g (ho.lt g hg).2
theorem HW.lt (h : HW w0 w T C) : w0.heap.size < w.heap.size := h.kp.lt
end
theorem ba_app (a b : ByteArray) : (a ++ b).data.toList = a.data.toList ++ b.data.toList := by simp
theorem alw_yes {c : Chg} (h : c.allow ≠ 0) : alwL c = [9, 97, 108, 108, 111, 119, 97, 110, 99, 101, 32] ++ digT c.allow ++ [59, 10] := by unfold alwL; rw [if_pos h]
theorem blk_yes {c : Chg} (h : c.block ≠ 1) : blkL c = [9, 98, 108, 111, 99, 107, 32] ++ digT c.block ++ [59, 10] := by unfold blkL; rw [if_pos h]
set_option maxHeartbeats 16000000 in
set_option maxRecDepth 100000 in
theorem schg_any (c : Chg) (tv av : Value) {B : Nat} (w : World) (hD : Dec.GT w) (ht : TiersLie B w tv c.tiers) (ha : AdjsLie B w av c.adjs)
    (hna : 0 ≤ c.allow ∧ c.allow ≤ 1000000) (hnb : 0 ≤ c.block ∧ c.block ≤ 1000000) (hnt : ∀ t ∈ c.tiers, (0 ≤ t.upto ∧ t.upto ≤ 1000000) ∧ (0 ≤ t.rate ∧ t.rate ≤ 1000000000000)) (hnd : ∀ a ∈ c.adjs, 0 ≤ a.n ∧ a.n ≤ 1000000000000)
    (hm : c.meter.size ≤ 8192) (hl1 : c.tiers.length ≤ 10000) (hl2 : c.adjs.length ≤ 10000) :
    Calls Tryd.prog 29 #[.agg (chgC c.meter c.win c.allow c.block c.kind tv c.mode av c.line c.col)] w (Says (chgL c) 3000000 w) := by
  obtain ⟨At, ct, rfl, ht1, ht2, ht3⟩ := Lies.open (f := tierF) (l := c.tiers) (Lies.of ht)
  obtain ⟨Aa, ca, rfl, ha1, ha2, ha3⟩ := Lies.open (f := adjF) (l := c.adjs) (Lies.of ha)
  unfold chgC
  have hW0 : HW w (w.alloc (.cells #[.string c.meter, .bool c.win.has, .int .i64 c.win.from_.1, .int .i64 c.win.from_.2.1, .int .i64 c.win.from_.2.2, .int .i64 c.win.to_.1, .int .i64 c.win.to_.2.1, .int .i64 c.win.to_.2.2, .int .i64 c.allow, .int .i64 c.block, .int .i64 c.kind, .slice At c.tiers.length ct, .int .i64 c.mode, .slice Aa c.adjs.length ca, .int .i64 c.line, .int .i64 c.col] 52)) 52 #[.string c.meter, .bool c.win.has, .int .i64 c.win.from_.1, .int .i64 c.win.from_.2.1, .int .i64 c.win.from_.2.2, .int .i64 c.win.to_.1, .int .i64 c.win.to_.2.1, .int .i64 c.win.to_.2.2, .int .i64 c.allow, .int .i64 c.block, .int .i64 c.kind, .slice At c.tiers.length ct, .int .i64 c.mode, .slice Aa c.adjs.length ca, .int .i64 c.line, .int .i64 c.col] := ⟨bl_alloc (bl_refl w) _, Blk.new w _ _, hD.below (bl_alloc (bl_refl w) _)⟩
  have k1 := hW0.drew.kp
  obtain ⟨x0, x1, x2, x3, x4, x5, x6, x7, x8, x9, x10, x11, x12, x13, x14, x15, _, _, _, _, _, _, _, _, _, _, _, _, _, _, _, _⟩ := hW0.kp.c16
  have hwn := fun W => swin_any c.win W
  unfold winA at hwn
  go_enter Tryd.func29, Tryd.ntmps29
  go_upto_region 1 with fail
  generalize w.alloc (.cells #[.string c.meter, .bool c.win.has, .int .i64 c.win.from_.1, .int .i64 c.win.from_.2.1, .int .i64 c.win.from_.2.2, .int .i64 c.win.to_.1, .int .i64 c.win.to_.2.1, .int .i64 c.win.to_.2.2, .int .i64 c.allow, .int .i64 c.block, .int .i64 c.kind, .slice At c.tiers.length ct, .int .i64 c.mode, .slice Aa c.adjs.length ca, .int .i64 c.line, .int .i64 c.col] 52) = W0 at *
  have t1 : ¬ (9223372036854775807 < 7 + c.meter.size) := by omega
  go_region_held3 (fun w' => w'.cell? ⟨w.heap.size, 0, none⟩ = some (.string c.meter) ∧ w'.cell? ⟨w.heap.size, 1, none⟩ = some (.bool c.win.has) ∧ w'.cell? ⟨w.heap.size, 2, none⟩ = some (.int .i64 c.win.from_.1) ∧ w'.cell? ⟨w.heap.size, 3, none⟩ = some (.int .i64 c.win.from_.2.1) ∧ w'.cell? ⟨w.heap.size, 4, none⟩ = some (.int .i64 c.win.from_.2.2) ∧ w'.cell? ⟨w.heap.size, 5, none⟩ = some (.int .i64 c.win.to_.1) ∧ w'.cell? ⟨w.heap.size, 6, none⟩ = some (.int .i64 c.win.to_.2.1) ∧ w'.cell? ⟨w.heap.size, 7, none⟩ = some (.int .i64 c.win.to_.2.2))
    (refine ⟨?_, ?_, ?_, ?_, ?_, ?_, ?_, ?_⟩ <;> first | with_reducible assumption | (go_keep; done))
    ((first | (go_at_call 28; (with_reducible refine (hwn _).mono ?_); rintro e' w6 ⟨s1, rfl, hs1, hz1, hb6⟩; (have t2 : ¬ (9223372036854775807 < 7 + c.meter.size + s1.size) := by omega); (have t3 : ¬ (9223372036854775807 < 7 + c.meter.size + s1.size + 3) := by omega); (have hW6 := hW0.drew.call hb6); obtain ⟨y0, y1, y2, y3, y4, y5, y6, y7, y8, y9, y10, y11, y12, y13, y14, y15, _, _, _, _, _, _, _, _, _, _, _, _, _, _, _, _⟩ := hW6.kp.c16)))
  have hb1 : ((⟨#[99, 104, 97, 114, 103, 101, 32]⟩ : ByteArray) ++ c.meter ++ s1 ++ ⟨#[32, 123, 10]⟩).data.toList = chg1L c := by
    rw [ba_app, ba_app, ba_app, hs1]; rfl
  have hz1' : ((⟨#[99, 104, 97, 114, 103, 101, 32]⟩ : ByteArray) ++ c.meter ++ s1 ++ ⟨#[32, 123, 10]⟩).size ≤ 8300 := by
    simp only [ByteArray.size_append]; show 7 + c.meter.size + s1.size + 3 ≤ _; omega
  generalize (⟨#[99, 104, 97, 114, 103, 101, 32]⟩ : ByteArray) ++ c.meter ++ s1 ++ ⟨#[32, 123, 10]⟩ = b1 at *
  replace hb1 := Lib.hid hb1
  clear hwn hs1 hz1 hb6 t1 t2 t3 hW0 k1 x0 x1 x2 x3 x4 x5 x6 x7 x8 x9 x10 x11 x12 x13 x14 x15 y0 y1 y2 y3 y4 y5 y6 y7 y8 y9 y10 y11 y12 y13 y14 y15
  have q8 := (hW6.kp.c16).2.2.2.2.2.2.2.2.1
  go_upto_if 18 with fail
  go_cut [3] (fun v3 wx => ∃ b : ByteArray, v3 = .string b ∧ Hid (b.data.toList = chg1L c ++ alwL c) ∧ b.size ≤ 8400 ∧ HW w wx 52 #[.string c.meter, .bool c.win.has, .int .i64 c.win.from_.1, .int .i64 c.win.from_.2.1, .int .i64 c.win.from_.2.2, .int .i64 c.win.to_.1, .int .i64 c.win.to_.2.1, .int .i64 c.win.to_.2.2, .int .i64 c.allow, .int .i64 c.block, .int .i64 c.kind, .slice At c.tiers.length ct, .int .i64 c.mode, .slice Aa c.adjs.length ca, .int .i64 c.line, .int .i64 c.col])
  case first =>
    by_cases h : c.allow = 0
    · have hq : (c.allow != 0) = false := by simp [h]
      have ea : alwL c = [] := by unfold alwL; rw [if_neg (fun e => e h)]
      go_wp2_with fail
      go_meet
      exact ⟨b1, rfl, Lib.hid (by rw [ea, List.append_nil]; exact hb1.out), by omega, hW6⟩
    · have hq : (c.allow != 0) = true := by simp [h]
      have ea := alw_yes h
      go_wp2_with fail
      refine (sdig_any c.allow _ hW6.dt (by omega) (by omega)).mono ?_
      rintro e w7 ⟨s2, rfl, hs2, hz2, hb7⟩
      have hW7 := hW6.call hb7
      go_wp2_with fail
      go_meet
      refine ⟨_, rfl, Lib.hid ?_, ?_, hW7⟩
      · rw [ba_app, ba_app, ba_app, hb1.out, ea, hs2]; simp
      · simp only [ByteArray.size_append]; show b1.size + 11 + s2.size + 2 ≤ _; omega
  case rest =>
    obtain ⟨b2, rfl, hb2, hz2, hW7⟩ := hcut
    clear hb1 hz1' hW6 q8
    have q9 := (hW7.kp.c16).2.2.2.2.2.2.2.2.2.1
    have q5 := (hW7.kp.c16).2.2.2.2.2.2.2.2.2.2.1
    go_upto_if 28 with fail
    go_cut [3] (fun v3 wx => ∃ b : ByteArray, v3 = .string b ∧ Hid (b.data.toList = chg1L c ++ alwL c ++ blkL c) ∧ b.size ≤ 8500 ∧ HW w wx 52 #[.string c.meter, .bool c.win.has, .int .i64 c.win.from_.1, .int .i64 c.win.from_.2.1, .int .i64 c.win.from_.2.2, .int .i64 c.win.to_.1, .int .i64 c.win.to_.2.1, .int .i64 c.win.to_.2.2, .int .i64 c.allow, .int .i64 c.block, .int .i64 c.kind, .slice At c.tiers.length ct, .int .i64 c.mode, .slice Aa c.adjs.length ca, .int .i64 c.line, .int .i64 c.col])
    case first =>
      by_cases h : c.block = 1
      · have hq : (c.block != 1) = false := by simp [h]
        have ea : blkL c = [] := by unfold blkL; rw [if_neg (fun e => e h)]
        go_wp2_with fail
        go_meet
        exact ⟨b2, rfl, Lib.hid (by rw [ea, List.append_nil]; exact hb2.out), by omega, hW7⟩
      · have hq : (c.block != 1) = true := by simp [h]
        have ea := blk_yes h
        go_wp2_with fail
        refine (sdig_any c.block _ hW7.dt (by omega) (by omega)).mono ?_
        rintro e w8 ⟨s2, rfl, hs2, hz2, hb8⟩
        have hW8 := hW7.call hb8
        go_wp2_with fail
        go_meet
        refine ⟨_, rfl, Lib.hid ?_, ?_, hW8⟩
        · rw [ba_app, ba_app, ba_app, hb2.out, ea, hs2]; simp
        · simp only [ByteArray.size_append]; show b2.size + 7 + s2.size + 2 ≤ _; omega
    case rest =>
      obtain ⟨b3, rfl, hb3, hz3, hW8⟩ := hcut
      clear hb2 hz2 hW7 q9 q5
      have q10 := (hW8.kp.c16).2.2.2.2.2.2.2.2.2.2.1
      go_upto_if 38 with fail
      go_cut [3] (fun v3 wx => ∃ b : ByteArray, v3 = .string b ∧ Hid (b.data.toList = chg1L c ++ alwL c ++ blkL c ++ kindL c) ∧ b.size ≤ 8600 ∧ HW w wx 52 #[.string c.meter, .bool c.win.has, .int .i64 c.win.from_.1, .int .i64 c.win.from_.2.1, .int .i64 c.win.from_.2.2, .int .i64 c.win.to_.1, .int .i64 c.win.to_.2.1, .int .i64 c.win.to_.2.2, .int .i64 c.allow, .int .i64 c.block, .int .i64 c.kind, .slice At c.tiers.length ct, .int .i64 c.mode, .slice Aa c.adjs.length ca, .int .i64 c.line, .int .i64 c.col])
      case first =>
        by_cases h : c.kind = 2
        · have hq : (c.kind == 2) = true := by simp [h]
          have ea : kindL c = [9, 118, 111, 108, 117, 109, 101, 32, 123, 10] := by unfold kindL; rw [if_pos h]
          go_wp2_with fail
          go_meet
          refine ⟨_, rfl, Lib.hid ?_, ?_, hW8⟩
          · rw [ba_app, hb3.out, ea]
          · simp only [ByteArray.size_append]; show b3.size + 10 ≤ _; omega
        · have hq : (c.kind == 2) = false := by simp [h]
          have ea : kindL c = [9, 103, 114, 97, 100, 117, 97, 116, 101, 100, 32, 123, 10] := by unfold kindL; rw [if_neg h]
          go_wp2_with fail
          go_meet
          refine ⟨_, rfl, Lib.hid ?_, ?_, hW8⟩
          · rw [ba_app, hb3.out, ea]
          · simp only [ByteArray.size_append]; show b3.size + 13 ≤ _; omega
      case rest =>
        obtain ⟨b4, rfl, hb4, hz4, hW9⟩ := hcut
        clear hb3 hz3 hW8 q10
        have q11 := hW9.kp.c16.2.2.2.2.2.2.2.2.2.2.2.1
        go_wp2_with fail
        go_loopw [3, 46] (fun v3 v46 wr => ∃ (k : Nat) (b : ByteArray), k ≤ c.tiers.length ∧ v46 = .int .i64 k ∧ v3 = .string b ∧ Hid (b.data.toList = chg1L c ++ alwL c ++ blkL c ++ kindL c ++ tiersL c.tiers k) ∧ b.size ≤ 8600 + k * 100 ∧ HW w wr 52 #[.string c.meter, .bool c.win.has, .int .i64 c.win.from_.1, .int .i64 c.win.from_.2.1, .int .i64 c.win.from_.2.2, .int .i64 c.win.to_.1, .int .i64 c.win.to_.2.1, .int .i64 c.win.to_.2.2, .int .i64 c.allow, .int .i64 c.block, .int .i64 c.kind, .slice At c.tiers.length ct, .int .i64 c.mode, .slice Aa c.adjs.length ca, .int .i64 c.line, .int .i64 c.col]) (fun _ v46 _ => c.tiers.length - (intOf v46).toNat)
        case atStart => exact ⟨0, b4, Nat.zero_le _, rfl, rfl, Lib.hid (by rw [hb4.out]; simp [tiersL]), by omega, hW9⟩
        case round =>
          obtain ⟨k, b, hk, rfl, rfl, HB, hbs, hWr⟩ := hrel
          clear hb4 hz4 hW9 q11
          have q11 := hWr.kp.c16.2.2.2.2.2.2.2.2.2.2.2.1
          by_cases hlt : k < c.tiers.length
          · obtain ⟨gt, rfl, hgt⟩ := ht3 (by omega)
            have htk : c.tiers[k]? = some c.tiers[k] := List.getElem?_eq_getElem hlt
            have e0 : wr.cell? ⟨gt, k * 2, none⟩ = some (.int .i64 c.tiers[k].upto) := Lies.at (f := tierF) (l := c.tiers) (Lies.of (hWr.row ht)) (fun _ => rfl) (i := k) htk (j := 0) rfl
            have e1 : wr.cell? ⟨gt, k * 2 + 1, none⟩ = some (.int .i64 c.tiers[k].rate) := Lies.at (f := tierF) (l := c.tiers) (Lies.of (hWr.row ht)) (fun _ => rfl) (i := k) htk (j := 1) rfl
            have hnk := hnt _ (List.getElem_mem hlt)
            have HS := Lib.hid (tiersL_succ htk)
            generalize c.tiers[k] = t at *
            have kt := Blk.new wr 119 #[.int .i64 t.upto, .int .i64 t.rate]
            have gg0 : (0 : Int) ≤ (k : Int) := by omega
            have gg1 : (k : Int) < (c.tiers.length : Int) := by omega
            have gg2 : (k : Int) < (ct : Int) := by omega
            have hlx : gt < wr.heap.size := by have := hWr.lb.size; omega
            have hlw := hWr.lt
            clear htk
            by_cases hlast : k + 1 < c.tiers.length
            · have hli : (k : Int) + 1 < (c.tiers.length : Int) := by omega
              have hle : decide (k + 1 = c.tiers.length) = false := by simp; omega
              rw [hle] at HS
              clear hle
              go_wp2_with fail
              refine (sdig_any t.upto _ (hWr.alloc _).dt (by omega) (by omega)).mono ?_
              rintro e w7 ⟨s2, rfl, hs2, hz2, hb7⟩
              have hW7 := (hWr.alloc (.cells #[.int .i64 t.upto, .int .i64 t.rate] 119)).call hb7
              have kt7 := kt.call hb7
              obtain ⟨z0, z1, _, _⟩ := kt7.c2
              go_wp2_with fail
              refine (sdec_any t.rate 6 _ (by omega)).mono ?_
              rintro e w8 ⟨s3, rfl, hs3, hz3, hb8⟩
              have hW8 := hW7.call hb8
              go_wp2_with fail
              go_roundw
              case rel =>
                refine ⟨k + 1, _, by omega, by go_num, rfl, Lib.hid ?_, ?_, hW8⟩
                · rw [ba_app, ba_app, ba_app, ba_app, ba_app, HB.out, HS.out, hs2, hs3]; simp [tierL]
                · simp only [ByteArray.size_append]; show b.size + 7 + s2.size + 6 + s3.size + 2 ≤ _; omega
              case measure => simp [intOf]; omega
            · have hli : ¬ ((k : Int) + 1 < (c.tiers.length : Int)) := by omega
              have hle : decide (k + 1 = c.tiers.length) = true := by simp; omega
              rw [hle] at HS
              clear hle
              obtain ⟨z0, z1, _, _⟩ := kt.c2
              go_wp2_with fail
              refine (sdec_any t.rate 6 _ (by omega)).mono ?_
              rintro e w8 ⟨s3, rfl, hs3, hz3, hb8⟩
              have hW8 := (hWr.alloc (.cells #[.int .i64 t.upto, .int .i64 t.rate] 119)).call hb8
              go_wp2_with fail
              go_roundw
              case rel =>
                refine ⟨k + 1, _, by omega, by go_num, rfl, Lib.hid ?_, ?_, hW8⟩
                · rw [ba_app, ba_app, ba_app, HB.out, HS.out, hs3]; simp [tierL]
                · simp only [ByteArray.size_append]; show b.size + 12 + s3.size + 2 ≤ _; omega
              case measure => simp [intOf]; omega
          · obtain rfl : k = c.tiers.length := by omega
            have q12 := hWr.kp.c16.2.2.2.2.2.2.2.2.2.2.2.2.1
            go_wp2_with fail
            refine (smode_any c.mode _).mono ?_
            rintro e w8 ⟨s3, rfl, hs3, hz3, hb8⟩
            have hW8 := hWr.call hb8
            have hb5 : (b ++ ⟨#[9, 125, 10, 9, 114, 111, 117, 110, 100, 32]⟩ ++ s3 ++ ⟨#[59, 10]⟩).data.toList = chg1L c ++ alwL c ++ blkL c ++ kindL c ++ tiersL c.tiers c.tiers.length ++ rndL c := by
              rw [ba_app, ba_app, ba_app, HB.out, hs3]; simp [rndL]
            have hz5 : (b ++ ⟨#[9, 125, 10, 9, 114, 111, 117, 110, 100, 32]⟩ ++ s3 ++ ⟨#[59, 10]⟩).size ≤ 1100000 := by
              simp only [ByteArray.size_append]; show b.size + 10 + s3.size + 2 ≤ _; omega
            have q13 := hW8.kp.c16.2.2.2.2.2.2.2.2.2.2.2.2.2.1
            go_wp2_with fail
            generalize b ++ ⟨#[9, 125, 10, 9, 114, 111, 117, 110, 100, 32]⟩ ++ s3 ++ ⟨#[59, 10]⟩ = b5 at *
            replace hb5 := Lib.hid hb5
            clear HB hbs hWr hs3 hz3 hb8 q11 q12
            go_loopw [3, 83] (fun v3 v83 wr => ∃ (k : Nat) (b : ByteArray), k ≤ c.adjs.length ∧ v83 = .int .i64 k ∧ v3 = .string b ∧ Hid (b.data.toList = chg1L c ++ alwL c ++ blkL c ++ kindL c ++ tiersL c.tiers c.tiers.length ++ rndL c ++ (c.adjs.take k).flatMap adjL) ∧ b.size ≤ 1100000 + k * 100 ∧ HW w wr 52 #[.string c.meter, .bool c.win.has, .int .i64 c.win.from_.1, .int .i64 c.win.from_.2.1, .int .i64 c.win.from_.2.2, .int .i64 c.win.to_.1, .int .i64 c.win.to_.2.1, .int .i64 c.win.to_.2.2, .int .i64 c.allow, .int .i64 c.block, .int .i64 c.kind, .slice At c.tiers.length ct, .int .i64 c.mode, .slice Aa c.adjs.length ca, .int .i64 c.line, .int .i64 c.col]) (fun _ v83 _ => c.adjs.length - (intOf v83).toNat)
            case atStart => exact ⟨0, b5, Nat.zero_le _, rfl, rfl, Lib.hid (by rw [hb5.out]; simp), by omega, hW8⟩
            case round =>
              obtain ⟨k, b, hk, rfl, rfl, HB, hbs, hWr⟩ := hrel
              clear hb5 hz5 hW8 q13
              by_cases hlt : k < c.adjs.length
              · obtain ⟨gt, rfl, hgt⟩ := ha3 (by omega)
                have htk : c.adjs[k]? = some c.adjs[k] := List.getElem?_eq_getElem hlt
                have e0 : wr.cell? ⟨gt, k * 3, none⟩ = some (.int .i64 c.adjs[k].kind) := Lies.at (f := adjF) (l := c.adjs) (Lies.of (hWr.row ha)) (fun _ => rfl) (i := k) htk (j := 0) rfl
                have e1 : wr.cell? ⟨gt, k * 3 + 1, none⟩ = some (.int .i64 c.adjs[k].n) := Lies.at (f := adjF) (l := c.adjs) (Lies.of (hWr.row ha)) (fun _ => rfl) (i := k) htk (j := 1) rfl
                have e2 : wr.cell? ⟨gt, k * 3 + 2, none⟩ = some (.int .i64 c.adjs[k].mode) := Lies.at (f := adjF) (l := c.adjs) (Lies.of (hWr.row ha)) (fun _ => rfl) (i := k) htk (j := 2) rfl
                have hnk := hnd _ (List.getElem_mem hlt)
                have HS := Lib.hid (flat_next adjL htk)
                generalize c.adjs[k] = a at *
                have kt := Blk.new wr 121 #[.int .i64 a.kind, .int .i64 a.n, .int .i64 a.mode]
                have gg0 : (0 : Int) ≤ (k : Int) := by omega
                have gg1 : (k : Int) < (c.adjs.length : Int) := by omega
                have gg2 : (k : Int) < (ca : Int) := by omega
                have hlx : gt < wr.heap.size := by have := hWr.lb.size; omega
                clear htk
                have hkk : a.kind = 1 ∨ a.kind = 2 ∨ a.kind = 3 ∨ a.kind = 4 ∨ (a.kind ≠ 1 ∧ a.kind ≠ 2 ∧ a.kind ≠ 3 ∧ a.kind ≠ 4) := by omega
                obtain ⟨z0, z1, z2, _, _, _⟩ := kt.c3
                rcases hkk with hkk | hkk | hkk | hkk | hkk
                · have hk1 : (a.kind == 1) = true := by rw [hkk]; rfl
                  have ea : adjL a = [9, 112, 101, 114, 99, 101, 110, 116, 32] ++ Dec.textL a.n 3 ++ 32 :: (modeL a.mode ++ [59, 10]) := by unfold adjL; rw [if_pos hkk]
                  clear hkk
                  go_upto_region 23 with fail
                  have hWa := hWr.alloc (.cells #[.int .i64 a.kind, .int .i64 a.n, .int .i64 a.mode] 121)
                  generalize wr.alloc (.cells #[.int .i64 a.kind, .int .i64 a.n, .int .i64 a.mode] 121) = W2 at *
                  have hbz : b.size ≤ 2100000 := by omega
                  have t1 : ¬ (9223372036854775807 < b.size + 9) := by omega
                  go_region_held3 (fun w' => w'.cell? ⟨wr.heap.size, 1, none⟩ = some (.int .i64 a.n) ∧ w'.cell? ⟨wr.heap.size, 2, none⟩ = some (.int .i64 a.mode))
                    (refine ⟨?_, ?_⟩ <;> first | with_reducible assumption | (go_keep; done))
                    ((first | (go_at_call 64; (with_reducible refine (sdec_any a.n 3 _ (by omega)).mono ?_); rintro e' w6 ⟨s2, rfl, hs2, hz2, hb6⟩; (have t2 : ¬ (9223372036854775807 < b.size + 9 + s2.size) := by omega); (have t3 : ¬ (9223372036854775807 < b.size + 9 + s2.size + 1) := by omega); (have hW6 := hWa.drew.call hb6); (have kt6 := kt.drew.call hb6); obtain ⟨y0, y1, y2, _, _, _⟩ := kt6.c3) | (go_at_call 65; (with_reducible refine (smode_any a.mode _).mono ?_); rintro e' w7 ⟨s3, rfl, hs3, hz3, hb7⟩; (have t4 : ¬ (9223372036854775807 < b.size + 9 + s2.size + 1 + s3.size) := by omega); (have t5 : ¬ (9223372036854775807 < b.size + 9 + s2.size + 1 + s3.size + 2) := by omega); (have hW7 := hW6.call hb7); (have kt7 := kt6.call hb7); obtain ⟨x0, x1, x2, _, _, _⟩ := kt7.c3)))
                  go_wp2_with fail
                  go_roundw
                  case rel =>
                    refine ⟨k + 1, _, by omega, by go_num, rfl, Lib.hid ?_, ?_, hW7⟩
                    · rw [ba_app, ba_app, ba_app, ba_app, ba_app, HB.out, HS.out, ea, hs2, hs3]; simp
                    · simp only [ByteArray.size_append]; show b.size + 9 + s2.size + 1 + s3.size + 2 ≤ _; omega
                  case measure => simp [intOf]; omega
                · have hk1 : (a.kind == 1) = false := by rw [hkk]; rfl
                  have hk2 : (a.kind == 2) = true := by rw [hkk]; rfl
                  have hk3 : (a.kind == 3) = false := by rw [hkk]; rfl
                  have hk4 : (a.kind == 4) = false := by rw [hkk]; rfl
                  have ea : adjL a = [9, 99, 97, 112, 32] ++ digT a.n ++ [59, 10] := by unfold adjL; rw [hkk]; rfl
                  clear hkk
                  go_wp2_with fail
                  refine (sdig_any a.n _ (hWr.alloc _).dt (by omega) (by omega)).mono ?_
                  rintro e w7 ⟨s2, rfl, hs2, hz2, hb7⟩
                  have hW7 := (hWr.alloc _).call hb7
                  go_wp2_with fail
                  go_roundw
                  case rel =>
                    refine ⟨k + 1, _, by omega, by go_num, rfl, Lib.hid ?_, ?_, hW7⟩
                    · rw [ba_app, ba_app, ba_app, HB.out, HS.out, ea, hs2]; simp
                    · simp only [ByteArray.size_append]; show b.size + 5 + s2.size + 2 ≤ _; omega
                  case measure => simp [intOf]; omega
                · have hk1 : (a.kind == 1) = false := by rw [hkk]; rfl
                  have hk2 : (a.kind == 2) = false := by rw [hkk]; rfl
                  have hk3 : (a.kind == 3) = true := by rw [hkk]; rfl
                  have hk4 : (a.kind == 4) = false := by rw [hkk]; rfl
                  have ea : adjL a = [9, 109, 105, 110, 105, 109, 117, 109, 32] ++ digT a.n ++ [59, 10] := by unfold adjL; rw [hkk]; rfl
                  clear hkk
                  go_wp2_with fail
                  refine (sdig_any a.n _ (hWr.alloc _).dt (by omega) (by omega)).mono ?_
                  rintro e w7 ⟨s2, rfl, hs2, hz2, hb7⟩
                  have hW7 := (hWr.alloc _).call hb7
                  go_wp2_with fail
                  go_roundw
                  case rel =>
                    refine ⟨k + 1, _, by omega, by go_num, rfl, Lib.hid ?_, ?_, hW7⟩
                    · rw [ba_app, ba_app, ba_app, HB.out, HS.out, ea, hs2]; simp
                    · simp only [ByteArray.size_append]; show b.size + 9 + s2.size + 2 ≤ _; omega
                  case measure => simp [intOf]; omega
                · have hk1 : (a.kind == 1) = false := by rw [hkk]; rfl
                  have hk2 : (a.kind == 2) = false := by rw [hkk]; rfl
                  have hk3 : (a.kind == 3) = false := by rw [hkk]; rfl
                  have hk4 : (a.kind == 4) = true := by rw [hkk]; rfl
                  have ea : adjL a = [9, 97, 100, 100, 32] ++ digT a.n ++ [59, 10] := by unfold adjL; rw [hkk]; rfl
                  clear hkk
                  go_wp2_with fail
                  refine (sdig_any a.n _ (hWr.alloc _).dt (by omega) (by omega)).mono ?_
                  rintro e w7 ⟨s2, rfl, hs2, hz2, hb7⟩
                  have hW7 := (hWr.alloc _).call hb7
                  go_wp2_with fail
                  go_roundw
                  case rel =>
                    refine ⟨k + 1, _, by omega, by go_num, rfl, Lib.hid ?_, ?_, hW7⟩
                    · rw [ba_app, ba_app, ba_app, HB.out, HS.out, ea, hs2]; simp
                    · simp only [ByteArray.size_append]; show b.size + 5 + s2.size + 2 ≤ _; omega
                  case measure => simp [intOf]; omega
                · have hk1 : (a.kind == 1) = false := by simp [hkk]
                  have hk2 : (a.kind == 2) = false := by simp [hkk]
                  have hk3 : (a.kind == 3) = false := by simp [hkk]
                  have hk4 : (a.kind == 4) = false := by simp [hkk]
                  have ea : adjL a = [] := by unfold adjL; rw [if_neg hkk.1, if_neg hkk.2.1, if_neg hkk.2.2.1, if_neg hkk.2.2.2]
                  clear hkk
                  go_wp2_with fail
                  go_roundw
                  case rel => exact ⟨k + 1, _, by omega, by go_num, rfl, Lib.hid (by rw [HB.out, HS.out, ea]; simp), by omega, hWr.alloc _⟩
                  case measure => simp [intOf]; omega
              · obtain rfl : k = c.adjs.length := by omega
                go_wp2_with fail
                go_ret
                refine ⟨_, rfl, ?_, ?_, hWr.lb⟩
                · rw [ba_app, HB.out, List.take_length]; simp [chgL]
                · simp only [ByteArray.size_append]; show b.size + 2 ≤ _; omega
end Go.Proofs.YtcgkfgklggjmaaaDoor.Par
end
section
namespace Go.Proofs.YtcgkfgklggjmaaaDoor.Par
set_option linter.unusedVariables false
set_option linter.unusedSimpArgs false
open Go.RowKit
/-! an append of a row that may be empty -/
section
variable {P : Program} (w : World)
theorem run_append_zero (t ty : TypeId) (e : TypeId) (i : TypeInfo) (ht : P.underlying t = some (.slice e)) (hi : P.info? e = some i) (A : Option Addr) (n c : Nat) (hn : n ≤ c) (A' : Option Addr) (c' : Nat) :
    (Builtin.append_ #[t, t] ty #[.slice A n c, .slice A' 0 c']).run P w = .ok (.slice A n c) w := by
  cases A <;> cases A' <;> simp [Builtin.append_, run_underlying ht, sizeOf, typeInfo, hi, Builtin.lenOf, Builtin.firstCells, loadCells, loadCellsFrom, storeCells, hn]
theorem own_form {base : Nat} {e : TypeId} {size : Nat} {v : Value} {n : Nat} {xs : List Value} (h : w.ownsRow base e size v n xs) : ∃ A cap, v = .slice A n cap ∧ n ≤ cap := by
  rcases h.2 with ⟨rfl, rfl⟩ | ⟨g, cap, cur, rfl, _, _, hc, _⟩
  · exact ⟨_, _, rfl, Nat.le_refl _⟩
  · exact ⟨_, _, rfl, hc⟩
theorem run_append_any (t ty : TypeId) (base base' : Nat) (e : TypeId) (i : TypeInfo) (z : Value) (size bytes : Nat) (ht : P.underlying t = some (.slice e)) (hi : P.info? e = some i) (hz : i.zero = some z)
    (hsize : i.size = size) (hby : i.bytes = bytes) (hzs : z.cells.size = size) (hsz : 0 < size)
    (v : Value) (n : Nat) (xs : List Value) (hown : w.ownsRow base e size v n xs)
    (v2 : Value) (m : Nat) (news : List Value) (hown2 : w.ownsRow base' e size v2 m news) (h1 : ∀ u ∈ news, u.oneCell' = true)
    (h63 : n + m ≤ maxLen) (hbytes : (n + m) * bytes ≤ 140737488355328) (hbase : base ≤ w.heap.size) :
    ∃ A cap w', (Builtin.append_ #[t, t] ty #[v, v2]).run P w = .ok (.slice A (n + m) cap) w' ∧ w'.ownsRow base e size (.slice A (n + m) cap) (n + m) (xs ++ news) ∧ w.grownBy w' v.ownBlock := by
  by_cases hm : m = 0
  · subst hm
    obtain ⟨A, c, rfl, hc⟩ := own_form w hown
    obtain ⟨A', c', rfl, _⟩ := own_form w hown2
    have hx : news = [] := List.eq_nil_of_length_eq_zero (by simpa using hown2.1)
    subst hx
    refine ⟨A, c, w, run_append_zero w t ty e i ht hi A n c hc A' c', ?_, ⟨rfl, rfl, rfl, Nat.le_refl _, fun _ _ _ => rfl⟩⟩
    rw [List.append_nil]; exact hown
  · obtain ⟨g, c, rfl, _, _⟩ := hown2.form (by omega)
    obtain ⟨v', w', hr, h2, h3, _, _⟩ := run_append_own_at (P := P) w base t ty e i z size bytes ht hi hz hsize hby hzs hsz v n xs hown ⟨g, 0, none⟩ m c news (by have := hown2.1; omega) (hown2.cells (g := g) rfl) h1 h63 hbytes hbase
    obtain ⟨A, cap, rfl, _⟩ := own_form w' h2
    exact ⟨A, cap, w', hr, h2, h3⟩
theorem step_append_any {ops : Array Oper} {o : Oper} {a : Act} {K : Act → World → Prop} {Q : Exit → Act → World → Prop} {E : Prop} (hgd : o.guard = none) (s x : Operand) (t : TypeId)
    (ho : o.op = .call { callee := .builtin .append, args := #[s, x], argTypes := #[t, t] })
    (base base' : Nat) (e : TypeId) (i : TypeInfo) (z : Value) (size bytes : Nat) (ht : P.underlying t = some (.slice e)) (hi : P.info? e = some i) (hz : i.zero = some z)
    (hsize : i.size = size) (hby : i.bytes = bytes) (hzs : z.cells.size = size) (hsz : 0 < size)
    (v : Value) (n : Nat) (xs : List Value) (hs : a.eval s = v) (hown : w.ownsRow base e size v n xs)
    (v2 : Value) (m : Nat) (news : List Value) (hx : a.eval x = v2) (hown2 : w.ownsRow base' e size v2 m news) (h1 : ∀ u ∈ news, u.oneCell' = true)
    (h63 : n + m ≤ maxLen) (hbytes : (n + m) * bytes ≤ 140737488355328) (hbase : base ≤ w.heap.size)
    (h : ∀ A cap w', w'.ownsRow base e size (.slice A (n + m) cap) (n + m) (xs ++ news) → w.grownBy w' v.ownBlock → K (a.put o.dst (.slice A (n + m) cap)) w') :
    if Region.wanted o (yielded ops a.tmps) = true then Oper.wp P o a w K Q else E := by
  have hw : Region.wanted o (yielded ops a.tmps) = true := by simp [Region.wanted, hgd]
  rw [if_pos hw]
  obtain ⟨A, cap, w', hr, h2, h3⟩ := run_append_any (P := P) w t o.type base base' e i z size bytes ht hi hz hsize hby hzs hsz v n xs hown v2 m news hown2 h1 h63 hbytes hbase
  unfold Oper.wp execOp
  simp only [ho, resolve, invoke, builtin, Sem.run_bind, Sem.run_pure, Result.andThen_ok, List.map_toArray, List.map_cons, List.map_nil, hs, hx, hr]
  exact h A cap w' h2 h3
end
end Go.Proofs.YtcgkfgklggjmaaaDoor.Par
end
section
namespace Go.Proofs.YtcgkfgklggjmaaaDoor.Par
set_option linter.unusedVariables false
set_option linter.unusedSimpArgs false
open Go.RowKit
theorem nest_one {w : World} {B : Nat} {c : CT} (h : TiersLie B w c.2.1 c.1.tiers ∧ AdjsLie B w c.2.2 c.1.adjs) : c.2.1.oneCell' = true ∧ c.2.2.oneCell' = true := by
  obtain ⟨A, n, h1, _⟩ := own_form w h.1
  obtain ⟨A', n', h2, _⟩ := own_form w h.2
  rw [h1, h2]; exact ⟨rfl, rfl⟩
end Go.Proofs.YtcgkfgklggjmaaaDoor.Par
end
section
namespace Go.Proofs.YtcgkfgklggjmaaaDoor
set_option linter.unusedVariables false
set_option linter.unusedSimpArgs false
open Go.RowKit
def nN (y m d : Int) : Int := if goodB y m d then numD y m d else 0
theorem nN_yes {y m d : Int} (h : goodB y m d = true) : nN y m d = numD y m d := by simp [nN, h]
theorem nN_no {y m d : Int} (h : goodB y m d = false) : nN y m d = 0 := by simp [nN, h]
theorem num_first (y d : Int) : 365 * (y - 1) + (y - 1) / 4 - (y - 1) / 100 + (y - 1) / 400 + d - 1 = dby y + cum y 1 + d - 1 := by rw [cum_one]; unfold dby; omega
set_option maxHeartbeats 2000000 in
set_option maxRecDepth 100000 in
theorem number_any (y m d : Int) (w : World) :
    Calls Tryd.prog 99 #[.agg #[.int .i64 y, .int .i64 m, .int .i64 d]] w fun e w' => e = .returned (.tuple #[.int .i64 (nN y m d), .bool (goodB y m d)]) ∧ Below w.heap.size w w' := by
  cases hg : goodB y m d with
  | false =>
    rw [nN_no hg]
    go_enter Tryd.func99, Tryd.ntmps99
    go_wp2_with (go_at_call 77; refine (good_any _ _ _ _).mono ?_; rintro e w' ⟨rfl, hb1⟩)
    go_ret2
    exact ⟨rfl, bl_call (bl_alloc (bl_refl _) _) hb1⟩
  | true =>
    rw [nN_yes hg]
    obtain ⟨g1, g2, g3, g4, g5, g6, g7⟩ := good_of hg
    have hnf := num_first y d
    have HN := Lib.hid hnf
    clear hnf g4
    go_enter Tryd.func99, Tryd.ntmps99
    go_wp2_with (go_at_call 77; refine (good_any _ _ _ _).mono ?_; rintro e w1 ⟨rfl, hb1⟩; (have kb := (Blk.new w 24 #[.int .i64 y, .int .i64 m, .int .i64 d]).call hb1); obtain ⟨c0, c1, c2, _, _, _⟩ := kb.c3)
    rw [HN.out]
    have hz := dby_bd y g1 (by omega)
    obtain ⟨z1, z2⟩ := hz
    go_loop [5, 6] (fun v5 v6 => ∃ k : Int, 1 ≤ k ∧ k ≤ m ∧ v6 = .int .i64 k ∧ v5 = .int .i64 (dby y + cum y k + d - 1)) (fun _ v6 => (m - intOf v6).toNat)
    case atStart => exact ⟨1, by omega, by omega, rfl, rfl⟩
    case round =>
      obtain ⟨k, k1, k2, rfl, rfl⟩ := hrel
      have cb := cum_bd y k
      obtain ⟨cb1, cb2⟩ := cb
      have db := days_bd y k
      obtain ⟨db1, db2⟩ := db
      by_cases hlt : k < m
      · have CS := Lib.hid (cum_succ y k k1 (by omega))
        go_wp2_with (go_at_call 116; refine (days_any _ _ _).mono ?_; rintro e w' ⟨rfl, rfl⟩)
        go_round
        case rel => exact ⟨k + 1, by omega, by omega, rfl, by rw [CS.out]; congr 1; omega⟩
        case measure => simp [intOf]; omega
      · obtain rfl : k = m := by omega
        go_wp2
        go_ret2
        exact ⟨by rfl, bl_call (bl_alloc (bl_refl _) _) hb1⟩
end Go.Proofs.YtcgkfgklggjmaaaDoor
end
section
namespace Go.Proofs.YtcgkfgklggjmaaaDoor.Par
set_option linter.unusedVariables false
set_option linter.unusedSimpArgs false
open Go.RowKit
theorem div_parts (hi lo U u1 u0 q1 u2 q0 : Int) (h0 : 0 ≤ hi) (h1 : hi < 100000) (l0 : 0 ≤ lo) (l1 : lo < 18446744073709551616) (hU : U = hi * 140737488355328 + lo / 131072) (hu1 : u1 = lo * 140737488355328 % 18446744073709551616 / 4294967296) (hu0 : u0 = lo * 140737488355328 % 18446744073709551616 % 4294967296)
    (hq1 : q1 = U / 3276800000) (hu2 : u2 = (U - q1 * 3276800000) * 4294967296 + u1) (hq0 : q0 = u2 / 3276800000) :
    0 ≤ U ∧ U < 14073748835532800000 ∧ 0 ≤ u1 ∧ u1 < 4294967296 ∧ 0 ≤ u0 ∧ u0 < 4294967296 ∧ 0 ≤ q1 ∧ q1 < 4294967296 ∧ 0 ≤ u2 ∧ u2 < 14073748835532800000 ∧ 0 ≤ q0 ∧ q0 < 4294967296 ∧
    q1 * 4294967296 + q0 = (hi * 18446744073709551616 + lo) / 100000 ∧ ((u2 - q0 * 3276800000) * 4294967296 + u0) / 140737488355328 = (hi * 18446744073709551616 + lo) % 100000 ∧ U - q1 * 3276800000 < 3276800000 ∧ 0 ≤ U - q1 * 3276800000 ∧ 0 ≤ u2 - q0 * 3276800000 ∧ u2 - q0 * 3276800000 < 3276800000 := by
  have e1 : lo * 140737488355328 % 18446744073709551616 = (lo % 131072) * 140737488355328 := by omega
  rw [e1] at hu1 hu0
  have e2 := Int.mul_ediv_add_emod lo 131072
  have e3 := Int.emod_nonneg lo (show (131072 : Int) ≠ 0 by decide)
  have e4 := Int.emod_lt_of_pos lo (show (0 : Int) < 131072 by decide)
  generalize lo / 131072 = lh at *
  generalize lo % 131072 = ll at *
  subst e2
  have e5 : ll * 140737488355328 / 4294967296 = ll * 32768 := by omega
  have e6 : ll * 140737488355328 % 4294967296 = 0 := by omega
  rw [e5] at hu1
  rw [e6] at hu0
  subst hu1 hu0
  have e7 := Int.mul_ediv_add_emod U 3276800000
  have e8 := Int.emod_nonneg U (show (3276800000 : Int) ≠ 0 by decide)
  have e9 := Int.emod_lt_of_pos U (show (0 : Int) < 3276800000 by decide)
  rw [← hq1] at e7
  generalize U % 3276800000 = r1 at *
  have f7 := Int.mul_ediv_add_emod u2 3276800000
  have f8 := Int.emod_nonneg u2 (show (3276800000 : Int) ≠ 0 by decide)
  have f9 := Int.emod_lt_of_pos u2 (show (0 : Int) < 3276800000 by decide)
  rw [← hq0] at f7
  generalize u2 % 3276800000 = r0 at *
  clear hq1 hq0
  have g1 : U - q1 * 3276800000 = r1 := by omega
  have g2 : u2 - q0 * 3276800000 = r0 := by omega
  rw [g1] at hu2
  -- 3276800000 is 100000 times 32768
  have hr : ∃ t, r0 = t * 32768 := ⟨(r1 * 131072 + ll) - q0 * 100000, by omega⟩
  obtain ⟨t, rfl⟩ := hr
  have hN : (hi * 18446744073709551616 + (131072 * lh + ll)) = 100000 * (q1 * 4294967296 + q0) + t := by omega
  have t0 : 0 ≤ t := by omega
  have t1 : t < 100000 := by omega
  rw [g1, g2, hN]
  have d1 : (100000 * (q1 * 4294967296 + q0) + t) / 100000 = q1 * 4294967296 + q0 := by omega
  have d2 : (100000 * (q1 * 4294967296 + q0) + t) % 100000 = t := by omega
  have d3 : (t * 32768 * 4294967296 + 0) / 140737488355328 = t := by omega
  rw [d1, d2, d3]
  refine ⟨?_, ?_, ?_, ?_, ?_, ?_, ?_, ?_, ?_, ?_, ?_, ?_, rfl, rfl, ?_, ?_, ?_, ?_⟩ <;> omega
theorem or_parts (hi lo : Int) (h0 : 0 ≤ hi) (h1 : hi < 100000) (l0 : 0 ≤ lo) (l1 : lo < 18446744073709551616) :
    bits .or .u64 (hi * 140737488355328) (lo / 131072) = hi * 140737488355328 + lo / 131072 := by
  obtain ⟨a, rfl⟩ := Int.eq_ofNat_of_zero_le h0
  obtain ⟨b, rfl⟩ := Int.eq_ofNat_of_zero_le l0
  have e1 : ((a : Int) * 140737488355328) = ((a * 140737488355328 : Nat) : Int) := by omega
  have e2 : ((b : Int) / 131072) = ((b / 131072 : Nat) : Int) := by omega
  rw [e1, e2, bits_or_u64_nat _ _ (by omega) (by omega)]
  have h := Nat.shiftLeft_add_eq_or_of_lt (b := b / 131072) (i := 47) (by omega) a
  rw [Nat.shiftLeft_eq] at h
  rw [show a * 140737488355328 = a * 2 ^ 47 by rfl, ← h]
  omega
theorem len_100000 : (64 - (Lib.bitLen (100000 : Int).toNat : Int)) = 47 := by decide
set_option maxHeartbeats 16000000 in
set_option maxRecDepth 100000 in
theorem div64_k (hi lo : Int) (w : World) (h0 : 0 < hi) (h1 : hi < 100000) (l0 : 0 ≤ lo) (l1 : lo < 18446744073709551616) :
    Calls Tryd.prog 106 #[.int .u64 hi, .int .u64 lo, .int .u64 100000] w fun e w' => e = .returned (.tuple #[.int .u64 ((hi * 18446744073709551616 + lo) / 100000), .int .u64 ((hi * 18446744073709551616 + lo) % 100000)]) ∧ w = w' := by
  obtain ⟨U, hU⟩ : ∃ U, U = hi * 140737488355328 + lo / 131072 := ⟨_, rfl⟩
  obtain ⟨u1, hu1⟩ : ∃ U, U = lo * 140737488355328 % 18446744073709551616 / 4294967296 := ⟨_, rfl⟩
  obtain ⟨u0, hu0⟩ : ∃ U, U = lo * 140737488355328 % 18446744073709551616 % 4294967296 := ⟨_, rfl⟩
  obtain ⟨q1, hq1⟩ : ∃ q, q = U / 3276800000 := ⟨_, rfl⟩
  obtain ⟨u2, hu2⟩ : ∃ q, q = (U - q1 * 3276800000) * 4294967296 + u1 := ⟨_, rfl⟩
  obtain ⟨q0, hq0⟩ : ∃ q, q = u2 / 3276800000 := ⟨_, rfl⟩
  obtain ⟨b1, b2, b3, b4, b5, b6, b7, b8, b9, b10, b11, b12, hq, hr, b13, b14, b15, b16⟩ := div_parts hi lo U u1 u0 q1 u2 q0 (by omega) h1 l0 l1 hU hu1 hu0 hq1 hu2 hq0
  rw [← hq, ← hr]
  have hor := or_parts hi lo (by omega) h1 l0 l1
  rw [← hU] at hor
  have hw0 : IntKind.u64.wrap (hi * 140737488355328) = hi * 140737488355328 := by rw [IntKind.wrap_u64]; omega
  obtain ⟨V, hV⟩ : ∃ V, IntKind.u64.wrap (lo * 140737488355328) = V := ⟨_, rfl⟩
  have hV' : V = lo * 140737488355328 % 18446744073709551616 := by rw [← hV, IntKind.wrap_u64]
  rw [← hV'] at hu1 hu0
  have V0 : 0 ≤ V ∧ V < 18446744073709551616 := by omega
  obtain ⟨v, rfl⟩ := Int.eq_ofNat_of_zero_le V0.1
  have hand0 : bits .and .u64 (v : Int) 4294967295 = u0 := by
    have h := bits_and_u64_nat v 4294967295 (by omega) (by omega)
    have e : v &&& 4294967295 = v % 4294967296 := Nat.and_two_pow_sub_one_eq_mod v 32
    rw [e] at h
    rw [hu0]
    exact h.trans (by omega)
  have hand1 : bits .and .u64 14073748835532800000 4294967295 = 0 := by decide
  have hu1' : (v : Int) / 4294967296 = u1 := hu1.symm
  have hq1' : U / 3276800000 = q1 := hq1.symm
  have hm1 : IntKind.u64.wrap (q1 * 3276800000) = q1 * 3276800000 := by rw [IntKind.wrap_u64]; omega
  obtain ⟨R1, hR1⟩ : ∃ R, U - q1 * 3276800000 = R := ⟨_, rfl⟩
  have hs1 : IntKind.u64.wrap (U - q1 * 3276800000) = R1 := by rw [IntKind.wrap_u64]; omega
  have hz1 : IntKind.u64.wrap (q1 * 0) = 0 := by rw [Int.mul_zero]; decide
  have hz1' : IntKind.u64.wrap 0 = 0 := by decide
  have ht1 : IntKind.u64.wrap (4294967296 * R1) = 4294967296 * R1 := by rw [IntKind.wrap_u64]; omega
  have ht1' : IntKind.u64.wrap (4294967296 * R1 + u1) = 4294967296 * R1 + u1 := by rw [IntKind.wrap_u64]; omega
  obtain ⟨A1, hA1⟩ : ∃ A, IntKind.u64.wrap (U * 4294967296) = A := ⟨_, rfl⟩
  obtain ⟨A2, hA2⟩ : ∃ A, IntKind.u64.wrap (A1 + u1) = A := ⟨_, rfl⟩
  obtain ⟨A3, hA3⟩ : ∃ A, IntKind.u64.wrap (q1 * 14073748835532800000) = A := ⟨_, rfl⟩
  have hA4 : IntKind.u64.wrap (A2 - A3) = u2 := by
    rw [← hA2, ← hA3, ← hA1]
    simp only [IntKind.wrap_u64]
    omega
  have hq0' : u2 / 3276800000 = q0 := hq0.symm
  have hm0 : IntKind.u64.wrap (q0 * 3276800000) = q0 * 3276800000 := by rw [IntKind.wrap_u64]; omega
  obtain ⟨R0, hR0⟩ : ∃ R, u2 - q0 * 3276800000 = R := ⟨_, rfl⟩
  have hs0 : IntKind.u64.wrap (u2 - q0 * 3276800000) = R0 := by rw [IntKind.wrap_u64]; omega
  have hz0 : IntKind.u64.wrap (q0 * 0) = 0 := by rw [Int.mul_zero]; decide
  have ht0 : IntKind.u64.wrap (4294967296 * R0) = 4294967296 * R0 := by rw [IntKind.wrap_u64]; omega
  have ht0' : IntKind.u64.wrap (4294967296 * R0 + u0) = 4294967296 * R0 + u0 := by rw [IntKind.wrap_u64]; omega
  obtain ⟨Q, hQ⟩ : ∃ A, q1 * 4294967296 + q0 = A := ⟨_, rfl⟩
  have hQ1 : IntKind.u64.wrap (q1 * 4294967296) = q1 * 4294967296 := by rw [IntKind.wrap_u64]; omega
  have hQ2 : IntKind.u64.wrap (q1 * 4294967296 + q0) = Q := by rw [IntKind.wrap_u64]; omega
  obtain ⟨C1, hC1⟩ : ∃ A, IntKind.u64.wrap (u2 * 4294967296) = A := ⟨_, rfl⟩
  obtain ⟨C2, hC2⟩ : ∃ A, IntKind.u64.wrap (C1 + u0) = A := ⟨_, rfl⟩
  obtain ⟨C3, hC3⟩ : ∃ A, IntKind.u64.wrap (q0 * 14073748835532800000) = A := ⟨_, rfl⟩
  obtain ⟨C4, hC4⟩ : ∃ A, R0 * 4294967296 + u0 = A := ⟨_, rfl⟩
  have hC4' : IntKind.u64.wrap (C2 - C3) = C4 := by
    rw [← hC2, ← hC3, ← hC1]
    simp only [IntKind.wrap_u64]
    omega
  obtain ⟨RR, hRR⟩ : ∃ A, C4 / 140737488355328 = A := ⟨_, rfl⟩
  rw [hR0, hC4, hRR, hQ]
  have r10 : 0 ≤ R1 ∧ R1 < 3276800000 := by omega
  have r00 : 0 ≤ R0 ∧ R0 < 3276800000 := by omega
  obtain ⟨r10, r11⟩ := r10
  obtain ⟨r00, r01⟩ := r00
  have n1 : ¬ (4294967296 * R1 + u1 < 0) := by omega
  have n0 : ¬ (4294967296 * R0 + u0 < 0) := by omega
  clear hq hr hU hu1 hu0 hq1 hu2 hq0 hV' hR1 hR0 hQ hC4 b13 b14 b15 b16
  have hLZ := fun W => Tryd.bits_LeadingZeros64 100000 W (by decide) (by decide)
  rw [len_100000] at hLZ
  go_enter Tryd.func106, Tryd.ntmps106
  go_wp2_with fail
  refine (hLZ _).mono ?_
  rintro e w1 ⟨rfl, rfl⟩
  go_wp2_with fail
  go_loop [15, 16] (fun x y => x = .int .u64 q1 ∧ y = .int .u64 R1) (fun _ _ => 0)
  case atStart => constructor <;> simp only [hq1', hm1, hs1]
  case round =>
    obtain ⟨rfl, rfl⟩ := hrel
    go_wp2_with fail
    go_loop [18, 16] (fun x y => x = .int .u64 q0 ∧ y = .int .u64 R0) (fun _ _ => 0)
    case atStart => constructor <;> simp only [hA1, hA2, hA3, hA4, hq0', hm0, hs0]
    case round =>
      obtain ⟨rfl, rfl⟩ := hrel
      go_wp2_with fail
      go_ret2
      exact ⟨by simp only [hQ1, hQ2, hC1, hC2, hC3, hC4', hRR]; rfl, rfl⟩
set_option maxHeartbeats 16000000 in
set_option maxRecDepth 100000 in
theorem div64_0 (lo y : Int) (w : World) (l0 : 0 ≤ lo) (l1 : lo < 18446744073709551616) (h0 : 0 < y) (h1 : y < 18446744073709551616) :
    Calls Tryd.prog 106 #[.int .u64 0, .int .u64 lo, .int .u64 y] w fun e w' => e = .returned (.tuple #[.int .u64 (lo / y), .int .u64 (lo % y)]) ∧ Below w.heap.size w w' := by
  have hne : (y == 0) = false := by rw [beq_eq_false_iff_ne]; omega
  have hny : y ≠ 0 := by omega
  go_enter Tryd.func106, Tryd.ntmps106
  go_wp2_with fail
  go_quiet (fail)
  go_wp2_with fail
  go_ret2
  exact ⟨rfl, bl_drewN (bl_refl w) _⟩
end Go.Proofs.YtcgkfgklggjmaaaDoor.Par
end
section
namespace Go.Proofs.YtcgkfgklggjmaaaDoor.Par
set_option linter.unusedVariables false
set_option linter.unusedSimpArgs false
open Go.RowKit
theorem ba_inj {a b : ByteArray} (h : a.data.toList = b.data.toList) : a = b := by
  apply ByteArray.ext; exact Array.toList_inj.mp h
theorem ba_beq (a : ByteArray) : (a.toList == a.toList) = true := by rw [beq_bytes]; exact beq_refl_bytes a
/-- what the reference's Parse does (RefZ) -/
def RParses8 : Prop := ∀ (s : ByteArray) (w : World), s.size ≤ 9223372036854775807 → Calls Tryd.prog 16 #[.string s] w fun e w' => ∃ v, e = .returned (.tuple #[v, .int .i64 (RParse s.data.toList).2.1, .int .i64 (RParse s.data.toList).2.2.1, .int .i64 (RParse s.data.toList).2.2.2]) ∧ PlanLies w.heap.size w' v (RParse s.data.toList).1 ∧ Below w.heap.size w w'
end Go.Proofs.YtcgkfgklggjmaaaDoor.Par
end
section
namespace Go.Proofs.YtcgkfgklggjmaaaDoor.Par
set_option linter.unusedVariables false
set_option linter.unusedSimpArgs false
open Go.RowKit
/-! faults, compared whole -/
theorem flt_eq (d : Nat) (a b c a' b' c' : Int) (w : World) :
    (Op.equalIn (d + 2) 34 (.agg #[.int .i64 a, .int .i64 b, .int .i64 c]) (.agg #[.int .i64 a', .int .i64 b', .int .i64 c'])).run Tryd.prog w = .ok (a == a' && (b == b' && (c == c' && true))) w := by
  refine eqS_of _ _ _ _ _ _ Tryd.underlying34 (by kernel_rfl) ?_
  refine eqF_cons _ _ _ _ _ (.int .i64 a) (.int .i64 a') _ _ rfl (by go_simp) (by go_simp) (by go_simp) ?_
  refine eqF_cons _ _ _ _ _ (.int .i64 b) (.int .i64 b') _ _ rfl (by go_simp) (by go_simp) (by go_simp) ?_
  refine eqF_cons _ _ _ _ _ (.int .i64 c) (.int .i64 c') _ _ rfl (by go_simp) (by go_simp) (by go_simp) ?_
  exact eqF_nil _ _ _
theorem flt_same (a b c : Int) (w : World) : (binOp .eql 34 (.agg #[.int .i64 a, .int .i64 b, .int .i64 c]) (.agg #[.int .i64 a, .int .i64 b, .int .i64 c])).run Tryd.prog w = .ok (.bool true) w := by
  have h := eql_S (fun d => flt_eq (d + 1) a b c a b c w)
  simpa using h
theorem flt_zero (w : World) : (binOp .neq 34 (.agg #[.int .i64 0, .int .i64 0, .int .i64 0]) (.agg #[.int .i64 0, .int .i64 0, .int .i64 0])).run Tryd.prog w = .ok (.bool false) w := by
  have h := neq_S (fun d => flt_eq (d + 1) 0 0 0 0 0 0 w)
  simpa using h
theorem flt_bad {a : Int} (b c : Int) (ha : a ≠ 0) (w : World) : (binOp .neq 34 (.agg #[.int .i64 a, .int .i64 b, .int .i64 c]) (.agg #[.int .i64 0, .int .i64 0, .int .i64 0])).run Tryd.prog w = .ok (.bool true) w := by
  have h := neq_S (fun d => flt_eq (d + 1) a b c 0 0 0 w)
  have h0 : (a == 0) = false := by simpa using ha
  rw [h0] at h
  simpa using h
end Go.Proofs.YtcgkfgklggjmaaaDoor.Par
end
