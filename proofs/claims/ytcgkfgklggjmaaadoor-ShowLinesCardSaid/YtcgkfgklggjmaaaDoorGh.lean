import Derived.Test.YtcgkfgklggjmaaaDoorGg
section
namespace Go.Proofs.YtcgkfgklggjmaaaDoor.Par
set_option linter.unusedVariables false
set_option linter.unusedSimpArgs false
/-! the words of a plan's plain text, parsed -/
/-- it reads these words off, without a fault, and says x -/
def Rd {α : Type} (F : St → α × St) (ws ws' : List Wd) (x : α) : Prop := ∀ ls : List Tok, Tw ls ws → ∃ ls', Tw ls' ws' ∧ F ⟨ls, 0, 0, 0⟩ = (x, ⟨ls', 0, 0, 0⟩)
theorem Rd.bnd {α β : Type} {F : St → α × St} {G : α → St → β × St} {u v w : List Wd} {x : α} {y : β} (hF : Rd F u v x) (hG : Rd (G x) v w y) : Rd (bnd F G) u w y := by
  intro ls h
  obtain ⟨l1, t1, e1⟩ := hF ls h
  obtain ⟨l2, t2, e2⟩ := hG l1 t1
  refine ⟨l2, t2, ?_⟩
  show G (F ⟨ls, 0, 0, 0⟩).1 (F ⟨ls, 0, 0, 0⟩).2 = _
  rw [e1]; exact e2
theorem Rd.mp {α β : Type} {F : St → α × St} {u v : List Wd} {x : α} (hF : Rd F u v x) (f : α → β) : Rd (mp f F) u v (f x) := by
  intro ls h
  obtain ⟨l1, t1, e1⟩ := hF ls h
  refine ⟨l1, t1, ?_⟩
  show (f (F ⟨ls, 0, 0, 0⟩).1, (F ⟨ls, 0, 0, 0⟩).2) = _
  rw [e1]
theorem Rd.ret {α : Type} (a : α) (u : List Wd) : Rd (fun s => (a, s)) u u a := fun ls h => ⟨ls, h, rfl⟩
theorem Rd.yes {α : Type} {p : Prop} [Decidable p] {F G : St → α × St} {u v : List Wd} {x : α} (hp : p) (h : Rd F u v x) : Rd (fun s => if p then F s else G s) u v x := by
  intro ls hl
  obtain ⟨l1, t1, e1⟩ := h ls hl
  exact ⟨l1, t1, by simp only [if_pos hp]; exact e1⟩
theorem Rd.no {α : Type} {p : Prop} [Decidable p] {F G : St → α × St} {u v : List Wd} {x : α} (hp : ¬ p) (h : Rd G u v x) : Rd (fun s => if p then F s else G s) u v x := by
  intro ls hl
  obtain ⟨l1, t1, e1⟩ := h ls hl
  exact ⟨l1, t1, by simp only [if_neg hp]; exact e1⟩
theorem Rd.of {α : Type} {F : St → α × St} {u v u' v' : List Wd} {x y : α} (h : Rd F u v x) (e : u' = u) (f : v' = v) (g : y = x) : Rd F u' v' y := by subst e f g; exact h
theorem tw_cons {ls : List Tok} {k : Int} {t : List UInt8} {ws : List Wd} (h : Tw ls ((k, t) :: ws)) : ∃ u us, ls = u :: us ∧ u.kind = k ∧ u.text = str t ∧ Tw us ws := by
  cases ls with
  | nil => cases h
  | cons u us =>
    unfold Tw at h
    rw [List.map_cons] at h
    injection h with h1 h2
    injection h1 with h3 h4
    exact ⟨u, us, rfl, h3, by rw [← h4]; rfl, h2⟩
theorem str_inj {a b : List UInt8} (h : str a = str b) : a = b := by
  have := congrArg (fun x : ByteArray => x.data.toList) h
  simpa [str] using this
theorem ba_self (a : ByteArray) : (a == a) = true := by
  have h : (a == a) = (a.data == a.data) := by cases a; rfl
  rw [h]; exact beq_self_eq_true _
theorem rd_eat {k : Int} {t : List UInt8} {ws : List Wd} (hk : k = 2 ∨ k = 5) : Rd (P.eat (str t)) ((k, t) :: ws) ws true := by
  intro ls h
  obtain ⟨u, us, rfl, h1, h2, h3⟩ := tw_cons h
  have ho : on (str t) ⟨u :: us, 0, 0, 0⟩ = true := by
    unfold on peek
    simp only [List.headD_cons, h1, h2]
    rcases hk with rfl | rfl <;> simp [ba_self]
  refine ⟨us, h3, ?_⟩
  unfold P.eat
  rw [if_pos ⟨rfl, ho⟩, next_drop (on_kind ho)]
  rfl
theorem rd_pass {k : Int} {t v : List UInt8} {ws : List Wd} (hk : (k ≠ 2 ∧ k ≠ 5) ∨ t ≠ v) : Rd (P.eat (str v)) ((k, t) :: ws) ((k, t) :: ws) false := by
  intro ls h
  obtain ⟨u, us, rfl, h1, h2, h3⟩ := tw_cons h
  have ho : ¬ on (str v) ⟨u :: us, 0, 0, 0⟩ = true := by
    unfold on peek
    simp only [List.headD_cons, h1, h2]
    rcases hk with ⟨c1, c2⟩ | c
    · simp [c1, c2]
    · have : (str t == str v) = false := by
        rw [Bool.eq_false_iff]; exact fun e => c (str_inj (text_eq e))
      simp [this]
  refine ⟨u :: us, h, ?_⟩
  unfold P.eat
  rw [if_neg fun e => ho e.2]
theorem rd_must {k : Int} {t : List UInt8} {ws : List Wd} (hk : k = 2 ∨ k = 5) : Rd (un (P.must [str t])) ((k, t) :: ws) ws () := by
  intro ls h
  obtain ⟨l1, t1, e1⟩ := rd_eat hk ls h
  refine ⟨l1, t1, ?_⟩
  unfold un
  rw [P.must, e1]
  rfl
theorem rd_must2 {k j : Int} {t v : List UInt8} {ws : List Wd} (hk : k = 2 ∨ k = 5) (hj : j = 2 ∨ j = 5) : Rd (un (P.must [str t, str v])) ((k, t) :: (j, v) :: ws) ws () := by
  rw [must2_eq]
  exact (rd_must hk).bnd (rd_must hj)
theorem rd_kind {k : Int} {t : List UInt8} {ws : List Wd} (hk : k ≠ 0) : Rd (P.kind k) ((k, t) :: ws) ws (str t) := by
  intro ls h
  obtain ⟨u, us, rfl, h1, h2, h3⟩ := tw_cons h
  refine ⟨us, h3, ?_⟩
  have hp : peek ⟨u :: us, 0, 0, 0⟩ = u := rfl
  unfold P.kind
  rw [hp, if_pos h1, next_drop (by rw [hp, h1]; exact hk), h2]
  rfl
theorem rd_number {t : List UInt8} {ws : List Wd} {pl m n : Int} (hn : npV (str t) pl m = (n, 0)) : Rd (P.number npV pl m) ((3, t) :: ws) ws n := by
  intro ls h
  obtain ⟨l1, t1, e1⟩ := rd_kind (by decide) ls h
  refine ⟨l1, t1, ?_⟩
  unfold P.number
  rw [e1]
  simp only [hn]
  rfl
theorem rd_dig {ws : List Wd} {n m : Int} (h : 0 ≤ n ∧ n ≤ m) (hm : m ≤ 1000000000000) : Rd (P.number npV 0 m) ((3, digT n) :: ws) ws n := rd_number (npV_dig h.1 h.2 (by omega))
theorem rd_dec {ws : List Wd} {n m : Int} (k : Nat) (hk : k ≤ 9) (h : 0 ≤ n ∧ n ≤ m) (hm : m ≤ 1000000000000) : Rd (P.number npV k m) ((3, Dec.textL n k) :: ws) ws n := rd_number (npV_dec k hk h.1 h.2 (by omega))
theorem rd_day {ws : List Wd} {d : Day} (h : DOk d) : Rd (P.day dp) ((4, dayT d) :: ws) ws d :=
  ((rd_kind (by decide)).mp dp).of rfl rfl h.2.symm
theorem rd_name {ws : List Wd} {b : ByteArray} : Rd (P.kind 1) ((1, b.data.toList) :: ws) ws b :=
  (rd_kind (by decide)).of rfl rfl (by simp [str])
theorem rd_hit {k : Int} {t : List UInt8} {ws : List Wd} {vs : List ByteArray} {i : Int} (hk : k = 2 ∨ k = 5) : Rd (P.one (str t :: vs) i) ((k, t) :: ws) ws i :=
  (rd_eat hk).bnd (G := fun a s => if a = true then (i, s) else P.one vs (i + 1) s) (Rd.yes rfl (Rd.ret i _))
theorem rd_miss {k : Int} {t v : List UInt8} {ws us : List Wd} {vs : List ByteArray} {i x : Int} (hk : (k ≠ 2 ∧ k ≠ 5) ∨ t ≠ v) (h : Rd (P.one vs (i + 1)) ((k, t) :: ws) us x) : Rd (P.one (str v :: vs) i) ((k, t) :: ws) us x :=
  (rd_pass hk).bnd (G := fun a s => if a = true then (i, s) else P.one vs (i + 1) s) (Rd.no (by decide) h)
theorem rd_none {ws : List Wd} {i : Int} : Rd (P.one [] i) ws ws (-1) := Rd.ret (-1) _
theorem rd_mode {m : Int} {ws : List Wd} (h0 : 0 ≤ m) (h3 : m ≤ 3) : Rd P.mode (modeW m ++ ws) ws m := by
  have hm : m = 0 ∨ m = 1 ∨ m = 2 ∨ m = 3 := by omega
  have H : Rd (P.one [wFloor, wCeil, wHalfup, wHalfeven] 0) (modeW m ++ ws) ws m := by
    rcases hm with rfl | rfl | rfl | rfl
    · exact rd_hit (.inl rfl)
    · exact rd_miss (.inr (by decide)) (rd_hit (.inl rfl))
    · exact rd_miss (.inr (by decide)) (rd_miss (.inr (by decide)) (rd_hit (.inl rfl)))
    · exact rd_miss (.inr (by decide)) (rd_miss (.inr (by decide)) (rd_miss (.inr (by decide)) (rd_hit (.inl rfl))))
  exact H.bnd (G := fun o s => if o < 0 then (0, fail 4 (peek s) s) else (o, s)) (Rd.no (by omega) (Rd.ret m _))
theorem rd_window {w : Win} {t : List UInt8} {ws : List Wd} (h : WOk w) (ht : t ≠ [102, 114, 111, 109]) : Rd (P.window dp) (tkW w ++ (5, t) :: ws) ((5, t) :: ws) w := by
  rcases h with ⟨h0, h1, h2⟩ | rfl
  · have e : tkW w = [(2, [102, 114, 111, 109]), (4, dayT w.from_), (2, [116, 111]), (4, dayT w.to_)] := by unfold tkW; rw [if_pos h0]
    rw [e]
    refine ((rd_eat (.inl rfl)).bnd (G := fun a s => if a = true then bnd (P.day dp) (fun f => bnd (un (P.must [wTo])) (fun _ => mp (fun t => (⟨true, f, t⟩ : Win)) (P.day dp))) s else (noWin, s)) (Rd.yes rfl
      ((rd_day h1).bnd ((rd_must (.inl rfl)).bnd ((rd_day h2).mp _))))).of rfl rfl ?_
    cases w; simp only at h0 ⊢; rw [h0]
  · exact (rd_pass (.inr ht)).bnd (G := fun a s => if a = true then bnd (P.day dp) (fun f => bnd (un (P.must [wTo])) (fun _ => mp (fun t => (⟨true, f, t⟩ : Win)) (P.day dp))) s else (noWin, s)) (Rd.no (by decide) (Rd.ret noWin _))
theorem rd_opt {t : List UInt8} {ws : List Wd} {d n : Int} (h : 0 ≤ n ∧ n ≤ 1000000) : Rd (P.opt npV (str t) d) ((2, t) :: (3, digT n) :: (5, [59]) :: ws) ws n :=
  (rd_eat (.inl rfl)).bnd (G := fun a s => if a = true then bnd (P.number npV 0 1000000) (fun x => mp (fun _ => x) (un (P.must [wSemi]))) s else (d, s)) (Rd.yes rfl ((rd_dig h (by decide)).bnd ((rd_must (.inr rfl)).mp _)))
theorem rd_noopt {k : Int} {t v : List UInt8} {ws : List Wd} {d : Int} (ht : t ≠ v) : Rd (P.opt npV (str v) d) ((k, t) :: ws) ((k, t) :: ws) d :=
  (rd_pass (.inr ht)).bnd (G := fun a s => if a = true then bnd (P.number npV 0 1000000) (fun x => mp (fun _ => x) (un (P.must [wSemi]))) s else (d, s)) (Rd.no (by decide) (Rd.ret d _))
def kw (c : Chg) : List UInt8 := if c.kind = 2 then [118, 111, 108, 117, 109, 101] else [103, 114, 97, 100, 117, 97, 116, 101, 100]
theorem rd_ckind {c : Chg} {ws : List Wd} (h : c.kind = 1 ∨ c.kind = 2) : Rd P.ckind ((2, kw c) :: ws) ws c.kind := by
  rcases h with h | h
  · have e : kw c = [103, 114, 97, 100, 117, 97, 116, 101, 100] := by unfold kw; rw [h]; rfl
    rw [e, h]
    exact (rd_pass (.inr (by decide))).bnd (G := fun a s => if a = true then ((2 : Int), s) else mp (fun _ => (1 : Int)) (un (P.must [wGraduated])) s) (Rd.no (by decide) ((rd_must (.inl rfl)).mp _))
  · have e : kw c = [118, 111, 108, 117, 109, 101] := by unfold kw; rw [h]; rfl
    rw [e, h]
    exact (rd_eat (.inl rfl)).bnd (G := fun a s => if a = true then ((2 : Int), s) else mp (fun _ => (1 : Int)) (un (P.must [wGraduated])) s) (Rd.yes rfl (Rd.ret 2 _))
theorem rd_tierLoop {t : List UInt8} {ws : List Wd} (ht : t ≠ [117, 112, 116, 111]) : ∀ (l : List Tier) (f : Nat) (acc : List Tier), (∀ x ∈ l, TOk x) → l.length < f → Rd (P.tierLoop npV f acc) (l.flatMap tkT ++ (2, t) :: ws) ((2, t) :: ws) (acc ++ l)
  | _, 0, _, _, h => absurd h (by omega)
  | [], f + 1, acc, _, _ =>
    ((rd_pass (.inr ht)).bnd (G := fun a s => if a = true then bnd (P.number npV 0 1000000) (fun x => bnd (un (P.must [wRate])) (fun _ => bnd (P.number npV 6 1000000000000) (fun y => bnd (un (P.must [wSemi])) (fun _ => P.tierLoop npV f (acc ++ [(⟨x, y⟩ : Tier)]))))) s else (acc, s))
      (Rd.no (by decide) (Rd.ret acc _))).of rfl rfl (by simp)
  | x :: l, f + 1, acc, hl, h => by
    have hx := hl x (by simp)
    have hr := rd_tierLoop (ws := ws) ht l f (acc ++ [x]) (fun y hy => hl y (by simp [hy])) (by simpa using h)
    exact ((rd_eat (.inl rfl)).bnd (G := fun a s => if a = true then bnd (P.number npV 0 1000000) (fun x => bnd (un (P.must [wRate])) (fun _ => bnd (P.number npV 6 1000000000000) (fun y => bnd (un (P.must [wSemi])) (fun _ => P.tierLoop npV f (acc ++ [(⟨x, y⟩ : Tier)]))))) s else (acc, s))
      (Rd.yes rfl ((rd_dig hx.1 (by decide)).bnd ((rd_must (.inl rfl)).bnd ((rd_dec 6 (by decide) hx.2 (by decide)).bnd ((rd_must (.inr rfl)).bnd hr)))))).of (by simp [tkT]) rfl (by simp)
theorem tw_len {ls : List Tok} {ws : List Wd} (h : Tw ls ws) : ls.length = ws.length := by
  unfold Tw at h; rw [← h, List.length_map]
theorem flat_len {α : Type} {g : α → List Wd} (hg : ∀ x, g x ≠ []) : ∀ l : List α, l.length ≤ (l.flatMap g).length
  | [] => by simp
  | x :: l => by
    have := flat_len hg l
    have h1 : 0 < (g x).length := List.length_pos_iff.2 (hg x)
    rw [List.flatMap_cons, List.length_append, List.length_cons]; omega
theorem rd_tierAll {t : List UInt8} {ws : List Wd} (ht : t ≠ [117, 112, 116, 111]) {l : List Tier} (hl : ∀ x ∈ l, TOk x) : Rd (P.tierAll npV []) (l.flatMap tkT ++ (2, t) :: ws) ((2, t) :: ws) l := by
  intro ls h
  have h1 := tw_len h
  have h2 := flat_len (g := tkT) (by intro x; simp [tkT]) l
  rw [List.length_append, List.length_cons] at h1
  exact rd_tierLoop ht l ls.length [] hl (by omega) ls h
theorem rd_tiers {l : List Tier} {r : Int} {ws : List Wd} (hl : ∀ x ∈ l, TOk x) (hr : 0 ≤ r ∧ r ≤ 1000000000000) : Rd (P.tiers npV) ((5, [123]) :: (l.flatMap tkT ++ (2, [114, 101, 115, 116]) :: (2, [114, 97, 116, 101]) :: (3, Dec.textL r 6) :: (5, [59]) :: (5, [125]) :: ws)) ws (l ++ [⟨0, r⟩]) :=
  (rd_must (.inr rfl)).bnd (G := fun _ => bnd (P.tierAll npV []) (fun l => bnd (un (P.must [wRest, wRate])) (fun _ => bnd (P.number npV 6 1000000000000) (fun r => mp (fun _ => l ++ [(⟨0, r⟩ : Tier)]) (un (P.must [wSemi, wClose]))))))
    ((rd_tierAll (by decide) hl).bnd ((rd_must2 (.inl rfl) (.inl rfl)).bnd ((rd_dec 6 (by decide) hr (by decide)).bnd ((rd_must2 (.inr rfl) (.inr rfl)).mp _))))
end Go.Proofs.YtcgkfgklggjmaaaDoor.Par
end
section
namespace Go.Proofs.YtcgkfgklggjmaaaDoor.Par
set_option linter.unusedVariables false
set_option linter.unusedSimpArgs false
/-! a charge, an item, the plan: parsed -/
theorem rd_adjBody {a : Adj} {ws : List Wd} (h : AOk a) : Rd (P.adjBody npV a.kind) ((3, if a.kind = 1 then Dec.textL a.n 3 else digT a.n) :: ((if a.kind = 1 then modeW a.mode else []) ++ (5, [59]) :: ws)) ws a := by
  have e : P.adjBody npV a.kind = fun s => if a.kind = 1 then bnd (P.number npV 3 100000000) (fun n => bnd P.mode (fun m => mp (fun _ => (⟨1, n, m⟩ : Adj)) (un (P.must [wSemi])))) s else bnd (P.number npV 0 1000000000000) (fun n => mp (fun _ => (⟨a.kind, n, 0⟩ : Adj)) (un (P.must [wSemi]))) s := rfl
  rw [e]
  rcases h with ⟨hk, h1, h2, h3⟩ | ⟨hk, h1, h2⟩
  · rw [if_pos hk, if_pos hk]
    refine (Rd.yes hk ((rd_dec 3 (by decide) h1 (by decide)).bnd ((rd_mode h2 h3).bnd ((rd_must (.inr rfl)).mp _)))).of rfl rfl ?_
    cases a; simp only at hk ⊢; rw [hk]
  · have hk' : ¬ a.kind = 1 := by omega
    rw [if_neg hk', if_neg hk']
    refine (Rd.no hk' ((rd_dig h1 (by decide)).bnd ((rd_must (.inr rfl)).mp _))).of rfl rfl ?_
    cases a; simp only at h2 ⊢; rw [h2]
def adW (a : Adj) : List UInt8 := if a.kind = 1 then [112, 101, 114, 99, 101, 110, 116] else if a.kind = 2 then [99, 97, 112] else if a.kind = 3 then [109, 105, 110, 105, 109, 117, 109] else [97, 100, 100]
theorem tkA_eq {a : Adj} (h : AOk a) : tkA a = (2, adW a) :: (3, if a.kind = 1 then Dec.textL a.n 3 else digT a.n) :: ((if a.kind = 1 then modeW a.mode else []) ++ [(5, [59])]) := by
  unfold tkA adW
  rcases h with ⟨hk, _⟩ | ⟨hk | hk | hk, _⟩ <;> simp [hk]
theorem rd_adjust {a : Adj} {ws : List Wd} (h : AOk a) : Rd (P.adjust npV) (tkA a ++ ws) ws (a, true) := by
  have H : ∀ us, Rd (P.one [wPercent, wCap, wMinimum, wAdd] 1) ((2, adW a) :: us) us a.kind := by
    intro us
    unfold adW
    rcases h with ⟨hk, _⟩ | ⟨hk | hk | hk, _⟩ <;> rw [hk]
    · exact rd_hit (.inl rfl)
    · exact rd_miss (.inr (by decide)) (rd_hit (.inl rfl))
    · exact rd_miss (.inr (by decide)) (rd_miss (.inr (by decide)) (rd_hit (.inl rfl)))
    · exact rd_miss (.inr (by decide)) (rd_miss (.inr (by decide)) (rd_miss (.inr (by decide)) (rd_hit (.inl rfl))))
  have hk : ¬ a.kind < 0 := by rcases h with ⟨hk, _⟩ | ⟨hk | hk | hk, _⟩ <;> omega
  exact ((H _).bnd (G := fun o s => if o < 0 then (((⟨0, 0, 0⟩ : Adj), false), s) else mp (fun b => (b, true)) (P.adjBody npV o) s) (Rd.no hk ((rd_adjBody h).mp _))).of (by rw [tkA_eq h]; simp) rfl rfl
theorem rd_adjust_no {t : List UInt8} {ws : List Wd} : Rd (P.adjust npV) ((5, [125]) :: ws) ((5, [125]) :: ws) (⟨0, 0, 0⟩, false) :=
  (rd_miss (.inr (by decide)) (rd_miss (.inr (by decide)) (rd_miss (.inr (by decide)) (rd_miss (.inr (by decide)) rd_none)))).bnd (G := fun o s => if o < 0 then (((⟨0, 0, 0⟩ : Adj), false), s) else mp (fun b => (b, true)) (P.adjBody npV o) s) (Rd.yes (by decide) (Rd.ret _ _))
theorem Rd.err {α : Type} {p : Prop} [Decidable p] {F : St → α × St} {a : α} {u v : List Wd} {x : α} (hp : ¬ p) (h : Rd F u v x) : Rd (fun s => if p ∨ s.err ≠ 0 then (a, s) else F s) u v x := by
  intro ls hl
  obtain ⟨l1, t1, e1⟩ := h ls hl
  refine ⟨l1, t1, ?_⟩
  simp only
  rw [if_neg (by rintro (c | c); exact hp c; exact c rfl)]
  exact e1
theorem Rd.stop {α : Type} {p : Prop} [Decidable p] {F : St → α × St} {a : α} {u : List Wd} (hp : p) : Rd (fun s => if p ∨ s.err ≠ 0 then (a, s) else F s) u u a := by
  intro ls hl
  exact ⟨ls, hl, by simp only; rw [if_pos (.inl hp)]⟩
theorem rd_adjLoop {ws : List Wd} : ∀ (l : List Adj) (f : Nat) (acc : List Adj), (∀ x ∈ l, AOk x) → l.length < f → Rd (P.adjLoop npV f acc) (l.flatMap tkA ++ (5, [125]) :: ws) ((5, [125]) :: ws) (acc ++ l)
  | _, 0, _, _, h => absurd h (by omega)
  | [], f + 1, acc, _, _ => ((rd_adjust_no (t := [])).bnd (G := fun (a : Adj × Bool) s => if a.2 = false ∨ s.err ≠ 0 then (acc, s) else P.adjLoop npV f (acc ++ [a.1]) s) (Rd.stop rfl)).of rfl rfl (by simp)
  | x :: l, f + 1, acc, hl, h =>
    ((rd_adjust (hl x (by simp))).bnd (G := fun (a : Adj × Bool) s => if a.2 = false ∨ s.err ≠ 0 then (acc, s) else P.adjLoop npV f (acc ++ [a.1]) s)
      (Rd.err (by simp) (rd_adjLoop l f (acc ++ [x]) (fun y hy => hl y (by simp [hy])) (by simpa using h)))).of (by simp) rfl (by simp)
theorem tkA_ne {a : Adj} (h : AOk a) : tkA a ≠ [] := by rw [tkA_eq h]; simp
theorem flat_len' {α : Type} {g : α → List Wd} : ∀ l : List α, (∀ x ∈ l, g x ≠ []) → l.length ≤ (l.flatMap g).length
  | [], _ => by simp
  | x :: l, hg => by
    have := flat_len' l fun y hy => hg y (by simp [hy])
    have h1 : 0 < (g x).length := List.length_pos_iff.2 (hg x (by simp))
    rw [List.flatMap_cons, List.length_append, List.length_cons]; omega
theorem rd_adjAll {l : List Adj} {ws : List Wd} (hl : ∀ x ∈ l, AOk x) : Rd (P.adjAll npV []) (l.flatMap tkA ++ (5, [125]) :: ws) ((5, [125]) :: ws) l := by
  intro ls h
  have h1 := tw_len h
  have h2 := flat_len' (g := tkA) l fun x hx => tkA_ne (hl x hx)
  rw [List.length_append, List.length_cons] at h1
  exact rd_adjLoop l ls.length [] hl (by omega) ls h
theorem rd_opts {c : Chg} {ws : List Wd} (h : COk c) : Rd (bnd (P.opt npV wAllowance 0) fun a => mp (fun b => (a, b)) (P.opt npV wBlock 1))
    ((if c.allow ≠ 0 then [((2 : Int), [97, 108, 108, 111, 119, 97, 110, 99, 101]), (3, digT c.allow), (5, [59])] else []) ++ ((if c.block ≠ 1 then [((2 : Int), [98, 108, 111, 99, 107]), (3, digT c.block), (5, [59])] else []) ++ (2, kw c) :: ws)) ((2, kw c) :: ws) (c.allow, c.block) := by
  have k1 : kw c ≠ [97, 108, 108, 111, 119, 97, 110, 99, 101] := by unfold kw; split <;> decide
  have k2 : kw c ≠ [98, 108, 111, 99, 107] := by unfold kw; split <;> decide
  have hA := h.allow
  have hB := h.block
  have HB : ∀ us, Rd (P.opt npV wBlock 1) ((if c.block ≠ 1 then [((2 : Int), [98, 108, 111, 99, 107]), (3, digT c.block), (5, [59])] else []) ++ (2, kw c) :: us) ((2, kw c) :: us) c.block := by
    intro us
    by_cases hb : c.block = 1
    · rw [if_neg (by simp [hb]), hb]; exact rd_noopt k2
    · rw [if_pos hb]; exact rd_opt hB
  by_cases ha : c.allow = 0
  · rw [if_neg (by simp [ha])]
    refine Rd.bnd ?_ ((HB ws).mp _)
    rw [List.nil_append]
    by_cases hb : c.block = 1
    · rw [if_neg (by simp [hb]), ha]; exact rd_noopt k1
    · rw [if_pos hb, ha]; exact rd_noopt (by decide)
  · rw [if_pos ha]
    exact (rd_opt hA).bnd ((HB ws).mp _)
theorem rd_charge {c : Chg} {l : List Tier} {r : Int} {ws : List Wd} (h : COk c) (ht : c.tiers = l ++ [⟨0, r⟩]) (hl : ∀ t ∈ l, TOk t) (hr : 0 ≤ r ∧ r ≤ 1000000000000) :
    Rd (P.charge dp npV 0 0) ((tkC c l r).tail ++ ws) ws (sC c) := by
  have H : Rd (bnd (P.kind 1) fun n => bnd (P.window dp) fun w => bnd (un (P.must [wOpen])) fun _ => bnd (bnd (P.opt npV wAllowance 0) fun a => mp (fun b => (a, b)) (P.opt npV wBlock 1)) fun ab => bnd P.ckind fun k => bnd (P.tiers npV) fun t =>
      bnd (un (P.must [wRound])) fun _ => bnd P.mode fun m => bnd (un (P.must [wSemi])) fun _ => bnd (P.adjAll npV []) fun d => mp (fun _ => (⟨n, w, ab.1, ab.2, k, t, m, d, 0, 0⟩ : Chg)) (un (P.must [wClose])))
      ((1, c.meter.data.toList) :: (tkW c.win ++ (5, [123]) :: ((if c.allow ≠ 0 then [((2 : Int), [97, 108, 108, 111, 119, 97, 110, 99, 101]), (3, digT c.allow), (5, [59])] else []) ++ ((if c.block ≠ 1 then [((2 : Int), [98, 108, 111, 99, 107]), (3, digT c.block), (5, [59])] else []) ++ (2, kw c) ::
        (5, [123]) :: (l.flatMap tkT ++ (2, [114, 101, 115, 116]) :: (2, [114, 97, 116, 101]) :: (3, Dec.textL r 6) :: (5, [59]) :: (5, [125]) :: (2, [114, 111, 117, 110, 100]) :: (modeW c.mode ++ (5, [59]) :: (c.adjs.flatMap tkA ++ (5, [125]) :: ws))))))) ws
      ⟨c.meter, c.win, c.allow, c.block, c.kind, l ++ [⟨0, r⟩], c.mode, c.adjs, 0, 0⟩ :=
    rd_name.bnd ((rd_window h.win (by decide)).bnd ((rd_must (.inr rfl)).bnd ((rd_opts h).bnd ((rd_ckind h.kind).bnd ((rd_tiers hl hr).bnd ((rd_must (.inl rfl)).bnd ((rd_mode h.mode.1 h.mode.2).bnd ((rd_must (.inr rfl)).bnd ((rd_adjAll h.adjs).bnd ((rd_must (.inr rfl)).mp _))))))))))
  refine Rd.of (F := P.charge dp npV 0 0) H ?_ rfl ?_
  · have hk : (if c.kind = 2 then ((2 : Int), ([118, 111, 108, 117, 109, 101] : List UInt8)) else (2, [103, 114, 97, 100, 117, 97, 116, 101, 100])) = (2, kw c) := by unfold kw; split <;> rfl
    simp only [tkC, hk, tkZ, List.cons_append, List.nil_append, List.append_assoc, List.tail_cons]
  · unfold sC; rw [← ht]
theorem rd_met {m : Met} {ws : List Wd} (h : 0 ≤ m.max ∧ m.max ≤ 2000) : Rd (P.meter npV 0 0) ((tkM m).tail ++ ws) ws (sM m) :=
  (Rd.bnd (F := P.kind 1) (G := fun n => bnd (un (P.must [wUnit])) fun _ => bnd (P.kind 1) fun x => bnd (un (P.must [wMax])) fun _ => bnd (P.number npV 0 2000) fun m => mp (fun _ => (⟨n, x, m, 0, 0⟩ : Met)) (un (P.must [wSemi])))
    rd_name ((rd_must (.inl rfl)).bnd (rd_name.bnd ((rd_must (.inl rfl)).bnd ((rd_dig h (by decide)).bnd ((rd_must (.inr rfl)).mp _)))))).of (v := ws) (by simp [tkM]) rfl rfl
theorem rd_fee {f : Fee} {ws : List Wd} (h : 0 ≤ f.amount ∧ f.amount ≤ 1000000000000) (hw : WOk f.win) : Rd (P.fee dp npV 0 0) ((tkF f).tail ++ ws) ws (sF f) :=
  (Rd.bnd (F := P.number npV 0 1000000000000) (G := fun x => bnd (P.window dp) fun w => mp (fun _ => (⟨x, w, 0, 0⟩ : Fee)) (un (P.must [wSemi])))
    (rd_dig h (by decide)) ((rd_window hw (by decide)).bnd ((rd_must (.inr rfl)).mp _))).of (v := ws) (by simp [tkF]) rfl rfl
/-- an item's words -/
theorem rd_itm_met {m : Met} {ws : List Wd} (h : 0 ≤ m.max ∧ m.max ≤ 2000) : Rd (itm dp npV) (tkM m ++ ws) ws (.met (sM m)) :=
  ((rd_hit (.inl rfl)).bnd (Rd.yes rfl ((rd_met h).mp Thing.met))).of (v := ws) (by simp [tkM]) rfl rfl
theorem rd_itm_fee {f : Fee} {ws : List Wd} (h : 0 ≤ f.amount ∧ f.amount ≤ 1000000000000) (hw : WOk f.win) : Rd (itm dp npV) (tkF f ++ ws) ws (.fee (sF f)) :=
  ((rd_miss (.inr (by decide)) (rd_hit (.inl rfl))).bnd (Rd.no (by decide) (Rd.yes rfl ((rd_fee h hw).mp Thing.fee)))).of (v := ws) (by simp [tkF]) rfl rfl
end Go.Proofs.YtcgkfgklggjmaaaDoor.Par
end
section
namespace Go.Proofs.YtcgkfgklggjmaaaDoor.Par
set_option linter.unusedVariables false
set_option linter.unusedSimpArgs false
/-! a plan's plain text is read back -/
theorem rd_itm_chg {c : Chg} {ws : List Wd} (h : COk c) : Rd (itm dp npV) (tkG c ++ ws) ws (.chg (sC c)) := by
  obtain ⟨l, r, ht, hl, hr⟩ := h.tiers
  have e : tkG c = tkC c l r := by unfold tkG; rw [ht]; simp
  have e2 : ∃ us, tkC c l r = (2, [99, 104, 97, 114, 103, 101]) :: us := ⟨_, by simp only [tkC, List.cons_append, List.nil_append]; rfl⟩
  obtain ⟨us, e2⟩ := e2
  have hc := rd_charge (ws := ws) h ht hl hr
  rw [e, e2]
  rw [e2] at hc
  exact ((rd_miss (.inr (by decide)) (rd_miss (.inr (by decide)) (rd_hit (.inl rfl)))).bnd (Rd.no (by decide) (Rd.no (by decide) (Rd.yes rfl (hc.mp Thing.chg)))))
theorem rd_items : ∀ (xs : List (Thing × List Wd)), (∀ x ∈ xs, (∀ ws, Rd (itm dp npV) (x.2 ++ ws) ws x.1) ∧ ∃ k t us, x.2 = (k, t) :: us ∧ k ≠ 0) → ∀ (p q : Plan) (ls : List Tok), Tw ls (xs.flatMap (·.2) ++ [(0, [])]) → strip p = strip q →
    ∃ p' ls', P.itemsAll dp npV p ⟨ls, 0, 0, 0⟩ = (p', ⟨ls', 0, 0, 0⟩) ∧ strip p' = strip (xs.foldl (fun p x => put p 0 0 x.1) q)
  | [], _, p, q, ls, h, hp => by
    obtain ⟨u, us, rfl, h1, h2, h3⟩ := tw_cons h
    exact ⟨p, u :: us, itemsAll_end dp npV (.inr h1), hp⟩
  | x :: xs, hx, p, q, ls, h, hp => by
    obtain ⟨h1, k, t, us, h2, h3⟩ := hx x (by simp)
    rw [List.flatMap_cons, List.append_assoc] at h
    have hk : (peek ⟨ls, 0, 0, 0⟩).kind ≠ 0 := by
      rw [h2] at h
      obtain ⟨u, us, rfl, h4, h5, h6⟩ := tw_cons h
      exact fun e => h3 (h4 ▸ e)
    obtain ⟨l1, t1, e1⟩ := h1 _ ls h
    rw [itemsAll_itm dp npV (s := ⟨ls, 0, 0, 0⟩) rfl hk, e1]
    exact rd_items xs (fun y hy => hx y (by simp [hy])) _ _ l1 t1 (strip_put hp _ _ _ _ _)
theorem rd_hd {p : Plan} {ws : List Wd} (h1 : DOk p.from_) (h2 : DOk p.to_) : Rd (hd dp) (tkH p ++ ws) ws ⟨p.name, p.cur, p.from_, p.to_, [], [], [], 0, 0⟩ := by
  have H : Rd (hd dp) ((2, [112, 108, 97, 110]) :: (1, p.name.data.toList) :: (2, [99, 117, 114, 114, 101, 110, 99, 121]) :: (1, p.cur.data.toList) :: (5, [59]) :: (2, [104, 111, 114, 105, 122, 111, 110]) :: (4, dayT p.from_) :: (4, dayT p.to_) :: (5, [59]) :: ws) ws ⟨p.name, p.cur, p.from_, p.to_, [], [], [], 0, 0⟩ :=
    (rd_must (.inl rfl)).bnd (rd_name.bnd ((rd_must (.inl rfl)).bnd (rd_name.bnd ((rd_must2 (.inr rfl) (.inl rfl)).bnd ((rd_day h1).bnd ((rd_day h2).bnd ((rd_must (.inr rfl)).mp _)))))))
  exact H
def itms (p : Plan) : List (Thing × List Wd) := p.mets.map (fun m => (Thing.met (sM m), tkM m)) ++ p.fees.map (fun f => (Thing.fee (sF f), tkF f)) ++ p.chgs.map (fun c => (Thing.chg (sC c), tkG c))
theorem itms_flat (p : Plan) : (itms p).flatMap (·.2) = p.mets.flatMap tkM ++ p.fees.flatMap tkF ++ p.chgs.flatMap tkG := by
  unfold itms
  simp only [List.flatMap_append, List.flatMap_map]
theorem fold_met : ∀ (l : List Met) (q : Plan), (l.map (fun m => (Thing.met (sM m), tkM m))).foldl (fun p x => put p 0 0 x.1) q = { q with mets := q.mets ++ l.map sM }
  | [], q => by simp
  | m :: l, q => by
    rw [List.map_cons, List.foldl_cons, fold_met l]
    simp [put, sM]
theorem fold_fee : ∀ (l : List Fee) (q : Plan), (l.map (fun m => (Thing.fee (sF m), tkF m))).foldl (fun p x => put p 0 0 x.1) q = { q with fees := q.fees ++ l.map sF }
  | [], q => by simp
  | m :: l, q => by
    rw [List.map_cons, List.foldl_cons, fold_fee l]
    simp [put, sF]
theorem fold_chg : ∀ (l : List Chg) (q : Plan), (l.map (fun m => (Thing.chg (sC m), tkG m))).foldl (fun p x => put p 0 0 x.1) q = { q with chgs := q.chgs ++ l.map sC }
  | [], q => by simp
  | m :: l, q => by
    rw [List.map_cons, List.foldl_cons, fold_chg l]
    simp [put, sC]
theorem strip_itms (p : Plan) (li co : Int) : strip ((itms p).foldl (fun p x => put p 0 0 x.1) ⟨p.name, p.cur, p.from_, p.to_, [], [], [], li, co⟩) = strip p := by
  unfold itms
  rw [List.foldl_append, List.foldl_append, fold_met, fold_fee, fold_chg]
  have e1 : sM ∘ sM = sM := rfl
  have e2 : sF ∘ sF = sF := rfl
  have e3 : sC ∘ sC = sC := rfl
  simp [strip, e1, e2, e3]
theorem itms_ok {p : Plan} (h : POk p) : ∀ x ∈ itms p, (∀ ws, Rd (itm dp npV) (x.2 ++ ws) ws x.1) ∧ ∃ k t us, x.2 = (k, t) :: us ∧ k ≠ 0 := by
  intro x hx
  unfold itms at hx
  rw [List.mem_append, List.mem_append, List.mem_map, List.mem_map, List.mem_map] at hx
  rcases hx with (⟨m, hm, rfl⟩ | ⟨f, hf, rfl⟩) | ⟨c, hc, rfl⟩
  · exact ⟨fun ws => rd_itm_met (h.mets m hm).2.2, 2, _, _, rfl, by decide⟩
  · exact ⟨fun ws => rd_itm_fee (h.fees f hf).1 (h.fees f hf).2, 2, [102, 101, 101], (tkF f).tail, by simp [tkF], by decide⟩
  · exact ⟨fun ws => rd_itm_chg (h.chgs c hc), 2, [99, 104, 97, 114, 103, 101], (tkG c).tail, by simp only [tkG, tkC, List.cons_append, List.nil_append, List.tail_cons], by decide⟩
/-- the text of a plan, read again, is the plan: but for places -/
theorem plan_read {p : Plan} (h : POk p) (hl : (planL p).length ≤ 8192) : (RParse (planL p)).2 = (0, 0, 0) ∧ strip (RParse (planL p)).1 = strip p := by
  obtain ⟨ls, n, c, hall, ht⟩ := (lx_plan h).all hl
  have htw : Tw (ls ++ [⟨0, ⟨#[]⟩, n, c⟩]) (tkH p ++ ((itms p).flatMap (·.2) ++ [(0, [])])) := by
    rw [itms_flat]
    unfold Tw at ht ⊢
    rw [List.map_append, ht]
    simp [tkP]
  obtain ⟨l1, t1, e1⟩ := rd_hd h.from_ h.to_ _ htw
  have hs := plan_same dp npV (ls ++ [⟨0, ⟨#[]⟩, n, c⟩])
  have hP := plan_hd dp npV (ls ++ [⟨0, ⟨#[]⟩, n, c⟩])
  rw [e1] at hP
  obtain ⟨p', l2, e2, e3⟩ := rd_items (itms p) (itms_ok h) { (⟨p.name, p.cur, p.from_, p.to_, [], [], [], 0, 0⟩ : Plan) with line := (peek ⟨ls ++ [⟨0, ⟨#[]⟩, n, c⟩], 0, 0, 0⟩).line, col := (peek ⟨ls ++ [⟨0, ⟨#[]⟩, n, c⟩], 0, 0, 0⟩).col } _ l1 t1 rfl
  rw [e2] at hP
  rw [hP] at hs
  have hr := RParse_ok hall hs.1.symm
  rw [hr, ← hs.2.2.2 rfl]
  exact ⟨rfl, e3.trans (strip_itms p _ _)⟩
end Go.Proofs.YtcgkfgklggjmaaaDoor.Par
end
section
namespace Go.Proofs.YtcgkfgklggjmaaaDoor.Par
set_option linter.unusedVariables false
set_option linter.unusedSimpArgs false
/-! what is parsed without a fault is a plan that can be read back -/
def Kt (x : Tok) : Prop := x.kind = 0 ∨ kindOf x.text.data.toList = x.kind
def Ks (l : List Tok) : Prop := ∀ x ∈ l, Kt x
theorem lex_kinds : ∀ (n : Nat) (l : List UInt8) (line col : Int) (ts : List Tok), l.length ≤ n → lexL l line col = .ok ts → Ks ts := by
  intro n
  induction n with
  | zero =>
    intro l line col ts hn h
    obtain rfl : l = [] := List.eq_nil_of_length_eq_zero (by omega)
    rw [lexL] at h
    injection h with h
    subst h
    intro t ht
    obtain rfl := List.mem_singleton.1 ht
    exact .inl rfl
  | succ n ih =>
    intro l line col ts hn h
    cases l with
    | nil =>
      rw [lexL] at h
      injection h with h
      subst h
      intro t ht
      obtain rfl := List.mem_singleton.1 ht
      exact .inl rfl
    | cons c cs =>
      rw [lexL] at h
      rw [List.length_cons] at hn
      split at h
      · exact ih _ _ _ _ (by rw [List.length_drop]; omega) h
      · split at h
        · exact ih _ _ _ _ (by omega) h
        · split at h
          · exact ih _ _ _ _ (by omega) h
          · split at h
            · cases h
            · cases hr : lexL (cs.drop (tokLen c cs)) line (col + 1 + tokLen c cs) with
              | error e => rw [hr] at h; cases h
              | ok ts' =>
                rw [hr] at h
                injection h with h
                subst h
                intro t ht
                rcases List.mem_cons.1 ht with rfl | ht
                · exact .inr rfl
                · exact ih _ _ _ _ (by rw [List.length_drop]; omega) hr t ht
theorem all_kinds {l : List UInt8} {ts : List Tok} {a b : Int} (h : lexAll l = (ts, 0, a, b)) : Ks ts := by
  unfold lexAll at h
  split at h
  · injection h with _ h
    injection h with h _
    cases h
  · cases hr : lexL l 1 1 with
    | ok ts' =>
      rw [hr] at h
      injection h with h _
      subst h
      exact lex_kinds _ l 1 1 _ (Nat.le_refl _) hr
    | error e =>
      rw [hr] at h
      injection h with _ h
      injection h with h _
      cases h
def U {α : Type} (Φ : α → Prop) (F : St → α × St) : Prop := ∀ s, Ks s.rest → Ks (F s).2.rest ∧ ((F s).2.err = 0 → s.err = 0 ∧ Φ (F s).1)
section
variable {α β : Type}
theorem U.bnd {Φ : α → Prop} {Ψ : β → Prop} {F : St → α × St} {G : α → St → β × St} (hF : U Φ F) (hG : ∀ a, U (fun y => Φ a → Ψ y) (G a)) : U Ψ (bnd F G) := fun s hs => by
  have h1 := hF s hs
  have h2 := hG (F s).1 _ h1.1
  exact ⟨h2.1, fun h0 => ⟨(h1.2 (h2.2 h0).1).1, (h2.2 h0).2 (h1.2 (h2.2 h0).1).2⟩⟩
theorem U.mp {Φ : α → Prop} {Ψ : β → Prop} {F : St → α × St} (f : α → β) (hF : U Φ F) (hf : ∀ a, Φ a → Ψ (f a)) : U Ψ (mp f F) := fun s hs => ⟨(hF s hs).1, fun h0 => ⟨((hF s hs).2 h0).1, hf _ ((hF s hs).2 h0).2⟩⟩
theorem U.ret {Φ : α → Prop} {a : α} (h : Φ a) : U Φ (fun s => (a, s)) := fun s hs => ⟨hs, fun h0 => ⟨h0, h⟩⟩
theorem U.ite {Φ : α → Prop} {p : Prop} [Decidable p] {F G : St → α × St} (hF : p → U Φ F) (hG : ¬ p → U Φ G) : U Φ (fun s => if p then F s else G s) := by
  by_cases hp : p
  · simp only [if_pos hp]; exact hF hp
  · simp only [if_neg hp]; exact hG hp
theorem U.iteErr {Φ : α → Prop} {p : Prop} [Decidable p] {a : α} {F : St → α × St} (ha : Φ a) (hF : ¬ p → U Φ F) : U Φ (fun s => if p ∨ s.err ≠ 0 then (a, s) else F s) := by
  intro s hs
  by_cases hp : p ∨ s.err ≠ 0
  · simp only [if_pos hp]; exact ⟨hs, fun h0 => ⟨h0, ha⟩⟩
  · simp only [if_neg hp]; exact hF (fun c => hp (.inl c)) s hs
theorem U.weak {Φ Ψ : α → Prop} {F : St → α × St} (hF : U Φ F) (hf : ∀ a, Φ a → Ψ a) : U Ψ F := fun s hs => ⟨(hF s hs).1, fun h0 => ⟨((hF s hs).2 h0).1, hf _ ((hF s hs).2 h0).2⟩⟩
theorem ks_tail {l : List Tok} (h : Ks l) : Ks l.tail := fun x hx => h x (List.mem_of_mem_tail hx)
theorem ks_next {s : St} (h : Ks s.rest) : Ks (P.next s).rest := by
  unfold P.next; split
  · exact h
  · exact ks_tail h
theorem ks_fail {e : Int} {t : Tok} {s : St} (h : Ks s.rest) : Ks (fail e t s).rest := by
  unfold fail; split <;> exact h
theorem u_fail {Φ : α → Prop} {a : α} {e : Int} (he : e ≠ 0) : U Φ (fun s => (a, fail e (peek s) s)) := fun s hs => ⟨ks_fail hs, fun h0 => absurd h0 (fail_err e _ _ he)⟩
theorem u_eat (w : ByteArray) : U (fun _ => True) (P.eat w) := fun s hs => by
  refine ⟨?_, fun h0 => ⟨by rwa [eat_err] at h0, trivial⟩⟩
  unfold P.eat; split
  · exact ks_next hs
  · exact hs
theorem u_must : ∀ (l : List ByteArray), U (fun _ => True) (un (P.must l))
  | [], s, hs => ⟨hs, fun h0 => ⟨h0, trivial⟩⟩
  | w :: ws, s, hs => by
    have h1 := u_eat w s hs
    refine ⟨?_, fun h0 => ⟨must_back h0, trivial⟩⟩
    show Ks (P.must (w :: ws) s).rest
    rw [P.must]
    split
    · exact (u_must ws _ h1.1).1
    · exact ks_fail h1.1
theorem u_kind (k : Int) (hk : k ≠ 0) : U (fun t : ByteArray => kindOf t.data.toList = k) (P.kind k) := fun s hs => by
  refine ⟨?_, fun h0 => ⟨kind_back h0, ?_⟩⟩
  · unfold P.kind; split
    · exact ks_next hs
    · exact ks_fail hs
  · unfold P.kind at h0 ⊢
    by_cases hp : (peek s).kind = k
    · rw [if_pos hp]
      show kindOf (peek s).text.data.toList = k
      unfold peek at hp ⊢
      cases hr : s.rest with
      | nil => rw [hr] at hp; exact absurd hp.symm hk
      | cons a b =>
        rw [hr] at hp
        have hp' : a.kind = k := hp
        show kindOf a.text.data.toList = k
        rcases hs a (by rw [hr]; simp) with h | h
        · exact absurd (hp'.symm.trans h) hk
        · rw [h, hp']
    · rw [if_neg hp] at h0
      exact absurd h0 (fail_err 4 _ _ (by decide))
theorem u_day : U DOk (P.day dp) := (u_kind 4 (by decide)).mp dp fun a h => dok_of h
theorem u_one : ∀ (l : List ByteArray) (i : Int), U (fun o => o = -1 ∨ (i ≤ o ∧ o < i + l.length)) (P.one l i)
  | [], i => U.ret (.inl rfl)
  | w :: ws, i => (u_eat w).bnd (G := fun a s => if a = true then (i, s) else P.one ws (i + 1) s) fun a => U.ite (fun _ => U.ret fun _ => .inr ⟨Int.le_refl _, by rw [List.length_cons]; omega⟩) fun _ => (u_one ws (i + 1)).weak fun o ho _ => by
    rw [List.length_cons]; omega
theorem u_mode : U (fun m => 0 ≤ m ∧ m ≤ 3) P.mode := (u_one [wFloor, wCeil, wHalfup, wHalfeven] 0).bnd (G := fun o s => if o < 0 then (0, fail 4 (peek s) s) else (o, s)) fun o => U.ite (fun _ => u_fail (by decide)) fun h => U.ret fun ho => by
  have hl : ([wFloor, wCeil, wHalfup, wHalfeven].length : Int) = 4 := rfl
  omega
theorem u_window : U WOk (P.window dp) :=
  (u_eat wFrom).bnd (G := fun a s => if a = true then bnd (P.day dp) (fun f => bnd (un (P.must [wTo])) (fun _ => mp (fun t => (⟨true, f, t⟩ : Win)) (P.day dp))) s else (noWin, s)) fun a =>
    U.ite (fun _ => u_day.bnd fun f => (u_must [wTo]).bnd fun _ => u_day.mp _ fun t ht _ hf _ => .inl ⟨rfl, hf, ht⟩) fun _ => U.ret fun _ => .inr rfl
theorem u_ckind : U (fun k => k = 1 ∨ k = 2) P.ckind :=
  (u_eat wVolume).bnd (G := fun a s => if a = true then ((2 : Int), s) else mp (fun _ => (1 : Int)) (un (P.must [wGraduated])) s) fun a => U.ite (fun _ => U.ret fun _ => .inr rfl) fun _ => (u_must [wGraduated]).mp _ fun _ _ _ => .inl rfl
theorem u_number (pl most : Int) (hm : 0 ≤ most) : U (fun n => 0 ≤ n ∧ n ≤ most) (P.number npV pl most) := fun s hs => by
  refine ⟨?_, fun h0 => ⟨number_back npV h0, ?_⟩⟩
  · have hk := (u_kind 3 (by decide) s hs).1
    unfold P.number
    simp only
    split
    · simp only
      split
      · exact ks_fail hk
      · split
        · exact ks_fail hk
        · exact hk
    · exact hk
  · unfold P.number
    simp only
    split
    · exact npV_in _ _ _ hm
    · exact ⟨Int.le_refl _, hm⟩
theorem u_opt (w : ByteArray) (d : Int) (hd : 0 ≤ d ∧ d ≤ 1000000) : U (fun n => 0 ≤ n ∧ n ≤ 1000000) (P.opt npV w d) :=
  (u_eat w).bnd (G := fun a s => if a = true then bnd (P.number npV 0 1000000) (fun x => mp (fun _ => x) (un (P.must [wSemi]))) s else (d, s)) fun a =>
    U.ite (fun _ => (u_number 0 1000000 (by decide)).bnd fun x => (u_must [wSemi]).mp _ fun _ _ hx _ => hx) fun _ => U.ret fun _ => hd
theorem u_tierLoop : ∀ (f : Nat) (acc : List Tier), U (fun l => (∀ t ∈ acc, TOk t) → ∀ t ∈ l, TOk t) (P.tierLoop npV f acc)
  | 0, acc => U.ret fun h => h
  | f + 1, acc => (u_eat wUpto).bnd (G := fun a s => if a = true then bnd (P.number npV 0 1000000) (fun x => bnd (un (P.must [wRate])) (fun _ => bnd (P.number npV 6 1000000000000) (fun y => bnd (un (P.must [wSemi])) (fun _ => P.tierLoop npV f (acc ++ [(⟨x, y⟩ : Tier)]))))) s else (acc, s)) fun a =>
    U.ite (fun _ => (u_number 0 1000000 (by decide)).bnd fun x => (u_must [wRate]).bnd fun _ => (u_number 6 1000000000000 (by decide)).bnd fun y => (u_must [wSemi]).bnd fun _ => (u_tierLoop f _).weak fun l hl _ hy _ hx _ hacc => hl fun t ht => by
      rcases List.mem_append.1 ht with ht | ht
      · exact hacc t ht
      · obtain rfl := List.mem_singleton.1 ht; exact ⟨hx, hy⟩) fun _ => U.ret fun _ h => h
theorem u_tierAll : U (fun l => ∀ t ∈ l, TOk t) (P.tierAll npV []) := fun s hs => ((u_tierLoop (len s) []).weak fun l h => h fun t ht => by cases ht) s hs
theorem u_tiers : U (fun x => ∃ l r, x = l ++ [(⟨0, r⟩ : Tier)] ∧ (∀ t ∈ l, TOk t) ∧ 0 ≤ r ∧ r ≤ 1000000000000) (P.tiers npV) :=
  (u_must [wOpen]).bnd (G := fun _ => bnd (P.tierAll npV []) (fun l => bnd (un (P.must [wRest, wRate])) (fun _ => bnd (P.number npV 6 1000000000000) (fun r => mp (fun _ => l ++ [(⟨0, r⟩ : Tier)]) (un (P.must [wSemi, wClose])))))) fun _ =>
    u_tierAll.bnd fun l => (u_must [wRest, wRate]).bnd fun _ => (u_number 6 1000000000000 (by decide)).bnd fun r => (u_must [wSemi, wClose]).mp _ fun _ _ hr _ hl _ => ⟨l, r, rfl, hl, hr⟩
theorem u_adjBody (k : Int) : U (fun a => (k = 1 ∨ k = 2 ∨ k = 3 ∨ k = 4) → AOk a) (P.adjBody npV k) := by
  have h : P.adjBody npV k = fun s => if k = 1 then bnd (P.number npV 3 100000000) (fun n => bnd P.mode (fun m => mp (fun _ => (⟨1, n, m⟩ : Adj)) (un (P.must [wSemi])))) s else bnd (P.number npV 0 1000000000000) (fun n => mp (fun _ => (⟨k, n, 0⟩ : Adj)) (un (P.must [wSemi]))) s := rfl
  rw [h]
  exact U.ite (fun _ => (u_number 3 100000000 (by decide)).bnd fun n => u_mode.bnd fun m => (u_must [wSemi]).mp _ fun _ _ hm hn _ => .inl ⟨rfl, hn, hm.1, hm.2⟩)
    fun hk => (u_number 0 1000000000000 (by decide)).bnd fun n => (u_must [wSemi]).mp _ fun _ _ hn h => .inr ⟨h.resolve_left hk, hn, rfl⟩
theorem u_adjust : U (fun x : Adj × Bool => x.2 = true → AOk x.1) (P.adjust npV) :=
  (u_one [wPercent, wCap, wMinimum, wAdd] 1).bnd (G := fun o s => if o < 0 then (((⟨0, 0, 0⟩ : Adj), false), s) else mp (fun b => (b, true)) (P.adjBody npV o) s) fun o =>
    U.ite (fun _ => U.ret fun _ h => by cases h) fun hn => (u_adjBody o).mp _ fun b hb ho _ => hb (by
      have hl : ([wPercent, wCap, wMinimum, wAdd].length : Int) = 4 := rfl
      omega)
theorem u_adjLoop : ∀ (f : Nat) (acc : List Adj), U (fun l => (∀ a ∈ acc, AOk a) → ∀ a ∈ l, AOk a) (P.adjLoop npV f acc)
  | 0, acc => U.ret fun h => h
  | f + 1, acc => u_adjust.bnd (G := fun (a : Adj × Bool) s => if a.2 = false ∨ s.err ≠ 0 then (acc, s) else P.adjLoop npV f (acc ++ [a.1]) s) fun a => U.iteErr (fun _ h => h) fun ha => (u_adjLoop f _).weak fun l hl hx h => hl fun x hm => by
      rcases List.mem_append.1 hm with hm | hm
      · exact h x hm
      · obtain rfl := List.mem_singleton.1 hm
        exact hx (by cases h2 : a.2 with
          | true => rfl
          | false => exact absurd h2 ha)
theorem u_adjAll : U (fun l => ∀ a ∈ l, AOk a) (P.adjAll npV []) := fun s hs => ((u_adjLoop (len s) []).weak fun l h => h fun t ht => by cases ht) s hs
theorem u_charge (l c : Int) : U COk (P.charge dp npV l c) :=
  (u_kind 1 (by decide)).bnd (G := fun n => bnd (P.window dp) fun w => bnd (un (P.must [wOpen])) fun _ => bnd (P.opt npV wAllowance 0) fun a => bnd (P.opt npV wBlock 1) fun b => bnd P.ckind fun k => bnd (P.tiers npV) fun t =>
      bnd (un (P.must [wRound])) fun _ => bnd P.mode fun m => bnd (un (P.must [wSemi])) fun _ => bnd (P.adjAll npV []) fun d => mp (fun _ => (⟨n, w, a, b, k, t, m, d, l, c⟩ : Chg)) (un (P.must [wClose]))) fun n =>
    u_window.bnd fun w => (u_must [wOpen]).bnd fun _ => (u_opt wAllowance 0 (by decide)).bnd fun a => (u_opt wBlock 1 (by decide)).bnd fun b => u_ckind.bnd fun k => u_tiers.bnd fun t =>
      (u_must [wRound]).bnd fun _ => u_mode.bnd fun m => (u_must [wSemi]).bnd fun _ => u_adjAll.bnd fun d => (u_must [wClose]).mp _ fun _ _ hd _ hm _ ht hk hb ha _ hw hn => ⟨hn, hw, ha, hb, hk, ht, hm, hd⟩
theorem u_meter (l c : Int) : U (fun m : Met => NOk m.name ∧ NOk m.unit ∧ 0 ≤ m.max ∧ m.max ≤ 2000) (P.meter npV l c) :=
  (u_kind 1 (by decide)).bnd (G := fun n => bnd (un (P.must [wUnit])) fun _ => bnd (P.kind 1) fun x => bnd (un (P.must [wMax])) fun _ => bnd (P.number npV 0 2000) fun m => mp (fun _ => (⟨n, x, m, l, c⟩ : Met)) (un (P.must [wSemi]))) fun n =>
    (u_must [wUnit]).bnd fun _ => (u_kind 1 (by decide)).bnd fun x => (u_must [wMax]).bnd fun _ => (u_number 0 2000 (by decide)).bnd fun m => (u_must [wSemi]).mp _ fun _ _ hm _ hx _ hn => ⟨hn, hx, hm⟩
theorem u_fee (l c : Int) : U (fun f : Fee => (0 ≤ f.amount ∧ f.amount ≤ 1000000000000) ∧ WOk f.win) (P.fee dp npV l c) :=
  (u_number 0 1000000000000 (by decide)).bnd (G := fun x => bnd (P.window dp) fun w => mp (fun _ => (⟨x, w, l, c⟩ : Fee)) (un (P.must [wSemi]))) fun x =>
    u_window.bnd fun w => (u_must [wSemi]).mp _ fun _ _ hw hx => ⟨hx, hw⟩
theorem u_head : U POk (P.head dp) := fun s hs => by
  have h : U POk (hd dp) :=
    (u_must [wPlan]).bnd fun _ => (u_kind 1 (by decide)).bnd fun n => (u_must [wCurrency]).bnd fun _ => (u_kind 1 (by decide)).bnd fun c => (u_must [wSemi, wHorizon]).bnd fun _ => u_day.bnd fun f => u_day.bnd fun t =>
      (u_must [wSemi]).mp _ fun _ _ ht hf _ hc _ hn _ => ⟨hn, hc, hf, ht, (fun x hx => by cases hx), (fun x hx => by cases hx), (fun x hx => by cases hx)⟩
  rw [head_hd]
  refine ⟨(h s hs).1, fun h0 => ⟨((h s hs).2 h0).1, ?_⟩⟩
  have := ((h s hs).2 h0).2
  exact ⟨this.name, this.cur, this.from_, this.to_, this.mets, this.fees, this.chgs⟩
theorem u_item (p : Plan) : U (fun q => POk p → POk q) (P.item dp npV p) := fun s hs => by
  have ho := u_one [wMeter, wFee, wCharge] 0 s hs
  have hm := u_meter (peek s).line (peek s).col _ ho.1
  have hf := u_fee (peek s).line (peek s).col _ ho.1
  have hc := u_charge (peek s).line (peek s).col _ ho.1
  unfold P.item
  simp only
  split
  · exact ⟨hm.1, fun h0 => ⟨(ho.2 (hm.2 h0).1).1, fun hp => ⟨hp.name, hp.cur, hp.from_, hp.to_, fun x hx => by
      rcases List.mem_append.1 hx with hx | hx
      · exact hp.mets x hx
      · obtain rfl := List.mem_singleton.1 hx; exact (hm.2 h0).2, hp.fees, hp.chgs⟩⟩⟩
  · split
    · exact ⟨hf.1, fun h0 => ⟨(ho.2 (hf.2 h0).1).1, fun hp => ⟨hp.name, hp.cur, hp.from_, hp.to_, hp.mets, fun x hx => by
        rcases List.mem_append.1 hx with hx | hx
        · exact hp.fees x hx
        · obtain rfl := List.mem_singleton.1 hx; exact (hf.2 h0).2, hp.chgs⟩⟩⟩
    · split
      · exact ⟨hc.1, fun h0 => ⟨(ho.2 (hc.2 h0).1).1, fun hp => ⟨hp.name, hp.cur, hp.from_, hp.to_, hp.mets, hp.fees, fun x hx => by
          rcases List.mem_append.1 hx with hx | hx
          · exact hp.chgs x hx
          · obtain rfl := List.mem_singleton.1 hx; exact (hc.2 h0).2⟩⟩⟩
      · exact ⟨(u_must [wSemi] _ (ks_fail ho.1)).1, fun h0 => absurd (must_back h0) (fail_err 4 _ _ (by decide))⟩
theorem u_items : ∀ (f : Nat) (p : Plan), U (fun q => POk p → POk q) (P.items dp npV f p)
  | 0, p => U.ret fun h => h
  | f + 1, p => fun s hs => by
    rw [P.items]
    split
    · have h := u_item p s hs
      have h2 := u_items f (P.item dp npV p s).1 _ h.1
      exact ⟨h2.1, fun h0 => ⟨(h.2 (h2.2 h0).1).1, fun hp => (h2.2 h0).2 ((h.2 (h2.2 h0).1).2 hp)⟩⟩
    · exact ⟨hs, fun h0 => ⟨h0, fun hp => hp⟩⟩
end
/-- what is parsed can be read back -/
theorem pok_parse {l : List UInt8} (h : (RParse l).2.1 = 0) : POk (RParse l).1 := by
  obtain ⟨ts, er, a, b, hall⟩ : ∃ ts er a b, lexAll l = (ts, er, a, b) := ⟨_, _, _, _, rfl⟩
  by_cases her : er = 0
  · subst her
    by_cases h0 : (P.plan dp npV ts).2.err = 0
    · rw [PParse_ok hall h0]
      have h1 := u_head ⟨ts, 0, 0, 0⟩ (all_kinds hall)
      have h2 := u_items (P.head dp ⟨ts, 0, 0, 0⟩).2.rest.length (P.head dp ⟨ts, 0, 0, 0⟩).1 _ h1.1
      exact (h2.2 h0).2 (h1.2 (h2.2 h0).1).2
    · rw [PParse_bad hall h0] at h; exact absurd h h0
  · rw [RParse_lex hall her] at h; exact absurd h her
/-- the text of a parsed plan, read again -/
theorem parse_read {l : List UInt8} (h : (RParse l).2.1 = 0) (hl : (planL (RParse l).1).length ≤ 8192) : (RParse (planL (RParse l).1)).2 = (0, 0, 0) ∧ strip (RParse (planL (RParse l).1)).1 = strip (RParse l).1 := plan_read (pok_parse h) hl
end Go.Proofs.YtcgkfgklggjmaaaDoor.Par
end
section
namespace Go.Proofs.YtcgkfgklggjmaaaDoor.Par
set_option linter.unusedVariables false
set_option linter.unusedSimpArgs false
/-! lines and tabs of a plan's text: plain -/
def ctTabs : List UInt8 → Nat
  | [] => 0
  | c :: l => if c = 9 then ctTabs l + 1 else 0
def lineRun : List UInt8 → List UInt8 → Int → Bool
  | [], cur, deep => decide (deep = 0) && decide (cur = [])
  | c :: r, cur, deep =>
    if c = 10 then
      if cur = [] then false
      else if (ctTabs cur : Int) ≠ (if cur.getLastD 0 = 125 then deep - 1 else deep) then false
      else if cur.getLastD 0 = 59 then lineRun r [] deep
      else if cur.getLastD 0 = 123 then lineRun r [] (deep + 1)
      else if cur.getLastD 0 = 125 then lineRun r [] (deep - 1) else false
    else lineRun r (cur ++ [c]) deep
theorem run_body : ∀ (b : List UInt8) (r cur : List UInt8) (d : Int), 10 ∉ b → lineRun (b ++ r) cur d = lineRun r (cur ++ b) d
  | [], r, cur, d, _ => by simp
  | c :: b, r, cur, d, h => by
    have hc : c ≠ 10 := fun e => h (by rw [e]; exact List.mem_cons_self)
    rw [List.cons_append, lineRun, if_neg hc, run_body b r (cur ++ [c]) d (fun hm => h (List.mem_cons_of_mem _ hm))]
    simp
theorem tabs_snoc (c : UInt8) (hc : c ≠ 9) : ∀ y : List UInt8, ctTabs (y ++ [c]) = ctTabs y
  | [] => by simp [ctTabs, hc]
  | x :: y => by
    rw [List.cons_append, ctTabs, ctTabs, tabs_snoc c hc y]
/-- bytes that are read as whole lines -/
def Eat (l : List UInt8) (d e : Nat) : Prop := ∀ r, lineRun (l ++ r) [] d = lineRun r [] e
theorem Eat.nil (d : Nat) : Eat [] d d := fun r => rfl
theorem Eat.app {l m : List UInt8} {d e f : Nat} (h : Eat l d e) (k : Eat m e f) : Eat (l ++ m) d f := fun r => by rw [List.append_assoc, h, k]
theorem Eat.flat {α : Type} {g : α → List UInt8} {d : Nat} : ∀ {l : List α}, (∀ x ∈ l, Eat (g x) d d) → Eat (l.flatMap g) d d
  | [], _ => Eat.nil d
  | x :: l, h => by
    rw [List.flatMap_cons]
    exact (h x List.mem_cons_self).app (Eat.flat fun y hy => h y (List.mem_cons_of_mem _ hy))
theorem last_snoc (y : List UInt8) (c : UInt8) : (y ++ [c]).getLastD 0 = c := by simp [List.getLastD_eq_getLast?]
theorem eat_semi {y : List UInt8} {k : Nat} (hk : ctTabs y = k) (h : 10 ∉ y) : Eat (y ++ [59, 10]) k k := fun r => by
  have e : y ++ [59, 10] ++ r = (y ++ [59]) ++ 10 :: r := by simp
  rw [e, run_body _ _ _ _ (by simpa using h), List.nil_append, lineRun, if_pos rfl, if_neg (by simp), last_snoc, tabs_snoc _ (by decide), hk]
  simp
theorem eat_open {y : List UInt8} {k : Nat} (hk : ctTabs y = k) (h : 10 ∉ y) : Eat (y ++ [123, 10]) k (k + 1) := fun r => by
  have e : y ++ [123, 10] ++ r = (y ++ [123]) ++ 10 :: r := by simp
  rw [e, run_body _ _ _ _ (by simpa using h), List.nil_append, lineRun, if_pos rfl, if_neg (by simp), last_snoc, tabs_snoc _ (by decide), hk]
  simp
theorem eat_shut {y : List UInt8} {k : Nat} (hk : ctTabs y = k) (h : 10 ∉ y) : Eat (y ++ [125, 10]) (k + 1) k := fun r => by
  have e : y ++ [125, 10] ++ r = (y ++ [125]) ++ 10 :: r := by simp
  have e2 : ((k + 1 : Nat) : Int) - 1 = k := by omega
  rw [e, run_body _ _ _ _ (by simpa using h), List.nil_append, lineRun, if_pos rfl, if_neg (by simp), last_snoc, tabs_snoc _ (by decide), hk]
  simp [e2]
theorem no10_let {t : List UInt8} (h : t.all isLet = true) : 10 ∉ t := fun hm => by
  have := List.all_eq_true.1 h _ hm
  revert this
  decide
theorem no10_kind {t : List UInt8} (h : kindOf t ≠ 0) (h5 : kindOf t ≠ 5) : 10 ∉ t := no10_let (let_of h h5).2
theorem no10_name {n : ByteArray} (h : NOk n) : 10 ∉ n.data.toList := no10_kind (by rw [show kindOf n.data.toList = 1 from h]; decide) (by rw [show kindOf n.data.toList = 1 from h]; decide)
theorem no10_dec {n : Int} (k : Nat) (hk : k ≤ 9) (h0 : 0 ≤ n) : 10 ∉ Dec.textL n k := no10_kind (by rw [k_dec k hk h0]; decide) (by rw [k_dec k hk h0]; decide)
theorem no10_dig (n : Int) : 10 ∉ digT n := no10_kind (by rw [k_dig]; decide) (by rw [k_dig]; decide)
theorem no10_day {d : Day} (h : DOk d) : 10 ∉ dayT d := no10_kind (by rw [h.1]; decide) (by rw [h.1]; decide)
theorem no10_win {w : Win} (h : WOk w) : 10 ∉ winL w := by
  rcases h with ⟨h0, h1, h2⟩ | h
  · have a := no10_day h1
    have b := no10_day h2
    unfold winL
    rw [if_pos h0]
    simp [a, b]
  · rw [h]; decide
theorem no10_mode {m : Int} (h : 0 ≤ m ∧ m ≤ 3) : 10 ∉ modeL m := by
  obtain rfl | rfl | rfl | rfl : m = 0 ∨ m = 1 ∨ m = 2 ∨ m = 3 := by omega
  all_goals decide
theorem eat_met {m : Met} (h : NOk m.name ∧ NOk m.unit) : Eat (metL m) 0 0 := by
  have a := no10_name h.1
  have b := no10_name h.2
  have c := no10_dig m.max
  exact eat_semi (by simp [ctTabs]) (by simp [a, b, c])
theorem eat_fee {f : Fee} (h : WOk f.win) : Eat (feeL f) 0 0 := by
  have a := no10_dig f.amount
  have b := no10_win h
  exact eat_semi (by simp [ctTabs]) (by simp [a, b])
theorem eat_tier (z : Bool) {t : Tier} (h : 0 ≤ t.rate) : Eat (tierL z t) 2 2 := by
  have a := no10_dig t.upto
  have b := no10_dec (n := t.rate) 6 (by decide) h
  refine eat_semi ?_ ?_
  · cases z <;> simp [ctTabs]
  · have b' : 10 ∉ Dec.textL t.rate 6 := b
    cases z <;> simp [a, b']
theorem eat_adj {x : Adj} (h : AOk x) : Eat (adjL x) 1 1 := by
  unfold adjL
  rcases h with ⟨hk, hn, hm⟩ | ⟨hk, hn, hm⟩
  · rw [if_pos hk]
    have a : 10 ∉ Dec.textL x.n 3 := no10_dec (n := x.n) 3 (by decide) hn.1
    have b := no10_mode hm
    have e : [9, 112, 101, 114, 99, 101, 110, 116, 32] ++ Dec.textL x.n 3 ++ 32 :: (modeL x.mode ++ [59, 10]) = ([9, 112, 101, 114, 99, 101, 110, 116, 32] ++ Dec.textL x.n 3 ++ 32 :: modeL x.mode) ++ [59, 10] := by simp
    rw [e]
    exact eat_semi (by simp [ctTabs]) (by simp [a, b])
  · have a := no10_dig x.n
    rw [if_neg (by omega)]
    rcases hk with hk | hk | hk
    · rw [if_pos hk]; exact eat_semi (by simp [ctTabs]) (by simp [a])
    · rw [if_neg (by omega), if_pos hk]; exact eat_semi (by simp [ctTabs]) (by simp [a])
    · rw [if_neg (by omega), if_neg (by omega), if_pos hk]; exact eat_semi (by simp [ctTabs]) (by simp [a])
theorem eat_tiers {ts : List Tier} (h : ∀ t ∈ ts, 0 ≤ t.rate) : ∀ k, k ≤ ts.length → Eat (tiersL ts k) 2 2
  | 0, _ => Eat.nil 2
  | k + 1, hk => by
    have ht : ts[k]? = some ts[k] := List.getElem?_eq_getElem (by omega)
    rw [tiersL_succ ht]
    exact (eat_tiers h k (by omega)).app (eat_tier _ (h _ (List.getElem_mem _)))
theorem eat_chg {c : Chg} (h : COk c) : Eat (chgL c) 0 0 := by
  have a := no10_name h.meter
  have b := no10_win h.win
  have c1 : Eat (chg1L c) 0 1 := by
    have e : chg1L c = ([99, 104, 97, 114, 103, 101, 32] ++ c.meter.data.toList ++ winL c.win ++ [32]) ++ [123, 10] := by simp [chg1L]
    rw [e]
    exact eat_open (by simp [ctTabs]) (by simp [a, b])
  have c2 : Eat (alwL c) 1 1 := by
    have x := no10_dig c.allow
    unfold alwL
    split
    · exact eat_semi (by simp [ctTabs]) (by simp [x])
    · exact Eat.nil 1
  have c3 : Eat (blkL c) 1 1 := by
    have x := no10_dig c.block
    unfold blkL
    split
    · exact eat_semi (by simp [ctTabs]) (by simp [x])
    · exact Eat.nil 1
  have c4 : Eat (kindL c) 1 2 := by
    unfold kindL
    split
    · exact eat_open (y := [9, 118, 111, 108, 117, 109, 101, 32]) (by decide) (by decide)
    · exact eat_open (y := [9, 103, 114, 97, 100, 117, 97, 116, 101, 100, 32]) (by decide) (by decide)
  have c5 : Eat (tiersL c.tiers c.tiers.length) 2 2 := eat_tiers (fun t ht => by
    obtain ⟨l, r, e, h1, h2⟩ := h.tiers
    rw [e] at ht
    rcases List.mem_append.1 ht with ht | ht
    · exact (h1 t ht).2.1
    · obtain rfl := List.mem_singleton.1 ht; exact h2.1) _ (Nat.le_refl _)
  have c6 : Eat (rndL c) 2 1 := by
    have x := no10_mode h.mode
    have e : rndL c = ([9] ++ [125, 10]) ++ (([9, 114, 111, 117, 110, 100, 32] ++ modeL c.mode) ++ [59, 10]) := by simp [rndL]
    rw [e]
    exact (eat_shut (by decide) (by decide)).app (eat_semi (by simp [ctTabs]) (by simp [x]))
  have c7 : Eat (c.adjs.flatMap adjL) 1 1 := Eat.flat fun x hx => eat_adj (h.adjs x hx)
  have c8 : Eat [125, 10] 1 0 := eat_shut (y := []) rfl (by decide)
  exact ((((((c1.app c2).app c3).app c4).app c5).app c6).app c7).app c8
theorem eat_plan {p : Plan} (h : POk p) : Eat (planL p) 0 0 := by
  have a := no10_name h.name
  have b := no10_name h.cur
  have c := no10_day h.from_
  have d := no10_day h.to_
  have c1 : Eat (headL p) 0 0 := by
    have e : headL p = (([112, 108, 97, 110, 32] ++ p.name.data.toList ++ [32, 99, 117, 114, 114, 101, 110, 99, 121, 32] ++ p.cur.data.toList) ++ [59, 10]) ++ (([104, 111, 114, 105, 122, 111, 110, 32] ++ dayT p.from_ ++ 32 :: dayT p.to_) ++ [59, 10]) := by simp [headL]
    rw [e]
    exact (eat_semi (by simp [ctTabs]) (by simp [a, b])).app (eat_semi (by simp [ctTabs]) (by simp [c, d]))
  exact ((c1.app (Eat.flat fun m hm => eat_met ⟨(h.mets m hm).1, (h.mets m hm).2.1⟩)).app (Eat.flat fun f hf => eat_fee (h.fees f hf).2)).app (Eat.flat fun c hc => eat_chg (h.chgs c hc))
/-- every line of a plan's text ends as it must, behind as many tabs as braces are open -/
theorem lines_plan {p : Plan} (h : POk p) : lineRun (planL p) [] 0 = true := by
  have := eat_plan h []
  rw [List.append_nil] at this
  simpa [lineRun] using this
end Go.Proofs.YtcgkfgklggjmaaaDoor.Par
end
