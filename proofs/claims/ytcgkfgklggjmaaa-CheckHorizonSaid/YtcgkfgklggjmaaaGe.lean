import Derived.Test.YtcgkfgklggjmaaaGd
import Derived.Laws.Bits64b
section
namespace Go.Proofs.Ytcgkfgklggjmaaa.Par
set_option linter.unusedVariables false
set_option linter.unusedSimpArgs false
/-! what is parsed without a fault is a plan that can be read back -/
def Kt (x : Tok) : Prop := x.kind = 0 ∨ kindOf x.text.data.toList = x.kind
def Ks (l : List Tok) : Prop := ∀ x ∈ l, Kt x
theorem lex_kinds : ∀ (n : Nat) (l : List UInt8) (line col : Int) (ts : List Tok), l.length ≤ n → lexL l line col = .ok ts → Ks ts := by
  intro n
  induction n with
  | zero =>
    intro l line col ts hn h
    obtain rfl : l = [] := List.eq_nil_of_length_eq_zero (by omega)
    rw [lexL] at h
    injection h with h
    subst h
    intro t ht
    obtain rfl := List.mem_singleton.1 ht
    exact .inl rfl
  | succ n ih =>
    intro l line col ts hn h
    cases l with
    | nil =>
      rw [lexL] at h
      injection h with h
      subst h
      intro t ht
      obtain rfl := List.mem_singleton.1 ht
      exact .inl rfl
    | cons c cs =>
      rw [lexL] at h
      rw [List.length_cons] at hn
      split at h
      · exact ih _ _ _ _ (by rw [List.length_drop]; omega) h
      · split at h
        · exact ih _ _ _ _ (by omega) h
        · split at h
          · exact ih _ _ _ _ (by omega) h
          · split at h
            · cases h
            · cases hr : lexL (cs.drop (tokLen c cs)) line (col + 1 + tokLen c cs) with
              | error e => rw [hr] at h; cases h
              | ok ts' =>
                rw [hr] at h
                injection h with h
                subst h
                intro t ht
                rcases List.mem_cons.1 ht with rfl | ht
                · exact .inr rfl
                · exact ih _ _ _ _ (by rw [List.length_drop]; omega) hr t ht
theorem all_kinds {l : List UInt8} {ts : List Tok} {a b : Int} (h : lexAll l = (ts, 0, a, b)) : Ks ts := by
  unfold lexAll at h
  split at h
  · injection h with _ h
    injection h with h _
    cases h
  · cases hr : lexL l 1 1 with
    | ok ts' =>
      rw [hr] at h
      injection h with h _
      subst h
      exact lex_kinds _ l 1 1 _ (Nat.le_refl _) hr
    | error e =>
      rw [hr] at h
      injection h with _ h
      injection h with h _
      cases h
def U {α : Type} (Φ : α → Prop) (F : St → α × St) : Prop := ∀ s, Ks s.rest → Ks (F s).2.rest ∧ ((F s).2.err = 0 → s.err = 0 ∧ Φ (F s).1)
section
variable {α β : Type}
theorem U.bnd {Φ : α → Prop} {Ψ : β → Prop} {F : St → α × St} {G : α → St → β × St} (hF : U Φ F) (hG : ∀ a, U (fun y => Φ a → Ψ y) (G a)) : U Ψ (bnd F G) := fun s hs => by
  have h1 := hF s hs
  have h2 := hG (F s).1 _ h1.1
  exact ⟨h2.1, fun h0 => ⟨(h1.2 (h2.2 h0).1).1, (h2.2 h0).2 (h1.2 (h2.2 h0).1).2⟩⟩
theorem U.mp {Φ : α → Prop} {Ψ : β → Prop} {F : St → α × St} (f : α → β) (hF : U Φ F) (hf : ∀ a, Φ a → Ψ (f a)) : U Ψ (mp f F) := fun s hs => ⟨(hF s hs).1, fun h0 => ⟨((hF s hs).2 h0).1, hf _ ((hF s hs).2 h0).2⟩⟩
theorem U.ret {Φ : α → Prop} {a : α} (h : Φ a) : U Φ (fun s => (a, s)) := fun s hs => ⟨hs, fun h0 => ⟨h0, h⟩⟩
theorem U.ite {Φ : α → Prop} {p : Prop} [Decidable p] {F G : St → α × St} (hF : p → U Φ F) (hG : ¬ p → U Φ G) : U Φ (fun s => if p then F s else G s) := by
  by_cases hp : p
  · simp only [if_pos hp]; exact hF hp
  · simp only [if_neg hp]; exact hG hp
theorem U.iteErr {Φ : α → Prop} {p : Prop} [Decidable p] {a : α} {F : St → α × St} (ha : Φ a) (hF : ¬ p → U Φ F) : U Φ (fun s => if p ∨ s.err ≠ 0 then (a, s) else F s) := by
  intro s hs
  by_cases hp : p ∨ s.err ≠ 0
  · simp only [if_pos hp]; exact ⟨hs, fun h0 => ⟨h0, ha⟩⟩
  · simp only [if_neg hp]; exact hF (fun c => hp (.inl c)) s hs
theorem U.weak {Φ Ψ : α → Prop} {F : St → α × St} (hF : U Φ F) (hf : ∀ a, Φ a → Ψ a) : U Ψ F := fun s hs => ⟨(hF s hs).1, fun h0 => ⟨((hF s hs).2 h0).1, hf _ ((hF s hs).2 h0).2⟩⟩
theorem ks_tail {l : List Tok} (h : Ks l) : Ks l.tail := fun x hx => h x (List.mem_of_mem_tail hx)
theorem ks_next {s : St} (h : Ks s.rest) : Ks (P.next s).rest := by
  unfold P.next; split
  · exact h
  · exact ks_tail h
theorem ks_fail {e : Int} {t : Tok} {s : St} (h : Ks s.rest) : Ks (fail e t s).rest := by
  unfold fail; split <;> exact h
theorem u_fail {Φ : α → Prop} {a : α} {e : Int} (he : e ≠ 0) : U Φ (fun s => (a, fail e (peek s) s)) := fun s hs => ⟨ks_fail hs, fun h0 => absurd h0 (fail_err e _ _ he)⟩
theorem u_eat (w : ByteArray) : U (fun _ => True) (P.eat w) := fun s hs => by
  refine ⟨?_, fun h0 => ⟨by rwa [eat_err] at h0, trivial⟩⟩
  unfold P.eat; split
  · exact ks_next hs
  · exact hs
theorem u_must : ∀ (l : List ByteArray), U (fun _ => True) (un (P.must l))
  | [], s, hs => ⟨hs, fun h0 => ⟨h0, trivial⟩⟩
  | w :: ws, s, hs => by
    have h1 := u_eat w s hs
    refine ⟨?_, fun h0 => ⟨must_back h0, trivial⟩⟩
    show Ks (P.must (w :: ws) s).rest
    rw [P.must]
    split
    · exact (u_must ws _ h1.1).1
    · exact ks_fail h1.1
theorem u_kind (k : Int) (hk : k ≠ 0) : U (fun t : ByteArray => kindOf t.data.toList = k) (P.kind k) := fun s hs => by
  refine ⟨?_, fun h0 => ⟨kind_back h0, ?_⟩⟩
  · unfold P.kind; split
    · exact ks_next hs
    · exact ks_fail hs
  · unfold P.kind at h0 ⊢
    by_cases hp : (peek s).kind = k
    · rw [if_pos hp]
      show kindOf (peek s).text.data.toList = k
      unfold peek at hp ⊢
      cases hr : s.rest with
      | nil => rw [hr] at hp; exact absurd hp.symm hk
      | cons a b =>
        rw [hr] at hp
        have hp' : a.kind = k := hp
        show kindOf a.text.data.toList = k
        rcases hs a (by rw [hr]; simp) with h | h
        · exact absurd (hp'.symm.trans h) hk
        · rw [h, hp']
    · rw [if_neg hp] at h0
      exact absurd h0 (fail_err 4 _ _ (by decide))
theorem u_day : U DOk (P.day dp) := (u_kind 4 (by decide)).mp dp fun a h => dok_of h
theorem u_one : ∀ (l : List ByteArray) (i : Int), U (fun o => o = -1 ∨ (i ≤ o ∧ o < i + l.length)) (P.one l i)
  | [], i => U.ret (.inl rfl)
  | w :: ws, i => (u_eat w).bnd (G := fun a s => if a = true then (i, s) else P.one ws (i + 1) s) fun a => U.ite (fun _ => U.ret fun _ => .inr ⟨Int.le_refl _, by rw [List.length_cons]; omega⟩) fun _ => (u_one ws (i + 1)).weak fun o ho _ => by
    rw [List.length_cons]; omega
theorem u_mode : U (fun m => 0 ≤ m ∧ m ≤ 3) P.mode := (u_one [wFloor, wCeil, wHalfup, wHalfeven] 0).bnd (G := fun o s => if o < 0 then (0, fail 4 (peek s) s) else (o, s)) fun o => U.ite (fun _ => u_fail (by decide)) fun h => U.ret fun ho => by
  have hl : ([wFloor, wCeil, wHalfup, wHalfeven].length : Int) = 4 := rfl
  omega
theorem u_window : U WOk (P.window dp) :=
  (u_eat wFrom).bnd (G := fun a s => if a = true then bnd (P.day dp) (fun f => bnd (un (P.must [wTo])) (fun _ => mp (fun t => (⟨true, f, t⟩ : Win)) (P.day dp))) s else (noWin, s)) fun a =>
    U.ite (fun _ => u_day.bnd fun f => (u_must [wTo]).bnd fun _ => u_day.mp _ fun t ht _ hf _ => .inl ⟨rfl, hf, ht⟩) fun _ => U.ret fun _ => .inr rfl
theorem u_ckind : U (fun k => k = 1 ∨ k = 2) P.ckind :=
  (u_eat wVolume).bnd (G := fun a s => if a = true then ((2 : Int), s) else mp (fun _ => (1 : Int)) (un (P.must [wGraduated])) s) fun a => U.ite (fun _ => U.ret fun _ => .inr rfl) fun _ => (u_must [wGraduated]).mp _ fun _ _ _ => .inl rfl
theorem u_number (pl most : Int) (hm : 0 ≤ most) : U (fun n => 0 ≤ n ∧ n ≤ most) (P.number npV pl most) := fun s hs => by
  refine ⟨?_, fun h0 => ⟨number_back npV h0, ?_⟩⟩
  · have hk := (u_kind 3 (by decide) s hs).1
    unfold P.number
    simp only
    split
    · simp only
      split
      · exact ks_fail hk
      · split
        · exact ks_fail hk
        · exact hk
    · exact hk
  · unfold P.number
    simp only
    split
    · exact npV_in _ _ _ hm
    · exact ⟨Int.le_refl _, hm⟩
theorem u_opt (w : ByteArray) (d : Int) (hd : 0 ≤ d ∧ d ≤ 1000000) : U (fun n => 0 ≤ n ∧ n ≤ 1000000) (P.opt npV w d) :=
  (u_eat w).bnd (G := fun a s => if a = true then bnd (P.number npV 0 1000000) (fun x => mp (fun _ => x) (un (P.must [wSemi]))) s else (d, s)) fun a =>
    U.ite (fun _ => (u_number 0 1000000 (by decide)).bnd fun x => (u_must [wSemi]).mp _ fun _ _ hx _ => hx) fun _ => U.ret fun _ => hd
theorem u_tierLoop : ∀ (f : Nat) (acc : List Tier), U (fun l => (∀ t ∈ acc, TOk t) → ∀ t ∈ l, TOk t) (P.tierLoop npV f acc)
  | 0, acc => U.ret fun h => h
  | f + 1, acc => (u_eat wUpto).bnd (G := fun a s => if a = true then bnd (P.number npV 0 1000000) (fun x => bnd (un (P.must [wRate])) (fun _ => bnd (P.number npV 6 1000000000000) (fun y => bnd (un (P.must [wSemi])) (fun _ => P.tierLoop npV f (acc ++ [(⟨x, y⟩ : Tier)]))))) s else (acc, s)) fun a =>
    U.ite (fun _ => (u_number 0 1000000 (by decide)).bnd fun x => (u_must [wRate]).bnd fun _ => (u_number 6 1000000000000 (by decide)).bnd fun y => (u_must [wSemi]).bnd fun _ => (u_tierLoop f _).weak fun l hl _ hy _ hx _ hacc => hl fun t ht => by
      rcases List.mem_append.1 ht with ht | ht
      · exact hacc t ht
      · obtain rfl := List.mem_singleton.1 ht; exact ⟨hx, hy⟩) fun _ => U.ret fun _ h => h
theorem u_tierAll : U (fun l => ∀ t ∈ l, TOk t) (P.tierAll npV []) := fun s hs => ((u_tierLoop (len s) []).weak fun l h => h fun t ht => by cases ht) s hs
theorem u_tiers : U (fun x => ∃ l r, x = l ++ [(⟨0, r⟩ : Tier)] ∧ (∀ t ∈ l, TOk t) ∧ 0 ≤ r ∧ r ≤ 1000000000000) (P.tiers npV) :=
  (u_must [wOpen]).bnd (G := fun _ => bnd (P.tierAll npV []) (fun l => bnd (un (P.must [wRest, wRate])) (fun _ => bnd (P.number npV 6 1000000000000) (fun r => mp (fun _ => l ++ [(⟨0, r⟩ : Tier)]) (un (P.must [wSemi, wClose])))))) fun _ =>
    u_tierAll.bnd fun l => (u_must [wRest, wRate]).bnd fun _ => (u_number 6 1000000000000 (by decide)).bnd fun r => (u_must [wSemi, wClose]).mp _ fun _ _ hr _ hl _ => ⟨l, r, rfl, hl, hr⟩
theorem u_adjBody (k : Int) : U (fun a => (k = 1 ∨ k = 2 ∨ k = 3 ∨ k = 4) → AOk a) (P.adjBody npV k) := by
  have h : P.adjBody npV k = fun s => if k = 1 then bnd (P.number npV 3 100000000) (fun n => bnd P.mode (fun m => mp (fun _ => (⟨1, n, m⟩ : Adj)) (un (P.must [wSemi])))) s else bnd (P.number npV 0 1000000000000) (fun n => mp (fun _ => (⟨k, n, 0⟩ : Adj)) (un (P.must [wSemi]))) s := rfl
  rw [h]
  exact U.ite (fun _ => (u_number 3 100000000 (by decide)).bnd fun n => u_mode.bnd fun m => (u_must [wSemi]).mp _ fun _ _ hm hn _ => .inl ⟨rfl, hn, hm.1, hm.2⟩)
    fun hk => (u_number 0 1000000000000 (by decide)).bnd fun n => (u_must [wSemi]).mp _ fun _ _ hn h => .inr ⟨h.resolve_left hk, hn, rfl⟩
theorem u_adjust : U (fun x : Adj × Bool => x.2 = true → AOk x.1) (P.adjust npV) :=
  (u_one [wPercent, wCap, wMinimum, wAdd] 1).bnd (G := fun o s => if o < 0 then (((⟨0, 0, 0⟩ : Adj), false), s) else mp (fun b => (b, true)) (P.adjBody npV o) s) fun o =>
    U.ite (fun _ => U.ret fun _ h => by cases h) fun hn => (u_adjBody o).mp _ fun b hb ho _ => hb (by
      have hl : ([wPercent, wCap, wMinimum, wAdd].length : Int) = 4 := rfl
      omega)
theorem u_adjLoop : ∀ (f : Nat) (acc : List Adj), U (fun l => (∀ a ∈ acc, AOk a) → ∀ a ∈ l, AOk a) (P.adjLoop npV f acc)
  | 0, acc => U.ret fun h => h
  | f + 1, acc => u_adjust.bnd (G := fun (a : Adj × Bool) s => if a.2 = false ∨ s.err ≠ 0 then (acc, s) else P.adjLoop npV f (acc ++ [a.1]) s) fun a => U.iteErr (fun _ h => h) fun ha => (u_adjLoop f _).weak fun l hl hx h => hl fun x hm => by
      rcases List.mem_append.1 hm with hm | hm
      · exact h x hm
      · obtain rfl := List.mem_singleton.1 hm
        exact hx (by cases h2 : a.2 with
          | true => rfl
          | false => exact absurd h2 ha)
theorem u_adjAll : U (fun l => ∀ a ∈ l, AOk a) (P.adjAll npV []) := fun s hs => ((u_adjLoop (len s) []).weak fun l h => h fun t ht => by cases ht) s hs
theorem u_charge (l c : Int) : U COk (P.charge dp npV l c) :=
  (u_kind 1 (by decide)).bnd (G := fun n => bnd (P.window dp) fun w => bnd (un (P.must [wOpen])) fun _ => bnd (P.opt npV wAllowance 0) fun a => bnd (P.opt npV wBlock 1) fun b => bnd P.ckind fun k => bnd (P.tiers npV) fun t =>
      bnd (un (P.must [wRound])) fun _ => bnd P.mode fun m => bnd (un (P.must [wSemi])) fun _ => bnd (P.adjAll npV []) fun d => mp (fun _ => (⟨n, w, a, b, k, t, m, d, l, c⟩ : Chg)) (un (P.must [wClose]))) fun n =>
    u_window.bnd fun w => (u_must [wOpen]).bnd fun _ => (u_opt wAllowance 0 (by decide)).bnd fun a => (u_opt wBlock 1 (by decide)).bnd fun b => u_ckind.bnd fun k => u_tiers.bnd fun t =>
      (u_must [wRound]).bnd fun _ => u_mode.bnd fun m => (u_must [wSemi]).bnd fun _ => u_adjAll.bnd fun d => (u_must [wClose]).mp _ fun _ _ hd _ hm _ ht hk hb ha _ hw hn => ⟨hn, hw, ha, hb, hk, ht, hm, hd⟩
theorem u_meter (l c : Int) : U (fun m : Met => NOk m.name ∧ NOk m.unit ∧ 0 ≤ m.max ∧ m.max ≤ 2000) (P.meter npV l c) :=
  (u_kind 1 (by decide)).bnd (G := fun n => bnd (un (P.must [wUnit])) fun _ => bnd (P.kind 1) fun x => bnd (un (P.must [wMax])) fun _ => bnd (P.number npV 0 2000) fun m => mp (fun _ => (⟨n, x, m, l, c⟩ : Met)) (un (P.must [wSemi]))) fun n =>
    (u_must [wUnit]).bnd fun _ => (u_kind 1 (by decide)).bnd fun x => (u_must [wMax]).bnd fun _ => (u_number 0 2000 (by decide)).bnd fun m => (u_must [wSemi]).mp _ fun _ _ hm _ hx _ hn => ⟨hn, hx, hm⟩
theorem u_fee (l c : Int) : U (fun f : Fee => (0 ≤ f.amount ∧ f.amount ≤ 1000000000000) ∧ WOk f.win) (P.fee dp npV l c) :=
  (u_number 0 1000000000000 (by decide)).bnd (G := fun x => bnd (P.window dp) fun w => mp (fun _ => (⟨x, w, l, c⟩ : Fee)) (un (P.must [wSemi]))) fun x =>
    u_window.bnd fun w => (u_must [wSemi]).mp _ fun _ _ hw hx => ⟨hx, hw⟩
theorem u_head : U POk (P.head dp) := fun s hs => by
  have h : U POk (hd dp) :=
    (u_must [wPlan]).bnd fun _ => (u_kind 1 (by decide)).bnd fun n => (u_must [wCurrency]).bnd fun _ => (u_kind 1 (by decide)).bnd fun c => (u_must [wSemi, wHorizon]).bnd fun _ => u_day.bnd fun f => u_day.bnd fun t =>
      (u_must [wSemi]).mp _ fun _ _ ht hf _ hc _ hn _ => ⟨hn, hc, hf, ht, (fun x hx => by cases hx), (fun x hx => by cases hx), (fun x hx => by cases hx)⟩
  rw [head_hd]
  refine ⟨(h s hs).1, fun h0 => ⟨((h s hs).2 h0).1, ?_⟩⟩
  have := ((h s hs).2 h0).2
  exact ⟨this.name, this.cur, this.from_, this.to_, this.mets, this.fees, this.chgs⟩
theorem u_item (p : Plan) : U (fun q => POk p → POk q) (P.item dp npV p) := fun s hs => by
  have ho := u_one [wMeter, wFee, wCharge] 0 s hs
  have hm := u_meter (peek s).line (peek s).col _ ho.1
  have hf := u_fee (peek s).line (peek s).col _ ho.1
  have hc := u_charge (peek s).line (peek s).col _ ho.1
  unfold P.item
  simp only
  split
  · exact ⟨hm.1, fun h0 => ⟨(ho.2 (hm.2 h0).1).1, fun hp => ⟨hp.name, hp.cur, hp.from_, hp.to_, fun x hx => by
      rcases List.mem_append.1 hx with hx | hx
      · exact hp.mets x hx
      · obtain rfl := List.mem_singleton.1 hx; exact (hm.2 h0).2, hp.fees, hp.chgs⟩⟩⟩
  · split
    · exact ⟨hf.1, fun h0 => ⟨(ho.2 (hf.2 h0).1).1, fun hp => ⟨hp.name, hp.cur, hp.from_, hp.to_, hp.mets, fun x hx => by
        rcases List.mem_append.1 hx with hx | hx
        · exact hp.fees x hx
        · obtain rfl := List.mem_singleton.1 hx; exact (hf.2 h0).2, hp.chgs⟩⟩⟩
    · split
      · exact ⟨hc.1, fun h0 => ⟨(ho.2 (hc.2 h0).1).1, fun hp => ⟨hp.name, hp.cur, hp.from_, hp.to_, hp.mets, hp.fees, fun x hx => by
          rcases List.mem_append.1 hx with hx | hx
          · exact hp.chgs x hx
          · obtain rfl := List.mem_singleton.1 hx; exact (hc.2 h0).2⟩⟩⟩
      · exact ⟨(u_must [wSemi] _ (ks_fail ho.1)).1, fun h0 => absurd (must_back h0) (fail_err 4 _ _ (by decide))⟩
theorem u_items : ∀ (f : Nat) (p : Plan), U (fun q => POk p → POk q) (P.items dp npV f p)
  | 0, p => U.ret fun h => h
  | f + 1, p => fun s hs => by
    rw [P.items]
    split
    · have h := u_item p s hs
      have h2 := u_items f (P.item dp npV p s).1 _ h.1
      exact ⟨h2.1, fun h0 => ⟨(h.2 (h2.2 h0).1).1, fun hp => (h2.2 h0).2 ((h.2 (h2.2 h0).1).2 hp)⟩⟩
    · exact ⟨hs, fun h0 => ⟨h0, fun hp => hp⟩⟩
end
/-- what is parsed can be read back -/
theorem pok_parse {l : List UInt8} (h : (RParse l).2.1 = 0) : POk (RParse l).1 := by
  obtain ⟨ts, er, a, b, hall⟩ : ∃ ts er a b, lexAll l = (ts, er, a, b) := ⟨_, _, _, _, rfl⟩
  by_cases her : er = 0
  · subst her
    by_cases h0 : (P.plan dp npV ts).2.err = 0
    · rw [PParse_ok hall h0]
      have h1 := u_head ⟨ts, 0, 0, 0⟩ (all_kinds hall)
      have h2 := u_items (P.head dp ⟨ts, 0, 0, 0⟩).2.rest.length (P.head dp ⟨ts, 0, 0, 0⟩).1 _ h1.1
      exact (h2.2 h0).2 (h1.2 (h2.2 h0).1).2
    · rw [PParse_bad hall h0] at h; exact absurd h h0
  · rw [RParse_lex hall her] at h; exact absurd h her
/-- the text of a parsed plan, read again -/
theorem parse_read {l : List UInt8} (h : (RParse l).2.1 = 0) (hl : (planL (RParse l).1).length ≤ 8192) : (RParse (planL (RParse l).1)).2 = (0, 0, 0) ∧ strip (RParse (planL (RParse l).1)).1 = strip (RParse l).1 := plan_read (pok_parse h) hl
end Go.Proofs.Ytcgkfgklggjmaaa.Par
end
section
namespace Go.Proofs.Ytcgkfgklggjmaaa.Par
set_option linter.unusedVariables false
set_option linter.unusedSimpArgs false
/-! two parsed plans have one text just if they have one row -/
theorem byte_inj {x y : Int} (hx : 0 ≤ x ∧ x < 256) (hy : 0 ≤ y ∧ y < 256) (h : UInt8.ofNat x.toNat = UInt8.ofNat y.toNat) : x = y := by
  have := congrArg UInt8.toNat h
  simp only [UInt8.toNat_ofNat'] at this
  omega
theorem textB_inj {n m : Int} (hn : 0 ≤ n ∧ n < 9223372036854775808) (hm : 0 ≤ m ∧ m < 9223372036854775808) (h : textB n = textB m) : n = m := by
  have e : ∀ k : Int, 0 ≤ k ∧ k < 9223372036854775808 → IntKind.u64.wrap k = k := by
    intro k hk
    simp only [IntKind.wrap, IntKind.signed, IntKind.bits]
    simp
    omega
  unfold textB octets at h
  rw [e n hn, e m hm] at h
  have h2 := congrArg (fun b : ByteArray => b.data.toList) h
  simp only [strOfNums, List.map_cons, List.map_nil] at h2
  simp only [List.cons.injEq] at h2
  obtain ⟨a0, a1, a2, a3, a4, a5, a6, a7, _⟩ := h2
  have b0 := byte_inj (by omega) (by omega) a0
  have b1 := byte_inj (by omega) (by omega) a1
  have b2 := byte_inj (by omega) (by omega) a2
  have b3 := byte_inj (by omega) (by omega) a3
  have b4 := byte_inj (by omega) (by omega) a4
  have b5 := byte_inj (by omega) (by omega) a5
  have b6 := byte_inj (by omega) (by omega) a6
  have b7 := byte_inj (by omega) (by omega) a7
  omega
def I63 (n : Int) : Prop := 0 ≤ n ∧ n < 9223372036854775808
theorem dok_in {d : Day} (h : DOk d) : I63 d.1 ∧ I63 d.2.1 ∧ I63 d.2.2 := by
  obtain ⟨h4, hd⟩ := h
  have hp : parseOk (dayT d) = true := by
    unfold kindOf at h4
    split at h4
    · cases h4
    split at h4
    · cases h4
    split at h4
    · cases h4
    split at h4
    · cases h4
    split at h4
    · cases h4
    split at h4
    · assumption
    · cases h4
  have hp' : parseOk (⟨(dayT d).toArray⟩ : ByteArray).data.toList = true := hp
  obtain ⟨e1, e2, e3, _⟩ := p_yes hp'
  obtain ⟨_, hg, _⟩ := parse_text hp
  obtain ⟨a1, a2, a3, a4, a5, a6, a7⟩ := good_of hg
  rw [← hd]
  unfold dp I63
  simp only [e1, e2, e3]
  refine ⟨⟨?_, ?_⟩, ⟨?_, ?_⟩, ⟨?_, ?_⟩⟩ <;> omega
theorem day_inj {d e : Day} (h : DOk d) (k : DOk e) (h1 : textB d.1 = textB e.1) (h2 : textB d.2.1 = textB e.2.1) (h3 : textB d.2.2 = textB e.2.2) : d = e := by
  obtain ⟨a1, a2, a3⟩ := dok_in h
  obtain ⟨b1, b2, b3⟩ := dok_in k
  exact Prod.ext (textB_inj a1 b1 h1) (Prod.ext (textB_inj a2 b2 h2) (textB_inj a3 b3 h3))
theorem win_inj {x y : Win} (h : WOk x) (k : WOk y) (e : winT x = winT y) : x = y := by
  unfold winT at e
  simp only [List.cons.injEq] at e
  obtain ⟨e0, e1, e2, e3, e4, e5, e6, _⟩ := e
  have hne : wYes ≠ wNo := by
    intro c
    have := congrArg (fun b : ByteArray => b.data.toList) c
    simp [wYes, wNo, str] at this
  rcases h with ⟨h0, h1, h2⟩ | rfl <;> rcases k with ⟨k0, k1, k2⟩ | rfl
  · have d1 := day_inj h1 k1 e1 e2 e3
    have d2 := day_inj h2 k2 e4 e5 e6
    cases x; cases y
    simp only at *
    rw [h0, k0, d1, d2]
  · rw [if_pos h0] at e0
    exact absurd e0 hne
  · rw [if_pos k0] at e0
    exact absurd e0.symm hne
  · rfl
theorem flat_inj {α β γ : Type} {g : α → List β} {φ : α → γ} : ∀ (l l' : List α) (r r' : List β), l.length = l'.length → (∀ x ∈ l, ∀ y ∈ l', ∀ u v, g x ++ u = g y ++ v → φ x = φ y ∧ u = v) → l.flatMap g ++ r = l'.flatMap g ++ r' → l.map φ = l'.map φ ∧ r = r'
  | [], [], _, _, _, _, h => ⟨rfl, h⟩
  | [], _ :: _, _, _, h, _, _ => by cases h
  | _ :: _, [], _, _, h, _, _ => by cases h
  | x :: l, y :: l', r, r', hl, hg, h => by
    rw [List.flatMap_cons, List.flatMap_cons, List.append_assoc, List.append_assoc] at h
    obtain ⟨h1, h2⟩ := hg x (by simp) y (by simp) _ _ h
    obtain ⟨h3, h4⟩ := flat_inj l l' r r' (by simpa using hl) (fun a ha b hb => hg a (by simp [ha]) b (by simp [hb])) h2
    exact ⟨by rw [List.map_cons, List.map_cons, h1, h3], h4⟩
theorem len_in {n : Nat} (h : n ≤ 10000) : I63 (n : Int) := ⟨by omega, by omega⟩
theorem met_inj {m n : Met} (h : 0 ≤ m.max ∧ m.max ≤ 2000) (k : 0 ≤ n.max ∧ n.max ≤ 2000) (u v : List ByteArray) (e : metT m ++ u = metT n ++ v) : sM m = sM n ∧ u = v := by
  simp only [metT, List.cons_append, List.nil_append, List.cons.injEq] at e
  obtain ⟨e1, e2, e3, e4⟩ := e
  have := textB_inj (by omega) (by omega) e3
  exact ⟨by unfold sM; rw [e1, e2, this], e4⟩
theorem fee_inj {m n : Fee} (h : (0 ≤ m.amount ∧ m.amount ≤ 1000000000000) ∧ WOk m.win) (k : (0 ≤ n.amount ∧ n.amount ≤ 1000000000000) ∧ WOk n.win) (u v : List ByteArray) (e : feeT m ++ u = feeT n ++ v) : sF m = sF n ∧ u = v := by
  unfold feeT at e
  rw [List.append_assoc, List.append_assoc, List.singleton_append, List.singleton_append] at e
  injection e with e1 e2
  obtain ⟨e3, e4⟩ := List.append_inj e2 rfl
  have h1 := textB_inj (by have := h.1; omega) (by have := k.1; omega) e1
  have h2 := win_inj h.2 k.2 e3
  exact ⟨by unfold sF; rw [h1, h2], e4⟩
theorem tier_inj {m n : Tier} (h : TOk m) (k : TOk n) (u v : List ByteArray) (e : tierT m ++ u = tierT n ++ v) : m = n ∧ u = v := by
  simp only [tierT, List.cons_append, List.nil_append, List.cons.injEq] at e
  obtain ⟨e1, e2, e3⟩ := e
  unfold TOk at h k
  have h1 := textB_inj (by omega) (by omega) e1
  have h2 := textB_inj (by omega) (by omega) e2
  exact ⟨by cases m; cases n; simp only at h1 h2; rw [h1, h2], e3⟩
theorem adj_in {a : Adj} (h : AOk a) : I63 a.kind ∧ I63 a.n ∧ I63 a.mode := by
  unfold I63
  rcases h with ⟨h1, h2, h3, h4⟩ | ⟨h1, h2, h3⟩ <;> refine ⟨⟨?_, ?_⟩, ⟨?_, ?_⟩, ⟨?_, ?_⟩⟩ <;> omega
theorem adj_inj {m n : Adj} (h : AOk m) (k : AOk n) (u v : List ByteArray) (e : adjT m ++ u = adjT n ++ v) : m = n ∧ u = v := by
  simp only [adjT, List.cons_append, List.nil_append, List.cons.injEq] at e
  obtain ⟨e1, e2, e3, e4⟩ := e
  obtain ⟨a1, a2, a3⟩ := adj_in h
  obtain ⟨b1, b2, b3⟩ := adj_in k
  have h1 := textB_inj a1 b1 e1
  have h2 := textB_inj a2 b2 e2
  have h3 := textB_inj a3 b3 e3
  exact ⟨by cases m; cases n; simp only at h1 h2 h3; rw [h1, h2, h3], e4⟩
theorem tiers_in {c : Chg} (h : COk c) : ∀ t ∈ c.tiers, TOk t := by
  obtain ⟨l, r, e, hl, hr⟩ := h.tiers
  intro t ht
  rw [e] at ht
  rcases List.mem_append.1 ht with ht | ht
  · exact hl t ht
  · obtain rfl := List.mem_singleton.1 ht
    exact ⟨⟨Int.le_refl _, by show (0 : Int) ≤ 1000000; decide⟩, hr⟩
theorem chg_inj {c d : Chg} (h : COk c) (k : COk d) (hs : c.tiers.length ≤ 10000 ∧ c.adjs.length ≤ 10000) (ks : d.tiers.length ≤ 10000 ∧ d.adjs.length ≤ 10000) (u v : List ByteArray) (e : chgT c ++ u = chgT d ++ v) : sC c = sC d ∧ u = v := by
  unfold chgT chgH at e
  simp only [List.append_assoc, List.singleton_append] at e
  injection e with e1 e2
  obtain ⟨e3, e4⟩ := List.append_inj e2 rfl
  simp only [List.cons_append, List.nil_append, List.cons.injEq] at e4
  obtain ⟨f1, f2, f3, f4, f5, f6, f7⟩ := e4
  have hA := h.allow
  have kA := k.allow
  have hB := h.block
  have kB := k.block
  have hK := h.kind
  have kK := k.kind
  have hM := h.mode
  have kM := k.mode
  have g1 := textB_inj (by omega) (by omega) f1
  have g2 := textB_inj (by omega) (by omega) f2
  have g3 := textB_inj (by omega) (by omega) f3
  have g4 := textB_inj (by omega) (by omega) f4
  have g5 := textB_inj (len_in hs.1) (len_in ks.1) f5
  have g6 := textB_inj (len_in hs.2) (len_in ks.2) f6
  have g0 := win_inj h.win k.win e3
  obtain ⟨i1, i2⟩ := flat_inj (φ := id) c.tiers d.tiers _ _ (by omega) (fun x hx y hy u v e => tier_inj (tiers_in h x hx) (tiers_in k y hy) u v e) f7
  obtain ⟨j1, j2⟩ := flat_inj (φ := id) c.adjs d.adjs _ _ (by omega) (fun x hx y hy u v e => adj_inj (h.adjs x hx) (k.adjs y hy) u v e) i2
  rw [List.map_id, List.map_id] at i1 j1
  exact ⟨by unfold sC; rw [e1, g0, g1, g2, g3, g4, i1, j1], j2⟩
theorem row_inj {p q : Plan} (h : POk p) (k : POk q) (hs : Small p) (ks : Small q) (e : rowT p = rowT q) : strip p = strip q := by
  unfold rowT headT at e
  simp only [List.append_assoc, List.cons_append, List.nil_append] at e
  injection e with e1 e2
  injection e2 with e2 e3
  obtain ⟨e3, e4⟩ := List.append_inj e3 rfl
  injection e4 with f1 e4
  injection e4 with f2 e4
  injection e4 with f3 e4
  have g1 := textB_inj (len_in hs.mets) (len_in ks.mets) f1
  have g2 := textB_inj (len_in hs.fees) (len_in ks.fees) f2
  have g3 := textB_inj (len_in hs.chgs) (len_in ks.chgs) f3
  unfold winT at e3
  simp only [List.cons.injEq] at e3
  obtain ⟨_, a1, a2, a3, a4, a5, a6, _⟩ := e3
  have d1 := day_inj h.from_ k.from_ a1 a2 a3
  have d2 := day_inj h.to_ k.to_ a4 a5 a6
  obtain ⟨i1, i2⟩ := flat_inj (φ := sM) p.mets q.mets _ _ (by omega) (fun x hx y hy u v e => met_inj (h.mets x hx).2.2 (k.mets y hy).2.2 u v e) e4
  obtain ⟨j1, j2⟩ := flat_inj (φ := sF) p.fees q.fees _ _ (by omega) (fun x hx y hy u v e => fee_inj (h.fees x hx) (k.fees y hy) u v e) i2
  have j2' : p.chgs.flatMap chgT ++ [] = q.chgs.flatMap chgT ++ [] := by rw [List.append_nil, List.append_nil]; exact j2
  obtain ⟨m1, _⟩ := flat_inj (φ := sC) p.chgs q.chgs _ _ (by omega) (fun x hx y hy u v e => chg_inj (h.chgs x hx) (k.chgs y hy) ⟨hs.tiers x hx, hs.adjs x hx⟩ ⟨ks.tiers y hy, ks.adjs y hy⟩ u v e) j2'
  unfold strip
  rw [e1, e2, d1, d2, i1, j1, m1]
theorem planL_strip (p : Plan) : planL (strip p) = planL p := by
  unfold planL strip
  simp only [List.flatMap_map]
  rfl
/-- the tokens of a plan's text, read: also where the text is long -/
theorem tokens_read {p : Plan} (h : POk p) : ∃ ts, lexL (planL p) 1 1 = .ok ts ∧ strip (P.plan dp npV ts).1 = strip p := by
  obtain ⟨ls, n, c, e, ht⟩ := lx_plan h [] 1 1
  rw [List.append_nil] at e
  have hn : lexL [] n c = .ok [⟨0, ⟨#[]⟩, n, c⟩] := by rw [lexL]
  rw [hn] at e
  refine ⟨ls ++ [⟨0, ⟨#[]⟩, n, c⟩], (by rw [e]; simp [preR]), ?_⟩
  have htw : Tw (ls ++ [⟨0, ⟨#[]⟩, n, c⟩]) (tkH p ++ ((itms p).flatMap (·.2) ++ [(0, [])])) := by
    rw [itms_flat]
    unfold Tw at ht ⊢
    rw [List.map_append, ht]
    simp [tkP]
  obtain ⟨l1, t1, e1⟩ := rd_hd h.from_ h.to_ _ htw
  have hP := plan_hd dp npV (ls ++ [⟨0, ⟨#[]⟩, n, c⟩])
  rw [e1] at hP
  obtain ⟨p', l2, e2, e3⟩ := rd_items (itms p) (itms_ok h) { (⟨p.name, p.cur, p.from_, p.to_, [], [], [], 0, 0⟩ : Plan) with line := (peek ⟨ls ++ [⟨0, ⟨#[]⟩, n, c⟩], 0, 0, 0⟩).line, col := (peek ⟨ls ++ [⟨0, ⟨#[]⟩, n, c⟩], 0, 0, 0⟩).col } _ l1 t1 rfl
  rw [e2] at hP
  rw [hP]
  exact e3.trans (strip_itms p _ _)
/-- two parsed plans: one text just if one row -/
theorem text_row {p q : Plan} (h : POk p) (k : POk q) (hs : Small p) (ks : Small q) : planL p = planL q ↔ rowT p = rowT q := by
  constructor
  · intro e
    obtain ⟨t1, h1, h2⟩ := tokens_read h
    obtain ⟨t2, k1, k2⟩ := tokens_read k
    rw [e, k1] at h1
    injection h1 with h1
    subst h1
    have hst : strip p = strip q := h2.symm.trans k2
    have r : ∀ p : Plan, rowT (strip p) = rowT p := by
      intro p
      unfold rowT headT strip
      simp only [List.length_map, List.flatMap_map]
      rfl
    rw [← r p, hst, r]
  · intro e
    rw [← planL_strip p, row_inj h k hs ks e, planL_strip]
end Go.Proofs.Ytcgkfgklggjmaaa.Par
end
section
namespace Go.Proofs.Ytcgkfgklggjmaaa.Par
set_option linter.unusedVariables false
set_option linter.unusedSimpArgs false
/-! check: plain -/
def numT (d : Day) : Int := numD d.1 d.2.1 d.2.2
def goodT (d : Day) : Bool := goodB d.1 d.2.1 d.2.2
theorem dok_good {d : Day} (h : DOk d) : goodT d = true := by
  obtain ⟨h4, hd⟩ := h
  have hp : parseOk (dayT d) = true := by
    unfold kindOf at h4
    split at h4
    · cases h4
    split at h4
    · cases h4
    split at h4
    · cases h4
    split at h4
    · cases h4
    split at h4
    · cases h4
    split at h4
    · assumption
    · cases h4
  have hp' : parseOk (⟨(dayT d).toArray⟩ : ByteArray).data.toList = true := hp
  obtain ⟨e1, e2, e3, _⟩ := p_yes hp'
  obtain ⟨_, hg, _⟩ := parse_text hp
  rw [← hd]
  unfold goodT dp
  simp only [e1, e2, e3]
  exact hg
theorem numT_bd {d : Day} (h : goodT d = true) : 0 ≤ numT d ∧ numT d < 3652059 := num_bd h
/-- a window: in order, and within the horizon -/
def winB (p : Plan) (w : Win) : Bool := !w.has || (decide (numT w.from_ ≤ numT w.to_) && decide (numT p.from_ ≤ numT w.from_) && decide (numT w.to_ ≤ numT p.to_))
/-- names as the program holds them against each other -/
def nmB (a b : ByteArray) : Bool := a.toList == b.toList
/-- where a meter stands -/
def metI (n : ByteArray) : List Met → Int
  | [] => -1
  | m :: l => if nmB m.name n then 0 else if metI n l < 0 then -1 else metI n l + 1
theorem metI_ge (n : ByteArray) : ∀ l : List Met, -1 ≤ metI n l
  | [] => by simp [metI]
  | m :: l => by
    have := metI_ge n l
    unfold metI
    split
    · omega
    · split <;> omega
theorem metI_none {n : ByteArray} : ∀ {l : List Met}, (∀ (j : Nat) (x : Met), l[j]? = some x → nmB x.name n = false) → metI n l = -1
  | [], _ => rfl
  | m :: l, h => by
    have h0 := h 0 m rfl
    have h1 := metI_none (n := n) (l := l) fun j x hx => h (j + 1) x (by simpa using hx)
    unfold metI
    rw [h0, h1]
    rfl
theorem metI_at {n : ByteArray} : ∀ {l : List Met} {k : Nat} {m : Met}, (∀ (j : Nat) (x : Met), j < k → l[j]? = some x → nmB x.name n = false) → l[k]? = some m → nmB m.name n = true → metI n l = k
  | [], k, m, _, hk, _ => by simp at hk
  | a :: l, 0, m, _, hk, hm => by
    simp at hk
    subst hk
    unfold metI
    rw [hm]
    rfl
  | a :: l, k + 1, m, h, hk, hm => by
    have h0 := h 0 a (by omega) rfl
    have h1 := metI_at (n := n) (l := l) (k := k) (m := m) (fun j x hj hx => h (j + 1) x (by omega) (by simpa using hx)) (by simpa using hk) hm
    unfold metI
    rw [h0, h1]
    simp only [Bool.false_eq_true, if_false]
    rw [if_neg (by omega)]
    omega
theorem nmB_self (a : ByteArray) : nmB a a = true := by simp [nmB]
theorem metI_le {n : ByteArray} : ∀ {l : List Met} {k : Nat} {m : Met}, l[k]? = some m → nmB m.name n = true → 0 ≤ metI n l ∧ metI n l ≤ k
  | [], k, m, hk, _ => by simp at hk
  | a :: l, 0, m, hk, hm => by
    simp at hk
    subst hk
    unfold metI
    rw [hm]
    simp
  | a :: l, k + 1, m, hk, hm => by
    obtain ⟨h1, h2⟩ := metI_le (n := n) (l := l) (k := k) (m := m) (by simpa using hk) hm
    unfold metI
    split
    · omega
    · rw [if_neg (by omega)]; omega
theorem metI_some {n : ByteArray} : ∀ {l : List Met}, 0 ≤ metI n l → ∃ (k : Nat) (m : Met), metI n l = k ∧ l[k]? = some m ∧ nmB m.name n = true
  | [], h => by simp [metI] at h
  | a :: l, h => by
    unfold metI at h ⊢
    by_cases h0 : nmB a.name n = true
    · exact ⟨0, a, by simp [h0], rfl, h0⟩
    · simp only [h0, if_false] at h ⊢
      by_cases h1 : metI n l < 0
      · simp [h1] at h
      · obtain ⟨k, m, e1, e2, e3⟩ := metI_some (n := n) (l := l) (by omega)
        exact ⟨k + 1, m, by rw [e1]; simp; omega, by simpa using e2, e3⟩
/-- what is wrong with a meter -/
def metE (p : Plan) (i : Nat) (m : Met) : Int := if 4 ≤ i then 6 else if metI m.name p.mets < i then 5 else 0
def feeE (p : Plan) (i : Nat) (f : Fee) : Int := if 8 ≤ i then 6 else if winB p f.win = false then 5 else 0
def upA (l : List Tier) (i : Nat) : Int := ((l[i]?).map Tier.upto).getD 0
def prevA (l : List Tier) : Nat → Int
  | 0 => 0
  | i + 1 => upA l i
def stepOk (l : List Tier) (i : Nat) : Bool := decide (prevA l i < upA l i)
def risesB (l : List Tier) : Bool := (List.range (l.length - 1)).all (stepOk l)
theorem rises_no {l : List Tier} {i : Nat} (hi : i + 1 < l.length) (h : stepOk l i = false) : risesB l = false := by
  unfold risesB
  rw [List.all_eq_false]
  exact ⟨i, List.mem_range.2 (by omega), by simp [h]⟩
theorem rises_yes {l : List Tier} (h : ∀ i, i + 1 < l.length → stepOk l i = true) : risesB l = true := by
  unfold risesB
  rw [List.all_eq_true]
  intro i hi
  exact h i (by have := List.mem_range.1 hi; omega)
def chgE (p : Plan) (i : Nat) (c : Chg) : Int :=
  if 8 ≤ i then 6 else if metI c.meter p.mets < 0 then 5 else if winB p c.win = false then 5 else if c.block < 1 then 5 else if 8 < c.tiers.length then 6 else if risesB c.tiers = false then 5 else if 6 < c.adjs.length then 6 else 0
/-- the first fault of a row -/
def firstE {α : Type} (e : Nat → α → Int) (pl : α → Int × Int) : Nat → List α → Int × Int × Int
  | _, [] => (0, 0, 0)
  | i, x :: l => if e i x ≠ 0 then (e i x, pl x) else firstE e pl (i + 1) l
theorem firstE_none {α : Type} {e : Nat → α → Int} {pl : α → Int × Int} : ∀ {l : List α} {i : Nat}, (∀ (j : Nat) (x : α), l[j]? = some x → e (i + j) x = 0) → firstE e pl i l = (0, 0, 0)
  | [], i, _ => rfl
  | x :: l, i, h => by
    have h0 := h 0 x rfl
    unfold firstE
    rw [if_neg (by simpa using h0)]
    exact firstE_none fun j y hy => by
      have := h (j + 1) y (by simpa using hy)
      rwa [show i + 1 + j = i + (j + 1) by omega]
theorem firstE_at {α : Type} {e : Nat → α → Int} {pl : α → Int × Int} : ∀ {l : List α} {i k : Nat} {m : α}, (∀ (j : Nat) (x : α), j < k → l[j]? = some x → e (i + j) x = 0) → l[k]? = some m → e (i + k) m ≠ 0 → firstE e pl i l = (e (i + k) m, pl m)
  | [], i, k, m, _, hk, _ => by simp at hk
  | x :: l, i, 0, m, _, hk, hm => by
    simp at hk
    subst hk
    unfold firstE
    rw [if_pos (by simpa using hm)]
    rfl
  | x :: l, i, k + 1, m, h, hk, hm => by
    have h0 := h 0 x (by omega) rfl
    unfold firstE
    rw [if_neg (by simpa using h0)]
    rw [show i + (k + 1) = i + 1 + k by omega] at hm ⊢
    exact firstE_at (fun j y hj hy => by
      have := h (j + 1) y (by omega) (by simpa using hy)
      rwa [show i + 1 + j = i + (j + 1) by omega]) (by simpa using hk) hm
/-- upwards -/
def cdiv (a c : Int) : Int := (a + c - 1) / c
/-- a product divided, upwards; false: beyond 64 bits -/
def upB (P c : Int) : Int × Bool := if cdiv P c < 9223372036854775808 then (cdiv P c, true) else (0, false)
def adjStep (a : Adj) (n : Int) : Int × Bool :=
  if a.kind = 1 then upB (n * a.n) 100000 else if a.kind = 2 then (min n a.n, true) else if a.kind = 3 then (max n a.n, true)
  else if a.kind = 4 then (if n + a.n < 9223372036854775808 then (n + a.n, true) else (0, false)) else (n, true)
def adjO : List Adj → Int → Option Int
  | [], n => some n
  | a :: l, n => if (adjStep a n).2 = true ∧ (adjStep a n).1 < 1152921504606846976 then adjO l (adjStep a n).1 else none
/-- as the program goes on behind a fault -/
def adjP : List Adj → Int × Bool → Int × Bool
  | [], s => s
  | a :: l, s => adjP l ((adjStep a s.1).1, s.2 && (adjStep a s.1).2 && decide ((adjStep a s.1).1 < 1152921504606846976))
theorem adjP_false : ∀ (l : List Adj) (n : Int), (adjP l (n, false)).2 = false
  | [], _ => rfl
  | a :: l, n => by unfold adjP; simpa using adjP_false l _
theorem adjP_true : ∀ (l : List Adj) (n : Int), (adjO l n = none → (adjP l (n, true)).2 = false) ∧ ∀ m, adjO l n = some m → adjP l (n, true) = (m, true)
  | [], n => by simp [adjO, adjP]
  | a :: l, n => by
    unfold adjO adjP
    obtain ⟨h1, h2⟩ := adjP_true l (adjStep a n).1
    by_cases h : (adjStep a n).2 = true ∧ (adjStep a n).1 < 1152921504606846976
    · rw [if_pos h]
      simp only [h.1, h.2, decide_true, Bool.and_self, Bool.true_and]
      exact ⟨h1, h2⟩
    · rw [if_neg h]
      have e : (true && (adjStep a n).2 && decide ((adjStep a n).1 < 1152921504606846976)) = false := by
        rw [Bool.true_and, Bool.and_eq_false_iff]
        by_cases h3 : (adjStep a n).2 = true
        · right; exact decide_eq_false fun h4 => h ⟨h3, h4⟩
        · left; simpa using h3
      refine ⟨fun _ => ?_, fun m hm => by cases hm⟩
      dsimp only
      rw [e]
      exact adjP_false l _
def rateM (l : List Tier) : Int := l.foldl (fun r t => max r t.rate) 0
def qtyM (c : Chg) (mx : Int) : Int := cdiv (max (mx - c.allow) 0) c.block * c.block
def startM (c : Chg) (mx : Int) : Int := cdiv (rateM c.tiers * qtyM c mx) 1000000
/-- what a charge comes to at most -/
def mostO (c : Chg) (mx : Int) : Option Int := adjO c.adjs (startM c mx)
def addO (s x : Option Int) : Option Int :=
  match s, x with
  | some n, some m => if n + m < 1152921504606846976 then some (n + m) else none
  | _, _ => none
def chgMost (p : Plan) (c : Chg) : Option (Option Int) := if metI c.meter p.mets < 0 then none else some (mostO c ((p.mets[(metI c.meter p.mets).toNat]?.map Met.max).getD 0))
def sumList (p : Plan) : List (Option Int) := p.fees.map (fun f => some f.amount) ++ p.chgs.filterMap (chgMost p)
/-- what a plan comes to at most -/
def boundO (p : Plan) : Option Int := (sumList p).foldl addO (some 0)
/-- the first thing that is wrong with a plan -/
def chkL (p : Plan) : Int × Int × Int :=
  if numT p.to_ < numT p.from_ then (5, p.line, p.col)
  else if 4000 ≤ numT p.to_ - numT p.from_ then (6, p.line, p.col)
  else if (firstE (metE p) (fun m => (m.line, m.col)) 0 p.mets).1 ≠ 0 then firstE (metE p) (fun m => (m.line, m.col)) 0 p.mets
  else if (firstE (feeE p) (fun m => (m.line, m.col)) 0 p.fees).1 ≠ 0 then firstE (feeE p) (fun m => (m.line, m.col)) 0 p.fees
  else if (firstE (chgE p) (fun m => (m.line, m.col)) 0 p.chgs).1 ≠ 0 then firstE (chgE p) (fun m => (m.line, m.col)) 0 p.chgs
  else if boundO p = none then (6, p.line, p.col) else (0, 0, 0)
theorem addO_none (l : List (Option Int)) : l.foldl addO none = none := by
  induction l with
  | nil => rfl
  | cons x l ih => simpa [addO] using ih
theorem fold_none {l : List (Option Int)} (h : none ∈ l) : ∀ s, l.foldl addO s = none := by
  induction l with
  | nil => cases h
  | cons x l ih =>
    intro s
    rw [List.foldl_cons]
    rcases List.mem_cons.1 h with h | h
    · subst h
      have : addO s none = none := by cases s <;> rfl
      rw [this]
      exact addO_none l
    · exact ih h _
theorem cdiv_le {a c : Int} (hc : 0 < c) (ha : 0 ≤ a) : 0 ≤ cdiv a c ∧ a ≤ cdiv a c * c ∧ cdiv a c * c ≤ a + c - 1 := by
  unfold cdiv
  have h1 := Int.mul_ediv_add_emod (a + c - 1) c
  have h2 := Int.emod_nonneg (a + c - 1) (show c ≠ 0 by omega)
  have h3 := Int.emod_lt_of_pos (a + c - 1) hc
  have h4 : 0 ≤ (a + c - 1) / c := Int.ediv_nonneg (by omega) (by omega)
  have h5 : (a + c - 1) / c * c = c * ((a + c - 1) / c) := Int.mul_comm _ _
  exact ⟨h4, by omega, by omega⟩
end Go.Proofs.Ytcgkfgklggjmaaa.Par
end
section
namespace Go.Proofs.Ytcgkfgklggjmaaa.Par
set_option linter.unusedVariables false
set_option linter.unusedSimpArgs false
/-! a plan of a horizon alone, read -/
theorem kind_day {l : List UInt8} (h : parseOk l = true) : kindOf l = 4 := by
  have hs := h
  unfold parseOk at hs
  rw [Bool.and_eq_true] at hs
  obtain ⟨hs, hg⟩ := hs
  unfold dateShape at hs
  simp only [Bool.and_eq_true, beq_iff_eq] at hs
  obtain ⟨⟨⟨⟨⟨hl, h4⟩, h7⟩, hy⟩, hm⟩, hd⟩ := hs
  have hdl : ∀ {c : UInt8}, isDig c = true → isLet c = true := fun {c} hc => by
    simp only [isDig, decide_eq_true_eq] at hc
    simp only [isLet, decide_eq_true_eq]
    omega
  have hd45 : isDig 45 = false := by decide
  have hl45 : isLet 45 = true := by decide
  match l, hl with
  | [a0, a1, a2, a3, a4, a5, a6, a7, a8, a9], _ =>
    simp at h4 h7 hy hm hd
    subst h4 h7
    obtain ⟨y0, y1, y2, y3⟩ := hy
    obtain ⟨m0, m1⟩ := hm
    obtain ⟨d0, d1⟩ := hd
    have hle : ([a0, a1, a2, a3, 45, a5, a6, 45, a8, a9] : List UInt8).all isLet = true := by
      simp [hdl y0, hdl y1, hdl y2, hdl y3, hdl m0, hdl m1, hdl d0, hdl d1, hl45]
    have hf : digFirst [a0, a1, a2, a3, 45, a5, a6, 45, a8, a9] = true := y0
    have hp : plainB [a0, a1, a2, a3, 45, a5, a6, 45, a8, a9] = false := by simp [plainB]
    have hn46 : (46 : UInt8) ∉ [a0, a1, a2, a3, 45, a5, a6, 45, a8, a9] := by
      have hne : ∀ {c : UInt8}, isDig c = true → (46 : UInt8) ≠ c := fun {c} hc e => by subst e; revert hc; decide
      simp [hne y0, hne y1, hne y2, hne y3, hne m0, hne m1, hne d0, hne d1]
    have hnum : numForm [a0, a1, a2, a3, 45, a5, a6, 45, a8, a9] = 0 := by
      rcases Dec.cut_spec [a0, a1, a2, a3, 45, a5, a6, 45, a8, a9] with ⟨hc, _⟩ | ⟨a, b, hab, _⟩
      · unfold numForm
        rw [hc]
        rw [if_pos (.inl (by simp [digitsB, hd45]))]
      · exfalso
        apply hn46
        rw [hab]
        simp
    rw [kind_let hle (by simp), word_dig hf, hnum, h, hp]
    simp
theorem dok_good' {y m d : Int} (h : goodB y m d = true) : DOk (y, m, d) := by
  obtain ⟨h1, h2, h3, h4⟩ := text_parse h
  have e : dayT (y, m, d) = dayL y m d := by unfold dayT textL; rw [if_pos h]
  unfold DOk
  rw [e]
  refine ⟨kind_day h1, ?_⟩
  have hp' : parseOk (⟨(dayL y m d).toArray⟩ : ByteArray).data.toList = true := h1
  obtain ⟨e1, e2, e3, _⟩ := p_yes hp'
  unfold dp
  rw [e1, e2, e3]
  show (parseY (dayL y m d), parseM (dayL y m d), parseD (dayL y m d)) = _
  rw [h2, h3, h4]
def horT (d e : Day) : List UInt8 := [112, 108, 97, 110, 32, 112, 32, 99, 117, 114, 114, 101, 110, 99, 121, 32, 99, 59, 10, 32, 104, 111, 114, 105, 122, 111, 110, 32] ++ dayT d ++ [32] ++ dayT e ++ [59]
def horP (d e : Day) : Plan := ⟨⟨#[112]⟩, ⟨#[99]⟩, d, e, [], [], [], 1, 1⟩
theorem k_p : kindOf [112] = 1 := by kernel_rfl
theorem k_c : kindOf [99] = 1 := by kernel_rfl
theorem lx_hor {d e : Day} (h1 : DOk d) (h2 : DOk e) : Lx ([112, 32, 99, 117, 114, 114, 101, 110, 99, 121, 32, 99, 59, 10, 32, 104, 111, 114, 105, 122, 111, 110, 32] ++ dayT d ++ [32] ++ dayT e ++ [59]) (tkH (horP d e)).tail :=
  ((((((((Lx.kw k_p (by decide)).app (Lx.kw k_currency (by decide))).app (Lx.ks k_c (by decide) (by decide))).app Lx.nl).app Lx.sp).app (Lx.kw k_horizon (by decide))).app (Lx.kw h1.1 (by decide))).app (Lx.ks h2.1 (by decide) (by decide))).of (by simp) (by simp [tkH, horP])
theorem day_len {d : Day} (h : DOk d) : (dayT d).length = 10 := by
  have hp : parseOk (dayT d) = true := by
    have h := h.1
    unfold kindOf at h
    split at h
    · cases h
    split at h
    · cases h
    split at h
    · cases h
    split at h
    · cases h
    split at h
    · cases h
    split at h
    · assumption
    · cases h
  exact (parse_text hp).1
theorem hor_parse {d e : Day} (h1 : DOk d) (h2 : DOk e) : RParse (horT d e) = (horP d e, 0, 0, 0) := by
  obtain ⟨ls, n, c, e1, t1⟩ := lx_hor h1 h2 [] 1 6
  have hall : lexAll (horT d e) = (⟨2, ⟨#[112, 108, 97, 110]⟩, 1, 1⟩ :: (ls ++ [⟨0, ⟨#[]⟩, n, c⟩]), 0, 0, 0) := by
    have hlen : ¬ 8192 < (horT d e).length := by
      unfold horT
      simp only [List.length_append, day_len h1, day_len h2, List.length_cons, List.length_nil]
      omega
    unfold lexAll
    rw [if_neg hlen]
    have e3 : horT d e = [112, 108, 97, 110] ++ 32 :: ([112, 32, 99, 117, 114, 114, 101, 110, 99, 121, 32, 99, 59, 10, 32, 104, 111, 114, 105, 122, 111, 110, 32] ++ dayT d ++ [32] ++ dayT e ++ [59] ++ []) := by simp [horT]
    have hk := k_plan
    rw [e3, lex_tok _ _ 1 1 (by rw [k_plan]; decide), k_plan]
    have e4 : (1 : Int) + (([112, 108, 97, 110] : List UInt8).length : Int) + 1 = 6 := rfl
    rw [e4, e1]
    have : lexL [] n c = .ok [⟨0, ⟨#[]⟩, n, c⟩] := by rw [lexL]
    rw [this]
    rfl
  have htw : Tw (⟨2, ⟨#[112, 108, 97, 110]⟩, 1, 1⟩ :: (ls ++ [⟨0, ⟨#[]⟩, n, c⟩])) (tkH (horP d e) ++ [(0, [])]) := by
    unfold Tw at t1 ⊢
    rw [List.map_cons, List.map_append, t1]
    simp [tkH, horP]
  obtain ⟨l1, t2, e2⟩ := rd_hd (p := horP d e) h1 h2 _ htw
  have hs := plan_same dp npV (⟨2, ⟨#[112, 108, 97, 110]⟩, 1, 1⟩ :: (ls ++ [⟨0, ⟨#[]⟩, n, c⟩]))
  have hP := plan_hd dp npV (⟨2, ⟨#[112, 108, 97, 110]⟩, 1, 1⟩ :: (ls ++ [⟨0, ⟨#[]⟩, n, c⟩]))
  rw [e2] at hP
  obtain ⟨u, us, rfl, hk, _, _⟩ := tw_cons t2
  rw [itemsAll_end dp npV (s := ⟨u :: us, 0, 0, 0⟩) (.inr (show (peek ⟨u :: us, 0, 0, 0⟩).kind = 0 from hk))] at hP
  rw [hP] at hs
  have hr := RParse_ok hall hs.1.symm
  rw [hr, ← hs.2.2.2 rfl]
  rfl
theorem horP_chk {d e : Day} : chkL (horP d e) = if numT e < numT d then (5, 1, 1) else if 4000 ≤ numT e - numT d then (6, 1, 1) else (0, 0, 0) := by
  unfold chkL
  have h1 : boundO (horP d e) = some 0 := rfl
  have h2 : (firstE (metE (horP d e)) (fun m => (m.line, m.col)) 0 (horP d e).mets).1 = 0 := rfl
  have h3 : (firstE (feeE (horP d e)) (fun m => (m.line, m.col)) 0 (horP d e).fees).1 = 0 := rfl
  have h4 : (firstE (chgE (horP d e)) (fun m => (m.line, m.col)) 0 (horP d e).chgs).1 = 0 := rfl
  rw [h1, h2, h3, h4]
  simp only [ne_eq, not_true_eq_false, if_false, reduceCtorEq]
  rfl
end Go.Proofs.Ytcgkfgklggjmaaa.Par
end
section
namespace Go.Proofs.Ytcgkfgklggjmaaa
set_option linter.unusedVariables false
set_option linter.unusedSimpArgs false
open Go.RowKit
def nN (y m d : Int) : Int := if goodB y m d then numD y m d else 0
theorem nN_yes {y m d : Int} (h : goodB y m d = true) : nN y m d = numD y m d := by simp [nN, h]
theorem nN_no {y m d : Int} (h : goodB y m d = false) : nN y m d = 0 := by simp [nN, h]
theorem num_first (y d : Int) : 365 * (y - 1) + (y - 1) / 4 - (y - 1) / 100 + (y - 1) / 400 + d - 1 = dby y + cum y 1 + d - 1 := by rw [cum_one]; unfold dby; omega
set_option maxHeartbeats 2000000 in
set_option maxRecDepth 100000 in
theorem number_any (y m d : Int) (w : World) :
    Calls Try.prog 54 #[.agg #[.int .i64 y, .int .i64 m, .int .i64 d]] w fun e w' => e = .returned (.tuple #[.int .i64 (nN y m d), .bool (goodB y m d)]) ∧ Below w.heap.size w w' := by
  cases hg : goodB y m d with
  | false =>
    rw [nN_no hg]
    go_enter Try.func54, Try.ntmps54
    go_wp2_with (go_at_call 71; refine (good_any _ _ _ _).mono ?_; rintro e w' ⟨rfl, hb1⟩)
    go_ret2
    exact ⟨rfl, bl_call (bl_alloc (bl_refl _) _) hb1⟩
  | true =>
    rw [nN_yes hg]
    obtain ⟨g1, g2, g3, g4, g5, g6, g7⟩ := good_of hg
    have hnf := num_first y d
    have HN := Lib.hid hnf
    clear hnf g4
    go_enter Try.func54, Try.ntmps54
    go_wp2_with (go_at_call 71; refine (good_any _ _ _ _).mono ?_; rintro e w1 ⟨rfl, hb1⟩; (have kb := (Blk.new w 24 #[.int .i64 y, .int .i64 m, .int .i64 d]).call hb1); obtain ⟨c0, c1, c2, _, _, _⟩ := kb.c3)
    rw [HN.out]
    have hz := dby_bd y g1 (by omega)
    obtain ⟨z1, z2⟩ := hz
    go_loop [5, 6] (fun v5 v6 => ∃ k : Int, 1 ≤ k ∧ k ≤ m ∧ v6 = .int .i64 k ∧ v5 = .int .i64 (dby y + cum y k + d - 1)) (fun _ v6 => (m - intOf v6).toNat)
    case atStart => exact ⟨1, by omega, by omega, rfl, rfl⟩
    case round =>
      obtain ⟨k, k1, k2, rfl, rfl⟩ := hrel
      have cb := cum_bd y k
      obtain ⟨cb1, cb2⟩ := cb
      have db := days_bd y k
      obtain ⟨db1, db2⟩ := db
      by_cases hlt : k < m
      · have CS := Lib.hid (cum_succ y k k1 (by omega))
        go_wp2_with (go_at_call 72; refine (days_any _ _ _).mono ?_; rintro e w' ⟨rfl, rfl⟩)
        go_round
        case rel => exact ⟨k + 1, by omega, by omega, rfl, by rw [CS.out]; congr 1; omega⟩
        case measure => simp [intOf]; omega
      · obtain rfl : k = m := by omega
        go_wp2
        go_ret2
        exact ⟨by rfl, bl_call (bl_alloc (bl_refl _) _) hb1⟩
end Go.Proofs.Ytcgkfgklggjmaaa
end
section
namespace Go.Proofs.Ytcgkfgklggjmaaa.Par
set_option linter.unusedVariables false
set_option linter.unusedSimpArgs false
open Go.RowKit
def nT (d : Day) : Int := nN d.1 d.2.1 d.2.2
theorem nT_good {d : Day} (h : goodT d = true) : nT d = numT d := nN_yes h
set_option maxHeartbeats 16000000 in
set_option maxRecDepth 100000 in
theorem span_any (a b : Day) (w : World) :
    Calls Try.prog 39 #[.agg #[.int .i64 a.1, .int .i64 a.2.1, .int .i64 a.2.2], .agg #[.int .i64 b.1, .int .i64 b.2.1, .int .i64 b.2.2]] w fun e w' => e = .returned (.tuple #[.int .i64 (nT a), .int .i64 (nT b), .bool (goodT a && goodT b && decide (nT a ≤ nT b))]) ∧ Below w.heap.size w w' := by
  have ha := fun W => Go.Proofs.Ytcgkfgklggjmaaa.number_any a.1 a.2.1 a.2.2 W
  have hb := fun W => Go.Proofs.Ytcgkfgklggjmaaa.number_any b.1 b.2.1 b.2.2 W
  unfold nT goodT
  generalize nN a.1 a.2.1 a.2.2 = x at *
  generalize nN b.1 b.2.1 b.2.2 = y at *
  generalize goodB a.1 a.2.1 a.2.2 = g at *
  generalize goodB b.1 b.2.1 b.2.2 = h at *
  have kb := Dec.Blk.new2 w (.cells #[.int .i64 a.1, .int .i64 a.2.1, .int .i64 a.2.2] 24) 24 #[.int .i64 b.1, .int .i64 b.2.1, .int .i64 b.2.2]
  have b0 := bl_alloc (bl_alloc (bl_refl w) (.cells #[.int .i64 a.1, .int .i64 a.2.1, .int .i64 a.2.2] 24)) (.cells #[.int .i64 b.1, .int .i64 b.2.1, .int .i64 b.2.2] 24)
  go_enter Try.func39, Try.ntmps39
  go_wp2_with fail
  refine (ha _).mono ?_
  rintro e w1 ⟨rfl, hb1⟩
  have k1 := kb.call hb1
  have b1 := bl_call b0 hb1
  obtain ⟨x0, x1, x2, _, _, _⟩ := k1.c3
  clear kb b0 hb1
  go_wp2_with fail
  refine (hb _).mono ?_
  rintro e w2 ⟨rfl, hb2⟩
  have b2 := bl_call b1 hb2
  cases g with
  | false => go_wp2_with fail; go_ret3; exact ⟨rfl, b2⟩
  | true =>
    cases h with
    | false => go_wp2_with fail; go_ret3; exact ⟨rfl, b2⟩
    | true => go_wp2_with fail; go_ret3; exact ⟨rfl, b2⟩
end Go.Proofs.Ytcgkfgklggjmaaa.Par
end
section
namespace Go.Proofs.Ytcgkfgklggjmaaa.Par
set_option linter.unusedVariables false
set_option linter.unusedSimpArgs false
open Go.RowKit

/-- a window's days can be, if there is one -/
def WG (w : Win) : Prop := w.has = true → goodT w.from_ = true ∧ goodT w.to_ = true
theorem wok_wg {w : Win} (h : WOk w) : WG w := by
  rcases h with ⟨_, h1, h2⟩ | h
  · exact fun _ => ⟨dok_good h1, dok_good h2⟩
  · subst h; exact fun h => by cases h
set_option maxHeartbeats 16000000 in
set_option maxRecDepth 100000 in
theorem cwindow_any (p : Plan) (Am Af Ac : Option Addr) (cm cf cc : Nat) (cs : List CT) (x : Win) (w : World) (hf : goodT p.from_ = true) (ht : goodT p.to_ = true) (hx : WG x) :
    Calls Try.prog 40 #[.agg #[.string p.name, .string p.cur, .int .i64 p.from_.1, .int .i64 p.from_.2.1, .int .i64 p.from_.2.2, .int .i64 p.to_.1, .int .i64 p.to_.2.1, .int .i64 p.to_.2.2, .slice Am p.mets.length cm, .slice Af p.fees.length cf, .slice Ac cs.length cc, .int .i64 p.line, .int .i64 p.col], .agg #[.bool x.has, .int .i64 x.from_.1, .int .i64 x.from_.2.1, .int .i64 x.from_.2.2, .int .i64 x.to_.1, .int .i64 x.to_.2.1, .int .i64 x.to_.2.2]] w fun e w' => e = .returned (.bool (winB p x)) ∧ Below w.heap.size w w' := by
  have hA := fun W => span_any p.from_ p.to_ W
  have hB := fun W => span_any x.from_ x.to_ W
  obtain ⟨h, hh⟩ : ∃ h, x.has = h := ⟨_, rfl⟩
  unfold WG at hx
  unfold winB
  rw [hh] at hx ⊢
  have kx := Dec.Blk.new2 w (.cells #[.string p.name, .string p.cur, .int .i64 p.from_.1, .int .i64 p.from_.2.1, .int .i64 p.from_.2.2, .int .i64 p.to_.1, .int .i64 p.to_.2.1, .int .i64 p.to_.2.2, .slice Am p.mets.length cm, .slice Af p.fees.length cf, .slice Ac cs.length cc, .int .i64 p.line, .int .i64 p.col] 29) 52 #[.bool h, .int .i64 x.from_.1, .int .i64 x.from_.2.1, .int .i64 x.from_.2.2, .int .i64 x.to_.1, .int .i64 x.to_.2.1, .int .i64 x.to_.2.2]
  have b0 := bl_alloc (bl_alloc (bl_refl w) (.cells #[.string p.name, .string p.cur, .int .i64 p.from_.1, .int .i64 p.from_.2.1, .int .i64 p.from_.2.2, .int .i64 p.to_.1, .int .i64 p.to_.2.1, .int .i64 p.to_.2.2, .slice Am p.mets.length cm, .slice Af p.fees.length cf, .slice Ac cs.length cc, .int .i64 p.line, .int .i64 p.col] 29)) (.cells #[.bool h, .int .i64 x.from_.1, .int .i64 x.from_.2.1, .int .i64 x.from_.2.2, .int .i64 x.to_.1, .int .i64 x.to_.2.1, .int .i64 x.to_.2.2] 52)
  rw [nT_good hf, nT_good ht, hf, ht] at hA
  generalize (true && true && decide (numT p.from_ ≤ numT p.to_)) = g0 at hA
  cases h with
  | false =>
    have e : (!false || (decide (numT x.from_ ≤ numT x.to_) && decide (numT p.from_ ≤ numT x.from_) && decide (numT x.to_ ≤ numT p.to_))) = true := rfl
    rw [e]
    generalize (goodT x.from_ && goodT x.to_ && decide (nT x.from_ ≤ nT x.to_)) = g1 at hB
    go_enter Try.func40, Try.ntmps40
    go_wp2_with fail
    refine (hA _).mono ?_
    rintro e w1 ⟨rfl, hb1⟩
    have k1 := kx.call hb1
    have b1 := bl_call b0 hb1
    obtain ⟨x0, x1, x2, x3, x4, x5, x6, _, _, _, _, _, _, _⟩ := k1.c7
    go_wp2_with fail
    refine (hB _).mono ?_
    rintro e w2 ⟨rfl, hb2⟩
    have b2 := bl_call b1 hb2
    have k2 := k1.call hb2
    clear x0 x1 x2 x3 x4 x5 x6
    obtain ⟨y0, y1, y2, y3, y4, y5, y6, _, _, _, _, _, _, _⟩ := k2.c7
    go_wp2_with fail
    go_ret
    exact ⟨rfl, b2⟩
  | true =>
    obtain ⟨h1, h2⟩ := hx rfl
    rw [nT_good h1, nT_good h2, h1, h2] at hB
    have e : (!true || (decide (numT x.from_ ≤ numT x.to_) && decide (numT p.from_ ≤ numT x.from_) && decide (numT x.to_ ≤ numT p.to_))) = (decide (numT x.from_ ≤ numT x.to_) && decide (numT p.from_ ≤ numT x.from_) && decide (numT x.to_ ≤ numT p.to_)) := rfl
    have e1 : (true && true && decide (numT x.from_ ≤ numT x.to_)) = decide (numT x.from_ ≤ numT x.to_) := rfl
    rw [e]
    rw [e1] at hB
    clear e e1
    generalize numT x.from_ = X1 at *
    generalize numT x.to_ = X2 at *
    generalize numT p.from_ = P1 at *
    generalize numT p.to_ = P2 at *
    by_cases c1 : X1 ≤ X2
    · rw [decide_eq_true c1] at hB ⊢
      by_cases c2 : P1 ≤ X1
      · rw [decide_eq_true c2]
        have e2 : (true && true && decide (X2 ≤ P2)) = decide (X2 ≤ P2) := rfl
        rw [e2]
        go_enter Try.func40, Try.ntmps40
        go_wp2_with fail
        refine (hA _).mono ?_
        rintro e w1 ⟨rfl, hb1⟩
        have k1 := kx.call hb1
        have b1 := bl_call b0 hb1
        obtain ⟨x0, x1, x2, x3, x4, x5, x6, _, _, _, _, _, _, _⟩ := k1.c7
        go_wp2_with fail
        refine (hB _).mono ?_
        rintro e w2 ⟨rfl, hb2⟩
        have b2 := bl_call b1 hb2
        have k2 := k1.call hb2
        clear x0 x1 x2 x3 x4 x5 x6
        obtain ⟨y0, y1, y2, y3, y4, y5, y6, _, _, _, _, _, _, _⟩ := k2.c7
        go_wp2_with fail
        go_ret
        exact ⟨rfl, b2⟩
      · rw [decide_eq_false c2]
        have e2 : (true && false && decide (X2 ≤ P2)) = false := rfl
        rw [e2]
        go_enter Try.func40, Try.ntmps40
        go_wp2_with fail
        refine (hA _).mono ?_
        rintro e w1 ⟨rfl, hb1⟩
        have k1 := kx.call hb1
        have b1 := bl_call b0 hb1
        obtain ⟨x0, x1, x2, x3, x4, x5, x6, _, _, _, _, _, _, _⟩ := k1.c7
        go_wp2_with fail
        refine (hB _).mono ?_
        rintro e w2 ⟨rfl, hb2⟩
        have b2 := bl_call b1 hb2
        have k2 := k1.call hb2
        clear x0 x1 x2 x3 x4 x5 x6
        obtain ⟨y0, y1, y2, y3, y4, y5, y6, _, _, _, _, _, _, _⟩ := k2.c7
        go_wp2_with fail
        go_ret
        exact ⟨rfl, b2⟩
    · rw [decide_eq_false c1] at hB ⊢
      have e2 : (false && decide (P1 ≤ X1) && decide (X2 ≤ P2)) = false := rfl
      rw [e2]
      go_enter Try.func40, Try.ntmps40
      go_wp2_with fail
      refine (hA _).mono ?_
      rintro e w1 ⟨rfl, hb1⟩
      have k1 := kx.call hb1
      have b1 := bl_call b0 hb1
      obtain ⟨x0, x1, x2, x3, x4, x5, x6, _, _, _, _, _, _, _⟩ := k1.c7
      go_wp2_with fail
      refine (hB _).mono ?_
      rintro e w2 ⟨rfl, hb2⟩
      have b2 := bl_call b1 hb2
      have k2 := k1.call hb2
      clear x0 x1 x2 x3 x4 x5 x6
      obtain ⟨y0, y1, y2, y3, y4, y5, y6, _, _, _, _, _, _, _⟩ := k2.c7
      go_wp2_with fail
      go_ret
      exact ⟨rfl, b2⟩
/-- what is wrong with a plan's days -/
def horE (p : Plan) : Int := if numT p.to_ < numT p.from_ then 5 else if 4000 ≤ numT p.to_ - numT p.from_ then 6 else 0
set_option maxHeartbeats 16000000 in
set_option maxRecDepth 100000 in
theorem horizon_any (p : Plan) (Am Af Ac : Option Addr) (cm cf cc : Nat) (cs : List CT) (w : World) (hf : goodT p.from_ = true) (ht : goodT p.to_ = true) :
    Calls Try.prog 13 #[.agg #[.string p.name, .string p.cur, .int .i64 p.from_.1, .int .i64 p.from_.2.1, .int .i64 p.from_.2.2, .int .i64 p.to_.1, .int .i64 p.to_.2.1, .int .i64 p.to_.2.2, .slice Am p.mets.length cm, .slice Af p.fees.length cf, .slice Ac cs.length cc, .int .i64 p.line, .int .i64 p.col]] w fun e w' => e = .returned (.int .i64 (horE p)) ∧ Below w.heap.size w w' := by
  have hA := fun W => span_any p.from_ p.to_ W
  have b0 := bl_alloc (bl_refl w) (.cells #[.string p.name, .string p.cur, .int .i64 p.from_.1, .int .i64 p.from_.2.1, .int .i64 p.from_.2.2, .int .i64 p.to_.1, .int .i64 p.to_.2.1, .int .i64 p.to_.2.2, .slice Am p.mets.length cm, .slice Af p.fees.length cf, .slice Ac cs.length cc, .int .i64 p.line, .int .i64 p.col] 29)
  obtain ⟨f0, f1⟩ := numT_bd hf
  obtain ⟨t0, t1⟩ := numT_bd ht
  unfold horE
  rw [nT_good hf, nT_good ht, hf, ht] at hA
  generalize numT p.from_ = P1 at *
  generalize numT p.to_ = P2 at *
  by_cases c1 : P1 ≤ P2
  · have e : (true && true && decide (P1 ≤ P2)) = true := by simp [c1]
    rw [e] at hA
    rw [if_neg (by omega)]
    by_cases c2 : 4000 ≤ P2 - P1
    · rw [if_pos c2]
      go_enter Try.func13, Try.ntmps13
      go_wp2_with fail
      refine (hA _).mono ?_
      rintro e w1 ⟨rfl, hb1⟩
      go_wp2_with fail
      go_ret
      exact ⟨rfl, bl_call b0 hb1⟩
    · rw [if_neg c2]
      go_enter Try.func13, Try.ntmps13
      go_wp2_with fail
      refine (hA _).mono ?_
      rintro e w1 ⟨rfl, hb1⟩
      go_wp2_with fail
      go_ret
      exact ⟨rfl, bl_call b0 hb1⟩
  · have e : (true && true && decide (P1 ≤ P2)) = false := by simp [c1]
    rw [e] at hA
    rw [if_pos (by omega)]
    go_enter Try.func13, Try.ntmps13
    go_wp2_with fail
    refine (hA _).mono ?_
    rintro e w1 ⟨rfl, hb1⟩
    go_wp2_with fail
    go_ret
    exact ⟨rfl, bl_call b0 hb1⟩
end Go.Proofs.Ytcgkfgklggjmaaa.Par
end
section
namespace Go.Proofs.Ytcgkfgklggjmaaa.Par
set_option linter.unusedVariables false
set_option linter.unusedSimpArgs false
open Go.RowKit
theorem metI_upto {n : ByteArray} {l : List Met} (h : ∀ (j : Nat) (x : Met), j < l.length → l[j]? = some x → nmB x.name n = false) : metI n l = -1 :=
  metI_none fun j x hx => h j x (by rcases Nat.lt_or_ge j l.length with h1 | h1; exact h1; rw [List.getElem?_eq_none h1] at hx; cases hx) hx
set_option maxHeartbeats 16000000 in
set_option maxRecDepth 100000 in
theorem meterIs_any (m : Met) (n : ByteArray) (g : Nat) (w : World) (hn : Blk w g 9 #[.string n]) :
    Calls Try.prog 45 #[.agg #[.string m.name, .string m.unit, .int .i64 m.max, .int .i64 m.line, .int .i64 m.col], .pointer (some ⟨g, 0, none⟩)] w fun e w' => e = .returned (.bool (nmB m.name n)) ∧ Below w.heap.size w w' := by
  have hl := hn.lt
  have k := hn.alloc (.cells #[.string m.name, .string m.unit, .int .i64 m.max, .int .i64 m.line, .int .i64 m.col] 49)
  obtain ⟨x0, _⟩ := k.c1
  go_enter Try.func45, Try.ntmps45
  go_wp2_with fail
  go_ret
  exact ⟨rfl, bl_alloc (bl_refl w) _⟩
set_option maxHeartbeats 16000000 in
set_option maxRecDepth 100000 in
theorem indexFunc_any (l : List Met) (n : ByteArray) (g : Nat) (A : Option Addr) (c : Nat) (w : World) {B : Nat} (hn : Blk w g 9 #[.string n]) (hl : w.ownsRow B 49 5 (.slice A l.length c) l.length (l.flatMap metF)) :
    Calls Try.prog 59 #[.slice A l.length c, .func (.func 45) #[] #[.pointer (some ⟨g, 0, none⟩)]] w fun e w' => e = .returned (.int .i64 (metI n l)) ∧ Below w.heap.size w w' := by
  obtain ⟨_, _, he, ht1, ht2, ht3⟩ := Lies.open (f := metF) (l := l) (Lies.of hl)
  injection he with he1 he2 he3
  subst he1 he3
  unfold maxLen at ht2
  go_enter Try.func59, Try.ntmps59
  go_wp2_with fail
  go_loopw [8] (fun v8 wr => ∃ k : Nat, k ≤ l.length ∧ v8 = .int .i64 k ∧ (∀ (j : Nat) (x : Met), j < k → l[j]? = some x → nmB x.name n = false) ∧ Below w.heap.size w wr) (fun v8 _ => l.length - (intOf v8).toNat)
  case atStart => exact ⟨0, by omega, rfl, fun j x hj => absurd hj (by omega), bl_refl w⟩
  case round =>
    obtain ⟨k, hk, rfl, hno, hbw⟩ := hrel
    have hlr := own_keep hl fun g hg => hbw.block g (hl.lt g hg).2
    have hnr := hn.below hbw hn.lt
    by_cases hlt : k < l.length
    · obtain ⟨g0, rfl, hg0⟩ := ht3 (by omega)
      obtain ⟨m, hm⟩ : ∃ m, l[k]? = some m := ⟨l[k], List.getElem?_eq_getElem hlt⟩
      have r0 : (wr).cell? ⟨g0, k * 5, none⟩ = some (.string m.name) := Lies.at (f := metF) (l := l) (Lies.of hlr) (fun _ => rfl) (i := k) hm (j := 0) rfl
      have r1 : (wr).cell? ⟨g0, k * 5 + 1, none⟩ = some (.string m.unit) := Lies.at (f := metF) (l := l) (Lies.of hlr) (fun _ => rfl) (i := k) hm (j := 1) rfl
      have r2 : (wr).cell? ⟨g0, k * 5 + 2, none⟩ = some (.int .i64 m.max) := Lies.at (f := metF) (l := l) (Lies.of hlr) (fun _ => rfl) (i := k) hm (j := 2) rfl
      have r3 : (wr).cell? ⟨g0, k * 5 + 3, none⟩ = some (.int .i64 m.line) := Lies.at (f := metF) (l := l) (Lies.of hlr) (fun _ => rfl) (i := k) hm (j := 3) rfl
      have r4 : (wr).cell? ⟨g0, k * 5 + 4, none⟩ = some (.int .i64 m.col) := Lies.at (f := metF) (l := l) (Lies.of hlr) (fun _ => rfl) (i := k) hm (j := 4) rfl
      have gg0 : (0 : Int) ≤ (k : Int) := by omega
      have gg1 : (k : Int) < (l.length : Int) := by omega
      have gg2 : (k : Int) < (c : Int) := by have := ht1; omega
      go_wp2_with fail
      refine (meterIs_any m n g _ hnr).mono ?_
      rintro e w1 ⟨rfl, hb1⟩
      have hbw1 := bl_call hbw hb1
      cases hq : nmB m.name n with
      | true =>
        have hme := metI_at hno hm hq
        go_wp2_with fail
        go_ret
        exact ⟨by rw [hme]; rfl, hbw1⟩
      | false =>
        go_wp2_with fail
        go_roundw
        case rel => exact ⟨k + 1, by omega, by go_num, fun j x hj hx => by
          rcases Nat.lt_or_ge j k with h1 | h1
          · exact hno j x h1 hx
          · obtain rfl : j = k := by omega
            rw [hm] at hx; injection hx with hx; subst hx; exact hq, hbw1⟩
        case measure => simp [intOf]; omega
    · obtain rfl : k = l.length := by omega
      have hme := metI_upto hno
      go_wp2_with fail
      go_ret
      exact ⟨by rw [hme]; rfl, hbw⟩
set_option maxHeartbeats 16000000 in
set_option maxRecDepth 100000 in
theorem findMet_any (l : List Met) (n : ByteArray) (g : Nat) (A : Option Addr) (c : Nat) (w : World) {B : Nat} (hn : Blk w g 9 #[.string n]) (hl : w.ownsRow B 49 5 (.slice A l.length c) l.length (l.flatMap metF)) :
    Calls Try.prog 44 #[.slice A l.length c, .func (.func 45) #[] #[.pointer (some ⟨g, 0, none⟩)]] w fun e w' => e = .returned (.int .i64 (metI n l)) ∧ Below w.heap.size w w' := by
  go_enter Try.func44, Try.ntmps44
  go_wp2_with fail
  refine (indexFunc_any l n g A c _ hn hl).mono ?_
  rintro e w1 ⟨rfl, hb1⟩
  go_wp2_with fail
  go_ret
  exact ⟨rfl, hb1⟩
set_option maxHeartbeats 16000000 in
set_option maxRecDepth 100000 in
theorem treeMeter_any (p : Plan) (Am Af Ac : Option Addr) (cm cf cc : Nat) (cs : List CT) (n : ByteArray) (w : World) {B : Nat} (hl : w.ownsRow B 49 5 (.slice Am p.mets.length cm) p.mets.length (p.mets.flatMap metF)) :
    Calls Try.prog 28 #[.agg #[.string p.name, .string p.cur, .int .i64 p.from_.1, .int .i64 p.from_.2.1, .int .i64 p.from_.2.2, .int .i64 p.to_.1, .int .i64 p.to_.2.1, .int .i64 p.to_.2.2, .slice Am p.mets.length cm, .slice Af p.fees.length cf, .slice Ac cs.length cc, .int .i64 p.line, .int .i64 p.col], .string n] w fun e w' => e = .returned (.int .i64 (metI n p.mets)) ∧ Below w.heap.size w w' := by
  have b0 := bl_alloc (bl_alloc (bl_refl w) (.cells #[.string p.name, .string p.cur, .int .i64 p.from_.1, .int .i64 p.from_.2.1, .int .i64 p.from_.2.2, .int .i64 p.to_.1, .int .i64 p.to_.2.1, .int .i64 p.to_.2.2, .slice Am p.mets.length cm, .slice Af p.fees.length cf, .slice Ac cs.length cc, .int .i64 p.line, .int .i64 p.col] 29)) (.cells #[.string n] 9)
  have kn := Dec.Blk.new2 w (.cells #[.string p.name, .string p.cur, .int .i64 p.from_.1, .int .i64 p.from_.2.1, .int .i64 p.from_.2.2, .int .i64 p.to_.1, .int .i64 p.to_.2.1, .int .i64 p.to_.2.2, .slice Am p.mets.length cm, .slice Af p.fees.length cf, .slice Ac cs.length cc, .int .i64 p.line, .int .i64 p.col] 29) 9 #[.string n]
  have kp := (Blk.new w 29 #[.string p.name, .string p.cur, .int .i64 p.from_.1, .int .i64 p.from_.2.1, .int .i64 p.from_.2.2, .int .i64 p.to_.1, .int .i64 p.to_.2.1, .int .i64 p.to_.2.2, .slice Am p.mets.length cm, .slice Af p.fees.length cf, .slice Ac cs.length cc, .int .i64 p.line, .int .i64 p.col]).alloc (.cells #[.string n] 9)
  have hl0 := own_keep hl fun g hg => b0.block g (hl.lt g hg).2
  have x8 := kp.cell 8
  go_enter Try.func28, Try.ntmps28
  go_wp2_with fail
  refine (findMet_any p.mets n (w.heap.size + 1) Am cm _ kn hl0).mono ?_
  rintro e w1 ⟨rfl, hb1⟩
  go_wp2_with fail
  go_ret
  exact ⟨rfl, bl_call b0 hb1⟩
end Go.Proofs.Ytcgkfgklggjmaaa.Par
end
section
namespace Go.Proofs.Ytcgkfgklggjmaaa.Par
set_option linter.unusedVariables false
set_option linter.unusedSimpArgs false
open Go.RowKit
theorem cell_past {w v : World} {a : Addr} {o : Obj} (hb : Below (w.heap.size + 1) (w.alloc o).drew v) (h : a.block < w.heap.size) {x : Value} (hx : (w.alloc o).cell? a = some x) : v.cell? a = some x := by
  rw [hb.cell (p := a) (by omega)]; exact hx
set_option maxHeartbeats 16000000 in
set_option maxRecDepth 100000 in
theorem meter_any (p : Plan) (Am Af Ac : Option Addr) (cm cf cc : Nat) (cs : List CT) (k : Nat) (m : Met) (w : World) {B : Nat} (hl : w.ownsRow B 49 5 (.slice Am p.mets.length cm) p.mets.length (p.mets.flatMap metF)) (hm : p.mets[k]? = some m) :
    Calls Try.prog 14 #[.agg #[.string p.name, .string p.cur, .int .i64 p.from_.1, .int .i64 p.from_.2.1, .int .i64 p.from_.2.2, .int .i64 p.to_.1, .int .i64 p.to_.2.1, .int .i64 p.to_.2.2, .slice Am p.mets.length cm, .slice Af p.fees.length cf, .slice Ac cs.length cc, .int .i64 p.line, .int .i64 p.col], .int .i64 k] w fun e w' => e = .returned (.int .i64 (metE p k m)) ∧ Below w.heap.size w w' := by
  unfold metE
  have hlt : k < p.mets.length := (List.getElem?_eq_some_iff.1 hm).1
  obtain ⟨_, _, he, ht1, ht2, ht3⟩ := Lies.open (f := metF) (l := p.mets) (Lies.of hl)
  injection he with he1 he2 he3
  subst he1 he3
  obtain ⟨g0, rfl, hg0⟩ := ht3 (by omega)
  have b0 := bl_alloc (bl_refl w) (.cells #[.string p.name, .string p.cur, .int .i64 p.from_.1, .int .i64 p.from_.2.1, .int .i64 p.from_.2.2, .int .i64 p.to_.1, .int .i64 p.to_.2.1, .int .i64 p.to_.2.2, .slice (some ⟨g0, 0, none⟩) p.mets.length cm, .slice Af p.fees.length cf, .slice Ac cs.length cc, .int .i64 p.line, .int .i64 p.col] 29)
  by_cases h4 : 4 ≤ k
  · rw [if_pos h4]
    go_enter Try.func14, Try.ntmps14
    go_wp2_with fail
    go_ret
    exact ⟨rfl, b0⟩
  · rw [if_neg h4]
    have hl0 := own_keep hl fun g hg => b0.block g (hl.lt g hg).2
    have hld : (w.alloc (.cells #[.string p.name, .string p.cur, .int .i64 p.from_.1, .int .i64 p.from_.2.1, .int .i64 p.from_.2.2, .int .i64 p.to_.1, .int .i64 p.to_.2.1, .int .i64 p.to_.2.2, .slice (some ⟨g0, 0, none⟩) p.mets.length cm, .slice Af p.fees.length cf, .slice Ac cs.length cc, .int .i64 p.line, .int .i64 p.col] 29)).drew.ownsRow B 49 5 (.slice (some ⟨g0, 0, none⟩) p.mets.length cm) p.mets.length (p.mets.flatMap metF) := hl0
    have kp := (Blk.new w 29 #[.string p.name, .string p.cur, .int .i64 p.from_.1, .int .i64 p.from_.2.1, .int .i64 p.from_.2.2, .int .i64 p.to_.1, .int .i64 p.to_.2.1, .int .i64 p.to_.2.2, .slice (some ⟨g0, 0, none⟩) p.mets.length cm, .slice Af p.fees.length cf, .slice Ac cs.length cc, .int .i64 p.line, .int .i64 p.col]).drew
    have r0 : (w.alloc (.cells #[.string p.name, .string p.cur, .int .i64 p.from_.1, .int .i64 p.from_.2.1, .int .i64 p.from_.2.2, .int .i64 p.to_.1, .int .i64 p.to_.2.1, .int .i64 p.to_.2.2, .slice (some ⟨g0, 0, none⟩) p.mets.length cm, .slice Af p.fees.length cf, .slice Ac cs.length cc, .int .i64 p.line, .int .i64 p.col] 29)).cell? ⟨g0, k * 5, none⟩ = some (.string m.name) := Lies.at (f := metF) (l := p.mets) (Lies.of hl0) (fun _ => rfl) (i := k) hm (j := 0) rfl
    have gg0 : (0 : Int) ≤ (k : Int) := by omega
    have gg1 : (k : Int) < (p.mets.length : Int) := by omega
    have gg2 : (k : Int) < (cm : Int) := by have := ht1; omega
    have hM := treeMeter_any p (some ⟨g0, 0, none⟩) Af Ac cm cf cc cs m.name (w.alloc (.cells #[.string p.name, .string p.cur, .int .i64 p.from_.1, .int .i64 p.from_.2.1, .int .i64 p.from_.2.2, .int .i64 p.to_.1, .int .i64 p.to_.2.1, .int .i64 p.to_.2.2, .slice (some ⟨g0, 0, none⟩) p.mets.length cm, .slice Af p.fees.length cf, .slice Ac cs.length cc, .int .i64 p.line, .int .i64 p.col] 29)).drew hld
    have hge := metI_ge m.name p.mets
    obtain ⟨i, hi⟩ : ∃ i, metI m.name p.mets = i := ⟨_, rfl⟩
    rw [hi] at hM hge ⊢
    obtain ⟨E, hE⟩ : ∃ E : Int, (if i < (k : Int) then 5 else 0) = E := ⟨_, rfl⟩
    rw [hE]
    have hE := Lib.hid hE
    clear hi
    replace hM := Lib.hid hM
    obtain ⟨a0, a1, a2, a3, a4, a5, a6, a7, a8, a9, a10, a11, a12, _, _, _, _, _, _, _, _, _, _, _, _, _⟩ := kp.c13
    go_enter Try.func14, Try.ntmps14
    go_wp2_with fail
    go_region_held3 (fun w' => w'.cell? ⟨w.heap.size, 0, none⟩ = some (.string p.name) ∧ w'.cell? ⟨w.heap.size, 1, none⟩ = some (.string p.cur) ∧ w'.cell? ⟨w.heap.size, 2, none⟩ = some (.int .i64 p.from_.1) ∧ w'.cell? ⟨w.heap.size, 3, none⟩ = some (.int .i64 p.from_.2.1) ∧ w'.cell? ⟨w.heap.size, 4, none⟩ = some (.int .i64 p.from_.2.2) ∧ w'.cell? ⟨w.heap.size, 5, none⟩ = some (.int .i64 p.to_.1) ∧ w'.cell? ⟨w.heap.size, 6, none⟩ = some (.int .i64 p.to_.2.1) ∧ w'.cell? ⟨w.heap.size, 7, none⟩ = some (.int .i64 p.to_.2.2) ∧ w'.cell? ⟨w.heap.size, 8, none⟩ = some (.slice (some ⟨g0, 0, none⟩) p.mets.length cm) ∧ w'.cell? ⟨w.heap.size, 9, none⟩ = some (.slice Af p.fees.length cf) ∧ w'.cell? ⟨w.heap.size, 10, none⟩ = some (.slice Ac cs.length cc) ∧ w'.cell? ⟨w.heap.size, 11, none⟩ = some (.int .i64 p.line) ∧ w'.cell? ⟨w.heap.size, 12, none⟩ = some (.int .i64 p.col) ∧ w'.cell? ⟨g0, k * 5, none⟩ = some (.string m.name))
      (refine ⟨?_, ?_, ?_, ?_, ?_, ?_, ?_, ?_, ?_, ?_, ?_, ?_, ?_, ?_⟩ <;> first | with_reducible assumption | (go_keep; done))
      ((go_at_call 28; refine hM.out.mono ?_; rintro e' w5 ⟨rfl, hb5⟩; (have kq := kp.call hb5); (have rr := cell_past (by simpa using hb5) (by exact hg0) r0); obtain ⟨q0, q1, q2, q3, q4, q5, q6, q7, q8, q9, q10, q11, q12, _, _, _, _, _, _, _, _, _, _, _, _, _⟩ := kq.c13))
    all_goals (have bb := bl_call (bl_drew b0) hb5)
    all_goals (by_cases hc : i < (k : Int))
    all_goals (have hx := hE.out)
    all_goals first | rw [if_pos hc] at hx | rw [if_neg hc] at hx
    all_goals subst hx
    all_goals go_wp2_with fail
    all_goals go_ret
    all_goals exact ⟨rfl, bb⟩
set_option maxHeartbeats 16000000 in
set_option maxRecDepth 100000 in
theorem fee_any (p : Plan) (Am Af Ac : Option Addr) (cm cf cc : Nat) (cs : List CT) (k : Nat) (m : Fee) (w : World) {B : Nat} (hl : w.ownsRow B 54 10 (.slice Af p.fees.length cf) p.fees.length (p.fees.flatMap feeF)) (hm : p.fees[k]? = some m) (hf : goodT p.from_ = true) (ht : goodT p.to_ = true) (hx : WG m.win) :
    Calls Try.prog 15 #[.agg #[.string p.name, .string p.cur, .int .i64 p.from_.1, .int .i64 p.from_.2.1, .int .i64 p.from_.2.2, .int .i64 p.to_.1, .int .i64 p.to_.2.1, .int .i64 p.to_.2.2, .slice Am p.mets.length cm, .slice Af p.fees.length cf, .slice Ac cs.length cc, .int .i64 p.line, .int .i64 p.col], .int .i64 k] w fun e w' => e = .returned (.int .i64 (feeE p k m)) ∧ Below w.heap.size w w' := by
  unfold feeE
  have hlt : k < p.fees.length := (List.getElem?_eq_some_iff.1 hm).1
  obtain ⟨_, _, he, ht1, ht2, ht3⟩ := Lies.open (f := feeF) (l := p.fees) (Lies.of hl)
  injection he with he1 he2 he3
  subst he1 he3
  obtain ⟨g0, rfl, hg0⟩ := ht3 (by omega)
  have b0 := bl_alloc (bl_refl w) (.cells #[.string p.name, .string p.cur, .int .i64 p.from_.1, .int .i64 p.from_.2.1, .int .i64 p.from_.2.2, .int .i64 p.to_.1, .int .i64 p.to_.2.1, .int .i64 p.to_.2.2, .slice Am p.mets.length cm, .slice (some ⟨g0, 0, none⟩) p.fees.length cf, .slice Ac cs.length cc, .int .i64 p.line, .int .i64 p.col] 29)
  by_cases h4 : 8 ≤ k
  · rw [if_pos h4]
    go_enter Try.func15, Try.ntmps15
    go_wp2_with fail
    go_ret
    exact ⟨rfl, b0⟩
  · rw [if_neg h4]
    have hl0 := own_keep hl fun g hg => b0.block g (hl.lt g hg).2
    have kp := (Blk.new w 29 #[.string p.name, .string p.cur, .int .i64 p.from_.1, .int .i64 p.from_.2.1, .int .i64 p.from_.2.2, .int .i64 p.to_.1, .int .i64 p.to_.2.1, .int .i64 p.to_.2.2, .slice Am p.mets.length cm, .slice (some ⟨g0, 0, none⟩) p.fees.length cf, .slice Ac cs.length cc, .int .i64 p.line, .int .i64 p.col]).drew
    have r1 : (w.alloc (.cells #[.string p.name, .string p.cur, .int .i64 p.from_.1, .int .i64 p.from_.2.1, .int .i64 p.from_.2.2, .int .i64 p.to_.1, .int .i64 p.to_.2.1, .int .i64 p.to_.2.2, .slice Am p.mets.length cm, .slice (some ⟨g0, 0, none⟩) p.fees.length cf, .slice Ac cs.length cc, .int .i64 p.line, .int .i64 p.col] 29)).cell? ⟨g0, k * 10 + 1, none⟩ = some (.bool m.win.has) := Lies.at (f := feeF) (l := p.fees) (Lies.of hl0) (fun _ => rfl) (i := k) hm (j := 1) rfl
    have r2 : (w.alloc (.cells #[.string p.name, .string p.cur, .int .i64 p.from_.1, .int .i64 p.from_.2.1, .int .i64 p.from_.2.2, .int .i64 p.to_.1, .int .i64 p.to_.2.1, .int .i64 p.to_.2.2, .slice Am p.mets.length cm, .slice (some ⟨g0, 0, none⟩) p.fees.length cf, .slice Ac cs.length cc, .int .i64 p.line, .int .i64 p.col] 29)).cell? ⟨g0, k * 10 + 2, none⟩ = some (.int .i64 m.win.from_.1) := Lies.at (f := feeF) (l := p.fees) (Lies.of hl0) (fun _ => rfl) (i := k) hm (j := 2) rfl
    have r3 : (w.alloc (.cells #[.string p.name, .string p.cur, .int .i64 p.from_.1, .int .i64 p.from_.2.1, .int .i64 p.from_.2.2, .int .i64 p.to_.1, .int .i64 p.to_.2.1, .int .i64 p.to_.2.2, .slice Am p.mets.length cm, .slice (some ⟨g0, 0, none⟩) p.fees.length cf, .slice Ac cs.length cc, .int .i64 p.line, .int .i64 p.col] 29)).cell? ⟨g0, k * 10 + 3, none⟩ = some (.int .i64 m.win.from_.2.1) := Lies.at (f := feeF) (l := p.fees) (Lies.of hl0) (fun _ => rfl) (i := k) hm (j := 3) rfl
    have r4 : (w.alloc (.cells #[.string p.name, .string p.cur, .int .i64 p.from_.1, .int .i64 p.from_.2.1, .int .i64 p.from_.2.2, .int .i64 p.to_.1, .int .i64 p.to_.2.1, .int .i64 p.to_.2.2, .slice Am p.mets.length cm, .slice (some ⟨g0, 0, none⟩) p.fees.length cf, .slice Ac cs.length cc, .int .i64 p.line, .int .i64 p.col] 29)).cell? ⟨g0, k * 10 + 4, none⟩ = some (.int .i64 m.win.from_.2.2) := Lies.at (f := feeF) (l := p.fees) (Lies.of hl0) (fun _ => rfl) (i := k) hm (j := 4) rfl
    have r5 : (w.alloc (.cells #[.string p.name, .string p.cur, .int .i64 p.from_.1, .int .i64 p.from_.2.1, .int .i64 p.from_.2.2, .int .i64 p.to_.1, .int .i64 p.to_.2.1, .int .i64 p.to_.2.2, .slice Am p.mets.length cm, .slice (some ⟨g0, 0, none⟩) p.fees.length cf, .slice Ac cs.length cc, .int .i64 p.line, .int .i64 p.col] 29)).cell? ⟨g0, k * 10 + 5, none⟩ = some (.int .i64 m.win.to_.1) := Lies.at (f := feeF) (l := p.fees) (Lies.of hl0) (fun _ => rfl) (i := k) hm (j := 5) rfl
    have r6 : (w.alloc (.cells #[.string p.name, .string p.cur, .int .i64 p.from_.1, .int .i64 p.from_.2.1, .int .i64 p.from_.2.2, .int .i64 p.to_.1, .int .i64 p.to_.2.1, .int .i64 p.to_.2.2, .slice Am p.mets.length cm, .slice (some ⟨g0, 0, none⟩) p.fees.length cf, .slice Ac cs.length cc, .int .i64 p.line, .int .i64 p.col] 29)).cell? ⟨g0, k * 10 + 6, none⟩ = some (.int .i64 m.win.to_.2.1) := Lies.at (f := feeF) (l := p.fees) (Lies.of hl0) (fun _ => rfl) (i := k) hm (j := 6) rfl
    have r7 : (w.alloc (.cells #[.string p.name, .string p.cur, .int .i64 p.from_.1, .int .i64 p.from_.2.1, .int .i64 p.from_.2.2, .int .i64 p.to_.1, .int .i64 p.to_.2.1, .int .i64 p.to_.2.2, .slice Am p.mets.length cm, .slice (some ⟨g0, 0, none⟩) p.fees.length cf, .slice Ac cs.length cc, .int .i64 p.line, .int .i64 p.col] 29)).cell? ⟨g0, k * 10 + 7, none⟩ = some (.int .i64 m.win.to_.2.2) := Lies.at (f := feeF) (l := p.fees) (Lies.of hl0) (fun _ => rfl) (i := k) hm (j := 7) rfl
    have gg0 : (0 : Int) ≤ (k : Int) := by omega
    have gg1 : (k : Int) < (p.fees.length : Int) := by omega
    have gg2 : (k : Int) < (cf : Int) := by have := ht1; omega
    have hM := cwindow_any p Am (some ⟨g0, 0, none⟩) Ac cm cf cc cs m.win (w.alloc (.cells #[.string p.name, .string p.cur, .int .i64 p.from_.1, .int .i64 p.from_.2.1, .int .i64 p.from_.2.2, .int .i64 p.to_.1, .int .i64 p.to_.2.1, .int .i64 p.to_.2.2, .slice Am p.mets.length cm, .slice (some ⟨g0, 0, none⟩) p.fees.length cf, .slice Ac cs.length cc, .int .i64 p.line, .int .i64 p.col] 29)).drew hf ht hx
    obtain ⟨i, hi⟩ : ∃ i, winB p m.win = i := ⟨_, rfl⟩
    rw [hi] at hM ⊢
    obtain ⟨E, hE⟩ : ∃ E : Int, (if i = false then 5 else 0) = E := ⟨_, rfl⟩
    rw [hE]
    have hE := Lib.hid hE
    clear hi
    replace hM := Lib.hid hM
    obtain ⟨a0, a1, a2, a3, a4, a5, a6, a7, a8, a9, a10, a11, a12, _, _, _, _, _, _, _, _, _, _, _, _, _⟩ := kp.c13
    go_enter Try.func15, Try.ntmps15
    go_wp2_with fail
    go_region_held3 (fun w' => w'.cell? ⟨w.heap.size, 0, none⟩ = some (.string p.name) ∧ w'.cell? ⟨w.heap.size, 1, none⟩ = some (.string p.cur) ∧ w'.cell? ⟨w.heap.size, 2, none⟩ = some (.int .i64 p.from_.1) ∧ w'.cell? ⟨w.heap.size, 3, none⟩ = some (.int .i64 p.from_.2.1) ∧ w'.cell? ⟨w.heap.size, 4, none⟩ = some (.int .i64 p.from_.2.2) ∧ w'.cell? ⟨w.heap.size, 5, none⟩ = some (.int .i64 p.to_.1) ∧ w'.cell? ⟨w.heap.size, 6, none⟩ = some (.int .i64 p.to_.2.1) ∧ w'.cell? ⟨w.heap.size, 7, none⟩ = some (.int .i64 p.to_.2.2) ∧ w'.cell? ⟨w.heap.size, 8, none⟩ = some (.slice Am p.mets.length cm) ∧ w'.cell? ⟨w.heap.size, 9, none⟩ = some (.slice (some ⟨g0, 0, none⟩) p.fees.length cf) ∧ w'.cell? ⟨w.heap.size, 10, none⟩ = some (.slice Ac cs.length cc) ∧ w'.cell? ⟨w.heap.size, 11, none⟩ = some (.int .i64 p.line) ∧ w'.cell? ⟨w.heap.size, 12, none⟩ = some (.int .i64 p.col) ∧ w'.cell? ⟨g0, k * 10 + 1, none⟩ = some (.bool m.win.has) ∧ w'.cell? ⟨g0, k * 10 + 2, none⟩ = some (.int .i64 m.win.from_.1) ∧ w'.cell? ⟨g0, k * 10 + 3, none⟩ = some (.int .i64 m.win.from_.2.1) ∧ w'.cell? ⟨g0, k * 10 + 4, none⟩ = some (.int .i64 m.win.from_.2.2) ∧ w'.cell? ⟨g0, k * 10 + 5, none⟩ = some (.int .i64 m.win.to_.1) ∧ w'.cell? ⟨g0, k * 10 + 6, none⟩ = some (.int .i64 m.win.to_.2.1) ∧ w'.cell? ⟨g0, k * 10 + 7, none⟩ = some (.int .i64 m.win.to_.2.2))
      (refine ⟨?_, ?_, ?_, ?_, ?_, ?_, ?_, ?_, ?_, ?_, ?_, ?_, ?_, ?_, ?_, ?_, ?_, ?_, ?_, ?_⟩ <;> first | with_reducible assumption | (go_keep; done))
      ((go_at_call 40; refine hM.out.mono ?_; rintro e' w5 ⟨rfl, hb5⟩; (have kq := kp.call hb5); (have rr1 := cell_past (by simpa using hb5) (by exact hg0) r1); (have rr2 := cell_past (by simpa using hb5) (by exact hg0) r2); (have rr3 := cell_past (by simpa using hb5) (by exact hg0) r3); (have rr4 := cell_past (by simpa using hb5) (by exact hg0) r4); (have rr5 := cell_past (by simpa using hb5) (by exact hg0) r5); (have rr6 := cell_past (by simpa using hb5) (by exact hg0) r6); (have rr7 := cell_past (by simpa using hb5) (by exact hg0) r7); obtain ⟨q0, q1, q2, q3, q4, q5, q6, q7, q8, q9, q10, q11, q12, _, _, _, _, _, _, _, _, _, _, _, _, _⟩ := kq.c13))
    all_goals (have bb := bl_call (bl_drew b0) hb5)
    all_goals cases i
    all_goals (have hx := hE.out)
    all_goals first | rw [if_pos rfl] at hx | rw [if_neg (by decide)] at hx
    all_goals subst hx
    all_goals go_wp2_with fail
    all_goals go_ret
    all_goals exact ⟨rfl, bb⟩
set_option maxHeartbeats 16000000 in
set_option maxRecDepth 100000 in
theorem rises_any (l : List Tier) (A : Option Addr) (c : Nat) (w : World) {B : Nat} (hl : TiersLie B w (.slice A l.length c) l) (hr : ∀ t ∈ l, 0 ≤ t.upto) :
    Calls Try.prog 41 #[.slice A l.length c] w fun e w' => e = .returned (.bool (risesB l)) ∧ Below w.heap.size w w' := by
  obtain ⟨_, _, he, ht1, ht2, ht3⟩ := Lies.open (f := tierF) (l := l) (Lies.of hl)
  injection he with he1 he2 he3
  subst he1 he3
  unfold maxLen at ht2
  go_enter Try.func41, Try.ntmps41
  go_wp2_with fail
  go_loopw [3, 8] (fun v3 v8 wr => ∃ k : Nat, k ≤ l.length ∧ v8 = .int .i64 k ∧ v3 = .int .i64 (prevA l k) ∧ (∀ i, i < k → i + 1 < l.length → stepOk l i = true) ∧ Below w.heap.size w wr) (fun _ v8 _ => l.length - (intOf v8).toNat)
  case atStart => exact ⟨0, by omega, rfl, rfl, fun i hi => absurd hi (by omega), bl_refl w⟩
  case round =>
    obtain ⟨k, hk, rfl, rfl, hno, hbw⟩ := hrel
    have hlr : wr.ownsRow B 94 2 (.slice A l.length c) l.length (l.flatMap tierF) := own_keep hl fun g hg => hbw.block g (World.ownsRow.lt hl g hg).2
    by_cases hlt : k < l.length
    · obtain ⟨g0, rfl, hg0⟩ := ht3 (by omega)
      obtain ⟨m, hm⟩ : ∃ m, l[k]? = some m := ⟨l[k], List.getElem?_eq_getElem hlt⟩
      have r0 : (wr).cell? ⟨g0, k * 2, none⟩ = some (.int .i64 m.upto) := Lies.at (f := tierF) (l := l) (Lies.of hlr) (fun _ => rfl) (i := k) hm (j := 0) rfl
      have r1 : (wr).cell? ⟨g0, k * 2 + 1, none⟩ = some (.int .i64 m.rate) := Lies.at (f := tierF) (l := l) (Lies.of hlr) (fun _ => rfl) (i := k) hm (j := 1) rfl
      have gg0 : (0 : Int) ≤ (k : Int) := by omega
      have gg1 : (k : Int) < (l.length : Int) := by omega
      have gg2 : (k : Int) < (c : Int) := by have := ht1; omega
      have hup : upA l k = m.upto := by unfold upA; rw [hm]; rfl
      have hst : stepOk l k = decide (prevA l k < m.upto) := by unfold stepOk; rw [hup]
      have hnx : prevA l (k + 1) = m.upto := hup
      have kt := Blk.new wr 94 #[.int .i64 m.upto, .int .i64 m.rate]
      have hbw1 := bl_alloc hbw (.cells #[.int .i64 m.upto, .int .i64 m.rate] 94)
      obtain ⟨z0, z1, _, _⟩ := kt.c2
      obtain ⟨P, hP⟩ : ∃ P, prevA l k = P := ⟨_, rfl⟩
      rw [hP] at hst ⊢
      by_cases hlast : k + 1 < l.length
      · by_cases hc : P < m.upto
        · go_wp2_with fail
          go_roundw
          case rel => exact ⟨k + 1, by omega, by go_num, by rw [hnx], fun i hi h1 => by
            rcases Nat.lt_or_ge i k with h2 | h2
            · exact hno i h2 h1
            · obtain rfl : i = k := by omega
              rw [hst]; simpa using hc, hbw1⟩
          case measure => simp [intOf]; omega
        · have hres := rises_no hlast (by rw [hst]; simpa using hc)
          go_wp2_with fail
          go_ret
          exact ⟨by first | rfl | (rw [hres]; rfl), hbw1⟩
      · go_wp2_with fail
        go_roundw
        case rel => exact ⟨k + 1, by omega, by go_num, by rw [hnx], fun i hi h1 => hno i (by omega) h1, hbw1⟩
        case measure => simp [intOf]; omega
    · obtain rfl : k = l.length := by omega
      have hres := rises_yes fun i hi => hno i (by omega) hi
      go_wp2_with fail
      go_ret
      exact ⟨by first | rfl | (rw [hres]; rfl), hbw⟩
end Go.Proofs.Ytcgkfgklggjmaaa.Par
end
section
namespace Go.Proofs.Ytcgkfgklggjmaaa.Par
set_option linter.unusedVariables false
set_option linter.unusedSimpArgs false
open Go.RowKit
set_option maxHeartbeats 16000000 in
set_option maxRecDepth 100000 in
theorem ccharge_any (p : Plan) (Am Af Ac : Option Addr) (cm cf cc : Nat) (cs : List CT) (k : Nat) (c : Chg) (At Aa : Option Addr) (ct ca : Nat) (w : World) {B : Nat} (hR : Rows w B p (.slice Am p.mets.length cm) (.slice Af p.fees.length cf) (.slice Ac cs.length cc) cs)
    (hm : cs[k]? = some (c, .slice At c.tiers.length ct, .slice Aa c.adjs.length ca)) (hf : goodT p.from_ = true) (ht : goodT p.to_ = true) (hx : WG c.win) (hr : ∀ t ∈ c.tiers, 0 ≤ t.upto) :
    Calls Try.prog 16 #[.agg #[.string p.name, .string p.cur, .int .i64 p.from_.1, .int .i64 p.from_.2.1, .int .i64 p.from_.2.2, .int .i64 p.to_.1, .int .i64 p.to_.2.1, .int .i64 p.to_.2.2, .slice Am p.mets.length cm, .slice Af p.fees.length cf, .slice Ac cs.length cc, .int .i64 p.line, .int .i64 p.col], .int .i64 k] w fun e w' => e = .returned (.int .i64 (chgE p k c)) ∧ Below w.heap.size w w' := by
  have hlt : k < cs.length := (List.getElem?_eq_some_iff.1 hm).1
  have hco := hR.co
  have hmem := List.mem_of_getElem? hm
  obtain ⟨hT, hA⟩ := hR.ne _ hmem
  obtain ⟨_, _, he, ht1, ht2, ht3⟩ := Lies.open (f := chgF) (l := cs) (Lies.of hco)
  injection he with he1 he2 he3
  subst he1 he3
  obtain ⟨g0, rfl, hg0⟩ := ht3 (by omega)
  unfold maxLen at ht2
  have b0 := bl_alloc (bl_refl w) (.cells #[.string p.name, .string p.cur, .int .i64 p.from_.1, .int .i64 p.from_.2.1, .int .i64 p.from_.2.2, .int .i64 p.to_.1, .int .i64 p.to_.2.1, .int .i64 p.to_.2.2, .slice Am p.mets.length cm, .slice Af p.fees.length cf, .slice (some ⟨g0, 0, none⟩) cs.length cc, .int .i64 p.line, .int .i64 p.col] 29)
  have hR0 := hR.below b0
  have kp0 := Blk.new w 29 #[.string p.name, .string p.cur, .int .i64 p.from_.1, .int .i64 p.from_.2.1, .int .i64 p.from_.2.2, .int .i64 p.to_.1, .int .i64 p.to_.2.1, .int .i64 p.to_.2.2, .slice Am p.mets.length cm, .slice Af p.fees.length cf, .slice (some ⟨g0, 0, none⟩) cs.length cc, .int .i64 p.line, .int .i64 p.col]
  have r0 : (w.alloc (.cells #[.string p.name, .string p.cur, .int .i64 p.from_.1, .int .i64 p.from_.2.1, .int .i64 p.from_.2.2, .int .i64 p.to_.1, .int .i64 p.to_.2.1, .int .i64 p.to_.2.2, .slice Am p.mets.length cm, .slice Af p.fees.length cf, .slice (some ⟨g0, 0, none⟩) cs.length cc, .int .i64 p.line, .int .i64 p.col] 29)).cell? ⟨g0, k * 16, none⟩ = some (.string c.meter) := Lies.at (f := chgF) (l := cs) (Lies.of hR0.co) (fun _ => rfl) (i := k) hm (j := 0) rfl
  have r1 : (w.alloc (.cells #[.string p.name, .string p.cur, .int .i64 p.from_.1, .int .i64 p.from_.2.1, .int .i64 p.from_.2.2, .int .i64 p.to_.1, .int .i64 p.to_.2.1, .int .i64 p.to_.2.2, .slice Am p.mets.length cm, .slice Af p.fees.length cf, .slice (some ⟨g0, 0, none⟩) cs.length cc, .int .i64 p.line, .int .i64 p.col] 29)).cell? ⟨g0, k * 16 + 1, none⟩ = some (.bool c.win.has) := Lies.at (f := chgF) (l := cs) (Lies.of hR0.co) (fun _ => rfl) (i := k) hm (j := 1) rfl
  have r2 : (w.alloc (.cells #[.string p.name, .string p.cur, .int .i64 p.from_.1, .int .i64 p.from_.2.1, .int .i64 p.from_.2.2, .int .i64 p.to_.1, .int .i64 p.to_.2.1, .int .i64 p.to_.2.2, .slice Am p.mets.length cm, .slice Af p.fees.length cf, .slice (some ⟨g0, 0, none⟩) cs.length cc, .int .i64 p.line, .int .i64 p.col] 29)).cell? ⟨g0, k * 16 + 2, none⟩ = some (.int .i64 c.win.from_.1) := Lies.at (f := chgF) (l := cs) (Lies.of hR0.co) (fun _ => rfl) (i := k) hm (j := 2) rfl
  have r3 : (w.alloc (.cells #[.string p.name, .string p.cur, .int .i64 p.from_.1, .int .i64 p.from_.2.1, .int .i64 p.from_.2.2, .int .i64 p.to_.1, .int .i64 p.to_.2.1, .int .i64 p.to_.2.2, .slice Am p.mets.length cm, .slice Af p.fees.length cf, .slice (some ⟨g0, 0, none⟩) cs.length cc, .int .i64 p.line, .int .i64 p.col] 29)).cell? ⟨g0, k * 16 + 3, none⟩ = some (.int .i64 c.win.from_.2.1) := Lies.at (f := chgF) (l := cs) (Lies.of hR0.co) (fun _ => rfl) (i := k) hm (j := 3) rfl
  have r4 : (w.alloc (.cells #[.string p.name, .string p.cur, .int .i64 p.from_.1, .int .i64 p.from_.2.1, .int .i64 p.from_.2.2, .int .i64 p.to_.1, .int .i64 p.to_.2.1, .int .i64 p.to_.2.2, .slice Am p.mets.length cm, .slice Af p.fees.length cf, .slice (some ⟨g0, 0, none⟩) cs.length cc, .int .i64 p.line, .int .i64 p.col] 29)).cell? ⟨g0, k * 16 + 4, none⟩ = some (.int .i64 c.win.from_.2.2) := Lies.at (f := chgF) (l := cs) (Lies.of hR0.co) (fun _ => rfl) (i := k) hm (j := 4) rfl
  have r5 : (w.alloc (.cells #[.string p.name, .string p.cur, .int .i64 p.from_.1, .int .i64 p.from_.2.1, .int .i64 p.from_.2.2, .int .i64 p.to_.1, .int .i64 p.to_.2.1, .int .i64 p.to_.2.2, .slice Am p.mets.length cm, .slice Af p.fees.length cf, .slice (some ⟨g0, 0, none⟩) cs.length cc, .int .i64 p.line, .int .i64 p.col] 29)).cell? ⟨g0, k * 16 + 5, none⟩ = some (.int .i64 c.win.to_.1) := Lies.at (f := chgF) (l := cs) (Lies.of hR0.co) (fun _ => rfl) (i := k) hm (j := 5) rfl
  have r6 : (w.alloc (.cells #[.string p.name, .string p.cur, .int .i64 p.from_.1, .int .i64 p.from_.2.1, .int .i64 p.from_.2.2, .int .i64 p.to_.1, .int .i64 p.to_.2.1, .int .i64 p.to_.2.2, .slice Am p.mets.length cm, .slice Af p.fees.length cf, .slice (some ⟨g0, 0, none⟩) cs.length cc, .int .i64 p.line, .int .i64 p.col] 29)).cell? ⟨g0, k * 16 + 6, none⟩ = some (.int .i64 c.win.to_.2.1) := Lies.at (f := chgF) (l := cs) (Lies.of hR0.co) (fun _ => rfl) (i := k) hm (j := 6) rfl
  have r7 : (w.alloc (.cells #[.string p.name, .string p.cur, .int .i64 p.from_.1, .int .i64 p.from_.2.1, .int .i64 p.from_.2.2, .int .i64 p.to_.1, .int .i64 p.to_.2.1, .int .i64 p.to_.2.2, .slice Am p.mets.length cm, .slice Af p.fees.length cf, .slice (some ⟨g0, 0, none⟩) cs.length cc, .int .i64 p.line, .int .i64 p.col] 29)).cell? ⟨g0, k * 16 + 7, none⟩ = some (.int .i64 c.win.to_.2.2) := Lies.at (f := chgF) (l := cs) (Lies.of hR0.co) (fun _ => rfl) (i := k) hm (j := 7) rfl
  have r8 : (w.alloc (.cells #[.string p.name, .string p.cur, .int .i64 p.from_.1, .int .i64 p.from_.2.1, .int .i64 p.from_.2.2, .int .i64 p.to_.1, .int .i64 p.to_.2.1, .int .i64 p.to_.2.2, .slice Am p.mets.length cm, .slice Af p.fees.length cf, .slice (some ⟨g0, 0, none⟩) cs.length cc, .int .i64 p.line, .int .i64 p.col] 29)).cell? ⟨g0, k * 16 + 8, none⟩ = some (.int .i64 c.allow) := Lies.at (f := chgF) (l := cs) (Lies.of hR0.co) (fun _ => rfl) (i := k) hm (j := 8) rfl
  have r9 : (w.alloc (.cells #[.string p.name, .string p.cur, .int .i64 p.from_.1, .int .i64 p.from_.2.1, .int .i64 p.from_.2.2, .int .i64 p.to_.1, .int .i64 p.to_.2.1, .int .i64 p.to_.2.2, .slice Am p.mets.length cm, .slice Af p.fees.length cf, .slice (some ⟨g0, 0, none⟩) cs.length cc, .int .i64 p.line, .int .i64 p.col] 29)).cell? ⟨g0, k * 16 + 9, none⟩ = some (.int .i64 c.block) := Lies.at (f := chgF) (l := cs) (Lies.of hR0.co) (fun _ => rfl) (i := k) hm (j := 9) rfl
  have r10 : (w.alloc (.cells #[.string p.name, .string p.cur, .int .i64 p.from_.1, .int .i64 p.from_.2.1, .int .i64 p.from_.2.2, .int .i64 p.to_.1, .int .i64 p.to_.2.1, .int .i64 p.to_.2.2, .slice Am p.mets.length cm, .slice Af p.fees.length cf, .slice (some ⟨g0, 0, none⟩) cs.length cc, .int .i64 p.line, .int .i64 p.col] 29)).cell? ⟨g0, k * 16 + 10, none⟩ = some (.int .i64 c.kind) := Lies.at (f := chgF) (l := cs) (Lies.of hR0.co) (fun _ => rfl) (i := k) hm (j := 10) rfl
  have r11 : (w.alloc (.cells #[.string p.name, .string p.cur, .int .i64 p.from_.1, .int .i64 p.from_.2.1, .int .i64 p.from_.2.2, .int .i64 p.to_.1, .int .i64 p.to_.2.1, .int .i64 p.to_.2.2, .slice Am p.mets.length cm, .slice Af p.fees.length cf, .slice (some ⟨g0, 0, none⟩) cs.length cc, .int .i64 p.line, .int .i64 p.col] 29)).cell? ⟨g0, k * 16 + 11, none⟩ = some (.slice At c.tiers.length ct) := Lies.at (f := chgF) (l := cs) (Lies.of hR0.co) (fun _ => rfl) (i := k) hm (j := 11) rfl
  have r12 : (w.alloc (.cells #[.string p.name, .string p.cur, .int .i64 p.from_.1, .int .i64 p.from_.2.1, .int .i64 p.from_.2.2, .int .i64 p.to_.1, .int .i64 p.to_.2.1, .int .i64 p.to_.2.2, .slice Am p.mets.length cm, .slice Af p.fees.length cf, .slice (some ⟨g0, 0, none⟩) cs.length cc, .int .i64 p.line, .int .i64 p.col] 29)).cell? ⟨g0, k * 16 + 12, none⟩ = some (.int .i64 c.mode) := Lies.at (f := chgF) (l := cs) (Lies.of hR0.co) (fun _ => rfl) (i := k) hm (j := 12) rfl
  have r13 : (w.alloc (.cells #[.string p.name, .string p.cur, .int .i64 p.from_.1, .int .i64 p.from_.2.1, .int .i64 p.from_.2.2, .int .i64 p.to_.1, .int .i64 p.to_.2.1, .int .i64 p.to_.2.2, .slice Am p.mets.length cm, .slice Af p.fees.length cf, .slice (some ⟨g0, 0, none⟩) cs.length cc, .int .i64 p.line, .int .i64 p.col] 29)).cell? ⟨g0, k * 16 + 13, none⟩ = some (.slice Aa c.adjs.length ca) := Lies.at (f := chgF) (l := cs) (Lies.of hR0.co) (fun _ => rfl) (i := k) hm (j := 13) rfl
  have r14 : (w.alloc (.cells #[.string p.name, .string p.cur, .int .i64 p.from_.1, .int .i64 p.from_.2.1, .int .i64 p.from_.2.2, .int .i64 p.to_.1, .int .i64 p.to_.2.1, .int .i64 p.to_.2.2, .slice Am p.mets.length cm, .slice Af p.fees.length cf, .slice (some ⟨g0, 0, none⟩) cs.length cc, .int .i64 p.line, .int .i64 p.col] 29)).cell? ⟨g0, k * 16 + 14, none⟩ = some (.int .i64 c.line) := Lies.at (f := chgF) (l := cs) (Lies.of hR0.co) (fun _ => rfl) (i := k) hm (j := 14) rfl
  have r15 : (w.alloc (.cells #[.string p.name, .string p.cur, .int .i64 p.from_.1, .int .i64 p.from_.2.1, .int .i64 p.from_.2.2, .int .i64 p.to_.1, .int .i64 p.to_.2.1, .int .i64 p.to_.2.2, .slice Am p.mets.length cm, .slice Af p.fees.length cf, .slice (some ⟨g0, 0, none⟩) cs.length cc, .int .i64 p.line, .int .i64 p.col] 29)).cell? ⟨g0, k * 16 + 15, none⟩ = some (.int .i64 c.col) := Lies.at (f := chgF) (l := cs) (Lies.of hR0.co) (fun _ => rfl) (i := k) hm (j := 15) rfl
  have gg0 : (0 : Int) ≤ (k : Int) := by omega
  have gg1 : (k : Int) < (cs.length : Int) := by omega
  have gg2 : (k : Int) < (cc : Int) := by have := ht1; omega
  have kc0 := Blk.new (w.alloc (.cells #[.string p.name, .string p.cur, .int .i64 p.from_.1, .int .i64 p.from_.2.1, .int .i64 p.from_.2.2, .int .i64 p.to_.1, .int .i64 p.to_.2.1, .int .i64 p.to_.2.2, .slice Am p.mets.length cm, .slice Af p.fees.length cf, .slice (some ⟨g0, 0, none⟩) cs.length cc, .int .i64 p.line, .int .i64 p.col] 29)) 58 #[.string c.meter, .bool c.win.has, .int .i64 c.win.from_.1, .int .i64 c.win.from_.2.1, .int .i64 c.win.from_.2.2, .int .i64 c.win.to_.1, .int .i64 c.win.to_.2.1, .int .i64 c.win.to_.2.2, .int .i64 c.allow, .int .i64 c.block, .int .i64 c.kind, .slice At c.tiers.length ct, .int .i64 c.mode, .slice Aa c.adjs.length ca, .int .i64 c.line, .int .i64 c.col]
  rw [World.size_alloc] at kc0
  have kp1 := kp0.alloc (.cells #[.string c.meter, .bool c.win.has, .int .i64 c.win.from_.1, .int .i64 c.win.from_.2.1, .int .i64 c.win.from_.2.2, .int .i64 c.win.to_.1, .int .i64 c.win.to_.2.1, .int .i64 c.win.to_.2.2, .int .i64 c.allow, .int .i64 c.block, .int .i64 c.kind, .slice At c.tiers.length ct, .int .i64 c.mode, .slice Aa c.adjs.length ca, .int .i64 c.line, .int .i64 c.col] 58)
  have b1 := bl_alloc b0 (.cells #[.string c.meter, .bool c.win.has, .int .i64 c.win.from_.1, .int .i64 c.win.from_.2.1, .int .i64 c.win.from_.2.2, .int .i64 c.win.to_.1, .int .i64 c.win.to_.2.1, .int .i64 c.win.to_.2.2, .int .i64 c.allow, .int .i64 c.block, .int .i64 c.kind, .slice At c.tiers.length ct, .int .i64 c.mode, .slice Aa c.adjs.length ca, .int .i64 c.line, .int .i64 c.col] 58)
  have hR1 := hR0.below (bl_alloc (bl_refl _) (.cells #[.string c.meter, .bool c.win.has, .int .i64 c.win.from_.1, .int .i64 c.win.from_.2.1, .int .i64 c.win.from_.2.2, .int .i64 c.win.to_.1, .int .i64 c.win.to_.2.1, .int .i64 c.win.to_.2.2, .int .i64 c.allow, .int .i64 c.block, .int .i64 c.kind, .slice At c.tiers.length ct, .int .i64 c.mode, .slice Aa c.adjs.length ca, .int .i64 c.line, .int .i64 c.col] 58))
  obtain ⟨hT1, hA1⟩ := hR1.ne _ hmem
  have hM := fun W (h : Below ((w.alloc (.cells #[.string p.name, .string p.cur, .int .i64 p.from_.1, .int .i64 p.from_.2.1, .int .i64 p.from_.2.2, .int .i64 p.to_.1, .int .i64 p.to_.2.1, .int .i64 p.to_.2.2, .slice Am p.mets.length cm, .slice Af p.fees.length cf, .slice (some ⟨g0, 0, none⟩) cs.length cc, .int .i64 p.line, .int .i64 p.col] 29)).alloc (.cells #[.string c.meter, .bool c.win.has, .int .i64 c.win.from_.1, .int .i64 c.win.from_.2.1, .int .i64 c.win.from_.2.2, .int .i64 c.win.to_.1, .int .i64 c.win.to_.2.1, .int .i64 c.win.to_.2.2, .int .i64 c.allow, .int .i64 c.block, .int .i64 c.kind, .slice At c.tiers.length ct, .int .i64 c.mode, .slice Aa c.adjs.length ca, .int .i64 c.line, .int .i64 c.col] 58)).heap.size ((w.alloc (.cells #[.string p.name, .string p.cur, .int .i64 p.from_.1, .int .i64 p.from_.2.1, .int .i64 p.from_.2.2, .int .i64 p.to_.1, .int .i64 p.to_.2.1, .int .i64 p.to_.2.2, .slice Am p.mets.length cm, .slice Af p.fees.length cf, .slice (some ⟨g0, 0, none⟩) cs.length cc, .int .i64 p.line, .int .i64 p.col] 29)).alloc (.cells #[.string c.meter, .bool c.win.has, .int .i64 c.win.from_.1, .int .i64 c.win.from_.2.1, .int .i64 c.win.from_.2.2, .int .i64 c.win.to_.1, .int .i64 c.win.to_.2.1, .int .i64 c.win.to_.2.2, .int .i64 c.allow, .int .i64 c.block, .int .i64 c.kind, .slice At c.tiers.length ct, .int .i64 c.mode, .slice Aa c.adjs.length ca, .int .i64 c.line, .int .i64 c.col] 58)) W) => treeMeter_any p Am Af (some ⟨g0, 0, none⟩) cm cf cc cs c.meter W (hR1.below h).mo
  have hW := fun W => cwindow_any p Am Af (some ⟨g0, 0, none⟩) cm cf cc cs c.win W hf ht hx
  have hS := fun W (h : Below ((w.alloc (.cells #[.string p.name, .string p.cur, .int .i64 p.from_.1, .int .i64 p.from_.2.1, .int .i64 p.from_.2.2, .int .i64 p.to_.1, .int .i64 p.to_.2.1, .int .i64 p.to_.2.2, .slice Am p.mets.length cm, .slice Af p.fees.length cf, .slice (some ⟨g0, 0, none⟩) cs.length cc, .int .i64 p.line, .int .i64 p.col] 29)).alloc (.cells #[.string c.meter, .bool c.win.has, .int .i64 c.win.from_.1, .int .i64 c.win.from_.2.1, .int .i64 c.win.from_.2.2, .int .i64 c.win.to_.1, .int .i64 c.win.to_.2.1, .int .i64 c.win.to_.2.2, .int .i64 c.allow, .int .i64 c.block, .int .i64 c.kind, .slice At c.tiers.length ct, .int .i64 c.mode, .slice Aa c.adjs.length ca, .int .i64 c.line, .int .i64 c.col] 58)).heap.size ((w.alloc (.cells #[.string p.name, .string p.cur, .int .i64 p.from_.1, .int .i64 p.from_.2.1, .int .i64 p.from_.2.2, .int .i64 p.to_.1, .int .i64 p.to_.2.1, .int .i64 p.to_.2.2, .slice Am p.mets.length cm, .slice Af p.fees.length cf, .slice (some ⟨g0, 0, none⟩) cs.length cc, .int .i64 p.line, .int .i64 p.col] 29)).alloc (.cells #[.string c.meter, .bool c.win.has, .int .i64 c.win.from_.1, .int .i64 c.win.from_.2.1, .int .i64 c.win.from_.2.2, .int .i64 c.win.to_.1, .int .i64 c.win.to_.2.1, .int .i64 c.win.to_.2.2, .int .i64 c.allow, .int .i64 c.block, .int .i64 c.kind, .slice At c.tiers.length ct, .int .i64 c.mode, .slice Aa c.adjs.length ca, .int .i64 c.line, .int .i64 c.col] 58)) W) => rises_any c.tiers At ct W ((hR1.below h).ne _ hmem).1 hr
  unfold chgE
  obtain ⟨i, hi⟩ : ∃ i, metI c.meter p.mets = i := ⟨_, rfl⟩
  obtain ⟨wb, hwb⟩ : ∃ i, winB p c.win = i := ⟨_, rfl⟩
  obtain ⟨rb, hrb⟩ : ∃ i, risesB c.tiers = i := ⟨_, rfl⟩
  rw [hi] at hM
  rw [hwb] at hW
  rw [hrb] at hS
  rw [hi, hwb, hrb]
  obtain ⟨E, hE⟩ : ∃ E : Int, (if 8 ≤ k then 6 else if i < 0 then 5 else if wb = false then 5 else if c.block < 1 then 5 else if 8 < c.tiers.length then 6 else if rb = false then 5 else if 6 < c.adjs.length then 6 else 0) = E := ⟨_, rfl⟩
  rw [hE]
  replace hE := Lib.hid hE
  replace hM := Lib.hid hM
  replace hW := Lib.hid hW
  replace hS := Lib.hid hS
  clear hi hwb hrb hR hR0 hT hA hco hT1 hA1 hR1
  go_enter Try.func16, Try.ntmps16
  go_upto_region 2 with fail
  generalize hu : (w.alloc (.cells #[.string p.name, .string p.cur, .int .i64 p.from_.1, .int .i64 p.from_.2.1, .int .i64 p.from_.2.2, .int .i64 p.to_.1, .int .i64 p.to_.2.1, .int .i64 p.to_.2.2, .slice Am p.mets.length cm, .slice Af p.fees.length cf, .slice (some ⟨g0, 0, none⟩) cs.length cc, .int .i64 p.line, .int .i64 p.col] 29)).alloc (.cells #[.string c.meter, .bool c.win.has, .int .i64 c.win.from_.1, .int .i64 c.win.from_.2.1, .int .i64 c.win.from_.2.2, .int .i64 c.win.to_.1, .int .i64 c.win.to_.2.1, .int .i64 c.win.to_.2.2, .int .i64 c.allow, .int .i64 c.block, .int .i64 c.kind, .slice At c.tiers.length ct, .int .i64 c.mode, .slice Aa c.adjs.length ca, .int .i64 c.line, .int .i64 c.col] 58) = u at *
  obtain ⟨a0, a1, a2, a3, a4, a5, a6, a7, a8, a9, a10, a11, a12, _, _, _, _, _, _, _, _, _, _, _, _, _⟩ := kp1.c13
  obtain ⟨e0, e1, e2, e3, e4, e5, e6, e7, e8, e9, e10, e11, e12, e13, e14, e15, _, _, _, _, _, _, _, _, _, _, _, _, _, _, _, _⟩ := kc0.c16
  by_cases h8 : 8 ≤ k
  · obtain rfl : E = 6 := by rw [← hE.out, if_pos (by omega)]
    go_wp2_with fail
    go_ret
    exact ⟨rfl, b1⟩
  · go_wp2_with fail
    refine (hM.out _ (bl_refl _)).mono ?_
    rintro e w1 ⟨rfl, hb1⟩
    have kp2 := kp1.call hb1
    have kc2 := kc0.call hb1
    have bb1 := bl_call b1 hb1
    clear a0 a1 a2 a3 a4 a5 a6 a7 a8 a9 a10 a11 a12 e0 e1 e2 e3 e4 e5 e6 e7 e8 e9 e10 e11 e12 e13 e14 e15
    obtain ⟨a0, a1, a2, a3, a4, a5, a6, a7, a8, a9, a10, a11, a12, _, _, _, _, _, _, _, _, _, _, _, _, _⟩ := kp2.c13
    obtain ⟨e0, e1, e2, e3, e4, e5, e6, e7, e8, e9, e10, e11, e12, e13, e14, e15, _, _, _, _, _, _, _, _, _, _, _, _, _, _, _, _⟩ := kc2.c16
    by_cases hi : i < 0
    · obtain rfl : E = 5 := by rw [← hE.out, if_neg (by omega), if_pos (by omega)]
      go_wp2_with fail
      go_ret
      exact ⟨rfl, bb1⟩
    · go_wp2_with fail
      refine (hW.out _).mono ?_
      rintro e w2 ⟨rfl, hb2⟩
      have kc3 := kc2.call hb2
      have bb2 := bl_call bb1 hb2
      clear a0 a1 a2 a3 a4 a5 a6 a7 a8 a9 a10 a11 a12 e0 e1 e2 e3 e4 e5 e6 e7 e8 e9 e10 e11 e12 e13 e14 e15
      obtain ⟨e0, e1, e2, e3, e4, e5, e6, e7, e8, e9, e10, e11, e12, e13, e14, e15, _, _, _, _, _, _, _, _, _, _, _, _, _, _, _, _⟩ := kc3.c16
      cases wb with
      | false =>
        obtain rfl : E = 5 := by rw [← hE.out, if_neg (by omega), if_neg (by omega), if_pos rfl]
        go_wp2_with fail
        go_ret
        exact ⟨rfl, bb2⟩
      | true =>
        by_cases hbl : c.block < 1
        · obtain rfl : E = 5 := by rw [← hE.out, if_neg (by omega), if_neg (by omega), if_neg (by decide), if_pos (by omega)]
          go_wp2_with fail
          go_ret
          exact ⟨rfl, bb2⟩
        · by_cases htl : 8 < c.tiers.length
          · obtain rfl : E = 6 := by rw [← hE.out, if_neg (by omega), if_neg (by omega), if_neg (by decide), if_neg (by omega), if_pos (by omega)]
            go_wp2_with fail
            go_ret
            exact ⟨rfl, bb2⟩
          · go_wp2_with fail
            refine (hS.out _ (bl_call hb1 hb2)).mono ?_
            rintro e w3 ⟨rfl, hb3⟩
            have kc4 := kc3.call hb3
            have bb3 := bl_call bb2 hb3
            clear e0 e1 e2 e3 e4 e5 e6 e7 e8 e9 e10 e11 e12 e13 e14 e15
            obtain ⟨e0, e1, e2, e3, e4, e5, e6, e7, e8, e9, e10, e11, e12, e13, e14, e15, _, _, _, _, _, _, _, _, _, _, _, _, _, _, _, _⟩ := kc4.c16
            cases rb with
            | false =>
              obtain rfl : E = 5 := by rw [← hE.out, if_neg (by omega), if_neg (by omega), if_neg (by decide), if_neg (by omega), if_neg (by omega), if_pos rfl]
              go_wp2_with fail
              go_ret
              exact ⟨rfl, bb3⟩
            | true =>
              by_cases hal : 6 < c.adjs.length
              · obtain rfl : E = 6 := by rw [← hE.out, if_neg (by omega), if_neg (by omega), if_neg (by decide), if_neg (by omega), if_neg (by omega), if_neg (by decide), if_pos (by omega)]
                go_wp2_with fail
                go_ret
                exact ⟨rfl, bb3⟩
              · obtain rfl : E = 0 := by rw [← hE.out, if_neg (by omega), if_neg (by omega), if_neg (by decide), if_neg (by omega), if_neg (by omega), if_neg (by decide), if_neg (by omega)]
                go_wp2_with fail
                go_ret
                exact ⟨rfl, bb3⟩
end Go.Proofs.Ytcgkfgklggjmaaa.Par
end
section
namespace Go.Proofs.Ytcgkfgklggjmaaa.Par
set_option linter.unusedVariables false
set_option linter.unusedSimpArgs false
open Go.RowKit
theorem div_parts (hi lo U u1 u0 q1 u2 q0 : Int) (h0 : 0 ≤ hi) (h1 : hi < 100000) (l0 : 0 ≤ lo) (l1 : lo < 18446744073709551616) (hU : U = hi * 140737488355328 + lo / 131072) (hu1 : u1 = lo * 140737488355328 % 18446744073709551616 / 4294967296) (hu0 : u0 = lo * 140737488355328 % 18446744073709551616 % 4294967296)
    (hq1 : q1 = U / 3276800000) (hu2 : u2 = (U - q1 * 3276800000) * 4294967296 + u1) (hq0 : q0 = u2 / 3276800000) :
    0 ≤ U ∧ U < 14073748835532800000 ∧ 0 ≤ u1 ∧ u1 < 4294967296 ∧ 0 ≤ u0 ∧ u0 < 4294967296 ∧ 0 ≤ q1 ∧ q1 < 4294967296 ∧ 0 ≤ u2 ∧ u2 < 14073748835532800000 ∧ 0 ≤ q0 ∧ q0 < 4294967296 ∧
    q1 * 4294967296 + q0 = (hi * 18446744073709551616 + lo) / 100000 ∧ ((u2 - q0 * 3276800000) * 4294967296 + u0) / 140737488355328 = (hi * 18446744073709551616 + lo) % 100000 ∧ U - q1 * 3276800000 < 3276800000 ∧ 0 ≤ U - q1 * 3276800000 ∧ 0 ≤ u2 - q0 * 3276800000 ∧ u2 - q0 * 3276800000 < 3276800000 := by
  have e1 : lo * 140737488355328 % 18446744073709551616 = (lo % 131072) * 140737488355328 := by omega
  rw [e1] at hu1 hu0
  have e2 := Int.mul_ediv_add_emod lo 131072
  have e3 := Int.emod_nonneg lo (show (131072 : Int) ≠ 0 by decide)
  have e4 := Int.emod_lt_of_pos lo (show (0 : Int) < 131072 by decide)
  generalize lo / 131072 = lh at *
  generalize lo % 131072 = ll at *
  subst e2
  have e5 : ll * 140737488355328 / 4294967296 = ll * 32768 := by omega
  have e6 : ll * 140737488355328 % 4294967296 = 0 := by omega
  rw [e5] at hu1
  rw [e6] at hu0
  subst hu1 hu0
  have e7 := Int.mul_ediv_add_emod U 3276800000
  have e8 := Int.emod_nonneg U (show (3276800000 : Int) ≠ 0 by decide)
  have e9 := Int.emod_lt_of_pos U (show (0 : Int) < 3276800000 by decide)
  rw [← hq1] at e7
  generalize U % 3276800000 = r1 at *
  have f7 := Int.mul_ediv_add_emod u2 3276800000
  have f8 := Int.emod_nonneg u2 (show (3276800000 : Int) ≠ 0 by decide)
  have f9 := Int.emod_lt_of_pos u2 (show (0 : Int) < 3276800000 by decide)
  rw [← hq0] at f7
  generalize u2 % 3276800000 = r0 at *
  clear hq1 hq0
  have g1 : U - q1 * 3276800000 = r1 := by omega
  have g2 : u2 - q0 * 3276800000 = r0 := by omega
  rw [g1] at hu2
  -- 3276800000 is 100000 times 32768
  have hr : ∃ t, r0 = t * 32768 := ⟨(r1 * 131072 + ll) - q0 * 100000, by omega⟩
  obtain ⟨t, rfl⟩ := hr
  have hN : (hi * 18446744073709551616 + (131072 * lh + ll)) = 100000 * (q1 * 4294967296 + q0) + t := by omega
  have t0 : 0 ≤ t := by omega
  have t1 : t < 100000 := by omega
  rw [g1, g2, hN]
  have d1 : (100000 * (q1 * 4294967296 + q0) + t) / 100000 = q1 * 4294967296 + q0 := by omega
  have d2 : (100000 * (q1 * 4294967296 + q0) + t) % 100000 = t := by omega
  have d3 : (t * 32768 * 4294967296 + 0) / 140737488355328 = t := by omega
  rw [d1, d2, d3]
  refine ⟨?_, ?_, ?_, ?_, ?_, ?_, ?_, ?_, ?_, ?_, ?_, ?_, rfl, rfl, ?_, ?_, ?_, ?_⟩ <;> omega
theorem or_parts (hi lo : Int) (h0 : 0 ≤ hi) (h1 : hi < 100000) (l0 : 0 ≤ lo) (l1 : lo < 18446744073709551616) :
    bits .or .u64 (hi * 140737488355328) (lo / 131072) = hi * 140737488355328 + lo / 131072 := by
  obtain ⟨a, rfl⟩ := Int.eq_ofNat_of_zero_le h0
  obtain ⟨b, rfl⟩ := Int.eq_ofNat_of_zero_le l0
  have e1 : ((a : Int) * 140737488355328) = ((a * 140737488355328 : Nat) : Int) := by omega
  have e2 : ((b : Int) / 131072) = ((b / 131072 : Nat) : Int) := by omega
  rw [e1, e2, bits_or_u64_nat _ _ (by omega) (by omega)]
  have h := Nat.shiftLeft_add_eq_or_of_lt (b := b / 131072) (i := 47) (by omega) a
  rw [Nat.shiftLeft_eq] at h
  rw [show a * 140737488355328 = a * 2 ^ 47 by rfl, ← h]
  omega
theorem len_100000 : (64 - (Lib.bitLen (100000 : Int).toNat : Int)) = 47 := by decide
set_option maxHeartbeats 16000000 in
set_option maxRecDepth 100000 in
theorem div64_k (hi lo : Int) (w : World) (h0 : 0 < hi) (h1 : hi < 100000) (l0 : 0 ≤ lo) (l1 : lo < 18446744073709551616) :
    Calls Try.prog 64 #[.int .u64 hi, .int .u64 lo, .int .u64 100000] w fun e w' => e = .returned (.tuple #[.int .u64 ((hi * 18446744073709551616 + lo) / 100000), .int .u64 ((hi * 18446744073709551616 + lo) % 100000)]) ∧ w = w' := by
  obtain ⟨U, hU⟩ : ∃ U, U = hi * 140737488355328 + lo / 131072 := ⟨_, rfl⟩
  obtain ⟨u1, hu1⟩ : ∃ U, U = lo * 140737488355328 % 18446744073709551616 / 4294967296 := ⟨_, rfl⟩
  obtain ⟨u0, hu0⟩ : ∃ U, U = lo * 140737488355328 % 18446744073709551616 % 4294967296 := ⟨_, rfl⟩
  obtain ⟨q1, hq1⟩ : ∃ q, q = U / 3276800000 := ⟨_, rfl⟩
  obtain ⟨u2, hu2⟩ : ∃ q, q = (U - q1 * 3276800000) * 4294967296 + u1 := ⟨_, rfl⟩
  obtain ⟨q0, hq0⟩ : ∃ q, q = u2 / 3276800000 := ⟨_, rfl⟩
  obtain ⟨b1, b2, b3, b4, b5, b6, b7, b8, b9, b10, b11, b12, hq, hr, b13, b14, b15, b16⟩ := div_parts hi lo U u1 u0 q1 u2 q0 (by omega) h1 l0 l1 hU hu1 hu0 hq1 hu2 hq0
  rw [← hq, ← hr]
  have hor := or_parts hi lo (by omega) h1 l0 l1
  rw [← hU] at hor
  have hw0 : IntKind.u64.wrap (hi * 140737488355328) = hi * 140737488355328 := by rw [IntKind.wrap_u64]; omega
  obtain ⟨V, hV⟩ : ∃ V, IntKind.u64.wrap (lo * 140737488355328) = V := ⟨_, rfl⟩
  have hV' : V = lo * 140737488355328 % 18446744073709551616 := by rw [← hV, IntKind.wrap_u64]
  rw [← hV'] at hu1 hu0
  have V0 : 0 ≤ V ∧ V < 18446744073709551616 := by omega
  obtain ⟨v, rfl⟩ := Int.eq_ofNat_of_zero_le V0.1
  have hand0 : bits .and .u64 (v : Int) 4294967295 = u0 := by
    have h := bits_and_u64_nat v 4294967295 (by omega) (by omega)
    have e : v &&& 4294967295 = v % 4294967296 := Nat.and_two_pow_sub_one_eq_mod v 32
    rw [e] at h
    rw [hu0]
    exact h.trans (by omega)
  have hand1 : bits .and .u64 14073748835532800000 4294967295 = 0 := by decide
  have hu1' : (v : Int) / 4294967296 = u1 := hu1.symm
  have hq1' : U / 3276800000 = q1 := hq1.symm
  have hm1 : IntKind.u64.wrap (q1 * 3276800000) = q1 * 3276800000 := by rw [IntKind.wrap_u64]; omega
  obtain ⟨R1, hR1⟩ : ∃ R, U - q1 * 3276800000 = R := ⟨_, rfl⟩
  have hs1 : IntKind.u64.wrap (U - q1 * 3276800000) = R1 := by rw [IntKind.wrap_u64]; omega
  have hz1 : IntKind.u64.wrap (q1 * 0) = 0 := by rw [Int.mul_zero]; decide
  have hz1' : IntKind.u64.wrap 0 = 0 := by decide
  have ht1 : IntKind.u64.wrap (4294967296 * R1) = 4294967296 * R1 := by rw [IntKind.wrap_u64]; omega
  have ht1' : IntKind.u64.wrap (4294967296 * R1 + u1) = 4294967296 * R1 + u1 := by rw [IntKind.wrap_u64]; omega
  obtain ⟨A1, hA1⟩ : ∃ A, IntKind.u64.wrap (U * 4294967296) = A := ⟨_, rfl⟩
  obtain ⟨A2, hA2⟩ : ∃ A, IntKind.u64.wrap (A1 + u1) = A := ⟨_, rfl⟩
  obtain ⟨A3, hA3⟩ : ∃ A, IntKind.u64.wrap (q1 * 14073748835532800000) = A := ⟨_, rfl⟩
  have hA4 : IntKind.u64.wrap (A2 - A3) = u2 := by
    rw [← hA2, ← hA3, ← hA1]
    simp only [IntKind.wrap_u64]
    omega
  have hq0' : u2 / 3276800000 = q0 := hq0.symm
  have hm0 : IntKind.u64.wrap (q0 * 3276800000) = q0 * 3276800000 := by rw [IntKind.wrap_u64]; omega
  obtain ⟨R0, hR0⟩ : ∃ R, u2 - q0 * 3276800000 = R := ⟨_, rfl⟩
  have hs0 : IntKind.u64.wrap (u2 - q0 * 3276800000) = R0 := by rw [IntKind.wrap_u64]; omega
  have hz0 : IntKind.u64.wrap (q0 * 0) = 0 := by rw [Int.mul_zero]; decide
  have ht0 : IntKind.u64.wrap (4294967296 * R0) = 4294967296 * R0 := by rw [IntKind.wrap_u64]; omega
  have ht0' : IntKind.u64.wrap (4294967296 * R0 + u0) = 4294967296 * R0 + u0 := by rw [IntKind.wrap_u64]; omega
  obtain ⟨Q, hQ⟩ : ∃ A, q1 * 4294967296 + q0 = A := ⟨_, rfl⟩
  have hQ1 : IntKind.u64.wrap (q1 * 4294967296) = q1 * 4294967296 := by rw [IntKind.wrap_u64]; omega
  have hQ2 : IntKind.u64.wrap (q1 * 4294967296 + q0) = Q := by rw [IntKind.wrap_u64]; omega
  obtain ⟨C1, hC1⟩ : ∃ A, IntKind.u64.wrap (u2 * 4294967296) = A := ⟨_, rfl⟩
  obtain ⟨C2, hC2⟩ : ∃ A, IntKind.u64.wrap (C1 + u0) = A := ⟨_, rfl⟩
  obtain ⟨C3, hC3⟩ : ∃ A, IntKind.u64.wrap (q0 * 14073748835532800000) = A := ⟨_, rfl⟩
  obtain ⟨C4, hC4⟩ : ∃ A, R0 * 4294967296 + u0 = A := ⟨_, rfl⟩
  have hC4' : IntKind.u64.wrap (C2 - C3) = C4 := by
    rw [← hC2, ← hC3, ← hC1]
    simp only [IntKind.wrap_u64]
    omega
  obtain ⟨RR, hRR⟩ : ∃ A, C4 / 140737488355328 = A := ⟨_, rfl⟩
  rw [hR0, hC4, hRR, hQ]
  have r10 : 0 ≤ R1 ∧ R1 < 3276800000 := by omega
  have r00 : 0 ≤ R0 ∧ R0 < 3276800000 := by omega
  obtain ⟨r10, r11⟩ := r10
  obtain ⟨r00, r01⟩ := r00
  have n1 : ¬ (4294967296 * R1 + u1 < 0) := by omega
  have n0 : ¬ (4294967296 * R0 + u0 < 0) := by omega
  clear hq hr hU hu1 hu0 hq1 hu2 hq0 hV' hR1 hR0 hQ hC4 b13 b14 b15 b16
  have hLZ := fun W => Try.bits_LeadingZeros64 100000 W (by decide) (by decide)
  rw [len_100000] at hLZ
  go_enter Try.func64, Try.ntmps64
  go_wp2_with fail
  refine (hLZ _).mono ?_
  rintro e w1 ⟨rfl, rfl⟩
  go_wp2_with fail
  go_loop [15, 16] (fun x y => x = .int .u64 q1 ∧ y = .int .u64 R1) (fun _ _ => 0)
  case atStart => constructor <;> simp only [hq1', hm1, hs1]
  case round =>
    obtain ⟨rfl, rfl⟩ := hrel
    go_wp2_with fail
    go_loop [18, 16] (fun x y => x = .int .u64 q0 ∧ y = .int .u64 R0) (fun _ _ => 0)
    case atStart => constructor <;> simp only [hA1, hA2, hA3, hA4, hq0', hm0, hs0]
    case round =>
      obtain ⟨rfl, rfl⟩ := hrel
      go_wp2_with fail
      go_ret2
      exact ⟨by simp only [hQ1, hQ2, hC1, hC2, hC3, hC4', hRR]; rfl, rfl⟩
set_option maxHeartbeats 16000000 in
set_option maxRecDepth 100000 in
theorem div64_0 (lo y : Int) (w : World) (l0 : 0 ≤ lo) (l1 : lo < 18446744073709551616) (h0 : 0 < y) (h1 : y < 18446744073709551616) :
    Calls Try.prog 64 #[.int .u64 0, .int .u64 lo, .int .u64 y] w fun e w' => e = .returned (.tuple #[.int .u64 (lo / y), .int .u64 (lo % y)]) ∧ Below w.heap.size w w' := by
  have hne : (y == 0) = false := by rw [beq_eq_false_iff_ne]; omega
  have hny : y ≠ 0 := by omega
  go_enter Try.func64, Try.ntmps64
  go_wp2_with fail
  go_quiet (fail)
  go_wp2_with fail
  go_ret2
  exact ⟨rfl, bl_drewN (bl_refl w) _⟩
end Go.Proofs.Ytcgkfgklggjmaaa.Par
end
section
namespace Go.Proofs.Ytcgkfgklggjmaaa.Par
set_option linter.unusedVariables false
set_option linter.unusedSimpArgs false
open Go.RowKit
theorem cdiv_eq {P c : Int} (hc : 0 < c) : cdiv P c = if P % c = 0 then P / c else P / c + 1 := by
  have h1 := Int.mul_ediv_add_emod P c
  have h2 := Int.emod_nonneg P (show c ≠ 0 by omega)
  have h3 := Int.emod_lt_of_pos P hc
  unfold cdiv
  split
  · exact ((Int.ediv_emod_unique hc).2 ⟨by omega, by omega, by omega⟩ : _ ∧ (P + c - 1) % c = c - 1).1
  · refine ((Int.ediv_emod_unique hc).2 ⟨?_, by omega, by omega⟩ : _ ∧ (P + c - 1) % c = P % c - 1).1
    rw [Int.mul_add]
    omega
theorem upB_eq {P c : Int} (hc : 0 < c) : upB P c = if P % c = 0 then (if P / c < 9223372036854775808 then (P / c, true) else (0, false)) else (if P / c + 1 < 9223372036854775808 then (P / c + 1, true) else (0, false)) := by
  unfold upB
  rw [cdiv_eq hc]
  split <;> rfl
set_option maxHeartbeats 16000000 in
set_option maxRecDepth 100000 in
theorem rgood_any (m : Int) (w : World) (h0 : 0 ≤ m) (h3 : m ≤ 3) : Calls Try.prog 61 #[.int .i64 m] w fun e w' => e = .returned (.bool true) ∧ w = w' := by
  go_enter Try.func61, Try.ntmps61
  go_wp2_with fail
  go_ret
  exact ⟨rfl, rfl⟩
set_option maxHeartbeats 16000000 in
set_option maxRecDepth 100000 in
theorem rabs_any (a : Int) (w : World) (h0 : 0 ≤ a) (h1 : a < 9223372036854775808) : Calls Try.prog 63 #[.int .i64 a] w fun e w' => e = .returned (.int .u64 a) ∧ w = w' := by
  have hu : IntKind.u64.wrap a = a := by rw [IntKind.wrap_u64]; omega
  go_enter Try.func63, Try.ntmps63
  go_wp2_with fail
  go_ret
  exact ⟨rfl, rfl⟩
set_option maxHeartbeats 16000000 in
set_option maxRecDepth 100000 in
theorem rsigned_yes (n : Int) (w : World) (h0 : 0 ≤ n) (h1 : n < 9223372036854775808) : Calls Try.prog 66 #[.bool false, .int .u64 n] w fun e w' => e = .returned (.tuple #[.int .i64 n, .bool true]) ∧ w = w' := by
  have hu : IntKind.i64.wrap n = n := by rw [IntKind.wrap_i64]; omega
  go_enter Try.func66, Try.ntmps66
  go_wp2_with fail
  go_ret2
  exact ⟨rfl, rfl⟩
set_option maxHeartbeats 16000000 in
set_option maxRecDepth 100000 in
theorem rsigned_no (n : Int) (w : World) (h1 : 9223372036854775808 ≤ n) : Calls Try.prog 66 #[.bool false, .int .u64 n] w fun e w' => e = .returned (.tuple #[.int .i64 0, .bool false]) ∧ w = w' := by
  go_enter Try.func66, Try.ntmps66
  go_wp2_with fail
  go_ret2
  exact ⟨rfl, rfl⟩
set_option maxHeartbeats 16000000 in
set_option maxRecDepth 100000 in
theorem raway_zero (m : Int) (q d : Int) (w : World) : Calls Try.prog 65 #[.int .i64 m, .bool false, .int .u64 q, .int .u64 0, .int .u64 d] w fun e w' => e = .returned (.bool false) ∧ w = w' := by
  go_enter Try.func65, Try.ntmps65
  go_wp2_with fail
  go_ret
  exact ⟨rfl, rfl⟩
set_option maxHeartbeats 16000000 in
set_option maxRecDepth 100000 in
theorem raway_ceil (q r d : Int) (w : World) (h : r ≠ 0) : Calls Try.prog 65 #[.int .i64 1, .bool false, .int .u64 q, .int .u64 r, .int .u64 d] w fun e w' => e = .returned (.bool true) ∧ w = w' := by
  have hr : (r == 0) = false := by rw [beq_eq_false_iff_ne]; exact h
  go_enter Try.func65, Try.ntmps65
  go_wp2_with fail
  go_ret
  exact ⟨rfl, rfl⟩
/-- a quotient by what there is -/
theorem div64_any (hi lo y : Int) (w : World) (l0 : 0 ≤ lo) (l1 : lo < 18446744073709551616) (h0 : 0 ≤ hi) (h1 : hi < y) (hy : y < 18446744073709551616) (h : hi = 0 ∨ y = 100000) :
    Calls Try.prog 64 #[.int .u64 hi, .int .u64 lo, .int .u64 y] w fun e w' => e = .returned (.tuple #[.int .u64 ((hi * 18446744073709551616 + lo) / y), .int .u64 ((hi * 18446744073709551616 + lo) % y)]) ∧ Below w.heap.size w w' := by
  by_cases hz : hi = 0
  · subst hz
    rw [Int.zero_mul, Int.zero_add]
    exact div64_0 lo y w l0 l1 (by omega) hy
  · obtain rfl : y = 100000 := by omega
    exact (div64_k hi lo w (by omega) h1 l0 l1).mono fun e w' ⟨he, hw⟩ => ⟨he, hw ▸ bl_refl w⟩
theorem mul64_any (a b : Int) (a0 : 0 ≤ a) (a1 : a < 9223372036854775808) (b0 : 0 ≤ b) (b1 : b < 9223372036854775808) :
    ∃ hi lo : Int, hi * 18446744073709551616 + lo = a * b ∧ 0 ≤ a * b ∧ (0 ≤ hi ∧ hi < 9223372036854775808 ∧ 0 ≤ lo ∧ lo < 18446744073709551616) ∧ ∀ W, Calls Try.prog 62 #[.int .u64 a, .int .u64 b] W fun e w' => e = .returned (.tuple #[.int .u64 hi, .int .u64 lo]) ∧ w' = W := by
  obtain ⟨x, rfl⟩ := Int.eq_ofNat_of_zero_le a0
  obtain ⟨y, rfl⟩ := Int.eq_ofNat_of_zero_le b0
  have hM := fun W => Try.bits_Mul64 x y (by omega) (by omega) W
  have hP : ((x : Int) * (y : Int)) = ((x * y : Nat) : Int) := (Int.natCast_mul x y).symm
  rw [hP]
  have hbd : x * y < 9223372036854775808 * 18446744073709551616 := by
    have h1 : x * y ≤ 9223372036854775808 * y := Nat.mul_le_mul_right _ (by omega)
    have h2 : 9223372036854775808 * y < 9223372036854775808 * 18446744073709551616 := Nat.mul_lt_mul_of_pos_left (by omega) (by omega)
    omega
  generalize x * y = P at *
  exact ⟨_, _, by omega, by omega, by omega, hM⟩
set_option maxHeartbeats 16000000 in
set_option maxRecDepth 100000 in
theorem rmuldiv_any (a b c : Int) (w : World) (a0 : 0 ≤ a) (a1 : a < 9223372036854775808) (b0 : 0 ≤ b) (b1 : b < 9223372036854775808) (c0 : 0 < c) (c1 : c < 9223372036854775808) (h : a * b < 18446744073709551616 ∨ c = 100000) :
    Calls Try.prog 47 #[.int .i64 a, .int .i64 b, .int .i64 c, .int .i64 1] w fun e w' => e = .returned (.tuple #[.int .i64 (upB (a * b) c).1, .bool (upB (a * b) c).2]) ∧ Below w.heap.size w w' := by
  have hA := fun W => rabs_any a W a0 a1
  have hB := fun W => rabs_any b W b0 b1
  obtain ⟨hi, lo, e0, hP0, e1, hM⟩ := mul64_any a b a0 a1 b0 b1
  have hna : decide (a < 0) = false := decide_eq_false (by omega)
  have hnb : decide (b < 0) = false := decide_eq_false (by omega)
  generalize a * b = P at *
  have e2 : hi = 0 ∨ c = 100000 := by omega
  clear h
  obtain ⟨e11, e12, e13, e14⟩ := e1
  have hdiv := fun W (hc : hi < c) => div64_any hi lo c W e13 e14 e11 hc (by omega) e2
  rw [e0] at hdiv
  rw [upB_eq c0]
  have hq1 := Int.mul_ediv_add_emod P c
  have hq2 := Int.emod_nonneg P (show c ≠ 0 by omega)
  have hq3 := Int.emod_lt_of_pos P c0
  have hq4 : hi < c → 0 ≤ P / c ∧ P / c < 18446744073709551616 := fun hc => ⟨Int.ediv_nonneg (by omega) (by omega), Int.ediv_lt_of_lt_mul c0 (by
    have : (hi + 1) * 18446744073709551616 ≤ c * 18446744073709551616 := Int.mul_le_mul_of_nonneg_right (by omega) (by decide)
    omega)⟩
  have hq5 : c ≤ hi → 18446744073709551616 ≤ P / c := fun hc => Int.le_ediv_of_mul_le c0 (by
    have : c * 18446744073709551616 ≤ hi * 18446744073709551616 := Int.mul_le_mul_of_nonneg_right hc (by decide)
    rw [Int.mul_comm]
    omega)
  generalize P / c = q at *
  generalize P % c = r at *
  have hwc : IntKind.u64.wrap c = c := by rw [IntKind.wrap_u64]; omega
  clear e0 hq1 e2
  have hG := fun W => rgood_any 1 W (by decide) (by decide)
  have hS1 := fun n W (h0 : 0 ≤ n) (h1 : n < 9223372036854775808) => rsigned_yes n W h0 h1
  have hS2 := fun n W (h1 : 9223372036854775808 ≤ n) => rsigned_no n W h1
  replace hG := Lib.hid hG
  replace hA := Lib.hid hA
  replace hB := Lib.hid hB
  replace hM := Lib.hid hM
  by_cases hc : c ≤ hi
  · have hbig := hq5 hc
    have er : (if r = 0 then (if q < 9223372036854775808 then (q, true) else ((0 : Int), false)) else (if q + 1 < 9223372036854775808 then (q + 1, true) else (0, false))) = (0, false) := by
      split
      · rw [if_neg (by omega)]
      · rw [if_neg (by omega)]
    rw [er]
    clear hdiv hq4 hq5 er hbig hS1 hS2
    go_enter Try.func47, Try.ntmps47
    go_wp2_with fail
    refine (hG.out _).mono ?_
    rintro e w1 ⟨rfl, rfl⟩
    go_wp2_with fail
    refine (hA.out _).mono ?_
    rintro e w1 ⟨rfl, rfl⟩
    go_wp2_with fail
    refine (hB.out _).mono ?_
    rintro e w1 ⟨rfl, rfl⟩
    go_wp2_with fail
    refine (hM.out _).mono ?_
    rintro e w1 ⟨rfl, rfl⟩
    go_wp2_with fail
    go_ret2
    exact ⟨rfl, bl_refl _⟩
  · have hlt : hi < c := by omega
    obtain ⟨q0, q1⟩ := hq4 hlt
    have hD := Lib.hid (fun W => hdiv W hlt)
    clear hdiv hq4 hq5
    replace hS1 := Lib.hid hS1
    replace hS2 := Lib.hid hS2
    by_cases hr : r = 0
    · subst hr
      rw [if_pos rfl]
      have hZ := Lib.hid (fun W => raway_zero 1 q c W)
      by_cases hs : q < 9223372036854775808
      · rw [if_pos hs]
        have hS := Lib.hid (fun W => hS1.out q W q0 hs)
        clear hS1 hS2
        go_enter Try.func47, Try.ntmps47
        go_wp2_with fail
        refine (hG.out _).mono ?_
        rintro e w1 ⟨rfl, rfl⟩
        go_wp2_with fail
        refine (hA.out _).mono ?_
        rintro e w1 ⟨rfl, rfl⟩
        go_wp2_with fail
        refine (hB.out _).mono ?_
        rintro e w1 ⟨rfl, rfl⟩
        go_wp2_with fail
        refine (hM.out _).mono ?_
        rintro e w1 ⟨rfl, rfl⟩
        go_wp2_with fail
        refine (hD.out _).mono ?_
        rintro e w2 ⟨rfl, hb2⟩
        go_wp2_with fail
        refine (hZ.out _).mono ?_
        rintro e w1 ⟨rfl, rfl⟩
        go_wp2_with fail
        refine (hS.out _).mono ?_
        rintro e w1 ⟨rfl, rfl⟩
        go_wp2_with fail
        go_ret2
        exact ⟨rfl, hb2⟩
      · rw [if_neg hs]
        have hS := Lib.hid (fun W => hS2.out q W (by omega))
        clear hS1 hS2
        go_enter Try.func47, Try.ntmps47
        go_wp2_with fail
        refine (hG.out _).mono ?_
        rintro e w1 ⟨rfl, rfl⟩
        go_wp2_with fail
        refine (hA.out _).mono ?_
        rintro e w1 ⟨rfl, rfl⟩
        go_wp2_with fail
        refine (hB.out _).mono ?_
        rintro e w1 ⟨rfl, rfl⟩
        go_wp2_with fail
        refine (hM.out _).mono ?_
        rintro e w1 ⟨rfl, rfl⟩
        go_wp2_with fail
        refine (hD.out _).mono ?_
        rintro e w2 ⟨rfl, hb2⟩
        go_wp2_with fail
        refine (hZ.out _).mono ?_
        rintro e w1 ⟨rfl, rfl⟩
        go_wp2_with fail
        refine (hS.out _).mono ?_
        rintro e w1 ⟨rfl, rfl⟩
        go_wp2_with fail
        go_ret2
        exact ⟨rfl, hb2⟩
    · rw [if_neg hr]
      have hZ := Lib.hid (fun W => raway_ceil q r c W hr)
      by_cases hw : q + 1 = 18446744073709551616
      · rw [if_neg (by omega)]
        have hww : IntKind.u64.wrap (q + 1) = 0 := by rw [IntKind.wrap_u64]; omega
        clear hw
        clear hS1 hS2
        go_enter Try.func47, Try.ntmps47
        go_wp2_with fail
        refine (hG.out _).mono ?_
        rintro e w1 ⟨rfl, rfl⟩
        go_wp2_with fail
        refine (hA.out _).mono ?_
        rintro e w1 ⟨rfl, rfl⟩
        go_wp2_with fail
        refine (hB.out _).mono ?_
        rintro e w1 ⟨rfl, rfl⟩
        go_wp2_with fail
        refine (hM.out _).mono ?_
        rintro e w1 ⟨rfl, rfl⟩
        go_wp2_with fail
        refine (hD.out _).mono ?_
        rintro e w2 ⟨rfl, hb2⟩
        go_wp2_with fail
        refine (hZ.out _).mono ?_
        rintro e w1 ⟨rfl, rfl⟩
        go_wp2_with fail
        go_ret2
        exact ⟨rfl, hb2⟩
      · have hww : IntKind.u64.wrap (q + 1) = q + 1 := by rw [IntKind.wrap_u64]; omega
        have hne : (q + 1 == 0) = false := by rw [beq_eq_false_iff_ne]; omega
        by_cases hs : q + 1 < 9223372036854775808
        · rw [if_pos hs]
          have hS := Lib.hid (fun W => hS1.out (q + 1) W (by omega) hs)
          clear hS1 hS2
          go_enter Try.func47, Try.ntmps47
          go_wp2_with fail
          refine (hG.out _).mono ?_
          rintro e w1 ⟨rfl, rfl⟩
          go_wp2_with fail
          refine (hA.out _).mono ?_
          rintro e w1 ⟨rfl, rfl⟩
          go_wp2_with fail
          refine (hB.out _).mono ?_
          rintro e w1 ⟨rfl, rfl⟩
          go_wp2_with fail
          refine (hM.out _).mono ?_
          rintro e w1 ⟨rfl, rfl⟩
          go_wp2_with fail
          refine (hD.out _).mono ?_
          rintro e w2 ⟨rfl, hb2⟩
          go_wp2_with fail
          refine (hZ.out _).mono ?_
          rintro e w1 ⟨rfl, rfl⟩
          go_wp2_with fail
          refine (hS.out _).mono ?_
          rintro e w1 ⟨rfl, rfl⟩
          go_wp2_with fail
          go_ret2
          exact ⟨rfl, hb2⟩
        · rw [if_neg hs]
          have hS := Lib.hid (fun W => hS2.out (q + 1) W (by omega))
          clear hS1 hS2
          go_enter Try.func47, Try.ntmps47
          go_wp2_with fail
          refine (hG.out _).mono ?_
          rintro e w1 ⟨rfl, rfl⟩
          go_wp2_with fail
          refine (hA.out _).mono ?_
          rintro e w1 ⟨rfl, rfl⟩
          go_wp2_with fail
          refine (hB.out _).mono ?_
          rintro e w1 ⟨rfl, rfl⟩
          go_wp2_with fail
          refine (hM.out _).mono ?_
          rintro e w1 ⟨rfl, rfl⟩
          go_wp2_with fail
          refine (hD.out _).mono ?_
          rintro e w2 ⟨rfl, hb2⟩
          go_wp2_with fail
          refine (hZ.out _).mono ?_
          rintro e w1 ⟨rfl, rfl⟩
          go_wp2_with fail
          refine (hS.out _).mono ?_
          rintro e w1 ⟨rfl, rfl⟩
          go_wp2_with fail
          go_ret2
          exact ⟨rfl, hb2⟩
end Go.Proofs.Ytcgkfgklggjmaaa.Par
end
section
namespace Go.Proofs.Ytcgkfgklggjmaaa.Par
set_option linter.unusedVariables false
set_option linter.unusedSimpArgs false
open Go.RowKit
set_option maxHeartbeats 16000000 in
set_option maxRecDepth 100000 in
theorem eadd_yes (a b : Int) (w : World) (a0 : 0 ≤ a) (b0 : 0 ≤ b) (h : a + b < 9223372036854775808) : Calls Try.prog 27 #[.int .i64 a, .int .i64 b] w fun e w' => e = .returned (.tuple #[.int .i64 (a + b), .bool true]) ∧ w = w' := by
  have hu : IntKind.i64.wrap (a + b) = a + b := by rw [IntKind.wrap_i64]; omega
  have hu2 : IntKind.i64.wrap (9223372036854775807 - b) = 9223372036854775807 - b := by rw [IntKind.wrap_i64]; omega
  have hn : ¬ (b < 0) := by omega
  by_cases hb : 0 < b
  · have hn2 : ¬ (9223372036854775807 - b < a) := by omega
    go_enter Try.func27, Try.ntmps27
    go_wp2_with fail
    go_ret2
    exact ⟨rfl, rfl⟩
  · go_enter Try.func27, Try.ntmps27
    go_wp2_with fail
    go_ret2
    exact ⟨rfl, rfl⟩
set_option maxHeartbeats 16000000 in
set_option maxRecDepth 100000 in
theorem eadd_no (a b : Int) (w : World) (a0 : 0 ≤ a) (a1 : a < 9223372036854775808) (b0 : 0 ≤ b) (b1 : b < 9223372036854775808) (h : ¬ a + b < 9223372036854775808) : Calls Try.prog 27 #[.int .i64 a, .int .i64 b] w fun e w' => e = .returned (.tuple #[.int .i64 0, .bool false]) ∧ w = w' := by
  have hu2 : IntKind.i64.wrap (9223372036854775807 - b) = 9223372036854775807 - b := by rw [IntKind.wrap_i64]; omega
  have hb : 0 < b := by omega
  have hn2 : 9223372036854775807 - b < a := by omega
  go_enter Try.func27, Try.ntmps27
  go_wp2_with fail
  go_ret2
  exact ⟨rfl, rfl⟩
set_option maxHeartbeats 16000000 in
set_option maxRecDepth 100000 in
theorem rdiv_any (a c : Int) (w : World) (a0 : 0 ≤ a) (a1 : a < 9223372036854775808) (c0 : 0 < c) (c1 : c < 9223372036854775808) :
    Calls Try.prog 60 #[.int .i64 a, .int .i64 c, .int .i64 1] w fun e w' => e = .returned (.tuple #[.int .i64 (upB a c).1, .bool (upB a c).2]) ∧ Below w.heap.size w w' := by
  have hM := fun W => rmuldiv_any a 1 c W a0 a1 (by decide) (by decide) c0 c1 (.inl (by omega))
  rw [Int.mul_one] at hM
  generalize (upB a c).1 = x at *
  generalize (upB a c).2 = y at *
  go_enter Try.func60, Try.ntmps60
  go_wp2_with fail
  refine (hM _).mono ?_
  rintro e w1 ⟨rfl, hb1⟩
  go_wp2_with fail
  go_ret2
  exact ⟨rfl, hb1⟩
set_option maxHeartbeats 16000000 in
set_option maxRecDepth 100000 in
theorem rmul_any (a b : Int) (w : World) (a0 : 0 ≤ a) (a1 : a < 9223372036854775808) (b0 : 0 ≤ b) (b1 : b < 9223372036854775808) (h : a * b < 9223372036854775808) :
    Calls Try.prog 47 #[.int .i64 a, .int .i64 b, .int .i64 1, .int .i64 0] w fun e w' => e = .returned (.tuple #[.int .i64 (a * b), .bool true]) ∧ Below w.heap.size w w' := by
  have hA := Lib.hid (fun W => rabs_any a W a0 a1)
  have hB := Lib.hid (fun W => rabs_any b W b0 b1)
  obtain ⟨hi, lo, e0, hP0, e1, hM⟩ := mul64_any a b a0 a1 b0 b1
  have hna : decide (a < 0) = false := decide_eq_false (by omega)
  have hnb : decide (b < 0) = false := decide_eq_false (by omega)
  generalize a * b = P at *
  obtain rfl : hi = 0 := by omega
  obtain rfl : lo = P := by omega
  have hD := Lib.hid (fun W => div64_0 lo 1 W (by omega) (by omega) (by decide) (by decide))
  rw [Int.ediv_one, Int.emod_one] at hD
  have hG := Lib.hid (fun W => rgood_any 0 W (by decide) (by decide))
  have hZ := Lib.hid (fun W => raway_zero 0 lo 1 W)
  have hS := Lib.hid (fun W => rsigned_yes lo W (by omega) h)
  replace hM := Lib.hid hM
  clear e0 e1
  go_enter Try.func47, Try.ntmps47
  go_wp2_with fail
  refine (hG.out _).mono ?_
  rintro e w1 ⟨rfl, rfl⟩
  go_wp2_with fail
  refine (hA.out _).mono ?_
  rintro e w1 ⟨rfl, rfl⟩
  go_wp2_with fail
  refine (hB.out _).mono ?_
  rintro e w1 ⟨rfl, rfl⟩
  go_wp2_with fail
  refine (hM.out _).mono ?_
  rintro e w1 ⟨rfl, rfl⟩
  go_wp2_with fail
  refine (hD.out _).mono ?_
  rintro e w2 ⟨rfl, hb2⟩
  go_wp2_with fail
  refine (hZ.out _).mono ?_
  rintro e w1 ⟨rfl, rfl⟩
  go_wp2_with fail
  refine (hS.out _).mono ?_
  rintro e w1 ⟨rfl, rfl⟩
  go_wp2_with fail
  go_ret2
  exact ⟨rfl, hb2⟩
set_option maxHeartbeats 16000000 in
set_option maxRecDepth 100000 in
theorem rup_any (a c : Int) (w : World) (a0 : 0 ≤ a) (a1 : a < 4611686018427387904) (c0 : 0 < c) (c1 : c ≤ 4611686018427387904) :
    Calls Try.prog 46 #[.int .i64 a, .int .i64 c] w fun e w' => e = .returned (.tuple #[.int .i64 (cdiv a c * c), .bool true]) ∧ Below w.heap.size w w' := by
  obtain ⟨h1, h2, h3⟩ := cdiv_le (a := a) c0 a0
  have hq : cdiv a c ≤ cdiv a c * c := by
    have := Int.mul_le_mul_of_nonneg_left (show (1 : Int) ≤ c by omega) h1
    omega
  have hu : upB a c = (cdiv a c, true) := by unfold upB; rw [if_pos (by omega)]
  have hD := Lib.hid (fun W => rdiv_any a c W a0 (by omega) c0 (by omega))
  rw [hu] at hD
  have hM := Lib.hid (fun W => rmul_any (cdiv a c) c W h1 (by omega) (by omega) (by omega) (by omega))
  generalize cdiv a c * c = R at *
  generalize cdiv a c = q at *
  clear hu
  go_enter Try.func46, Try.ntmps46
  go_wp2_with fail
  refine (hD.out _).mono ?_
  rintro e w1 ⟨rfl, hb1⟩
  go_wp2_with fail
  refine (hM.out _).mono ?_
  rintro e w2 ⟨rfl, hb2⟩
  go_wp2_with fail
  go_ret2
  exact ⟨rfl, bl_call hb1 hb2⟩
end Go.Proofs.Ytcgkfgklggjmaaa.Par
end
