import Derived.Test.YtcgkfgklggjmaaaGreatDoorGl
section
namespace Go.Proofs.YtcgkfgklggjmaaaGreatDoor.Par
set_option linter.unusedVariables false
set_option linter.unusedSimpArgs false
/-! what is parsed without a fault is a plan that can be read back -/
def Kt (x : Tok) : Prop := x.kind = 0 ∨ kindOf x.text.data.toList = x.kind
def Ks (l : List Tok) : Prop := ∀ x ∈ l, Kt x
theorem lex_kinds : ∀ (n : Nat) (l : List UInt8) (line col : Int) (ts : List Tok), l.length ≤ n → lexL l line col = .ok ts → Ks ts := by
  intro n
  induction n with
  | zero =>
    intro l line col ts hn h
    obtain rfl : l = [] := List.eq_nil_of_length_eq_zero (by omega)
    rw [lexL] at h
    injection h with h
    subst h
    intro t ht
    obtain rfl := List.mem_singleton.1 ht
    exact .inl rfl
  | succ n ih =>
    intro l line col ts hn h
    cases l with
    | nil =>
      rw [lexL] at h
      injection h with h
      subst h
      intro t ht
      obtain rfl := List.mem_singleton.1 ht
      exact .inl rfl
    | cons c cs =>
      rw [lexL] at h
      rw [List.length_cons] at hn
      split at h
      · exact ih _ _ _ _ (by rw [List.length_drop]; omega) h
      · split at h
        · exact ih _ _ _ _ (by omega) h
        · split at h
          · exact ih _ _ _ _ (by omega) h
          · split at h
            · cases h
            · cases hr : lexL (cs.drop (tokLen c cs)) line (col + 1 + tokLen c cs) with
              | error e => rw [hr] at h; cases h
              | ok ts' =>
                rw [hr] at h
                injection h with h
                subst h
                intro t ht
                rcases List.mem_cons.1 ht with rfl | ht
                · exact .inr rfl
                · exact ih _ _ _ _ (by rw [List.length_drop]; omega) hr t ht
theorem all_kinds {l : List UInt8} {ts : List Tok} {a b : Int} (h : lexAll l = (ts, 0, a, b)) : Ks ts := by
  unfold lexAll at h
  split at h
  · injection h with _ h
    injection h with h _
    cases h
  · cases hr : lexL l 1 1 with
    | ok ts' =>
      rw [hr] at h
      injection h with h _
      subst h
      exact lex_kinds _ l 1 1 _ (Nat.le_refl _) hr
    | error e =>
      rw [hr] at h
      injection h with _ h
      injection h with h _
      cases h
def U {α : Type} (Φ : α → Prop) (F : St → α × St) : Prop := ∀ s, Ks s.rest → Ks (F s).2.rest ∧ ((F s).2.err = 0 → s.err = 0 ∧ Φ (F s).1)
section
variable {α β : Type}
theorem U.bnd {Φ : α → Prop} {Ψ : β → Prop} {F : St → α × St} {G : α → St → β × St} (hF : U Φ F) (hG : ∀ a, U (fun y => Φ a → Ψ y) (G a)) : U Ψ (bnd F G) := fun s hs => by
  have h1 := hF s hs
  have h2 := hG (F s).1 _ h1.1
  exact ⟨h2.1, fun h0 => ⟨(h1.2 (h2.2 h0).1).1, (h2.2 h0).2 (h1.2 (h2.2 h0).1).2⟩⟩
theorem U.mp {Φ : α → Prop} {Ψ : β → Prop} {F : St → α × St} (f : α → β) (hF : U Φ F) (hf : ∀ a, Φ a → Ψ (f a)) : U Ψ (mp f F) := fun s hs => ⟨(hF s hs).1, fun h0 => ⟨((hF s hs).2 h0).1, hf _ ((hF s hs).2 h0).2⟩⟩
theorem U.ret {Φ : α → Prop} {a : α} (h : Φ a) : U Φ (fun s => (a, s)) := fun s hs => ⟨hs, fun h0 => ⟨h0, h⟩⟩
theorem U.ite {Φ : α → Prop} {p : Prop} [Decidable p] {F G : St → α × St} (hF : p → U Φ F) (hG : ¬ p → U Φ G) : U Φ (fun s => if p then F s else G s) := by
  by_cases hp : p
  · simp only [if_pos hp]; exact hF hp
  · simp only [if_neg hp]; exact hG hp
theorem U.iteErr {Φ : α → Prop} {p : Prop} [Decidable p] {a : α} {F : St → α × St} (ha : Φ a) (hF : ¬ p → U Φ F) : U Φ (fun s => if p ∨ s.err ≠ 0 then (a, s) else F s) := by
  intro s hs
  by_cases hp : p ∨ s.err ≠ 0
  · simp only [if_pos hp]; exact ⟨hs, fun h0 => ⟨h0, ha⟩⟩
  · simp only [if_neg hp]; exact hF (fun c => hp (.inl c)) s hs
theorem U.weak {Φ Ψ : α → Prop} {F : St → α × St} (hF : U Φ F) (hf : ∀ a, Φ a → Ψ a) : U Ψ F := fun s hs => ⟨(hF s hs).1, fun h0 => ⟨((hF s hs).2 h0).1, hf _ ((hF s hs).2 h0).2⟩⟩
theorem ks_tail {l : List Tok} (h : Ks l) : Ks l.tail := fun x hx => h x (List.mem_of_mem_tail hx)
theorem ks_next {s : St} (h : Ks s.rest) : Ks (P.next s).rest := by
  unfold P.next; split
  · exact h
  · exact ks_tail h
theorem ks_fail {e : Int} {t : Tok} {s : St} (h : Ks s.rest) : Ks (fail e t s).rest := by
  unfold fail; split <;> exact h
theorem u_fail {Φ : α → Prop} {a : α} {e : Int} (he : e ≠ 0) : U Φ (fun s => (a, fail e (peek s) s)) := fun s hs => ⟨ks_fail hs, fun h0 => absurd h0 (fail_err e _ _ he)⟩
theorem u_eat (w : ByteArray) : U (fun _ => True) (P.eat w) := fun s hs => by
  refine ⟨?_, fun h0 => ⟨by rwa [eat_err] at h0, trivial⟩⟩
  unfold P.eat; split
  · exact ks_next hs
  · exact hs
theorem u_must : ∀ (l : List ByteArray), U (fun _ => True) (un (P.must l))
  | [], s, hs => ⟨hs, fun h0 => ⟨h0, trivial⟩⟩
  | w :: ws, s, hs => by
    have h1 := u_eat w s hs
    refine ⟨?_, fun h0 => ⟨must_back h0, trivial⟩⟩
    show Ks (P.must (w :: ws) s).rest
    rw [P.must]
    split
    · exact (u_must ws _ h1.1).1
    · exact ks_fail h1.1
theorem u_kind (k : Int) (hk : k ≠ 0) : U (fun t : ByteArray => kindOf t.data.toList = k) (P.kind k) := fun s hs => by
  refine ⟨?_, fun h0 => ⟨kind_back h0, ?_⟩⟩
  · unfold P.kind; split
    · exact ks_next hs
    · exact ks_fail hs
  · unfold P.kind at h0 ⊢
    by_cases hp : (peek s).kind = k
    · rw [if_pos hp]
      show kindOf (peek s).text.data.toList = k
      unfold peek at hp ⊢
      cases hr : s.rest with
      | nil => rw [hr] at hp; exact absurd hp.symm hk
      | cons a b =>
        rw [hr] at hp
        have hp' : a.kind = k := hp
        show kindOf a.text.data.toList = k
        rcases hs a (by rw [hr]; simp) with h | h
        · exact absurd (hp'.symm.trans h) hk
        · rw [h, hp']
    · rw [if_neg hp] at h0
      exact absurd h0 (fail_err 4 _ _ (by decide))
theorem u_day : U DOk (P.day dp) := (u_kind 4 (by decide)).mp dp fun a h => dok_of h
theorem u_one : ∀ (l : List ByteArray) (i : Int), U (fun o => o = -1 ∨ (i ≤ o ∧ o < i + l.length)) (P.one l i)
  | [], i => U.ret (.inl rfl)
  | w :: ws, i => (u_eat w).bnd (G := fun a s => if a = true then (i, s) else P.one ws (i + 1) s) fun a => U.ite (fun _ => U.ret fun _ => .inr ⟨Int.le_refl _, by rw [List.length_cons]; omega⟩) fun _ => (u_one ws (i + 1)).weak fun o ho _ => by
    rw [List.length_cons]; omega
theorem u_mode : U (fun m => 0 ≤ m ∧ m ≤ 3) P.mode := (u_one [wFloor, wCeil, wHalfup, wHalfeven] 0).bnd (G := fun o s => if o < 0 then (0, fail 4 (peek s) s) else (o, s)) fun o => U.ite (fun _ => u_fail (by decide)) fun h => U.ret fun ho => by
  have hl : ([wFloor, wCeil, wHalfup, wHalfeven].length : Int) = 4 := rfl
  omega
theorem u_window : U WOk (P.window dp) :=
  (u_eat wFrom).bnd (G := fun a s => if a = true then bnd (P.day dp) (fun f => bnd (un (P.must [wTo])) (fun _ => mp (fun t => (⟨true, f, t⟩ : Win)) (P.day dp))) s else (noWin, s)) fun a =>
    U.ite (fun _ => u_day.bnd fun f => (u_must [wTo]).bnd fun _ => u_day.mp _ fun t ht _ hf _ => .inl ⟨rfl, hf, ht⟩) fun _ => U.ret fun _ => .inr rfl
theorem u_ckind : U (fun k => k = 1 ∨ k = 2) P.ckind :=
  (u_eat wVolume).bnd (G := fun a s => if a = true then ((2 : Int), s) else mp (fun _ => (1 : Int)) (un (P.must [wGraduated])) s) fun a => U.ite (fun _ => U.ret fun _ => .inr rfl) fun _ => (u_must [wGraduated]).mp _ fun _ _ _ => .inl rfl
theorem u_number (pl most : Int) (hm : 0 ≤ most) : U (fun n => 0 ≤ n ∧ n ≤ most) (P.number npV pl most) := fun s hs => by
  refine ⟨?_, fun h0 => ⟨number_back npV h0, ?_⟩⟩
  · have hk := (u_kind 3 (by decide) s hs).1
    unfold P.number
    simp only
    split
    · simp only
      split
      · exact ks_fail hk
      · split
        · exact ks_fail hk
        · exact hk
    · exact hk
  · unfold P.number
    simp only
    split
    · exact npV_in _ _ _ hm
    · exact ⟨Int.le_refl _, hm⟩
theorem u_opt (w : ByteArray) (d : Int) (hd : 0 ≤ d ∧ d ≤ 1000000) : U (fun n => 0 ≤ n ∧ n ≤ 1000000) (P.opt npV w d) :=
  (u_eat w).bnd (G := fun a s => if a = true then bnd (P.number npV 0 1000000) (fun x => mp (fun _ => x) (un (P.must [wSemi]))) s else (d, s)) fun a =>
    U.ite (fun _ => (u_number 0 1000000 (by decide)).bnd fun x => (u_must [wSemi]).mp _ fun _ _ hx _ => hx) fun _ => U.ret fun _ => hd
theorem u_tierLoop : ∀ (f : Nat) (acc : List Tier), U (fun l => (∀ t ∈ acc, TOk t) → ∀ t ∈ l, TOk t) (P.tierLoop npV f acc)
  | 0, acc => U.ret fun h => h
  | f + 1, acc => (u_eat wUpto).bnd (G := fun a s => if a = true then bnd (P.number npV 0 1000000) (fun x => bnd (un (P.must [wRate])) (fun _ => bnd (P.number npV 6 1000000000000) (fun y => bnd (un (P.must [wSemi])) (fun _ => P.tierLoop npV f (acc ++ [(⟨x, y⟩ : Tier)]))))) s else (acc, s)) fun a =>
    U.ite (fun _ => (u_number 0 1000000 (by decide)).bnd fun x => (u_must [wRate]).bnd fun _ => (u_number 6 1000000000000 (by decide)).bnd fun y => (u_must [wSemi]).bnd fun _ => (u_tierLoop f _).weak fun l hl _ hy _ hx _ hacc => hl fun t ht => by
      rcases List.mem_append.1 ht with ht | ht
      · exact hacc t ht
      · obtain rfl := List.mem_singleton.1 ht; exact ⟨hx, hy⟩) fun _ => U.ret fun _ h => h
theorem u_tierAll : U (fun l => ∀ t ∈ l, TOk t) (P.tierAll npV []) := fun s hs => ((u_tierLoop (len s) []).weak fun l h => h fun t ht => by cases ht) s hs
theorem u_tiers : U (fun x => ∃ l r, x = l ++ [(⟨0, r⟩ : Tier)] ∧ (∀ t ∈ l, TOk t) ∧ 0 ≤ r ∧ r ≤ 1000000000000) (P.tiers npV) :=
  (u_must [wOpen]).bnd (G := fun _ => bnd (P.tierAll npV []) (fun l => bnd (un (P.must [wRest, wRate])) (fun _ => bnd (P.number npV 6 1000000000000) (fun r => mp (fun _ => l ++ [(⟨0, r⟩ : Tier)]) (un (P.must [wSemi, wClose])))))) fun _ =>
    u_tierAll.bnd fun l => (u_must [wRest, wRate]).bnd fun _ => (u_number 6 1000000000000 (by decide)).bnd fun r => (u_must [wSemi, wClose]).mp _ fun _ _ hr _ hl _ => ⟨l, r, rfl, hl, hr⟩
theorem u_adjBody (k : Int) : U (fun a => (k = 1 ∨ k = 2 ∨ k = 3 ∨ k = 4) → AOk a) (P.adjBody npV k) := by
  have h : P.adjBody npV k = fun s => if k = 1 then bnd (P.number npV 3 100000000) (fun n => bnd P.mode (fun m => mp (fun _ => (⟨1, n, m⟩ : Adj)) (un (P.must [wSemi])))) s else bnd (P.number npV 0 1000000000000) (fun n => mp (fun _ => (⟨k, n, 0⟩ : Adj)) (un (P.must [wSemi]))) s := rfl
  rw [h]
  exact U.ite (fun _ => (u_number 3 100000000 (by decide)).bnd fun n => u_mode.bnd fun m => (u_must [wSemi]).mp _ fun _ _ hm hn _ => .inl ⟨rfl, hn, hm.1, hm.2⟩)
    fun hk => (u_number 0 1000000000000 (by decide)).bnd fun n => (u_must [wSemi]).mp _ fun _ _ hn h => .inr ⟨h.resolve_left hk, hn, rfl⟩
theorem u_adjust : U (fun x : Adj × Bool => x.2 = true → AOk x.1) (P.adjust npV) :=
  (u_one [wPercent, wCap, wMinimum, wAdd] 1).bnd (G := fun o s => if o < 0 then (((⟨0, 0, 0⟩ : Adj), false), s) else mp (fun b => (b, true)) (P.adjBody npV o) s) fun o =>
    U.ite (fun _ => U.ret fun _ h => by cases h) fun hn => (u_adjBody o).mp _ fun b hb ho _ => hb (by
      have hl : ([wPercent, wCap, wMinimum, wAdd].length : Int) = 4 := rfl
      omega)
theorem u_adjLoop : ∀ (f : Nat) (acc : List Adj), U (fun l => (∀ a ∈ acc, AOk a) → ∀ a ∈ l, AOk a) (P.adjLoop npV f acc)
  | 0, acc => U.ret fun h => h
  | f + 1, acc => u_adjust.bnd (G := fun (a : Adj × Bool) s => if a.2 = false ∨ s.err ≠ 0 then (acc, s) else P.adjLoop npV f (acc ++ [a.1]) s) fun a => U.iteErr (fun _ h => h) fun ha => (u_adjLoop f _).weak fun l hl hx h => hl fun x hm => by
      rcases List.mem_append.1 hm with hm | hm
      · exact h x hm
      · obtain rfl := List.mem_singleton.1 hm
        exact hx (by cases h2 : a.2 with
          | true => rfl
          | false => exact absurd h2 ha)
theorem u_adjAll : U (fun l => ∀ a ∈ l, AOk a) (P.adjAll npV []) := fun s hs => ((u_adjLoop (len s) []).weak fun l h => h fun t ht => by cases ht) s hs
theorem u_charge (l c : Int) : U COk (P.charge dp npV l c) :=
  (u_kind 1 (by decide)).bnd (G := fun n => bnd (P.window dp) fun w => bnd (un (P.must [wOpen])) fun _ => bnd (P.opt npV wAllowance 0) fun a => bnd (P.opt npV wBlock 1) fun b => bnd P.ckind fun k => bnd (P.tiers npV) fun t =>
      bnd (un (P.must [wRound])) fun _ => bnd P.mode fun m => bnd (un (P.must [wSemi])) fun _ => bnd (P.adjAll npV []) fun d => mp (fun _ => (⟨n, w, a, b, k, t, m, d, l, c⟩ : Chg)) (un (P.must [wClose]))) fun n =>
    u_window.bnd fun w => (u_must [wOpen]).bnd fun _ => (u_opt wAllowance 0 (by decide)).bnd fun a => (u_opt wBlock 1 (by decide)).bnd fun b => u_ckind.bnd fun k => u_tiers.bnd fun t =>
      (u_must [wRound]).bnd fun _ => u_mode.bnd fun m => (u_must [wSemi]).bnd fun _ => u_adjAll.bnd fun d => (u_must [wClose]).mp _ fun _ _ hd _ hm _ ht hk hb ha _ hw hn => ⟨hn, hw, ha, hb, hk, ht, hm, hd⟩
theorem u_meter (l c : Int) : U (fun m : Met => NOk m.name ∧ NOk m.unit ∧ 0 ≤ m.max ∧ m.max ≤ 2000) (P.meter npV l c) :=
  (u_kind 1 (by decide)).bnd (G := fun n => bnd (un (P.must [wUnit])) fun _ => bnd (P.kind 1) fun x => bnd (un (P.must [wMax])) fun _ => bnd (P.number npV 0 2000) fun m => mp (fun _ => (⟨n, x, m, l, c⟩ : Met)) (un (P.must [wSemi]))) fun n =>
    (u_must [wUnit]).bnd fun _ => (u_kind 1 (by decide)).bnd fun x => (u_must [wMax]).bnd fun _ => (u_number 0 2000 (by decide)).bnd fun m => (u_must [wSemi]).mp _ fun _ _ hm _ hx _ hn => ⟨hn, hx, hm⟩
theorem u_fee (l c : Int) : U (fun f : Fee => (0 ≤ f.amount ∧ f.amount ≤ 1000000000000) ∧ WOk f.win) (P.fee dp npV l c) :=
  (u_number 0 1000000000000 (by decide)).bnd (G := fun x => bnd (P.window dp) fun w => mp (fun _ => (⟨x, w, l, c⟩ : Fee)) (un (P.must [wSemi]))) fun x =>
    u_window.bnd fun w => (u_must [wSemi]).mp _ fun _ _ hw hx => ⟨hx, hw⟩
theorem u_head : U POk (P.head dp) := fun s hs => by
  have h : U POk (hd dp) :=
    (u_must [wPlan]).bnd fun _ => (u_kind 1 (by decide)).bnd fun n => (u_must [wCurrency]).bnd fun _ => (u_kind 1 (by decide)).bnd fun c => (u_must [wSemi, wHorizon]).bnd fun _ => u_day.bnd fun f => u_day.bnd fun t =>
      (u_must [wSemi]).mp _ fun _ _ ht hf _ hc _ hn _ => ⟨hn, hc, hf, ht, (fun x hx => by cases hx), (fun x hx => by cases hx), (fun x hx => by cases hx)⟩
  rw [head_hd]
  refine ⟨(h s hs).1, fun h0 => ⟨((h s hs).2 h0).1, ?_⟩⟩
  have := ((h s hs).2 h0).2
  exact ⟨this.name, this.cur, this.from_, this.to_, this.mets, this.fees, this.chgs⟩
theorem u_item (p : Plan) : U (fun q => POk p → POk q) (P.item dp npV p) := fun s hs => by
  have ho := u_one [wMeter, wFee, wCharge] 0 s hs
  have hm := u_meter (peek s).line (peek s).col _ ho.1
  have hf := u_fee (peek s).line (peek s).col _ ho.1
  have hc := u_charge (peek s).line (peek s).col _ ho.1
  unfold P.item
  simp only
  split
  · exact ⟨hm.1, fun h0 => ⟨(ho.2 (hm.2 h0).1).1, fun hp => ⟨hp.name, hp.cur, hp.from_, hp.to_, fun x hx => by
      rcases List.mem_append.1 hx with hx | hx
      · exact hp.mets x hx
      · obtain rfl := List.mem_singleton.1 hx; exact (hm.2 h0).2, hp.fees, hp.chgs⟩⟩⟩
  · split
    · exact ⟨hf.1, fun h0 => ⟨(ho.2 (hf.2 h0).1).1, fun hp => ⟨hp.name, hp.cur, hp.from_, hp.to_, hp.mets, fun x hx => by
        rcases List.mem_append.1 hx with hx | hx
        · exact hp.fees x hx
        · obtain rfl := List.mem_singleton.1 hx; exact (hf.2 h0).2, hp.chgs⟩⟩⟩
    · split
      · exact ⟨hc.1, fun h0 => ⟨(ho.2 (hc.2 h0).1).1, fun hp => ⟨hp.name, hp.cur, hp.from_, hp.to_, hp.mets, hp.fees, fun x hx => by
          rcases List.mem_append.1 hx with hx | hx
          · exact hp.chgs x hx
          · obtain rfl := List.mem_singleton.1 hx; exact (hc.2 h0).2⟩⟩⟩
      · exact ⟨(u_must [wSemi] _ (ks_fail ho.1)).1, fun h0 => absurd (must_back h0) (fail_err 4 _ _ (by decide))⟩
theorem u_items : ∀ (f : Nat) (p : Plan), U (fun q => POk p → POk q) (P.items dp npV f p)
  | 0, p => U.ret fun h => h
  | f + 1, p => fun s hs => by
    rw [P.items]
    split
    · have h := u_item p s hs
      have h2 := u_items f (P.item dp npV p s).1 _ h.1
      exact ⟨h2.1, fun h0 => ⟨(h.2 (h2.2 h0).1).1, fun hp => (h2.2 h0).2 ((h.2 (h2.2 h0).1).2 hp)⟩⟩
    · exact ⟨hs, fun h0 => ⟨h0, fun hp => hp⟩⟩
end
/-- what is parsed can be read back -/
theorem pok_parse {l : List UInt8} (h : (RParse l).2.1 = 0) : POk (RParse l).1 := by
  obtain ⟨ts, er, a, b, hall⟩ : ∃ ts er a b, lexAll l = (ts, er, a, b) := ⟨_, _, _, _, rfl⟩
  by_cases her : er = 0
  · subst her
    by_cases h0 : (P.plan dp npV ts).2.err = 0
    · rw [PParse_ok hall h0]
      have h1 := u_head ⟨ts, 0, 0, 0⟩ (all_kinds hall)
      have h2 := u_items (P.head dp ⟨ts, 0, 0, 0⟩).2.rest.length (P.head dp ⟨ts, 0, 0, 0⟩).1 _ h1.1
      exact (h2.2 h0).2 (h1.2 (h2.2 h0).1).2
    · rw [PParse_bad hall h0] at h; exact absurd h h0
  · rw [RParse_lex hall her] at h; exact absurd h her
/-- the text of a parsed plan, read again -/
theorem parse_read {l : List UInt8} (h : (RParse l).2.1 = 0) (hl : (planL (RParse l).1).length ≤ 8192) : (RParse (planL (RParse l).1)).2 = (0, 0, 0) ∧ strip (RParse (planL (RParse l).1)).1 = strip (RParse l).1 := plan_read (pok_parse h) hl
end Go.Proofs.YtcgkfgklggjmaaaGreatDoor.Par
end
section
namespace Go.Proofs.YtcgkfgklggjmaaaGreatDoor.Par
set_option linter.unusedVariables false
set_option linter.unusedSimpArgs false
/-! two parsed plans have one text just if they have one row -/
theorem byte_inj {x y : Int} (hx : 0 ≤ x ∧ x < 256) (hy : 0 ≤ y ∧ y < 256) (h : UInt8.ofNat x.toNat = UInt8.ofNat y.toNat) : x = y := by
  have := congrArg UInt8.toNat h
  simp only [UInt8.toNat_ofNat'] at this
  omega
theorem textB_inj {n m : Int} (hn : 0 ≤ n ∧ n < 9223372036854775808) (hm : 0 ≤ m ∧ m < 9223372036854775808) (h : textB n = textB m) : n = m := by
  have e : ∀ k : Int, 0 ≤ k ∧ k < 9223372036854775808 → IntKind.u64.wrap k = k := by
    intro k hk
    simp only [IntKind.wrap, IntKind.signed, IntKind.bits]
    simp
    omega
  unfold textB octets at h
  rw [e n hn, e m hm] at h
  have h2 := congrArg (fun b : ByteArray => b.data.toList) h
  simp only [strOfNums, List.map_cons, List.map_nil] at h2
  simp only [List.cons.injEq] at h2
  obtain ⟨a0, a1, a2, a3, a4, a5, a6, a7, _⟩ := h2
  have b0 := byte_inj (by omega) (by omega) a0
  have b1 := byte_inj (by omega) (by omega) a1
  have b2 := byte_inj (by omega) (by omega) a2
  have b3 := byte_inj (by omega) (by omega) a3
  have b4 := byte_inj (by omega) (by omega) a4
  have b5 := byte_inj (by omega) (by omega) a5
  have b6 := byte_inj (by omega) (by omega) a6
  have b7 := byte_inj (by omega) (by omega) a7
  omega
def I63 (n : Int) : Prop := 0 ≤ n ∧ n < 9223372036854775808
theorem dok_in {d : Day} (h : DOk d) : I63 d.1 ∧ I63 d.2.1 ∧ I63 d.2.2 := by
  obtain ⟨h4, hd⟩ := h
  have hp : parseOk (dayT d) = true := by
    unfold kindOf at h4
    split at h4
    · cases h4
    split at h4
    · cases h4
    split at h4
    · cases h4
    split at h4
    · cases h4
    split at h4
    · cases h4
    split at h4
    · assumption
    · cases h4
  have hp' : parseOk (⟨(dayT d).toArray⟩ : ByteArray).data.toList = true := hp
  obtain ⟨e1, e2, e3, _⟩ := p_yes hp'
  obtain ⟨_, hg, _⟩ := parse_text hp
  obtain ⟨a1, a2, a3, a4, a5, a6, a7⟩ := good_of hg
  rw [← hd]
  unfold dp I63
  simp only [e1, e2, e3]
  refine ⟨⟨?_, ?_⟩, ⟨?_, ?_⟩, ⟨?_, ?_⟩⟩ <;> omega
theorem day_inj {d e : Day} (h : DOk d) (k : DOk e) (h1 : textB d.1 = textB e.1) (h2 : textB d.2.1 = textB e.2.1) (h3 : textB d.2.2 = textB e.2.2) : d = e := by
  obtain ⟨a1, a2, a3⟩ := dok_in h
  obtain ⟨b1, b2, b3⟩ := dok_in k
  exact Prod.ext (textB_inj a1 b1 h1) (Prod.ext (textB_inj a2 b2 h2) (textB_inj a3 b3 h3))
theorem win_inj {x y : Win} (h : WOk x) (k : WOk y) (e : winT x = winT y) : x = y := by
  unfold winT at e
  simp only [List.cons.injEq] at e
  obtain ⟨e0, e1, e2, e3, e4, e5, e6, _⟩ := e
  have hne : wYes ≠ wNo := by
    intro c
    have := congrArg (fun b : ByteArray => b.data.toList) c
    simp [wYes, wNo, str] at this
  rcases h with ⟨h0, h1, h2⟩ | rfl <;> rcases k with ⟨k0, k1, k2⟩ | rfl
  · have d1 := day_inj h1 k1 e1 e2 e3
    have d2 := day_inj h2 k2 e4 e5 e6
    cases x; cases y
    simp only at *
    rw [h0, k0, d1, d2]
  · rw [if_pos h0] at e0
    exact absurd e0 hne
  · rw [if_pos k0] at e0
    exact absurd e0.symm hne
  · rfl
theorem flat_inj {α β γ : Type} {g : α → List β} {φ : α → γ} : ∀ (l l' : List α) (r r' : List β), l.length = l'.length → (∀ x ∈ l, ∀ y ∈ l', ∀ u v, g x ++ u = g y ++ v → φ x = φ y ∧ u = v) → l.flatMap g ++ r = l'.flatMap g ++ r' → l.map φ = l'.map φ ∧ r = r'
  | [], [], _, _, _, _, h => ⟨rfl, h⟩
  | [], _ :: _, _, _, h, _, _ => by cases h
  | _ :: _, [], _, _, h, _, _ => by cases h
  | x :: l, y :: l', r, r', hl, hg, h => by
    rw [List.flatMap_cons, List.flatMap_cons, List.append_assoc, List.append_assoc] at h
    obtain ⟨h1, h2⟩ := hg x (by simp) y (by simp) _ _ h
    obtain ⟨h3, h4⟩ := flat_inj l l' r r' (by simpa using hl) (fun a ha b hb => hg a (by simp [ha]) b (by simp [hb])) h2
    exact ⟨by rw [List.map_cons, List.map_cons, h1, h3], h4⟩
theorem len_in {n : Nat} (h : n ≤ 10000) : I63 (n : Int) := ⟨by omega, by omega⟩
theorem met_inj {m n : Met} (h : 0 ≤ m.max ∧ m.max ≤ 2000) (k : 0 ≤ n.max ∧ n.max ≤ 2000) (u v : List ByteArray) (e : metT m ++ u = metT n ++ v) : sM m = sM n ∧ u = v := by
  simp only [metT, List.cons_append, List.nil_append, List.cons.injEq] at e
  obtain ⟨e1, e2, e3, e4⟩ := e
  have := textB_inj (by omega) (by omega) e3
  exact ⟨by unfold sM; rw [e1, e2, this], e4⟩
theorem fee_inj {m n : Fee} (h : (0 ≤ m.amount ∧ m.amount ≤ 1000000000000) ∧ WOk m.win) (k : (0 ≤ n.amount ∧ n.amount ≤ 1000000000000) ∧ WOk n.win) (u v : List ByteArray) (e : feeT m ++ u = feeT n ++ v) : sF m = sF n ∧ u = v := by
  unfold feeT at e
  rw [List.append_assoc, List.append_assoc, List.singleton_append, List.singleton_append] at e
  injection e with e1 e2
  obtain ⟨e3, e4⟩ := List.append_inj e2 rfl
  have h1 := textB_inj (by have := h.1; omega) (by have := k.1; omega) e1
  have h2 := win_inj h.2 k.2 e3
  exact ⟨by unfold sF; rw [h1, h2], e4⟩
theorem tier_inj {m n : Tier} (h : TOk m) (k : TOk n) (u v : List ByteArray) (e : tierT m ++ u = tierT n ++ v) : m = n ∧ u = v := by
  simp only [tierT, List.cons_append, List.nil_append, List.cons.injEq] at e
  obtain ⟨e1, e2, e3⟩ := e
  unfold TOk at h k
  have h1 := textB_inj (by omega) (by omega) e1
  have h2 := textB_inj (by omega) (by omega) e2
  exact ⟨by cases m; cases n; simp only at h1 h2; rw [h1, h2], e3⟩
theorem adj_in {a : Adj} (h : AOk a) : I63 a.kind ∧ I63 a.n ∧ I63 a.mode := by
  unfold I63
  rcases h with ⟨h1, h2, h3, h4⟩ | ⟨h1, h2, h3⟩ <;> refine ⟨⟨?_, ?_⟩, ⟨?_, ?_⟩, ⟨?_, ?_⟩⟩ <;> omega
theorem adj_inj {m n : Adj} (h : AOk m) (k : AOk n) (u v : List ByteArray) (e : adjT m ++ u = adjT n ++ v) : m = n ∧ u = v := by
  simp only [adjT, List.cons_append, List.nil_append, List.cons.injEq] at e
  obtain ⟨e1, e2, e3, e4⟩ := e
  obtain ⟨a1, a2, a3⟩ := adj_in h
  obtain ⟨b1, b2, b3⟩ := adj_in k
  have h1 := textB_inj a1 b1 e1
  have h2 := textB_inj a2 b2 e2
  have h3 := textB_inj a3 b3 e3
  exact ⟨by cases m; cases n; simp only at h1 h2 h3; rw [h1, h2, h3], e4⟩
theorem tiers_in {c : Chg} (h : COk c) : ∀ t ∈ c.tiers, TOk t := by
  obtain ⟨l, r, e, hl, hr⟩ := h.tiers
  intro t ht
  rw [e] at ht
  rcases List.mem_append.1 ht with ht | ht
  · exact hl t ht
  · obtain rfl := List.mem_singleton.1 ht
    exact ⟨⟨Int.le_refl _, by show (0 : Int) ≤ 1000000; decide⟩, hr⟩
theorem chg_inj {c d : Chg} (h : COk c) (k : COk d) (hs : c.tiers.length ≤ 10000 ∧ c.adjs.length ≤ 10000) (ks : d.tiers.length ≤ 10000 ∧ d.adjs.length ≤ 10000) (u v : List ByteArray) (e : chgT c ++ u = chgT d ++ v) : sC c = sC d ∧ u = v := by
  unfold chgT chgH at e
  simp only [List.append_assoc, List.singleton_append] at e
  injection e with e1 e2
  obtain ⟨e3, e4⟩ := List.append_inj e2 rfl
  simp only [List.cons_append, List.nil_append, List.cons.injEq] at e4
  obtain ⟨f1, f2, f3, f4, f5, f6, f7⟩ := e4
  have hA := h.allow
  have kA := k.allow
  have hB := h.block
  have kB := k.block
  have hK := h.kind
  have kK := k.kind
  have hM := h.mode
  have kM := k.mode
  have g1 := textB_inj (by omega) (by omega) f1
  have g2 := textB_inj (by omega) (by omega) f2
  have g3 := textB_inj (by omega) (by omega) f3
  have g4 := textB_inj (by omega) (by omega) f4
  have g5 := textB_inj (len_in hs.1) (len_in ks.1) f5
  have g6 := textB_inj (len_in hs.2) (len_in ks.2) f6
  have g0 := win_inj h.win k.win e3
  obtain ⟨i1, i2⟩ := flat_inj (φ := id) c.tiers d.tiers _ _ (by omega) (fun x hx y hy u v e => tier_inj (tiers_in h x hx) (tiers_in k y hy) u v e) f7
  obtain ⟨j1, j2⟩ := flat_inj (φ := id) c.adjs d.adjs _ _ (by omega) (fun x hx y hy u v e => adj_inj (h.adjs x hx) (k.adjs y hy) u v e) i2
  rw [List.map_id, List.map_id] at i1 j1
  exact ⟨by unfold sC; rw [e1, g0, g1, g2, g3, g4, i1, j1], j2⟩
theorem row_inj {p q : Plan} (h : POk p) (k : POk q) (hs : Small p) (ks : Small q) (e : rowT p = rowT q) : strip p = strip q := by
  unfold rowT headT at e
  simp only [List.append_assoc, List.cons_append, List.nil_append] at e
  injection e with e1 e2
  injection e2 with e2 e3
  obtain ⟨e3, e4⟩ := List.append_inj e3 rfl
  injection e4 with f1 e4
  injection e4 with f2 e4
  injection e4 with f3 e4
  have g1 := textB_inj (len_in hs.mets) (len_in ks.mets) f1
  have g2 := textB_inj (len_in hs.fees) (len_in ks.fees) f2
  have g3 := textB_inj (len_in hs.chgs) (len_in ks.chgs) f3
  unfold winT at e3
  simp only [List.cons.injEq] at e3
  obtain ⟨_, a1, a2, a3, a4, a5, a6, _⟩ := e3
  have d1 := day_inj h.from_ k.from_ a1 a2 a3
  have d2 := day_inj h.to_ k.to_ a4 a5 a6
  obtain ⟨i1, i2⟩ := flat_inj (φ := sM) p.mets q.mets _ _ (by omega) (fun x hx y hy u v e => met_inj (h.mets x hx).2.2 (k.mets y hy).2.2 u v e) e4
  obtain ⟨j1, j2⟩ := flat_inj (φ := sF) p.fees q.fees _ _ (by omega) (fun x hx y hy u v e => fee_inj (h.fees x hx) (k.fees y hy) u v e) i2
  have j2' : p.chgs.flatMap chgT ++ [] = q.chgs.flatMap chgT ++ [] := by rw [List.append_nil, List.append_nil]; exact j2
  obtain ⟨m1, _⟩ := flat_inj (φ := sC) p.chgs q.chgs _ _ (by omega) (fun x hx y hy u v e => chg_inj (h.chgs x hx) (k.chgs y hy) ⟨hs.tiers x hx, hs.adjs x hx⟩ ⟨ks.tiers y hy, ks.adjs y hy⟩ u v e) j2'
  unfold strip
  rw [e1, e2, d1, d2, i1, j1, m1]
theorem planL_strip (p : Plan) : planL (strip p) = planL p := by
  unfold planL strip
  simp only [List.flatMap_map]
  rfl
/-- the tokens of a plan's text, read: also where the text is long -/
theorem tokens_read {p : Plan} (h : POk p) : ∃ ts, lexL (planL p) 1 1 = .ok ts ∧ strip (P.plan dp npV ts).1 = strip p := by
  obtain ⟨ls, n, c, e, ht⟩ := lx_plan h [] 1 1
  rw [List.append_nil] at e
  have hn : lexL [] n c = .ok [⟨0, ⟨#[]⟩, n, c⟩] := by rw [lexL]
  rw [hn] at e
  refine ⟨ls ++ [⟨0, ⟨#[]⟩, n, c⟩], (by rw [e]; simp [preR]), ?_⟩
  have htw : Tw (ls ++ [⟨0, ⟨#[]⟩, n, c⟩]) (tkH p ++ ((itms p).flatMap (·.2) ++ [(0, [])])) := by
    rw [itms_flat]
    unfold Tw at ht ⊢
    rw [List.map_append, ht]
    simp [tkP]
  obtain ⟨l1, t1, e1⟩ := rd_hd h.from_ h.to_ _ htw
  have hP := plan_hd dp npV (ls ++ [⟨0, ⟨#[]⟩, n, c⟩])
  rw [e1] at hP
  obtain ⟨p', l2, e2, e3⟩ := rd_items (itms p) (itms_ok h) { (⟨p.name, p.cur, p.from_, p.to_, [], [], [], 0, 0⟩ : Plan) with line := (peek ⟨ls ++ [⟨0, ⟨#[]⟩, n, c⟩], 0, 0, 0⟩).line, col := (peek ⟨ls ++ [⟨0, ⟨#[]⟩, n, c⟩], 0, 0, 0⟩).col } _ l1 t1 rfl
  rw [e2] at hP
  rw [hP]
  exact e3.trans (strip_itms p _ _)
/-- two parsed plans: one text just if one row -/
theorem text_row {p q : Plan} (h : POk p) (k : POk q) (hs : Small p) (ks : Small q) : planL p = planL q ↔ rowT p = rowT q := by
  constructor
  · intro e
    obtain ⟨t1, h1, h2⟩ := tokens_read h
    obtain ⟨t2, k1, k2⟩ := tokens_read k
    rw [e, k1] at h1
    injection h1 with h1
    subst h1
    have hst : strip p = strip q := h2.symm.trans k2
    have r : ∀ p : Plan, rowT (strip p) = rowT p := by
      intro p
      unfold rowT headT strip
      simp only [List.length_map, List.flatMap_map]
      rfl
    rw [← r p, hst, r]
  · intro e
    rw [← planL_strip p, row_inj h k hs ks e, planL_strip]
end Go.Proofs.YtcgkfgklggjmaaaGreatDoor.Par
end
