import Derived.Test.YtcgkfgklggjmaaaGreatDoorGj
section
namespace Go.Proofs.YtcgkfgklggjmaaaGreatDoor.Par
set_option linter.unusedVariables false
set_option linter.unusedSimpArgs false
/-! what is parsed can be told -/
def Ts (l : List Tok) : Prop := ∀ x ∈ l, x.text.size ≤ 8192
def V {α : Type} (Φ : α → Prop) (F : St → α × St) : Prop := ∀ s, Ts s.rest → Φ (F s).1 ∧ Ts (F s).2.rest
section
variable {α β : Type}
theorem V.bnd {Φ : α → Prop} {Ψ : β → Prop} {F : St → α × St} {G : α → St → β × St} (hF : V Φ F) (hG : ∀ a, Φ a → V Ψ (G a)) : V Ψ (bnd F G) := fun s hs => hG _ (hF s hs).1 _ (hF s hs).2
theorem V.mp {Φ : α → Prop} {Ψ : β → Prop} {F : St → α × St} (f : α → β) (hF : V Φ F) (hf : ∀ a, Φ a → Ψ (f a)) : V Ψ (mp f F) := fun s hs => ⟨hf _ (hF s hs).1, (hF s hs).2⟩
theorem V.ret {Φ : α → Prop} {a : α} (h : Φ a) : V Φ (fun s => (a, s)) := fun s hs => ⟨h, hs⟩
theorem V.ite {Φ : α → Prop} {p : Prop} [Decidable p] {F G : St → α × St} (hF : V Φ F) (hG : V Φ G) : V Φ (fun s => if p then F s else G s) := by
  by_cases hp : p
  · simp only [if_pos hp]; exact hF
  · simp only [if_neg hp]; exact hG
theorem V.iteErr {Φ : α → Prop} {p : Prop} [Decidable p] {a : α} {F : St → α × St} (ha : Φ a) (hF : V Φ F) : V Φ (fun s => if p ∨ s.err ≠ 0 then (a, s) else F s) := by
  intro s hs
  by_cases hp : p ∨ s.err ≠ 0
  · simp only [if_pos hp]; exact ⟨ha, hs⟩
  · simp only [if_neg hp]; exact hF s hs
theorem ts_tail {l : List Tok} (h : Ts l) : Ts l.tail := fun x hx => h x (List.mem_of_mem_tail hx)
theorem ts_next {s : St} (h : Ts s.rest) : Ts (P.next s).rest := by
  unfold P.next; split
  · exact h
  · exact ts_tail h
theorem ts_fail {e : Int} {t : Tok} {s : St} (h : Ts s.rest) : Ts (fail e t s).rest := by
  unfold fail; split <;> exact h
theorem v_eat (w : ByteArray) : V (fun _ => True) (P.eat w) := fun s hs => by
  unfold P.eat; split
  · exact ⟨trivial, ts_next hs⟩
  · exact ⟨trivial, hs⟩
theorem v_must : ∀ (l : List ByteArray), V (fun _ => True) (un (P.must l))
  | [], s, hs => ⟨trivial, hs⟩
  | w :: ws, s, hs => by
    have h1 := (v_eat w s hs).2
    refine ⟨trivial, ?_⟩
    show Ts (P.must (w :: ws) s).rest
    rw [P.must]
    split
    · exact (v_must ws _ h1).2
    · exact ts_fail h1
theorem v_kind (k : Int) : V (fun t : ByteArray => t.size ≤ 8192) (P.kind k) := fun s hs => by
  unfold P.kind; split
  · refine ⟨?_, ts_next hs⟩
    show (peek s).text.size ≤ 8192
    unfold peek
    cases hr : s.rest with
    | nil => exact Nat.zero_le _
    | cons a b => exact hs a (by rw [hr]; simp)
  · exact ⟨Nat.zero_le _, ts_fail hs⟩
variable (dp : ByteArray → Day) (np : ByteArray → Int → Int → Int × Int) (hnp : ∀ t pl most, 0 ≤ most → 0 ≤ (np t pl most).1 ∧ (np t pl most).1 ≤ most)
theorem v_day : V (fun _ => True) (P.day dp) := (v_kind 4).mp dp fun _ _ => trivial
theorem v_one : ∀ (l : List ByteArray) (i : Int), V (fun _ => True) (P.one l i)
  | [], i => V.ret trivial
  | w :: ws, i => (v_eat w).bnd (G := fun a s => if a = true then (i, s) else P.one ws (i + 1) s) fun a _ => V.ite (V.ret trivial) (v_one ws (i + 1))
theorem v_fail {Φ : α → Prop} {a : α} (h : Φ a) : V Φ (fun s => (a, fail 4 (peek s) s)) := fun s hs => ⟨h, ts_fail hs⟩
theorem v_mode : V (fun _ => True) P.mode := (v_one [wFloor, wCeil, wHalfup, wHalfeven] 0).bnd (G := fun o s => if o < 0 then (0, fail 4 (peek s) s) else (o, s)) fun o _ => V.ite (v_fail trivial) (V.ret trivial)
theorem v_window : V (fun _ => True) (P.window dp) :=
  (v_eat wFrom).bnd (G := fun a s => if a = true then bnd (P.day dp) (fun f => bnd (un (P.must [wTo])) (fun _ => mp (fun t => (⟨true, f, t⟩ : Win)) (P.day dp))) s else (noWin, s)) fun a _ =>
    V.ite ((v_day dp).bnd fun f _ => (v_must [wTo]).bnd fun _ _ => (v_day dp).mp _ fun _ _ => trivial) (V.ret trivial)
theorem v_ckind : V (fun _ => True) P.ckind :=
  (v_eat wVolume).bnd (G := fun a s => if a = true then ((2 : Int), s) else mp (fun _ => (1 : Int)) (un (P.must [wGraduated])) s) fun a _ => V.ite (V.ret trivial) ((v_must [wGraduated]).mp _ fun _ _ => trivial)
def TB (t : Tier) : Prop := (0 ≤ t.upto ∧ t.upto ≤ 1000000) ∧ (0 ≤ t.rate ∧ t.rate ≤ 1000000000000)
def AB (a : Adj) : Prop := 0 ≤ a.n ∧ a.n ≤ 1000000000000
def CB (c : Chg) : Prop := c.meter.size ≤ 8192 ∧ (0 ≤ c.allow ∧ c.allow ≤ 1000000) ∧ (0 ≤ c.block ∧ c.block ≤ 1000000) ∧ (∀ t ∈ c.tiers, TB t) ∧ (∀ a ∈ c.adjs, AB a)
def MB (m : Met) : Prop := (m.name.size ≤ 8192 ∧ m.unit.size ≤ 8192) ∧ 0 ≤ m.max ∧ m.max ≤ 2000
def FB (f : Fee) : Prop := 0 ≤ f.amount ∧ f.amount ≤ 1000000000000
structure PB (p : Plan) : Prop where
  name : p.name.size ≤ 8192
  cur : p.cur.size ≤ 8192
  mets : ∀ m ∈ p.mets, MB m
  fees : ∀ m ∈ p.fees, FB m
  chgs : ∀ m ∈ p.chgs, CB m
theorem v_head : V PB (P.head dp) := fun s hs => by
  have h1 := (v_must [wPlan] s hs).2
  have h2 := v_kind 1 _ h1
  have h3 := (v_must [wCurrency] _ h2.2).2
  have h4 := v_kind 1 _ h3
  have h5 := (v_must [wSemi, wHorizon] _ h4.2).2
  have h6 := v_day dp _ h5
  have h7 := v_day dp _ h6.2
  have h8 := (v_must [wSemi] _ h7.2).2
  exact ⟨⟨h2.1, h4.1, (fun x hx => by cases hx), (fun x hx => by cases hx), (fun x hx => by cases hx)⟩, h8⟩
include hnp
theorem v_number (pl most : Int) (hm : 0 ≤ most) : V (fun n => 0 ≤ n ∧ n ≤ most) (P.number np pl most) := fun s hs => by
  have hk := v_kind 3 s hs
  unfold P.number
  simp only
  split
  · refine ⟨hnp _ _ _ hm, ?_⟩
    simp only
    split
    · exact ts_fail hk.2
    · split
      · exact ts_fail hk.2
      · exact hk.2
  · exact ⟨⟨Int.le_refl _, hm⟩, hk.2⟩
theorem v_opt (w : ByteArray) (d : Int) (hd : 0 ≤ d ∧ d ≤ 1000000) : V (fun n => 0 ≤ n ∧ n ≤ 1000000) (P.opt np w d) :=
  (v_eat w).bnd (G := fun a s => if a = true then bnd (P.number np 0 1000000) (fun x => mp (fun _ => x) (un (P.must [wSemi]))) s else (d, s)) fun a _ =>
    V.ite ((v_number np hnp 0 1000000 (by decide)).bnd fun x hx => (v_must [wSemi]).mp _ fun _ _ => hx) (V.ret hd)
theorem v_tierLoop : ∀ (f : Nat) (acc : List Tier), (∀ t ∈ acc, TB t) → V (fun l => ∀ t ∈ l, TB t) (P.tierLoop np f acc)
  | 0, acc, h => V.ret h
  | f + 1, acc, h => (v_eat wUpto).bnd (G := fun a s => if a = true then bnd (P.number np 0 1000000) (fun x => bnd (un (P.must [wRate])) (fun _ => bnd (P.number np 6 1000000000000) (fun y => bnd (un (P.must [wSemi])) (fun _ => P.tierLoop np f (acc ++ [(⟨x, y⟩ : Tier)]))))) s else (acc, s)) fun a _ =>
    V.ite ((v_number np hnp 0 1000000 (by decide)).bnd fun x hx => (v_must [wRate]).bnd fun _ _ => (v_number np hnp 6 1000000000000 (by decide)).bnd fun y hy => (v_must [wSemi]).bnd fun _ _ => v_tierLoop f _ fun t ht => by
      rcases List.mem_append.1 ht with ht | ht
      · exact h t ht
      · obtain rfl := List.mem_singleton.1 ht; exact ⟨hx, hy⟩) (V.ret h)
theorem v_tierAll : V (fun l => ∀ t ∈ l, TB t) (P.tierAll np []) := fun s hs => v_tierLoop np hnp (len s) [] (fun t ht => by cases ht) s hs
theorem v_tiers : V (fun l => ∀ t ∈ l, TB t) (P.tiers np) :=
  (v_must [wOpen]).bnd (G := fun _ => bnd (P.tierAll np []) (fun l => bnd (un (P.must [wRest, wRate])) (fun _ => bnd (P.number np 6 1000000000000) (fun r => mp (fun _ => l ++ [(⟨0, r⟩ : Tier)]) (un (P.must [wSemi, wClose])))))) fun _ _ =>
    (v_tierAll np hnp).bnd fun l hl => (v_must [wRest, wRate]).bnd fun _ _ => (v_number np hnp 6 1000000000000 (by decide)).bnd fun r hr => (v_must [wSemi, wClose]).mp _ fun _ _ t ht => by
      rcases List.mem_append.1 ht with ht | ht
      · exact hl t ht
      · obtain rfl := List.mem_singleton.1 ht; exact ⟨⟨Int.le_refl _, by show (0 : Int) ≤ 1000000; decide⟩, hr⟩
theorem v_adjBody (k : Int) : V AB (P.adjBody np k) := by
  have h : P.adjBody np k = fun s => if k = 1 then bnd (P.number np 3 100000000) (fun n => bnd P.mode (fun m => mp (fun _ => (⟨1, n, m⟩ : Adj)) (un (P.must [wSemi])))) s else bnd (P.number np 0 1000000000000) (fun n => mp (fun _ => (⟨k, n, 0⟩ : Adj)) (un (P.must [wSemi]))) s := rfl
  rw [h]
  exact V.ite ((v_number np hnp 3 100000000 (by decide)).bnd fun n hn => v_mode.bnd fun m _ => (v_must [wSemi]).mp _ fun _ _ => ⟨hn.1, by show n ≤ 1000000000000; have := hn.2; omega⟩) ((v_number np hnp 0 1000000000000 (by decide)).bnd fun n hn => (v_must [wSemi]).mp _ fun _ _ => hn)
theorem v_adjust : V (fun x : Adj × Bool => AB x.1) (P.adjust np) :=
  (v_one [wPercent, wCap, wMinimum, wAdd] 1).bnd (G := fun o s => if o < 0 then (((⟨0, 0, 0⟩ : Adj), false), s) else mp (fun b => (b, true)) (P.adjBody np o) s) fun o _ =>
    V.ite (V.ret ⟨Int.le_refl _, by show (0 : Int) ≤ 1000000000000; decide⟩) ((v_adjBody np hnp o).mp _ fun _ h => h)
theorem v_adjLoop : ∀ (f : Nat) (acc : List Adj), (∀ a ∈ acc, AB a) → V (fun l => ∀ a ∈ l, AB a) (P.adjLoop np f acc)
  | 0, acc, h => V.ret h
  | f + 1, acc, h => (v_adjust np hnp).bnd (G := fun a s => if a.2 = false ∨ s.err ≠ 0 then (acc, s) else P.adjLoop np f (acc ++ [a.1]) s) fun a ha => V.iteErr h (v_adjLoop f _ fun x hx => by
      rcases List.mem_append.1 hx with hx | hx
      · exact h x hx
      · obtain rfl := List.mem_singleton.1 hx; exact ha)
theorem v_adjAll : V (fun l => ∀ a ∈ l, AB a) (P.adjAll np []) := fun s hs => v_adjLoop np hnp (len s) [] (fun t ht => by cases ht) s hs
theorem v_charge (l c : Int) : V CB (P.charge dp np l c) :=
  (v_kind 1).bnd (G := fun n => bnd (P.window dp) fun w => bnd (un (P.must [wOpen])) fun _ => bnd (P.opt np wAllowance 0) fun a => bnd (P.opt np wBlock 1) fun b => bnd P.ckind fun k => bnd (P.tiers np) fun t =>
      bnd (un (P.must [wRound])) fun _ => bnd P.mode fun m => bnd (un (P.must [wSemi])) fun _ => bnd (P.adjAll np []) fun d => mp (fun _ => (⟨n, w, a, b, k, t, m, d, l, c⟩ : Chg)) (un (P.must [wClose]))) fun n hn =>
    (v_window dp).bnd fun w _ => (v_must [wOpen]).bnd fun _ _ => (v_opt np hnp wAllowance 0 (by decide)).bnd fun a ha => (v_opt np hnp wBlock 1 (by decide)).bnd fun b hb => v_ckind.bnd fun k _ => (v_tiers np hnp).bnd fun t ht =>
      (v_must [wRound]).bnd fun _ _ => v_mode.bnd fun m _ => (v_must [wSemi]).bnd fun _ _ => (v_adjAll np hnp).bnd fun d hd => (v_must [wClose]).mp _ fun _ _ => ⟨hn, ha, hb, ht, hd⟩
theorem v_meter (l c : Int) : V MB (P.meter np l c) :=
  (v_kind 1).bnd (G := fun n => bnd (un (P.must [wUnit])) fun _ => bnd (P.kind 1) fun x => bnd (un (P.must [wMax])) fun _ => bnd (P.number np 0 2000) fun m => mp (fun _ => (⟨n, x, m, l, c⟩ : Met)) (un (P.must [wSemi]))) fun n hn =>
    (v_must [wUnit]).bnd fun _ _ => (v_kind 1).bnd fun x hx => (v_must [wMax]).bnd fun _ _ => (v_number np hnp 0 2000 (by decide)).bnd fun m hm => (v_must [wSemi]).mp _ fun _ _ => ⟨⟨hn, hx⟩, hm⟩
theorem v_fee (l c : Int) : V FB (P.fee dp np l c) :=
  (v_number np hnp 0 1000000000000 (by decide)).bnd (G := fun x => bnd (P.window dp) fun w => mp (fun _ => (⟨x, w, l, c⟩ : Fee)) (un (P.must [wSemi]))) fun x hx =>
    (v_window dp).bnd fun w _ => (v_must [wSemi]).mp _ fun _ _ => hx
theorem v_item (p : Plan) (hp : PB p) : V PB (P.item dp np p) := fun s hs => by
  have ho := (v_one [wMeter, wFee, wCharge] 0 s hs).2
  have hm := v_meter np hnp (peek s).line (peek s).col _ ho
  have hf := v_fee dp np hnp (peek s).line (peek s).col _ ho
  have hc := v_charge dp np hnp (peek s).line (peek s).col _ ho
  unfold P.item
  simp only
  split
  · exact ⟨⟨hp.name, hp.cur, fun x hx => by
      rcases List.mem_append.1 hx with hx | hx
      · exact hp.mets x hx
      · obtain rfl := List.mem_singleton.1 hx; exact hm.1, hp.fees, hp.chgs⟩, hm.2⟩
  · split
    · exact ⟨⟨hp.name, hp.cur, hp.mets, fun x hx => by
        rcases List.mem_append.1 hx with hx | hx
        · exact hp.fees x hx
        · obtain rfl := List.mem_singleton.1 hx; exact hf.1, hp.chgs⟩, hf.2⟩
    · split
      · exact ⟨⟨hp.name, hp.cur, hp.mets, hp.fees, fun x hx => by
          rcases List.mem_append.1 hx with hx | hx
          · exact hp.chgs x hx
          · obtain rfl := List.mem_singleton.1 hx; exact hc.1⟩, hc.2⟩
      · exact ⟨hp, (v_must [wSemi] _ (ts_fail ho)).2⟩
theorem v_items : ∀ (f : Nat) (p : Plan), PB p → V PB (P.items dp np f p)
  | 0, p, hp => V.ret hp
  | f + 1, p, hp => fun s hs => by
    rw [P.items]
    split
    · have h := v_item dp np hnp p hp s hs
      exact v_items f _ h.1 _ h.2
    · exact ⟨hp, hs⟩
end
theorem npV_in (t : ByteArray) (pl most : Int) (hm : 0 ≤ most) : 0 ≤ (npV t pl most).1 ∧ (npV t pl most).1 ≤ most := by
  unfold npV Dec.parseL Dec.parseW
  split
  · exact ⟨Int.le_refl _, hm⟩
  · split
    · exact ⟨Int.le_refl _, hm⟩
    · split
      · exact ⟨Int.le_refl _, hm⟩
      · rename_i h
        exact ⟨Int.natCast_nonneg _, by simp only; omega⟩
/-- a plan that is parsed can be told -/
theorem told_parse {l : List UInt8} (h : (RParse l).2.1 = 0) : Told (RParse l).1 := by
  have hs := RParse_small l
  have hpb : PB (RParse l).1 := by
    obtain ⟨ts, er, a, b, hall⟩ : ∃ ts er a b, lexAll l = (ts, er, a, b) := ⟨_, _, _, _, rfl⟩
    by_cases her : er = 0
    · subst her
      by_cases h0 : (P.plan dp npV ts).2.err = 0
      · rw [PParse_ok hall h0]
        have h1 := v_head dp ⟨ts, 0, 0, 0⟩ (all_sizes hall)
        exact (v_items dp npV npV_in _ _ h1.1 _ h1.2).1
      · rw [PParse_bad hall h0] at h; exact absurd h h0
    · rw [RParse_lex hall her] at h; exact absurd h her
  exact ⟨⟨fun m hm => (hpb.mets m hm).2, fun f hf => hpb.fees f hf, fun c hc => ⟨(hpb.chgs c hc).2.1, (hpb.chgs c hc).2.2.1, (hpb.chgs c hc).2.2.2.1, (hpb.chgs c hc).2.2.2.2⟩⟩, hs, hpb.name, hpb.cur, fun m hm => (hpb.mets m hm).1, fun c hc => (hpb.chgs c hc).1⟩
end Go.Proofs.YtcgkfgklggjmaaaGreatDoor.Par
end
