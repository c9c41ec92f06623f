import Derived.Test.YtcgkfgklggjmaaaGreatDoorGe
import Derived.Deep.RegionLaw
import Derived.KernelRfl
section
namespace Go.Proofs.YtcgkfgklggjmaaaGreatDoor.Par
set_option linter.unusedVariables false
set_option linter.unusedSimpArgs false
/-- the tokens of a text end with the end -/
theorem lex_shape : ∀ (n : Nat) (l : List UInt8) (line col : Int) (ts : List Tok), l.length ≤ n → lexL l line col = .ok ts → ts ≠ [] ∧ (∀ t, ts.getLast? = some t → t.kind = 0) ∧ ts.length ≤ l.length + 1 := by
  intro n
  induction n with
  | zero =>
    intro l line col ts hn h
    obtain rfl : l = [] := List.eq_nil_of_length_eq_zero (by omega)
    rw [lexL] at h
    injection h with h
    subst h
    refine ⟨by simp, ?_, by simp⟩
    intro t ht
    simp at ht
    subst ht; rfl
  | succ n ih =>
    intro l line col ts hn h
    cases l with
    | nil =>
      rw [lexL] at h
      injection h with h
      subst h
      refine ⟨by simp, ?_, by simp⟩
      intro t ht
      simp at ht
      subst ht; rfl
    | cons c cs =>
      rw [lexL] at h
      rw [List.length_cons] at hn
      split at h
      · have := ih _ _ _ _ (by rw [List.length_drop]; omega) h
        rw [List.length_drop] at this
        rw [List.length_cons]
        exact ⟨this.1, this.2.1, by omega⟩
      · split at h
        · have := ih _ _ _ _ (by omega) h
          rw [List.length_cons]
          exact ⟨this.1, this.2.1, by omega⟩
        · split at h
          · have := ih _ _ _ _ (by omega) h
            rw [List.length_cons]
            exact ⟨this.1, this.2.1, by omega⟩
          · split at h
            · cases h
            · cases hr : lexL (cs.drop (tokLen c cs)) line (col + 1 + tokLen c cs) with
              | error e => rw [hr] at h; cases h
              | ok ts' =>
                rw [hr] at h
                injection h with h
                subst h
                have := ih _ _ _ _ (by rw [List.length_drop]; omega) hr
                rw [List.length_drop] at this
                refine ⟨by simp, ?_, by rw [List.length_cons, List.length_cons]; omega⟩
                intro t ht
                cases ts' with
                | nil => exact absurd rfl this.1
                | cons a rs =>
                  rw [List.getLast?_cons_cons] at ht
                  exact this.2.1 t ht
theorem all_shape {l : List UInt8} {ts : List Tok} {a b : Int} (h : lexAll l = (ts, 0, a, b)) : ts ≠ [] ∧ (∀ t, ts.getLast? = some t → t.kind = 0) ∧ ts.length ≤ 8193 := by
  unfold lexAll at h
  split at h
  · injection h with _ h
    injection h with h _
    cases h
  · cases hr : lexL l 1 1 with
    | ok ts' =>
      rw [hr] at h
      injection h with h _
      subst h
      have := lex_shape _ l 1 1 _ (Nat.le_refl _) hr
      exact ⟨this.1, this.2.1, by omega⟩
    | error e =>
      rw [hr] at h
      injection h with _ h
      injection h with h _
      cases h
/-- what the reference says of a text -/
def RParse (l : List UInt8) : Plan × Int × Int × Int :=
  if (lexAll l).2.1 ≠ 0 then (noPlan, (lexAll l).2.1, (lexAll l).2.2.1, (lexAll l).2.2.2)
  else if (R.plan dp npV (lexAll l).1).2.err ≠ 0 then (noPlan, (R.plan dp npV (lexAll l).1).2.err, (R.plan dp npV (lexAll l).1).2.line, (R.plan dp npV (lexAll l).1).2.col)
  else ((R.plan dp npV (lexAll l).1).1, 0, 0, 0)
theorem RParse_lex {l : List UInt8} {ts : List Tok} {er a b : Int} (h : lexAll l = (ts, er, a, b)) (h0 : er ≠ 0) : RParse l = (noPlan, er, a, b) := by unfold RParse; rw [h]; exact if_pos h0
theorem RParse_bad {l : List UInt8} {ts : List Tok} {a b : Int} (h : lexAll l = (ts, 0, a, b)) (h0 : (R.plan dp npV ts).2.err ≠ 0) : RParse l = (noPlan, (R.plan dp npV ts).2.err, (R.plan dp npV ts).2.line, (R.plan dp npV ts).2.col) := by
  unfold RParse; rw [h]
  simp only [ne_eq, not_true_eq_false, if_false]
  rw [if_pos h0]
theorem RParse_ok {l : List UInt8} {ts : List Tok} {a b : Int} (h : lexAll l = (ts, 0, a, b)) (h0 : (R.plan dp npV ts).2.err = 0) : RParse l = ((R.plan dp npV ts).1, 0, 0, 0) := by
  unfold RParse; rw [h]
  simp only [ne_eq, not_true_eq_false, if_false]
  rw [if_neg (fun e => e h0)]
theorem rplan_eq (ts : List Tok) : R.plan dp npV ts = R.itemsAll dp npV (R.head dp ⟨ts, 0, 0, 0⟩).1 (R.head dp ⟨ts, 0, 0, 0⟩).2 := rfl
end Go.Proofs.YtcgkfgklggjmaaaGreatDoor.Par
end
section
namespace Go.Proofs.YtcgkfgklggjmaaaGreatDoor.Par
set_option linter.unusedVariables false
set_option linter.unusedSimpArgs false
open Go.RowKit
/-- within the program's Parse -/
structure PS (w0 : World) (b O : Nat) (ts : List Tok) (r cap : Nat) (w : World) (s : St) (p : Plan) (mv fv cv : Value) (cs : List CT) : Prop where
  at_ : ∃ j, PAt w b ts r cap j s
  bl : Below w0.heap.size w0 w
  rb : Blk w w0.heap.size 29 (planC noPlan (.slice none 0 0) (.slice none 0 0) (.slice none 0 0))
  fb : Blk w (w0.heap.size + 1) 37 #[.int .i64 0, .int .i64 0, .int .i64 0]
  ob : Blk w O 29 (planC p mv fv cv)
  rows : Rows w w0.heap.size p mv fv cv cs
  hb : w0.heap.size ≤ b
  hO : w0.heap.size + 1 < O
section
variable {w0 : World} {b O : Nat} {ts : List Tok} {r cap : Nat} {w w' : World} {s s' : St} {p : Plan} {mv fv cv : Value} {cs : List CT}
theorem PS.nb (h : PS w0 b O ts r cap w s p mv fv cv cs) : ¬ blocks mv fv cv cs b := by
  obtain ⟨j, hj⟩ := h.at_
  exact h.rows.apart hj.blk (by decide) (by decide) (by decide) (by decide) (by decide)
theorem PS.nO (h : PS w0 b O ts r cap w s p mv fv cv cs) : ¬ blocks mv fv cv cs O := h.rows.apart h.ob (by decide) (by decide) (by decide) (by decide) (by decide)
theorem PS.nR (h : PS w0 b O ts r cap w s p mv fv cv cs) : ¬ blocks mv fv cv cs w0.heap.size := h.rows.apart h.rb (by decide) (by decide) (by decide) (by decide) (by decide)
theorem PS.nes (h : PS w0 b O ts r cap w s p mv fv cv cs) : b ≠ O ∧ b ≠ w0.heap.size ∧ r ≠ O ∧ r ≠ w0.heap.size ∧ b ≠ w0.heap.size + 1 := by
  obtain ⟨j, hj⟩ := h.at_
  exact ⟨Blk.ne_ hj.blk h.ob (by decide), Blk.ne_ hj.blk h.rb (by decide), fun e => own_ne_blk hj.row h.ob (by decide) (congrArg some e), fun e => own_ne_blk hj.row h.rb (by decide) (congrArg some e), Blk.ne_ hj.blk h.fb (by decide)⟩
theorem PS.call (h : PS w0 b O ts r cap w s p mv fv cv cs) (hf : Fr b w w') (ha : ∃ j, PAt w' b ts r cap j s') : PS w0 b O ts r cap w' s' p mv fv cv cs := by
  obtain ⟨h1, h2, h3, h4, h5⟩ := h.nes
  exact ⟨ha, Fr.toBelow h.bl hf h.hb, hf.blk h.rb (Ne.symm h2), hf.blk h.fb (Ne.symm h5), hf.blk h.ob (Ne.symm h1), h.rows.fr hf h.nb, h.hb, h.hO⟩
theorem PS.below (h : PS w0 b O ts r cap w s p mv fv cv cs) (hf : Below w.heap.size w w') : PS w0 b O ts r cap w' s p mv fv cv cs :=
  h.call (Fr.of_below hf) (by obtain ⟨j, hj⟩ := h.at_; exact ⟨j, hj.below hf⟩)
theorem PS.alloc (h : PS w0 b O ts r cap w s p mv fv cv cs) (o : Obj) : PS w0 b O ts r cap (w.alloc o) s p mv fv cv cs := h.below (bl_alloc (bl_refl _) o)
theorem PS.drew (h : PS w0 b O ts r cap w s p mv fv cv cs) : PS w0 b O ts r cap w.drew s p mv fv cv cs := h.below (bl_drew (bl_refl _))
theorem PS.lt (h : PS w0 b O ts r cap w s p mv fv cv cs) : O < w.heap.size ∧ w0.heap.size < w.heap.size := ⟨h.ob.lt, h.rb.lt⟩
theorem PS.cell (h : PS w0 b O ts r cap w s p mv fv cv cs) (k : Nat) (v : Value) (hv : (planC p mv fv cv)[k]? = some v) : w.cell? ⟨O, k, none⟩ = some v ∧ w.frozen? ⟨O, k, none⟩ = false := ⟨(h.ob.cell k).trans hv, h.ob.frozen k⟩
/-- stores into the plan itself, the rows as they are -/
theorem PS.putO (h : PS w0 b O ts r cap w s p mv fv cv cs) (k : Nat) (vs : List Value) (q : Plan) (hc : setsA (planC p mv fv cv) k vs = planC q mv fv cv) (h1 : q.mets = p.mets) (h2 : q.fees = p.fees) (h3 : q.chgs = p.chgs) : PS w0 b O ts r cap (puts w O k vs) s q mv fv cv cs := by
  obtain ⟨e1, e2, e3, e4, e5⟩ := h.nes
  obtain ⟨j, hj⟩ := h.at_
  have hO := h.hO
  have hr := h.rows.puts_ h.nO k vs
  exact ⟨⟨j, hj.putAll e1 e3 k vs⟩, bl_puts h.bl (by omega) k vs, h.rb.putsFar (by omega) k vs, h.fb.putsFar (by omega) k vs, by have := h.ob.putAll vs k; rwa [hc] at this,
    ⟨by rw [h1]; exact hr.mo, by rw [h2]; exact hr.fo, hr.co, by rw [h3]; exact hr.eq, hr.ne⟩, h.hb, hO⟩
/-- stores into a block of one's own -/
theorem PS.putM (h : PS w0 b O ts r cap w s p mv fv cv cs) {g : Nat} {T : TypeId} {cells : Array Value} (hk : Blk w g T cells) (t1 : 102 ≠ T) (t2 : 29 ≠ T) (t4 : 37 ≠ T) (t3 : 105 ≠ T) (hg : w0.heap.size ≤ g) (hn : ¬ blocks mv fv cv cs g) (k : Nat) (vs : List Value) : PS w0 b O ts r cap (puts w g k vs) s p mv fv cv cs := by
  obtain ⟨j, hj⟩ := h.at_
  have e1 := Blk.ne_ hj.blk hk t1
  have e2 := Blk.ne_ h.ob hk t2
  have e3 := Blk.ne_ h.rb hk t2
  have e5 := Blk.ne_ h.fb hk t4
  have e4 : r ≠ g := fun e => own_ne_blk hj.row hk t3 (congrArg some e)
  exact ⟨⟨j, hj.putAll e1 e4 k vs⟩, bl_puts h.bl hg k vs, h.rb.putsFar e3 k vs, h.fb.putsFar e5 k vs, h.ob.putsFar e2 k vs, h.rows.puts_ hn k vs, h.hb, h.hO⟩
theorem PS.grown {e : TypeId} {size n : Nat} {v : Value} {xs : List Value} (h : PS w0 b O ts r cap w s p mv fv cv cs) (ho : w.ownsRow w0.heap.size e size v n xs) (hg : w.grownBy w' v.ownBlock) (t1 : e ≠ 102) (t2 : e ≠ 29) (t4 : e ≠ 37) (t3 : e ≠ 105) :
    (∃ j, PAt w' b ts r cap j s) ∧ Below w0.heap.size w0 w' ∧ Blk w' w0.heap.size 29 (planC noPlan (.slice none 0 0) (.slice none 0 0) (.slice none 0 0)) ∧ Blk w' (w0.heap.size + 1) 37 #[.int .i64 0, .int .i64 0, .int .i64 0] ∧ Blk w' O 29 (planC p mv fv cv) := by
  obtain ⟨j, hj⟩ := h.at_
  refine ⟨⟨j, hj.grown hg (own_ne_blk ho hj.blk t1) (fun e => own_ne_own ho hj.row t3 e rfl)⟩, h.bl.grown hg h.bl.size (fun k hk => (ho.lt k hk).1), h.rb.grown hg (fun e => own_ne_blk ho h.rb t2 e.symm), h.fb.grown hg (fun e => own_ne_blk ho h.fb t4 e.symm), h.ob.grown hg (fun e => own_ne_blk ho h.ob t2 e.symm)⟩
theorem PS.addMet {mv' : Value} {m : Met} (h : PS w0 b O ts r cap w s p mv fv cv cs) (hg : w.grownBy w' mv.ownBlock) (ho : w'.ownsRow w0.heap.size 58 5 mv' (p.mets.length + 1) (p.mets.flatMap metF ++ metF m)) :
    Blk w' O 29 (planC p mv fv cv) ∧ PS w0 b O ts r cap (puts w' O 8 [mv']) s { p with mets := p.mets ++ [m] } mv' fv cv cs := by
  obtain ⟨e1, e2, e3, e4, e5⟩ := h.nes
  obtain ⟨⟨j, hj⟩, hb, hr, hfb, hob⟩ := h.grown h.rows.mo hg (by decide) (by decide) (by decide) (by decide)
  have hrows := h.rows.addMet hg ho
  have hn := hrows.apart hob (by decide) (by decide) (by decide) (by decide) (by decide)
  have hO := h.hO
  exact ⟨hob, ⟨j, hj.putAll e1 e3 8 _⟩, bl_puts hb (by omega) 8 _, hr.putsFar (by omega) 8 _, hfb.putsFar (by omega) 8 _, hob.putAll [mv'] 8, hrows.puts_ hn 8 _, h.hb, hO⟩
theorem PS.addFee {fv' : Value} {f : Fee} (h : PS w0 b O ts r cap w s p mv fv cv cs) (hg : w.grownBy w' fv.ownBlock) (ho : w'.ownsRow w0.heap.size 62 10 fv' (p.fees.length + 1) (p.fees.flatMap feeF ++ feeF f)) :
    Blk w' O 29 (planC p mv fv cv) ∧ PS w0 b O ts r cap (puts w' O 9 [fv']) s { p with fees := p.fees ++ [f] } mv fv' cv cs := by
  obtain ⟨e1, e2, e3, e4, e5⟩ := h.nes
  obtain ⟨⟨j, hj⟩, hb, hr, hfb, hob⟩ := h.grown h.rows.fo hg (by decide) (by decide) (by decide) (by decide)
  have hrows := h.rows.addFee hg ho
  have hn := hrows.apart hob (by decide) (by decide) (by decide) (by decide) (by decide)
  have hO := h.hO
  exact ⟨hob, ⟨j, hj.putAll e1 e3 9 _⟩, bl_puts hb (by omega) 9 _, hr.putsFar (by omega) 9 _, hfb.putsFar (by omega) 9 _, hob.putAll [fv'] 9, hrows.puts_ hn 9 _, h.hb, hO⟩
theorem PS.addChg {cv' tv av : Value} {c : Chg} (h : PS w0 b O ts r cap w s p mv fv cv cs) (ht : TiersLie w0.heap.size w tv c.tiers) (ha : AdjsLie w0.heap.size w av c.adjs) (hg : w.grownBy w' cv.ownBlock) (ho : w'.ownsRow w0.heap.size 66 16 cv' (cs.length + 1) (cs.flatMap chgF ++ chgF (c, tv, av))) :
    Blk w' O 29 (planC p mv fv cv) ∧ PS w0 b O ts r cap (puts w' O 10 [cv']) s { p with chgs := p.chgs ++ [c] } mv fv cv' (cs ++ [(c, tv, av)]) := by
  obtain ⟨e1, e2, e3, e4, e5⟩ := h.nes
  obtain ⟨⟨j, hj⟩, hb, hr, hfb, hob⟩ := h.grown h.rows.co hg (by decide) (by decide) (by decide) (by decide)
  have hrows := h.rows.addChg ht ha hg ho
  have hn := hrows.apart hob (by decide) (by decide) (by decide) (by decide) (by decide)
  have hO := h.hO
  exact ⟨hob, ⟨j, hj.putAll e1 e3 10 _⟩, bl_puts hb (by omega) 10 _, hr.putsFar (by omega) 10 _, hfb.putsFar (by omega) 10 _, hob.putAll [cv'] 10, hrows.puts_ hn 10 _, h.hb, hO⟩
end
end Go.Proofs.YtcgkfgklggjmaaaGreatDoor.Par
end
section
namespace Go.Proofs.YtcgkfgklggjmaaaGreatDoor.Par
set_option linter.unusedVariables false
set_option linter.unusedSimpArgs false
open Go.RowKit
theorem P_item_met {p : Plan} {s : St} {o : Int × St} (h : P.one [wMeter, wFee, wCharge] 0 s = o) (h1 : o.1 = 0) : P.item dp npV p s = ({ p with mets := p.mets ++ [(P.meter npV (peek s).line (peek s).col o.2).1] }, (P.meter npV (peek s).line (peek s).col o.2).2) := by
  subst h; unfold P.item; simp only; rw [if_pos h1]
theorem P_item_fee {p : Plan} {s : St} {o : Int × St} (h : P.one [wMeter, wFee, wCharge] 0 s = o) (h1 : o.1 = 1) : P.item dp npV p s = ({ p with fees := p.fees ++ [(P.fee dp npV (peek s).line (peek s).col o.2).1] }, (P.fee dp npV (peek s).line (peek s).col o.2).2) := by
  subst h; unfold P.item; simp only; rw [if_neg (by omega), if_pos h1]
theorem P_item_chg {p : Plan} {s : St} {o : Int × St} (h : P.one [wMeter, wFee, wCharge] 0 s = o) (h1 : o.1 = 2) : P.item dp npV p s = ({ p with chgs := p.chgs ++ [(P.charge dp npV (peek s).line (peek s).col o.2).1] }, (P.charge dp npV (peek s).line (peek s).col o.2).2) := by
  subst h; unfold P.item; simp only; rw [if_neg (by omega), if_neg (by omega), if_pos h1]
theorem P_item_none {p : Plan} {s : St} {o : Int × St} (h : P.one [wMeter, wFee, wCharge] 0 s = o) (h1 : o.1 < 0) : P.item dp npV p s = (p, P.must [wSemi] (fail 4 (peek s) o.2)) := by
  subst h; unfold P.item; simp only; rw [if_neg (by omega), if_neg (by omega), if_neg (by omega)]
theorem puts_setRow {g : Nat} {T : TypeId} : ∀ (vs : List Value) (k : Nat) (cur : Array Value) (w : World), Blk w g T cur → vs ≠ [] → puts w g k vs = w.setRow g (setsA cur k vs)
  | [], _, _, _, _, h => absurd rfl h
  | [v], k, cur, w, hb, _ => setCell_eq_setRow w g k cur T (0, 0) v hb
  | v :: u :: vs, k, cur, w, hb, _ => by
    have h1 := puts_setRow (u :: vs) (k + 1) (cur.setIfInBounds k v) (w.setCell ⟨g, k, none⟩ v) (hb.set_ k v) (by simp)
    rw [puts, h1, setCell_eq_setRow w g k cur T (0, 0) v hb, setRow_setRow]
    rfl
theorem run_puts (w : World) (g : Nat) (T : TypeId) (old : Array Value) (new : List Value) (hb : Blk w g T old) (hn : new ≠ []) (hs : setsA old 0 new = new.toArray) (hl : new.length = old.size) (h1 : ∀ v ∈ new, v.oneCell' = true) : (storeCells ⟨g, 0, none⟩ new).run Tryz.prog w = .ok () (puts w g 0 new) := by
  have hq := run_storeCells_from (P := Tryz.prog) g T new 0 old w hb (by rw [Nat.zero_add]; exact hl) h1
  rw [puts_setRow new 0 old w hb hn, hs]
  simpa using hq
set_option maxHeartbeats 16000000 in
set_option maxRecDepth 100000 in
theorem item_any {w0 w : World} {b O : Nat} {ts : List Tok} {r cap : Nat} {s : St} {p : Plan} {mv fv cv : Value} {cs : List CT} (h : PS w0 b O ts r cap w s p mv fv cv cs) (hT : TK ts cap) (hD : Dec.DT w0) (hcnt : p.mets.length + p.fees.length + cs.length < 100000) :
    Calls Tryz.prog 54 #[.pointer (some ⟨b, 0, none⟩), .pointer (some ⟨O, 0, none⟩)] w fun en w' => en = .returned (.tuple #[]) ∧ ∃ mv' fv' cv' cs', PS w0 b O ts r cap w' (P.item dp npV p s).2 (P.item dp npV p s).1 mv' fv' cv' cs' := by
  have hlb := hT.lb
  have hcb := hT.capb
  obtain ⟨I, hI⟩ : ∃ I, I = P.item dp npV p s := ⟨_, rfl⟩
  rw [← hI]
  have hpk := fun v i (h : PAt v b ts r cap i s) => peek_any h hlb hcb
  have hea := fun v i (x : ByteArray) (h : PAt v b ts r cap i s) => eat_any h hlb hcb x
  generalize ht : peek s = t at *
  unfold tokV at hpk
  cases c0 : (P.eat wMeter s).1 with
  | true =>
    obtain ⟨i0, hP0⟩ := h.at_
    have hpk0 := hpk _ _ hP0
    have e1 : P.one [wMeter, wFee, wCharge] 0 s = (0, (P.eat wMeter s).2) := by rw [pone_hit _ _ _ _ c0] <;> rfl
    rw [P_item_met e1 rfl, ht] at hI
    clear e1
    have ea0 := fun v i (h : PAt v b ts r cap i s) => hea v i wMeter h
    rw [c0] at ea0
    clear hea hpk
    generalize P.eat wMeter s = u at *
    obtain ⟨u1, u2⟩ := u
    simp only at ea0 hI
    replace ea0 := Lib.hid ea0
    unfold P.meter at hI
    simp only at hI
    have a1 := fun v i (h : PAt v b ts r cap i u2) => kind_any h hlb hcb 1
    generalize P.kind 1 u2 = m at *
    obtain ⟨m1, m2⟩ := m
    simp only at hI a1
    replace a1 := Lib.hid a1
    have a2 := fun v i (h : PAt v b ts r cap i m2) => must1 h hT wUnit
    generalize P.must [wUnit] m2 = m3 at *
    generalize peek m2 = tk1 at *
    unfold tokV at a2
    replace a2 := Lib.hid a2
    have a3 := fun v i (h : PAt v b ts r cap i m3) => kind_any h hlb hcb 1
    generalize P.kind 1 m3 = y at *
    obtain ⟨y1, y2⟩ := y
    simp only at hI a3
    replace a3 := Lib.hid a3
    have a4 := fun v i (h : PAt v b ts r cap i y2) => must1 h hT wMax
    generalize P.must [wMax] y2 = m4 at *
    generalize peek y2 = tk2 at *
    unfold tokV at a4
    replace a4 := Lib.hid a4
    have a5 := fun v i (h : PAt v b ts r cap i m4) (hD : Dec.DT v) => number_any h hT hD 0 2000
    generalize P.number npV 0 2000 m4 = x at *
    obtain ⟨x1, x2⟩ := x
    simp only at hI a5
    replace a5 := Lib.hid a5
    have a6 := fun v i (h : PAt v b ts r cap i x2) => must1 h hT wSemi
    generalize P.must [wSemi] x2 = su at *
    generalize peek x2 = tk3 at *
    unfold tokV at a6
    replace a6 := Lib.hid a6
    subst hI
    go_enter Tryz.func54, Tryz.ntmps54
    go_wp2_with fail
    refine hpk0.mono ?_
    rintro e w1 ⟨rfl, hb1⟩
    have hS1 := (h.below hb1).alloc (.cells #[.int .i64 t.kind, .string t.text, .int .i64 t.line, .int .i64 t.col] 105)
    have kt1 := Blk.new w1 105 #[.int .i64 t.kind, .string t.text, .int .i64 t.line, .int .i64 t.col]
    have hlw := (h.below hb1).lt
    have hbw : b < w1.heap.size := by obtain ⟨j, hj⟩ := (h.below hb1).at_; exact hj.blk.lt
    clear hpk0 hP0 hb1
    obtain ⟨i2, hP2⟩ := hS1.at_
    go_wp2_with fail
    refine (ea0.out _ _ hP2).mono ?_
    rintro e v2 ⟨rfl, hA2, hF2⟩
    have hS2 := hS1.call hF2 hA2
    have kM2 := hF2.blk kt1 (by omega)
    clear hP2 hA2 hF2
    have hSx : PS w0 b O ts r cap v2 u2 p mv fv cv cs := hS2
    have kt2 : Blk v2 w1.heap.size 105 #[.int .i64 t.kind, .string t.text, .int .i64 t.line, .int .i64 t.col] := kM2
    have hnb := fun g (h : blocks mv fv cv cs g) => hSx.rows.lt h
    replace hnb := Lib.hid hnb
    clear hS1 hS2 kt1 kM2 ea0 h
    go_upto_region 3 with fail
    go_cut [5] (fun vM wx => ∃ M, vM = .pointer (some ⟨M, 0, none⟩) ∧ PS w0 b O ts r cap wx m2 p mv fv cv cs ∧ Blk wx M 58 #[.string m1, .string ⟨#[]⟩, .int .i64 0, .int .i64 t.line, .int .i64 t.col] ∧ v2.heap.size ≤ M)
    case first =>
      obtain ⟨k0, k1, k2, k3, _⟩ := kt2.c4
      have hA2 : PS w0 b O ts r cap v2.drew u2 p mv fv cv cs := hSx.drew
      have hB2 : PS w0 b O ts r cap (v2.alloc (.cells #[.string ⟨#[]⟩, .string ⟨#[]⟩, .int .i64 0, .int .i64 0, .int .i64 0] 58)).drew u2 p mv fv cv cs := (hSx.alloc (.cells #[.string ⟨#[]⟩, .string ⟨#[]⟩, .int .i64 0, .int .i64 0, .int .i64 0] 58)).drew
      have kA2 : Blk v2.drew w1.heap.size 105 #[.int .i64 t.kind, .string t.text, .int .i64 t.line, .int .i64 t.col] := kt2.drew
      have kB2 : Blk (v2.alloc (.cells #[.string ⟨#[]⟩, .string ⟨#[]⟩, .int .i64 0, .int .i64 0, .int .i64 0] 58)).drew w1.heap.size 105 #[.int .i64 t.kind, .string t.text, .int .i64 t.line, .int .i64 t.col] := (kt2.alloc (.cells #[.string ⟨#[]⟩, .string ⟨#[]⟩, .int .i64 0, .int .i64 0, .int .i64 0] 58)).drew
      have kM2b : Blk (v2.alloc (.cells #[.string ⟨#[]⟩, .string ⟨#[]⟩, .int .i64 0, .int .i64 0, .int .i64 0] 58)).drew v2.heap.size 58 #[.string ⟨#[]⟩, .string ⟨#[]⟩, .int .i64 0, .int .i64 0, .int .i64 0] := (Blk.new v2 58 #[.string ⟨#[]⟩, .string ⟨#[]⟩, .int .i64 0, .int .i64 0, .int .i64 0]).drew
      have hl2 := kt2.lt
      have hp := fun W (h : PS w0 b O ts r cap W u2 p mv fv cv cs) => (fun hA => a1.out W _ hA.choose_spec) h.at_
      replace hp := Lib.hid hp
      clear a1
      have k2d : v2.drew.cell? ⟨w1.heap.size, 2, none⟩ = some (.int .i64 t.line) := k2
      have k3d : v2.drew.cell? ⟨w1.heap.size, 3, none⟩ = some (.int .i64 t.col) := k3
      have l2d : w1.heap.size < v2.drew.heap.size := hl2
      obtain ⟨_, _, k2b, k3b, _⟩ := kB2.c4
      have l2b := kB2.lt
      go_region_held3 (fun w' => w'.cell? ⟨w1.heap.size, 2, none⟩ = some (.int .i64 t.line) ∧ w'.cell? ⟨w1.heap.size, 3, none⟩ = some (.int .i64 t.col) ∧ w1.heap.size < w'.heap.size)
        (refine ⟨?_, ?_, ?_⟩ <;> with_reducible assumption)
        ((go_at_call 51; refine (hp.out _ (by with_reducible assumption)).mono ?_; rintro e w3 ⟨rfl, hA3, hF3⟩; (have kt3 : Blk w3 w1.heap.size 105 #[.int .i64 t.kind, .string t.text, .int .i64 t.line, .int .i64 t.col] := hF3.blk (by with_reducible assumption) (by omega)); obtain ⟨j0_, j1_, j2_, j3_, _⟩ := kt3.c4; (have hl3 := kt3.lt); (have kt3a := kt3.alloc (.cells #[.string ⟨#[]⟩, .string ⟨#[]⟩, .int .i64 0, .int .i64 0, .int .i64 0] 58)); obtain ⟨_, _, a2_, a3_, _⟩ := kt3a.c4; (have la_ := kt3a.lt); (have kt3b := kt3.alloc (.cells #[.string m1, .string ⟨#[]⟩, .int .i64 0, .int .i64 t.line, .int .i64 t.col] 58)); obtain ⟨_, _, b2_, b3_, _⟩ := kt3b.c4; (have lb_ := kt3b.lt); (try ((have kM3 : Blk w3 v2.heap.size 58 #[.string ⟨#[]⟩, .string ⟨#[]⟩, .int .i64 0, .int .i64 0, .int .i64 0] := hF3.blk (by with_reducible assumption) (by omega)); obtain ⟨s0_, s1_, s2_, s3_, s4_, r0_, r1_, r2_, r3_, r4_⟩ := kM3.c5; (have hlM3 := kM3.lt); (have kP3 : Blk (((((w3.setCell ⟨v2.heap.size, 0, none⟩ (.string m1)).setCell ⟨v2.heap.size, 1, none⟩ (.string ⟨#[]⟩)).setCell ⟨v2.heap.size, 2, none⟩ (.int .i64 0)).setCell ⟨v2.heap.size, 3, none⟩ (.int .i64 t.line)).setCell ⟨v2.heap.size, 4, none⟩ (.int .i64 t.col)) w1.heap.size 105 #[.int .i64 t.kind, .string t.text, .int .i64 t.line, .int .i64 t.col] := kt3.putsFar (g' := v2.heap.size) (by omega) 0 [.string m1, .string ⟨#[]⟩, .int .i64 0, .int .i64 t.line, .int .i64 t.col]); obtain ⟨_, _, c2_, c3_, _⟩ := kP3.c4; (have lc_ := kP3.lt)))))
      all_goals
        have hsz3 := hF3.size
        go_wp2_with fail
        go_meet
        first
          | exact ⟨w3.heap.size, rfl, (hA2.call hF3 hA3).alloc _, Blk.new _ _ _, hsz3⟩
          | exact ⟨v2.heap.size, rfl, (hB2.call hF3 hA3).putM kM3 (by decide) (by decide) (by decide) (by decide) hSx.bl.size (fun h => by have := hnb.out _ h; omega) 0 [.string m1, .string ⟨#[]⟩, .int .i64 0, .int .i64 t.line, .int .i64 t.col], kM3.putAll [.string m1, .string ⟨#[]⟩, .int .i64 0, .int .i64 t.line, .int .i64 t.col] 0, Nat.le_refl _⟩
    case rest =>
      obtain ⟨M, rfl, hS30, kM30, hM⟩ := hcut
      have hnM : ¬ blocks mv fv cv cs M := fun h => by have := hnb.out M h; omega
      have hlx := hSx.bl.size
      have hlt2 := kt2.lt
      clear hSx kt2 a1 hnb
      obtain ⟨i31, hP31⟩ := hS30.at_
      go_wp2_with fail
      refine (a2.out _ _ hP31 _ (by simp [puts, World.setCell])).mono ?_
      rintro e v31 ⟨rfl, hA31, hF31⟩
      have hS31 := hS30.call hF31 hA31
      have kM31 := hF31.blk kM30 (by omega)
      clear hP31 hA31 hF31
      obtain ⟨i32, hP32⟩ := hS31.at_
      go_wp2_with fail
      refine (a3.out _ _ hP32).mono ?_
      rintro e v32 ⟨rfl, hA32, hF32⟩
      have hS32 := hS31.call hF32 hA32
      have kM32 := hF32.blk kM31 (by omega)
      clear hP32 hA32 hF32
      obtain ⟨s0_, s1_, s2_, s3_, s4_, r0_, r1_, r2_, r3_, r4_⟩ := kM32.c5
      have hlM33 := kM32.lt
      have hS33 := hS32.putM kM32 (by decide) (by decide) (by decide) (by decide) (by have := hS32.bl.size; omega) hnM 1 [.string y1]
      have kM33 : Blk _ M 58 #[.string m1, .string y1, .int .i64 0, .int .i64 t.line, .int .i64 t.col] := kM32.putAll [.string y1] 1
      obtain ⟨i34, hP34⟩ := hS33.at_
      go_wp2_with fail
      refine (a4.out _ _ hP34 _ (by simp [puts, World.setCell])).mono ?_
      rintro e v34 ⟨rfl, hA34, hF34⟩
      have hS34 := hS33.call hF34 hA34
      have kM34 := hF34.blk kM33 (by omega)
      clear hP34 hA34 hF34
      clear s0_ s1_ s2_ s3_ s4_ r0_ r1_ r2_ r3_ r4_
      obtain ⟨i35, hP35⟩ := hS34.at_
      go_wp2_with fail
      refine (a5.out _ _ hP35 (hD.below hS34.bl)).mono ?_
      rintro e v35 ⟨rfl, hA35, hF35⟩
      have hS35 := hS34.call hF35 hA35
      have kM35 := hF35.blk kM34 (by omega)
      clear hP35 hA35 hF35
      obtain ⟨s0_, s1_, s2_, s3_, s4_, r0_, r1_, r2_, r3_, r4_⟩ := kM35.c5
      have hlM36 := kM35.lt
      have hS36 := hS35.putM kM35 (by decide) (by decide) (by decide) (by decide) (by have := hS35.bl.size; omega) hnM 2 [.int .i64 x1]
      have kM36 : Blk _ M 58 #[.string m1, .string y1, .int .i64 x1, .int .i64 t.line, .int .i64 t.col] := kM35.putAll [.int .i64 x1] 2
      obtain ⟨q8, q8'⟩ := hS35.cell 8 mv rfl
      have hlS := hS35.lt
      have hMO : M ≠ O := Blk.ne_ kM36 hS36.ob (by decide)
      have hS50 := (hS36.alloc (.cells #[.string m1, .string y1, .int .i64 x1, .int .i64 t.line, .int .i64 t.col] 58)).drew
      have hnew : ((puts v35 M 2 [.int .i64 x1]).alloc (.cells #[.string m1, .string y1, .int .i64 x1, .int .i64 t.line, .int .i64 t.col] 58)).drew.heap[v35.heap.size]? = some (.cells #[.string m1, .string y1, .int .i64 x1, .int .i64 t.line, .int .i64 t.col] 58) := by
        have hq := heap_alloc_new (puts v35 M 2 [.int .i64 x1]) (.cells #[.string m1, .string y1, .int .i64 x1, .int .i64 t.line, .int .i64 t.col] 58)
        rwa [(puts_heap [.int .i64 x1] v35 2).2.1] at hq
      have hsz50 := hS50.bl.size
      obtain ⟨iM, hM0, hM1, hM2, hM3⟩ := info_parts metInfo
      go_wp2_with fail
      go_region_law (refine step_append_lies _ rfl (.tmp 38) (.tmp 40) 25 rfl w0.heap.size 58 iM _ 5 56 Tryz.underlying25 hM0 hM1 hM2 hM3 rfl (by decide) _ _ _ rfl hS50.rows.mo ⟨v35.heap.size, 0, none⟩ 1 1 [.string m1, .string y1, .int .i64 x1, .int .i64 t.line, .int .i64 t.col] rfl rfl (World.news_of_block (cs := #[.string m1, .string y1, .int .i64 x1, .int .i64 t.line, .int .i64 t.col]) (t := 58) (fr := (0, 0)) hnew) (by simp [Value.oneCell']) (by decide) (by unfold maxLen; omega) (by omega) hsz50 _ rfl ?_; intro g cp w10 hown10 hgrow10 hat10 hlt10; obtain ⟨hob10, hS51⟩ := hS50.addMet (m := ⟨m1, y1, x1, t.line, t.col⟩) hgrow10 hown10; (have n8 : w10.cell? ⟨O, 8, none⟩ = some mv := hob10.cell 8); (have n8' := hob10.frozen 8); have hl10 := hob10.lt)
      all_goals
        obtain ⟨i60, hP60⟩ := hS51.at_
        go_wp2_with fail
        refine (a6.out _ _ hP60 _ (by simp [puts, World.setCell])).mono ?_
        rintro e w11 ⟨rfl, hA11, hF11⟩
        go_wp2_with fail
        go_end0
        exact ⟨rfl, _, fv, cv, cs, hS51.call hF11 hA11⟩
  | false =>
    cases c1 : (P.eat wFee s).1 with
    | true =>
      obtain ⟨i0, hP0⟩ := h.at_
      have hpk0 := hpk _ _ hP0
      have e1 : P.one [wMeter, wFee, wCharge] 0 s = (1, (P.eat wFee s).2) := by rw [pone_drop _ _ _ _ c0, pone_hit _ _ _ _ c1] <;> rfl
      rw [P_item_fee e1 rfl, ht] at hI
      clear e1
      have ea0 := fun v i (h : PAt v b ts r cap i s) => hea v i wMeter h
      rw [c0, eat_no c0] at ea0
      have ea1 := fun v i (h : PAt v b ts r cap i s) => hea v i wFee h
      rw [c1] at ea1
      clear hea hpk
      generalize P.eat wFee s = u at *
      obtain ⟨u1, u2⟩ := u
      simp only at ea1 hI
      replace ea0 := Lib.hid ea0
      replace ea1 := Lib.hid ea1
      unfold P.fee at hI
      simp only at hI
      have a1 := fun v i (h : PAt v b ts r cap i u2) (hD : Dec.DT v) => number_any h hT hD 0 1000000000000
      generalize P.number npV 0 1000000000000 u2 = x at *
      obtain ⟨x1, x2⟩ := x
      simp only at hI a1
      replace a1 := Lib.hid a1
      have a2 := fun v i (h : PAt v b ts r cap i x2) => window_any h hT
      generalize P.window dp x2 = y at *
      obtain ⟨y1, y2⟩ := y
      simp only at hI a2
      replace a2 := Lib.hid a2
      have a3 := fun v i (h : PAt v b ts r cap i y2) => must1 h hT wSemi
      generalize P.must [wSemi] y2 = su at *
      generalize peek y2 = tk3 at *
      unfold tokV at a3
      replace a3 := Lib.hid a3
      replace a2 := a2.out
      unfold winV at a2
      replace a2 := Lib.hid a2
      subst hI
      go_enter Tryz.func54, Tryz.ntmps54
      go_wp2_with fail
      refine hpk0.mono ?_
      rintro e w1 ⟨rfl, hb1⟩
      have hS1 := (h.below hb1).alloc (.cells #[.int .i64 t.kind, .string t.text, .int .i64 t.line, .int .i64 t.col] 105)
      have kt1 := Blk.new w1 105 #[.int .i64 t.kind, .string t.text, .int .i64 t.line, .int .i64 t.col]
      have hlw := (h.below hb1).lt
      have hbw : b < w1.heap.size := by obtain ⟨j, hj⟩ := (h.below hb1).at_; exact hj.blk.lt
      clear hpk0 hP0 hb1
      obtain ⟨i2, hP2⟩ := hS1.at_
      go_wp2_with fail
      refine (ea0.out _ _ hP2).mono ?_
      rintro e v2 ⟨rfl, hA2, hF2⟩
      have hS2 := hS1.call hF2 hA2
      have kM2 := hF2.blk kt1 (by omega)
      clear hP2 hA2 hF2
      obtain ⟨i3, hP3⟩ := hS2.at_
      go_wp2_with fail
      refine (ea1.out _ _ hP3).mono ?_
      rintro e v3 ⟨rfl, hA3, hF3⟩
      have hS3 := hS2.call hF3 hA3
      have kM3 := hF3.blk kM2 (by omega)
      clear hP3 hA3 hF3
      have hSx : PS w0 b O ts r cap v3 u2 p mv fv cv cs := hS3
      have kt2 : Blk v3 w1.heap.size 105 #[.int .i64 t.kind, .string t.text, .int .i64 t.line, .int .i64 t.col] := kM3
      have hnb := fun g (h : blocks mv fv cv cs g) => hSx.rows.lt h
      replace hnb := Lib.hid hnb
      clear hS1 hS2 hS3 kt1 kM2 kM3 ea0 ea1 h
      go_upto_region 10 with fail
      go_cut [6] (fun vM wx => ∃ M, vM = .pointer (some ⟨M, 0, none⟩) ∧ PS w0 b O ts r cap wx x2 p mv fv cv cs ∧ Blk wx M 62 #[.int .i64 x1, .bool false, .int .i64 0, .int .i64 0, .int .i64 0, .int .i64 0, .int .i64 0, .int .i64 0, .int .i64 t.line, .int .i64 t.col] ∧ v3.heap.size ≤ M)
      case first =>
        obtain ⟨k0, k1, k2, k3, _⟩ := kt2.c4
        have hA2 : PS w0 b O ts r cap v3.drew u2 p mv fv cv cs := hSx.drew
        have hB2 : PS w0 b O ts r cap (v3.alloc (.cells #[.int .i64 0, .bool false, .int .i64 0, .int .i64 0, .int .i64 0, .int .i64 0, .int .i64 0, .int .i64 0, .int .i64 0, .int .i64 0] 62)).drew u2 p mv fv cv cs := (hSx.alloc (.cells #[.int .i64 0, .bool false, .int .i64 0, .int .i64 0, .int .i64 0, .int .i64 0, .int .i64 0, .int .i64 0, .int .i64 0, .int .i64 0] 62)).drew
        have kA2 : Blk v3.drew w1.heap.size 105 #[.int .i64 t.kind, .string t.text, .int .i64 t.line, .int .i64 t.col] := kt2.drew
        have kB2 : Blk (v3.alloc (.cells #[.int .i64 0, .bool false, .int .i64 0, .int .i64 0, .int .i64 0, .int .i64 0, .int .i64 0, .int .i64 0, .int .i64 0, .int .i64 0] 62)).drew w1.heap.size 105 #[.int .i64 t.kind, .string t.text, .int .i64 t.line, .int .i64 t.col] := (kt2.alloc (.cells #[.int .i64 0, .bool false, .int .i64 0, .int .i64 0, .int .i64 0, .int .i64 0, .int .i64 0, .int .i64 0, .int .i64 0, .int .i64 0] 62)).drew
        have kM2b : Blk (v3.alloc (.cells #[.int .i64 0, .bool false, .int .i64 0, .int .i64 0, .int .i64 0, .int .i64 0, .int .i64 0, .int .i64 0, .int .i64 0, .int .i64 0] 62)).drew v3.heap.size 62 #[.int .i64 0, .bool false, .int .i64 0, .int .i64 0, .int .i64 0, .int .i64 0, .int .i64 0, .int .i64 0, .int .i64 0, .int .i64 0] := (Blk.new v3 62 #[.int .i64 0, .bool false, .int .i64 0, .int .i64 0, .int .i64 0, .int .i64 0, .int .i64 0, .int .i64 0, .int .i64 0, .int .i64 0]).drew
        have hl2 := kt2.lt
        have hp := fun W (h : PS w0 b O ts r cap W u2 p mv fv cv cs) => (fun hA => a1.out W _ hA.choose_spec (hD.below h.bl)) h.at_
        replace hp := Lib.hid hp
        clear a1
        have k2d : v3.drew.cell? ⟨w1.heap.size, 2, none⟩ = some (.int .i64 t.line) := k2
        have k3d : v3.drew.cell? ⟨w1.heap.size, 3, none⟩ = some (.int .i64 t.col) := k3
        have l2d : w1.heap.size < v3.drew.heap.size := hl2
        obtain ⟨_, _, k2b, k3b, _⟩ := kB2.c4
        have l2b := kB2.lt
        have hsets : setsA #[.int .i64 0, .bool false, .int .i64 0, .int .i64 0, .int .i64 0, .int .i64 0, .int .i64 0, .int .i64 0, .int .i64 0, .int .i64 0] 0 [.int .i64 x1, .bool false, .int .i64 0, .int .i64 0, .int .i64 0, .int .i64 0, .int .i64 0, .int .i64 0, .int .i64 t.line, .int .i64 t.col] = #[.int .i64 x1, .bool false, .int .i64 0, .int .i64 0, .int .i64 0, .int .i64 0, .int .i64 0, .int .i64 0, .int .i64 t.line, .int .i64 t.col] := by simp [setsA]
        replace hsets := Lib.hid hsets
        go_region_held3 (fun w' => w'.cell? ⟨w1.heap.size, 2, none⟩ = some (.int .i64 t.line) ∧ w'.cell? ⟨w1.heap.size, 3, none⟩ = some (.int .i64 t.col) ∧ w1.heap.size < w'.heap.size)
          (refine ⟨?_, ?_, ?_⟩ <;> with_reducible assumption)
          ((go_at_call 104; refine (hp.out _ (by with_reducible assumption)).mono ?_; rintro e w3 ⟨rfl, hA3, hF3⟩; (have kt3 : Blk w3 w1.heap.size 105 #[.int .i64 t.kind, .string t.text, .int .i64 t.line, .int .i64 t.col] := hF3.blk (by with_reducible assumption) (by omega)); obtain ⟨j0_, j1_, j2_, j3_, _⟩ := kt3.c4; (have hl3 := kt3.lt); (have kt3a := kt3.alloc (.cells #[.int .i64 0, .bool false, .int .i64 0, .int .i64 0, .int .i64 0, .int .i64 0, .int .i64 0, .int .i64 0, .int .i64 0, .int .i64 0] 62)); obtain ⟨_, _, a2_, a3_, _⟩ := kt3a.c4; (have la_ := kt3a.lt); (have kt3b := kt3.alloc (.cells #[.int .i64 x1, .bool false, .int .i64 0, .int .i64 0, .int .i64 0, .int .i64 0, .int .i64 0, .int .i64 0, .int .i64 t.line, .int .i64 t.col] 62)); obtain ⟨_, _, b2_, b3_, _⟩ := kt3b.c4; (have lb_ := kt3b.lt); (try ((have kM3 : Blk w3 v3.heap.size 62 #[.int .i64 0, .bool false, .int .i64 0, .int .i64 0, .int .i64 0, .int .i64 0, .int .i64 0, .int .i64 0, .int .i64 0, .int .i64 0] := hF3.blk (by with_reducible assumption) (by omega)); obtain ⟨s0_, s1_, s2_, s3_, s4_, s5_, s6_, s7_, s8_, s9_, r0_, r1_, r2_, r3_, r4_, r5_, r6_, r7_, r8_, r9_⟩ := kM3.c10; (have hlM3 := kM3.lt); (have kP3 := kt3.putsFar (g' := v3.heap.size) (by omega) 0 [.int .i64 x1, .bool false, .int .i64 0, .int .i64 0, .int .i64 0, .int .i64 0, .int .i64 0, .int .i64 0, .int .i64 t.line, .int .i64 t.col]); simp only [puts, Nat.zero_add, Nat.reduceAdd] at kP3; obtain ⟨_, _, c2_, c3_, _⟩ := kP3.c4; (have lc_ := kP3.lt)))))
        all_goals
          have hsz3 := hF3.size
          go_wp2_with fail
          go_meet
          first
            | exact ⟨w3.heap.size, rfl, (hA2.call hF3 hA3).alloc _, Blk.new _ _ _, hsz3⟩
            | (have q1 := (hB2.call hF3 hA3).putM kM3 (by decide) (by decide) (by decide) (by decide) hSx.bl.size (fun h => by have := hnb.out _ h; omega) 0 [.int .i64 x1, .bool false, .int .i64 0, .int .i64 0, .int .i64 0, .int .i64 0, .int .i64 0, .int .i64 0, .int .i64 t.line, .int .i64 t.col]; have q2 := kM3.putAll [.int .i64 x1, .bool false, .int .i64 0, .int .i64 0, .int .i64 0, .int .i64 0, .int .i64 0, .int .i64 0, .int .i64 t.line, .int .i64 t.col] 0; rw [hsets.out] at q2; simp only [puts, Nat.zero_add, Nat.reduceAdd] at q1 q2; exact ⟨v3.heap.size, rfl, q1, q2, Nat.le_refl _⟩)
      case rest =>
        obtain ⟨M, rfl, hS30, kM30, hM⟩ := hcut
        have hnM : ¬ blocks mv fv cv cs M := fun h => by have := hnb.out M h; omega
        have hlx := hSx.bl.size
        have hlt2 := kt2.lt
        clear hSx kt2 a1 hnb
        obtain ⟨i31, hP31⟩ := hS30.at_
        go_wp2_with fail
        refine (a2.out _ _ hP31).mono ?_
        rintro e v31 ⟨rfl, hA31, hF31⟩
        have hS31 := hS30.call hF31 hA31
        have kM31 := hF31.blk kM30 (by omega)
        clear hP31 hA31 hF31
        obtain ⟨s0_, s1_, s2_, s3_, s4_, s5_, s6_, s7_, s8_, s9_, r0_, r1_, r2_, r3_, r4_, r5_, r6_, r7_, r8_, r9_⟩ := kM31.c10
        have hlM32 := kM31.lt
        have hS32 := hS31.putM kM31 (by decide) (by decide) (by decide) (by decide) (by have := hS31.bl.size; omega) hnM 1 [.bool y1.has, .int .i64 y1.from_.1, .int .i64 y1.from_.2.1, .int .i64 y1.from_.2.2, .int .i64 y1.to_.1, .int .i64 y1.to_.2.1, .int .i64 y1.to_.2.2]
        have kM32 : Blk _ M 62 #[.int .i64 x1, .bool y1.has, .int .i64 y1.from_.1, .int .i64 y1.from_.2.1, .int .i64 y1.from_.2.2, .int .i64 y1.to_.1, .int .i64 y1.to_.2.1, .int .i64 y1.to_.2.2, .int .i64 t.line, .int .i64 t.col] := kM31.putAll [.bool y1.has, .int .i64 y1.from_.1, .int .i64 y1.from_.2.1, .int .i64 y1.from_.2.2, .int .i64 y1.to_.1, .int .i64 y1.to_.2.1, .int .i64 y1.to_.2.2] 1
        obtain ⟨q8, q8'⟩ := hS31.cell 9 fv rfl
        have hlS := hS31.lt
        have hMO : M ≠ O := Blk.ne_ kM32 hS32.ob (by decide)
        have hS50 := (hS32.alloc (.cells #[.int .i64 x1, .bool y1.has, .int .i64 y1.from_.1, .int .i64 y1.from_.2.1, .int .i64 y1.from_.2.2, .int .i64 y1.to_.1, .int .i64 y1.to_.2.1, .int .i64 y1.to_.2.2, .int .i64 t.line, .int .i64 t.col] 62)).drew
        have hnew : ((puts v31 M 1 [.bool y1.has, .int .i64 y1.from_.1, .int .i64 y1.from_.2.1, .int .i64 y1.from_.2.2, .int .i64 y1.to_.1, .int .i64 y1.to_.2.1, .int .i64 y1.to_.2.2]).alloc (.cells #[.int .i64 x1, .bool y1.has, .int .i64 y1.from_.1, .int .i64 y1.from_.2.1, .int .i64 y1.from_.2.2, .int .i64 y1.to_.1, .int .i64 y1.to_.2.1, .int .i64 y1.to_.2.2, .int .i64 t.line, .int .i64 t.col] 62)).drew.heap[v31.heap.size]? = some (.cells #[.int .i64 x1, .bool y1.has, .int .i64 y1.from_.1, .int .i64 y1.from_.2.1, .int .i64 y1.from_.2.2, .int .i64 y1.to_.1, .int .i64 y1.to_.2.1, .int .i64 y1.to_.2.2, .int .i64 t.line, .int .i64 t.col] 62) := by
          have hq := heap_alloc_new (puts v31 M 1 [.bool y1.has, .int .i64 y1.from_.1, .int .i64 y1.from_.2.1, .int .i64 y1.from_.2.2, .int .i64 y1.to_.1, .int .i64 y1.to_.2.1, .int .i64 y1.to_.2.2]) (.cells #[.int .i64 x1, .bool y1.has, .int .i64 y1.from_.1, .int .i64 y1.from_.2.1, .int .i64 y1.from_.2.2, .int .i64 y1.to_.1, .int .i64 y1.to_.2.1, .int .i64 y1.to_.2.2, .int .i64 t.line, .int .i64 t.col] 62)
          rwa [(puts_heap [.bool y1.has, .int .i64 y1.from_.1, .int .i64 y1.from_.2.1, .int .i64 y1.from_.2.2, .int .i64 y1.to_.1, .int .i64 y1.to_.2.1, .int .i64 y1.to_.2.2] v31 1).2.1] at hq
        have hsz50 := hS50.bl.size
        obtain ⟨iM, hM0, hM1, hM2, hM3⟩ := info_parts feeInfo
        go_wp2_with fail
        go_region_law (refine step_append_lies _ rfl (.tmp 61) (.tmp 63) 26 rfl w0.heap.size 62 iM _ 10 80 Tryz.underlying26 hM0 hM1 hM2 hM3 rfl (by decide) _ _ _ rfl hS50.rows.fo ⟨v31.heap.size, 0, none⟩ 1 1 [.int .i64 x1, .bool y1.has, .int .i64 y1.from_.1, .int .i64 y1.from_.2.1, .int .i64 y1.from_.2.2, .int .i64 y1.to_.1, .int .i64 y1.to_.2.1, .int .i64 y1.to_.2.2, .int .i64 t.line, .int .i64 t.col] rfl rfl (World.news_of_block (cs := #[.int .i64 x1, .bool y1.has, .int .i64 y1.from_.1, .int .i64 y1.from_.2.1, .int .i64 y1.from_.2.2, .int .i64 y1.to_.1, .int .i64 y1.to_.2.1, .int .i64 y1.to_.2.2, .int .i64 t.line, .int .i64 t.col]) (t := 62) (fr := (0, 0)) hnew) (by simp [Value.oneCell']) (by decide) (by unfold maxLen; omega) (by omega) hsz50 _ rfl ?_; intro g cp w10 hown10 hgrow10 hat10 hlt10; obtain ⟨hob10, hS51⟩ := hS50.addFee (f := ⟨x1, y1, t.line, t.col⟩) hgrow10 hown10; (have n8 : w10.cell? ⟨O, 9, none⟩ = some fv := hob10.cell 9); (have n8' := hob10.frozen 9); have hl10 := hob10.lt)
        all_goals
          obtain ⟨i60, hP60⟩ := hS51.at_
          go_wp2_with fail
          refine (a3.out _ _ hP60 _ (by simp [puts, World.setCell])).mono ?_
          rintro e w11 ⟨rfl, hA11, hF11⟩
          go_wp2_with fail
          go_end0
          exact ⟨rfl, mv, _, cv, cs, hS51.call hF11 hA11⟩
    | false =>
      cases c2 : (P.eat wCharge s).1 with
      | true =>
        obtain ⟨i0, hP0⟩ := h.at_
        have hpk0 := hpk _ _ hP0
        have e1 : P.one [wMeter, wFee, wCharge] 0 s = (2, (P.eat wCharge s).2) := by rw [pone_drop _ _ _ _ c0, pone_drop _ _ _ _ c1, pone_hit _ _ _ _ c2] <;> rfl
        rw [P_item_chg e1 rfl, ht] at hI
        clear e1
        have ea0 := fun v i (h : PAt v b ts r cap i s) => hea v i wMeter h
        rw [c0, eat_no c0] at ea0
        have ea1 := fun v i (h : PAt v b ts r cap i s) => hea v i wFee h
        rw [c1, eat_no c1] at ea1
        have ea2 := fun v i (h : PAt v b ts r cap i s) => hea v i wCharge h
        rw [c2] at ea2
        clear hea hpk
        generalize P.eat wCharge s = u at *
        obtain ⟨u1, u2⟩ := u
        simp only at ea2 hI
        replace ea0 := Lib.hid ea0
        replace ea1 := Lib.hid ea1
        replace ea2 := Lib.hid ea2
        have a1 := fun v i (h : PAt v b ts r cap i u2) (hD : Dec.DT v) => charge_any h hT hD t
        generalize P.charge dp npV t.line t.col u2 = z at *
        obtain ⟨z, su⟩ := z
        simp only at hI a1
        unfold chgC tokV at a1
        replace a1 := Lib.hid a1
        subst hI
        go_enter Tryz.func54, Tryz.ntmps54
        go_wp2_with fail
        refine hpk0.mono ?_
        rintro e w1 ⟨rfl, hb1⟩
        have hS1 := (h.below hb1).alloc (.cells #[.int .i64 t.kind, .string t.text, .int .i64 t.line, .int .i64 t.col] 105)
        have kt1 := Blk.new w1 105 #[.int .i64 t.kind, .string t.text, .int .i64 t.line, .int .i64 t.col]
        have hlw := (h.below hb1).lt
        have hbw : b < w1.heap.size := by obtain ⟨j, hj⟩ := (h.below hb1).at_; exact hj.blk.lt
        clear hpk0 hP0 hb1
        obtain ⟨i2, hP2⟩ := hS1.at_
        go_wp2_with fail
        refine (ea0.out _ _ hP2).mono ?_
        rintro e v2 ⟨rfl, hA2, hF2⟩
        have hS2 := hS1.call hF2 hA2
        have kM2 := hF2.blk kt1 (by omega)
        clear hP2 hA2 hF2
        obtain ⟨i3, hP3⟩ := hS2.at_
        go_wp2_with fail
        refine (ea1.out _ _ hP3).mono ?_
        rintro e v3 ⟨rfl, hA3, hF3⟩
        have hS3 := hS2.call hF3 hA3
        have kM3 := hF3.blk kM2 (by omega)
        clear hP3 hA3 hF3
        obtain ⟨i4, hP4⟩ := hS3.at_
        go_wp2_with fail
        refine (ea2.out _ _ hP4).mono ?_
        rintro e v4 ⟨rfl, hA4, hF4⟩
        have hS4 := hS3.call hF4 hA4
        have kM4 := hF4.blk kM3 (by omega)
        clear hP4 hA4 hF4
        have hSx : PS w0 b O ts r cap v4 u2 p mv fv cv cs := hS4
        have kt2 : Blk v4 w1.heap.size 105 #[.int .i64 t.kind, .string t.text, .int .i64 t.line, .int .i64 t.col] := kM4
        have hnb := fun g (h : blocks mv fv cv cs g) => hSx.rows.lt h
        replace hnb := Lib.hid hnb
        clear hS1 hS2 hS3 hS4 kt1 kM2 kM3 kM4 ea0 ea1 ea2 h
        have hA2 : PS w0 b O ts r cap v4.drew u2 p mv fv cv cs := hSx.drew
        have hpd := (fun hA => a1.out v4.drew _ hA.choose_spec (hD.below hA2.bl)) hA2.at_
        replace hpd := Lib.hid hpd
        clear a1
        obtain ⟨k0, k1, k2, k3, _⟩ := kt2.c4
        obtain ⟨q10, q10'⟩ := hSx.cell 10 cv rfl
        have hl2 := kt2.lt
        have hlS := hSx.lt
        obtain ⟨iC, hC0, hC1, hC2, hC3⟩ := info_parts chgInfo
        go_wp2_with fail
        go_region_law (first | (refine step_append_lies _ rfl (.tmp 74) (.tmp 78) 27 rfl w0.heap.size 66 iC _ 16 168 Tryz.underlying27 hC0 hC1 hC2 hC3 rfl (by decide) _ _ _ rfl (hS3.rows.co.alloc _) ⟨w3.heap.size, 0, none⟩ 1 1 (chgF (z, .slice At z.tiers.length ct, .slice Aa z.adjs.length ca)) rfl rfl (World.news_of_block (cs := #[.string z.meter, .bool z.win.has, .int .i64 z.win.from_.1, .int .i64 z.win.from_.2.1, .int .i64 z.win.from_.2.2, .int .i64 z.win.to_.1, .int .i64 z.win.to_.2.1, .int .i64 z.win.to_.2.2, .int .i64 z.allow, .int .i64 z.block, .int .i64 z.kind, .slice At z.tiers.length ct, .int .i64 z.mode, .slice Aa z.adjs.length ca, .int .i64 z.line, .int .i64 z.col]) (t := 66) (fr := (0, 0)) (heap_alloc_new _ _)) (by simp [chgF, Value.oneCell']) (by decide) (by unfold maxLen; omega) (by omega) (by simp; omega) _ rfl ?_; intro g cp w10 hown10 hgrow10 hat10 hlt10; obtain ⟨hob10, hS21⟩ := (hS3.alloc _).addChg (World.ownsRow.alloc hti3 _) (World.ownsRow.alloc haj3 _) hgrow10 hown10; (have n8 : w10.cell? ⟨O, 10, none⟩ = some cv := hob10.cell 10); (have n8' := hob10.frozen 10); have hl10 := hob10.lt) | (go_simp; go_at_call 106; refine hpd.out.mono ?_; rintro e w3 ⟨tv, av, rfl, hti, haj, hA3, hF3⟩; (have hS3 := hA2.call hF3 hA3); obtain ⟨q11, q11'⟩ := hS3.cell 10 cv rfl; (have hlS3 := hS3.lt); (have hsz3 := hS3.bl.size); (have hti3 := own_base hti hA2.bl.size); (have haj3 := own_base haj hA2.bl.size); obtain ⟨At, ct, rfl, _, _, _⟩ := Lies.open (Lies.of hti); obtain ⟨Aa, ca, rfl, _, _, _⟩ := Lies.open (Lies.of haj)))
        all_goals
          go_wp2_with fail
          exact bodyPost_ret (results_none rfl _ _ _) rfl ⟨rfl, mv, fv, _, _, hS21⟩
      | false =>
        obtain ⟨i0, hP0⟩ := h.at_
        have hpk0 := hpk _ _ hP0
        have e1 : P.one [wMeter, wFee, wCharge] 0 s = (-1, s) := by rw [pone_drop _ _ _ _ c0, pone_drop _ _ _ _ c1, pone_drop _ _ _ _ c2] <;> rfl
        rw [P_item_none e1 (by show (-1 : Int) < 0; decide), ht] at hI
        clear e1
        have ea0 := fun v i (h : PAt v b ts r cap i s) => hea v i wMeter h
        rw [c0, eat_no c0] at ea0
        have ea1 := fun v i (h : PAt v b ts r cap i s) => hea v i wFee h
        rw [c1, eat_no c1] at ea1
        have ea2 := fun v i (h : PAt v b ts r cap i s) => hea v i wCharge h
        rw [c2, eat_no c2] at ea2
        clear hea hpk
        replace ea0 := Lib.hid ea0
        replace ea1 := Lib.hid ea1
        replace ea2 := Lib.hid ea2
        have a1 := fun v i (h : PAt v b ts r cap i s) => fail_any h 4 (by decide) t
        generalize fail 4 t s = f4 at *
        have a2 := fun v i (h : PAt v b ts r cap i f4) => must1 h hT wSemi
        generalize P.must [wSemi] f4 = su at *
        generalize peek f4 = tk at *
        unfold tokV at a1 a2
        replace a1 := Lib.hid a1
        replace a2 := Lib.hid a2
        subst hI
        go_enter Tryz.func54, Tryz.ntmps54
        go_wp2_with fail
        refine hpk0.mono ?_
        rintro e w1 ⟨rfl, hb1⟩
        have hS1 := (h.below hb1).alloc (.cells #[.int .i64 t.kind, .string t.text, .int .i64 t.line, .int .i64 t.col] 105)
        have kt1 := Blk.new w1 105 #[.int .i64 t.kind, .string t.text, .int .i64 t.line, .int .i64 t.col]
        have hlw := (h.below hb1).lt
        have hbw : b < w1.heap.size := by obtain ⟨j, hj⟩ := (h.below hb1).at_; exact hj.blk.lt
        clear hpk0 hP0 hb1
        obtain ⟨i2, hP2⟩ := hS1.at_
        go_wp2_with fail
        refine (ea0.out _ _ hP2).mono ?_
        rintro e v2 ⟨rfl, hA2, hF2⟩
        have hS2 := hS1.call hF2 hA2
        have kM2 := hF2.blk kt1 (by omega)
        clear hP2 hA2 hF2
        obtain ⟨i3, hP3⟩ := hS2.at_
        go_wp2_with fail
        refine (ea1.out _ _ hP3).mono ?_
        rintro e v3 ⟨rfl, hA3, hF3⟩
        have hS3 := hS2.call hF3 hA3
        have kM3 := hF3.blk kM2 (by omega)
        clear hP3 hA3 hF3
        obtain ⟨i4, hP4⟩ := hS3.at_
        go_wp2_with fail
        refine (ea2.out _ _ hP4).mono ?_
        rintro e v4 ⟨rfl, hA4, hF4⟩
        have hS4 := hS3.call hF4 hA4
        have kM4 := hF4.blk kM3 (by omega)
        clear hP4 hA4 hF4
        have hSx : PS w0 b O ts r cap v4 s p mv fv cv cs := hS4
        have kt2 : Blk v4 w1.heap.size 105 #[.int .i64 t.kind, .string t.text, .int .i64 t.line, .int .i64 t.col] := kM4
        have hnb := fun g (h : blocks mv fv cv cs g) => hSx.rows.lt h
        replace hnb := Lib.hid hnb
        clear hS1 hS2 hS3 hS4 kt1 kM2 kM3 kM4 ea0 ea1 ea2 h
        obtain ⟨k0, k1, k2, k3, _⟩ := kt2.c4
        obtain ⟨i30, hP30⟩ := hSx.at_
        go_wp2_with fail
        refine (a1.out _ _ hP30).mono ?_
        rintro e w11 ⟨rfl, hA11, hF11⟩
        have hS11 := hSx.call hF11 ⟨_, hA11⟩
        go_wp2_with fail
        refine (a2.out _ _ hA11 _ rfl).mono ?_
        rintro e w12 ⟨rfl, hA12, hF12⟩
        go_wp2_with fail
        go_end0
        exact ⟨rfl, mv, fv, cv, cs, hS11.call hF12 hA12⟩
end Go.Proofs.YtcgkfgklggjmaaaGreatDoor.Par
end
section
namespace Go.Proofs.YtcgkfgklggjmaaaGreatDoor.Par
set_option linter.unusedVariables false
set_option linter.unusedSimpArgs false
open Go.RowKit
/-- what the program says of a text is what the reference says -/
theorem PParse_bad {l : List UInt8} {ts : List Tok} {a b : Int} (h : lexAll l = (ts, 0, a, b)) (h0 : (P.plan dp npV ts).2.err ≠ 0) : RParse l = (noPlan, (P.plan dp npV ts).2.err, (P.plan dp npV ts).2.line, (P.plan dp npV ts).2.col) := by
  obtain ⟨e1, e2, e3, _⟩ := plan_same dp npV ts
  rw [RParse_bad h (by rw [← e1]; exact h0), e1, e2, e3]
theorem PParse_ok {l : List UInt8} {ts : List Tok} {a b : Int} (h : lexAll l = (ts, 0, a, b)) (h0 : (P.plan dp npV ts).2.err = 0) : RParse l = ((P.plan dp npV ts).1, 0, 0, 0) := by
  obtain ⟨e1, e2, e3, e4⟩ := plan_same dp npV ts
  rw [RParse_ok h (by rw [← e1]; exact h0), e4 h0]
theorem pplan_eq (ts : List Tok) : P.plan dp npV ts = P.itemsAll dp npV (P.head dp ⟨ts, 0, 0, 0⟩).1 (P.head dp ⟨ts, 0, 0, 0⟩).2 := rfl
theorem lexAll_ok {l : List UInt8} {ts : List Tok} {a b : Int} (h : lexAll l = (ts, 0, a, b)) : a = 0 ∧ b = 0 := by
  unfold lexAll at h
  split at h
  · injection h with _ h; injection h with h _; cases h
  · split at h
    · injection h with _ h; injection h with _ h; injection h with h1 h2; exact ⟨h1.symm, h2.symm⟩
    · injection h with _ h; injection h with h _; cases h
theorem own_capP {w : World} {base : Nat} {e : TypeId} {size n cap : Nat} {A : Option Addr} {xs : List Value} (h : w.ownsRow base e size (.slice A n cap) n xs) : cap ≤ maxLen := by
  rcases h.2 with ⟨h1, _⟩ | ⟨g, c, cur, h1, _, _, _, hm, _⟩
  · injection h1 with _ _ e3; subst e3; exact Nat.zero_le _
  · injection h1 with _ _ e3; subst e3; exact hm
theorem fault_neqE {er li co : Int} (h : er ≠ 0) : ∀ W, (binOp .neq 37 (.agg #[.int .i64 er, .int .i64 li, .int .i64 co]) (.agg #[.int .i64 0, .int .i64 0, .int .i64 0])).run Tryz.prog W = .ok (.bool true) W := fun W => by
  rw [fault_neq er li co 0 0 0 W, beq_eq_false_iff_ne.2 h]; rfl
theorem results_cell_cell_row {P : Program} {fn : Func} {p q : Tmp} {ty ty' : TypeId} (h : fn.results = #[.cell p ty, .cell q ty']) (tmps : Array Value) (w : World) (g g' : Nat) (t t' : TypeId) (cs cs' : Array Value) (d d' : TypeDesc)
    (hp : tmps.getD p undef = .pointer (some ⟨g, 0, none⟩)) (hg : Blk w g t cs) (hq : tmps.getD q undef = .pointer (some ⟨g', 0, none⟩)) (hg' : Blk w g' t' cs')
    (hu : P.underlying ty = some d) (hd : (match d with | .struct _ | .array _ _ => true | _ => false) = true) (hi : (P.info? ty).map (·.size) = some cs.size)
    (hu' : P.underlying ty' = some d') (hd' : (match d' with | .struct _ | .array _ _ => true | _ => false) = true) (hi' : (P.info? ty').map (·.size) = some cs'.size) :
    (results fn tmps).run P w = .ok (.tuple #[.agg cs, .agg cs']) w := by
  have hp' : tmps[p]?.getD undef = .pointer (some ⟨g, 0, none⟩) := by simpa using hp
  have hq' : tmps[q]?.getD undef = .pointer (some ⟨g', 0, none⟩) := by simpa using hq
  simp [results, h, hp', hq', asAddr, run_loadVar_row w g t ty cs (0, 0) d hg hu hd hi, run_loadVar_row w g' t' ty' cs' (0, 0) d' hg' hu' hd' hi']
/-- within the program's Parse, before there is a plan -/
structure PQ (w0 : World) (b : Nat) (ts : List Tok) (r cap : Nat) (w : World) (s : St) : Prop where
  at_ : ∃ j, PAt w b ts r cap j s
  bl : Below w0.heap.size w0 w
  rb : Blk w w0.heap.size 29 (planC noPlan (.slice none 0 0) (.slice none 0 0) (.slice none 0 0))
  fb : Blk w (w0.heap.size + 1) 37 #[.int .i64 0, .int .i64 0, .int .i64 0]
  hb : w0.heap.size ≤ b
section
variable {w0 : World} {b O : Nat} {ts : List Tok} {r cap : Nat} {w w' : World} {s s' : St} {p : Plan}
theorem PQ.nes (h : PQ w0 b ts r cap w s) : b ≠ w0.heap.size ∧ b ≠ w0.heap.size + 1 := by
  obtain ⟨j, hj⟩ := h.at_
  exact ⟨Blk.ne_ hj.blk h.rb (by decide), Blk.ne_ hj.blk h.fb (by decide)⟩
theorem PQ.call (h : PQ w0 b ts r cap w s) (hf : Fr b w w') (ha : ∃ j, PAt w' b ts r cap j s') : PQ w0 b ts r cap w' s' := by
  obtain ⟨h1, h2⟩ := h.nes
  exact ⟨ha, Fr.toBelow h.bl hf h.hb, hf.blk h.rb (Ne.symm h1), hf.blk h.fb (Ne.symm h2), h.hb⟩
theorem PQ.below (h : PQ w0 b ts r cap w s) (hf : Below w.heap.size w w') : PQ w0 b ts r cap w' s :=
  h.call (Fr.of_below hf) (by obtain ⟨j, hj⟩ := h.at_; exact ⟨j, hj.below hf⟩)
theorem PQ.alloc (h : PQ w0 b ts r cap w s) (o : Obj) : PQ w0 b ts r cap (w.alloc o) s := h.below (bl_alloc (bl_refl _) o)
theorem PQ.drew (h : PQ w0 b ts r cap w s) : PQ w0 b ts r cap w.drew s := h.below (bl_drew (bl_refl _))
theorem PQ.lt (h : PQ w0 b ts r cap w s) : w0.heap.size < w.heap.size ∧ w0.heap.size + 1 < w.heap.size := ⟨h.rb.lt, h.fb.lt⟩
theorem PQ.putM (h : PQ w0 b ts r cap w s) {g : Nat} {cells : Array Value} (hk : Blk w g 29 cells) (hg : w0.heap.size + 1 < g) (k : Nat) (vs : List Value) : PQ w0 b ts r cap (puts w g k vs) s := by
  obtain ⟨j, hj⟩ := h.at_
  exact ⟨⟨j, hj.putAll (Blk.ne_ hj.blk hk (by decide)) (fun e => own_ne_blk hj.row hk (by decide) (congrArg some e)) k vs⟩, bl_puts h.bl (by omega) k vs, h.rb.putsFar (by omega) k vs, h.fb.putsFar (by omega) k vs, h.hb⟩
theorem PQ.toPS (h : PQ w0 b ts r cap w s) (ho : Blk w O 29 (planC p (.slice none 0 0) (.slice none 0 0) (.slice none 0 0))) (hO : w0.heap.size + 1 < O) (h1 : p.mets = []) (h2 : p.fees = []) (h3 : p.chgs = []) : PS w0 b O ts r cap w s p (.slice none 0 0) (.slice none 0 0) (.slice none 0 0) [] :=
  ⟨h.at_, h.bl, h.rb, h.fb, ho, Rows.none _ _ _ h1 h2 h3, h.hb, hO⟩
end
/-- the items' loop counts down -/
def measP (s : St) : Nat := 2 * len s + (if s.err = 0 then 1 else 0)
def countP (p : Plan) : Nat := p.mets.length + p.fees.length + p.chgs.length
theorem pitem_all (p : Plan) (s : St) : countP (P.item dp npV p s).1 + len (P.item dp npV p s).2 ≤ countP p + len s ∧ len (P.item dp npV p s).2 ≤ len s := by
  have h1 := len_oned [wMeter, wFee, wCharge] 0 s (by decide)
  have h0 := len_one [wMeter, wFee, wCharge] 0 s
  unfold P.item
  simp only
  have h3 := len_meter npV (peek s).line (peek s).col (P.one [wMeter, wFee, wCharge] 0 s).2
  have h4 := len_fee dp npV (peek s).line (peek s).col (P.one [wMeter, wFee, wCharge] 0 s).2
  have h5 := len_charge dp npV (peek s).line (peek s).col (P.one [wMeter, wFee, wCharge] 0 s).2
  by_cases c0 : (P.one [wMeter, wFee, wCharge] 0 s).1 = 0
  · rw [if_pos c0]
    have h2 := h1 (by omega)
    simp only [countP, List.length_append, List.length_singleton]
    omega
  · rw [if_neg c0]
    by_cases c1 : (P.one [wMeter, wFee, wCharge] 0 s).1 = 1
    · rw [if_pos c1]
      have h2 := h1 (by omega)
      simp only [countP, List.length_append, List.length_singleton]
      omega
    · rw [if_neg c1]
      by_cases c2 : (P.one [wMeter, wFee, wCharge] 0 s).1 = 2
      · rw [if_pos c2]
        have h2 := h1 (by omega)
        simp only [countP, List.length_append, List.length_singleton]
        omega
      · rw [if_neg c2]
        have h6 := len_must [wSemi] (fail 4 (peek s) (P.one [wMeter, wFee, wCharge] 0 s).2)
        rw [len_fail] at h6
        simp only
        omega
theorem pitem_meas {p : Plan} {s : St} (h : s.err = 0) : measP (P.item dp npV p s).2 < measP s := by
  have h1 := (pitem_all p s).2
  have h2 := item_round dp npV p s
  unfold measP
  rw [if_pos h]
  by_cases h3 : (P.item dp npV p s).2.err = 0
  · rw [if_pos h3]
    rcases h2 with h2 | h2
    · exact absurd h3 h2
    · omega
  · rw [if_neg h3]; omega
theorem run_planP (w : World) (g : Nat) (old new : Array Value) (hb : Blk w g 29 old) (hl : new.toList.length = old.size) (h1 : ∀ v ∈ new.toList, v.oneCell' = true) : (storeCells ⟨g, 0, none⟩ new.toList).run Tryz.prog w = .ok () (w.setRow g new) := by
  have hq := run_storeCells_from (P := Tryz.prog) g 29 new.toList 0 old w hb (by rw [Nat.zero_add]; exact hl) h1
  simpa using hq
theorem bl_rowP {w v : World} (h : Below w.heap.size w v) {g : Nat} (hg : w.heap.size ≤ g) (cs : Array Value) : Below w.heap.size w (v.setRow g cs) :=
  ⟨h.os, h.tape, h.output, by rw [setRow_size]; exact h.size, fun i hi => (setRow_far v g i cs (by omega)).trans (h.block i hi)⟩
/-- the program's Parse -/
def ParseOutP (w : World) (l : List UInt8) (e : Ending) (w' : World) : Prop :=
  ∃ v, e = .returned (.tuple #[v, .agg #[.int .i64 (RParse l).2.1, .int .i64 (RParse l).2.2.1, .int .i64 (RParse l).2.2.2]]) ∧ PlanLies w.heap.size w' v (RParse l).1 ∧ Below w.heap.size w w'
set_option maxHeartbeats 16000000 in
set_option maxRecDepth 100000 in
theorem parse7_any (s : ByteArray) (w : World) (hD : Dec.DT w) (hs : s.size ≤ 9223372036854775807) :
    Calls Tryz.prog 19 #[.string s] w (ParseOutP w s.data.toList) := by
  unfold ParseOutP
  obtain ⟨Q, hQ⟩ : ∃ Q, Q = RParse s.data.toList := ⟨_, rfl⟩
  rw [← hQ]
  have HQ := Lib.hid hQ
  clear hQ
  have kz := (Blk.new w 29 (planC noPlan (.slice none 0 0) (.slice none 0 0) (.slice none 0 0))).alloc (.cells #[.int .i64 0, .int .i64 0, .int .i64 0] 37)
  have fz := Blk.new (w.alloc (.cells (planC noPlan (.slice none 0 0) (.slice none 0 0) (.slice none 0 0)) 29)) 37 #[.int .i64 0, .int .i64 0, .int .i64 0]
  rw [World.size_alloc] at fz
  have hbl0 := bl_alloc (bl_alloc (bl_refl w) (.cells (planC noPlan (.slice none 0 0) (.slice none 0 0) (.slice none 0 0)) 29)) (.cells #[.int .i64 0, .int .i64 0, .int .i64 0] 37)
  have hG := (hD.below hbl0).mx
  go_enter Tryz.func19, Tryz.ntmps19
  go_wp2_with fail
  refine (lex_any s _ hG hs).mono ?_
  rintro e w1 ⟨v, ts, er, li, co, rfl, hown, hb1, hall⟩
  unfold lexR
  have hbl1 := bl_call hbl0 hb1
  have kz1 := kz.call hb1
  have fz1 := fz.call hb1
  have hlt1 := kz1.lt
  have hlt1' := fz1.lt
  obtain ⟨A, cap, rfl, hcap, hA⟩ := own_slice hown
  have hcm := own_capP hown
  clear hG kz fz
  by_cases her : er = 0
  · subst her
    obtain ⟨rfl, rfl⟩ := lexAll_ok hall
    have hfn := fault_neq00
    obtain ⟨hne, hlast, hcount⟩ := all_shape hall
    have hsz := all_sizes hall
    have hlen : 0 < ts.length := List.length_pos_iff.2 hne
    obtain ⟨r, rfl⟩ := hA hlen
    obtain ⟨X, hX⟩ : ∃ X, X = P.plan dp npV ts := ⟨_, rfl⟩
    have hbad : X.2.err ≠ 0 → Q = (noPlan, X.2.err, X.2.line, X.2.col) := fun h => by rw [HQ.out, hX]; exact PParse_bad hall (hX ▸ h)
    have hok : X.2.err = 0 → Q = (X.1, 0, 0, 0) := fun h => by rw [HQ.out, hX]; exact PParse_ok hall (hX ▸ h)
    replace hbad := Lib.hid hbad
    replace hok := Lib.hid hok
    have hrlt := (hown.lt r rfl).2
    have hT : TK ts cap := ⟨by omega, by unfold maxLen at hcm; omega, hsz⟩
    have hlb := hT.lb
    have hcb := hT.capb
    have hP0 : PAt ((w1.alloc (.cells #[.int .i64 0, .int .i64 0, .int .i64 0] 37)).alloc (.cells #[.slice (some ⟨r, 0, none⟩) ts.length cap, .int .i64 0, .int .i64 0, .int .i64 0] 102)) (w1.heap.size + 1) ts r cap 0 ⟨ts, 0, 0, 0⟩ := by
      refine ⟨?_, own_base ((hown.alloc _).alloc _) (Nat.zero_le _), by omega, hcap, rfl, hlen, hlast, fun _ => ⟨rfl, rfl⟩⟩
      have := Blk.new (w1.alloc (.cells #[.int .i64 0, .int .i64 0, .int .i64 0] 37)) 102 #[.slice (some ⟨r, 0, none⟩) ts.length cap, .int .i64 0, .int .i64 0, .int .i64 0]
      rw [World.size_alloc] at this
      simpa using this
    clear HQ hall hsz hlast hne
    rw [pplan_eq] at hX
    unfold P.head at hX
    simp only at hX
    generalize ht : peek ⟨ts, 0, 0, 0⟩ = t at *
    clear hfn
    have g1 := fun v i (h : PAt v (w1.heap.size + 1) ts r cap i ⟨ts, 0, 0, 0⟩) => must1 h hT wPlan
    generalize P.must [wPlan] ⟨ts, 0, 0, 0⟩ = m1 at *
    rw [ht] at g1
    clear ht
    unfold tokV at g1
    have g2 := fun v i (h : PAt v (w1.heap.size + 1) ts r cap i m1) => kind_any h hlb hcb 1
    generalize P.kind 1 m1 = n at *
    obtain ⟨n1, n2⟩ := n
    simp only at hX g2
    have g3 := fun v i (h : PAt v (w1.heap.size + 1) ts r cap i n2) => must1 h hT wCurrency
    generalize P.must [wCurrency] n2 = m2 at *
    generalize peek n2 = tk1 at *
    unfold tokV at g3
    have g4 := fun v i (h : PAt v (w1.heap.size + 1) ts r cap i m2) => kind_any h hlb hcb 1
    generalize P.kind 1 m2 = c at *
    obtain ⟨c1, c2⟩ := c
    simp only at hX g4
    have g5 := fun v i (h : PAt v (w1.heap.size + 1) ts r cap i c2) => must2 h hT wSemi wHorizon
    generalize P.must [wSemi, wHorizon] c2 = m3 at *
    generalize peek c2 = tk2 at *
    unfold tokV at g5
    have g6 := fun v i (h : PAt v (w1.heap.size + 1) ts r cap i m3) => day_any h hlb hcb
    generalize P.day dp m3 = f at *
    obtain ⟨f1, f2⟩ := f
    simp only at hX g6
    have g7 := fun v i (h : PAt v (w1.heap.size + 1) ts r cap i f2) => day_any h hlb hcb
    generalize P.day dp f2 = z at *
    obtain ⟨z1, z2⟩ := z
    simp only at hX g7
    have g8 := fun v i (h : PAt v (w1.heap.size + 1) ts r cap i z2) => must1 h hT wSemi
    generalize P.must [wSemi] z2 = q5 at *
    generalize peek z2 = tk3 at *
    unfold tokV at g8
    unfold dayV at g6 g7
    have HX := Lib.hid hX.symm
    clear hX
    replace g1 := Lib.hid g1
    replace g2 := Lib.hid g2
    replace g3 := Lib.hid g3
    replace g4 := Lib.hid g4
    replace g5 := Lib.hid g5
    replace g6 := Lib.hid g6
    replace g7 := Lib.hid g7
    replace g8 := Lib.hid g8
    have hQ0 : PQ w (w1.heap.size + 1) ts r cap ((w1.alloc (.cells #[.int .i64 0, .int .i64 0, .int .i64 0] 37)).alloc (.cells #[.slice (some ⟨r, 0, none⟩) ts.length cap, .int .i64 0, .int .i64 0, .int .i64 0] 102)) ⟨ts, 0, 0, 0⟩ := ⟨⟨0, hP0⟩, bl_alloc (bl_alloc hbl1 _) _, (kz1.alloc _).alloc _, (fz1.alloc _).alloc _, by omega⟩
    clear hP0 kz1 fz1 hbl0 hb1 hbl1 hown
    have hfn := fault_neq00
    obtain ⟨i0, hP0⟩ := hQ0.at_
    go_wp2_with fail
    refine (g1.out _ _ hP0 _ (by simp)).mono ?_
    rintro e w2 ⟨rfl, hA2, hF2⟩
    have hQ1 := (hQ0.call hF2 hA2).alloc (.cells #[.int .i64 t.kind, .string t.text, .int .i64 t.line, .int .i64 t.col] 105)
    have kt := Blk.new w2 105 #[.int .i64 t.kind, .string t.text, .int .i64 t.line, .int .i64 t.col]
    have hsz2 := hF2.size
    simp only [World.size_alloc] at hsz2
    clear hP0 hA2 hF2 g1 hQ0 hfn
    go_upto_region 6 with fail
    generalize w2.alloc (.cells #[.int .i64 t.kind, .string t.text, .int .i64 t.line, .int .i64 t.col] 105) = W at *
    go_cut [8] (fun vM wx => ∃ M, vM = .pointer (some ⟨M, 0, none⟩) ∧ PS w (w1.heap.size + 1) M ts r cap wx n2 (⟨n1, ⟨#[]⟩, (0, 0, 0), (0, 0, 0), [], [], [], t.line, t.col⟩ : Plan) (.slice none 0 0) (.slice none 0 0) (.slice none 0 0) [] ∧ w1.heap.size < M)
    case first =>
      obtain ⟨k0, k1, k2, k3, _⟩ := kt.c4
      have hA2 : PQ w (w1.heap.size + 1) ts r cap W.drew m1 := hQ1.drew
      have hB2 : PQ w (w1.heap.size + 1) ts r cap (W.alloc (.cells #[.string ⟨#[]⟩, .string ⟨#[]⟩, .int .i64 0, .int .i64 0, .int .i64 0, .int .i64 0, .int .i64 0, .int .i64 0, .slice none 0 0, .slice none 0 0, .slice none 0 0, .int .i64 0, .int .i64 0] 29)).drew m1 := (hQ1.alloc (.cells #[.string ⟨#[]⟩, .string ⟨#[]⟩, .int .i64 0, .int .i64 0, .int .i64 0, .int .i64 0, .int .i64 0, .int .i64 0, .slice none 0 0, .slice none 0 0, .slice none 0 0, .int .i64 0, .int .i64 0] 29)).drew
      have kA2 : Blk W.drew w2.heap.size 105 #[.int .i64 t.kind, .string t.text, .int .i64 t.line, .int .i64 t.col] := kt.drew
      have kB2 : Blk (W.alloc (.cells #[.string ⟨#[]⟩, .string ⟨#[]⟩, .int .i64 0, .int .i64 0, .int .i64 0, .int .i64 0, .int .i64 0, .int .i64 0, .slice none 0 0, .slice none 0 0, .slice none 0 0, .int .i64 0, .int .i64 0] 29)).drew w2.heap.size 105 #[.int .i64 t.kind, .string t.text, .int .i64 t.line, .int .i64 t.col] := (kt.alloc (.cells #[.string ⟨#[]⟩, .string ⟨#[]⟩, .int .i64 0, .int .i64 0, .int .i64 0, .int .i64 0, .int .i64 0, .int .i64 0, .slice none 0 0, .slice none 0 0, .slice none 0 0, .int .i64 0, .int .i64 0] 29)).drew
      have kM2b : Blk (W.alloc (.cells #[.string ⟨#[]⟩, .string ⟨#[]⟩, .int .i64 0, .int .i64 0, .int .i64 0, .int .i64 0, .int .i64 0, .int .i64 0, .slice none 0 0, .slice none 0 0, .slice none 0 0, .int .i64 0, .int .i64 0] 29)).drew W.heap.size 29 #[.string ⟨#[]⟩, .string ⟨#[]⟩, .int .i64 0, .int .i64 0, .int .i64 0, .int .i64 0, .int .i64 0, .int .i64 0, .slice none 0 0, .slice none 0 0, .slice none 0 0, .int .i64 0, .int .i64 0] := (Blk.new W 29 #[.string ⟨#[]⟩, .string ⟨#[]⟩, .int .i64 0, .int .i64 0, .int .i64 0, .int .i64 0, .int .i64 0, .int .i64 0, .slice none 0 0, .slice none 0 0, .slice none 0 0, .int .i64 0, .int .i64 0]).drew
      have hl2 := kt.lt
      have hlQ := hQ1.lt
      have hp := fun V (h : PQ w (w1.heap.size + 1) ts r cap V m1) => (fun hA => g2.out V _ hA.choose_spec) h.at_
      replace hp := Lib.hid hp
      clear g2
      have k2d : W.drew.cell? ⟨w2.heap.size, 2, none⟩ = some (.int .i64 t.line) := k2
      have k3d : W.drew.cell? ⟨w2.heap.size, 3, none⟩ = some (.int .i64 t.col) := k3
      have l2d : w2.heap.size < W.drew.heap.size := hl2
      obtain ⟨_, _, k2b, k3b, _⟩ := kB2.c4
      have l2b := kB2.lt
      have hsets : setsA #[.string ⟨#[]⟩, .string ⟨#[]⟩, .int .i64 0, .int .i64 0, .int .i64 0, .int .i64 0, .int .i64 0, .int .i64 0, .slice none 0 0, .slice none 0 0, .slice none 0 0, .int .i64 0, .int .i64 0] 0 [.string n1, .string ⟨#[]⟩, .int .i64 0, .int .i64 0, .int .i64 0, .int .i64 0, .int .i64 0, .int .i64 0, .slice none 0 0, .slice none 0 0, .slice none 0 0, .int .i64 t.line, .int .i64 t.col] = #[.string n1, .string ⟨#[]⟩, .int .i64 0, .int .i64 0, .int .i64 0, .int .i64 0, .int .i64 0, .int .i64 0, .slice none 0 0, .slice none 0 0, .slice none 0 0, .int .i64 t.line, .int .i64 t.col] := by simp [setsA]
      replace hsets := Lib.hid hsets
      have hWb : (w1.heap.size + 1) < W.heap.size := by obtain ⟨j, hj⟩ := hQ1.at_; exact hj.blk.lt
      go_region_held3 (fun w' => w'.cell? ⟨w2.heap.size, 2, none⟩ = some (.int .i64 t.line) ∧ w'.cell? ⟨w2.heap.size, 3, none⟩ = some (.int .i64 t.col) ∧ w2.heap.size < w'.heap.size)
        (refine ⟨?_, ?_, ?_⟩ <;> with_reducible assumption)
        ((go_at_call 51; refine (hp.out _ (by with_reducible assumption)).mono ?_; rintro e w3 ⟨rfl, hA3, hF3⟩; (have kt3 : Blk w3 w2.heap.size 105 #[.int .i64 t.kind, .string t.text, .int .i64 t.line, .int .i64 t.col] := hF3.blk (by with_reducible assumption) (by omega)); obtain ⟨j0_, j1_, j2_, j3_, _⟩ := kt3.c4; (have hl3 := kt3.lt); (have kt3a := kt3.alloc (.cells #[.string ⟨#[]⟩, .string ⟨#[]⟩, .int .i64 0, .int .i64 0, .int .i64 0, .int .i64 0, .int .i64 0, .int .i64 0, .slice none 0 0, .slice none 0 0, .slice none 0 0, .int .i64 0, .int .i64 0] 29)); obtain ⟨_, _, a2_, a3_, _⟩ := kt3a.c4; (have la_ := kt3a.lt); (have kt3b := kt3.alloc (.cells #[.string n1, .string ⟨#[]⟩, .int .i64 0, .int .i64 0, .int .i64 0, .int .i64 0, .int .i64 0, .int .i64 0, .slice none 0 0, .slice none 0 0, .slice none 0 0, .int .i64 t.line, .int .i64 t.col] 29)); obtain ⟨_, _, b2_, b3_, _⟩ := kt3b.c4; (have lb_ := kt3b.lt); (try ((have kM3 : Blk w3 W.heap.size 29 #[.string ⟨#[]⟩, .string ⟨#[]⟩, .int .i64 0, .int .i64 0, .int .i64 0, .int .i64 0, .int .i64 0, .int .i64 0, .slice none 0 0, .slice none 0 0, .slice none 0 0, .int .i64 0, .int .i64 0] := hF3.blk (by with_reducible assumption) (by omega)); obtain ⟨z0, z1, z2, z3, z4, z5, z6, z7, z8, z9, z10, z11, z12, f0_, f1_, f2_, f3_, f4_, f5_, f6_, f7_, f8_, f9_, f10_, f11_, f12_⟩ := kM3.c13; (have hlM3 := kM3.lt); (have kP3 := kt3.putsFar (g' := W.heap.size) (by omega) 0 [.string n1, .string ⟨#[]⟩, .int .i64 0, .int .i64 0, .int .i64 0, .int .i64 0, .int .i64 0, .int .i64 0, .slice none 0 0, .slice none 0 0, .slice none 0 0, .int .i64 t.line, .int .i64 t.col]); simp only [puts, Nat.zero_add, Nat.reduceAdd] at kP3; obtain ⟨_, _, c2_, c3_, _⟩ := kP3.c4; (have lc_ := kP3.lt)))))
      all_goals
        have hsz3 := hF3.size
        go_wp2_with fail
        go_meet
        first
          | exact ⟨w3.heap.size, rfl, ((hA2.call hF3 hA3).alloc _).toPS (Blk.new w3 29 #[.string n1, .string ⟨#[]⟩, .int .i64 0, .int .i64 0, .int .i64 0, .int .i64 0, .int .i64 0, .int .i64 0, .slice none 0 0, .slice none 0 0, .slice none 0 0, .int .i64 t.line, .int .i64 t.col]) (hA2.call hF3 hA3).lt.2 rfl rfl rfl, by simp at hsz3; omega⟩
          | (have q1 := (hB2.call hF3 hA3).putM kM3 hlQ.2 0 [.string n1, .string ⟨#[]⟩, .int .i64 0, .int .i64 0, .int .i64 0, .int .i64 0, .int .i64 0, .int .i64 0, .slice none 0 0, .slice none 0 0, .slice none 0 0, .int .i64 t.line, .int .i64 t.col]; have q2 := kM3.putAll [.string n1, .string ⟨#[]⟩, .int .i64 0, .int .i64 0, .int .i64 0, .int .i64 0, .int .i64 0, .int .i64 0, .slice none 0 0, .slice none 0 0, .slice none 0 0, .int .i64 t.line, .int .i64 t.col] 0; rw [hsets.out] at q2; simp only [puts, Nat.zero_add, Nat.reduceAdd] at q1 q2; exact ⟨W.heap.size, rfl, q1.toPS (p := (⟨n1, ⟨#[]⟩, (0, 0, 0), (0, 0, 0), [], [], [], t.line, t.col⟩ : Plan)) q2 hlQ.2 rfl rfl rfl, by omega⟩)
    case rest =>
      obtain ⟨M, rfl, hS0, hM⟩ := hcut
      clear hQ1 kt g2
      obtain ⟨i1, hP1⟩ := hS0.at_
      go_wp2_with fail
      refine (g3.out _ _ hP1 _ (by simp [puts, World.setCell])).mono ?_
      rintro e v1 ⟨rfl, hA1, hF1⟩
      have hS1 := hS0.call hF1 hA1
      clear hP1 hA1 hF1 g3 hS0
      obtain ⟨i2, hP2⟩ := hS1.at_
      go_wp2_with fail
      refine (g4.out _ _ hP2).mono ?_
      rintro e v2 ⟨rfl, hA2, hF2⟩
      have hS2 := hS1.call hF2 hA2
      clear hP2 hA2 hF2 g4 hS1
      obtain ⟨x3_0, x3_0'⟩ := hS2.cell 1 _ rfl
      have hl3 := hS2.lt
      have hS3 : PS w (w1.heap.size + 1) M ts r cap _ c2 (⟨n1, c1, (0, 0, 0), (0, 0, 0), [], [], [], t.line, t.col⟩ : Plan) (.slice none 0 0) (.slice none 0 0) (.slice none 0 0) [] := hS2.putO 1 [.string c1] _ rfl rfl rfl rfl
      obtain ⟨i4, hP4⟩ := hS3.at_
      go_wp2_with fail
      refine (g5.out _ _ hP4 _ (by simp [puts, World.setCell])).mono ?_
      rintro e v4 ⟨rfl, hA4, hF4⟩
      have hS4 := hS3.call hF4 hA4
      clear hP4 hA4 hF4 g5 hS3
      obtain ⟨i5, hP5⟩ := hS4.at_
      go_wp2_with fail
      refine (g6.out _ _ hP5).mono ?_
      rintro e v5 ⟨rfl, hA5, hF5⟩
      have hS5 := hS4.call hF5 hA5
      clear hP5 hA5 hF5 g6 hS4
      obtain ⟨x6_0, x6_0'⟩ := hS5.cell 2 _ rfl
      obtain ⟨x6_1, x6_1'⟩ := hS5.cell 3 _ rfl
      obtain ⟨x6_2, x6_2'⟩ := hS5.cell 4 _ rfl
      have hl6 := hS5.lt
      have hS6 : PS w (w1.heap.size + 1) M ts r cap _ f2 (⟨n1, c1, f1, (0, 0, 0), [], [], [], t.line, t.col⟩ : Plan) (.slice none 0 0) (.slice none 0 0) (.slice none 0 0) [] := hS5.putO 2 [.int .i64 f1.1, .int .i64 f1.2.1, .int .i64 f1.2.2] _ rfl rfl rfl rfl
      obtain ⟨i7, hP7⟩ := hS6.at_
      go_wp2_with fail
      refine (g7.out _ _ hP7).mono ?_
      rintro e v7 ⟨rfl, hA7, hF7⟩
      have hS7 := hS6.call hF7 hA7
      clear hP7 hA7 hF7 g7 hS6
      obtain ⟨x8_0, x8_0'⟩ := hS7.cell 5 _ rfl
      obtain ⟨x8_1, x8_1'⟩ := hS7.cell 6 _ rfl
      obtain ⟨x8_2, x8_2'⟩ := hS7.cell 7 _ rfl
      have hl8 := hS7.lt
      have hS8 : PS w (w1.heap.size + 1) M ts r cap _ z2 (⟨n1, c1, f1, z1, [], [], [], t.line, t.col⟩ : Plan) (.slice none 0 0) (.slice none 0 0) (.slice none 0 0) [] := hS7.putO 5 [.int .i64 z1.1, .int .i64 z1.2.1, .int .i64 z1.2.2] _ rfl rfl rfl rfl
      obtain ⟨i9, hP9⟩ := hS8.at_
      go_wp2_with fail
      refine (g8.out _ _ hP9 _ (by simp [puts, World.setCell])).mono ?_
      rintro e v9 ⟨rfl, hA9, hF9⟩
      have hS9 := hS8.call hF9 hA9
      clear hP9 hA9 hF9 g8 hS8
      obtain ⟨hS, hSe⟩ : ∃ h : PS w (w1.heap.size + 1) M ts r cap v9 q5 (⟨n1, c1, f1, z1, [], [], [], t.line, t.col⟩ : Plan) (.slice none 0 0) (.slice none 0 0) (.slice none 0 0) [], h = hS9 := ⟨_, rfl⟩
      clear hSe hS9
      try clear hS3 hS6 hS8
      clear x3_0 x3_0' hl3 x6_0 x6_0' x6_1 x6_1' x6_2 x6_2' hl6 x8_0 x8_0' x8_1 x8_1' x8_2 x8_2' hl8
      have hlm : len q5 ≤ 100000 := by obtain ⟨j, hj⟩ := hS.at_; rw [hj.len]; have := hT.big; omega
      have hDh := Lib.hid hD
      clear hD
      go_wp2_with fail
      go_loopg [] (measP q5) (fun g wx => ∃ p s' mv fv cv cs, PS w (w1.heap.size + 1) M ts r cap wx s' p mv fv cv cs ∧ countP p + len s' ≤ 100000 ∧ g = measP s' ∧ Hid (P.itemsAll dp npV p s' = X))
      case atStart => exact ⟨_, q5, _, _, _, _, hS, by simpa [countP] using hlm, rfl, HX⟩
      case round =>
        obtain ⟨p, s', mv, fv, cv, cs, hS, hcnt, rfl, HK⟩ := hrel
        clear HX hlm
        obtain ⟨jr, hPr⟩ := hS.at_
        obtain ⟨c0, c1_, c2_, c3_, f0, f1_, f2_, f3_⟩ := hPr.blk.c4
        have hbb := hPr.blk.lt
        have hlS := hS.lt
        by_cases h0 : s'.err = 0
        · obtain ⟨x1, x2, x3⟩ := hPr.calm h0
          clear c1_ c2_ c3_
          have hfe : ∀ W, (binOp .eql 37 (.agg #[.int .i64 0, .int .i64 0, .int .i64 0]) (.agg #[.int .i64 0, .int .i64 0, .int .i64 0])).run Tryz.prog W = .ok (.bool true) W := fun W => fault_eql 0 0 0 0 0 0 W
          have hpk := peek_any hPr hlb hcb
          by_cases hk : (peek s').kind = 0
          · have ek : ((peek s').kind != 0) = false := by rw [hk]; rfl
            have hX2 := HK.out
            rw [itemsAll_end dp npV (.inr hk)] at hX2
            subst hX2
            have hq := hok.out h0
            subst hq
            clear hok hbad HK hk
            obtain ⟨Am, cm, rfl, _, _, _⟩ := Lies.open (f := metF) (l := p.mets) (Lies.of hS.rows.mo)
            obtain ⟨Af, cf, rfl, _, _, _⟩ := Lies.open (f := feeF) (l := p.fees) (Lies.of hS.rows.fo)
            obtain ⟨Ac, cc, rfl, _, _, _⟩ := Lies.open (f := chgF) (l := cs) (Lies.of hS.rows.co)
            generalize peek s' = tk at *
            unfold tokV at hpk
            have hfd : ∀ W, (Instr.field 105 (.agg #[.int .i64 tk.kind, .string tk.text, .int .i64 tk.line, .int .i64 tk.col]) 0).run Tryz.prog W = .ok (.int .i64 tk.kind) W := fun _ => by kernel_rfl
            replace h0 := Lib.hid h0
            go_wp2_with fail
            refine hpk.mono ?_
            rintro e v20 ⟨rfl, hb20⟩
            have hS20 := hS.below hb20
            obtain ⟨j20, hP20⟩ := hS20.at_
            obtain ⟨y1, y2, y3⟩ := hP20.calm h0.out
            obtain ⟨_, _, _, _, r0_, r1_, r2_, r3_⟩ := hP20.blk.c4
            have hfn := fault_neq00
            have hl20 := hP20.blk.lt
            have hlS20 := hS20.lt
            obtain ⟨w0, w1, w2, w0f, w1f, w2f⟩ := hS20.fb.c3
            have hlF := hS20.fb.lt
            have hsc := run_planP v20 w.heap.size (planC noPlan (.slice none 0 0) (.slice none 0 0) (.slice none 0 0)) (planC p (.slice Am p.mets.length cm) (.slice Af p.fees.length cf) (.slice Ac cs.length cc)) hS20.rb rfl (by simp [planC, Value.oneCell'])
            have hfb3 : Blk (v20.setRow w.heap.size (planC p (.slice Am p.mets.length cm) (.slice Af p.fees.length cf) (.slice Ac cs.length cc))) (w.heap.size + 1) 37 #[.int .i64 0, .int .i64 0, .int .i64 0] := (setRow_far v20 w.heap.size (w.heap.size + 1) _ (by omega)).trans hS20.fb
            obtain ⟨u0, u1, u2, u0f, u1f, u2f⟩ := hfb3.c3
            clear hPr c0 f0 f1_ f2_ f3_ hbb x1 x2 x3 hpk hb20 hfe hS hlS
            go_wp2_with (refine wpList_load_row rfl 29 (.tmp 8) rfl M rfl 29 (planC p (.slice Am p.mets.length cm) (.slice Af p.fees.length cf) (.slice Ac cs.length cc)) (0, 0) _ hS20.ob Tryz.underlying29 rfl (by kernel_rfl) ?_)
            have hs2 : setsA #[.int .i64 0, .int .i64 0, .int .i64 0] 0 [.int .i64 0, .int .i64 0, .int .i64 0] = #[.int .i64 0, .int .i64 0, .int .i64 0] := by simp [setsA]
            have qa := (Blk.row (cs' := (planC p (.slice Am p.mets.length cm) (.slice Af p.fees.length cf) (.slice Ac cs.length cc))) hS20.rb).putsFar (g' := w.heap.size + 1) (by omega) 0 [.int .i64 0, .int .i64 0, .int .i64 0]
            have qb := hfb3.putAll [.int .i64 0, .int .i64 0, .int .i64 0] 0
            have qc := bl_puts (bl_rowP hS20.bl (Nat.le_refl _) (planC p (.slice Am p.mets.length cm) (.slice Af p.fees.length cf) (.slice Ac cs.length cc))) (Nat.le_succ w.heap.size) 0 [.int .i64 0, .int .i64 0, .int .i64 0]
            have qr := (hS20.rows.setRow_ hS20.nR (planC p (.slice Am p.mets.length cm) (.slice Af p.fees.length cf) (.slice Ac cs.length cc))).puts_ (hS20.rows.apart hS20.fb (by decide) (by decide) (by decide) (by decide) (by decide)) 0 [.int .i64 0, .int .i64 0, .int .i64 0]
            rw [hs2] at qb
            simp only [puts, Nat.zero_add, Nat.reduceAdd] at qa qb qc qr
            exact bodyPost_ret (results_cell_cell_row rfl _ _ w.heap.size (w.heap.size + 1) _ _ (planC p (.slice Am p.mets.length cm) (.slice Af p.fees.length cf) (.slice Ac cs.length cc)) #[.int .i64 0, .int .i64 0, .int .i64 0] _ _ rfl qa rfl qb Tryz.underlying29 rfl (by kernel_rfl) Tryz.underlying37 rfl (by kernel_rfl)) rfl ⟨_, rfl, ⟨_, _, _, cs, rfl, qr⟩, qc⟩
          · have ek : ((peek s').kind != 0) = true := bne_iff_ne.2 hk
            have hst := itemsAll_step dp npV (p := p) h0 hk
            rw [HK.out] at hst
            have hms := pitem_meas (p := p) h0
            have hall2 := pitem_all p s'
            have hpos : 0 < len s' := by rw [hPr.len]; have := hPr.lt; omega
            have hcn2 : p.mets.length + p.fees.length + cs.length < 100000 := by
              have := congrArg List.length hS.rows.eq
              rw [List.length_map] at this
              unfold countP at hcnt
              omega
            clear hok hbad HK hk h0
            generalize peek s' = tk at *
            unfold tokV at hpk
            have hfd : ∀ W, (Instr.field 105 (.agg #[.int .i64 tk.kind, .string tk.text, .int .i64 tk.line, .int .i64 tk.col]) 0).run Tryz.prog W = .ok (.int .i64 tk.kind) W := fun _ => by kernel_rfl
            replace hst := Lib.hid hst
            replace hms := Lib.hid hms
            replace hall2 := Lib.hid hall2
            go_wp2_with fail
            refine hpk.mono ?_
            rintro e v20 ⟨rfl, hb20⟩
            have hS20 := hS.below hb20
            clear hPr c0 f0 f1_ f2_ f3_ hbb x1 x2 x3 hpk hb20 hfe hS hlS
            go_wp2_with fail
            refine (item_any hS20 hT hDh.out hcn2).mono ?_
            rintro e v21 ⟨rfl, mv', fv', cv', cs', hS21⟩
            generalize P.item dp npV p s' = pi at *
            obtain ⟨p2, s2⟩ := pi
            go_wp2_with fail
            go_roundg (measP s2)
            case measure => exact hms.out
            case rel => exact ⟨p2, s2, mv', fv', cv', cs', hS21, by have := hall2.out; omega, rfl, Lib.hid hst.out.symm⟩
        · have hfe : ∀ W, (binOp .eql 37 (.agg #[.int .i64 s'.err, .int .i64 s'.line, .int .i64 s'.col]) (.agg #[.int .i64 0, .int .i64 0, .int .i64 0])).run Tryz.prog W = .ok (.bool false) W := fun W => by
            rw [fault_eql s'.err s'.line s'.col 0 0 0 W, beq_eq_false_iff_ne.2 h0]; rfl
          have hfn := fault_neqE (er := s'.err) (li := s'.line) (co := s'.col) h0
          have hX2 := HK.out
          rw [itemsAll_end dp npV (.inl h0)] at hX2
          subst hX2
          have hq := hbad.out h0
          subst hq
          clear hok hbad HK h0
          have hrb := hS.rb
          have hfb := hS.fb
          have hbl := hS.bl
          obtain ⟨z0, z1, z2, z3, z4, z5, z6, z7, z8, z9, z10, z11, z12, f0_, f1_, f2_, f3_, f4_, f5_, f6_, f7_, f8_, f9_, f10_, f11_, f12_⟩ := hrb.c13
          obtain ⟨y0, y1, y2, y0f, y1f, y2f⟩ := hfb.c3
          have hlF := hfb.lt
          go_wp2_with fail
          go_region
          all_goals go_wp2_with fail
          have hs1 : setsA (planC noPlan (.slice none 0 0) (.slice none 0 0) (.slice none 0 0)) 0 [.string ⟨#[]⟩, .string ⟨#[]⟩, .int .i64 0, .int .i64 0, .int .i64 0, .int .i64 0, .int .i64 0, .int .i64 0, .slice none 0 0, .slice none 0 0, .slice none 0 0, .int .i64 0, .int .i64 0] = (planC noPlan (.slice none 0 0) (.slice none 0 0) (.slice none 0 0)) := by simp [setsA, planC, noPlan]
          have hs2 : setsA #[.int .i64 0, .int .i64 0, .int .i64 0] 0 [.int .i64 s'.err, .int .i64 s'.line, .int .i64 s'.col] = #[.int .i64 s'.err, .int .i64 s'.line, .int .i64 s'.col] := by simp [setsA]
          have qa := (hrb.putAll [.string ⟨#[]⟩, .string ⟨#[]⟩, .int .i64 0, .int .i64 0, .int .i64 0, .int .i64 0, .int .i64 0, .int .i64 0, .slice none 0 0, .slice none 0 0, .slice none 0 0, .int .i64 0, .int .i64 0] 0).putsFar (g' := w.heap.size + 1) (by omega) 0 [.int .i64 s'.err, .int .i64 s'.line, .int .i64 s'.col]
          have qb := (hfb.putsFar (g' := w.heap.size) (by omega) 0 [.string ⟨#[]⟩, .string ⟨#[]⟩, .int .i64 0, .int .i64 0, .int .i64 0, .int .i64 0, .int .i64 0, .int .i64 0, .slice none 0 0, .slice none 0 0, .slice none 0 0, .int .i64 0, .int .i64 0]).putAll [.int .i64 s'.err, .int .i64 s'.line, .int .i64 s'.col] 0
          have qc := bl_puts (bl_puts hbl (Nat.le_refl w.heap.size) 0 [.string ⟨#[]⟩, .string ⟨#[]⟩, .int .i64 0, .int .i64 0, .int .i64 0, .int .i64 0, .int .i64 0, .int .i64 0, .slice none 0 0, .slice none 0 0, .slice none 0 0, .int .i64 0, .int .i64 0]) (Nat.le_succ w.heap.size) 0 [.int .i64 s'.err, .int .i64 s'.line, .int .i64 s'.col]
          rw [hs1] at qa
          rw [hs2] at qb
          simp only [puts, Nat.zero_add, Nat.reduceAdd] at qa qb qc
          exact bodyPost_ret (results_cell_cell_row rfl _ _ w.heap.size (w.heap.size + 1) _ _ (planC noPlan (.slice none 0 0) (.slice none 0 0) (.slice none 0 0)) #[.int .i64 s'.err, .int .i64 s'.line, .int .i64 s'.col] _ _ rfl qa.drew rfl qb.drew Tryz.underlying29 rfl (by kernel_rfl) Tryz.underlying37 rfl (by kernel_rfl)) rfl ⟨_, rfl, ⟨(.slice none 0 0), (.slice none 0 0), (.slice none 0 0), [], rfl, Rows.none _ _ _ rfl rfl rfl⟩, bl_drew qc⟩
  · have hq := HQ.out
    rw [RParse_lex hall her] at hq
    subst hq
    have hfn := fault_neqE (li := li) (co := co) her
    clear her hall hown hb1 hbl0 hcap hA hcm
    obtain ⟨z0, z1, z2, z3, z4, z5, z6, z7, z8, z9, z10, z11, z12, f0_, f1_, f2_, f3_, f4_, f5_, f6_, f7_, f8_, f9_, f10_, f11_, f12_⟩ := kz1.c13
    obtain ⟨y0, y1, y2, y0f, y1f, y2f⟩ := fz1.c3
    go_wp2_with fail
    go_region
    all_goals go_wp2_with fail
    have hs1 : setsA (planC noPlan (.slice none 0 0) (.slice none 0 0) (.slice none 0 0)) 0 [.string ⟨#[]⟩, .string ⟨#[]⟩, .int .i64 0, .int .i64 0, .int .i64 0, .int .i64 0, .int .i64 0, .int .i64 0, .slice none 0 0, .slice none 0 0, .slice none 0 0, .int .i64 0, .int .i64 0] = (planC noPlan (.slice none 0 0) (.slice none 0 0) (.slice none 0 0)) := by simp [setsA, planC, noPlan]
    have hs2 : setsA #[.int .i64 0, .int .i64 0, .int .i64 0] 0 [.int .i64 er, .int .i64 li, .int .i64 co] = #[.int .i64 er, .int .i64 li, .int .i64 co] := by simp [setsA]
    have qa := (kz1.putAll [.string ⟨#[]⟩, .string ⟨#[]⟩, .int .i64 0, .int .i64 0, .int .i64 0, .int .i64 0, .int .i64 0, .int .i64 0, .slice none 0 0, .slice none 0 0, .slice none 0 0, .int .i64 0, .int .i64 0] 0).putsFar (g' := w.heap.size + 1) (by omega) 0 [.int .i64 er, .int .i64 li, .int .i64 co]
    have qb := (fz1.putsFar (g' := w.heap.size) (by omega) 0 [.string ⟨#[]⟩, .string ⟨#[]⟩, .int .i64 0, .int .i64 0, .int .i64 0, .int .i64 0, .int .i64 0, .int .i64 0, .slice none 0 0, .slice none 0 0, .slice none 0 0, .int .i64 0, .int .i64 0]).putAll [.int .i64 er, .int .i64 li, .int .i64 co] 0
    have qc := bl_puts (bl_puts hbl1 (Nat.le_refl w.heap.size) 0 [.string ⟨#[]⟩, .string ⟨#[]⟩, .int .i64 0, .int .i64 0, .int .i64 0, .int .i64 0, .int .i64 0, .int .i64 0, .slice none 0 0, .slice none 0 0, .slice none 0 0, .int .i64 0, .int .i64 0]) (Nat.le_succ w.heap.size) 0 [.int .i64 er, .int .i64 li, .int .i64 co]
    rw [hs1] at qa
    rw [hs2] at qb
    simp only [puts, Nat.zero_add, Nat.reduceAdd] at qa qb qc
    exact bodyPost_ret (results_cell_cell_row rfl _ _ w.heap.size (w.heap.size + 1) _ _ (planC noPlan (.slice none 0 0) (.slice none 0 0) (.slice none 0 0)) #[.int .i64 er, .int .i64 li, .int .i64 co] _ _ rfl (qa.alloc _).drew rfl (qb.alloc _).drew Tryz.underlying29 rfl (by kernel_rfl) Tryz.underlying37 rfl (by kernel_rfl)) rfl ⟨_, rfl, ⟨(.slice none 0 0), (.slice none 0 0), (.slice none 0 0), [], rfl, Rows.none _ _ _ rfl rfl rfl⟩, bl_drew (bl_alloc qc _)⟩
end Go.Proofs.YtcgkfgklggjmaaaGreatDoor.Par
end
section
namespace Go.Proofs.YtcgkfgklggjmaaaGreatDoor
set_option linter.unusedVariables false
set_option linter.unusedSimpArgs false
/-! the tokens of a text that stands written out -/
def lexF : Nat → List UInt8 → Int → Int → Except (Int × Int) (List Tok)
  | 0, _, _, _ => .ok []
  | _ + 1, [], line, col => .ok [⟨0, ⟨#[]⟩, line, col⟩]
  | f + 1, c :: cs, line, col =>
    if c = 35 then lexF f (cs.drop (noteLen cs)) line (col + 1 + noteLen cs)
    else if c = 10 then lexF f cs (line + 1) 1
    else if c = 32 ∨ c = 9 ∨ c = 13 then lexF f cs line (col + 1)
    else if kindOf (c :: cs.take (tokLen c cs)) = 0 then .error (line, col)
    else consR ⟨kindOf (c :: cs.take (tokLen c cs)), ⟨(c :: cs.take (tokLen c cs)).toArray⟩, line, col⟩ (lexF f (cs.drop (tokLen c cs)) line (col + 1 + tokLen c cs))
theorem lexF_eq : ∀ (f : Nat) (l : List UInt8) (line col : Int), l.length < f → lexF f l line col = lexL l line col
  | 0, _, _, _, h => absurd h (by omega)
  | f + 1, [], line, col, _ => by rw [lexL, lexF]
  | f + 1, c :: cs, line, col, h => by
    rw [List.length_cons] at h
    rw [lexL, lexF]
    rw [lexF_eq f (cs.drop (noteLen cs)) _ _ (by rw [List.length_drop]; omega), lexF_eq f cs _ _ (by omega), lexF_eq f cs _ _ (by omega), lexF_eq f (cs.drop (tokLen c cs)) _ _ (by rw [List.length_drop]; omega)]
def aText1 : List UInt8 := [112, 108, 97, 110, 32, 112, 49, 59]
def aText2 : List UInt8 := [32, 50, 48, 50, 52, 45, 48, 50, 45, 51, 48]
def aText3 : List UInt8 := [50, 48, 50, 52, 45, 48, 50, 45, 50, 57]
def aToks1 : List Tok := [⟨2, ⟨#[112, 108, 97, 110]⟩, 1, 1⟩, ⟨1, ⟨#[112, 49]⟩, 1, 6⟩, ⟨5, ⟨#[59]⟩, 1, 8⟩, ⟨0, ⟨#[]⟩, 1, 9⟩]
theorem a_toks1 : lexAll aText1 = (aToks1, 0, 0, 0) := by
  rw [lexAll, if_neg (by decide), ← lexF_eq 20 aText1 1 1 (by decide)]
  have : lexF 20 aText1 1 1 = .ok aToks1 := by kernel_rfl
  rw [this]
theorem a_toks2 : lexAll aText2 = ([], 3, 1, 2) := by
  rw [lexAll, if_neg (by decide), ← lexF_eq 20 aText2 1 1 (by decide)]
  have : lexF 20 aText2 1 1 = .error (1, 2) := by kernel_rfl
  rw [this]
theorem a_kind3 : kindOf aText3 = 4 := by kernel_rfl
end Go.Proofs.YtcgkfgklggjmaaaGreatDoor
end
section
namespace Go.Proofs.YtcgkfgklggjmaaaGreatDoor.Par
set_option linter.unusedVariables false
set_option linter.unusedSimpArgs false
/-! a plan that is parsed is small -/
theorem ptierLoop_len : ∀ (f : Nat) (acc : List Tier) (s : St), (P.tierLoop npV f acc s).1.length + len (P.tierLoop npV f acc s).2 ≤ acc.length + len s
  | 0, acc, s => Nat.le_refl _
  | f + 1, acc, s => by
    rw [P.tierLoop]
    by_cases hc : (P.eat wUpto s).1 = true
    · rw [if_pos hc]
      simp only
      have h1 := len_eaten hc
      have h2 := len_number npV 0 1000000 (P.eat wUpto s).2
      have h3 := len_must [wRate] (P.number npV 0 1000000 (P.eat wUpto s).2).2
      have h4 := len_number npV 6 1000000000000 (P.must [wRate] (P.number npV 0 1000000 (P.eat wUpto s).2).2)
      have h5 := len_must [wSemi] (P.number npV 6 1000000000000 (P.must [wRate] (P.number npV 0 1000000 (P.eat wUpto s).2).2)).2
      have ih := ptierLoop_len f (acc ++ [⟨(P.number npV 0 1000000 (P.eat wUpto s).2).1, (P.number npV 6 1000000000000 (P.must [wRate] (P.number npV 0 1000000 (P.eat wUpto s).2).2)).1⟩]) (P.must [wSemi] (P.number npV 6 1000000000000 (P.must [wRate] (P.number npV 0 1000000 (P.eat wUpto s).2).2)).2)
      rw [List.length_append, List.length_singleton] at ih
      omega
    · rw [if_neg hc]
      have := len_eat wUpto s
      simp only
      omega
theorem ptiers_len (s : St) : (P.tiers npV s).1.length ≤ len s + 1 := by
  have h1 := len_must [wOpen] s
  have h2 := ptierLoop_len (P.must [wOpen] s).rest.length [] (P.must [wOpen] s)
  unfold P.tiers
  simp only [List.length_append, List.length_singleton]
  rw [List.length_nil] at h2
  omega
theorem padjLoop_len : ∀ (f : Nat) (acc : List Adj) (s : St), (P.adjLoop npV f acc s).1.length + len (P.adjLoop npV f acc s).2 ≤ acc.length + len s
  | 0, acc, s => Nat.le_refl _
  | f + 1, acc, s => by
    rw [P.adjLoop]
    by_cases hc : (P.adjust npV s).1.2 = false ∨ (P.adjust npV s).2.err ≠ 0
    · rw [if_pos hc]
      have := len_adjust npV s
      simp only
      omega
    · rw [if_neg hc]
      have h1 : (P.adjust npV s).1.2 = true := by
        cases h : (P.adjust npV s).1.2 with
        | true => rfl
        | false => exact absurd (.inl h) hc
      have h2 := adj_round npV h1
      have ih := padjLoop_len f (acc ++ [(P.adjust npV s).1.1]) (P.adjust npV s).2
      rw [List.length_append, List.length_singleton] at ih
      omega
theorem pcharge_small (l c : Int) (s : St) : (P.charge dp npV l c s).1.tiers.length ≤ len s + 1 ∧ (P.charge dp npV l c s).1.adjs.length ≤ len s + 1 := by
  have h1 := len_kind 1 s
  have h2 := len_window dp (P.kind 1 s).2
  have h3 := len_must [wOpen] (P.window dp (P.kind 1 s).2).2
  have h4 := len_opt npV wAllowance 0 (P.must [wOpen] (P.window dp (P.kind 1 s).2).2)
  have h5 := len_opt npV wBlock 1 (P.opt npV wAllowance 0 (P.must [wOpen] (P.window dp (P.kind 1 s).2).2)).2
  have h6 := len_ckind (P.opt npV wBlock 1 (P.opt npV wAllowance 0 (P.must [wOpen] (P.window dp (P.kind 1 s).2).2)).2).2
  unfold P.charge
  simp only
  generalize P.ckind (P.opt npV wBlock 1 (P.opt npV wAllowance 0 (P.must [wOpen] (P.window dp (P.kind 1 s).2).2)).2).2 = k at *
  have h7 := ptiers_len k.2
  have h8 := len_tiers npV k.2
  have h9 := len_must [wRound] (P.tiers npV k.2).2
  have h10 := len_mode (P.must [wRound] (P.tiers npV k.2).2)
  have h11 := len_must [wSemi] (P.mode (P.must [wRound] (P.tiers npV k.2).2)).2
  have h12 := padjLoop_len (P.must [wSemi] (P.mode (P.must [wRound] (P.tiers npV k.2).2)).2).rest.length [] (P.must [wSemi] (P.mode (P.must [wRound] (P.tiers npV k.2).2)).2)
  rw [List.length_nil] at h12
  omega
/-- what a parse keeps: so many items, and so many parts of each, at most -/
def Bd (n : Nat) (p : Plan) (s : St) : Prop := countP p + len s ≤ n ∧ ∀ c ∈ p.chgs, c.tiers.length ≤ n + 1 ∧ c.adjs.length ≤ n + 1
theorem pitem_bd {n : Nat} {p : Plan} {s : St} (h : Bd n p s) : Bd n (P.item dp npV p s).1 (P.item dp npV p s).2 := by
  refine ⟨Nat.le_trans (pitem_all p s).1 h.1, ?_⟩
  have h0 := len_one [wMeter, wFee, wCharge] 0 s
  unfold P.item
  simp only
  split
  · exact h.2
  · split
    · exact h.2
    · split
      · intro c hc
        rcases List.mem_append.1 hc with hc | hc
        · exact h.2 c hc
        · obtain rfl := List.mem_singleton.1 hc
          have h1 := pcharge_small (peek s).line (peek s).col (P.one [wMeter, wFee, wCharge] 0 s).2
          have h2 := h.1
          omega
      · exact h.2
theorem pitems_bd {n : Nat} : ∀ (f : Nat) (p : Plan) (s : St), Bd n p s → Bd n (P.items dp npV f p s).1 (P.items dp npV f p s).2
  | 0, p, s, h => h
  | f + 1, p, s, h => by
    rw [P.items]
    split
    · exact pitems_bd f _ _ (pitem_bd h)
    · exact h
theorem phead_len (ts : List Tok) : len (P.head dp ⟨ts, 0, 0, 0⟩).2 ≤ ts.length := by
  unfold P.head
  simp only
  have g1 := len_must [wPlan] ⟨ts, 0, 0, 0⟩
  have g2 := len_kind 1 (P.must [wPlan] ⟨ts, 0, 0, 0⟩)
  generalize P.kind 1 (P.must [wPlan] ⟨ts, 0, 0, 0⟩) = n at *
  have g3 := len_must [wCurrency] n.2
  have g4 := len_kind 1 (P.must [wCurrency] n.2)
  generalize P.kind 1 (P.must [wCurrency] n.2) = c at *
  have g5 := len_must [wSemi, wHorizon] c.2
  have g6 := len_day dp (P.must [wSemi, wHorizon] c.2)
  generalize P.day dp (P.must [wSemi, wHorizon] c.2) = f at *
  have g7 := len_day dp f.2
  generalize P.day dp f.2 = t at *
  have g8 := len_must [wSemi] t.2
  have g0 : len (⟨ts, 0, 0, 0⟩ : St) = ts.length := rfl
  omega
theorem noPlan_small : Small noPlan := ⟨by decide, by decide, by decide, fun c h => (by cases h), fun c h => (by cases h)⟩
theorem RParse_small (l : List UInt8) : Small (RParse l).1 := by
  obtain ⟨ts, er, a, b, hall⟩ : ∃ ts er a b, lexAll l = (ts, er, a, b) := ⟨_, _, _, _, rfl⟩
  by_cases her : er = 0
  · subst her
    by_cases h0 : (P.plan dp npV ts).2.err = 0
    · rw [PParse_ok hall h0]
      obtain ⟨_, _, hc⟩ := all_shape hall
      have hb : Bd 8193 (P.plan dp npV ts).1 (P.plan dp npV ts).2 := by
        unfold P.plan
        refine pitems_bd _ _ _ ⟨?_, fun c hc => by cases hc⟩
        have := phead_len ts
        show 0 + 0 + 0 + len (P.head dp ⟨ts, 0, 0, 0⟩).2 ≤ 8193
        omega
      have h1 := hb.1
      unfold countP at h1
      exact ⟨by show (P.plan dp npV ts).1.mets.length ≤ 10000; omega, by show (P.plan dp npV ts).1.fees.length ≤ 10000; omega, by show (P.plan dp npV ts).1.chgs.length ≤ 10000; omega, fun c hc => Nat.le_trans (hb.2 c hc).1 (by decide), fun c hc => Nat.le_trans (hb.2 c hc).2 (by decide)⟩
    · rw [PParse_bad hall h0]; exact noPlan_small
  · rw [RParse_lex hall her]; exact noPlan_small
end Go.Proofs.YtcgkfgklggjmaaaGreatDoor.Par
end
section
namespace Go.Proofs.YtcgkfgklggjmaaaGreatDoor
set_option linter.unusedVariables false
set_option linter.unusedSimpArgs false
open Go.RowKit
theorem lexL_note (cs : List UInt8) (line col : Int) : lexL (35 :: cs) line col = lexL (cs.drop (noteLen cs)) line (col + 1 + noteLen cs) := by rw [lexL, if_pos rfl]
theorem lexL_nl (cs : List UInt8) (line col : Int) : lexL (10 :: cs) line col = lexL cs (line + 1) 1 := by rw [lexL, if_neg (by decide), if_pos rfl]
theorem lexL_bl (c : UInt8) (cs : List UInt8) (line col : Int) (h : c = 32 ∨ c = 9 ∨ c = 13) : lexL (c :: cs) line col = lexL cs line (col + 1) := by
  have h1 : c ≠ 35 := by rcases h with rfl | rfl | rfl <;> decide
  have h2 : c ≠ 10 := by rcases h with rfl | rfl | rfl <;> decide
  rw [lexL, if_neg h1, if_neg h2, if_pos h]
theorem lexL_tok (c : UInt8) (cs : List UInt8) (line col : Int) (h1 : c ≠ 35) (h2 : c ≠ 10) (h3 : ¬ (c = 32 ∨ c = 9 ∨ c = 13)) :
    lexL (c :: cs) line col = if kindOf (c :: cs.take (tokLen c cs)) = 0 then .error (line, col) else consR ⟨kindOf (c :: cs.take (tokLen c cs)), ⟨(c :: cs.take (tokLen c cs)).toArray⟩, line, col⟩ (lexL (cs.drop (tokLen c cs)) line (col + 1 + tokLen c cs)) := by
  rw [lexL, if_neg h1, if_neg h2, if_neg h3]
theorem noteLen_step (s : ByteArray) (k : Nat) (h : k < s.size) (hc : s[k] ≠ 10) : noteLen (s.data.toList.drop k) = 1 + noteLen (s.data.toList.drop (k + 1)) := by
  rw [drop_at s k h, noteLen, List.takeWhile_cons, if_pos (by simpa using hc)]; simp [noteLen]; omega
theorem noteLen_stop (s : ByteArray) (k : Nat) (h : k < s.size) (hc : s[k] = 10) : noteLen (s.data.toList.drop k) = 0 := by
  rw [drop_at s k h, noteLen, List.takeWhile_cons, if_neg (by simp [hc])]; rfl
def lexRR (v : Value) (er l c : Int) : Value := .tuple #[v, .int .i64 er, .int .i64 l, .int .i64 c]
theorem rtokInfo : (Tryz.prog.info? 74).map (fun i => (i.zero, i.size, i.bytes)) = some (some (.agg #[.int .i64 0, .string ⟨#[]⟩, .int .i64 0, .int .i64 0]), 4, 40) := by kernel_rfl
theorem results_tmp4 {fn : Func} {t u v x : Tmp} (h : fn.results = #[.tmp t, .tmp u, .tmp v, .tmp x]) (tmps : Array Value) (P : Program) (w : World) :
    (results fn tmps).run P w = .ok (.tuple #[tmps.getD t undef, tmps.getD u undef, tmps.getD v undef, tmps.getD x undef]) w := by simp [results, h]
set_option maxHeartbeats 4000000 in
set_option maxRecDepth 100000 in
theorem rlex_any (s : ByteArray) (w : World) (hs : s.size ≤ 9223372036854775807) :
    Calls Tryz.prog 31 #[.string s] w (LexOut 74 s w lexRR) := by
  have hlen : s.data.toList.length = s.size := by simp
  have HLEN := Lib.hid hlen
  clear hlen
  by_cases hbig : 8192 < s.size
  · have HA : Hid (lexAll s.data.toList = ([], 6, 1, 1)) := by
      show _ = _
      rw [lexAll, if_pos (by rw [HLEN.out]; exact hbig)]
    go_enter Tryz.func31, Tryz.ntmps31
    go_wp2
    refine bodyPost_ret (results_tmp4 rfl _ _ _) rfl ?_
    exact ⟨.slice none 0 0, [], 6, 1, 1, rfl, World.ownsRow_nil _ _ _ _, bl_refl _, HA.out⟩
  · obtain ⟨i0, hi0, hz0, hz1, hz2⟩ := info_parts rtokInfo
    go_enter Tryz.func31, Tryz.ntmps31
    go_wp2_with fail
    go_loopw [6, 7, 8, 9] (fun v6 v7 v8 v9 wr => ∃ (ts : List Tok) (a : Nat) (line col : Int), a ≤ s.size ∧ 0 ≤ line ∧ line ≤ a + 1 ∧ 0 ≤ col ∧ col ≤ a + 1 ∧ v7 = .int .i64 line ∧ v8 = .int .i64 col ∧ v9 = .int .i64 a ∧
      wr.ownsRow w.heap.size 74 4 v6 ts.length (toksCells ts) ∧ ts.length ≤ a ∧ Below w.heap.size w wr ∧ Hid (LexIn s.data.toList ts a line col)) (fun _ _ _ v9 _ => s.size - (intOf v9).toNat)
    case atStart => exact ⟨[], 0, 1, 1, by omega, by omega, by omega, by omega, by omega, rfl, rfl, rfl, World.ownsRow_nil _ _ _ _, Nat.le_refl _, bl_refl _, by simp [Hid, LexIn, preR_nil]⟩
    case round =>
      obtain ⟨ts, a, line, col, ha, l1, l2, c1, c2, rfl, rfl, rfl, hown, hts, hbw, HI⟩ := hrel
      have hlw := hbw.size
      by_cases hend : s.size ≤ a
      · obtain rfl : a = s.size := by omega
        have HR : Hid (lexAll s.data.toList = (ts ++ [⟨0, ⟨#[]⟩, line, col⟩], 0, 0, 0)) := by
          have h := HI.out
          unfold LexIn at h
          rw [drop_end, lexL] at h
          show _ = _
          rw [lexAll, if_neg (by rw [HLEN.out]; exact hbig), h]; rfl
        clear HI
        go_wp2_with (at_builtin; refine wpList_append_own _ rfl _ _ 67 rfl w.heap.size 74 i0 _ 4 40 Tryz.underlying67 hi0 hz0 hz1 hz2 rfl (by decide) _ _ _ rfl (hown.alloc _) ⟨wr.heap.size, 0, none⟩ 1 1 [.int .i64 0, .string ⟨#[]⟩, .int .i64 line, .int .i64 col] rfl rfl (World.news_of_block (cs := #[.int .i64 0, .string ⟨#[]⟩, .int .i64 line, .int .i64 col]) (t := 74) (fr := (0, 0)) (heap_alloc_new _ _)) (by simp [Value.oneCell']) (by unfold maxLen; omega) (by omega) (by simp; omega) ?_; intro v1 w1 hown1 hgrow1 hnil1)
        refine bodyPost_ret (results_tmp4 rfl _ _ _) rfl ?_
        refine ⟨v1, ts ++ [⟨0, ⟨#[]⟩, line, col⟩], 0, 0, 0, rfl, ?_, ?_, HR.out⟩
        · rw [toks_snoc, List.length_append]
          exact hown1
        · exact bl_grown (bl_alloc hbw _) hgrow1 (fun k hk => (hown.lt _ hk).1)
      · have hlt : a < s.size := by omega
        have hdr := drop_at s a hlt
        have HD := Lib.hid hdr
        have hcl := (s[a]'hlt).toNat_lt
        clear hdr
        by_cases h35 : s[a]'hlt = 35
        · have hb : (((s[a]'hlt).toNat : Int) == 35) = true := by rw [h35]; rfl
          have hb10 : (((s[a]'hlt).toNat : Int) == 10) = false := by rw [h35]; rfl
          have HST : ∀ k : Nat, k = a + 1 + noteLen (s.data.toList.drop (a + 1)) → LexIn s.data.toList ts k line (col + k - a) := fun k hk => by
            have h := HI.out
            unfold LexIn at h ⊢
            rw [HD.out, h35, lexL_note, List.drop_drop] at h
            rw [h, ← hk, show col + 1 + (noteLen (s.data.toList.drop (a + 1)) : Int) = col + k - a from by omega]
          have HSTH := Lib.hid HST
          clear HST h35 HI HD
          go_wp2_with fail
          obtain ⟨wo, rfl⟩ : ∃ wo : World, wo = wr := ⟨_, rfl⟩
          go_loop [11] (fun v => ∃ k : Nat, a + 1 ≤ k ∧ k ≤ s.size ∧ v = .int .i64 k ∧ Hid (k + noteLen (s.data.toList.drop k) = a + 1 + noteLen (s.data.toList.drop (a + 1)))) (fun v => s.size - (intOf v).toNat)
          case atStart => exact ⟨a + 1, by omega, by omega, by go_num, rfl⟩
          case round =>
            obtain ⟨k, hk1, hk2, rfl, HN⟩ := hrel
            by_cases hklt : k < s.size
            · have hckl := (s[k]'hklt).toNat_lt
              by_cases h10 : s[k]'hklt = 10
              · have hbk : (((s[k]'hklt).toNat : Int) != 10) = false := by rw [h10]; rfl
                have HF := Lib.hid (HSTH.out k (by rw [← HN.out, noteLen_stop s k hklt h10, Nat.add_zero]))
                clear h10
                go_wp2
                go_roundw
                case rel => exact ⟨ts, k, line, col + k - a, by omega, l1, by omega, by omega, by omega, rfl, rfl, rfl, hown, by omega, hbw, HF⟩
                case measure => simp [intOf]; omega
              · have hbk : (((s[k]'hklt).toNat : Int) != 10) = true := by simp [bne, u8_nb (d := 10) (n := 10) rfl h10]
                have HX : Hid (k + 1 + noteLen (s.data.toList.drop (k + 1)) = a + 1 + noteLen (s.data.toList.drop (a + 1))) := by
                  show _ = _
                  rw [← HN.out, noteLen_step s k hklt h10]; omega
                clear h10
                go_wp2
                go_round
                case rel => exact ⟨k + 1, by omega, by omega, by go_num, HX⟩
                case measure => simp [intOf]; omega
            · obtain rfl : k = s.size := by omega
              have HF := Lib.hid (HSTH.out s.size (by rw [← HN.out, drop_end]; rfl))
              go_wp2
              go_roundw
              case rel => exact ⟨ts, s.size, line, col + s.size - a, by omega, l1, by omega, by omega, by omega, rfl, rfl, rfl, hown, by omega, hbw, HF⟩
              case measure => simp [intOf]; omega
        · have hb : (((s[a]'hlt).toNat : Int) == 35) = false := u8_nb rfl h35
          by_cases h : s[a]'hlt = 32
          · have HF : Hid (LexIn s.data.toList ts (a + 1) line (col + 1)) := by
              have hh := HI.out
              show LexIn _ _ _ _ _
              unfold LexIn at hh ⊢
              rw [HD.out, h, lexL_bl _ _ _ _ (by decide)] at hh
              exact hh
            have g0 : (((s[a]'hlt).toNat : Int) != 32) = false := by rw [h]; rfl
            have gn : (((s[a]'hlt).toNat : Int) == 10) = false := by rw [h]; rfl
            clear h h35 HI HD
            go_wp2
            go_roundw
            case rel => exact ⟨ts, a + 1, line, col + 1, by omega, by omega, by omega, by omega, by omega, rfl, by go_num, by go_num, hown, by omega, hbw, HF⟩
            case measure => simp [intOf]; omega
          have n32 := h
          have g0 : (((s[a]'hlt).toNat : Int) != 32) = true := by simp [bne, u8_nb (d := 32) (n := 32) rfl h]
          clear h
          by_cases h : s[a]'hlt = 9
          · have HF : Hid (LexIn s.data.toList ts (a + 1) line (col + 1)) := by
              have hh := HI.out
              show LexIn _ _ _ _ _
              unfold LexIn at hh ⊢
              rw [HD.out, h, lexL_bl _ _ _ _ (by decide)] at hh
              exact hh
            have g0 : (((s[a]'hlt).toNat : Int) != 32) = true := by rw [h]; rfl
            have g1 : (((s[a]'hlt).toNat : Int) != 9) = false := by rw [h]; rfl
            have gn : (((s[a]'hlt).toNat : Int) == 10) = false := by rw [h]; rfl
            clear h h35 HI HD
            go_wp2
            go_roundw
            case rel => exact ⟨ts, a + 1, line, col + 1, by omega, by omega, by omega, by omega, by omega, rfl, by go_num, by go_num, hown, by omega, hbw, HF⟩
            case measure => simp [intOf]; omega
          have n9 := h
          have g1 : (((s[a]'hlt).toNat : Int) != 9) = true := by simp [bne, u8_nb (d := 9) (n := 9) rfl h]
          clear h
          by_cases h : s[a]'hlt = 10
          · have HF : Hid (LexIn s.data.toList ts (a + 1) (line + 1) 1) := by
              have hh := HI.out
              show LexIn _ _ _ _ _
              unfold LexIn at hh ⊢
              rw [HD.out, h, lexL_nl] at hh
              exact hh
            have g0 : (((s[a]'hlt).toNat : Int) != 32) = true := by rw [h]; rfl
            have g1 : (((s[a]'hlt).toNat : Int) != 9) = true := by rw [h]; rfl
            have g2 : (((s[a]'hlt).toNat : Int) != 10) = false := by rw [h]; rfl
            have gn : (((s[a]'hlt).toNat : Int) == 10) = true := by rw [h]; rfl
            clear h h35 HI HD
            go_wp2
            go_roundw
            case rel => exact ⟨ts, a + 1, line + 1, 1, by omega, by omega, by omega, by omega, by omega, rfl, rfl, by go_num, hown, by omega, hbw, HF⟩
            case measure => simp [intOf]; omega
          have n10 := h
          have g2 : (((s[a]'hlt).toNat : Int) != 10) = true := by simp [bne, u8_nb (d := 10) (n := 10) rfl h]
          clear h
          by_cases h : s[a]'hlt = 13
          · have HF : Hid (LexIn s.data.toList ts (a + 1) line (col + 1)) := by
              have hh := HI.out
              show LexIn _ _ _ _ _
              unfold LexIn at hh ⊢
              rw [HD.out, h, lexL_bl _ _ _ _ (by decide)] at hh
              exact hh
            have g0 : (((s[a]'hlt).toNat : Int) != 32) = true := by rw [h]; rfl
            have g1 : (((s[a]'hlt).toNat : Int) != 9) = true := by rw [h]; rfl
            have g2 : (((s[a]'hlt).toNat : Int) != 10) = true := by rw [h]; rfl
            have g3 : (((s[a]'hlt).toNat : Int) != 13) = false := by rw [h]; rfl
            have gn : (((s[a]'hlt).toNat : Int) == 10) = false := by rw [h]; rfl
            clear h h35 HI HD
            go_wp2
            go_roundw
            case rel => exact ⟨ts, a + 1, line, col + 1, by omega, by omega, by omega, by omega, by omega, rfl, by go_num, by go_num, hown, by omega, hbw, HF⟩
            case measure => simp [intOf]; omega
          have n13 := h
          have g3 : (((s[a]'hlt).toNat : Int) != 13) = true := by simp [bne, u8_nb (d := 13) (n := 13) rfl h]
          clear h
          have gn : (((s[a]'hlt).toNat : Int) == 10) = false := u8_nb rfl n10
          have n3 : ¬ (s[a]'hlt = 32 ∨ s[a]'hlt = 9 ∨ s[a]'hlt = 13) := fun h => by rcases h with h | h | h <;> simp_all
          have hst := lexL_tok (s[a]'hlt) (s.data.toList.drop (a + 1)) line col h35 n10 n3
          have hI := HI.out
          unfold LexIn at hI
          rw [HD.out, hst] at hI
          have HII := Lib.hid hI
          have htl := tokLen_le (s[a]'hlt) (s.data.toList.drop (a + 1))
          have hbnd : a + 1 + tokLen (s[a]'hlt) (s.data.toList.drop (a + 1)) ≤ s.size := by
            have := HLEN.out
            rw [List.length_drop] at htl; omega
          have hexl : (s.extract a (a + 1 + tokLen (s[a]'hlt) (s.data.toList.drop (a + 1)))).data.toList = s[a]'hlt :: (s.data.toList.drop (a + 1)).take (tokLen (s[a]'hlt) (s.data.toList.drop (a + 1))) := by
            rw [Lib.extract_data, HD.out, show a + 1 + tokLen (s[a]'hlt) (s.data.toList.drop (a + 1)) - a = tokLen (s[a]'hlt) (s.data.toList.drop (a + 1)) + 1 from by omega, List.take_succ_cons]
          have hex2 : (⟨(s[a]'hlt :: (s.data.toList.drop (a + 1)).take (tokLen (s[a]'hlt) (s.data.toList.drop (a + 1)))).toArray⟩ : ByteArray) = s.extract a (a + 1 + tokLen (s[a]'hlt) (s.data.toList.drop (a + 1))) := by rw [← hexl]
          rw [hex2] at HII
          have HEXL := Lib.hid hexl
          generalize htll : s[a]'hlt :: (s.data.toList.drop (a + 1)).take (tokLen (s[a]'hlt) (s.data.toList.drop (a + 1))) = tl at *
          have htk : ∀ l, tokLen (s[a]'hlt) l = if isLet (s[a]'hlt) then runLen l else 0 := fun l => rfl
          have HTK := Lib.hid htk
          generalize hn : tokLen (s[a]'hlt) (s.data.toList.drop (a + 1)) = n at *
          rw [List.drop_drop] at HII
          clear hst hI HI HD h35 n32 n9 n10 n13 n3 htl hexl hex2 htll htk
          have HNN := Lib.hid hn
          clear hn
          go_wp2_with fail
          obtain ⟨wo, rfl⟩ : ∃ wo : World, wo = wr := ⟨_, rfl⟩
          go_loop [11] (fun v => ∃ k : Nat, a + 1 ≤ k ∧ k ≤ s.size ∧ v = .int .i64 k ∧ Hid (k + tokLen (s[a]'hlt) (s.data.toList.drop k) = a + 1 + n)) (fun v => s.size - (intOf v).toNat)
          case atStart => exact ⟨a + 1, by omega, by omega, by go_num, by show _ = _; rw [HNN.out]⟩
          case round =>
            obtain ⟨k, hk1, hk2, rfl, HN⟩ := hrel
            cases hi : isLet (s[a]'hlt) with
            | false =>
              have HNK : Hid (k = a + 1 + n) := by
                have h := HN.out
                rw [HTK.out, hi] at h
                show _ = _
                simpa using h
              have hnk := HNK.out
              obtain rfl : n = k - (a + 1) := by omega
              have hex : a + 1 + (k - (a + 1)) = k := by omega
              rw [hex] at HII HEXL
              clear HN HNN hex HNK hnk
              have hszk : (s.extract a k).size ≤ 9223372036854775807 := Nat.le_trans (show (s.extract a k).size ≤ 8192 by rw [ByteArray.size_extract]; omega) (by decide)
              by_cases hkz : kindOf tl = 0
              · have HR : Hid (lexAll s.data.toList = ([], 3, line, col)) := by
                  have h := HII.out
                  rw [if_pos hkz] at h
                  show _ = _
                  rw [lexAll, if_neg (by rw [HLEN.out]; exact hbig), h]; rfl
                have HOF := Lib.hid (rOf5_any (s.extract a k))
                rw [HEXL.out, hkz] at HOF
                clear hkz HII HEXL
                go_wp2_with (first | (go_at_call 77; refine (rletter_any _ _).mono ?_; rintro e w' ⟨rfl, rfl⟩) | (go_at_call 78; refine (HOF.out _ hszk).mono ?_; rintro e w2 ⟨rfl, hb2⟩))
                refine bodyPost_ret (results_tmp4 rfl _ _ _) rfl ?_
                exact ⟨.slice none 0 0, [], 3, line, col, rfl, World.ownsRow_nil _ _ _ _, bl_call hbw hb2, HR.out⟩
              · have HS2 : Hid (LexIn s.data.toList (ts ++ [⟨kindOf tl, s.extract a k, line, col⟩]) k line (col + k - a)) := by
                  have h := HII.out
                  rw [if_neg hkz] at h
                  show LexIn _ _ _ _ _
                  unfold LexIn
                  rw [h, preR_snoc, show col + 1 + ((k - (a + 1) : Nat) : Int) = col + k - a from by omega]
                have hk0 : (kindOf tl == 0) = false := beq_eq_false_iff_ne.2 hkz
                have HOF := Lib.hid (rOf5_any (s.extract a k))
                rw [HEXL.out] at HOF
                clear hkz HII HEXL
                generalize hkk : kindOf tl = kd at *
                clear hkk
                go_wp2_with (first | (go_at_call 77; refine (rletter_any _ _).mono ?_; rintro e w' ⟨rfl, rfl⟩) | (go_at_call 78; refine (HOF.out _ hszk).mono ?_; rintro e w2 ⟨rfl, hb2⟩; (have hown2 := ownsRow_below hown hb2); (have hbw2 := bl_call hbw hb2); (have hlw2 := hbw2.size)) | (at_builtin; refine wpList_append_own _ rfl _ _ 67 rfl w.heap.size 74 i0 _ 4 40 Tryz.underlying67 hi0 hz0 hz1 hz2 rfl (by decide) _ _ _ rfl (hown2.alloc _) ⟨w2.heap.size, 0, none⟩ 1 1 [.int .i64 kd, .string (s.extract a k), .int .i64 line, .int .i64 col] rfl rfl (World.news_of_block (cs := #[.int .i64 kd, .string (s.extract a k), .int .i64 line, .int .i64 col]) (t := 74) (fr := (0, 0)) (heap_alloc_new _ _)) (by simp [Value.oneCell']) (by unfold maxLen; omega) (by omega) (by simp; omega) ?_; intro v1 w3 hown3 hgrow3 hnil3))
                go_roundw
                case rel =>
                  refine ⟨ts ++ [⟨kd, s.extract a k, line, col⟩], k, line, col + k - a, hk2, l1, by omega, by omega, by omega, rfl, rfl, rfl, ?_, by simp; omega, ?_, HS2⟩
                  · rw [toks_snoc, List.length_append]; exact hown3
                  · exact bl_grown (bl_alloc hbw2 _) hgrow3 (fun k hk => (hown2.lt _ hk).1)
                case measure => simp [intOf]; omega
            | true =>
              by_cases hklt : k < s.size
              · cases hik : isLet (s[k]'hklt) with
                | true =>
                  have HX : Hid (k + 1 + tokLen (s[a]'hlt) (s.data.toList.drop (k + 1)) = a + 1 + n) := by
                    have h := HN.out
                    rw [HTK.out, hi, if_pos rfl, runLen_step s k hklt hik] at h
                    show _ = _
                    rw [HTK.out, hi, if_pos rfl]; omega
                  go_wp2_with (go_at_call 77; refine (rletter_any _ _).mono ?_; rintro e w' ⟨rfl, rfl⟩)
                  go_round
                  case rel => exact ⟨k + 1, by omega, by omega, by go_num, HX⟩
                  case measure => simp [intOf]; omega
                | false =>
                  have HNK : Hid (k = a + 1 + n) := by
                    have h := HN.out
                    rw [HTK.out, hi, if_pos rfl, runLen_stop s k hklt hik] at h
                    exact h
                  have hnk := HNK.out
                  obtain rfl : n = k - (a + 1) := by omega
                  have hex : a + 1 + (k - (a + 1)) = k := by omega
                  rw [hex] at HII HEXL
                  clear HN HNN hex HNK hnk
                  have hszk : (s.extract a k).size ≤ 9223372036854775807 := Nat.le_trans (show (s.extract a k).size ≤ 8192 by rw [ByteArray.size_extract]; omega) (by decide)
                  by_cases hkz : kindOf tl = 0
                  · have HR : Hid (lexAll s.data.toList = ([], 3, line, col)) := by
                      have h := HII.out
                      rw [if_pos hkz] at h
                      show _ = _
                      rw [lexAll, if_neg (by rw [HLEN.out]; exact hbig), h]; rfl
                    have HOF := Lib.hid (rOf5_any (s.extract a k))
                    rw [HEXL.out, hkz] at HOF
                    clear hkz HII HEXL
                    go_wp2_with (first | (go_at_call 77; refine (rletter_any _ _).mono ?_; rintro e w' ⟨rfl, rfl⟩) | (go_at_call 78; refine (HOF.out _ hszk).mono ?_; rintro e w2 ⟨rfl, hb2⟩))
                    refine bodyPost_ret (results_tmp4 rfl _ _ _) rfl ?_
                    exact ⟨.slice none 0 0, [], 3, line, col, rfl, World.ownsRow_nil _ _ _ _, bl_call hbw hb2, HR.out⟩
                  · have HS2 : Hid (LexIn s.data.toList (ts ++ [⟨kindOf tl, s.extract a k, line, col⟩]) k line (col + k - a)) := by
                      have h := HII.out
                      rw [if_neg hkz] at h
                      show LexIn _ _ _ _ _
                      unfold LexIn
                      rw [h, preR_snoc, show col + 1 + ((k - (a + 1) : Nat) : Int) = col + k - a from by omega]
                    have hk0 : (kindOf tl == 0) = false := beq_eq_false_iff_ne.2 hkz
                    have HOF := Lib.hid (rOf5_any (s.extract a k))
                    rw [HEXL.out] at HOF
                    clear hkz HII HEXL
                    generalize hkk : kindOf tl = kd at *
                    clear hkk
                    go_wp2_with (first | (go_at_call 77; refine (rletter_any _ _).mono ?_; rintro e w' ⟨rfl, rfl⟩) | (go_at_call 78; refine (HOF.out _ hszk).mono ?_; rintro e w2 ⟨rfl, hb2⟩; (have hown2 := ownsRow_below hown hb2); (have hbw2 := bl_call hbw hb2); (have hlw2 := hbw2.size)) | (at_builtin; refine wpList_append_own _ rfl _ _ 67 rfl w.heap.size 74 i0 _ 4 40 Tryz.underlying67 hi0 hz0 hz1 hz2 rfl (by decide) _ _ _ rfl (hown2.alloc _) ⟨w2.heap.size, 0, none⟩ 1 1 [.int .i64 kd, .string (s.extract a k), .int .i64 line, .int .i64 col] rfl rfl (World.news_of_block (cs := #[.int .i64 kd, .string (s.extract a k), .int .i64 line, .int .i64 col]) (t := 74) (fr := (0, 0)) (heap_alloc_new _ _)) (by simp [Value.oneCell']) (by unfold maxLen; omega) (by omega) (by simp; omega) ?_; intro v1 w3 hown3 hgrow3 hnil3))
                    go_roundw
                    case rel =>
                      refine ⟨ts ++ [⟨kd, s.extract a k, line, col⟩], k, line, col + k - a, hk2, l1, by omega, by omega, by omega, rfl, rfl, rfl, ?_, by simp; omega, ?_, HS2⟩
                      · rw [toks_snoc, List.length_append]; exact hown3
                      · exact bl_grown (bl_alloc hbw2 _) hgrow3 (fun k hk => (hown2.lt _ hk).1)
                    case measure => simp [intOf]; omega
              · have HNK : Hid (k = a + 1 + n) := by
                  obtain rfl : k = s.size := by omega
                  have h := HN.out
                  rw [HTK.out, hi, if_pos rfl, drop_end] at h
                  exact h
                have hnk := HNK.out
                obtain rfl : n = k - (a + 1) := by omega
                have hex : a + 1 + (k - (a + 1)) = k := by omega
                rw [hex] at HII HEXL
                clear HN HNN hex HNK hnk
                have hszk : (s.extract a k).size ≤ 9223372036854775807 := Nat.le_trans (show (s.extract a k).size ≤ 8192 by rw [ByteArray.size_extract]; omega) (by decide)
                by_cases hkz : kindOf tl = 0
                · have HR : Hid (lexAll s.data.toList = ([], 3, line, col)) := by
                    have h := HII.out
                    rw [if_pos hkz] at h
                    show _ = _
                    rw [lexAll, if_neg (by rw [HLEN.out]; exact hbig), h]; rfl
                  have HOF := Lib.hid (rOf5_any (s.extract a k))
                  rw [HEXL.out, hkz] at HOF
                  clear hkz HII HEXL
                  go_wp2_with (first | (go_at_call 77; refine (rletter_any _ _).mono ?_; rintro e w' ⟨rfl, rfl⟩) | (go_at_call 78; refine (HOF.out _ hszk).mono ?_; rintro e w2 ⟨rfl, hb2⟩))
                  refine bodyPost_ret (results_tmp4 rfl _ _ _) rfl ?_
                  exact ⟨.slice none 0 0, [], 3, line, col, rfl, World.ownsRow_nil _ _ _ _, bl_call hbw hb2, HR.out⟩
                · have HS2 : Hid (LexIn s.data.toList (ts ++ [⟨kindOf tl, s.extract a k, line, col⟩]) k line (col + k - a)) := by
                    have h := HII.out
                    rw [if_neg hkz] at h
                    show LexIn _ _ _ _ _
                    unfold LexIn
                    rw [h, preR_snoc, show col + 1 + ((k - (a + 1) : Nat) : Int) = col + k - a from by omega]
                  have hk0 : (kindOf tl == 0) = false := beq_eq_false_iff_ne.2 hkz
                  have HOF := Lib.hid (rOf5_any (s.extract a k))
                  rw [HEXL.out] at HOF
                  clear hkz HII HEXL
                  generalize hkk : kindOf tl = kd at *
                  clear hkk
                  go_wp2_with (first | (go_at_call 77; refine (rletter_any _ _).mono ?_; rintro e w' ⟨rfl, rfl⟩) | (go_at_call 78; refine (HOF.out _ hszk).mono ?_; rintro e w2 ⟨rfl, hb2⟩; (have hown2 := ownsRow_below hown hb2); (have hbw2 := bl_call hbw hb2); (have hlw2 := hbw2.size)) | (at_builtin; refine wpList_append_own _ rfl _ _ 67 rfl w.heap.size 74 i0 _ 4 40 Tryz.underlying67 hi0 hz0 hz1 hz2 rfl (by decide) _ _ _ rfl (hown2.alloc _) ⟨w2.heap.size, 0, none⟩ 1 1 [.int .i64 kd, .string (s.extract a k), .int .i64 line, .int .i64 col] rfl rfl (World.news_of_block (cs := #[.int .i64 kd, .string (s.extract a k), .int .i64 line, .int .i64 col]) (t := 74) (fr := (0, 0)) (heap_alloc_new _ _)) (by simp [Value.oneCell']) (by unfold maxLen; omega) (by omega) (by simp; omega) ?_; intro v1 w3 hown3 hgrow3 hnil3))
                  go_roundw
                  case rel =>
                    refine ⟨ts ++ [⟨kd, s.extract a k, line, col⟩], k, line, col + k - a, hk2, l1, by omega, by omega, by omega, rfl, rfl, rfl, ?_, by simp; omega, ?_, HS2⟩
                    · rw [toks_snoc, List.length_append]; exact hown3
                    · exact bl_grown (bl_alloc hbw2 _) hgrow3 (fun k hk => (hown2.lt _ hk).1)
                  case measure => simp [intOf]; omega
end Go.Proofs.YtcgkfgklggjmaaaGreatDoor
end
