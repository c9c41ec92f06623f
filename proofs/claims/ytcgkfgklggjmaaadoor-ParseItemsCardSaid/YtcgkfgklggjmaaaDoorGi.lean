import Derived.Test.YtcgkfgklggjmaaaDoorGh
import Derived.KernelRfl
import Derived.Deep.AppendLies
section
namespace Go.Proofs.YtcgkfgklggjmaaaDoor.Par
set_option linter.unusedVariables false
set_option linter.unusedSimpArgs false
/-! the items of a text behind those of another one -/
theorem lex_live : ∀ (n : Nat) (l : List UInt8) (line col : Int) (ts : List Tok), l.length ≤ n → lexL l line col = .ok ts → ∃ us e, ts = us ++ [e] ∧ e.kind = 0 ∧ ∀ x ∈ us, x.kind ≠ 0 := by
  intro n
  induction n with
  | zero =>
    intro l line col ts hn h
    obtain rfl : l = [] := List.eq_nil_of_length_eq_zero (by omega)
    rw [lexL] at h
    injection h with h
    subst h
    exact ⟨[], _, rfl, rfl, fun x hx => by cases hx⟩
  | succ n ih =>
    intro l line col ts hn h
    cases l with
    | nil =>
      rw [lexL] at h
      injection h with h
      subst h
      exact ⟨[], _, rfl, rfl, fun x hx => by cases hx⟩
    | cons c cs =>
      rw [lexL] at h
      rw [List.length_cons] at hn
      split at h
      · exact ih _ _ _ _ (by rw [List.length_drop]; omega) h
      · split at h
        · exact ih _ _ _ _ (by omega) h
        · split at h
          · exact ih _ _ _ _ (by omega) h
          · split at h
            · cases h
            · rename_i hk
              cases hr : lexL (cs.drop (tokLen c cs)) line (col + 1 + tokLen c cs) with
              | error e => rw [hr] at h; cases h
              | ok ts' =>
                rw [hr] at h
                injection h with h
                subst h
                obtain ⟨us, e, rfl, he, hx⟩ := ih _ _ _ _ (by rw [List.length_drop]; omega) hr
                refine ⟨_ :: us, e, rfl, he, fun x hm => ?_⟩
                rcases List.mem_cons.1 hm with rfl | hm
                · exact hk
                · exact hx x hm
theorem als_self : ∀ (l : List Tok), (∀ x ∈ l, x.kind ≠ 0) → Als l l
  | [], _ => trivial
  | x :: l, h => ⟨⟨rfl, rfl, h x (by simp)⟩, als_self l fun y hy => h y (by simp [hy])⟩
theorem als_down (a b : Int) : ∀ (l : List Tok), (∀ x ∈ l, x.kind ≠ 0) → Als (l.map (downT a)) (l.map (downT b))
  | [], _ => trivial
  | x :: l, h => ⟨⟨rfl, rfl, h x (by simp)⟩, als_down a b l fun y hy => h y (by simp [hy])⟩
theorem rowT_strip (p : Plan) : rowT (strip p) = rowT p := by
  unfold rowT headT strip
  simp only [List.length_map, List.flatMap_map]
  rfl
theorem strip_none {p q : Plan} (h : strip p = strip q) (hm : q.mets = []) (hf : q.fees = []) (hc : q.chgs = []) : p.mets = [] ∧ p.fees = [] ∧ p.chgs = [] := by
  have h1 := congrArg Plan.mets h
  have h2 := congrArg Plan.fees h
  have h3 := congrArg Plan.chgs h
  simp only [strip, hm, hf, hc, List.map_nil, List.map_eq_nil_iff] at h1 h2 h3
  exact ⟨h1, h2, h3⟩
theorem adds_none (b : Plan) {p : Plan} (h : p.mets = [] ∧ p.fees = [] ∧ p.chgs = []) : adds b p = b := by
  unfold adds; rw [h.1, h.2.1, h.2.2, List.append_nil, List.append_nil, List.append_nil]
theorem small_strip {p q : Plan} (h : strip p = strip q) (hs : Small p) : Small q := by
  have h1 := congrArg (fun x => x.mets.length) h
  have h2 := congrArg (fun x => x.fees.length) h
  have h3 := congrArg (fun x => x.chgs.length) h
  have h4 := congrArg Plan.chgs h
  simp only [strip, List.length_map] at h1 h2 h3
  refine ⟨h1 ▸ hs.mets, h2 ▸ hs.fees, h3 ▸ hs.chgs, fun c hc => ?_, fun c hc => ?_⟩
  · have hm : sC c ∈ (strip p).chgs := by rw [h4]; exact List.mem_map_of_mem hc
    obtain ⟨d, hd, he⟩ := List.mem_map.1 hm
    have := congrArg Chg.tiers he
    simp only [sC] at this
    exact this ▸ hs.tiers d hd
  · have hm : sC c ∈ (strip p).chgs := by rw [h4]; exact List.mem_map_of_mem hc
    obtain ⟨d, hd, he⟩ := List.mem_map.1 hm
    have := congrArg Chg.adjs he
    simp only [sC] at this
    exact this ▸ hs.adjs d hd
/-- a text that is parsed, and another one behind it: its plan, and the items of the tokens behind -/
theorem join_items {us vs : List Tok} {e : Tok} (he : e.kind = 0) (hu : ∀ x ∈ us, x.kind ≠ 0) (h0 : (P.plan dp npV (us ++ [e])).2.err = 0) :
    ∃ q r, r.err = 0 ∧ r.rest = vs ∧ strip q = strip (P.plan dp npV (us ++ [e])).1 ∧ P.plan dp npV (us ++ vs) = P.itemsAll dp npV q r := by
  have h := plan_cut dp npV (T := ⟨true, e, vs⟩) ⟨he, fun c => by cases c⟩ (als_self us hu)
  rcases h with h | h | ⟨_, _, q, r, h1, h2, h3, h4⟩
  · exact absurd h0 h.bad
  · exact absurd h0 h.1
  · exact ⟨q, r, h1, h2, h3, h4⟩
theorem n_plan : P.plan dp npV (nUs ++ [⟨0, ⟨#[]⟩, 1, 50⟩]) = (nHead, ⟨[⟨0, ⟨#[]⟩, 1, 50⟩], 0, 0, 0⟩) := by kernel_rfl
theorem n_live : ∀ x ∈ nUs, x.kind ≠ 0 := by decide
theorem items_join {us ws : List Tok} {e z : Tok} (d d' : Int) (he : e.kind = 0) (hz : z.kind = 0) (hu : ∀ x ∈ us, x.kind ≠ 0) (hw : ∀ x ∈ ws, x.kind ≠ 0) (h0 : (P.plan dp npV (us ++ [e])).2.err = 0) :
    (P.plan dp npV (nUs ++ (ws ++ [z]).map (downT d))).2.err = (P.plan dp npV (us ++ (ws ++ [z]).map (downT d'))).2.err ∧
    ((P.plan dp npV (nUs ++ (ws ++ [z]).map (downT d))).2.err = 0 → strip (P.plan dp npV (us ++ (ws ++ [z]).map (downT d'))).1 = strip (adds (P.plan dp npV (us ++ [e])).1 (P.plan dp npV (nUs ++ (ws ++ [z]).map (downT d))).1)) := by
  obtain ⟨q1, r1, a1, a2, a3, a4⟩ := join_items (vs := (ws ++ [z]).map (downT d)) (e := ⟨0, ⟨#[]⟩, 1, 50⟩) rfl n_live (by rw [n_plan])
  obtain ⟨q2, r2, b1, b2, b3, b4⟩ := join_items (vs := (ws ++ [z]).map (downT d')) he hu h0
  rw [n_plan] at a3
  rw [a4, b4]
  have hl : Loc ⟨false, downT d z, [downT d' z]⟩ r1 r2 := ⟨a1, b1, _, _, by rw [a2, List.map_append]; rfl, by rw [b2, List.map_append]; rfl, als_down d d' ws hw⟩
  refine items_alike dp npV ⟨hz, fun _ => ⟨downT d' z, rfl, hz⟩⟩ rfl _ _ _ _ _ _ (Nat.le_refl _) hl ?_
  rw [b3, adds_none _ (strip_none a3 rfl rfl rfl)]
/-- what is said of a text without a fault -/
theorem RParse_zero {l : List UInt8} (h : (RParse l).2.1 = 0) : (RParse l).2.2.1 = 0 ∧ (RParse l).2.2.2 = 0 ∧ ∃ ts a b, lexAll l = (ts, 0, a, b) ∧ (P.plan dp npV ts).2.err = 0 ∧ (RParse l).1 = (P.plan dp npV ts).1 := by
  obtain ⟨ts, er, a, b, hall⟩ : ∃ ts er a b, lexAll l = (ts, er, a, b) := ⟨_, _, _, _, rfl⟩
  by_cases her : er = 0
  · subst her
    by_cases h0 : (P.plan dp npV ts).2.err = 0
    · rw [PParse_ok hall h0]
      exact ⟨rfl, rfl, ts, a, b, hall, h0, rfl⟩
    · rw [PParse_bad hall h0] at h; exact absurd h h0
  · rw [RParse_lex hall her] at h; exact absurd h her
theorem join_text {l m : List UInt8} {us : List Tok} {e : Tok} (ha : lexL l 1 1 = .ok (us ++ [e])) (hl : (l ++ 10 :: m).length ≤ 8192) :
    (∃ ts, lexL m 1 1 = .ok ts ∧ lexAll (l ++ 10 :: m) = (us ++ ts.map (downT e.line), 0, 0, 0)) ∨ (∃ p q, lexL m 1 1 = .error (p, q) ∧ lexAll (l ++ 10 :: m) = ([], 3, p + e.line, q)) := by
  have hj := all_join_ok (b := m) ha hl
  cases hm : lexL m 1 1 with
  | ok ts =>
    refine .inl ⟨ts, rfl, ?_⟩
    rw [hm] at hj
    unfold lexAll
    rw [if_neg (by omega), hj]
    rfl
  | error x =>
    refine .inr ⟨x.1, x.2, rfl, ?_⟩
    rw [hm] at hj
    unfold lexAll
    rw [if_neg (by omega), hj]
    rfl
theorem items_plain (a more : List UInt8) (ha : a.length ≤ 4096) (hm : more.length ≤ 2048) (h0 : (RParse a).2.1 = 0) :
    ((RParse (nPre ++ 10 :: more)).2.1 = (RParse (a ++ 10 :: more)).2.1) ∧
    ((RParse (nPre ++ 10 :: more)).2.1 = 0 → strip (RParse (a ++ 10 :: more)).1 = strip (adds (RParse a).1 (RParse (nPre ++ 10 :: more)).1)) := by
  obtain ⟨_, _, ts, p, q, hall, he0, hpl⟩ := RParse_zero h0
  rcases all_cases a (by omega) with ⟨us, e, h1, h2⟩ | ⟨_, _, _, h2⟩
  · rw [h2] at hall
    injection hall with hall _
    subst hall
    obtain ⟨us', e', h3, hek, hul⟩ := lex_live _ a 1 1 _ (Nat.le_refl _) h1
    obtain ⟨h4, h5⟩ := List.append_inj' h3 rfl
    obtain rfl := h4
    injection h5 with h5
    obtain rfl := h5
    have hn : nPre.length = 49 := rfl
    have l1 : (nPre ++ 10 :: more).length ≤ 8192 := by rw [List.length_append, List.length_cons]; omega
    have l2 : (a ++ 10 :: more).length ≤ 8192 := by rw [List.length_append, List.length_cons]; omega
    rcases join_text (m := more) n_pre l1 with ⟨vs, j1, j2⟩ | ⟨x, y, j1, j2⟩
    · rcases join_text (m := more) h1 l2 with ⟨vs', k1, k2⟩ | ⟨x, y, k1, k2⟩
      · rw [j1] at k1
        injection k1 with k1
        subst k1
        obtain ⟨ws, z, rfl, hz, hw⟩ := lex_live _ more 1 1 _ (Nat.le_refl _) j1
        have hj := items_join 1 e.line hek hz hul hw he0
        have j3 : lexAll (nPre ++ 10 :: more) = (nUs ++ (ws ++ [z]).map (downT 1), 0, 0, 0) := j2
        rw [hpl]
        clear j2
        generalize nUs ++ (ws ++ [z]).map (downT 1) = A at *
        generalize us ++ (ws ++ [z]).map (downT e.line) = B at *
        obtain ⟨hj1, hj2⟩ := hj
        by_cases h6 : (P.plan dp npV A).2.err = 0
        · have h7 : (P.plan dp npV B).2.err = 0 := hj1.symm.trans h6
          rw [PParse_ok j3 h6, PParse_ok k2 h7]
          exact ⟨rfl, fun _ => hj2 h6⟩
        · have h7 : (P.plan dp npV B).2.err ≠ 0 := fun c => h6 (hj1.trans c)
          rw [PParse_bad j3 h6, PParse_bad k2 h7]
          exact ⟨hj1, fun c => absurd c h6⟩
      · rw [j1] at k1; cases k1
    · rcases join_text (m := more) h1 l2 with ⟨vs', k1, k2⟩ | ⟨x', y', k1, k2⟩
      · rw [j1] at k1; cases k1
      · rw [RParse_lex j2 (by decide), RParse_lex k2 (by decide)]
        exact ⟨rfl, fun c => absurd (show (3 : Int) = 0 from c) (by decide)⟩
  · rw [h2] at hall
    injection hall with _ hall
    injection hall with hall _
    cases hall
end Go.Proofs.YtcgkfgklggjmaaaDoor.Par
end
section
namespace Go.Proofs.YtcgkfgklggjmaaaDoor.Par
set_option linter.unusedVariables false
set_option linter.unusedSimpArgs false
open Go.RowKit
/-! an append of a row that may be empty -/
section
variable {P : Program} (w : World)
theorem run_append_zero (t ty : TypeId) (e : TypeId) (i : TypeInfo) (ht : P.underlying t = some (.slice e)) (hi : P.info? e = some i) (A : Option Addr) (n c : Nat) (hn : n ≤ c) (A' : Option Addr) (c' : Nat) :
    (Builtin.append_ #[t, t] ty #[.slice A n c, .slice A' 0 c']).run P w = .ok (.slice A n c) w := by
  cases A <;> cases A' <;> simp [Builtin.append_, run_underlying ht, sizeOf, typeInfo, hi, Builtin.lenOf, Builtin.firstCells, loadCells, loadCellsFrom, storeCells, hn]
theorem own_form {base : Nat} {e : TypeId} {size : Nat} {v : Value} {n : Nat} {xs : List Value} (h : w.ownsRow base e size v n xs) : ∃ A cap, v = .slice A n cap ∧ n ≤ cap := by
  rcases h.2 with ⟨rfl, rfl⟩ | ⟨g, cap, cur, rfl, _, _, hc, _⟩
  · exact ⟨_, _, rfl, Nat.le_refl _⟩
  · exact ⟨_, _, rfl, hc⟩
theorem run_append_any (t ty : TypeId) (base base' : Nat) (e : TypeId) (i : TypeInfo) (z : Value) (size bytes : Nat) (ht : P.underlying t = some (.slice e)) (hi : P.info? e = some i) (hz : i.zero = some z)
    (hsize : i.size = size) (hby : i.bytes = bytes) (hzs : z.cells.size = size) (hsz : 0 < size)
    (v : Value) (n : Nat) (xs : List Value) (hown : w.ownsRow base e size v n xs)
    (v2 : Value) (m : Nat) (news : List Value) (hown2 : w.ownsRow base' e size v2 m news) (h1 : ∀ u ∈ news, u.oneCell' = true)
    (h63 : n + m ≤ maxLen) (hbytes : (n + m) * bytes ≤ 140737488355328) (hbase : base ≤ w.heap.size) :
    ∃ A cap w', (Builtin.append_ #[t, t] ty #[v, v2]).run P w = .ok (.slice A (n + m) cap) w' ∧ w'.ownsRow base e size (.slice A (n + m) cap) (n + m) (xs ++ news) ∧ w.grownBy w' v.ownBlock := by
  by_cases hm : m = 0
  · subst hm
    obtain ⟨A, c, rfl, hc⟩ := own_form w hown
    obtain ⟨A', c', rfl, _⟩ := own_form w hown2
    have hx : news = [] := List.eq_nil_of_length_eq_zero (by simpa using hown2.1)
    subst hx
    refine ⟨A, c, w, run_append_zero w t ty e i ht hi A n c hc A' c', ?_, ⟨rfl, rfl, rfl, Nat.le_refl _, fun _ _ _ => rfl⟩⟩
    rw [List.append_nil]; exact hown
  · obtain ⟨g, c, rfl, _, _⟩ := hown2.form (by omega)
    obtain ⟨v', w', hr, h2, h3, _, _⟩ := run_append_own_at (P := P) w base t ty e i z size bytes ht hi hz hsize hby hzs hsz v n xs hown ⟨g, 0, none⟩ m c news (by have := hown2.1; omega) (hown2.cells (g := g) rfl) h1 h63 hbytes hbase
    obtain ⟨A, cap, rfl, _⟩ := own_form w' h2
    exact ⟨A, cap, w', hr, h2, h3⟩
theorem step_append_any {ops : Array Oper} {o : Oper} {a : Act} {K : Act → World → Prop} {Q : Exit → Act → World → Prop} {E : Prop} (hgd : o.guard = none) (s x : Operand) (t : TypeId)
    (ho : o.op = .call { callee := .builtin .append, args := #[s, x], argTypes := #[t, t] })
    (base base' : Nat) (e : TypeId) (i : TypeInfo) (z : Value) (size bytes : Nat) (ht : P.underlying t = some (.slice e)) (hi : P.info? e = some i) (hz : i.zero = some z)
    (hsize : i.size = size) (hby : i.bytes = bytes) (hzs : z.cells.size = size) (hsz : 0 < size)
    (v : Value) (n : Nat) (xs : List Value) (hs : a.eval s = v) (hown : w.ownsRow base e size v n xs)
    (v2 : Value) (m : Nat) (news : List Value) (hx : a.eval x = v2) (hown2 : w.ownsRow base' e size v2 m news) (h1 : ∀ u ∈ news, u.oneCell' = true)
    (h63 : n + m ≤ maxLen) (hbytes : (n + m) * bytes ≤ 140737488355328) (hbase : base ≤ w.heap.size)
    (h : ∀ A cap w', w'.ownsRow base e size (.slice A (n + m) cap) (n + m) (xs ++ news) → w.grownBy w' v.ownBlock → K (a.put o.dst (.slice A (n + m) cap)) w') :
    if Region.wanted o (yielded ops a.tmps) = true then Oper.wp P o a w K Q else E := by
  have hw : Region.wanted o (yielded ops a.tmps) = true := by simp [Region.wanted, hgd]
  rw [if_pos hw]
  obtain ⟨A, cap, w', hr, h2, h3⟩ := run_append_any (P := P) w t o.type base base' e i z size bytes ht hi hz hsize hby hzs hsz v n xs hown v2 m news hown2 h1 h63 hbytes hbase
  unfold Oper.wp execOp
  simp only [ho, resolve, invoke, builtin, Sem.run_bind, Sem.run_pure, Result.andThen_ok, List.map_toArray, List.map_cons, List.map_nil, hs, hx, hr]
  exact h A cap w' h2 h3
end
end Go.Proofs.YtcgkfgklggjmaaaDoor.Par
end
section
namespace Go.Proofs.YtcgkfgklggjmaaaDoor.Par
set_option linter.unusedVariables false
set_option linter.unusedSimpArgs false
open Go.RowKit
/-! faults, compared whole -/
theorem flt_eq (d : Nat) (a b c a' b' c' : Int) (w : World) :
    (Op.equalIn (d + 2) 34 (.agg #[.int .i64 a, .int .i64 b, .int .i64 c]) (.agg #[.int .i64 a', .int .i64 b', .int .i64 c'])).run Tryd.prog w = .ok (a == a' && (b == b' && (c == c' && true))) w := by
  refine eqS_of _ _ _ _ _ _ Tryd.underlying34 (by kernel_rfl) ?_
  refine eqF_cons _ _ _ _ _ (.int .i64 a) (.int .i64 a') _ _ rfl (by go_simp) (by go_simp) (by go_simp) ?_
  refine eqF_cons _ _ _ _ _ (.int .i64 b) (.int .i64 b') _ _ rfl (by go_simp) (by go_simp) (by go_simp) ?_
  refine eqF_cons _ _ _ _ _ (.int .i64 c) (.int .i64 c') _ _ rfl (by go_simp) (by go_simp) (by go_simp) ?_
  exact eqF_nil _ _ _
theorem flt_same (a b c : Int) (w : World) : (binOp .eql 34 (.agg #[.int .i64 a, .int .i64 b, .int .i64 c]) (.agg #[.int .i64 a, .int .i64 b, .int .i64 c])).run Tryd.prog w = .ok (.bool true) w := by
  have h := eql_S (fun d => flt_eq (d + 1) a b c a b c w)
  simpa using h
theorem flt_zero (w : World) : (binOp .neq 34 (.agg #[.int .i64 0, .int .i64 0, .int .i64 0]) (.agg #[.int .i64 0, .int .i64 0, .int .i64 0])).run Tryd.prog w = .ok (.bool false) w := by
  have h := neq_S (fun d => flt_eq (d + 1) 0 0 0 0 0 0 w)
  simpa using h
theorem flt_bad {a : Int} (b c : Int) (ha : a ≠ 0) (w : World) : (binOp .neq 34 (.agg #[.int .i64 a, .int .i64 b, .int .i64 c]) (.agg #[.int .i64 0, .int .i64 0, .int .i64 0])).run Tryd.prog w = .ok (.bool true) w := by
  have h := neq_S (fun d => flt_eq (d + 1) a b c 0 0 0 w)
  have h0 : (a == 0) = false := by simpa using ha
  rw [h0] at h
  simpa using h
end Go.Proofs.YtcgkfgklggjmaaaDoor.Par
end
section
namespace Go.Proofs.YtcgkfgklggjmaaaDoor.Par
set_option linter.unusedVariables false
set_option linter.unusedSimpArgs false
open Go.RowKit
def intF (n : Int) : List Value := [.int .i64 n]
theorem intF_len (n : Int) : (intF n).length = 1 := rfl
theorem int_flat (l : List Int) : l.flatMap intF = l.map (Value.int .i64) := by
  induction l with
  | nil => rfl
  | cons a l ih => simp [intF, ih]
theorem beq_ne_bytes {a b : ByteArray} (h : a ≠ b) : (a == b) = false := by
  cases hh : (a == b) with
  | false => rfl
  | true =>
    exfalso
    apply h
    cases a with
    | mk d =>
      cases b with
      | mk e =>
        have he : (d == e) = true := hh
        rw [beq_iff_eq.1 he]
theorem take_next {α : Type} {l l' : List α} {k : Nat} (hl : l.length = l'.length) (hk : k < l.length) (h : l.take k = l'.take k) (e : l[k]? = l'[k]?) : l.take (k + 1) = l'.take (k + 1) := by
  rw [List.take_add_one, List.take_add_one, h, e]
set_option maxHeartbeats 8000000 in
set_option maxRecDepth 100000 in
theorem texts_any {l l' : List ByteArray} {v v' : Value} (w : World) (h : Lies strF 9 1 w v l) (h' : Lies strF 9 1 w v' l') : Calls Tryd.prog 54 #[v, v'] w fun e w' => e = .returned (.bool (decide (l = l'))) ∧ Below w.heap.size w w' := by
  obtain ⟨A, c, rfl, h1, h2, h3⟩ := h.open
  obtain ⟨A', c', rfl, h1', h2', h3'⟩ := h'.open
  have hm : l.length ≤ 9223372036854775807 := by unfold maxLen at h2; omega
  have hm' : l'.length ≤ 9223372036854775807 := by unfold maxLen at h2'; omega
  have hH := Lib.hid h
  have hH' := Lib.hid h'
  clear h h'
  obtain ⟨D, hD⟩ : ∃ D, D = decide (l = l') := ⟨_, rfl⟩
  rw [← hD]
  have HD := Lib.hid hD
  clear hD
  by_cases hl : l.length = l'.length
  · have e0 : ((l.length : Int) != (l'.length : Int)) = false := by rw [hl]; simp
    have hlh := Lib.hid hl
    clear hl
    go_enter Tryd.func54, Tryd.ntmps54
    go_wp2_with fail
    go_loopg [13] l.length (fun n_ vi_ wr => ∃ k : Nat, k ≤ l.length ∧ vi_ = .int .i64 k ∧ n_ = l.length - k ∧ Below w.heap.size w wr ∧ Hid (l.take k = l'.take k))
    case atStart => exact ⟨0, Nat.zero_le _, rfl, rfl, bl_refl w, Lib.hid rfl⟩
    case round =>
      obtain ⟨k, hk, rfl, rfl, hb, hp⟩ := hrel
      by_cases hlt : k < l.length
      · have hlt' : k < l'.length := by have := hlh.out; omega
        obtain ⟨a, hi⟩ : ∃ a, l[k]? = some a := ⟨_, List.getElem?_eq_getElem hlt⟩
        obtain ⟨a', hi'⟩ : ∃ a, l'[k]? = some a := ⟨_, List.getElem?_eq_getElem hlt'⟩
        obtain ⟨g, rfl, hg⟩ := h3 (by omega)
        obtain ⟨g', rfl, hg'⟩ := h3' (by omega)
        have y := ((hH.out.below hb).at strF_len hi (j := 0) rfl)
        have y' := ((hH'.out.below hb).at strF_len hi' (j := 0) rfl)
        simp only [Nat.mul_one, Nat.add_zero] at y y'
        have b0 : (0 : Int) ≤ (k : Int) := by omega
        have b1 : (k : Int) < (l.length : Int) := by omega
        have b2 : (k : Int) < (l'.length : Int) := by omega
        by_cases hab : a = a'
        · subst hab
          have hn := Lib.hid (take_next hlh.out hlt hp.out (hi.trans hi'.symm))
          have ea : (a.toList == a.toList) = true := by rw [beq_bytes]; exact beq_refl_bytes a
          clear hi hi' hp e0
          go_wp2_with fail
          go_quiet (fail)
          go_wp2_with fail
          go_roundg (l.length - (k + 1))
          case rel => exact ⟨k + 1, by omega, by go_num, rfl, bl_drewN hb _, hn⟩
          case measure => omega
        · have ea : (a.toList == a'.toList) = false := by rw [beq_bytes]; exact beq_ne_bytes hab
          have hne : decide (l = l') = false := decide_eq_false (fun e => hab (by rw [e, hi'] at hi; exact (Option.some.inj hi).symm))
          have hneh := Lib.hid hne
          clear hi hi' hp e0 hab hne
          go_wp2_with fail
          go_quiet (fail)
          go_wp2_with fail
          go_ret
          exact ⟨ret_bool (a := false) (by rw [HD.out, hneh.out]), bl_drewN hb _⟩
      · obtain rfl : k = l.length := by omega
        have hee : l = l' := by
          have h1 := hp.out
          rw [List.take_length, hlh.out, List.take_length] at h1
          exact h1
        have hed : decide (l = l') = true := decide_eq_true hee
        have heh := Lib.hid hed
        clear hed hee hp e0
        go_wp2_with fail
        go_ret
        exact ⟨ret_bool (a := true) (by rw [HD.out, heh.out]), hb⟩
  · have e0 : ((l.length : Int) != (l'.length : Int)) = true := bne_iff_ne.2 (by omega)
    have hne : decide (l = l') = false := decide_eq_false (fun e => hl (by rw [e]))
    have hneh := Lib.hid hne
    clear hne hl
    go_enter Tryd.func54, Tryd.ntmps54
    go_wp2_with fail
    go_ret
    exact ⟨ret_bool (a := false) (by rw [HD.out, hneh.out]), bl_refl w⟩
end Go.Proofs.YtcgkfgklggjmaaaDoor.Par
end
section
namespace Go.Proofs.YtcgkfgklggjmaaaDoor.Par
set_option linter.unusedVariables false
set_option linter.unusedSimpArgs false
open Go.RowKit
set_option maxHeartbeats 16000000 in
set_option maxRecDepth 100000 in
theorem same_any {B B' : Nat} {p q : Plan} {mv fv cv mv' fv' cv' : Value} {cs ds : List CT} (w : World) (h : Rows w B p mv fv cv cs) (h' : Rows w B' q mv' fv' cv' ds) (hs : Small p) (hs' : Small q) : Calls Tryd.prog 20 #[.agg (planC p mv fv cv), .agg (planC q mv' fv' cv')] w fun e w' => e = .returned (.bool (decide (rowT p = rowT q))) ∧ Below w.heap.size w w' := by
  have r1 := fun (W : World) (hb : LB w W) => row_any W (h.below hb.out) hs
  have r2 := fun (W : World) (hb : LB w W) => row_any W (h'.below hb.out) hs'
  obtain ⟨Am, cAm, rfl, _, _, _⟩ := Lies.open (f := metF) (l := p.mets) (Lies.of h.mo)
  obtain ⟨Af, cAf, rfl, _, _, _⟩ := Lies.open (f := feeF) (l := p.fees) (Lies.of h.fo)
  obtain ⟨Ac, cAc, rfl, _, _, _⟩ := Lies.open (f := chgF) (l := cs) (Lies.of h.co)
  obtain ⟨Bm, cBm, rfl, _, _, _⟩ := Lies.open (f := metF) (l := q.mets) (Lies.of h'.mo)
  obtain ⟨Bf, cBf, rfl, _, _, _⟩ := Lies.open (f := feeF) (l := q.fees) (Lies.of h'.fo)
  obtain ⟨Bc, cBc, rfl, _, _, _⟩ := Lies.open (f := chgF) (l := ds) (Lies.of h'.co)
  unfold planC at r1 r2 ⊢
  generalize rowT p = a at *
  generalize rowT q = b at *
  replace r1 := Lib.hid r1
  replace r2 := Lib.hid r2
  have k1 := ((Blk.new w 29 #[.string p.name, .string p.cur, .int .i64 p.from_.1, .int .i64 p.from_.2.1, .int .i64 p.from_.2.2, .int .i64 p.to_.1, .int .i64 p.to_.2.1, .int .i64 p.to_.2.2, .slice Am p.mets.length cAm, .slice Af p.fees.length cAf, .slice Ac cs.length cAc, .int .i64 p.line, .int .i64 p.col]).alloc (.cells #[.string q.name, .string q.cur, .int .i64 q.from_.1, .int .i64 q.from_.2.1, .int .i64 q.from_.2.2, .int .i64 q.to_.1, .int .i64 q.to_.2.1, .int .i64 q.to_.2.2, .slice Bm q.mets.length cBm, .slice Bf q.fees.length cBf, .slice Bc ds.length cBc, .int .i64 q.line, .int .i64 q.col] 29)).drew
  have k2 : Blk ((w.alloc (.cells #[.string p.name, .string p.cur, .int .i64 p.from_.1, .int .i64 p.from_.2.1, .int .i64 p.from_.2.2, .int .i64 p.to_.1, .int .i64 p.to_.2.1, .int .i64 p.to_.2.2, .slice Am p.mets.length cAm, .slice Af p.fees.length cAf, .slice Ac cs.length cAc, .int .i64 p.line, .int .i64 p.col] 29)).alloc (.cells #[.string q.name, .string q.cur, .int .i64 q.from_.1, .int .i64 q.from_.2.1, .int .i64 q.from_.2.2, .int .i64 q.to_.1, .int .i64 q.to_.2.1, .int .i64 q.to_.2.2, .slice Bm q.mets.length cBm, .slice Bf q.fees.length cBf, .slice Bc ds.length cBc, .int .i64 q.line, .int .i64 q.col] 29)).drew (w.heap.size + 1) 29 #[.string q.name, .string q.cur, .int .i64 q.from_.1, .int .i64 q.from_.2.1, .int .i64 q.from_.2.2, .int .i64 q.to_.1, .int .i64 q.to_.2.1, .int .i64 q.to_.2.2, .slice Bm q.mets.length cBm, .slice Bf q.fees.length cBf, .slice Bc ds.length cBc, .int .i64 q.line, .int .i64 q.col] := by
    have hk := Blk.new (w.alloc (.cells #[.string p.name, .string p.cur, .int .i64 p.from_.1, .int .i64 p.from_.2.1, .int .i64 p.from_.2.2, .int .i64 p.to_.1, .int .i64 p.to_.2.1, .int .i64 p.to_.2.2, .slice Am p.mets.length cAm, .slice Af p.fees.length cAf, .slice Ac cs.length cAc, .int .i64 p.line, .int .i64 p.col] 29)) 29 #[.string q.name, .string q.cur, .int .i64 q.from_.1, .int .i64 q.from_.2.1, .int .i64 q.from_.2.2, .int .i64 q.to_.1, .int .i64 q.to_.2.1, .int .i64 q.to_.2.2, .slice Bm q.mets.length cBm, .slice Bf q.fees.length cBf, .slice Bc ds.length cBc, .int .i64 q.line, .int .i64 q.col]
    rw [World.size_alloc] at hk
    exact hk.drew
  have hL0 : LB w ((w.alloc (.cells #[.string p.name, .string p.cur, .int .i64 p.from_.1, .int .i64 p.from_.2.1, .int .i64 p.from_.2.2, .int .i64 p.to_.1, .int .i64 p.to_.2.1, .int .i64 p.to_.2.2, .slice Am p.mets.length cAm, .slice Af p.fees.length cAf, .slice Ac cs.length cAc, .int .i64 p.line, .int .i64 p.col] 29)).alloc (.cells #[.string q.name, .string q.cur, .int .i64 q.from_.1, .int .i64 q.from_.2.1, .int .i64 q.from_.2.2, .int .i64 q.to_.1, .int .i64 q.to_.2.1, .int .i64 q.to_.2.2, .slice Bm q.mets.length cBm, .slice Bf q.fees.length cBf, .slice Bc ds.length cBc, .int .i64 q.line, .int .i64 q.col] 29)).drew := ⟨bl_drew (bl_alloc (bl_alloc (bl_refl w) _) _)⟩
  obtain ⟨x0, x1, x2, x3, x4, x5, x6, x7, x8, x9, x10, x11, x12, _, _, _, _, _, _, _, _, _, _, _, _, _⟩ := k1.c13
  obtain ⟨y0, y1, y2, y3, y4, y5, y6, y7, y8, y9, y10, y11, y12, _, _, _, _, _, _, _, _, _, _, _, _, _⟩ := k2.c13
  clear h h' hs hs'
  go_enter Tryd.func20, Tryd.ntmps20
  go_wp2_with fail
  go_region_held3 (fun w' => w'.cell? ⟨w.heap.size, 0, none⟩ = some (.string p.name) ∧ w'.cell? ⟨w.heap.size, 1, none⟩ = some (.string p.cur) ∧ w'.cell? ⟨w.heap.size, 2, none⟩ = some (.int .i64 p.from_.1) ∧ w'.cell? ⟨w.heap.size, 3, none⟩ = some (.int .i64 p.from_.2.1) ∧ w'.cell? ⟨w.heap.size, 4, none⟩ = some (.int .i64 p.from_.2.2) ∧ w'.cell? ⟨w.heap.size, 5, none⟩ = some (.int .i64 p.to_.1) ∧ w'.cell? ⟨w.heap.size, 6, none⟩ = some (.int .i64 p.to_.2.1) ∧ w'.cell? ⟨w.heap.size, 7, none⟩ = some (.int .i64 p.to_.2.2) ∧ w'.cell? ⟨w.heap.size, 8, none⟩ = some (.slice Am p.mets.length cAm) ∧ w'.cell? ⟨w.heap.size, 9, none⟩ = some (.slice Af p.fees.length cAf) ∧ w'.cell? ⟨w.heap.size, 10, none⟩ = some (.slice Ac cs.length cAc) ∧ w'.cell? ⟨w.heap.size, 11, none⟩ = some (.int .i64 p.line) ∧ w'.cell? ⟨w.heap.size, 12, none⟩ = some (.int .i64 p.col) ∧ w'.cell? ⟨(w.heap.size + 1), 0, none⟩ = some (.string q.name) ∧ w'.cell? ⟨(w.heap.size + 1), 1, none⟩ = some (.string q.cur) ∧ w'.cell? ⟨(w.heap.size + 1), 2, none⟩ = some (.int .i64 q.from_.1) ∧ w'.cell? ⟨(w.heap.size + 1), 3, none⟩ = some (.int .i64 q.from_.2.1) ∧ w'.cell? ⟨(w.heap.size + 1), 4, none⟩ = some (.int .i64 q.from_.2.2) ∧ w'.cell? ⟨(w.heap.size + 1), 5, none⟩ = some (.int .i64 q.to_.1) ∧ w'.cell? ⟨(w.heap.size + 1), 6, none⟩ = some (.int .i64 q.to_.2.1) ∧ w'.cell? ⟨(w.heap.size + 1), 7, none⟩ = some (.int .i64 q.to_.2.2) ∧ w'.cell? ⟨(w.heap.size + 1), 8, none⟩ = some (.slice Bm q.mets.length cBm) ∧ w'.cell? ⟨(w.heap.size + 1), 9, none⟩ = some (.slice Bf q.fees.length cBf) ∧ w'.cell? ⟨(w.heap.size + 1), 10, none⟩ = some (.slice Bc ds.length cBc) ∧ w'.cell? ⟨(w.heap.size + 1), 11, none⟩ = some (.int .i64 q.line) ∧ w'.cell? ⟨(w.heap.size + 1), 12, none⟩ = some (.int .i64 q.col))
    (refine ⟨?_, ?_, ?_, ?_, ?_, ?_, ?_, ?_, ?_, ?_, ?_, ?_, ?_, ?_, ?_, ?_, ?_, ?_, ?_, ?_, ?_, ?_, ?_, ?_, ?_, ?_⟩ <;> first | with_reducible assumption | exact LB.alloc (by with_reducible assumption) _ | fail)
    ((first | (go_at_call 55; (with_reducible refine (r1.out _ (by with_reducible assumption)).mono ?_); rintro e w6 ⟨v1, rfl, hv1, hb6⟩; (have j1 := k1.call hb6); (have j2 := k2.call hb6); (have hL6 := hL0.call hb6); obtain ⟨a0, a1, a2, a3, a4, a5, a6, a7, a8, a9, a10, a11, a12, _, _, _, _, _, _, _, _, _, _, _, _, _⟩ := j1.c13; obtain ⟨b0, b1, b2, b3, b4, b5, b6, b7, b8, b9, b10, b11, b12, _, _, _, _, _, _, _, _, _, _, _, _, _⟩ := j2.c13) | (go_at_call 55; (with_reducible refine (r2.out _ (by with_reducible assumption)).mono ?_); rintro e w7 ⟨v2, rfl, hv2, hb7⟩; (have i1 := j1.call hb7); (have i2 := j2.call hb7); (have hL7 := hL6.call hb7); (have hv17 := own_keep hv1 (fun g hg => hb7.block g (hv1.lt g hg).2)); obtain ⟨c0, c1, c2, c3, c4, c5, c6, c7, c8, c9, c10, c11, c12, _, _, _, _, _, _, _, _, _, _, _, _, _⟩ := i1.c13; obtain ⟨d0, d1, d2, d3, d4, d5, d6, d7, d8, d9, d10, d11, d12, _, _, _, _, _, _, _, _, _, _, _, _, _⟩ := i2.c13) | (go_at_call 54; (with_reducible refine (texts_any _ (Lies.of hv17) (Lies.of hv2)).mono ?_); rintro e w8 ⟨rfl, hb8⟩; (have u1 := i1.call hb8); (have u2 := i2.call hb8); (have hL8 := hL7.call hb8); obtain ⟨e0, e1, e2, e3, e4, e5, e6, e7, e8, e9, e10, e11, e12, _, _, _, _, _, _, _, _, _, _, _, _, _⟩ := u1.c13; obtain ⟨f0, f1, f2, f3, f4, f5, f6, f7, f8, f9, f10, f11, f12, _, _, _, _, _, _, _, _, _, _, _, _, _⟩ := u2.c13)))
  all_goals go_wp2_with fail
  all_goals go_ret
  all_goals exact ⟨rfl, hL8.out⟩
end Go.Proofs.YtcgkfgklggjmaaaDoor.Par
end
section
namespace Go.Proofs.YtcgkfgklggjmaaaDoor.Par
set_option linter.unusedVariables false
set_option linter.unusedSimpArgs false
/-! what the two written texts are -/
def aTxt1 : List UInt8 := [112, 108, 97, 110, 32, 112, 32, 99, 117, 114, 114, 101, 110, 99, 121, 32, 69, 85, 82, 59, 32, 104, 111, 114, 105, 122, 111, 110, 32, 50, 48, 50, 52, 45, 48, 49, 45, 48, 49, 32, 50, 48, 50, 52, 45, 49, 50, 45, 51, 49, 59, 32, 102, 101, 101, 32, 53, 32, 102, 114, 111, 109, 32, 50, 48, 50, 52, 45, 48, 49, 45, 48, 49, 32, 116, 111, 32, 50, 48, 50, 52, 45, 48, 49, 45, 51, 49, 59]
def aTxt2 : List UInt8 := [112, 108, 97, 110, 32, 112, 32, 99, 117, 114, 114, 101, 110, 99, 121, 32, 69, 85, 82, 59, 32, 104, 111, 114, 105, 122, 111, 110, 32, 50, 48, 50, 52, 45, 48, 49, 45, 48, 49, 32, 50, 48, 50, 52, 45, 49, 50, 45, 51, 49, 59, 32, 102, 101, 101, 32, 120, 59]
def aTok1 : List Tok := [⟨2, ⟨#[112, 108, 97, 110]⟩, 1, 1⟩, ⟨1, ⟨#[112]⟩, 1, 6⟩, ⟨2, ⟨#[99, 117, 114, 114, 101, 110, 99, 121]⟩, 1, 8⟩, ⟨1, ⟨#[69, 85, 82]⟩, 1, 17⟩, ⟨5, ⟨#[59]⟩, 1, 20⟩, ⟨2, ⟨#[104, 111, 114, 105, 122, 111, 110]⟩, 1, 22⟩, ⟨4, ⟨#[50, 48, 50, 52, 45, 48, 49, 45, 48, 49]⟩, 1, 30⟩, ⟨4, ⟨#[50, 48, 50, 52, 45, 49, 50, 45, 51, 49]⟩, 1, 41⟩, ⟨5, ⟨#[59]⟩, 1, 51⟩, ⟨2, ⟨#[102, 101, 101]⟩, 1, 53⟩, ⟨3, ⟨#[53]⟩, 1, 57⟩, ⟨2, ⟨#[102, 114, 111, 109]⟩, 1, 59⟩, ⟨4, ⟨#[50, 48, 50, 52, 45, 48, 49, 45, 48, 49]⟩, 1, 64⟩, ⟨2, ⟨#[116, 111]⟩, 1, 75⟩, ⟨4, ⟨#[50, 48, 50, 52, 45, 48, 49, 45, 51, 49]⟩, 1, 78⟩, ⟨5, ⟨#[59]⟩, 1, 88⟩, ⟨0, ⟨#[]⟩, 1, 89⟩]
def aTok2 : List Tok := [⟨2, ⟨#[112, 108, 97, 110]⟩, 1, 1⟩, ⟨1, ⟨#[112]⟩, 1, 6⟩, ⟨2, ⟨#[99, 117, 114, 114, 101, 110, 99, 121]⟩, 1, 8⟩, ⟨1, ⟨#[69, 85, 82]⟩, 1, 17⟩, ⟨5, ⟨#[59]⟩, 1, 20⟩, ⟨2, ⟨#[104, 111, 114, 105, 122, 111, 110]⟩, 1, 22⟩, ⟨4, ⟨#[50, 48, 50, 52, 45, 48, 49, 45, 48, 49]⟩, 1, 30⟩, ⟨4, ⟨#[50, 48, 50, 52, 45, 49, 50, 45, 51, 49]⟩, 1, 41⟩, ⟨5, ⟨#[59]⟩, 1, 51⟩, ⟨2, ⟨#[102, 101, 101]⟩, 1, 53⟩, ⟨1, ⟨#[120]⟩, 1, 57⟩, ⟨5, ⟨#[59]⟩, 1, 58⟩, ⟨0, ⟨#[]⟩, 1, 59⟩]
theorem a_tok1 : lexAll aTxt1 = (aTok1, 0, 0, 0) := by
  rw [lexAll, if_neg (by decide), ← lexF_eq 100 aTxt1 1 1 (by decide)]
  have : lexF 100 aTxt1 1 1 = .ok aTok1 := by kernel_rfl
  rw [this]
theorem a_tok2 : lexAll aTxt2 = (aTok2, 0, 0, 0) := by
  rw [lexAll, if_neg (by decide), ← lexF_eq 100 aTxt2 1 1 (by decide)]
  have : lexF 100 aTxt2 1 1 = .ok aTok2 := by kernel_rfl
  rw [this]
def aPlan : Plan := ⟨⟨#[112]⟩, ⟨#[69, 85, 82]⟩, (2024, 1, 1), (2024, 12, 31), [], [⟨5, ⟨true, (2024, 1, 1), (2024, 1, 31)⟩, 1, 53⟩], [], 1, 1⟩

theorem a_pl1 : P.plan dp npV aTok1 = (aPlan, (P.plan dp npV aTok1).2) := by kernel_rfl
theorem a_e1 : (P.plan dp npV aTok1).2.err = 0 := by kernel_rfl
theorem a_e2 : ((P.plan dp npV aTok2).2.err, (P.plan dp npV aTok2).2.line, (P.plan dp npV aTok2).2.col) = (4, 1, 57) := by kernel_rfl
theorem a_parse1 : RParse aTxt1 = (aPlan, 0, 0, 0) := by
  rw [PParse_ok a_tok1 a_e1]
  exact congrArg (fun x => (x, (0 : Int), (0 : Int), (0 : Int))) (by kernel_rfl)
theorem a_parse2 : RParse aTxt2 = (noPlan, 4, 1, 57) := by
  have h := a_e2
  simp only [Prod.mk.injEq] at h
  rw [PParse_bad a_tok2 (by rw [h.1]; decide), h.1, h.2.1, h.2.2]
end Go.Proofs.YtcgkfgklggjmaaaDoor.Par
end
section
namespace Go.Proofs.YtcgkfgklggjmaaaDoor.Par
set_option linter.unusedVariables false
set_option linter.unusedSimpArgs false
open Go.RowKit
theorem txt1_any (w : World) (hD : Dec.DT w) : Calls Tryd.prog 19 #[.string ⟨([112, 108, 97, 110, 32, 112, 32, 99, 117, 114, 114, 101, 110, 99, 121, 32, 69, 85, 82, 59, 32, 104, 111, 114, 105, 122, 111, 110, 32, 50, 48, 50, 52, 45, 48, 49, 45, 48, 49, 32, 50, 48, 50, 52].append [45, 49, 50, 45, 51, 49, 59, 32, 102, 101, 101, 32, 53, 32, 102, 114, 111, 109, 32, 50, 48, 50, 52, 45, 48, 49, 45, 48, 49, 32, 116, 111, 32, 50, 48, 50, 52, 45, 48, 49, 45, 51, 49, 59]).toArray⟩] w fun e w' => ∃ Am cAm g cAf Ac cAc, e = .returned (.tuple #[.agg #[.string ⟨#[112]⟩, .string ⟨#[69, 85, 82]⟩, .int .i64 2024, .int .i64 1, .int .i64 1, .int .i64 2024, .int .i64 12, .int .i64 31, .slice Am 0 cAm, .slice (some ⟨g, 0, none⟩) 1 cAf, .slice Ac 0 cAc, .int .i64 1, .int .i64 1], .agg #[.int .i64 0, .int .i64 0, .int .i64 0]]) ∧ w'.cell? ⟨g, 0, none⟩ = some (.int .i64 5) ∧ w'.cell? ⟨g, 1, none⟩ = some (.bool true) ∧ g < w'.heap.size ∧ 1 ≤ cAf ∧ Below w.heap.size w w' := by
  refine (parse7_any _ w hD (by decide)).mono ?_
  rintro e w1 ⟨v, rfl, hv, hb⟩
  have hq : RParse (⟨([112, 108, 97, 110, 32, 112, 32, 99, 117, 114, 114, 101, 110, 99, 121, 32, 69, 85, 82, 59, 32, 104, 111, 114, 105, 122, 111, 110, 32, 50, 48, 50, 52, 45, 48, 49, 45, 48, 49, 32, 50, 48, 50, 52].append [45, 49, 50, 45, 51, 49, 59, 32, 102, 101, 101, 32, 53, 32, 102, 114, 111, 109, 32, 50, 48, 50, 52, 45, 48, 49, 45, 48, 49, 32, 116, 111, 32, 50, 48, 50, 52, 45, 48, 49, 45, 51, 49, 59]).toArray⟩ : ByteArray).data.toList = (aPlan, 0, 0, 0) := (congrArg RParse (by kernel_rfl)).trans a_parse1
  rw [hq] at hv ⊢
  obtain ⟨mv, fv, cv, cs, rfl, hR⟩ := hv
  obtain ⟨Am, cAm, rfl, _, _, _⟩ := Lies.open (f := metF) (l := aPlan.mets) (Lies.of hR.mo)
  obtain ⟨Af, cAf, rfl, hc, _, hg⟩ := Lies.open (f := feeF) (l := aPlan.fees) (Lies.of hR.fo)
  obtain ⟨Ac, cAc, rfl, _, _, _⟩ := Lies.open (f := chgF) (l := cs) (Lies.of hR.co)
  obtain ⟨g, rfl, hgl⟩ := hg (by decide)
  have hcs : cs.length = 0 := by
    have h := congrArg List.length hR.eq
    rw [List.length_map] at h
    exact h
  rw [hcs]
  have c0 := Lies.at (f := feeF) (l := aPlan.fees) (Lies.of hR.fo) feeF_len (i := 0) rfl (j := 0) rfl
  have c1 := Lies.at (f := feeF) (l := aPlan.fees) (Lies.of hR.fo) feeF_len (i := 0) rfl (j := 1) rfl
  exact ⟨Am, cAm, g, cAf, Ac, cAc, rfl, c0, c1, hgl, hc, hb⟩
theorem txt2_any (w : World) (hD : Dec.DT w) : Calls Tryd.prog 19 #[.string ⟨#[112, 108, 97, 110, 32, 112, 32, 99, 117, 114, 114, 101, 110, 99, 121, 32, 69, 85, 82, 59, 32, 104, 111, 114, 105, 122, 111, 110, 32, 50, 48, 50, 52, 45, 48, 49, 45, 48, 49, 32, 50, 48, 50, 52, 45, 49, 50, 45, 51, 49, 59, 32, 102, 101, 101, 32, 120, 59]⟩] w fun e w' => ∃ Am' cAm' Af' cAf' Ac' cAc', e = .returned (.tuple #[.agg #[.string ⟨#[]⟩, .string ⟨#[]⟩, .int .i64 0, .int .i64 0, .int .i64 0, .int .i64 0, .int .i64 0, .int .i64 0, .slice Am' 0 cAm', .slice Af' 0 cAf', .slice Ac' 0 cAc', .int .i64 0, .int .i64 0], .agg #[.int .i64 4, .int .i64 1, .int .i64 57]]) ∧ Below w.heap.size w w' := by
  refine (parse7_any _ w hD (by decide)).mono ?_
  rintro e w1 ⟨v, rfl, hv, hb⟩
  have hq : RParse (⟨#[112, 108, 97, 110, 32, 112, 32, 99, 117, 114, 114, 101, 110, 99, 121, 32, 69, 85, 82, 59, 32, 104, 111, 114, 105, 122, 111, 110, 32, 50, 48, 50, 52, 45, 48, 49, 45, 48, 49, 32, 50, 48, 50, 52, 45, 49, 50, 45, 51, 49, 59, 32, 102, 101, 101, 32, 120, 59]⟩ : ByteArray).data.toList = (noPlan, 4, 1, 57) := (congrArg RParse (by kernel_rfl)).trans a_parse2
  rw [hq] at hv ⊢
  obtain ⟨mv, fv, cv, cs, rfl, hR⟩ := hv
  obtain ⟨Am, cAm, rfl, _, _, _⟩ := Lies.open (f := metF) (l := noPlan.mets) (Lies.of hR.mo)
  obtain ⟨Af, cAf, rfl, _, _, _⟩ := Lies.open (f := feeF) (l := noPlan.fees) (Lies.of hR.fo)
  obtain ⟨Ac, cAc, rfl, _, _, _⟩ := Lies.open (f := chgF) (l := cs) (Lies.of hR.co)
  have hcs : cs.length = 0 := by
    have h := congrArg List.length hR.eq
    rw [List.length_map] at h
    exact h
  rw [hcs]
  exact ⟨Am, cAm, Af, cAf, Ac, cAc, rfl, hb⟩
set_option maxHeartbeats 16000000 in
set_option maxRecDepth 100000 in
theorem alive7_any (w : World) (hD : Dec.DT w) :
    Calls Tryd.prog 18 #[] w fun e w' => e = .returned (.bool true) ∧ Below w.heap.size w w' := by
  have q0 : ∀ w, (binOp .eql 34 (.agg #[.int .i64 0, .int .i64 0, .int .i64 0]) (.agg #[.int .i64 0, .int .i64 0, .int .i64 0])).run Tryd.prog w = .ok (.bool true) w := fun _ => by kernel_rfl
  have q1 : ∀ w, (binOp .eql 34 (.agg #[.int .i64 4, .int .i64 1, .int .i64 57]) (.agg #[.int .i64 4, .int .i64 1, .int .i64 57])).run Tryd.prog w = .ok (.bool true) w := fun _ => by kernel_rfl
  go_enter Tryd.func18, Tryd.ntmps18
  go_wp2_with fail
  refine (txt1_any _ hD).mono ?_
  rintro e w1 ⟨Am, cAm, g, cAf, Ac, cAc, rfl, e0, e1, hgl, hcf, hb1⟩
  have hD1 := hD.below (bl_alloc (bl_alloc hb1 (.cells #[.string ⟨#[112]⟩, .string ⟨#[69, 85, 82]⟩, .int .i64 2024, .int .i64 1, .int .i64 1, .int .i64 2024, .int .i64 12, .int .i64 31, .slice Am 0 cAm, .slice (some ⟨g, 0, none⟩) 1 cAf, .slice Ac 0 cAc, .int .i64 1, .int .i64 1] 29)) (.cells #[.int .i64 0, .int .i64 0, .int .i64 0] 34))
  go_wp2_with fail
  refine (txt2_any _ hD1).mono ?_
  rintro e w2 ⟨Am', cAm', Af', cAf', Ac', cAc', rfl, hb2⟩
  have kp := ((Blk.new w1 29 #[.string ⟨#[112]⟩, .string ⟨#[69, 85, 82]⟩, .int .i64 2024, .int .i64 1, .int .i64 1, .int .i64 2024, .int .i64 12, .int .i64 31, .slice Am 0 cAm, .slice (some ⟨g, 0, none⟩) 1 cAf, .slice Ac 0 cAc, .int .i64 1, .int .i64 1]).alloc (.cells #[.int .i64 0, .int .i64 0, .int .i64 0] 34)).call hb2
  have kf := (Blk.new (w1.alloc (.cells #[.string ⟨#[112]⟩, .string ⟨#[69, 85, 82]⟩, .int .i64 2024, .int .i64 1, .int .i64 1, .int .i64 2024, .int .i64 12, .int .i64 31, .slice Am 0 cAm, .slice (some ⟨g, 0, none⟩) 1 cAf, .slice Ac 0 cAc, .int .i64 1, .int .i64 1] 29)) 34 #[.int .i64 0, .int .i64 0, .int .i64 0]).call hb2
  rw [World.size_alloc] at kf
  have hbb := bl_call (bl_alloc (bl_alloc hb1 (.cells #[.string ⟨#[112]⟩, .string ⟨#[69, 85, 82]⟩, .int .i64 2024, .int .i64 1, .int .i64 1, .int .i64 2024, .int .i64 12, .int .i64 31, .slice Am 0 cAm, .slice (some ⟨g, 0, none⟩) 1 cAf, .slice Ac 0 cAc, .int .i64 1, .int .i64 1] 29)) (.cells #[.int .i64 0, .int .i64 0, .int .i64 0] 34)) hb2
  obtain ⟨a0, a1, a2, _, _, _⟩ := kf.c3
  obtain ⟨x0, x1, x2, x3, x4, x5, x6, x7, x8, x9, x10, x11, x12, _, _, _, _, _, _, _, _, _, _, _, _, _⟩ := kp.c13
  have hlt2 := kf.lt
  have hlt1 := kp.lt
  have hgl2 : g < w2.heap.size := by
    have := hb2.size; rw [World.size_alloc, World.size_alloc] at this; omega
  have ck : ∀ {p : Addr} {x : Value}, w1.cell? p = some x → w2.cell? p = some x := fun {p x} h => by
    have hl := World.block_lt_of_cell? _ _ h
    refine (hb2.cell (by rw [World.size_alloc, World.size_alloc]; omega)).trans ?_
    rw [World.cell?_alloc_lt _ _ _ (by rw [World.size_alloc]; omega), World.cell?_alloc_lt _ _ _ hl]
    exact h
  have f0 := ck e0
  have f1 := ck e1
  go_wp2_with fail
  go_ret
  exact ⟨rfl, bl_alloc (bl_alloc hbb _) _⟩
end Go.Proofs.YtcgkfgklggjmaaaDoor.Par
end
section
namespace Go.Proofs.YtcgkfgklggjmaaaDoor.Par
set_option linter.unusedVariables false
set_option linter.unusedSimpArgs false
open Go.RowKit
theorem itm_text1 (m : ByteArray) : ((⟨#[112, 108, 97, 110, 32, 112, 32, 99, 117, 114, 114, 101, 110, 99, 121, 32, 99, 59, 32, 104, 111, 114, 105, 122, 111, 110, 32, 50, 48, 50, 52, 45, 48, 49, 45, 48, 49, 32, 50, 48, 50, 52, 45, 48, 49, 45, 48, 50, 59, 10]⟩ : ByteArray) ++ m).data.toList = nPre ++ 10 :: m.data.toList := by
  simp [nPre]
theorem itm_text2 (a m : ByteArray) : (a ++ ⟨#[10]⟩ ++ m).data.toList = a.data.toList ++ 10 :: m.data.toList := by
  simp
theorem itm_size1 (m : ByteArray) (h : m.size ≤ 2048) : ((⟨#[112, 108, 97, 110, 32, 112, 32, 99, 117, 114, 114, 101, 110, 99, 121, 32, 99, 59, 32, 104, 111, 114, 105, 122, 111, 110, 32, 50, 48, 50, 52, 45, 48, 49, 45, 48, 49, 32, 50, 48, 50, 52, 45, 48, 49, 45, 48, 50, 59, 10]⟩ : ByteArray) ++ m).size ≤ 9223372036854775807 := by
  rw [ByteArray.size_append]
  have : (⟨#[112, 108, 97, 110, 32, 112, 32, 99, 117, 114, 114, 101, 110, 99, 121, 32, 99, 59, 32, 104, 111, 114, 105, 122, 111, 110, 32, 50, 48, 50, 52, 45, 48, 49, 45, 48, 49, 32, 50, 48, 50, 52, 45, 48, 49, 45, 48, 50, 59, 10]⟩ : ByteArray).size = 50 := rfl
  omega
theorem itm_size2 (a m : ByteArray) (ha : a.size ≤ 4096) (h : m.size ≤ 2048) : (a ++ ⟨#[10]⟩ ++ m).size ≤ 9223372036854775807 := by
  rw [ByteArray.size_append, ByteArray.size_append]
  have : (⟨#[10]⟩ : ByteArray).size = 1 := rfl
  omega
/-- what is kept while the wanted plan is put together: it lies in the first new block -/
structure IW (w0 w : World) (C : Array Value) : Prop where
  lb : Below w0.heap.size w0 w
  kp : Blk w w0.heap.size 29 C
section
variable {w0 w w' : World} {C : Array Value}
theorem IW.alloc (h : IW w0 w C) (o : Obj) : IW w0 (w.alloc o) C := ⟨bl_alloc h.lb o, h.kp.alloc o⟩
theorem IW.drew (h : IW w0 w C) : IW w0 w.drew C := ⟨bl_drew h.lb, h.kp.drew⟩
theorem IW.lt (h : IW w0 w C) : w0.heap.size < w.heap.size := h.kp.lt
theorem IW.grown {row : Option Nat} (h : IW w0 w C) (hg : w.grownBy w' row) (hr : ∀ k, row = some k → w0.heap.size < k) : IW w0 w' C :=
  ⟨h.lb.grown hg h.lb.size (fun k hk => Nat.le_of_lt (hr k hk)), h.kp.grown hg (fun e => by have := hr _ e.symm; omega)⟩
theorem IW.put (h : IW w0 w C) (i : Nat) (u : Value) : IW w0 (w.setCell ⟨w0.heap.size, i, none⟩ u) (C.setIfInBounds i u) :=
  ⟨bl_set h.lb (Nat.le_refl _) u, h.kp.set_ i u⟩
theorem IW.row (h : IW w0 w C) {B : Nat} {e : TypeId} {size n : Nat} {v : Value} {xs : List Value} (ho : w0.ownsRow B e size v n xs) : w.ownsRow B e size v n xs :=
  own_keep ho fun g hg => h.lb.block g (ho.lt g hg).2
theorem own_fresh (w : World) (B : Nat) (e : TypeId) (size : Nat) (hB : B ≤ w.heap.size) : (w.alloc (.cells #[] e)).ownsRow B e size (.slice (some ⟨w.heap.size, 0, none⟩) 0 0) 0 [] :=
  ⟨by simp, .inr ⟨w.heap.size, 0, #[], rfl, hB, heap_alloc_new w _, Nat.le_refl _, Nat.zero_le _, by simp, by simp⟩⟩
theorem own_set {w : World} {B g : Nat} {e : TypeId} {size n : Nat} {v : Value} {xs : List Value} (h : w.ownsRow B e size v n xs) (hg : g < B) (i : Nat) (u : Value) : (w.setCell ⟨g, i, none⟩ u).ownsRow B e size v n xs :=
  own_keep h fun k hk => Below.heap_setCell w ⟨g, i, none⟩ u k (by have := (h.lt k hk).1; show k ≠ g; omega)
theorem met_one (l : List Met) : ∀ u ∈ l.flatMap metF, u.oneCell' = true := by
  intro u hu
  obtain ⟨m, _, hm⟩ := List.mem_flatMap.1 hu
  simp only [metF, List.mem_cons, List.not_mem_nil, or_false] at hm
  rcases hm with rfl | rfl | rfl | rfl | rfl <;> rfl
theorem fee_one (l : List Fee) : ∀ u ∈ l.flatMap feeF, u.oneCell' = true := by
  intro u hu
  obtain ⟨m, _, hm⟩ := List.mem_flatMap.1 hu
  simp only [feeF, List.mem_cons, List.not_mem_nil, or_false] at hm
  rcases hm with rfl | rfl | rfl | rfl | rfl | rfl | rfl | rfl | rfl | rfl <;> rfl
theorem nest_slice {w : World} {B : Nat} {c : CT} (h : TiersLie B w c.2.1 c.1.tiers ∧ AdjsLie B w c.2.2 c.1.adjs) : c.2.1.oneCell' = true ∧ c.2.2.oneCell' = true := by
  obtain ⟨A, n, h1, _⟩ := own_form w h.1
  obtain ⟨A', n', h2, _⟩ := own_form w h.2
  rw [h1, h2]; exact ⟨rfl, rfl⟩
theorem chg_one {w : World} {B : Nat} (l : List CT) (h : Nest B w l) : ∀ u ∈ l.flatMap chgF, u.oneCell' = true := by
  intro u hu
  obtain ⟨m, hl, hm⟩ := List.mem_flatMap.1 hu
  have hn := nest_slice (h m hl)
  simp only [chgF, List.mem_cons, List.not_mem_nil, or_false] at hm
  rcases hm with rfl | rfl | rfl | rfl | rfl | rfl | rfl | rfl | rfl | rfl | rfl | rfl | rfl | rfl | rfl | rfl <;> first | rfl | exact hn.1 | exact hn.2
theorem IW.blk (h : IW w0 w C) {g : Nat} {t : TypeId} {cs : Array Value} (hb : Blk w0 g t cs) : Blk w g t cs := hb.call h.lb
end
set_option maxHeartbeats 16000000 in
set_option maxRecDepth 100000 in
theorem items_any (a more : ByteArray) (w : World) (hD : Dec.DT w) (ha : a.size ≤ 9223372036854775807) (hm : more.size ≤ 9223372036854775807) :
    Calls Tryd.prog 7 #[.string a, .string more] w fun e w' => e = .returned (.bool true) ∧ Below w.heap.size w w' := by
  by_cases hbig : 4096 < a.size
  · go_enter Tryd.func7, Tryd.ntmps7
    go_wp2_with (go_at_call 18; refine (alive7_any _ hD).mono ?_; rintro e w1 ⟨rfl, hb1⟩)
    go_ret
    exact ⟨rfl, hb1⟩
  by_cases hbig2 : 2048 < more.size
  · go_enter Tryd.func7, Tryd.ntmps7
    go_wp2_with (go_at_call 18; refine (alive7_any _ hD).mono ?_; rintro e w1 ⟨rfl, hb1⟩)
    go_ret
    exact ⟨rfl, hb1⟩
  have hz1 : (a.size : Int) ≤ 4096 := by omega
  have hz2 : (more.size : Int) ≤ 2048 := by omega
  have hP1 := fun W (h : Dec.DT W) => parse7_any a W h ha
  have hP2 := fun W (h : Dec.DT W) => parse7_any (⟨#[112, 108, 97, 110, 32, 112, 32, 99, 117, 114, 114, 101, 110, 99, 121, 32, 99, 59, 32, 104, 111, 114, 105, 122, 111, 110, 32, 50, 48, 50, 52, 45, 48, 49, 45, 48, 49, 32, 50, 48, 50, 52, 45, 48, 49, 45, 48, 50, 59, 10]⟩ ++ more) W h (itm_size1 more (by omega))
  have hP3 := fun W (h : Dec.DT W) => parse7_any (a ++ ⟨#[10]⟩ ++ more) W h (itm_size2 a more (by omega) (by omega))
  have hI := items_plain a.data.toList more.data.toList (by simp; omega) (by simp; omega)
  have hZ1 := RParse_zero (l := a.data.toList)
  have hZ2 := RParse_zero (l := nPre ++ 10 :: more.data.toList)
  have hZ3 := RParse_zero (l := a.data.toList ++ 10 :: more.data.toList)
  have hSm := RParse_small (a.data.toList ++ 10 :: more.data.toList)
  unfold ParseOutP at hP1 hP2 hP3
  simp only [itm_text1, itm_text2] at hP2 hP3
  obtain ⟨p, er, li, co, hpq⟩ : ∃ p er li co, RParse a.data.toList = (p, er, li, co) := ⟨_, _, _, _, rfl⟩
  rw [hpq] at hP1 hI hZ1
  obtain ⟨q, fe, fl, fc, hpq2⟩ : ∃ p er li co, RParse (nPre ++ 10 :: more.data.toList) = (p, er, li, co) := ⟨_, _, _, _, rfl⟩
  rw [hpq2] at hP2 hI hZ2
  obtain ⟨r, ge, gl, gc, hpq3⟩ : ∃ p er li co, RParse (a.data.toList ++ 10 :: more.data.toList) = (p, er, li, co) := ⟨_, _, _, _, rfl⟩
  rw [hpq3] at hP3 hI hZ3 hSm
  clear hpq hpq2 hpq3
  replace hZ1 : er = 0 → li = 0 ∧ co = 0 := fun h => ⟨(hZ1 h).1, (hZ1 h).2.1⟩
  replace hZ2 : fe = 0 → fl = 0 ∧ fc = 0 := fun h => ⟨(hZ2 h).1, (hZ2 h).2.1⟩
  replace hZ3 : ge = 0 → gl = 0 ∧ gc = 0 := fun h => ⟨(hZ3 h).1, (hZ3 h).2.1⟩
  replace hZ1 := Lib.hid hZ1
  replace hZ2 := Lib.hid hZ2
  replace hZ3 := Lib.hid hZ3
  replace hI := Lib.hid hI
  replace hSm := Lib.hid hSm
  replace hP1 := Lib.hid hP1
  replace hP2 := Lib.hid hP2
  replace hP3 := Lib.hid hP3
  go_enter Tryd.func7, Tryd.ntmps7
  go_wp2_with fail
  refine (alive7_any _ hD).mono ?_
  rintro e w1 ⟨rfl, hb1⟩
  have hD1 := hD.below hb1
  go_wp2_with fail
  refine (hP1.out _ hD1).mono ?_
  rintro e w2 ⟨v, rfl, hv, hb2⟩
  obtain ⟨mv, fv, cv, cs, rfl, hR1⟩ := hv
  obtain ⟨Am, cAm, rfl, _, _, _⟩ := Lies.open (f := metF) (l := p.mets) (Lies.of hR1.mo)
  obtain ⟨Af, cAf, rfl, _, _, _⟩ := Lies.open (f := feeF) (l := p.fees) (Lies.of hR1.fo)
  obtain ⟨Ac, cAc, rfl, _, _, _⟩ := Lies.open (f := chgF) (l := cs) (Lies.of hR1.co)
  have bb2 := bl_call hb1 hb2
  have k2 := (Blk.new w2 29 #[.string p.name, .string p.cur, .int .i64 p.from_.1, .int .i64 p.from_.2.1, .int .i64 p.from_.2.2, .int .i64 p.to_.1, .int .i64 p.to_.2.1, .int .i64 p.to_.2.2, .slice Am p.mets.length cAm, .slice Af p.fees.length cAf, .slice Ac cs.length cAc, .int .i64 p.line, .int .i64 p.col]).alloc (.cells #[.int .i64 er, .int .i64 li, .int .i64 co] 34)
  have f2 := Blk.new (w2.alloc (.cells #[.string p.name, .string p.cur, .int .i64 p.from_.1, .int .i64 p.from_.2.1, .int .i64 p.from_.2.2, .int .i64 p.to_.1, .int .i64 p.to_.2.1, .int .i64 p.to_.2.2, .slice Am p.mets.length cAm, .slice Af p.fees.length cAf, .slice Ac cs.length cAc, .int .i64 p.line, .int .i64 p.col] 29)) 34 #[.int .i64 er, .int .i64 li, .int .i64 co]
  rw [World.size_alloc] at f2
  have R2 : Rows ((w2.alloc (.cells #[.string p.name, .string p.cur, .int .i64 p.from_.1, .int .i64 p.from_.2.1, .int .i64 p.from_.2.2, .int .i64 p.to_.1, .int .i64 p.to_.2.1, .int .i64 p.to_.2.2, .slice Am p.mets.length cAm, .slice Af p.fees.length cAf, .slice Ac cs.length cAc, .int .i64 p.line, .int .i64 p.col] 29)).alloc (.cells #[.int .i64 er, .int .i64 li, .int .i64 co] 34)) _ p _ _ _ cs := hR1.below (bl_alloc (bl_alloc (bl_refl _) _) _)
  have b2 := bl_alloc (bl_alloc bb2 (.cells #[.string p.name, .string p.cur, .int .i64 p.from_.1, .int .i64 p.from_.2.1, .int .i64 p.from_.2.2, .int .i64 p.to_.1, .int .i64 p.to_.2.1, .int .i64 p.to_.2.2, .slice Am p.mets.length cAm, .slice Af p.fees.length cAf, .slice Ac cs.length cAc, .int .i64 p.line, .int .i64 p.col] 29)) (.cells #[.int .i64 er, .int .i64 li, .int .i64 co] 34)
  clear hR1
  unfold planC
  go_wp2_with fail
  have hD2 := (hD1.below hb2).below (bl_alloc (bl_alloc (bl_refl w2) (.cells #[.string p.name, .string p.cur, .int .i64 p.from_.1, .int .i64 p.from_.2.1, .int .i64 p.from_.2.2, .int .i64 p.to_.1, .int .i64 p.to_.2.1, .int .i64 p.to_.2.2, .slice Am p.mets.length cAm, .slice Af p.fees.length cAf, .slice Ac cs.length cAc, .int .i64 p.line, .int .i64 p.col] 29)) (.cells #[.int .i64 er, .int .i64 li, .int .i64 co] 34))
  generalize w2.heap.size = n2 at *
  generalize (w2.alloc (.cells #[.string p.name, .string p.cur, .int .i64 p.from_.1, .int .i64 p.from_.2.1, .int .i64 p.from_.2.2, .int .i64 p.to_.1, .int .i64 p.to_.2.1, .int .i64 p.to_.2.2, .slice Am p.mets.length cAm, .slice Af p.fees.length cAf, .slice Ac cs.length cAc, .int .i64 p.line, .int .i64 p.col] 29)).alloc (.cells #[.int .i64 er, .int .i64 li, .int .i64 co] 34) = u2 at *
  refine (hP2.out _ hD2).mono ?_
  rintro e w4 ⟨v, rfl, hv, hb4⟩
  obtain ⟨mv, fv, cv, ds, rfl, hR2⟩ := hv
  obtain ⟨Bm, cBm, rfl, _, _, _⟩ := Lies.open (f := metF) (l := q.mets) (Lies.of hR2.mo)
  obtain ⟨Bf, cBf, rfl, _, _, _⟩ := Lies.open (f := feeF) (l := q.fees) (Lies.of hR2.fo)
  obtain ⟨Bc, cBc, rfl, _, _, _⟩ := Lies.open (f := chgF) (l := ds) (Lies.of hR2.co)
  have bb4 := bl_call b2 hb4
  have k4 := (Blk.new w4 29 #[.string q.name, .string q.cur, .int .i64 q.from_.1, .int .i64 q.from_.2.1, .int .i64 q.from_.2.2, .int .i64 q.to_.1, .int .i64 q.to_.2.1, .int .i64 q.to_.2.2, .slice Bm q.mets.length cBm, .slice Bf q.fees.length cBf, .slice Bc ds.length cBc, .int .i64 q.line, .int .i64 q.col]).alloc (.cells #[.int .i64 fe, .int .i64 fl, .int .i64 fc] 34)
  have f4 := Blk.new (w4.alloc (.cells #[.string q.name, .string q.cur, .int .i64 q.from_.1, .int .i64 q.from_.2.1, .int .i64 q.from_.2.2, .int .i64 q.to_.1, .int .i64 q.to_.2.1, .int .i64 q.to_.2.2, .slice Bm q.mets.length cBm, .slice Bf q.fees.length cBf, .slice Bc ds.length cBc, .int .i64 q.line, .int .i64 q.col] 29)) 34 #[.int .i64 fe, .int .i64 fl, .int .i64 fc]
  rw [World.size_alloc] at f4
  have R4 : Rows ((w4.alloc (.cells #[.string q.name, .string q.cur, .int .i64 q.from_.1, .int .i64 q.from_.2.1, .int .i64 q.from_.2.2, .int .i64 q.to_.1, .int .i64 q.to_.2.1, .int .i64 q.to_.2.2, .slice Bm q.mets.length cBm, .slice Bf q.fees.length cBf, .slice Bc ds.length cBc, .int .i64 q.line, .int .i64 q.col] 29)).alloc (.cells #[.int .i64 fe, .int .i64 fl, .int .i64 fc] 34)) _ q _ _ _ ds := hR2.below (bl_alloc (bl_alloc (bl_refl _) _) _)
  have b4 := bl_alloc (bl_alloc bb4 (.cells #[.string q.name, .string q.cur, .int .i64 q.from_.1, .int .i64 q.from_.2.1, .int .i64 q.from_.2.2, .int .i64 q.to_.1, .int .i64 q.to_.2.1, .int .i64 q.to_.2.2, .slice Bm q.mets.length cBm, .slice Bf q.fees.length cBf, .slice Bc ds.length cBc, .int .i64 q.line, .int .i64 q.col] 29)) (.cells #[.int .i64 fe, .int .i64 fl, .int .i64 fc] 34)
  clear hR2
  unfold planC
  go_wp2_with fail
  have hD4 := (hD2.below hb4).below (bl_alloc (bl_alloc (bl_refl w4) (.cells #[.string q.name, .string q.cur, .int .i64 q.from_.1, .int .i64 q.from_.2.1, .int .i64 q.from_.2.2, .int .i64 q.to_.1, .int .i64 q.to_.2.1, .int .i64 q.to_.2.2, .slice Bm q.mets.length cBm, .slice Bf q.fees.length cBf, .slice Bc ds.length cBc, .int .i64 q.line, .int .i64 q.col] 29)) (.cells #[.int .i64 fe, .int .i64 fl, .int .i64 fc] 34))
  have l4 : Below u2.heap.size u2 ((w4.alloc (.cells #[.string q.name, .string q.cur, .int .i64 q.from_.1, .int .i64 q.from_.2.1, .int .i64 q.from_.2.2, .int .i64 q.to_.1, .int .i64 q.to_.2.1, .int .i64 q.to_.2.2, .slice Bm q.mets.length cBm, .slice Bf q.fees.length cBf, .slice Bc ds.length cBc, .int .i64 q.line, .int .i64 q.col] 29)).alloc (.cells #[.int .i64 fe, .int .i64 fl, .int .i64 fc] 34)) := bl_alloc (bl_alloc hb4 _) _
  have k2' := k2.call l4
  have f2' := f2.call l4
  have R2' := R2.below l4
  clear k2 f2 R2
  generalize w4.heap.size = n4 at *
  generalize (w4.alloc (.cells #[.string q.name, .string q.cur, .int .i64 q.from_.1, .int .i64 q.from_.2.1, .int .i64 q.from_.2.2, .int .i64 q.to_.1, .int .i64 q.to_.2.1, .int .i64 q.to_.2.2, .slice Bm q.mets.length cBm, .slice Bf q.fees.length cBf, .slice Bc ds.length cBc, .int .i64 q.line, .int .i64 q.col] 29)).alloc (.cells #[.int .i64 fe, .int .i64 fl, .int .i64 fc] 34) = u4 at *
  refine (hP3.out _ hD4).mono ?_
  rintro e w6 ⟨v, rfl, hv, hb6⟩
  obtain ⟨mv, fv, cv, es, rfl, hR3⟩ := hv
  obtain ⟨Dm, cDm, rfl, _, _, _⟩ := Lies.open (f := metF) (l := r.mets) (Lies.of hR3.mo)
  obtain ⟨Df, cDf, rfl, _, _, _⟩ := Lies.open (f := feeF) (l := r.fees) (Lies.of hR3.fo)
  obtain ⟨Dc, cDc, rfl, _, _, _⟩ := Lies.open (f := chgF) (l := es) (Lies.of hR3.co)
  have bb6 := bl_call b4 hb6
  have k6 := (Blk.new w6 29 #[.string r.name, .string r.cur, .int .i64 r.from_.1, .int .i64 r.from_.2.1, .int .i64 r.from_.2.2, .int .i64 r.to_.1, .int .i64 r.to_.2.1, .int .i64 r.to_.2.2, .slice Dm r.mets.length cDm, .slice Df r.fees.length cDf, .slice Dc es.length cDc, .int .i64 r.line, .int .i64 r.col]).alloc (.cells #[.int .i64 ge, .int .i64 gl, .int .i64 gc] 34)
  have f6 := Blk.new (w6.alloc (.cells #[.string r.name, .string r.cur, .int .i64 r.from_.1, .int .i64 r.from_.2.1, .int .i64 r.from_.2.2, .int .i64 r.to_.1, .int .i64 r.to_.2.1, .int .i64 r.to_.2.2, .slice Dm r.mets.length cDm, .slice Df r.fees.length cDf, .slice Dc es.length cDc, .int .i64 r.line, .int .i64 r.col] 29)) 34 #[.int .i64 ge, .int .i64 gl, .int .i64 gc]
  rw [World.size_alloc] at f6
  have R6 : Rows ((w6.alloc (.cells #[.string r.name, .string r.cur, .int .i64 r.from_.1, .int .i64 r.from_.2.1, .int .i64 r.from_.2.2, .int .i64 r.to_.1, .int .i64 r.to_.2.1, .int .i64 r.to_.2.2, .slice Dm r.mets.length cDm, .slice Df r.fees.length cDf, .slice Dc es.length cDc, .int .i64 r.line, .int .i64 r.col] 29)).alloc (.cells #[.int .i64 ge, .int .i64 gl, .int .i64 gc] 34)) _ r _ _ _ es := hR3.below (bl_alloc (bl_alloc (bl_refl _) _) _)
  have b6 := bl_alloc (bl_alloc bb6 (.cells #[.string r.name, .string r.cur, .int .i64 r.from_.1, .int .i64 r.from_.2.1, .int .i64 r.from_.2.2, .int .i64 r.to_.1, .int .i64 r.to_.2.1, .int .i64 r.to_.2.2, .slice Dm r.mets.length cDm, .slice Df r.fees.length cDf, .slice Dc es.length cDc, .int .i64 r.line, .int .i64 r.col] 29)) (.cells #[.int .i64 ge, .int .i64 gl, .int .i64 gc] 34)
  clear hR3
  unfold planC
  go_upto_region 9 with fail
  have l6 : Below u4.heap.size u4 ((w6.alloc (.cells #[.string r.name, .string r.cur, .int .i64 r.from_.1, .int .i64 r.from_.2.1, .int .i64 r.from_.2.2, .int .i64 r.to_.1, .int .i64 r.to_.2.1, .int .i64 r.to_.2.2, .slice Dm r.mets.length cDm, .slice Df r.fees.length cDf, .slice Dc es.length cDc, .int .i64 r.line, .int .i64 r.col] 29)).alloc (.cells #[.int .i64 ge, .int .i64 gl, .int .i64 gc] 34)) := bl_alloc (bl_alloc hb6 _) _
  have k2 := k2'.call l6
  have f2 := f2'.call l6
  have R2 := R2'.below l6
  have k4' := k4.call l6
  have f4' := f4.call l6
  have R4' := R4.below l6
  clear k2' f2' R2' k4 f4 R4 hb1 hb2 hb4 hb6 bb2 bb4 bb6 b2 b4 l4 l6 hD1 hD2 hD4 hP1 hP2 hP3
  generalize w6.heap.size = n6 at *
  generalize (w6.alloc (.cells #[.string r.name, .string r.cur, .int .i64 r.from_.1, .int .i64 r.from_.2.1, .int .i64 r.from_.2.2, .int .i64 r.to_.1, .int .i64 r.to_.2.1, .int .i64 r.to_.2.2, .slice Dm r.mets.length cDm, .slice Df r.fees.length cDf, .slice Dc es.length cDc, .int .i64 r.line, .int .i64 r.col] 29)).alloc (.cells #[.int .i64 ge, .int .i64 gl, .int .i64 gc] 34) = u6 at *
  clear hD
  obtain ⟨z0, z1, z2, _, _, _⟩ := f2.c3
  obtain ⟨y0, y1, y2, _, _, _⟩ := f4'.c3
  obtain ⟨x0, x1, x2, _, _, _⟩ := f6.c3
  by_cases her : er = 0
  · obtain ⟨rfl, rfl⟩ := hZ1.out her
    subst her
    have hJ := hI.out rfl
    have hfg : fe = ge := hJ.1
    subst hfg
    have q0 := flt_zero
    by_cases hfe : fe = 0
    · obtain ⟨rfl, rfl⟩ := hZ2.out hfe
      obtain ⟨rfl, rfl⟩ := hZ3.out hfe
      subst hfe
      have hst : strip r = strip (adds p q) := hJ.2 rfl
      have q1 := flt_same 0 0 0
      clear hJ hI hZ1 hZ2 hZ3
      obtain ⟨a0, a1, a2, a3, a4, a5, a6, a7, a8, a9, a10, a11, a12, _, _, _, _, _, _, _, _, _, _, _, _, _⟩ := k2.c13
      go_wp2_with fail
      have hSa := small_strip hst hSm.out
      have hcl1 : cs.length = p.chgs.length := by have := congrArg List.length R2.eq; rwa [List.length_map] at this
      have hcl2 : ds.length = q.chgs.length := by have := congrArg List.length R4'.eq; rwa [List.length_map] at this
      have hlm : p.mets.length + q.mets.length ≤ 10000 := by have := hSa.mets; unfold adds at this; rwa [List.length_append] at this
      have hlf : p.fees.length + q.fees.length ≤ 10000 := by have := hSa.fees; unfold adds at this; rwa [List.length_append] at this
      have hlc : cs.length + ds.length ≤ 10000 := by have := hSa.chgs; unfold adds at this; rw [List.length_append] at this; omega
      clear hcl1 hcl2
      have iw0 : IW u6 (u6.alloc (.cells #[.string p.name, .string p.cur, .int .i64 p.from_.1, .int .i64 p.from_.2.1, .int .i64 p.from_.2.2, .int .i64 p.to_.1, .int .i64 p.to_.2.1, .int .i64 p.to_.2.2, .slice Am p.mets.length cAm, .slice Af p.fees.length cAf, .slice Ac cs.length cAc, .int .i64 p.line, .int .i64 p.col] 29)) #[.string p.name, .string p.cur, .int .i64 p.from_.1, .int .i64 p.from_.2.1, .int .i64 p.from_.2.2, .int .i64 p.to_.1, .int .i64 p.to_.2.1, .int .i64 p.to_.2.2, .slice Am p.mets.length cAm, .slice Af p.fees.length cAf, .slice Ac cs.length cAc, .int .i64 p.line, .int .i64 p.col] := ⟨bl_alloc (bl_refl _) _, Blk.new _ _ _⟩
      generalize u6.alloc (.cells #[.string p.name, .string p.cur, .int .i64 p.from_.1, .int .i64 p.from_.2.1, .int .i64 p.from_.2.2, .int .i64 p.to_.1, .int .i64 p.to_.2.1, .int .i64 p.to_.2.2, .slice Am p.mets.length cAm, .slice Af p.fees.length cAf, .slice Ac cs.length cAc, .int .i64 p.line, .int .i64 p.col] 29) = v0 at *
      have iwd : IW u6 (v0.alloc (.cells #[] 44)).drew _ := (iw0.alloc _).drew
      have hfr : (v0.alloc (.cells #[] 44)).drew.ownsRow (u6.heap.size + 1) 44 5 (.slice (some ⟨v0.heap.size, 0, none⟩) 0 0) 0 [] := own_keep (own_fresh v0 (u6.heap.size + 1) 44 5 (by have := iw0.lt; omega)) (fun _ _ => rfl)
      have hlt0 := iw0.lt
      obtain ⟨iT0, hT0, hT1⟩ : ∃ i, Tryd.prog.info? 44 = some i ∧ (some (i.zero, i.size, i.bytes)) = (Tryd.prog.info? 44).map (fun i => (i.zero, i.size, i.bytes)) := by
        cases h : Tryd.prog.info? 44 with
        | none => have := metInfo; rw [h] at this; cases this
        | some i => exact ⟨i, rfl, rfl⟩
      rw [metInfo] at hT1
      injection hT1 with hT1
      injection hT1 with hT2 hT3
      injection hT3 with hT3 hT4
      have p14 := (iw0.blk k2).cell 8
      have q14 := (iw0.blk k4').cell 8
      have p14 : v0.cell? ⟨n2, 8, none⟩ = some (.slice Am p.mets.length cAm) := p14
      have q14 : v0.cell? ⟨n4, 8, none⟩ = some (.slice Bm q.mets.length cBm) := q14
      have pa14 : (v0.alloc (.cells #[] 44)).drew.cell? ⟨n2, 8, none⟩ = some (.slice Am p.mets.length cAm) := (iwd.blk k2).cell 8
      have qa14 : (v0.alloc (.cells #[] 44)).drew.cell? ⟨n4, 8, none⟩ = some (.slice Bm q.mets.length cBm) := (iwd.blk k4').cell 8
      go_region_held3 (fun w' => w'.cell? ⟨n2, 8, none⟩ = some (.slice Am p.mets.length cAm) ∧ w'.cell? ⟨n4, 8, none⟩ = some (.slice Bm q.mets.length cBm))
        (refine ⟨?_, ?_⟩ <;> first | with_reducible assumption | (go_keep; done))
        ((first | (refine step_append_any _ (by rfl) (.tmp 55) (.tmp 57) 25 (by rfl) (u6.heap.size + 1) _ 44 iT0 _ 5 56 Tryd.underlying25 hT0 hT2 hT3 hT4 (by rfl) (by decide) _ _ _ (by rfl) hfr _ _ _ (by rfl) (iwd.row R2.mo) (met_one _) (by unfold maxLen; omega) (by omega) (by have := iwd.lt; omega) ?_; intro A1 c1 w8 hown8 hgrow8; (have iw8 := iwd.grown hgrow8 (fun k hk => by have h : some v0.heap.size = some k := hk; injection h with h; omega)); (skip); (have p8 : w8.cell? ⟨n2, 8, none⟩ = some (.slice Am p.mets.length cAm) := (iw8.blk k2).cell 8); (have q8 : w8.cell? ⟨n4, 8, none⟩ = some (.slice Bm q.mets.length cBm) := (iw8.blk k4').cell 8)) | (refine step_append_any _ (by rfl) (.tmp 58) (.tmp 60) 25 (by rfl) (u6.heap.size + 1) _ 44 iT0 _ 5 56 Tryd.underlying25 hT0 hT2 hT3 hT4 (by rfl) (by decide) _ _ _ (by rfl) hown8 _ _ _ (by rfl) (iw8.row R4'.mo) (met_one _) (by unfold maxLen; omega) (by omega) (by have := iw8.lt; omega) ?_; intro gm gcm w9 hown9 hgrow9; (simp only [Nat.zero_add, List.nil_append] at hown9); (have iw9 := iw8.grown hgrow9 (fun k hk => by have := (hown8.lt k hk).1; omega)); (skip); obtain ⟨d0, d1, d2, d3, d4, d5, d6, d7, d8, d9, d10, d11, d12, _, _, _, _, _, _, _, _, _, _, _, _, _⟩ := iw9.kp.c13; (have p9 : w9.cell? ⟨n2, 8, none⟩ = some (.slice Am p.mets.length cAm) := (iw9.blk k2).cell 8); (have q9 : w9.cell? ⟨n4, 8, none⟩ = some (.slice Bm q.mets.length cBm) := (iw9.blk k4').cell 8); (have iw10 := iw9.put 8 (.slice gm (p.mets.length + q.mets.length) gcm)); (have p10 : (w9.setCell ⟨u6.heap.size, 8, none⟩ (.slice gm (p.mets.length + q.mets.length) gcm)).cell? ⟨n2, 8, none⟩ = some (.slice Am p.mets.length cAm) := (iw10.blk k2).cell 8); (have q10 : (w9.setCell ⟨u6.heap.size, 8, none⟩ (.slice gm (p.mets.length + q.mets.length) gcm)).cell? ⟨n4, 8, none⟩ = some (.slice Bm q.mets.length cBm) := (iw10.blk k4').cell 8))))
      have iw1 : IW u6 (w9.setCell ⟨u6.heap.size, 8, none⟩ (.slice gm (p.mets.length + q.mets.length) gcm)) #[.string p.name, .string p.cur, .int .i64 p.from_.1, .int .i64 p.from_.2.1, .int .i64 p.from_.2.2, .int .i64 p.to_.1, .int .i64 p.to_.2.1, .int .i64 p.to_.2.2, .slice gm (p.mets.length + q.mets.length) gcm, .slice Af p.fees.length cAf, .slice Ac cs.length cAc, .int .i64 p.line, .int .i64 p.col] := iw10
      have m1 := own_set hown9 (Nat.lt_succ_self _) 8 (.slice gm (p.mets.length + q.mets.length) gcm)
      clear iw10 p10 q10 p9 q9 p8 q8 iw9 iw8 iwd hown8 hown9 hgrow8 hgrow9 d0 d1 d2 d3 d4 d5 d6 d7 d8 d9 d10 d11 d12 hfr pa14 qa14 p14 q14 hT0 hT2 hT3 hT4 
      generalize w9.setCell ⟨u6.heap.size, 8, none⟩ (.slice gm (p.mets.length + q.mets.length) gcm) = v1 at *
      go_wp2_with fail
      have iwd : IW u6 (v1.alloc (.cells #[] 48)).drew _ := (iw1.alloc _).drew
      have hfr : (v1.alloc (.cells #[] 48)).drew.ownsRow (u6.heap.size + 1) 48 10 (.slice (some ⟨v1.heap.size, 0, none⟩) 0 0) 0 [] := own_keep (own_fresh v1 (u6.heap.size + 1) 48 10 (by have := iw1.lt; omega)) (fun _ _ => rfl)
      have hlt1 := iw1.lt
      have md := own_keep (w' := (v1.alloc (.cells #[] 48)).drew) m1 (fun g hg => Below.heap_alloc v1 _ g ((m1).lt g hg).2)
      obtain ⟨iT1, hT0, hT1⟩ : ∃ i, Tryd.prog.info? 48 = some i ∧ (some (i.zero, i.size, i.bytes)) = (Tryd.prog.info? 48).map (fun i => (i.zero, i.size, i.bytes)) := by
        cases h : Tryd.prog.info? 48 with
        | none => have := feeInfo; rw [h] at this; cases this
        | some i => exact ⟨i, rfl, rfl⟩
      rw [feeInfo] at hT1
      injection hT1 with hT1
      injection hT1 with hT2 hT3
      injection hT3 with hT3 hT4
      have p15 := (iw1.blk k2).cell 9
      have q15 := (iw1.blk k4').cell 9
      have p15 : v1.cell? ⟨n2, 9, none⟩ = some (.slice Af p.fees.length cAf) := p15
      have q15 : v1.cell? ⟨n4, 9, none⟩ = some (.slice Bf q.fees.length cBf) := q15
      have pa15 : (v1.alloc (.cells #[] 48)).drew.cell? ⟨n2, 9, none⟩ = some (.slice Af p.fees.length cAf) := (iwd.blk k2).cell 9
      have qa15 : (v1.alloc (.cells #[] 48)).drew.cell? ⟨n4, 9, none⟩ = some (.slice Bf q.fees.length cBf) := (iwd.blk k4').cell 9
      go_region_held3 (fun w' => w'.cell? ⟨n2, 9, none⟩ = some (.slice Af p.fees.length cAf) ∧ w'.cell? ⟨n4, 9, none⟩ = some (.slice Bf q.fees.length cBf))
        (refine ⟨?_, ?_⟩ <;> first | with_reducible assumption | (go_keep; done))
        ((first | (refine step_append_any _ (by rfl) (.tmp 63) (.tmp 65) 26 (by rfl) (u6.heap.size + 1) _ 48 iT1 _ 10 80 Tryd.underlying26 hT0 hT2 hT3 hT4 (by rfl) (by decide) _ _ _ (by rfl) hfr _ _ _ (by rfl) (iwd.row R2.fo) (fee_one _) (by unfold maxLen; omega) (by omega) (by have := iwd.lt; omega) ?_; intro A1 c1 w8 hown8 hgrow8; (have iw8 := iwd.grown hgrow8 (fun k hk => by have h : some v1.heap.size = some k := hk; injection h with h; omega)); (skip; (have m8 := own_grown md hfr (by decide) hgrow8)); (have p8 : w8.cell? ⟨n2, 9, none⟩ = some (.slice Af p.fees.length cAf) := (iw8.blk k2).cell 9); (have q8 : w8.cell? ⟨n4, 9, none⟩ = some (.slice Bf q.fees.length cBf) := (iw8.blk k4').cell 9)) | (refine step_append_any _ (by rfl) (.tmp 66) (.tmp 68) 26 (by rfl) (u6.heap.size + 1) _ 48 iT1 _ 10 80 Tryd.underlying26 hT0 hT2 hT3 hT4 (by rfl) (by decide) _ _ _ (by rfl) hown8 _ _ _ (by rfl) (iw8.row R4'.fo) (fee_one _) (by unfold maxLen; omega) (by omega) (by have := iw8.lt; omega) ?_; intro gf gcf w9 hown9 hgrow9; (simp only [Nat.zero_add, List.nil_append] at hown9); (have iw9 := iw8.grown hgrow9 (fun k hk => by have := (hown8.lt k hk).1; omega)); (skip; (have m9 := own_grown m8 hown8 (by decide) hgrow9)); obtain ⟨d0, d1, d2, d3, d4, d5, d6, d7, d8, d9, d10, d11, d12, _, _, _, _, _, _, _, _, _, _, _, _, _⟩ := iw9.kp.c13; (have p9 : w9.cell? ⟨n2, 9, none⟩ = some (.slice Af p.fees.length cAf) := (iw9.blk k2).cell 9); (have q9 : w9.cell? ⟨n4, 9, none⟩ = some (.slice Bf q.fees.length cBf) := (iw9.blk k4').cell 9); (have iw10 := iw9.put 9 (.slice gf (p.fees.length + q.fees.length) gcf)); (have p10 : (w9.setCell ⟨u6.heap.size, 9, none⟩ (.slice gf (p.fees.length + q.fees.length) gcf)).cell? ⟨n2, 9, none⟩ = some (.slice Af p.fees.length cAf) := (iw10.blk k2).cell 9); (have q10 : (w9.setCell ⟨u6.heap.size, 9, none⟩ (.slice gf (p.fees.length + q.fees.length) gcf)).cell? ⟨n4, 9, none⟩ = some (.slice Bf q.fees.length cBf) := (iw10.blk k4').cell 9))))
      have iw2 : IW u6 (w9.setCell ⟨u6.heap.size, 9, none⟩ (.slice gf (p.fees.length + q.fees.length) gcf)) #[.string p.name, .string p.cur, .int .i64 p.from_.1, .int .i64 p.from_.2.1, .int .i64 p.from_.2.2, .int .i64 p.to_.1, .int .i64 p.to_.2.1, .int .i64 p.to_.2.2, .slice gm (p.mets.length + q.mets.length) gcm, .slice gf (p.fees.length + q.fees.length) gcf, .slice Ac cs.length cAc, .int .i64 p.line, .int .i64 p.col] := iw10
      have f2 := own_set hown9 (Nat.lt_succ_self _) 9 (.slice gf (p.fees.length + q.fees.length) gcf)
      have m2 := own_set m9 (Nat.lt_succ_self _) 9 (.slice gf (p.fees.length + q.fees.length) gcf)
      clear iw10 p10 q10 p9 q9 p8 q8 iw9 iw8 iwd hown8 hown9 hgrow8 hgrow9 d0 d1 d2 d3 d4 d5 d6 d7 d8 d9 d10 d11 d12 hfr pa15 qa15 p15 q15 hT0 hT2 hT3 hT4 m8 m9 md
      generalize w9.setCell ⟨u6.heap.size, 9, none⟩ (.slice gf (p.fees.length + q.fees.length) gcf) = v2 at *
      go_wp2_with fail
      have iwd : IW u6 (v2.alloc (.cells #[] 52)).drew _ := (iw2.alloc _).drew
      have hfr : (v2.alloc (.cells #[] 52)).drew.ownsRow (u6.heap.size + 1) 52 16 (.slice (some ⟨v2.heap.size, 0, none⟩) 0 0) 0 [] := own_keep (own_fresh v2 (u6.heap.size + 1) 52 16 (by have := iw2.lt; omega)) (fun _ _ => rfl)
      have hlt2 := iw2.lt
      have md := own_keep (w' := (v2.alloc (.cells #[] 52)).drew) m2 (fun g hg => Below.heap_alloc v2 _ g ((m2).lt g hg).2)
      have fd := own_keep (w' := (v2.alloc (.cells #[] 52)).drew) f2 (fun g hg => Below.heap_alloc v2 _ g ((f2).lt g hg).2)
      obtain ⟨iT2, hT0, hT1⟩ : ∃ i, Tryd.prog.info? 52 = some i ∧ (some (i.zero, i.size, i.bytes)) = (Tryd.prog.info? 52).map (fun i => (i.zero, i.size, i.bytes)) := by
        cases h : Tryd.prog.info? 52 with
        | none => have := chgInfo; rw [h] at this; cases this
        | some i => exact ⟨i, rfl, rfl⟩
      rw [chgInfo] at hT1
      injection hT1 with hT1
      injection hT1 with hT2 hT3
      injection hT3 with hT3 hT4
      have p16 := (iw2.blk k2).cell 10
      have q16 := (iw2.blk k4').cell 10
      have p16 : v2.cell? ⟨n2, 10, none⟩ = some (.slice Ac cs.length cAc) := p16
      have q16 : v2.cell? ⟨n4, 10, none⟩ = some (.slice Bc ds.length cBc) := q16
      have pa16 : (v2.alloc (.cells #[] 52)).drew.cell? ⟨n2, 10, none⟩ = some (.slice Ac cs.length cAc) := (iwd.blk k2).cell 10
      have qa16 : (v2.alloc (.cells #[] 52)).drew.cell? ⟨n4, 10, none⟩ = some (.slice Bc ds.length cBc) := (iwd.blk k4').cell 10
      go_region_held3 (fun w' => w'.cell? ⟨n2, 10, none⟩ = some (.slice Ac cs.length cAc) ∧ w'.cell? ⟨n4, 10, none⟩ = some (.slice Bc ds.length cBc))
        (refine ⟨?_, ?_⟩ <;> first | with_reducible assumption | (go_keep; done))
        ((first | (refine step_append_any _ (by rfl) (.tmp 71) (.tmp 73) 27 (by rfl) (u6.heap.size + 1) _ 52 iT2 _ 16 168 Tryd.underlying27 hT0 hT2 hT3 hT4 (by rfl) (by decide) _ _ _ (by rfl) hfr _ _ _ (by rfl) (iwd.row R2.co) (chg_one _ R2.ne) (by unfold maxLen; omega) (by omega) (by have := iwd.lt; omega) ?_; intro A1 c1 w8 hown8 hgrow8; (have iw8 := iwd.grown hgrow8 (fun k hk => by have h : some v2.heap.size = some k := hk; injection h with h; omega)); (skip; (have m8 := own_grown md hfr (by decide) hgrow8); (have f8 := own_grown fd hfr (by decide) hgrow8)); (have p8 : w8.cell? ⟨n2, 10, none⟩ = some (.slice Ac cs.length cAc) := (iw8.blk k2).cell 10); (have q8 : w8.cell? ⟨n4, 10, none⟩ = some (.slice Bc ds.length cBc) := (iw8.blk k4').cell 10)) | (refine step_append_any _ (by rfl) (.tmp 74) (.tmp 76) 27 (by rfl) (u6.heap.size + 1) _ 52 iT2 _ 16 168 Tryd.underlying27 hT0 hT2 hT3 hT4 (by rfl) (by decide) _ _ _ (by rfl) hown8 _ _ _ (by rfl) (iw8.row R4'.co) (chg_one _ R4'.ne) (by unfold maxLen; omega) (by omega) (by have := iw8.lt; omega) ?_; intro gc gcc w9 hown9 hgrow9; (simp only [Nat.zero_add, List.nil_append] at hown9); (have iw9 := iw8.grown hgrow9 (fun k hk => by have := (hown8.lt k hk).1; omega)); (skip; (have m9 := own_grown m8 hown8 (by decide) hgrow9); (have f9 := own_grown f8 hown8 (by decide) hgrow9)); obtain ⟨d0, d1, d2, d3, d4, d5, d6, d7, d8, d9, d10, d11, d12, _, _, _, _, _, _, _, _, _, _, _, _, _⟩ := iw9.kp.c13; (have p9 : w9.cell? ⟨n2, 10, none⟩ = some (.slice Ac cs.length cAc) := (iw9.blk k2).cell 10); (have q9 : w9.cell? ⟨n4, 10, none⟩ = some (.slice Bc ds.length cBc) := (iw9.blk k4').cell 10); (have iw10 := iw9.put 10 (.slice gc (cs.length + ds.length) gcc)); (have p10 : (w9.setCell ⟨u6.heap.size, 10, none⟩ (.slice gc (cs.length + ds.length) gcc)).cell? ⟨n2, 10, none⟩ = some (.slice Ac cs.length cAc) := (iw10.blk k2).cell 10); (have q10 : (w9.setCell ⟨u6.heap.size, 10, none⟩ (.slice gc (cs.length + ds.length) gcc)).cell? ⟨n4, 10, none⟩ = some (.slice Bc ds.length cBc) := (iw10.blk k4').cell 10))))
      have iw3 : IW u6 (w9.setCell ⟨u6.heap.size, 10, none⟩ (.slice gc (cs.length + ds.length) gcc)) #[.string p.name, .string p.cur, .int .i64 p.from_.1, .int .i64 p.from_.2.1, .int .i64 p.from_.2.2, .int .i64 p.to_.1, .int .i64 p.to_.2.1, .int .i64 p.to_.2.2, .slice gm (p.mets.length + q.mets.length) gcm, .slice gf (p.fees.length + q.fees.length) gcf, .slice gc (cs.length + ds.length) gcc, .int .i64 p.line, .int .i64 p.col] := iw10
      have h3 := own_set hown9 (Nat.lt_succ_self _) 10 (.slice gc (cs.length + ds.length) gcc)
      have m3 := own_set m9 (Nat.lt_succ_self _) 10 (.slice gc (cs.length + ds.length) gcc)
      have f3 := own_set f9 (Nat.lt_succ_self _) 10 (.slice gc (cs.length + ds.length) gcc)
      clear iw10 p10 q10 p9 q9 p8 q8 iw9 iw8 iwd hown8 hown9 hgrow8 hgrow9 d0 d1 d2 d3 d4 d5 d6 d7 d8 d9 d10 d11 d12 hfr pa16 qa16 p16 q16 hT0 hT2 hT3 hT4 m8 m9 md f8 f9 fd
      generalize w9.setCell ⟨u6.heap.size, 10, none⟩ (.slice gc (cs.length + ds.length) gcc) = v3 at *
      have hcs : (cs ++ ds).map (·.1) = (adds p q).chgs := by rw [List.map_append, R2.eq, R4'.eq]; rfl
      have RW : Rows v3 0 (adds p q) (.slice gm (p.mets.length + q.mets.length) gcm) (.slice gf (p.fees.length + q.fees.length) gcf) (.slice gc (cs.length + ds.length) gcc) (cs ++ ds) := by
        refine ⟨?_, ?_, ?_, hcs, ?_⟩
        · have h := own_base m3 (Nat.zero_le _)
          unfold adds
          rw [List.length_append, List.flatMap_append]; exact h
        · have h := own_base f3 (Nat.zero_le _)
          unfold adds
          rw [List.length_append, List.flatMap_append]; exact h
        · have h := own_base h3 (Nat.zero_le _)
          rw [List.length_append, List.flatMap_append]; exact h
        · intro x hx
          rcases List.mem_append.1 hx with hx | hx
          · exact ⟨own_base (iw3.row (R2.ne x hx).1) (Nat.zero_le _), own_base (iw3.row (R2.ne x hx).2) (Nat.zero_le _)⟩
          · exact ⟨own_base (iw3.row (R4'.ne x hx).1) (Nat.zero_le _), own_base (iw3.row (R4'.ne x hx).2) (Nat.zero_le _)⟩
      have RR := R6.below iw3.lb
      have hrow : rowT r = rowT (adds p q) := by rw [← rowT_strip r, hst, rowT_strip]
      have rS := same_any v3 RR RW hSm.out hSa
      have hde : decide (rowT r = rowT (adds p q)) = true := decide_eq_true hrow
      rw [hde] at rS
      replace rS : Calls Tryd.prog 20 #[.agg #[.string r.name, .string r.cur, .int .i64 r.from_.1, .int .i64 r.from_.2.1, .int .i64 r.from_.2.2, .int .i64 r.to_.1, .int .i64 r.to_.2.1, .int .i64 r.to_.2.2, .slice Dm r.mets.length cDm, .slice Df r.fees.length cDf, .slice Dc es.length cDc, .int .i64 r.line, .int .i64 r.col], .agg #[.string p.name, .string p.cur, .int .i64 p.from_.1, .int .i64 p.from_.2.1, .int .i64 p.from_.2.2, .int .i64 p.to_.1, .int .i64 p.to_.2.1, .int .i64 p.to_.2.2, .slice gm (p.mets.length + q.mets.length) gcm, .slice gf (p.fees.length + q.fees.length) gcf, .slice gc (cs.length + ds.length) gcc, .int .i64 p.line, .int .i64 p.col]] v3 fun e w' => e = .returned (.bool true) ∧ Below v3.heap.size v3 w' := rS
      obtain ⟨a0, a1, a2, a3, a4, a5, a6, a7, a8, a9, a10, a11, a12, _, _, _, _, _, _, _, _, _, _, _, _, _⟩ := iw3.kp.c13
      obtain ⟨e0, e1, e2, e3, e4, e5, e6, e7, e8, e9, e10, e11, e12, _, _, _, _, _, _, _, _, _, _, _, _, _⟩ := (iw3.blk k6).c13
      obtain ⟨g0, g1, g2, _, _, _⟩ := (iw3.blk f6).c3
      have bZ := bl_call b6 iw3.lb
      clear RW RR hde hrow R2 R4' R6 hSa hSm k2 k4' k6 f2 f4' f6 m3 f3 h3 iw3
      go_wp2_with fail
      refine rS.mono ?_
      rintro e w20 ⟨rfl, hb20⟩
      go_wp2_with fail
      go_ret
      exact ⟨rfl, bl_call bZ hb20⟩
    · have q2 := flt_bad fl fc hfe
      have q3 : ∀ W, (binOp .eql 32 (.int .i64 fe) (.int .i64 fe)).run Tryd.prog W = .ok (.bool true) W := fun W => by go_simp
      go_wp2_with fail
      go_ret
      exact ⟨rfl, b6⟩
  · have q1 := flt_bad li co her
    go_wp2_with fail
    go_ret
    exact ⟨rfl, b6⟩
end Go.Proofs.YtcgkfgklggjmaaaDoor.Par
end
