import Derived.Test.YtcgkfgklggjmaaaDoorGd
import Derived.Deep.DeepCutAuto
section
namespace Go.Proofs.YtcgkfgklggjmaaaDoor.Par
set_option linter.unusedVariables false
set_option linter.unusedSimpArgs false
open Go.RowKit
def tokV (t : Tok) : Value := .agg #[.int .i64 t.kind, .string t.text, .int .i64 t.line, .int .i64 t.col]
set_option maxHeartbeats 2000000 in
set_option maxRecDepth 100000 in
theorem peek_any {w : World} {b : Nat} {ts : List Tok} {r cap i : Nat} {s : St} (h : PAt w b ts r cap i s) (hl : ts.length < 9223372036854775808) (hc : cap < 9223372036854775808) :
    Calls Tryd.prog 52 #[.pointer (some ⟨b, 0, none⟩)] w fun e w' => e = .returned (tokV (peek s)) ∧ Below w.heap.size w w' := by
  obtain ⟨t0, t1, t2, t3⟩ := h.tok
  obtain ⟨c0, c1, c2, c3, _⟩ := h.blk.c4
  have hlt := h.lt
  have hcap := h.cap_
  have hb := h.blk.lt
  have hr : r < w.heap.size := World.block_lt_of_cell? w _ t0
  have kz := Blk.new w 102 #[.int .i64 0, .string ⟨#[]⟩, .int .i64 0, .int .i64 0]
  obtain ⟨z0, z1, z2, z3, _⟩ := kz.c4
  generalize peek s = t at *
  have b0 : (0 : Int) < ((ts.length - i : Nat) : Int) := by omega
  go_enter Tryd.func52, Tryd.ntmps52
  go_wp2_with fail
  exact bodyPost_ret (results_cell_row rfl _ _ w.heap.size _ #[.int .i64 t.kind, .string t.text, .int .i64 t.line, .int .i64 t.col] (0, 0) _ rfl (Blk.new w _ _) Tryd.underlying102 rfl (by kernel_rfl)) rfl ⟨rfl, bl_alloc (bl_refl w) _⟩
theorem fault_eql (a b c a' b' c' : Int) (W : World) : (binOp .eql 34 (.agg #[.int .i64 a, .int .i64 b, .int .i64 c]) (.agg #[.int .i64 a', .int .i64 b', .int .i64 c'])).run Tryd.prog W = .ok (.bool (a == a' && (b == b' && (c == c' && true)))) W := by
  refine eql_S (fun d => ?_)
  refine eqS_of _ _ _ _ _ _ Tryd.underlying34 (by kernel_rfl) ?_
  refine eqF_cons _ _ _ _ _ (.int .i64 a) (.int .i64 a') _ _ rfl (by go_simp) (by go_simp) (by go_simp) ?_
  refine eqF_cons _ _ _ _ _ (.int .i64 b) (.int .i64 b') _ _ rfl (by go_simp) (by go_simp) (by go_simp) ?_
  refine eqF_cons _ _ _ _ _ (.int .i64 c) (.int .i64 c') _ _ rfl (by go_simp) (by go_simp) (by go_simp) ?_
  exact eqF_nil _ _ _
set_option maxHeartbeats 2000000 in
set_option maxRecDepth 100000 in
theorem fail_any {w : World} {b : Nat} {ts : List Tok} {r cap i : Nat} {s : St} (h : PAt w b ts r cap i s) (e : Int) (he : e ≠ 0) (t : Tok) :
    Calls Tryd.prog 88 #[.pointer (some ⟨b, 0, none⟩), .int .i64 e, tokV t] w fun en w' => en = .returned (.tuple #[]) ∧ PAt w' b ts r cap i (fail e t s) ∧ Fr b w w' := by
  obtain ⟨c0, c1, c2, c3, f0, f1, f2, f3⟩ := h.blk.c4
  have hb := h.blk.lt
  have hr : r < w.heap.size := World.block_lt_of_cell? w _ h.tok.1
  have hfe := fault_eql s.err s.line s.col 0 0 0
  unfold tokV
  by_cases h0 : s.err = 0
  · obtain ⟨l0, k0⟩ := h.ok h0
    rw [h0, l0, k0] at hfe
    rw [h0] at c1
    rw [l0] at c2
    rw [k0] at c3
    have hfe' : ∀ W, (binOp .eql 34 (.agg #[.int .i64 0, .int .i64 0, .int .i64 0]) (.agg #[.int .i64 0, .int .i64 0, .int .i64 0])).run Tryd.prog W = .ok (.bool true) W := hfe
    clear hfe l0 k0
    go_enter Tryd.func88, Tryd.ntmps88
    go_wp2_with fail
    go_end0
    refine ⟨rfl, ?_⟩
    have hf : fail e t s = { s with err := e, line := t.line, col := t.col } := by unfold Par.fail; rw [if_pos h0]
    rw [hf]
    have hown : ∀ (u : Nat) (g : Nat), (Value.slice (some ⟨r, 0, none⟩) ts.length cap).ownBlock = some g → g ≠ (⟨b, u, none⟩ : Addr).block := fun u g hg => by
      obtain rfl : r = g := Option.some.inj hg
      exact h.ne
    have hrow := ownsRow_far (ownsRow_far (ownsRow_far h.row (hown 1) (.int .i64 e)) (hown 2) (.int .i64 t.line)) (hown 3) (.int .i64 t.col)
    exact ⟨⟨(((h.blk.set_ 1 (.int .i64 e)).set_ 2 (.int .i64 t.line)).set_ 3 (.int .i64 t.col)).alloc _, ownsRow_base (ownsRow_below hrow (bl_alloc (bl_refl _) _)) (Nat.zero_le _), h.ne, h.cap_, h.rest, h.lt, h.last, fun e0 => absurd e0 he⟩, (((Fr.refl b w).set ⟨b, 1, none⟩ rfl (.int .i64 e)).set ⟨b, 2, none⟩ rfl (.int .i64 t.line)).set ⟨b, 3, none⟩ rfl (.int .i64 t.col) |>.trans (Fr.of_below (bl_alloc (bl_refl _) _))⟩
  · have hn : (s.err == 0) = false := beq_eq_false_iff_ne.2 h0
    rw [hn] at hfe
    have hfe' : ∀ W, (binOp .eql 34 (.agg #[.int .i64 s.err, .int .i64 s.line, .int .i64 s.col]) (.agg #[.int .i64 0, .int .i64 0, .int .i64 0])).run Tryd.prog W = .ok (.bool false) W := hfe
    clear hfe
    rw [fail_keep h0]
    have hres := h.below (bl_alloc (bl_refl w) (.cells #[.int .i64 t.kind, .string t.text, .int .i64 t.line, .int .i64 t.col] 102))
    go_enter Tryd.func88, Tryd.ntmps88
    go_wp2_with fail
    go_end0
    exact ⟨rfl, hres, Fr.of_below (bl_alloc (bl_refl _) _)⟩
set_option maxHeartbeats 2000000 in
set_option maxRecDepth 100000 in
theorem next_any {w : World} {b : Nat} {ts : List Tok} {r cap i : Nat} {s : St} (h : PAt w b ts r cap i s) :
    Calls Tryd.prog 89 #[.pointer (some ⟨b, 0, none⟩)] w fun en w' => en = .returned (tokV (peek s)) ∧ (∃ j, PAt w' b ts r cap j (P.next s)) ∧ Fr b w w' := by
  obtain ⟨t0, t1, t2, t3⟩ := h.tok
  obtain ⟨c0, c1, c2, c3, f0, f1, f2, f3⟩ := h.blk.c4
  have hlt := h.lt
  have hcap := h.cap_
  have hb := h.blk.lt
  have hr : r < w.heap.size := World.block_lt_of_cell? w _ t0
  have b0 : (0 : Int) < ((ts.length - i : Nat) : Int) := by omega
  by_cases hk : (peek s).kind = 0
  · have hn : P.next s = s := by unfold P.next; rw [if_pos hk]
    rw [hn]
    have hnk : ((peek s).kind != 0) = false := by rw [hk]; rfl
    have hfin := h.below (bl_alloc (bl_refl w) (.cells #[.int .i64 (peek s).kind, .string (peek s).text, .int .i64 (peek s).line, .int .i64 (peek s).col] 102))
    generalize peek s = t at *
    clear hk hn
    go_enter Tryd.func89, Tryd.ntmps89
    go_wp2_with fail
    exact bodyPost_ret (results_cell_row rfl _ _ w.heap.size _ #[.int .i64 t.kind, .string t.text, .int .i64 t.line, .int .i64 t.col] (0, 0) _ rfl ((Blk.new w _ _).alloc _) Tryd.underlying102 rfl (by kernel_rfl)) rfl
      ⟨rfl, ⟨i, h.below (bl_alloc (bl_alloc (bl_refl w) _) _)⟩, Fr.of_below (bl_alloc (bl_alloc (bl_refl w) _) _)⟩
  · have hn : P.next s = drop1 s := next_drop hk
    rw [hn]
    have hnk : ((peek s).kind != 0) = true := bne_iff_ne.2 hk
    have hlt2 : i + 1 < ts.length := by
      rcases Nat.lt_or_ge (i + 1) ts.length with h2 | h2
      · exact h2
      · exfalso
        have hl : ts.getLast? = some (peek s) := by
          rw [List.getLast?_eq_getElem?, show ts.length - 1 = i by omega]
          exact h.peek_at
        exact hk (h.last _ hl)
    generalize peek s = t at *
    clear hk hn
    go_enter Tryd.func89, Tryd.ntmps89
    go_wp2_with fail
    have hz : ∀ (p : Addr) (u : Value), (w.setCell p u).heap.size = w.heap.size := fun p u => by simp [World.setCell]
    rw [show i * 4 + 4 = (i + 1) * 4 by omega, show ts.length - i - 1 = ts.length - (i + 1) by omega, show cap - i - 1 = cap - (i + 1) by omega]
    have hown : ∀ (g : Nat), (Value.slice (some ⟨r, 0, none⟩) ts.length cap).ownBlock = some g → g ≠ (⟨b, 0, none⟩ : Addr).block := fun g hg => by
      obtain rfl : r = g := Option.some.inj hg
      exact h.ne
    have hP : PAt (w.setCell ⟨b, 0, none⟩ (.slice (some ⟨r, (i + 1) * 4, none⟩) (ts.length - (i + 1)) (cap - (i + 1)))) b ts r cap (i + 1) (drop1 s) :=
      ⟨h.blk.set_ 0 _, ownsRow_far h.row hown _, h.ne, h.cap_, by show s.rest.tail = _; rw [h.rest, List.tail_drop], hlt2, h.last, h.ok⟩
    have hB := Blk.new (w.setCell ⟨b, 0, none⟩ (.slice (some ⟨r, (i + 1) * 4, none⟩) (ts.length - (i + 1)) (cap - (i + 1)))) 102 #[.int .i64 t.kind, .string t.text, .int .i64 t.line, .int .i64 t.col]
    rw [hz] at hB
    exact bodyPost_ret (results_cell_row rfl _ _ w.heap.size _ #[.int .i64 t.kind, .string t.text, .int .i64 t.line, .int .i64 t.col] (0, 0) _ rfl (hB.alloc _) Tryd.underlying102 rfl (by kernel_rfl)) rfl
      ⟨rfl, ⟨i + 1, hP.below (bl_alloc (bl_alloc (bl_refl _) _) _)⟩, ((Fr.refl b w).set ⟨b, 0, none⟩ rfl _).trans (Fr.of_below (bl_alloc (bl_alloc (bl_refl _) _) _))⟩
end Go.Proofs.YtcgkfgklggjmaaaDoor.Par
end
section
namespace Go.Proofs.YtcgkfgklggjmaaaDoor.Par
set_option linter.unusedVariables false
set_option linter.unusedSimpArgs false
open Go.RowKit
set_option maxHeartbeats 2000000 in
set_option maxRecDepth 100000 in
theorem is_any {w : World} {b : Nat} {ts : List Tok} {r cap i : Nat} {s : St} (h : PAt w b ts r cap i s) (hl : ts.length < 9223372036854775808) (hc : cap < 9223372036854775808) (x : ByteArray) :
    Calls Tryd.prog 124 #[.pointer (some ⟨b, 0, none⟩), .string x] w fun en w' => en = .returned (.bool (on x s)) ∧ Below w.heap.size w w' := by
  have hp := peek_any h hl hc
  have hon : on x s = (((peek s).kind == 2 || (peek s).kind == 5) && (peek s).text == x) := rfl
  rw [hon]
  clear hon
  generalize peek s = t at *
  unfold tokV at hp
  have hcase : ((t.kind == 2) = true) ∨ ((t.kind == 2) = false ∧ (t.kind == 5) = true) ∨ ((t.kind == 2) = false ∧ (t.kind == 5) = false) := by
    cases (t.kind == 2) <;> cases (t.kind == 5) <;> simp
  rcases hcase with h2 | ⟨h2, h5⟩ | ⟨h2, h5⟩
  all_goals
    go_enter Tryd.func124, Tryd.ntmps124
    go_wp2_with fail
    refine hp.mono ?_
    rintro e w1 ⟨rfl, hb1⟩
    have kx := Blk.new w1 102 #[.int .i64 t.kind, .string t.text, .int .i64 t.line, .int .i64 t.col]
    obtain ⟨z0, z1, z2, z3, _⟩ := kx.c4
    go_wp2_with fail
    go_ret
    refine ⟨?_, bl_alloc hb1 _⟩
  · rw [h2, ← beq_bytes]; rfl
  · rw [h2, h5, ← beq_bytes]; rfl
  · rw [h2, h5]; rfl
set_option maxHeartbeats 2000000 in
set_option maxRecDepth 100000 in
theorem eat_any {w : World} {b : Nat} {ts : List Tok} {r cap i : Nat} {s : St} (h : PAt w b ts r cap i s) (hl : ts.length < 9223372036854775808) (hc : cap < 9223372036854775808) (x : ByteArray) :
    Calls Tryd.prog 87 #[.pointer (some ⟨b, 0, none⟩), .string x] w fun en w' => en = .returned (.bool (P.eat x s).1) ∧ (∃ j, PAt w' b ts r cap j (P.eat x s).2) ∧ Fr b w w' := by
  obtain ⟨c0, c1, c2, c3, f0, f1, f2, f3⟩ := h.blk.c4
  have hb := h.blk.lt
  have hfe := fault_eql s.err s.line s.col 0 0 0
  by_cases h0 : s.err = 0
  · obtain ⟨l0, k0⟩ := h.ok h0
    rw [h0, l0, k0] at hfe
    rw [h0] at c1
    rw [l0] at c2
    rw [k0] at c3
    have hfe' : ∀ W, (binOp .eql 34 (.agg #[.int .i64 0, .int .i64 0, .int .i64 0]) (.agg #[.int .i64 0, .int .i64 0, .int .i64 0])).run Tryd.prog W = .ok (.bool true) W := hfe
    clear hfe l0 k0
    have his := is_any h hl hc x
    cases ho : on x s with
    | true =>
      have he : P.eat x s = (true, P.next s) := by unfold P.eat; rw [if_pos ⟨h0, ho⟩]
      rw [he]
      rw [ho] at his
      go_enter Tryd.func87, Tryd.ntmps87
      go_wp2_with fail
      refine his.mono ?_
      rintro e w1 ⟨rfl, hb1⟩
      have h1 := h.below hb1
      go_wp2_with fail
      refine (next_any h1).mono ?_
      rintro e w2 ⟨rfl, hP, hF⟩
      go_wp2_with fail
      go_ret
      exact ⟨rfl, hP, (Fr.of_below hb1).trans hF⟩
    | false =>
      have he : P.eat x s = (false, s) := by unfold P.eat; rw [if_neg (fun e => by rw [ho] at e; exact Bool.false_ne_true e.2)]
      rw [he]
      rw [ho] at his
      go_enter Tryd.func87, Tryd.ntmps87
      go_wp2_with fail
      refine his.mono ?_
      rintro e w1 ⟨rfl, hb1⟩
      go_wp2_with fail
      go_ret
      exact ⟨rfl, ⟨i, h.below hb1⟩, Fr.of_below hb1⟩
  · have he : P.eat x s = (false, s) := eat_bad h0
    rw [he]
    have hn : (s.err == 0) = false := beq_eq_false_iff_ne.2 h0
    rw [hn] at hfe
    have hfe' : ∀ W, (binOp .eql 34 (.agg #[.int .i64 s.err, .int .i64 s.line, .int .i64 s.col]) (.agg #[.int .i64 0, .int .i64 0, .int .i64 0])).run Tryd.prog W = .ok (.bool false) W := hfe
    clear hfe
    go_enter Tryd.func87, Tryd.ntmps87
    go_wp2_with fail
    go_ret
    exact ⟨rfl, ⟨i, h⟩, Fr.refl b w⟩
end Go.Proofs.YtcgkfgklggjmaaaDoor.Par
end
section
namespace Go.Proofs.YtcgkfgklggjmaaaDoor.Par
set_option linter.unusedVariables false
set_option linter.unusedSimpArgs false
open Go.RowKit
set_option maxHeartbeats 2000000 in
set_option maxRecDepth 100000 in
theorem kind_any {w : World} {b : Nat} {ts : List Tok} {r cap i : Nat} {s : St} (h : PAt w b ts r cap i s) (hl : ts.length < 9223372036854775808) (hc : cap < 9223372036854775808) (k : Int) :
    Calls Tryd.prog 50 #[.pointer (some ⟨b, 0, none⟩), .int .i64 k] w fun en w' => en = .returned (.string (P.kind k s).1) ∧ (∃ j, PAt w' b ts r cap j (P.kind k s).2) ∧ Fr b w w' := by
  have hp := peek_any h hl hc
  have hb := h.blk.lt
  by_cases hk : (peek s).kind = k
  · have he : P.kind k s = ((peek s).text, P.next s) := by unfold P.kind; rw [if_pos hk]
    rw [he]
    have hkb : ((peek s).kind != k) = false := by rw [hk]; simp
    have hnx := fun v (hv : Below w.heap.size w v) => next_any (h.below hv)
    generalize peek s = t at *
    generalize P.next s = s' at *
    unfold tokV at hp hnx
    have hfd : ∀ W, (Instr.field 102 (.agg #[.int .i64 t.kind, .string t.text, .int .i64 t.line, .int .i64 t.col]) 1).run Tryd.prog W = .ok (.string t.text) W := fun _ => by kernel_rfl
    clear hk he
    go_enter Tryd.func50, Tryd.ntmps50
    go_wp2_with fail
    refine hp.mono ?_
    rintro e w1 ⟨rfl, hb1⟩
    have kx := Blk.new w1 102 #[.int .i64 t.kind, .string t.text, .int .i64 t.line, .int .i64 t.col]
    obtain ⟨z0, z1, z2, z3, _⟩ := kx.c4
    have hbb := bl_alloc hb1 (.cells #[.int .i64 t.kind, .string t.text, .int .i64 t.line, .int .i64 t.col] 102)
    go_wp2_with fail
    refine (hnx _ hbb).mono ?_
    rintro e w2 ⟨rfl, hP, hF⟩
    go_wp2_with fail
    go_ret
    exact ⟨rfl, hP, (Fr.of_below hbb).trans hF⟩
  · have he : P.kind k s = (⟨#[]⟩, fail 4 (peek s) s) := by unfold P.kind; rw [if_neg hk]
    rw [he]
    have hkb : ((peek s).kind != k) = true := bne_iff_ne.2 hk
    have hfl := fun v (hv : Below w.heap.size w v) => fail_any (h.below hv) 4 (by decide) (peek s)
    generalize fail 4 (peek s) s = s' at *
    generalize peek s = t at *
    unfold tokV at hp hfl
    clear hk he
    go_enter Tryd.func50, Tryd.ntmps50
    go_wp2_with fail
    refine hp.mono ?_
    rintro e w1 ⟨rfl, hb1⟩
    have kx := Blk.new w1 102 #[.int .i64 t.kind, .string t.text, .int .i64 t.line, .int .i64 t.col]
    obtain ⟨z0, z1, z2, z3, _⟩ := kx.c4
    have hbb := bl_alloc hb1 (.cells #[.int .i64 t.kind, .string t.text, .int .i64 t.line, .int .i64 t.col] 102)
    go_wp2_with fail
    refine (hfl _ hbb).mono ?_
    rintro e w2 ⟨rfl, hP, hF⟩
    go_wp2_with fail
    go_ret
    exact ⟨rfl, ⟨i, hP⟩, (Fr.of_below hbb).trans hF⟩
theorem PAt.far {w : World} {b : Nat} {ts : List Tok} {r cap i : Nat} {s : St} (h : PAt w b ts r cap i s) (p : Addr) (hb : b ≠ p.block) (hr : r ≠ p.block) (u : Value) : PAt (w.setCell p u) b ts r cap i s :=
  ⟨h.blk.far hb u, ownsRow_far h.row (fun g hg => by obtain rfl : r = g := Option.some.inj hg; exact hr) u, h.ne, h.cap_, h.rest, h.lt, h.last, h.ok⟩
set_option maxHeartbeats 2000000 in
set_option maxRecDepth 100000 in
theorem day_any {w : World} {b : Nat} {ts : List Tok} {r cap i : Nat} {s : St} (h : PAt w b ts r cap i s) (hl : ts.length < 9223372036854775808) (hc : cap < 9223372036854775808) :
    Calls Tryd.prog 51 #[.pointer (some ⟨b, 0, none⟩)] w fun en w' => en = .returned (dayV (P.day dp s).1) ∧ (∃ j, PAt w' b ts r cap j (P.day dp s).2) ∧ Fr b w w' := by
  have hbl := bl_alloc (bl_refl w) (.cells #[.int .i64 0, .int .i64 0, .int .i64 0] 24)
  have hk := kind_any (h.below hbl) hl hc 4
  have hb := h.blk.lt
  have kr := Blk.new w 24 #[.int .i64 0, .int .i64 0, .int .i64 0]
  have e1 : P.day dp s = (dp (P.kind 4 s).1, (P.kind 4 s).2) := rfl
  rw [e1]
  generalize P.kind 4 s = x at *
  obtain ⟨x1, x2⟩ := x
  unfold dayV dp
  clear e1
  go_enter Tryd.func51, Tryd.ntmps51
  go_wp2_with fail
  refine hk.mono ?_
  rintro e w1 ⟨rfl, ⟨j, hP⟩, hF⟩
  have kr1 := hF.blk kr (by omega)
  go_wp2_with fail
  refine (dparse_any _ _).mono ?_
  rintro e w2 ⟨rfl, hb2⟩
  have kr2 := kr1.call hb2
  have hP2 := hP.below hb2
  have hlr := kr2.lt
  obtain ⟨r0, r1, r2, g0, g1, g2⟩ := kr2.c3
  have hr : r < w.heap.size := World.block_lt_of_cell? w _ h.tok.1
  go_wp2_with fail
  have hF2 := ((Fr.of_below (b := b) hbl).trans hF).trans (Fr.of_below hb2)
  exact bodyPost_ret (results_cell_row rfl _ _ w.heap.size _ #[.int .i64 (pY x1), .int .i64 (pM x1), .int .i64 (pD x1)] (0, 0) _ rfl ((((kr2.set_ 0 _).set_ 1 _).set_ 2 _).alloc _) Tryd.underlying24 rfl (by kernel_rfl)) rfl
    ⟨rfl, ⟨j, (((hP2.far ⟨w.heap.size, 0, none⟩ (by (try dsimp only); omega) (by (try dsimp only); omega) _).far ⟨w.heap.size, 1, none⟩ (by (try dsimp only); omega) (by (try dsimp only); omega) _).far ⟨w.heap.size, 2, none⟩ (by (try dsimp only); omega) (by (try dsimp only); omega) _).below (bl_alloc (bl_refl _) _)⟩,
      (((hF2.setNew ⟨w.heap.size, 0, none⟩ (Nat.le_refl _) _).setNew ⟨w.heap.size, 1, none⟩ (Nat.le_refl _) _).setNew ⟨w.heap.size, 2, none⟩ (Nat.le_refl _) _).trans (Fr.of_below (bl_alloc (bl_refl _) _))⟩
end Go.Proofs.YtcgkfgklggjmaaaDoor.Par
end
section
namespace Go.Proofs.YtcgkfgklggjmaaaDoor.Par
set_option linter.unusedVariables false
set_option linter.unusedSimpArgs false
open Go.RowKit
/-- a number's values, as decimal.Parse says them -/
def npV (t : ByteArray) (places most : Int) : Int × Int := Dec.parseL t.data.toList places most
theorem peek_fail (e : Int) (t : Tok) (s : St) : peek (fail e t s) = peek s := by unfold fail; split <;> rfl
set_option maxHeartbeats 4000000 in
set_option maxRecDepth 100000 in
theorem rnumber_any {w : World} {b : Nat} {ts : List Tok} {r cap i : Nat} {s : St} (h : RAt w b ts r cap i s) (places most : Int) :
    Calls Tryd.prog 39 #[.pointer (some ⟨b, 0, none⟩), .int .i64 places, .int .i64 most] w fun en w' => en = .returned (.int .i64 (R.number npV places most s).1) ∧ (∃ j, RAt w' b ts r cap j (R.number npV places most s).2) ∧ Fr b w w' := by
  obtain ⟨t0, t1, t2, t3⟩ := h.tok
  obtain ⟨c0, c1, c2, c3, c4, f0, f1, f2, f3, f4⟩ := h.blk.c5
  have hb := h.blk.lt
  have hr := h.rlt
  have hlt := h.lt
  have hbig := h.big
  have b0 : (0 : Int) ≤ (i : Int) := by omega
  have b1 : (i : Int) < (ts.length : Int) := by omega
  have hbl := bl_drew (bl_alloc (bl_refl w) (.cells #[.int .i64 (peek s).kind, .string (peek s).text, .int .i64 (peek s).line, .int .i64 (peek s).col] 61))
  have h1 := h.below hbl
  by_cases hc : s.err ≠ 0 ∨ (peek s).kind ≠ 3
  · have e0 : R.number npV places most s = (0, R.wrong 4 s) := by unfold R.number; rw [if_pos hc]
    rw [e0]
    have hw := wrong_any h1 4
    have hcase : (s.err != 0) = true ∨ ((s.err != 0) = false ∧ ((peek s).kind != 3) = true) := by
      by_cases h0 : s.err = 0
      · right
        rw [h0]
        exact ⟨rfl, bne_iff_ne.2 (hc.resolve_left (fun e => e h0))⟩
      · left; exact bne_iff_ne.2 h0
    generalize R.wrong 4 s = s' at *
    generalize peek s = t at *
    clear e0 hc
    rcases hcase with g0 | ⟨g0, g1⟩
    all_goals
      go_enter Tryd.func39, Tryd.ntmps39
      go_wp2_with fail
      go_region
      go_wp2_with fail
      refine hw.mono ?_
      rintro e w1 ⟨rfl, hP, hF⟩
      go_wp2_with fail
      go_ret
      exact ⟨rfl, ⟨i, hP⟩, (Fr.of_below hbl).trans hF⟩
  · have hc1 : s.err = 0 := Classical.byContradiction fun e => hc (.inl e)
    have hc2 : (peek s).kind = 3 := Classical.byContradiction fun e => hc (.inr e)
    have e0 : R.number npV places most s = ((npV (peek s).text places most).1, drop1 (if (npV (peek s).text places most).2 = 1 then R.wrong 4 s else if (npV (peek s).text places most).2 = 2 then R.wrong 6 s else s)) := by unfold R.number; rw [if_neg hc]
    rw [e0]
    have g0 : (s.err != 0) = false := by rw [hc1]; rfl
    have g1 : ((peek s).kind != 3) = false := by rw [hc2]; simp
    have hsz := h.size
    have hparse := fun v => Dec.rparse_any (peek s).text places most v (by omega)
    have hnp : ∀ v, Calls Tryd.prog 72 #[.string (peek s).text, .int .i64 places, .int .i64 most] v fun e w' => e = .returned (.tuple #[.int .i64 (npV (peek s).text places most).1, .int .i64 (npV (peek s).text places most).2]) ∧ Below v.heap.size v w' := hparse
    clear hparse
    have hk4 : (peek (R.wrong 4 s)).kind ≠ 0 := by unfold R.wrong; rw [peek_fail, hc2]; decide
    have hk6 : (peek (R.wrong 6 s)).kind ≠ 0 := by unfold R.wrong; rw [peek_fail, hc2]; decide
    have hk0 : (peek s).kind ≠ 0 := by rw [hc2]; decide
    have hstep := fun v (h : RAt v b ts r cap i s) => h.step hk0
    have hstep4 := fun v (h : RAt v b ts r cap i (R.wrong 4 s)) => h.step hk4
    have hstep6 := fun v (h : RAt v b ts r cap i (R.wrong 6 s)) => h.step hk6
    have hw := fun v e (h : RAt v b ts r cap i s) => wrong_any h e
    generalize npV (peek s).text places most = n at *
    obtain ⟨n1, n2⟩ := n
    generalize peek s = t at *
    clear e0 hc hc2 hk4 hk6 hk0
    by_cases h1' : n2 = 1
    · subst h1'
      simp only [if_true]
      have hw4 := fun v (h : RAt v b ts r cap i s) => hw v 4 h
      generalize R.wrong 4 s = s' at *
      go_enter Tryd.func39, Tryd.ntmps39
      go_wp2_with fail
      go_region
      go_wp2_with fail
      refine (hnp _).mono ?_
      rintro e w1 ⟨rfl, hb1⟩
      have hP1 := h1.below hb1
      go_wp2_with fail
      refine (hw4 _ hP1).mono ?_
      rintro e w2 ⟨rfl, hP2, hF2⟩
      obtain ⟨d0, d1, d2, d3, d4, e0, e1, e2, e3, e4⟩ := hP2.blk.c5
      have hbb := hP2.blk.lt
      go_wp2_with fail
      go_ret
      exact ⟨rfl, ⟨i + 1, hstep4 _ hP2⟩, (((Fr.of_below hbl).trans (Fr.of_below hb1)).trans hF2).set ⟨b, 1, none⟩ rfl _⟩
    · by_cases h2' : n2 = 2
      · subst h2'
        simp only [if_neg h1', if_true]
        have hw6 := fun v (h : RAt v b ts r cap i s) => hw v 6 h
        generalize R.wrong 6 s = s' at *
        go_enter Tryd.func39, Tryd.ntmps39
        go_wp2_with fail
        go_region
        go_wp2_with fail
        refine (hnp _).mono ?_
        rintro e w1 ⟨rfl, hb1⟩
        have hP1 := h1.below hb1
        go_wp2_with fail
        refine (hw6 _ hP1).mono ?_
        rintro e w2 ⟨rfl, hP2, hF2⟩
        obtain ⟨d0, d1, d2, d3, d4, e0, e1, e2, e3, e4⟩ := hP2.blk.c5
        have hbb := hP2.blk.lt
        go_wp2_with fail
        go_ret
        exact ⟨rfl, ⟨i + 1, hstep6 _ hP2⟩, (((Fr.of_below hbl).trans (Fr.of_below hb1)).trans hF2).set ⟨b, 1, none⟩ rfl _⟩
      · have hz1 : (n2 == 1) = false := beq_eq_false_iff_ne.2 h1'
        have hz2 : (n2 == 2) = false := beq_eq_false_iff_ne.2 h2'
        simp only [if_neg h1', if_neg h2']
        go_enter Tryd.func39, Tryd.ntmps39
        go_wp2_with fail
        go_region
        go_wp2_with fail
        refine (hnp _).mono ?_
        rintro e w1 ⟨rfl, hb1⟩
        have hP1 := h1.below hb1
        obtain ⟨d0, d1, d2, d3, d4, e0, e1, e2, e3, e4⟩ := hP1.blk.c5
        have hbb := hP1.blk.lt
        go_wp2_with fail
        go_ret
        exact ⟨rfl, ⟨i + 1, hstep _ hP1⟩, ((Fr.of_below hbl).trans (Fr.of_below hb1)).set ⟨b, 1, none⟩ rfl _⟩
end Go.Proofs.YtcgkfgklggjmaaaDoor.Par
end
section
namespace Go.Proofs.YtcgkfgklggjmaaaDoor.Par
set_option linter.unusedVariables false
set_option linter.unusedSimpArgs false
open Go.RowKit
/-- what does not change of the program's parser -/
structure TK (ts : List Tok) (cap : Nat) : Prop where
  big : ts.length < 100000
  capb : cap < 9223372036854775808
  ends : ∀ t ∈ ts, t.text.size ≤ 8192
theorem TK.lb {ts : List Tok} {cap : Nat} (h : TK ts cap) : ts.length < 9223372036854775808 := Nat.lt_trans h.big (by decide)
theorem PAt.rlt {w : World} {b : Nat} {ts : List Tok} {r cap i : Nat} {s : St} (h : PAt w b ts r cap i s) : r < w.heap.size := World.block_lt_of_cell? w _ h.tok.1
theorem PAt.putAll {w : World} {b : Nat} {ts : List Tok} {r cap i : Nat} {s : St} (h : PAt w b ts r cap i s) {g : Nat} (hb : b ≠ g) (hr : r ≠ g) (k : Nat) (vs : List Value) : PAt (puts w g k vs) b ts r cap i s :=
  ⟨h.blk.putsFar hb k vs, own_keep h.row (fun x hx => by obtain rfl : r = x := Option.some.inj hx; exact (puts_heap vs w k).1 r hr), h.ne, h.cap_, h.rest, h.lt, h.last, h.ok⟩
theorem PAt.drew {w : World} {b : Nat} {ts : List Tok} {r cap i : Nat} {s : St} (h : PAt w b ts r cap i s) : PAt w.drew b ts r cap i s := h.below (bl_drew (bl_refl _))
theorem PAt.grown {w w' : World} {b : Nat} {ts : List Tok} {r cap i : Nat} {s : St} {row : Option Nat} (h : PAt w b ts r cap i s) (hg : w.grownBy w' row) (h1 : row ≠ some b) (h2 : row ≠ some r) : PAt w' b ts r cap i s :=
  ⟨h.blk.grown hg (fun e => h1 e.symm), own_keep h.row (fun x hx => by obtain rfl : r = x := Option.some.inj hx; exact hg.block r h.rlt (fun e => h2 e.symm)), h.ne, h.cap_, h.rest, h.lt, h.last, h.ok⟩
theorem PAt.len {w : World} {b : Nat} {ts : List Tok} {r cap i : Nat} {s : St} (h : PAt w b ts r cap i s) : len s = ts.length - i := by
  unfold Par.len; rw [h.rest, List.length_drop]
theorem PAt.ksize {w : World} {b : Nat} {ts : List Tok} {r cap i : Nat} {s : St} (h : PAt w b ts r cap i s) (hT : TK ts cap) (k : Int) : (P.kind k s).1.size ≤ 8192 := by
  unfold P.kind
  split
  · exact hT.ends _ (List.mem_of_getElem? h.peek_at)
  · exact Nat.zero_le _
theorem must_step {w : ByteArray} {ws : List ByteArray} {s : St} (h : (P.eat w s).1 = true) : P.must (w :: ws) s = P.must ws (P.eat w s).2 := by rw [P.must, if_pos h]
theorem must_stop {w : ByteArray} {ws : List ByteArray} {s : St} (h : (P.eat w s).1 = false) : P.must (w :: ws) s = fail 4 (peek s) (P.eat w s).2 := by rw [P.must, if_neg (by rw [h]; exact Bool.false_ne_true)]
theorem drop_at {ws : List ByteArray} {k : Nat} {x : ByteArray} (h : ws[k]? = some x) : ws.drop k = x :: ws.drop (k + 1) := by
  obtain ⟨hlt, he⟩ := List.getElem?_eq_some_iff.1 h
  rw [List.drop_eq_getElem_cons hlt, he]
set_option maxHeartbeats 4000000 in
set_option maxRecDepth 100000 in
theorem must_any {w : World} {b : Nat} {ts : List Tok} {r cap i : Nat} {s : St} (h : PAt w b ts r cap i s) (hT : TK ts cap) (g c : Nat) (ws : List ByteArray) (hg : g ≠ b) (hl : Lies strF 9 1 w (.slice (some ⟨g, 0, none⟩) ws.length c) ws) (h0 : ws ≠ []) :
    Calls Tryd.prog 49 #[.pointer (some ⟨b, 0, none⟩), .slice (some ⟨g, 0, none⟩) ws.length c] w fun en w' => en = .returned (tokV (peek s)) ∧ (∃ j, PAt w' b ts r cap j (P.must ws s)) ∧ Fr b w w' := by
  have hcm : ws.length ≤ c ∧ c ≤ maxLen := by
    obtain ⟨_, h2, h3, _⟩ := hl.ends
    exact ⟨h2, h3⟩
  obtain ⟨hc1, hc2⟩ := hcm
  unfold maxLen at hc2
  have hlb := hT.lb
  have hcb := hT.capb
  have hb := h.blk.lt
  have hr := h.rlt
  obtain ⟨M, hM⟩ : ∃ M, M = P.must ws s := ⟨_, rfl⟩
  rw [← hM]
  have HM := Lib.hid (show P.must (ws.drop 0) s = M from hM.symm)
  clear hM
  have hbl := bl_alloc (bl_refl w) (.cells #[.int .i64 0, .string ⟨#[]⟩, .int .i64 0, .int .i64 0] 102)
  have hp := peek_any (h.below hbl) hlb hcb
  have h1 := h.below hbl
  have kz := Blk.new w 102 #[.int .i64 0, .string ⟨#[]⟩, .int .i64 0, .int .i64 0]
  obtain ⟨t, ht⟩ : ∃ t, t = peek s := ⟨_, rfl⟩
  rw [← ht] at hp ⊢
  clear ht
  unfold tokV at hp ⊢
  go_enter Tryd.func49, Tryd.ntmps49
  go_wp2_with fail
  refine hp.mono ?_
  rintro e w1 ⟨rfl, hb1⟩
  have h2 := (h1.below hb1).below (bl_alloc (bl_refl w1) (.cells #[.int .i64 t.kind, .string t.text, .int .i64 t.line, .int .i64 t.col] 102))
  have kz2 := (kz.call hb1).call (bl_alloc (bl_refl w1) (.cells #[.int .i64 t.kind, .string t.text, .int .i64 t.line, .int .i64 t.col] 102))
  have kt := Blk.new w1 102 #[.int .i64 t.kind, .string t.text, .int .i64 t.line, .int .i64 t.col]
  have hF2 := Fr.of_below (b := b) (bl_alloc (bl_call hbl hb1) (.cells #[.int .i64 t.kind, .string t.text, .int .i64 t.line, .int .i64 t.col] 102))
  have hw1 := (bl_call hbl hb1).size
  have hlz := (kz.call hb1).lt
  go_wp2_with fail
  generalize w1.alloc (.cells #[.int .i64 t.kind, .string t.text, .int .i64 t.line, .int .i64 t.col] 102) = w2 at *
  generalize w1.heap.size = F at *
  clear hp hbl h1 kz hb1 hw1
  go_loopw [13] (fun v13 wr => ∃ (k j : Nat) (s' : St), k ≤ ws.length ∧ v13 = .int .i64 k ∧ PAt wr b ts r cap j s' ∧ Fr b w wr ∧ Blk wr F 102 #[.int .i64 t.kind, .string t.text, .int .i64 t.line, .int .i64 t.col] ∧ Blk wr w.heap.size 102 #[.int .i64 0, .string ⟨#[]⟩, .int .i64 0, .int .i64 0] ∧ Hid (P.must (ws.drop k) s' = M)) (fun v13 _ => ws.length - (intOf v13).toNat)
  case atStart => exact ⟨0, i, s, Nat.zero_le _, rfl, h2, hF2, kt, kz2, HM⟩
  case round =>
    obtain ⟨k, j, s', hk, rfl, hP, hFr, kF, kZ, HK⟩ := hrel
    clear h2 hF2 kt kz2 HM
    have hbz := hP.blk.lt
    have hFlt := kF.lt
    by_cases hlt : k < ws.length
    · have hl1 := hFr.lies hl (by intro e; exact hg (Option.some.inj e))
      obtain ⟨x, hx⟩ : ∃ x, ws[k]? = some x := ⟨_, List.getElem?_eq_getElem hlt⟩
      have hcell := hl1.at strF_len hx (j := 0) (u := .string x) rfl
      rw [Nat.mul_one, Nat.add_zero] at hcell
      have hgl := World.block_lt_of_cell? wr _ hcell
      have HDR := Lib.hid (drop_at hx)
      clear hx
      have b0 : (0 : Int) ≤ (k : Int) := by omega
      have b1 : (k : Int) < (ws.length : Int) := by omega
      have hpk := peek_any hP hlb hcb
      have het := fun v (hv : Below wr.heap.size wr v) => eat_any (hP.below hv) hlb hcb x
      have hms := @must_step x (ws.drop (k + 1)) s'
      have hmt := @must_stop x (ws.drop (k + 1)) s'
      have hM1 := HK.out
      rw [HDR.out] at hM1
      rw [hM1] at hms hmt
      clear HK HDR hM1
      unfold tokV at hpk
      generalize peek s' = u at *
      generalize P.eat x s' = y at *
      obtain ⟨y1, y2⟩ := y
      cases y1 with
      | true =>
        have H2 := Lib.hid (hms rfl).symm
        clear hms hmt
        go_wp2_with fail
        refine hpk.mono ?_
        rintro e v1 ⟨rfl, hb1⟩
        have hbb := bl_alloc hb1 (.cells #[.int .i64 u.kind, .string u.text, .int .i64 u.line, .int .i64 u.col] 102)
        go_wp2_with fail
        refine (het _ hbb).mono ?_
        rintro e v2 ⟨rfl, ⟨j2, hP2⟩, hF2⟩
        have hFF := (Fr.of_below (b := b) hbb).trans hF2
        go_wp2_with fail
        go_roundw
        case rel => exact ⟨k + 1, j2, y2, by omega, by go_num, hP2, hFr.trans hFF, hFF.blk kF (by omega), hFF.blk kZ (by omega), H2⟩
        case measure => simp [intOf]; omega
      | false =>
        have hM2 := hmt rfl
        clear hms hmt
        subst hM2
        have hfl := fun v j (h : PAt v b ts r cap j y2) => fail_any h 4 (by decide) u
        unfold tokV at hfl
        go_wp2_with fail
        refine hpk.mono ?_
        rintro e v1 ⟨rfl, hb1⟩
        have hbb := bl_alloc hb1 (.cells #[.int .i64 u.kind, .string u.text, .int .i64 u.line, .int .i64 u.col] 102)
        have ku := Blk.new v1 102 #[.int .i64 u.kind, .string u.text, .int .i64 u.line, .int .i64 u.col]
        have hv1 := hb1.size
        go_wp2_with fail
        refine (het _ hbb).mono ?_
        rintro e v2 ⟨rfl, ⟨j2, hP2⟩, hF2⟩
        have hFF := (Fr.of_below (b := b) hbb).trans hF2
        obtain ⟨z0, z1, z2, z3, _⟩ := (hF2.blk ku (by omega)).c4
        go_wp2_with fail
        refine (hfl _ _ hP2).mono ?_
        rintro e v3 ⟨rfl, hP3, hF3⟩
        have hF4 := hFF.trans hF3
        have kF4 := hF4.blk kF (by omega)
        have kZ4 := hF4.blk kZ (by omega)
        obtain ⟨a0, a1, a2, a3, _⟩ := kF4.c4
        obtain ⟨d0, d1, d2, d3, e0, e1, e2, e3⟩ := kZ4.c4
        have hlv := kZ4.lt
        go_wp2_with fail
        exact bodyPost_ret (results_cell_row rfl _ _ w.heap.size _ #[.int .i64 t.kind, .string t.text, .int .i64 t.line, .int .i64 t.col] (0, 0) _ rfl (kZ4.putAll [_, _, _, _] 0) Tryd.underlying102 rfl (by kernel_rfl)) rfl
          ⟨rfl, ⟨j2, hP3.putAll (g := w.heap.size) (by omega) (by omega) 0 [_, _, _, _]⟩, (hFr.trans hF4).putsNew (Nat.le_refl _) 0 [_, _, _, _]⟩
    · obtain rfl : k = ws.length := by omega
      have hM2 : s' = M := by rw [← HK.out, List.drop_length]; rfl
      clear HK
      subst hM2
      obtain ⟨a0, a1, a2, a3, _⟩ := kF.c4
      obtain ⟨d0, d1, d2, d3, e0, e1, e2, e3⟩ := kZ.c4
      have hlv := kZ.lt
      go_wp2_with fail
      exact bodyPost_ret (results_cell_row rfl _ _ w.heap.size _ #[.int .i64 t.kind, .string t.text, .int .i64 t.line, .int .i64 t.col] (0, 0) _ rfl (kZ.putAll [_, _, _, _] 0) Tryd.underlying102 rfl (by kernel_rfl)) rfl
        ⟨rfl, ⟨j, hP.putAll (g := w.heap.size) (by omega) (by omega) 0 [_, _, _, _]⟩, hFr.putsNew (Nat.le_refl _) 0 [_, _, _, _]⟩
end Go.Proofs.YtcgkfgklggjmaaaDoor.Par
end
section
namespace Go.Proofs.YtcgkfgklggjmaaaDoor.Par
set_option linter.unusedVariables false
set_option linter.unusedSimpArgs false
open Go.RowKit
theorem fault_neq (a b c a' b' c' : Int) (W : World) : (binOp .neq 34 (.agg #[.int .i64 a, .int .i64 b, .int .i64 c]) (.agg #[.int .i64 a', .int .i64 b', .int .i64 c'])).run Tryd.prog W = .ok (.bool (!(a == a' && (b == b' && (c == c' && true))))) W := by
  refine neq_S (fun d => ?_)
  refine eqS_of _ _ _ _ _ _ Tryd.underlying34 (by kernel_rfl) ?_
  refine eqF_cons _ _ _ _ _ (.int .i64 a) (.int .i64 a') _ _ rfl (by go_simp) (by go_simp) (by go_simp) ?_
  refine eqF_cons _ _ _ _ _ (.int .i64 b) (.int .i64 b') _ _ rfl (by go_simp) (by go_simp) (by go_simp) ?_
  refine eqF_cons _ _ _ _ _ (.int .i64 c) (.int .i64 c') _ _ rfl (by go_simp) (by go_simp) (by go_simp) ?_
  exact eqF_nil _ _ _
theorem fault_neq0 {s : St} (hok : s.err = 0 → s.line = 0 ∧ s.col = 0) : ∀ W, (binOp .neq 34 (.agg #[.int .i64 s.err, .int .i64 s.line, .int .i64 s.col]) (.agg #[.int .i64 0, .int .i64 0, .int .i64 0])).run Tryd.prog W = .ok (.bool (s.err != 0)) W := by
  intro W
  rw [fault_neq]
  by_cases h : s.err = 0
  · obtain ⟨h1, h2⟩ := hok h
    rw [h, h1, h2]; rfl
  · have hn : (s.err == 0) = false := beq_eq_false_iff_ne.2 h
    have hn2 : (s.err != 0) = true := bne_iff_ne.2 h
    rw [hn, hn2]; rfl
theorem fault_neq00 (W : World) : (binOp .neq 34 (.agg #[.int .i64 0, .int .i64 0, .int .i64 0]) (.agg #[.int .i64 0, .int .i64 0, .int .i64 0])).run Tryd.prog W = .ok (.bool false) W := fault_neq 0 0 0 0 0 0 W
theorem PAt.calm {w : World} {b : Nat} {ts : List Tok} {r cap i : Nat} {s : St} (h : PAt w b ts r cap i s) (h0 : s.err = 0) : w.cell? ⟨b, 1, none⟩ = some (.int .i64 0) ∧ w.cell? ⟨b, 2, none⟩ = some (.int .i64 0) ∧ w.cell? ⟨b, 3, none⟩ = some (.int .i64 0) := by
  obtain ⟨h1, h2⟩ := h.ok h0
  obtain ⟨c0, c1, c2, c3, _⟩ := h.blk.c4
  rw [h0] at c1
  rw [h1] at c2
  rw [h2] at c3
  exact ⟨c1, c2, c3⟩
theorem DT_fr {w w' : World} {b n c : Nat} {A : Option Addr} (h : Dec.DT w) (hf : Fr b w w') (hb : w.cell? ⟨b, 0, none⟩ = some (.slice A n c)) : Dec.DT w' := by
  have hcell : ∀ g x, w.cell? ⟨g, 0, none⟩ = some x → (∀ A n c, x ≠ .slice A n c) → w'.cell? ⟨g, 0, none⟩ = some x := fun g x hx hne => by
    have hgb : g ≠ b := by
      rintro rfl
      rw [hb] at hx
      exact hne _ _ _ (Option.some.inj hx).symm
    exact (World.cell?_of_block (hf.block g (World.block_lt_of_cell? w _ hx) hgb)).trans hx
  obtain ⟨h1, ⟨m, h2⟩, ⟨ev, h3, h4⟩⟩ := h
  refine ⟨?_, ⟨m, hcell _ _ h2 (fun _ _ _ e => by cases e)⟩, ⟨ev, hcell _ _ h3 (fun A n c e => by subst e; rcases h4 with h4 | ⟨_, _, h4⟩ <;> cases h4), h4⟩⟩
  have h1' : w.var? Tryd.prog "internal/strconv.uint64pow10" = some (Lib.pow10Tab.map fun z => Value.int .u64 z).toArray := h1
  show w'.var? Tryd.prog "internal/strconv.uint64pow10" = some (Lib.pow10Tab.map fun z => Value.int .u64 z).toArray
  unfold World.var? at h1' ⊢
  rw [Dec.gT] at h1' ⊢
  simp only [Option.bind_some] at h1' ⊢
  have hlt : 2 < w.heap.size := by
    rcases Nat.lt_or_ge 2 w.heap.size with h' | h'
    · exact h'
    · rw [Array.getElem?_eq_none h'] at h1'; cases h1'
  have hgb : 2 ≠ b := by
    rintro e
    rw [e] at h1'
    unfold World.cell? at hb
    revert h1' hb
    generalize w.heap[b]? = o
    intro hb h1'
    match o, h1' with
    | some (.cells cs t fr), h1' =>
      have hcs : cs = (Lib.pow10Tab.map fun z => Value.int .u64 z).toArray := Option.some.inj h1'
      subst hcs
      simp [Lib.pow10Tab] at hb
  rw [hf.block _ hlt hgb]
  exact h1'
theorem DT_at {w w' : World} {b : Nat} {ts : List Tok} {r cap i : Nat} {s : St} (hD : Dec.DT w) (h : PAt w b ts r cap i s) (hf : Fr b w w') : Dec.DT w' := DT_fr hD hf h.blk.c4.1
set_option maxHeartbeats 4000000 in
set_option maxRecDepth 100000 in
theorem number_any {w : World} {b : Nat} {ts : List Tok} {r cap i : Nat} {s : St} (h : PAt w b ts r cap i s) (hT : TK ts cap) (hD : Dec.DT w) (places most : Int) :
    Calls Tryd.prog 91 #[.pointer (some ⟨b, 0, none⟩), .int .i64 places, .int .i64 most] w fun en w' => en = .returned (.int .i64 (P.number npV places most s).1) ∧ (∃ j, PAt w' b ts r cap j (P.number npV places most s).2) ∧ Fr b w w' := by
  have hlb := hT.lb
  have hcb := hT.capb
  have hp := peek_any h hlb hcb
  have hk := fun v (hv : Below w.heap.size w v) => kind_any (h.below hv) hlb hcb 3
  have hks := h.ksize hT 3
  have hb := h.blk.lt
  unfold P.number
  simp only
  have hf4 := fun v j s' (h : PAt v b ts r cap j s') => fail_any h 4 (by decide) (peek s)
  have hf6 := fun v j s' (h : PAt v b ts r cap j s') => fail_any h 6 (by decide) (peek s)
  generalize peek s = t at *
  unfold tokV at hp hf4 hf6
  generalize P.kind 3 s = x at *
  obtain ⟨x1, x2⟩ := x
  simp only at hks
  have hdp := fun v (hD : Dec.DT v) => Dec.dparse_any x1 places most v hD (by omega)
  have hnp : ∀ v, Dec.DT v → Calls Tryd.prog 125 #[.string x1, .int .i64 places, .int .i64 most] v fun e w' => e = .returned (.tuple #[.int .i64 (npV x1 places most).1, .int .i64 (npV x1 places most).2]) ∧ Below v.heap.size v w' := hdp
  clear hdp
  simp only at hk
  by_cases h0 : x2.err = 0
  · rw [if_pos h0]
    have hcalm := fun v j (h : PAt v b ts r cap j x2) => h.calm h0
    have hfe := @fault_neq00
    clear h0
    generalize npV x1 places most = n at *
    obtain ⟨n1, n2⟩ := n
    by_cases h1' : n2 = 1
    · subst h1'
      simp only [if_true]
      have hf := fun v j (h : PAt v b ts r cap j x2) => hf4 v j x2 h
      generalize fail 4 t x2 = x3 at *
      clear hf4 hf6
      go_enter Tryd.func91, Tryd.ntmps91
      go_wp2_with fail
      refine hp.mono ?_
      rintro e w1 ⟨rfl, hb1⟩
      have kx := Blk.new w1 102 #[.int .i64 t.kind, .string t.text, .int .i64 t.line, .int .i64 t.col]
      have hbb := bl_alloc hb1 (.cells #[.int .i64 t.kind, .string t.text, .int .i64 t.line, .int .i64 t.col] 102)
      have hw1 := hb1.size
      go_wp2_with fail
      refine (hk _ hbb).mono ?_
      rintro e w2 ⟨rfl, ⟨j2, hP2⟩, hF2⟩
      have hFF := (Fr.of_below (b := b) hbb).trans hF2
      have hD2 := DT_at hD h hFF
      have hbb2 := hP2.blk.lt
      obtain ⟨c1, c2, c3⟩ := hcalm _ _ hP2
      have kx2 := hF2.blk kx (by omega)
      go_wp2_with fail
      refine (hnp _ hD2).mono ?_
      rintro e w3 ⟨rfl, hb3⟩
      obtain ⟨z0, z1, z2, z3, _⟩ := (kx2.call hb3).c4
      go_wp2_with fail
      refine (hf _ _ (hP2.below hb3)).mono ?_
      rintro e w4 ⟨rfl, hP4, hF4⟩
      go_wp2_with fail
      go_ret
      exact ⟨rfl, ⟨j2, hP4⟩, (hFF.trans (Fr.of_below hb3)).trans hF4⟩
    · by_cases h2' : n2 = 2
      · subst h2'
        simp only [if_neg h1', if_true]
        have hf := fun v j (h : PAt v b ts r cap j x2) => hf6 v j x2 h
        generalize fail 6 t x2 = x3 at *
        clear hf4 hf6
        go_enter Tryd.func91, Tryd.ntmps91
        go_wp2_with fail
        refine hp.mono ?_
        rintro e w1 ⟨rfl, hb1⟩
        have kx := Blk.new w1 102 #[.int .i64 t.kind, .string t.text, .int .i64 t.line, .int .i64 t.col]
        have hbb := bl_alloc hb1 (.cells #[.int .i64 t.kind, .string t.text, .int .i64 t.line, .int .i64 t.col] 102)
        have hw1 := hb1.size
        go_wp2_with fail
        refine (hk _ hbb).mono ?_
        rintro e w2 ⟨rfl, ⟨j2, hP2⟩, hF2⟩
        have hFF := (Fr.of_below (b := b) hbb).trans hF2
        have hD2 := DT_at hD h hFF
        have hbb2 := hP2.blk.lt
        obtain ⟨c1, c2, c3⟩ := hcalm _ _ hP2
        have kx2 := hF2.blk kx (by omega)
        go_wp2_with fail
        refine (hnp _ hD2).mono ?_
        rintro e w3 ⟨rfl, hb3⟩
        obtain ⟨z0, z1, z2, z3, _⟩ := (kx2.call hb3).c4
        go_wp2_with fail
        refine (hf _ _ (hP2.below hb3)).mono ?_
        rintro e w4 ⟨rfl, hP4, hF4⟩
        go_wp2_with fail
        go_ret
        exact ⟨rfl, ⟨j2, hP4⟩, (hFF.trans (Fr.of_below hb3)).trans hF4⟩
      · have hz1 : (n2 == 1) = false := beq_eq_false_iff_ne.2 h1'
        have hz2 : (n2 == 2) = false := beq_eq_false_iff_ne.2 h2'
        simp only [if_neg h1', if_neg h2']
        clear hf4 hf6
        go_enter Tryd.func91, Tryd.ntmps91
        go_wp2_with fail
        refine hp.mono ?_
        rintro e w1 ⟨rfl, hb1⟩
        have hbb := bl_alloc hb1 (.cells #[.int .i64 t.kind, .string t.text, .int .i64 t.line, .int .i64 t.col] 102)
        go_wp2_with fail
        refine (hk _ hbb).mono ?_
        rintro e w2 ⟨rfl, ⟨j2, hP2⟩, hF2⟩
        have hFF := (Fr.of_below (b := b) hbb).trans hF2
        have hD2 := DT_at hD h hFF
        have hbb2 := hP2.blk.lt
        obtain ⟨c1, c2, c3⟩ := hcalm _ _ hP2
        go_wp2_with fail
        refine (hnp _ hD2).mono ?_
        rintro e w3 ⟨rfl, hb3⟩
        go_wp2_with fail
        go_ret
        exact ⟨rfl, ⟨j2, hP2.below hb3⟩, hFF.trans (Fr.of_below hb3)⟩
  · rw [if_neg h0]
    have g0 : (x2.err != 0) = true := bne_iff_ne.2 h0
    clear hf4 hf6 hnp
    go_enter Tryd.func91, Tryd.ntmps91
    go_wp2_with fail
    refine hp.mono ?_
    rintro e w1 ⟨rfl, hb1⟩
    have hbb := bl_alloc hb1 (.cells #[.int .i64 t.kind, .string t.text, .int .i64 t.line, .int .i64 t.col] 102)
    go_wp2_with fail
    refine (hk _ hbb).mono ?_
    rintro e w2 ⟨rfl, ⟨j2, hP2⟩, hF2⟩
    have hFF := (Fr.of_below (b := b) hbb).trans hF2
    obtain ⟨c0, c1, c2, c3, _⟩ := hP2.blk.c4
    have hfe := fault_neq0 hP2.ok
    rw [g0] at hfe
    go_wp2_with fail
    go_ret
    exact ⟨rfl, ⟨j2, hP2⟩, hFF⟩
end Go.Proofs.YtcgkfgklggjmaaaDoor.Par
end
section
namespace Go.Proofs.YtcgkfgklggjmaaaDoor.Par
set_option linter.unusedVariables false
set_option linter.unusedSimpArgs false
open Go.RowKit
set_option maxHeartbeats 4000000 in
set_option maxRecDepth 100000 in
theorem window_any {w : World} {b : Nat} {ts : List Tok} {r cap i : Nat} {s : St} (h : PAt w b ts r cap i s) (hT : TK ts cap) :
    Calls Tryd.prog 92 #[.pointer (some ⟨b, 0, none⟩)] w fun en w' => en = .returned (winV (P.window dp s).1) ∧ (∃ j, PAt w' b ts r cap j (P.window dp s).2) ∧ Fr b w w' := by
  have hlb := hT.lb
  have hcb := hT.capb
  have hbl := bl_alloc (bl_refl w) (.cells #[.bool false, .int .i64 0, .int .i64 0, .int .i64 0, .int .i64 0, .int .i64 0, .int .i64 0] 46)
  have ht := eat_any (h.below hbl) hlb hcb wFrom
  have hb := h.blk.lt
  have hr := h.rlt
  have kr := Blk.new w 46 #[.bool false, .int .i64 0, .int .i64 0, .int .i64 0, .int .i64 0, .int .i64 0, .int .i64 0]
  unfold P.window
  simp only
  generalize P.eat wFrom s = x at *
  obtain ⟨x1, x2⟩ := x
  cases x1 with
  | false =>
    simp only [Bool.false_eq_true, if_false]
    go_enter Tryd.func92, Tryd.ntmps92
    go_wp2_with fail
    refine ht.mono ?_
    rintro e w1 ⟨rfl, ⟨j, hP⟩, hF⟩
    have kr1 := hF.blk kr (by omega)
    have hF1 := (Fr.of_below (b := b) hbl).trans hF
    obtain ⟨d0, d1, d2, d3, d4, d5, d6, g0, g1, g2, g3, g4, g5, g6⟩ := kr1.c7
    have hlr := kr1.lt
    go_wp2_with fail
    exact bodyPost_ret (results_cell_row rfl _ _ w.heap.size _ #[.bool false, .int .i64 0, .int .i64 0, .int .i64 0, .int .i64 0, .int .i64 0, .int .i64 0] (0, 0) _ rfl (kr1.putAll [_, _, _, _, _, _, _] 0) Tryd.underlying46 rfl (by kernel_rfl)) rfl
      ⟨rfl, ⟨j, hP.putAll (g := w.heap.size) (by omega) (by omega) 0 [_, _, _, _, _, _, _]⟩, hF1.putsNew (Nat.le_refl _) 0 [_, _, _, _, _, _, _]⟩
  | true =>
    simp only [if_true]
    have hd := fun v i (h : PAt v b ts r cap i x2) => day_any h hlb hcb
    generalize P.day dp x2 = y at *
    obtain ⟨y1, y2⟩ := y
    have hw := fun v i (h : PAt v b ts r cap i y2) g (hg : g ≠ b) (hl : Lies strF 9 1 v (.slice (some ⟨g, 0, none⟩) 1 1) [wTo]) => must_any h hT g 1 [wTo] hg hl (by simp)
    simp only [List.length_cons, List.length_nil, Nat.zero_add] at hw
    generalize P.must [wTo] y2 = s3 at *
    generalize peek y2 = t0 at *
    have hd4 := fun v i (h : PAt v b ts r cap i s3) => day_any h hlb hcb
    generalize P.day dp s3 = z at *
    obtain ⟨z1, z2⟩ := z
    unfold dayV at hd hd4
    unfold tokV at hw
    go_enter Tryd.func92, Tryd.ntmps92
    go_wp2_with fail
    refine ht.mono ?_
    rintro e w1 ⟨rfl, ⟨j, hP⟩, hF⟩
    have kr1 := hF.blk kr (by omega)
    have hF1 := (Fr.of_below (b := b) hbl).trans hF
    go_wp2_with fail
    refine (hd _ _ hP).mono ?_
    rintro e w2 ⟨rfl, ⟨j2, hP2⟩, hF2⟩
    have kr2 := hF2.blk kr1 (by omega)
    have hF02 := hF1.trans hF2
    have hbl2 := bl_alloc (bl_alloc (bl_refl w2) (.cells #[.bool true, .int .i64 y1.1, .int .i64 y1.2.1, .int .i64 y1.2.2, .int .i64 0, .int .i64 0, .int .i64 0] 46)) (.cells #[.string wTo] 9)
    have kf := (Blk.new w2 46 #[.bool true, .int .i64 y1.1, .int .i64 y1.2.1, .int .i64 y1.2.2, .int .i64 0, .int .i64 0, .int .i64 0]).alloc (.cells #[.string wTo] 9)
    have kg := Blk.new (w2.alloc (.cells #[.bool true, .int .i64 y1.1, .int .i64 y1.2.1, .int .i64 y1.2.2, .int .i64 0, .int .i64 0, .int .i64 0] 46)) 9 #[.string wTo]
    rw [World.size_alloc] at kg
    have kr3 := kr2.call hbl2
    have hP3 := hP2.below hbl2
    have hl2 := kr2.lt
    have hbb2 := hP2.blk.lt
    have hrr2 := hP2.rlt
    go_wp2_with fail
    refine (hw _ _ hP3 (w2.heap.size + 1) (by omega) (strs_blk kg rfl rfl rfl (Nat.le_refl _) (by decide))).mono ?_
    rintro e w4 ⟨rfl, ⟨j4, hP4⟩, hF4⟩
    have kf4 := hF4.blk kf (by omega)
    have kr4 := hF4.blk kr3 (by omega)
    have hF04 := (hF02.trans (Fr.of_below hbl2)).trans hF4
    go_wp2_with fail
    refine (hd4 _ _ hP4).mono ?_
    rintro e w5 ⟨rfl, ⟨j5, hP5⟩, hF5⟩
    have kf5 := hF5.blk kf4 (by omega)
    have kr5 := hF5.blk kr4 (by omega)
    have hF05 := hF04.trans hF5
    obtain ⟨f0, f1, f2, f3, f4, f5, f6, e0, e1, e2, e3, e4, e5, e6⟩ := kf5.c7
    obtain ⟨d0, d1, d2, d3, d4, d5, d6, g0, g1, g2, g3, g4, g5, g6⟩ := kr5.c7
    have hlf := kf5.lt
    have hlr := kr5.lt
    have h6 := hP5.putAll (g := w2.heap.size) (by omega) (by omega) 4 [.int .i64 z1.1, .int .i64 z1.2.1, .int .i64 z1.2.2]
    have k6 := kr5.putsFar (g' := w2.heap.size) (by omega) 4 [.int .i64 z1.1, .int .i64 z1.2.1, .int .i64 z1.2.2]
    have hF6 := hF05.putsNew (g := w2.heap.size) (by omega) 4 [.int .i64 z1.1, .int .i64 z1.2.1, .int .i64 z1.2.2]
    go_wp2_with fail
    exact bodyPost_ret (results_cell_row rfl _ _ w.heap.size _ #[.bool true, .int .i64 y1.1, .int .i64 y1.2.1, .int .i64 y1.2.2, .int .i64 z1.1, .int .i64 z1.2.1, .int .i64 z1.2.2] (0, 0) _ rfl (k6.putAll [_, _, _, _, _, _, _] 0) Tryd.underlying46 rfl (by kernel_rfl)) rfl
      ⟨rfl, ⟨j5, h6.putAll (g := w.heap.size) (by omega) (by omega) 0 [_, _, _, _, _, _, _]⟩, hF6.putsNew (Nat.le_refl _) 0 [_, _, _, _, _, _, _]⟩
set_option maxHeartbeats 2000000 in
set_option maxRecDepth 100000 in
theorem modes_any (w : World) : Calls Tryd.prog 152 #[] w fun e w' => e = .returned (.agg #[.string wFloor, .string wCeil, .string wHalfup, .string wHalfeven]) ∧ Below w.heap.size w w' := by
  have k0 := Blk.new w 125 #[.string ⟨#[]⟩, .string ⟨#[]⟩, .string ⟨#[]⟩, .string ⟨#[]⟩]
  go_enter Tryd.func152, Tryd.ntmps152
  go_wp2_with fail
  exact bodyPost_ret (results_cell_row rfl _ _ w.heap.size _ #[.string wFloor, .string wCeil, .string wHalfup, .string wHalfeven] (0, 0) _ rfl (Blk.new w _ _) Tryd.underlying125 rfl (by kernel_rfl)) rfl ⟨rfl, bl_alloc (bl_refl w) _⟩
theorem pone_drop (w : ByteArray) (ws : List ByteArray) (i : Int) (s : St) (h : (P.eat w s).1 = false) : P.one (w :: ws) i s = P.one ws (i + 1) s := by
  rw [P.one, if_neg (by rw [h]; exact Bool.false_ne_true), eat_no h]
theorem pone_hit (w : ByteArray) (ws : List ByteArray) (i : Int) (s : St) (h : (P.eat w s).1 = true) : P.one (w :: ws) i s = (i, (P.eat w s).2) := by
  rw [P.one, if_pos h]
set_option maxHeartbeats 4000000 in
set_option maxRecDepth 100000 in
theorem mode_any {w : World} {b : Nat} {ts : List Tok} {r cap i : Nat} {s : St} (h : PAt w b ts r cap i s) (hT : TK ts cap) :
    Calls Tryd.prog 127 #[.pointer (some ⟨b, 0, none⟩)] w fun en w' => en = .returned (.int .i64 (P.mode s).1) ∧ (∃ j, PAt w' b ts r cap j (P.mode s).2) ∧ Fr b w w' := by
  have hlb := hT.lb
  have hcb := hT.capb
  obtain ⟨M, hM⟩ : ∃ M, M = P.mode s := ⟨_, rfl⟩
  rw [← hM]
  have HM := Lib.hid hM
  clear hM
  go_enter Tryd.func127, Tryd.ntmps127
  go_wp2_with fail
  refine (modes_any _).mono ?_
  rintro e w0 ⟨rfl, hb0⟩
  go_wp2_with fail
  go_loopw [6] (fun v6 wr => ∃ k j : Nat, k ≤ 4 ∧ v6 = .int .i64 k ∧ PAt wr b ts r cap j s ∧ Fr b w wr ∧ Hid (P.one [wFloor, wCeil, wHalfup, wHalfeven] 0 s = P.one ([wFloor, wCeil, wHalfup, wHalfeven].drop k) (k : Int) s)) (fun v6 _ => 4 - (intOf v6).toNat)
  case atStart => exact ⟨0, i, by omega, rfl, h.below hb0, Fr.of_below hb0, by show _ = _; rfl⟩
  case round =>
    obtain ⟨k, j, hk, rfl, hP, hFr, HK⟩ := hrel
    have hpk := peek_any hP hlb hcb
    have hfl := fun v j (h : PAt v b ts r cap j s) => fail_any h 4 (by decide) (peek s)
    have hcase : k = 0 ∨ k = 1 ∨ k = 2 ∨ k = 3 ∨ k = 4 := by omega
    have hgo : ∀ (x : ByteArray) (ws : List ByteArray), Hid (P.one [wFloor, wCeil, wHalfup, wHalfeven] 0 s = P.one (x :: ws) (k : Int) s) → (P.eat x s).1 = true → 0 ≤ (k : Int) → M = ((k : Int), (P.eat x s).2) := fun x ws H ht h0 => by
      rw [HM.out]
      unfold P.mode
      rw [H.out, pone_hit _ _ _ _ ht]
      simp only
      rw [if_neg (by omega)]
    have hend : Hid (P.one [wFloor, wCeil, wHalfup, wHalfeven] 0 s = P.one [] (k : Int) s) → M = (0, fail 4 (peek s) s) := fun H => by
      rw [HM.out]
      unfold P.mode
      rw [H.out]
      rfl
    have hstep : ∀ (x : ByteArray) (ws : List ByteArray), Hid (P.one [wFloor, wCeil, wHalfup, wHalfeven] 0 s = P.one (x :: ws) (k : Int) s) → (P.eat x s).1 = false → Hid (P.one [wFloor, wCeil, wHalfup, wHalfeven] 0 s = P.one ws ((k + 1 : Nat) : Int) s) := fun x ws H ht => by
      show _ = _
      rw [H.out, pone_drop _ _ _ _ ht]; rfl
    rcases hcase with rfl | rfl | rfl | rfl | rfl
    case inr.inr.inr.inr =>
      have hM2 := hend HK
      clear HK hgo hend HM
      subst hM2
      unfold tokV at hpk hfl
      go_wp2_with fail
      refine hpk.mono ?_
      rintro e v1 ⟨rfl, hb1⟩
      go_wp2_with fail
      refine (hfl _ _ (hP.below hb1)).mono ?_
      rintro e v2 ⟨rfl, hP2, hF2⟩
      go_wp2_with fail
      go_ret
      exact ⟨rfl, ⟨j, hP2⟩, (hFr.trans (Fr.of_below hb1)).trans hF2⟩
    case inl =>
      have het := eat_any hP hlb hcb wFloor
      have hix : ∀ W, (Instr.index 125 (.agg #[.string wFloor, .string wCeil, .string wHalfup, .string wHalfeven]) (.int .i64 0)).run Tryd.prog W = .ok (.string wFloor) W := fun _ => by kernel_rfl
      have hM1 := hgo wFloor [wCeil, wHalfup, wHalfeven] HK
      have HN := hstep wFloor [wCeil, wHalfup, wHalfeven] HK
      clear HK hgo hend hstep hpk hfl HM
      cases hc : (P.eat wFloor s).1 with
      | true =>
        have hM2 := hM1 hc (by decide)
        rw [hc] at het
        clear hM1 HN
        subst hM2
        go_wp2_with fail
        refine het.mono ?_
        rintro e v1 ⟨rfl, hP1, hF1⟩
        go_wp2_with fail
        go_ret
        exact ⟨rfl, hP1, hFr.trans hF1⟩
      | false =>
        have HN2 := HN hc
        rw [hc, eat_no hc] at het
        clear hM1 HN
        go_wp2_with fail
        refine het.mono ?_
        rintro e v1 ⟨rfl, ⟨j1, hP1⟩, hF1⟩
        go_wp2_with fail
        go_roundw
        case rel => exact ⟨1, j1, by omega, by go_num, hP1, hFr.trans hF1, HN2⟩
        case measure => simp [intOf]
    case inr.inl =>
      have het := eat_any hP hlb hcb wCeil
      have hix : ∀ W, (Instr.index 125 (.agg #[.string wFloor, .string wCeil, .string wHalfup, .string wHalfeven]) (.int .i64 1)).run Tryd.prog W = .ok (.string wCeil) W := fun _ => by kernel_rfl
      have hM1 := hgo wCeil [wHalfup, wHalfeven] HK
      have HN := hstep wCeil [wHalfup, wHalfeven] HK
      clear HK hgo hend hstep hpk hfl HM
      cases hc : (P.eat wCeil s).1 with
      | true =>
        have hM2 := hM1 hc (by decide)
        rw [hc] at het
        clear hM1 HN
        subst hM2
        go_wp2_with fail
        refine het.mono ?_
        rintro e v1 ⟨rfl, hP1, hF1⟩
        go_wp2_with fail
        go_ret
        exact ⟨rfl, hP1, hFr.trans hF1⟩
      | false =>
        have HN2 := HN hc
        rw [hc, eat_no hc] at het
        clear hM1 HN
        go_wp2_with fail
        refine het.mono ?_
        rintro e v1 ⟨rfl, ⟨j1, hP1⟩, hF1⟩
        go_wp2_with fail
        go_roundw
        case rel => exact ⟨2, j1, by omega, by go_num, hP1, hFr.trans hF1, HN2⟩
        case measure => simp [intOf]
    case inr.inr.inl =>
      have het := eat_any hP hlb hcb wHalfup
      have hix : ∀ W, (Instr.index 125 (.agg #[.string wFloor, .string wCeil, .string wHalfup, .string wHalfeven]) (.int .i64 2)).run Tryd.prog W = .ok (.string wHalfup) W := fun _ => by kernel_rfl
      have hM1 := hgo wHalfup [wHalfeven] HK
      have HN := hstep wHalfup [wHalfeven] HK
      clear HK hgo hend hstep hpk hfl HM
      cases hc : (P.eat wHalfup s).1 with
      | true =>
        have hM2 := hM1 hc (by decide)
        rw [hc] at het
        clear hM1 HN
        subst hM2
        go_wp2_with fail
        refine het.mono ?_
        rintro e v1 ⟨rfl, hP1, hF1⟩
        go_wp2_with fail
        go_ret
        exact ⟨rfl, hP1, hFr.trans hF1⟩
      | false =>
        have HN2 := HN hc
        rw [hc, eat_no hc] at het
        clear hM1 HN
        go_wp2_with fail
        refine het.mono ?_
        rintro e v1 ⟨rfl, ⟨j1, hP1⟩, hF1⟩
        go_wp2_with fail
        go_roundw
        case rel => exact ⟨3, j1, by omega, by go_num, hP1, hFr.trans hF1, HN2⟩
        case measure => simp [intOf]
    case inr.inr.inr.inl =>
      have het := eat_any hP hlb hcb wHalfeven
      have hix : ∀ W, (Instr.index 125 (.agg #[.string wFloor, .string wCeil, .string wHalfup, .string wHalfeven]) (.int .i64 3)).run Tryd.prog W = .ok (.string wHalfeven) W := fun _ => by kernel_rfl
      have hM1 := hgo wHalfeven [] HK
      have HN := hstep wHalfeven [] HK
      clear HK hgo hend hstep hpk hfl HM
      cases hc : (P.eat wHalfeven s).1 with
      | true =>
        have hM2 := hM1 hc (by decide)
        rw [hc] at het
        clear hM1 HN
        subst hM2
        go_wp2_with fail
        refine het.mono ?_
        rintro e v1 ⟨rfl, hP1, hF1⟩
        go_wp2_with fail
        go_ret
        exact ⟨rfl, hP1, hFr.trans hF1⟩
      | false =>
        have HN2 := HN hc
        rw [hc, eat_no hc] at het
        clear hM1 HN
        go_wp2_with fail
        refine het.mono ?_
        rintro e v1 ⟨rfl, ⟨j1, hP1⟩, hF1⟩
        go_wp2_with fail
        go_roundw
        case rel => exact ⟨4, j1, by omega, by go_num, hP1, hFr.trans hF1, HN2⟩
        case measure => simp [intOf]
end Go.Proofs.YtcgkfgklggjmaaaDoor.Par
end
section
namespace Go.Proofs.YtcgkfgklggjmaaaDoor.Par
set_option linter.unusedVariables false
set_option linter.unusedSimpArgs false
open Go.RowKit
/-- how many tokens are left to the program's parser -/
def leftOf (w : World) (b : Nat) : Nat := match w.cell? ⟨b, 0, none⟩ with | some (.slice _ n _) => n | _ => 0
theorem leftOf_eq {w : World} {b : Nat} {ts : List Tok} {r cap i : Nat} {s : St} (h : PAt w b ts r cap i s) : leftOf w b = len s := by
  rw [h.len]
  simp [leftOf, h.blk.c4.1]
/-- the one word's slice -/
theorem lies1 {w : World} (x : ByteArray) : Lies strF 9 1 (w.alloc (.cells #[.string x] 9)) (.slice (some ⟨w.heap.size, 0, none⟩) 1 1) [x] := strs_blk (Blk.new w _ _) rfl rfl rfl (Nat.le_refl _) (by decide)
theorem lies2 {w : World} (x y : ByteArray) : Lies strF 9 1 (w.alloc (.cells #[.string x, .string y] 9)) (.slice (some ⟨w.heap.size, 0, none⟩) 2 2) [x, y] := strs_blk (Blk.new w _ _) rfl rfl rfl (Nat.le_refl _) (by decide)
theorem must1 {w : World} {b : Nat} {ts : List Tok} {r cap i : Nat} {s : St} (h : PAt w b ts r cap i s) (hT : TK ts cap) (x : ByteArray) (B : Nat) (hB : w.heap.size = B) :
    Calls Tryd.prog 49 #[.pointer (some ⟨b, 0, none⟩), .slice (some ⟨B, 0, none⟩) 1 1] (w.alloc (.cells #[.string x] 9)) fun en w' => en = .returned (tokV (peek s)) ∧ (∃ j, PAt w' b ts r cap j (P.must [x] s)) ∧ Fr b w w' := by
  subst hB
  exact (must_any (h.below (bl_alloc (bl_refl w) _)) hT w.heap.size 1 [x] (by have := h.blk.lt; omega) (lies1 x) (by simp)).mono fun e w' ⟨h1, h2, h3⟩ => ⟨h1, h2, (Fr.of_below (bl_alloc (bl_refl w) _)).trans h3⟩
theorem must2 {w : World} {b : Nat} {ts : List Tok} {r cap i : Nat} {s : St} (h : PAt w b ts r cap i s) (hT : TK ts cap) (x y : ByteArray) (B : Nat) (hB : w.heap.size = B) :
    Calls Tryd.prog 49 #[.pointer (some ⟨b, 0, none⟩), .slice (some ⟨B, 0, none⟩) 2 2] (w.alloc (.cells #[.string x, .string y] 9)) fun en w' => en = .returned (tokV (peek s)) ∧ (∃ j, PAt w' b ts r cap j (P.must [x, y] s)) ∧ Fr b w w' := by
  subst hB
  exact (must_any (h.below (bl_alloc (bl_refl w) _)) hT w.heap.size 2 [x, y] (by have := h.blk.lt; omega) (lies2 x y) (by simp)).mono fun e w' ⟨h1, h2, h3⟩ => ⟨h1, h2, (Fr.of_below (bl_alloc (bl_refl w) _)).trans h3⟩
set_option maxHeartbeats 8000000 in
set_option maxRecDepth 100000 in
theorem tiers_any {w : World} {b : Nat} {ts : List Tok} {r cap i : Nat} {s : St} (h : PAt w b ts r cap i s) (hT : TK ts cap) (hD : Dec.DT w) :
    Calls Tryd.prog 126 #[.pointer (some ⟨b, 0, none⟩)] w fun en w' => ∃ tv, en = .returned tv ∧ w'.ownsRow w.heap.size 119 2 tv (P.tiers npV s).1.length ((P.tiers npV s).1.flatMap tierF) ∧ (∃ j, PAt w' b ts r cap j (P.tiers npV s).2) ∧ Fr b w w' := by
  have hlb := hT.lb
  have hcb := hT.capb
  have hbig := hT.big
  have hb := h.blk.lt
  have hr := h.rlt
  unfold P.tiers
  simp only
  have hm := fun v i (h : PAt v b ts r cap i s) => must1 h hT wOpen
  generalize P.must [wOpen] s = m at *
  generalize peek s = tk0 at *
  have htl : P.tierLoop npV m.rest.length [] m = P.tierAll npV [] m := rfl
  rw [htl]
  clear htl
  obtain ⟨L, hL⟩ : ∃ L, L = P.tierAll npV [] m := ⟨_, rfl⟩
  rw [← hL]
  obtain ⟨l1, l2⟩ := L
  have HL := Lib.hid hL.symm
  clear hL
  simp only
  have hmr := fun v i (h : PAt v b ts r cap i l2) => must2 h hT wRest wRate
  generalize P.must [wRest, wRate] l2 = q1 at *
  generalize peek l2 = tk1 at *
  have hnr := fun v i (h : PAt v b ts r cap i q1) (hD : Dec.DT v) => number_any h hT hD 6 1000000000000
  generalize P.number npV 6 1000000000000 q1 = nr at *
  obtain ⟨nr1, nr2⟩ := nr
  simp only at hnr
  have hmz := fun v i (h : PAt v b ts r cap i nr2) => must2 h hT wSemi wClose
  simp only
  generalize P.must [wSemi, wClose] nr2 = q2 at *
  generalize peek nr2 = tk2 at *
  obtain ⟨i0, hi0, hz0, hz1, hz2⟩ := info_parts tierInfo
  unfold tokV at hm hmr hmz
  go_enter Tryd.func126, Tryd.ntmps126
  go_wp2_with fail
  refine (hm _ _ h _ rfl).mono ?_
  rintro e w1 ⟨rfl, ⟨j1, hP1⟩, hF1⟩
  have hD1 := DT_at hD h hF1
  have hlm : len m ≤ 100000 := by rw [hP1.len]; omega
  clear hm
  go_wp2_with fail
  go_loopw [3] (fun v3 wr => ∃ (acc : List Tier) (s' : St) (j : Nat), PAt wr b ts r cap j s' ∧ Fr b w wr ∧ wr.ownsRow w.heap.size 119 2 v3 acc.length (acc.flatMap tierF) ∧ acc.length + len s' ≤ 100000 ∧ Hid (P.tierAll npV acc s' = (l1, l2))) (fun _ wr => leftOf wr b)
  case atStart => exact ⟨[], m, j1, hP1, hF1, World.ownsRow_nil _ _ _ _, by simpa using hlm, HL⟩
  case round =>
    obtain ⟨acc, s', j, hP, hFr, hown, hlen, HK⟩ := hrel
    clear HL hlm hP1 hF1 hD1
    have hmea := leftOf_eq hP
    have hsz0 := hFr.size
    have heu := eat_any hP hlb hcb wUpto
    obtain ⟨A, c3, rfl, hcl, hcm, hA⟩ := Lies.open (f := tierF) (l := acc) (Lies.of hown)
    unfold maxLen at hcm
    have hneb : ∀ x, x < w.heap.size → (Value.slice A acc.length c3).ownBlock ≠ some x := fun x hx e => by have := (hown.lt x e).1; omega
    cases hc : (P.eat wUpto s').1 with
    | true =>
      have hst := tierAll_step npV (acc := acc) hc
      have hle := tier_round npV hc
      rw [HK.out] at hst
      rw [hc] at heu
      clear HK hc
      generalize P.eat wUpto s' = u at *
      obtain ⟨u1, u2⟩ := u
      have hnu := fun v i (h : PAt v b ts r cap i u2) (hD : Dec.DT v) => number_any h hT hD 0 1000000
      simp only at hst hle
      generalize P.number npV 0 1000000 u2 = nu at *
      obtain ⟨nu1, nu2⟩ := nu
      have hwu := fun v i (h : PAt v b ts r cap i nu2) => must1 h hT wRate
      simp only at hst hle hnu
      generalize P.must [wRate] nu2 = wu at *
      generalize peek nu2 = tk3 at *
      have hnt := fun v i (h : PAt v b ts r cap i wu) (hD : Dec.DT v) => number_any h hT hD 6 1000000000000
      generalize P.number npV 6 1000000000000 wu = nt at *
      obtain ⟨nt1, nt2⟩ := nt
      have hsu := fun v i (h : PAt v b ts r cap i nt2) => must1 h hT wSemi
      simp only at hst hle hnt
      generalize P.must [wSemi] nt2 = su at *
      generalize peek nt2 = tk4 at *
      have HK2 := Lib.hid hst.symm
      clear hst hmr hnr hmz
      unfold tokV at hwu hsu
      go_wp2_with fail
      refine heu.mono ?_
      rintro e v1 ⟨rfl, ⟨p1, hP1⟩, hF1⟩
      have F1 := hFr.trans hF1
      have o1 := own_fr hown hF1 hb
      go_wp2_with fail
      refine (hnu _ _ hP1 (DT_at hD h F1)).mono ?_
      rintro e v2 ⟨rfl, ⟨p2, hP2⟩, hF2⟩
      have F2 := F1.trans hF2
      have o2 := own_fr o1 hF2 hb
      have kt := Blk.new v2 119 #[.int .i64 nu1, .int .i64 0]
      have hb2 := bl_alloc (bl_refl v2) (.cells #[.int .i64 nu1, .int .i64 0] 119)
      have hP2b := hP2.below hb2
      have hbv := hP2.blk.lt
      have hrv := hP2.rlt
      have hsz2 := F2.size
      have o3 := o2.alloc (.cells #[.int .i64 nu1, .int .i64 0] 119)
      have hne3 : (Value.slice A acc.length c3).ownBlock ≠ some v2.heap.size := fun e => by have := (o2.lt _ e).2; omega
      go_wp2_with fail
      refine (hwu _ _ hP2b _ (by simp)).mono ?_
      rintro e v3 ⟨rfl, ⟨p3, hP3⟩, hF3⟩
      have F3 := (F2.trans (Fr.of_below hb2)).trans hF3
      have o4 := own_fr o3 hF3 hb
      have kt3 := hF3.blk kt (by omega)
      go_wp2_with fail
      refine (hnt _ _ hP3 (DT_at hD h F3)).mono ?_
      rintro e v4 ⟨rfl, ⟨p4, hP4⟩, hF4⟩
      have F4 := F3.trans hF4
      have o5 := own_fr o4 hF4 hb
      have kt4 := hF4.blk kt3 (by omega)
      obtain ⟨d0, d1, g0, g1⟩ := kt4.c2
      have hlt4 := kt4.lt
      have hP5 := hP4.putAll (g := v2.heap.size) (by omega) (by omega) 1 [.int .i64 nt1]
      have F5 := F4.putsNew (g := v2.heap.size) hsz2 1 [.int .i64 nt1]
      have kt5 := kt4.putAll [.int .i64 nt1] 1
      have o6 := own_put o5 hne3 1 [.int .i64 nt1]
      go_wp2_with fail
      refine (hsu _ _ hP5 _ (by simp [puts, World.setCell])).mono ?_
      rintro e v6 ⟨rfl, ⟨p6, hP6⟩, hF6⟩
      have o7 := own_fr o6 hF6 hb
      have kt6 : Blk v6 v2.heap.size 119 #[.int .i64 nu1, .int .i64 nt1] := hF6.blk kt5 (by omega)
      have F6 := F5.trans hF6
      clear d0 d1 g0 g1
      obtain ⟨d0, d1, g0, g1⟩ := kt6.c2
      have hsz6 := F6.size
      have hlt6 := kt6.lt
      go_wp2_with (at_builtin; refine wpList_append_lies _ rfl (.tmp 22) (.tmp 24) 49 rfl w.heap.size 119 i0 _ 2 16 Tryd.underlying49 hi0 hz0 hz1 hz2 rfl (by decide) _ _ _ rfl (o7.alloc _) ⟨v6.heap.size, 0, none⟩ 1 1 [.int .i64 nu1, .int .i64 nt1] rfl rfl (World.news_of_block (cs := #[.int .i64 nu1, .int .i64 nt1]) (t := 119) (fr := (0, 0)) (heap_alloc_new _ _)) (by simp [Value.oneCell']) (by decide) (by unfold maxLen; omega) (by omega) (by simp; omega) _ rfl ?_; intro g cp w8 hown8 hgrow8 hat8 hlt8)
      have hPa := hP6.below (bl_alloc (bl_refl v6) (.cells #[.int .i64 nu1, .int .i64 nt1] 119))
      have hP8 := hPa.grown hgrow8 (hneb b hb) (hneb r hr)
      have F7 := (F6.trans (Fr.of_below (bl_alloc (bl_refl v6) (.cells #[.int .i64 nu1, .int .i64 nt1] 119)))).trans_grown hgrow8 hneb
      have hmea8 := leftOf_eq hP8
      go_roundw
      case rel => exact ⟨acc ++ [⟨nu1, nt1⟩], su, p6, hP8, F7, by rw [flat_snoc, List.length_append]; exact hown8, by rw [List.length_append, List.length_singleton]; omega, HK2⟩
      case measure => omega
    | false =>
      have hend := tierAll_end npV (acc := acc) hc
      rw [HK.out] at hend
      obtain ⟨rfl, rfl⟩ := Prod.mk.inj hend
      rw [hc, eat_no hc] at heu
      clear HK hc hend
      go_wp2_with fail
      refine heu.mono ?_
      rintro e v1 ⟨rfl, ⟨p1, hP1⟩, hF1⟩
      have F1 := hFr.trans hF1
      have o1 := own_fr hown hF1 hb
      go_wp2_with fail
      refine (hmr _ _ hP1 _ rfl).mono ?_
      rintro e v2 ⟨rfl, ⟨p2, hP2⟩, hF2⟩
      have F2 := F1.trans hF2
      have o2 := own_fr o1 hF2 hb
      go_wp2_with fail
      refine (hnr _ _ hP2 (DT_at hD h F2)).mono ?_
      rintro e v3 ⟨rfl, ⟨p3, hP3⟩, hF3⟩
      have F3 := F2.trans hF3
      have o3 := own_fr o2 hF3 hb
      have hsz3 := F3.size
      go_wp2_with (at_builtin; refine wpList_append_lies _ rfl (.tmp 29) (.tmp 33) 49 rfl w.heap.size 119 i0 _ 2 16 Tryd.underlying49 hi0 hz0 hz1 hz2 rfl (by decide) _ _ _ rfl (o3.alloc _) ⟨v3.heap.size, 0, none⟩ 1 1 [.int .i64 0, .int .i64 nr1] rfl rfl (World.news_of_block (cs := #[.int .i64 0, .int .i64 nr1]) (t := 119) (fr := (0, 0)) (heap_alloc_new _ _)) (by simp [Value.oneCell']) (by decide) (by unfold maxLen; omega) (by omega) (by simp; omega) _ rfl ?_; intro g cp w8 hown8 hgrow8 hat8 hlt8)
      have hPa := hP3.below (bl_alloc (bl_refl v3) (.cells #[.int .i64 0, .int .i64 nr1] 119))
      have hP8 := hPa.grown hgrow8 (hneb b hb) (hneb r hr)
      have F7 := (F3.trans (Fr.of_below (bl_alloc (bl_refl v3) (.cells #[.int .i64 0, .int .i64 nr1] 119)))).trans_grown hgrow8 hneb
      refine (hmz _ _ hP8 _ rfl).mono ?_
      rintro e v9 ⟨rfl, ⟨p9, hP9⟩, hF9⟩
      have o9 := own_fr hown8 hF9 hb
      go_wp2_with fail
      go_ret
      exact ⟨_, rfl, by rw [flat_snoc, List.length_append]; exact o9, ⟨p9, hP9⟩, F7.trans hF9⟩
end Go.Proofs.YtcgkfgklggjmaaaDoor.Par
end
section
namespace Go.Proofs.YtcgkfgklggjmaaaDoor.Par
set_option linter.unusedVariables false
set_option linter.unusedSimpArgs false
open Go.RowKit
/-- within a function of the program's parser: the result's block, and another one of the same type -/
structure P2 (T : TypeId) (R C : Nat) (rc : Array Value) (w0 : World) (b : Nat) (ts : List Tok) (r cap : Nat) (w : World) (s : St) (cells : Array Value) : Prop where
  at_ : ∃ j, PAt w b ts r cap j s
  fr : Fr b w0 w
  rb : Blk w R T rc
  cb : Blk w C T cells
  hb : b < w0.heap.size
  hr : r < w0.heap.size
  hR : w0.heap.size ≤ R
  hC : w0.heap.size ≤ C
  ne : R ≠ C
section
variable {T : TypeId} {R C : Nat} {rc : Array Value} {w0 : World} {b : Nat} {ts : List Tok} {r cap : Nat} {w w' : World} {s s' : St} {cells : Array Value}
theorem P2.call (h : P2 T R C rc w0 b ts r cap w s cells) (hf : Fr b w w') (ha : ∃ j, PAt w' b ts r cap j s') : P2 T R C rc w0 b ts r cap w' s' cells :=
  ⟨ha, h.fr.trans hf, hf.blk h.rb (by have := h.hb; have := h.hR; omega), hf.blk h.cb (by have := h.hb; have := h.hC; omega), h.hb, h.hr, h.hR, h.hC, h.ne⟩
theorem P2.below (h : P2 T R C rc w0 b ts r cap w s cells) (hf : Below w.heap.size w w') : P2 T R C rc w0 b ts r cap w' s cells :=
  h.call (Fr.of_below hf) (by obtain ⟨j, hj⟩ := h.at_; exact ⟨j, hj.below hf⟩)
theorem P2.alloc (h : P2 T R C rc w0 b ts r cap w s cells) (o : Obj) : P2 T R C rc w0 b ts r cap (w.alloc o) s cells := h.below (bl_alloc (bl_refl _) o)
theorem P2.drew (h : P2 T R C rc w0 b ts r cap w s cells) : P2 T R C rc w0 b ts r cap w.drew s cells := h.below (bl_drew (bl_refl _))
theorem P2.put (h : P2 T R C rc w0 b ts r cap w s cells) (k : Nat) (vs : List Value) : P2 T R C rc w0 b ts r cap (puts w C k vs) s (setsA cells k vs) := by
  have h1 := h.hb
  have h2 := h.hr
  have h3 := h.hC
  obtain ⟨j, hj⟩ := h.at_
  exact ⟨⟨j, hj.putAll (by omega) (by omega) k vs⟩, h.fr.putsNew h3 k vs, h.rb.putsFar h.ne k vs, h.cb.putAll vs k, h1, h2, h.hR, h3, h.ne⟩
theorem P2.fin (h : P2 T R C rc w0 b ts r cap w s cells) (k : Nat) (vs : List Value) : (∃ j, PAt (puts w R k vs) b ts r cap j s) ∧ Fr b w0 (puts w R k vs) ∧ Blk (puts w R k vs) R T (setsA rc k vs) := by
  have h1 := h.hb
  have h2 := h.hr
  have h3 := h.hR
  obtain ⟨j, hj⟩ := h.at_
  exact ⟨⟨j, hj.putAll (by omega) (by omega) k vs⟩, h.fr.putsNew h3 k vs, h.rb.putAll vs k⟩
theorem PAt.row_ {w : World} {b : Nat} {ts : List Tok} {r cap i : Nat} {s : St} (h : PAt w b ts r cap i s) {g : Nat} {cs : Array Value} (hb : b ≠ g) (hr : r ≠ g) : PAt (w.setRow g cs) b ts r cap i s :=
  ⟨(setRow_far w g b cs hb).trans h.blk, own_keep h.row (fun x hx => by obtain rfl : r = x := Option.some.inj hx; exact setRow_far w g r cs hr), h.ne, h.cap_, h.rest, h.lt, h.last, h.ok⟩
theorem P2.finRow (h : P2 T R C rc w0 b ts r cap w s cells) (cs : Array Value) : (∃ j, PAt (w.setRow R cs) b ts r cap j s) ∧ Fr b w0 (w.setRow R cs) ∧ Blk (w.setRow R cs) R T cs := by
  have h1 := h.hb
  have h2 := h.hr
  have h3 := h.hR
  obtain ⟨j, hj⟩ := h.at_
  exact ⟨⟨j, hj.row_ (by omega) (by omega)⟩, h.fr.row h3, Blk.row h.rb⟩
theorem P2.cell (h : P2 T R C rc w0 b ts r cap w s cells) (k : Nat) (v : Value) (hv : cells[k]? = some v) : w.cell? ⟨C, k, none⟩ = some v ∧ w.frozen? ⟨C, k, none⟩ = false := ⟨(h.cb.cell k).trans hv, h.cb.frozen k⟩
theorem P2.lt (h : P2 T R C rc w0 b ts r cap w s cells) : R < w.heap.size ∧ C < w.heap.size := ⟨h.rb.lt, h.cb.lt⟩
theorem P2.grown {e : TypeId} {size n : Nat} {v : Value} {xs : List Value} (h : P2 T R C rc w0 b ts r cap w s cells) (ho : w.ownsRow w0.heap.size e size v n xs) (hg : w.grownBy w' v.ownBlock) (he : e ≠ T) : P2 T R C rc w0 b ts r cap w' s cells := by
  have hb := h.hb
  have hr := h.hr
  have hne : ∀ g, g < w0.heap.size → v.ownBlock ≠ some g := fun g hgl e => by have := (ho.lt g e).1; omega
  have hn1 := own_ne_blk ho h.rb he
  have hn2 := own_ne_blk ho h.cb he
  refine ⟨?_, h.fr.trans_grown hg hne, h.rb.grown hg (fun e => hn1 e.symm), h.cb.grown hg (fun e => hn2 e.symm), hb, hr, h.hR, h.hC, h.ne⟩
  obtain ⟨j, hj⟩ := h.at_
  exact ⟨j, hj.grown hg (hne b hb) (hne r hr)⟩
end
set_option maxHeartbeats 8000000 in
set_option maxRecDepth 100000 in
theorem adjust_any {w : World} {b : Nat} {ts : List Tok} {r cap i : Nat} {s : St} (h : PAt w b ts r cap i s) (hT : TK ts cap) (hD : Dec.DT w) :
    Calls Tryd.prog 128 #[.pointer (some ⟨b, 0, none⟩)] w fun en w' => en = .returned (.tuple #[.agg #[.int .i64 (P.adjust npV s).1.1.kind, .int .i64 (P.adjust npV s).1.1.n, .int .i64 (P.adjust npV s).1.1.mode], .bool (P.adjust npV s).1.2]) ∧ (∃ j, PAt w' b ts r cap j (P.adjust npV s).2) ∧ Fr b w w' := by
  have hlb := hT.lb
  have hcb := hT.capb
  have hb := h.blk.lt
  have hr := h.rlt
  have hS0 : P2 121 w.heap.size (w.heap.size + 1) #[.int .i64 0, .int .i64 0, .int .i64 0] w b ts r cap ((w.alloc (.cells #[.int .i64 0, .int .i64 0, .int .i64 0] 121)).alloc (.cells #[.int .i64 0, .int .i64 0, .int .i64 0] 121)) s #[.int .i64 0, .int .i64 0, .int .i64 0] :=
    ⟨⟨i, (h.below (bl_alloc (bl_refl w) _)).below (bl_alloc (bl_refl _) _)⟩, (Fr.of_below (bl_alloc (bl_refl w) _)).trans (Fr.of_below (bl_alloc (bl_refl _) _)), (Blk.new w _ _).alloc _, by have := Blk.new (w.alloc (.cells #[.int .i64 0, .int .i64 0, .int .i64 0] 121)) 121 #[.int .i64 0, .int .i64 0, .int .i64 0]; rwa [World.size_alloc] at this, hb, hr, Nat.le_refl _, by omega, by omega⟩
  have hea := fun v j (x : ByteArray) (h : PAt v b ts r cap j s) => eat_any h hlb hcb x
  have e0 : P.adjust npV s = P.adjust npV s := rfl
  conv at e0 => rhs; unfold P.adjust
  simp only at e0
  cases c0 : (P.eat wPercent s).1 with
  | true =>
    have e1 : P.one [wPercent, wCap, wMinimum, wAdd] 1 s = (1, (P.eat wPercent s).2) := by rw [pone_hit _ _ _ _ c0] <;> rfl
    rw [e1] at e0
    simp only at e0
    rw [if_neg (by decide)] at e0
    have hn := fun v j (h : PAt v b ts r cap j (P.eat wPercent s).2) (hD : Dec.DT v) => number_any h hT hD 3 100000000
    have ea0 := fun v i (h : PAt v b ts r cap i s) => hea v i wPercent h
    rw [c0] at ea0
    generalize P.eat wPercent s = u at *
    obtain ⟨u1, u2⟩ := u
    unfold P.adjBody at e0
    simp only at e0 hn ea0
    rw [if_pos (by decide)] at e0
    simp only at e0
    generalize P.number npV 3 100000000 u2 = nu at *
    obtain ⟨n1, n2⟩ := nu
    simp only at e0 hn
    have hmo := fun v j (h : PAt v b ts r cap j n2) => mode_any h hT
    generalize P.mode n2 = mo at *
    obtain ⟨m1, m2⟩ := mo
    simp only at e0 hmo
    have hmu := fun v j (h : PAt v b ts r cap j m2) => must1 h hT wSemi
    generalize P.must [wSemi] m2 = su at *
    generalize peek m2 = tk at *
    rw [e0]
    clear e0 e1 hea
    simp only
    go_enter Tryd.func128, Tryd.ntmps128
    obtain ⟨p0, hP0⟩ := hS0.at_
    go_wp2_with fail
    refine (ea0 _ _ hP0).mono ?_
    rintro e v0 ⟨rfl, hA0, hF0⟩
    have hS1 := hS0.call hF0 hA0
    obtain ⟨p1, hP1⟩ := hS1.at_
    go_wp2_with fail
    refine (hn _ _ hP1 (DT_at hD h hS1.fr)).mono ?_
    rintro e v1 ⟨rfl, hA1, hF1⟩
    have hS2 := hS1.call hF1 hA1
    obtain ⟨a0, a1, a2, f0, f1, f2⟩ := hS2.cb.c3
    have hl := hS2.lt
    have hT2 : P2 121 w.heap.size (w.heap.size + 1) _ w b ts r cap _ _ #[.int .i64 1, .int .i64 n1, .int .i64 0] := hS2.put 0 [.int .i64 1, .int .i64 n1]
    obtain ⟨p2, hP2⟩ := hT2.at_
    go_wp2_with fail
    refine (hmo _ _ hP2).mono ?_
    rintro e v2 ⟨rfl, hA2, hF2⟩
    have hS3 := hT2.call hF2 hA2
    clear a0 a1 a2 f0 f1 f2 hl
    obtain ⟨a0, a1, a2, f0, f1, f2⟩ := hS3.cb.c3
    have hl := hS3.lt
    have hT3 : P2 121 w.heap.size (w.heap.size + 1) _ w b ts r cap _ _ #[.int .i64 1, .int .i64 n1, .int .i64 m1] := hS3.put 2 [.int .i64 m1]
    obtain ⟨p3, hP3⟩ := hT3.at_
    go_wp2_with fail
    refine (hmu _ _ hP3 _ (by simp [puts, World.setCell])).mono ?_
    rintro e v3 ⟨rfl, hA3, hF3⟩
    have hS4 := hT3.call hF3 hA3
    clear a0 a1 a2 f0 f1 f2 hl
    obtain ⟨a0, a1, a2, f0, f1, f2⟩ := hS4.cb.c3
    obtain ⟨b0, b1, b2, g0, g1, g2⟩ := hS4.rb.c3
    have hl := hS4.lt
    obtain ⟨z1, z2, z3⟩ := hS4.fin 0 [.int .i64 1, .int .i64 n1, .int .i64 m1]
    go_wp2_with fail
    exact bodyPost_ret (results_cell_tmp_row rfl _ _ w.heap.size _ #[.int .i64 1, .int .i64 n1, .int .i64 m1] _ rfl z3 Tryd.underlying121 rfl (by kernel_rfl)) rfl ⟨rfl, z1, z2⟩
  | false =>
    cases c1 : (P.eat wCap s).1 with
    | true =>
      have e1 : P.one [wPercent, wCap, wMinimum, wAdd] 1 s = (2, (P.eat wCap s).2) := by rw [pone_drop _ _ _ _ c0, pone_hit _ _ _ _ c1] <;> rfl
      rw [e1] at e0
      simp only at e0
      rw [if_neg (by decide)] at e0
      have hn := fun v j (h : PAt v b ts r cap j (P.eat wCap s).2) (hD : Dec.DT v) => number_any h hT hD 0 1000000000000
      have ea0 := fun v i (h : PAt v b ts r cap i s) => hea v i wPercent h
      rw [c0, eat_no c0] at ea0
      have ea1 := fun v i (h : PAt v b ts r cap i s) => hea v i wCap h
      rw [c1] at ea1
      generalize P.eat wCap s = u at *
      obtain ⟨u1, u2⟩ := u
      unfold P.adjBody at e0
      simp only at e0 hn ea1
      rw [if_neg (by decide)] at e0
      simp only at e0
      generalize P.number npV 0 1000000000000 u2 = nu at *
      obtain ⟨n1, n2⟩ := nu
      simp only at e0 hn
      have hmu := fun v j (h : PAt v b ts r cap j n2) => must1 h hT wSemi
      generalize P.must [wSemi] n2 = su at *
      generalize peek n2 = tk at *
      rw [e0]
      clear e0 e1 hea
      simp only
      go_enter Tryd.func128, Tryd.ntmps128
      obtain ⟨p0, hP0⟩ := hS0.at_
      go_wp2_with fail
      refine (ea0 _ _ hP0).mono ?_
      rintro e v0 ⟨rfl, hA0, hF0⟩
      have hS1 := hS0.call hF0 hA0
      obtain ⟨p1, hP1⟩ := hS1.at_
      go_wp2_with fail
      refine (ea1 _ _ hP1).mono ?_
      rintro e v1 ⟨rfl, hA1, hF1⟩
      have hS2 := hS1.call hF1 hA1
      obtain ⟨p2, hP2⟩ := hS2.at_
      go_wp2_with fail
      refine (hn _ _ hP2 (DT_at hD h hS2.fr)).mono ?_
      rintro e v2 ⟨rfl, hA2, hF2⟩
      have hS3 := hS2.call hF2 hA2
      obtain ⟨a0, a1, a2, f0, f1, f2⟩ := hS3.cb.c3
      have hl := hS3.lt
      have hT3 : P2 121 w.heap.size (w.heap.size + 1) _ w b ts r cap _ _ #[.int .i64 2, .int .i64 n1, .int .i64 0] := hS3.put 0 [.int .i64 2, .int .i64 n1]
      obtain ⟨p3, hP3⟩ := hT3.at_
      go_wp2_with fail
      refine (hmu _ _ hP3 _ (by simp [puts, World.setCell])).mono ?_
      rintro e v3 ⟨rfl, hA3, hF3⟩
      have hS4 := hT3.call hF3 hA3
      clear a0 a1 a2 f0 f1 f2 hl
      obtain ⟨a0, a1, a2, f0, f1, f2⟩ := hS4.cb.c3
      obtain ⟨b0, b1, b2, g0, g1, g2⟩ := hS4.rb.c3
      have hl := hS4.lt
      obtain ⟨z1, z2, z3⟩ := hS4.fin 0 [.int .i64 2, .int .i64 n1, .int .i64 0]
      go_wp2_with fail
      exact bodyPost_ret (results_cell_tmp_row rfl _ _ w.heap.size _ #[.int .i64 2, .int .i64 n1, .int .i64 0] _ rfl z3 Tryd.underlying121 rfl (by kernel_rfl)) rfl ⟨rfl, z1, z2⟩
    | false =>
      cases c2 : (P.eat wMinimum s).1 with
      | true =>
        have e1 : P.one [wPercent, wCap, wMinimum, wAdd] 1 s = (3, (P.eat wMinimum s).2) := by rw [pone_drop _ _ _ _ c0, pone_drop _ _ _ _ c1, pone_hit _ _ _ _ c2] <;> rfl
        rw [e1] at e0
        simp only at e0
        rw [if_neg (by decide)] at e0
        have hn := fun v j (h : PAt v b ts r cap j (P.eat wMinimum s).2) (hD : Dec.DT v) => number_any h hT hD 0 1000000000000
        have ea0 := fun v i (h : PAt v b ts r cap i s) => hea v i wPercent h
        rw [c0, eat_no c0] at ea0
        have ea1 := fun v i (h : PAt v b ts r cap i s) => hea v i wCap h
        rw [c1, eat_no c1] at ea1
        have ea2 := fun v i (h : PAt v b ts r cap i s) => hea v i wMinimum h
        rw [c2] at ea2
        generalize P.eat wMinimum s = u at *
        obtain ⟨u1, u2⟩ := u
        unfold P.adjBody at e0
        simp only at e0 hn ea2
        rw [if_neg (by decide)] at e0
        simp only at e0
        generalize P.number npV 0 1000000000000 u2 = nu at *
        obtain ⟨n1, n2⟩ := nu
        simp only at e0 hn
        have hmu := fun v j (h : PAt v b ts r cap j n2) => must1 h hT wSemi
        generalize P.must [wSemi] n2 = su at *
        generalize peek n2 = tk at *
        rw [e0]
        clear e0 e1 hea
        simp only
        go_enter Tryd.func128, Tryd.ntmps128
        obtain ⟨p0, hP0⟩ := hS0.at_
        go_wp2_with fail
        refine (ea0 _ _ hP0).mono ?_
        rintro e v0 ⟨rfl, hA0, hF0⟩
        have hS1 := hS0.call hF0 hA0
        obtain ⟨p1, hP1⟩ := hS1.at_
        go_wp2_with fail
        refine (ea1 _ _ hP1).mono ?_
        rintro e v1 ⟨rfl, hA1, hF1⟩
        have hS2 := hS1.call hF1 hA1
        obtain ⟨p2, hP2⟩ := hS2.at_
        go_wp2_with fail
        refine (ea2 _ _ hP2).mono ?_
        rintro e v2 ⟨rfl, hA2, hF2⟩
        have hS3 := hS2.call hF2 hA2
        obtain ⟨p3, hP3⟩ := hS3.at_
        go_wp2_with fail
        refine (hn _ _ hP3 (DT_at hD h hS3.fr)).mono ?_
        rintro e v3 ⟨rfl, hA3, hF3⟩
        have hS4 := hS3.call hF3 hA3
        obtain ⟨a0, a1, a2, f0, f1, f2⟩ := hS4.cb.c3
        have hl := hS4.lt
        have hT4 : P2 121 w.heap.size (w.heap.size + 1) _ w b ts r cap _ _ #[.int .i64 3, .int .i64 n1, .int .i64 0] := hS4.put 0 [.int .i64 3, .int .i64 n1]
        obtain ⟨p4, hP4⟩ := hT4.at_
        go_wp2_with fail
        refine (hmu _ _ hP4 _ (by simp [puts, World.setCell])).mono ?_
        rintro e v4 ⟨rfl, hA4, hF4⟩
        have hS5 := hT4.call hF4 hA4
        clear a0 a1 a2 f0 f1 f2 hl
        obtain ⟨a0, a1, a2, f0, f1, f2⟩ := hS5.cb.c3
        obtain ⟨b0, b1, b2, g0, g1, g2⟩ := hS5.rb.c3
        have hl := hS5.lt
        obtain ⟨z1, z2, z3⟩ := hS5.fin 0 [.int .i64 3, .int .i64 n1, .int .i64 0]
        go_wp2_with fail
        exact bodyPost_ret (results_cell_tmp_row rfl _ _ w.heap.size _ #[.int .i64 3, .int .i64 n1, .int .i64 0] _ rfl z3 Tryd.underlying121 rfl (by kernel_rfl)) rfl ⟨rfl, z1, z2⟩
      | false =>
        cases c3 : (P.eat wAdd s).1 with
        | true =>
          have e1 : P.one [wPercent, wCap, wMinimum, wAdd] 1 s = (4, (P.eat wAdd s).2) := by rw [pone_drop _ _ _ _ c0, pone_drop _ _ _ _ c1, pone_drop _ _ _ _ c2, pone_hit _ _ _ _ c3] <;> rfl
          rw [e1] at e0
          simp only at e0
          rw [if_neg (by decide)] at e0
          have hn := fun v j (h : PAt v b ts r cap j (P.eat wAdd s).2) (hD : Dec.DT v) => number_any h hT hD 0 1000000000000
          have ea0 := fun v i (h : PAt v b ts r cap i s) => hea v i wPercent h
          rw [c0, eat_no c0] at ea0
          have ea1 := fun v i (h : PAt v b ts r cap i s) => hea v i wCap h
          rw [c1, eat_no c1] at ea1
          have ea2 := fun v i (h : PAt v b ts r cap i s) => hea v i wMinimum h
          rw [c2, eat_no c2] at ea2
          have ea3 := fun v i (h : PAt v b ts r cap i s) => hea v i wAdd h
          rw [c3] at ea3
          generalize P.eat wAdd s = u at *
          obtain ⟨u1, u2⟩ := u
          unfold P.adjBody at e0
          simp only at e0 hn ea3
          rw [if_neg (by decide)] at e0
          simp only at e0
          generalize P.number npV 0 1000000000000 u2 = nu at *
          obtain ⟨n1, n2⟩ := nu
          simp only at e0 hn
          have hmu := fun v j (h : PAt v b ts r cap j n2) => must1 h hT wSemi
          generalize P.must [wSemi] n2 = su at *
          generalize peek n2 = tk at *
          rw [e0]
          clear e0 e1 hea
          simp only
          go_enter Tryd.func128, Tryd.ntmps128
          obtain ⟨p0, hP0⟩ := hS0.at_
          go_wp2_with fail
          refine (ea0 _ _ hP0).mono ?_
          rintro e v0 ⟨rfl, hA0, hF0⟩
          have hS1 := hS0.call hF0 hA0
          obtain ⟨p1, hP1⟩ := hS1.at_
          go_wp2_with fail
          refine (ea1 _ _ hP1).mono ?_
          rintro e v1 ⟨rfl, hA1, hF1⟩
          have hS2 := hS1.call hF1 hA1
          obtain ⟨p2, hP2⟩ := hS2.at_
          go_wp2_with fail
          refine (ea2 _ _ hP2).mono ?_
          rintro e v2 ⟨rfl, hA2, hF2⟩
          have hS3 := hS2.call hF2 hA2
          obtain ⟨p3, hP3⟩ := hS3.at_
          go_wp2_with fail
          refine (ea3 _ _ hP3).mono ?_
          rintro e v3 ⟨rfl, hA3, hF3⟩
          have hS4 := hS3.call hF3 hA3
          obtain ⟨p4, hP4⟩ := hS4.at_
          go_wp2_with fail
          refine (hn _ _ hP4 (DT_at hD h hS4.fr)).mono ?_
          rintro e v4 ⟨rfl, hA4, hF4⟩
          have hS5 := hS4.call hF4 hA4
          obtain ⟨a0, a1, a2, f0, f1, f2⟩ := hS5.cb.c3
          have hl := hS5.lt
          have hT5 : P2 121 w.heap.size (w.heap.size + 1) _ w b ts r cap _ _ #[.int .i64 4, .int .i64 n1, .int .i64 0] := hS5.put 0 [.int .i64 4, .int .i64 n1]
          obtain ⟨p5, hP5⟩ := hT5.at_
          go_wp2_with fail
          refine (hmu _ _ hP5 _ (by simp [puts, World.setCell])).mono ?_
          rintro e v5 ⟨rfl, hA5, hF5⟩
          have hS6 := hT5.call hF5 hA5
          clear a0 a1 a2 f0 f1 f2 hl
          obtain ⟨a0, a1, a2, f0, f1, f2⟩ := hS6.cb.c3
          obtain ⟨b0, b1, b2, g0, g1, g2⟩ := hS6.rb.c3
          have hl := hS6.lt
          obtain ⟨z1, z2, z3⟩ := hS6.fin 0 [.int .i64 4, .int .i64 n1, .int .i64 0]
          go_wp2_with fail
          exact bodyPost_ret (results_cell_tmp_row rfl _ _ w.heap.size _ #[.int .i64 4, .int .i64 n1, .int .i64 0] _ rfl z3 Tryd.underlying121 rfl (by kernel_rfl)) rfl ⟨rfl, z1, z2⟩
        | false =>
          have e1 : P.one [wPercent, wCap, wMinimum, wAdd] 1 s = (-1, s) := by rw [pone_drop _ _ _ _ c0, pone_drop _ _ _ _ c1, pone_drop _ _ _ _ c2, pone_drop _ _ _ _ c3] <;> rfl
          rw [e1] at e0
          simp only at e0
          rw [if_pos (by decide)] at e0
          have ea0 := fun v i (h : PAt v b ts r cap i s) => hea v i wPercent h
          rw [c0, eat_no c0] at ea0
          have ea1 := fun v i (h : PAt v b ts r cap i s) => hea v i wCap h
          rw [c1, eat_no c1] at ea1
          have ea2 := fun v i (h : PAt v b ts r cap i s) => hea v i wMinimum h
          rw [c2, eat_no c2] at ea2
          have ea3 := fun v i (h : PAt v b ts r cap i s) => hea v i wAdd h
          rw [c3, eat_no c3] at ea3
          rw [e0]
          clear e0 e1 hea
          go_enter Tryd.func128, Tryd.ntmps128
          obtain ⟨p0, hP0⟩ := hS0.at_
          go_wp2_with fail
          refine (ea0 _ _ hP0).mono ?_
          rintro e v0 ⟨rfl, hA0, hF0⟩
          have hS1 := hS0.call hF0 hA0
          obtain ⟨p1, hP1⟩ := hS1.at_
          go_wp2_with fail
          refine (ea1 _ _ hP1).mono ?_
          rintro e v1 ⟨rfl, hA1, hF1⟩
          have hS2 := hS1.call hF1 hA1
          obtain ⟨p2, hP2⟩ := hS2.at_
          go_wp2_with fail
          refine (ea2 _ _ hP2).mono ?_
          rintro e v2 ⟨rfl, hA2, hF2⟩
          have hS3 := hS2.call hF2 hA2
          obtain ⟨p3, hP3⟩ := hS3.at_
          go_wp2_with fail
          refine (ea3 _ _ hP3).mono ?_
          rintro e v3 ⟨rfl, hA3, hF3⟩
          have hS4 := hS3.call hF3 hA3
          obtain ⟨a0, a1, a2, f0, f1, f2⟩ := hS4.cb.c3
          obtain ⟨b0, b1, b2, g0, g1, g2⟩ := hS4.rb.c3
          have hl := hS4.lt
          obtain ⟨z1, z2, z3⟩ := hS4.fin 0 [.int .i64 0, .int .i64 0, .int .i64 0]
          go_wp2_with fail
          exact bodyPost_ret (results_cell_tmp_row rfl _ _ w.heap.size _ #[.int .i64 0, .int .i64 0, .int .i64 0] _ rfl z3 Tryd.underlying121 rfl (by kernel_rfl)) rfl ⟨rfl, z1, z2⟩
end Go.Proofs.YtcgkfgklggjmaaaDoor.Par
end
section
namespace Go.Proofs.YtcgkfgklggjmaaaDoor.Par
set_option linter.unusedVariables false
set_option linter.unusedSimpArgs false
open Go.RowKit
theorem popt_yes {w : ByteArray} {d : Int} {s : St} (h : (P.eat w s).1 = true) : P.opt npV w d s = ((P.number npV 0 1000000 (P.eat w s).2).1, P.must [wSemi] (P.number npV 0 1000000 (P.eat w s).2).2) := by unfold P.opt; rw [if_pos h]
theorem popt_no {w : ByteArray} {d : Int} {s : St} (h : (P.eat w s).1 = false) : P.opt npV w d s = (d, (P.eat w s).2) := by unfold P.opt; rw [if_neg (by rw [h]; exact Bool.false_ne_true)]
theorem pck_yes {s : St} (h : (P.eat wVolume s).1 = true) : P.ckind s = (2, (P.eat wVolume s).2) := by unfold P.ckind; rw [if_pos h]
theorem pck_no {s : St} (h : (P.eat wVolume s).1 = false) : P.ckind s = (1, P.must [wGraduated] (P.eat wVolume s).2) := by unfold P.ckind; rw [if_neg (by rw [h]; exact Bool.false_ne_true)]
set_option maxHeartbeats 16000000 in
set_option maxRecDepth 100000 in
theorem charge_any {w : World} {b : Nat} {ts : List Tok} {r cap i : Nat} {s : St} (h : PAt w b ts r cap i s) (hT : TK ts cap) (hD : Dec.DT w) (t : Tok) :
    Calls Tryd.prog 93 #[.pointer (some ⟨b, 0, none⟩), tokV t] w fun en w' => ∃ tv av, en = .returned (.agg (chgC (P.charge dp npV t.line t.col s).1.meter (P.charge dp npV t.line t.col s).1.win (P.charge dp npV t.line t.col s).1.allow (P.charge dp npV t.line t.col s).1.block (P.charge dp npV t.line t.col s).1.kind tv (P.charge dp npV t.line t.col s).1.mode av (P.charge dp npV t.line t.col s).1.line (P.charge dp npV t.line t.col s).1.col)) ∧ TiersLie w.heap.size w' tv (P.charge dp npV t.line t.col s).1.tiers ∧ AdjsLie w.heap.size w' av (P.charge dp npV t.line t.col s).1.adjs ∧ (∃ j, PAt w' b ts r cap j (P.charge dp npV t.line t.col s).2) ∧ Fr b w w' := by
  have hlb := hT.lb
  have hcb := hT.capb
  have hbig := hT.big
  have hb := h.blk.lt
  have hr := h.rlt
  obtain ⟨R0, hR0⟩ : ∃ R0, R0 = P.charge dp npV t.line t.col s := ⟨_, rfl⟩
  rw [← hR0]
  unfold P.charge at hR0
  simp only at hR0
  have hn := fun v i (h : PAt v b ts r cap i s) => kind_any h hlb hcb 1
  generalize P.kind 1 s = n at *
  obtain ⟨n1, n2⟩ := n
  have hw := fun v i (h : PAt v b ts r cap i n2) => window_any h hT
  simp only at hR0
  generalize P.window dp n2 = x at *
  obtain ⟨x1, x2⟩ := x
  unfold winV at hw
  have ho := fun v i (h : PAt v b ts r cap i x2) => must1 h hT wOpen
  simp only at hR0
  generalize P.must [wOpen] x2 = o at *
  generalize peek x2 = k0 at *
  have hta := fun v i (h : PAt v b ts r cap i o) => eat_any h hlb hcb wAllowance
  have hay := @popt_yes wAllowance 0 o
  have han := @popt_no wAllowance 0 o
  generalize P.opt npV wAllowance 0 o = a at *
  obtain ⟨a1, a2⟩ := a
  generalize P.eat wAllowance o = ta at *
  obtain ⟨ta1, ta2⟩ := ta
  have hna := fun v i (h : PAt v b ts r cap i ta2) (hD : Dec.DT v) => number_any h hT hD 0 1000000
  simp only at hR0 hay han
  generalize P.number npV 0 1000000 ta2 = na at *
  obtain ⟨na1, na2⟩ := na
  have hsa := fun v i (h : PAt v b ts r cap i na2) => must1 h hT wSemi
  simp only at hay
  generalize P.must [wSemi] na2 = sa at *
  generalize peek na2 = ka at *
  have htbk := fun v i (h : PAt v b ts r cap i a2) => eat_any h hlb hcb wBlock
  have hbky := @popt_yes wBlock 1 a2
  have hbkn := @popt_no wBlock 1 a2
  generalize P.opt npV wBlock 1 a2 = bk at *
  obtain ⟨bk1, bk2⟩ := bk
  generalize P.eat wBlock a2 = tbk at *
  obtain ⟨tbk1, tbk2⟩ := tbk
  have hnbk := fun v i (h : PAt v b ts r cap i tbk2) (hD : Dec.DT v) => number_any h hT hD 0 1000000
  simp only at hR0 hbky hbkn
  generalize P.number npV 0 1000000 tbk2 = nbk at *
  obtain ⟨nbk1, nbk2⟩ := nbk
  have hsbk := fun v i (h : PAt v b ts r cap i nbk2) => must1 h hT wSemi
  simp only at hbky
  generalize P.must [wSemi] nbk2 = sbk at *
  generalize peek nbk2 = kbk at *
  have htv := fun v i (h : PAt v b ts r cap i bk2) => eat_any h hlb hcb wVolume
  have hvy := @pck_yes bk2
  have hvn := @pck_no bk2
  generalize P.ckind bk2 = ck at *
  obtain ⟨ck1, ck2⟩ := ck
  generalize P.eat wVolume bk2 = tv0 at *
  obtain ⟨tv1, tv2⟩ := tv0
  have hgr := fun v i (h : PAt v b ts r cap i tv2) => must1 h hT wGraduated
  simp only at hR0 hvy hvn
  generalize P.must [wGraduated] tv2 = gr at *
  generalize peek tv2 = kgr at *
  have hti := fun v i (h : PAt v b ts r cap i ck2) (hD : Dec.DT v) => tiers_any h hT hD
  generalize P.tiers npV ck2 = tr at *
  obtain ⟨l1, l2⟩ := tr
  simp only at hR0 hti
  have hs3 := fun v i (h : PAt v b ts r cap i l2) => must1 h hT wRound
  generalize P.must [wRound] l2 = q5 at *
  generalize peek l2 = k5 at *
  have hmd := fun v i (h : PAt v b ts r cap i q5) => mode_any h hT
  generalize P.mode q5 = md at *
  obtain ⟨md1, md2⟩ := md
  simp only at hR0 hmd
  have hs4 := fun v i (h : PAt v b ts r cap i md2) => must1 h hT wSemi
  generalize P.must [wSemi] md2 = q6 at *
  generalize peek md2 = k6 at *
  have hal : P.adjLoop npV q6.rest.length [] q6 = P.adjAll npV [] q6 := rfl
  rw [hal] at hR0
  clear hal
  obtain ⟨D, hDD⟩ : ∃ D, D = P.adjAll npV [] q6 := ⟨_, rfl⟩
  rw [← hDD] at hR0
  obtain ⟨d1, d2⟩ := D
  have HD := Lib.hid hDD.symm
  clear hDD
  simp only at hR0
  have hs5 := fun v i (h : PAt v b ts r cap i d2) => must1 h hT wClose
  generalize P.must [wClose] d2 = q7 at *
  generalize peek d2 = k7 at *
  subst hR0
  simp only
  obtain ⟨i1, hi1, hy0, hy1, hy2⟩ := info_parts adjInfo
  unfold tokV at ho hsa hsbk hgr hs3 hs4 hs5 ⊢
  have hS0 : P2 52 (w.heap.size + 1) (w.heap.size + 2) (chgC ⟨#[]⟩ noWin 0 0 0 (.slice none 0 0) 0 (.slice none 0 0) 0 0) w b ts r cap (((w.alloc (.cells #[.int .i64 t.kind, .string t.text, .int .i64 t.line, .int .i64 t.col] 102)).alloc (.cells (chgC ⟨#[]⟩ noWin 0 0 0 (.slice none 0 0) 0 (.slice none 0 0) 0 0) 52)).alloc (.cells (chgC ⟨#[]⟩ noWin 0 1 1 (.slice none 0 0) 0 (.slice none 0 0) t.line t.col) 52)) s (chgC ⟨#[]⟩ noWin 0 1 1 (.slice none 0 0) 0 (.slice none 0 0) t.line t.col) := by
    have B1 := bl_alloc (bl_refl w) (.cells #[.int .i64 t.kind, .string t.text, .int .i64 t.line, .int .i64 t.col] 102)
    have B2 := bl_alloc B1 (.cells (chgC ⟨#[]⟩ noWin 0 0 0 (.slice none 0 0) 0 (.slice none 0 0) 0 0) 52)
    have B3 := bl_alloc B2 (.cells (chgC ⟨#[]⟩ noWin 0 1 1 (.slice none 0 0) 0 (.slice none 0 0) t.line t.col) 52)
    have K1 := Blk.new (w.alloc (.cells #[.int .i64 t.kind, .string t.text, .int .i64 t.line, .int .i64 t.col] 102)) 52 (chgC ⟨#[]⟩ noWin 0 0 0 (.slice none 0 0) 0 (.slice none 0 0) 0 0)
    have K2 := Blk.new ((w.alloc (.cells #[.int .i64 t.kind, .string t.text, .int .i64 t.line, .int .i64 t.col] 102)).alloc (.cells (chgC ⟨#[]⟩ noWin 0 0 0 (.slice none 0 0) 0 (.slice none 0 0) 0 0) 52)) 52 (chgC ⟨#[]⟩ noWin 0 1 1 (.slice none 0 0) 0 (.slice none 0 0) t.line t.col)
    rw [World.size_alloc] at K1
    rw [World.size_alloc, World.size_alloc] at K2
    exact ⟨⟨i, h.below B3⟩, Fr.of_below B3, K1.alloc _, K2, hb, hr, by omega, by omega, by omega⟩
  replace hn := Lib.hid hn
  replace hw := Lib.hid hw
  replace ho := Lib.hid ho
  replace hta := Lib.hid hta
  replace hay := Lib.hid hay
  replace han := Lib.hid han
  replace hna := Lib.hid hna
  replace hsa := Lib.hid hsa
  replace htbk := Lib.hid htbk
  replace hbky := Lib.hid hbky
  replace hbkn := Lib.hid hbkn
  replace hnbk := Lib.hid hnbk
  replace hsbk := Lib.hid hsbk
  replace htv := Lib.hid htv
  replace hvy := Lib.hid hvy
  replace hvn := Lib.hid hvn
  replace hgr := Lib.hid hgr
  replace hti := Lib.hid hti
  replace hs3 := Lib.hid hs3
  replace hmd := Lib.hid hmd
  replace hs4 := Lib.hid hs4
  replace hs5 := Lib.hid hs5
  go_enter Tryd.func93, Tryd.ntmps93
  obtain ⟨p1, hP1⟩ := hS0.at_
  go_wp2_with fail
  refine (hn.out _ _ hP1).mono ?_
  rintro e v1 ⟨rfl, hA1, hF1⟩
  have hS1 := hS0.call hF1 hA1
  obtain ⟨q2, q2'⟩ := hS1.cell 0 _ rfl
  have hl2 := hS1.lt
  have hT2 : P2 52 (w.heap.size + 1) (w.heap.size + 2) (chgC ⟨#[]⟩ noWin 0 0 0 (.slice none 0 0) 0 (.slice none 0 0) 0 0) w b ts r cap _ _ (chgC n1 noWin 0 1 1 (.slice none 0 0) 0 (.slice none 0 0) t.line t.col) := hS1.put 0 [.string n1]
  obtain ⟨p3, hP3⟩ := hT2.at_
  go_wp2_with fail
  refine (hw.out _ _ hP3).mono ?_
  rintro e v3 ⟨rfl, hA3, hF3⟩
  have hS3 := hT2.call hF3 hA3
  obtain ⟨-, z1, z2, z3, z4, z5, z6, z7, -, -, -, -, -, -, -, -, -, y1, y2, y3, y4, y5, y6, y7, -, -, -, -, -, -, -, -⟩ := hS3.cb.c16
  have hl4 := hS3.lt
  have hT4 : P2 52 (w.heap.size + 1) (w.heap.size + 2) (chgC ⟨#[]⟩ noWin 0 0 0 (.slice none 0 0) 0 (.slice none 0 0) 0 0) w b ts r cap _ _ (chgC n1 x1 0 1 1 (.slice none 0 0) 0 (.slice none 0 0) t.line t.col) := hS3.put 1 [.bool x1.has, .int .i64 x1.from_.1, .int .i64 x1.from_.2.1, .int .i64 x1.from_.2.2, .int .i64 x1.to_.1, .int .i64 x1.to_.2.1, .int .i64 x1.to_.2.2]
  obtain ⟨p5, hP5⟩ := hT4.at_
  go_wp2_with fail
  refine (ho.out _ _ hP5 _ (by simp [puts, World.setCell])).mono ?_
  rintro e v5 ⟨rfl, hA5, hF5⟩
  have hS5 := hT4.call hF5 hA5
  obtain ⟨p6, hP6⟩ := hS5.at_
  go_wp2_with fail
  refine (hta.out _ _ hP6).mono ?_
  rintro e v6 ⟨rfl, hA6, hF6⟩
  have hS6 := hS5.call hF6 hA6
  clear hS0 hS1 hT2 hS3 hT4 hS5 hP1 hP3 hP5 hP6 hA1 hA3 hA5 hA6 hF1 hF3 hF5 hF6 q2 q2' z1 z2 z3 z4 z5 z6 z7 y1 y2 y3 y4 y5 y6 y7 hl2 hl4 hn hw ho hta
  go_upto_if 23 with fail
  go_cut [] (fun wx => P2 52 (w.heap.size + 1) (w.heap.size + 2) (chgC ⟨#[]⟩ noWin 0 0 0 (.slice none 0 0) 0 (.slice none 0 0) 0 0) w b ts r cap wx a2 (chgC n1 x1 a1 1 1 (.slice none 0 0) 0 (.slice none 0 0) t.line t.col))
  case first =>
    cases ta1 with
    | true =>
      obtain ⟨rfl, rfl⟩ := Prod.mk.inj (hay.out rfl)
      obtain ⟨p7, hP7⟩ := hS6.at_
      go_wp2_with fail
      refine (hna.out _ _ hP7 (DT_at hD h hS6.fr)).mono ?_
      rintro e v7 ⟨rfl, hA7, hF7⟩
      have hS7 := hS6.call hF7 hA7
      obtain ⟨q8, q8'⟩ := hS7.cell 8 _ rfl
      have hl8 := hS7.lt
      have hT8 : P2 52 (w.heap.size + 1) (w.heap.size + 2) (chgC ⟨#[]⟩ noWin 0 0 0 (.slice none 0 0) 0 (.slice none 0 0) 0 0) w b ts r cap _ _ (chgC n1 x1 a1 1 1 (.slice none 0 0) 0 (.slice none 0 0) t.line t.col) := hS7.put 8 [.int .i64 a1]
      obtain ⟨p9, hP9⟩ := hT8.at_
      go_wp2_with fail
      refine (hsa.out _ _ hP9 _ (by simp [puts, World.setCell])).mono ?_
      rintro e v9 ⟨rfl, hA9, hF9⟩
      have hS9 := hT8.call hF9 hA9
      go_wp2_with fail
      go_meet
      exact hS9
    | false =>
      obtain ⟨rfl, rfl⟩ := Prod.mk.inj (han.out rfl)
      go_wp2_with fail
      go_meet
      exact hS6
  case rest =>
    clear hS6 hay han hna hsa
    obtain ⟨p10, hP10⟩ := hcut.at_
    go_wp2_with fail
    refine (htbk.out _ _ hP10).mono ?_
    rintro e v10 ⟨rfl, hA10, hF10⟩
    have hS10 := hcut.call hF10 hA10
    clear hcut hP10 hA10 hF10 htbk
    go_upto_if 31 with fail
    go_cut [] (fun wx => P2 52 (w.heap.size + 1) (w.heap.size + 2) (chgC ⟨#[]⟩ noWin 0 0 0 (.slice none 0 0) 0 (.slice none 0 0) 0 0) w b ts r cap wx bk2 (chgC n1 x1 a1 bk1 1 (.slice none 0 0) 0 (.slice none 0 0) t.line t.col))
    case first =>
      cases tbk1 with
      | true =>
        obtain ⟨rfl, rfl⟩ := Prod.mk.inj (hbky.out rfl)
        obtain ⟨p11, hP11⟩ := hS10.at_
        go_wp2_with fail
        refine (hnbk.out _ _ hP11 (DT_at hD h hS10.fr)).mono ?_
        rintro e v11 ⟨rfl, hA11, hF11⟩
        have hS11 := hS10.call hF11 hA11
        obtain ⟨q12, q12'⟩ := hS11.cell 9 _ rfl
        have hl12 := hS11.lt
        have hT12 : P2 52 (w.heap.size + 1) (w.heap.size + 2) (chgC ⟨#[]⟩ noWin 0 0 0 (.slice none 0 0) 0 (.slice none 0 0) 0 0) w b ts r cap _ _ (chgC n1 x1 a1 bk1 1 (.slice none 0 0) 0 (.slice none 0 0) t.line t.col) := hS11.put 9 [.int .i64 bk1]
        obtain ⟨p13, hP13⟩ := hT12.at_
        go_wp2_with fail
        refine (hsbk.out _ _ hP13 _ (by simp [puts, World.setCell])).mono ?_
        rintro e v13 ⟨rfl, hA13, hF13⟩
        have hS13 := hT12.call hF13 hA13
        go_wp2_with fail
        go_meet
        exact hS13
      | false =>
        obtain ⟨rfl, rfl⟩ := Prod.mk.inj (hbkn.out rfl)
        go_wp2_with fail
        go_meet
        exact hS10
    case rest =>
      clear hS10 hbky hbkn hnbk hsbk
      obtain ⟨p14, hP14⟩ := hcut.at_
      go_wp2_with fail
      refine (htv.out _ _ hP14).mono ?_
      rintro e v14 ⟨rfl, hA14, hF14⟩
      have hS14 := hcut.call hF14 hA14
      clear hcut hP14 hA14 hF14 htv
      go_upto_if 39 with fail
      go_cut [] (fun wx => P2 52 (w.heap.size + 1) (w.heap.size + 2) (chgC ⟨#[]⟩ noWin 0 0 0 (.slice none 0 0) 0 (.slice none 0 0) 0 0) w b ts r cap wx ck2 (chgC n1 x1 a1 bk1 ck1 (.slice none 0 0) 0 (.slice none 0 0) t.line t.col))
      case first =>
        cases tv1 with
        | true =>
          obtain ⟨rfl, rfl⟩ := Prod.mk.inj (hvy.out rfl)
          obtain ⟨q15, q15'⟩ := hS14.cell 10 _ rfl
          have hl15 := hS14.lt
          have hT15 : P2 52 (w.heap.size + 1) (w.heap.size + 2) (chgC ⟨#[]⟩ noWin 0 0 0 (.slice none 0 0) 0 (.slice none 0 0) 0 0) w b ts r cap _ _ (chgC n1 x1 a1 bk1 2 (.slice none 0 0) 0 (.slice none 0 0) t.line t.col) := hS14.put 10 [.int .i64 2]
          go_wp2_with fail
          go_meet
          exact hT15
        | false =>
          obtain ⟨rfl, rfl⟩ := Prod.mk.inj (hvn.out rfl)
          obtain ⟨p16, hP16⟩ := hS14.at_
          go_wp2_with fail
          refine (hgr.out _ _ hP16 _ (by simp [puts, World.setCell])).mono ?_
          rintro e v16 ⟨rfl, hA16, hF16⟩
          have hS16 := hS14.call hF16 hA16
          go_wp2_with fail
          go_meet
          exact hS16
      case rest =>
        clear hS14 hvy hvn hgr
        obtain ⟨p17, hP17⟩ := hcut.at_
        go_wp2_with fail
        refine (hti.out _ _ hP17 (DT_at hD h hcut.fr)).mono ?_
        rintro e v17 ⟨tv, rfl, hot, hA17, hF17⟩
        have hS17 := hcut.call hF17 hA17
        have hot0 := own_base hot (hcut.fr.size)
        obtain ⟨A0, c0, rfl, hcl0, hcm0, hA0⟩ := Lies.open (f := tierF) (l := l1) (Lies.of hot)
        obtain ⟨q18, q18'⟩ := hS17.cell 11 _ rfl
        have hl18 := hS17.lt
        have hT18 : P2 52 (w.heap.size + 1) (w.heap.size + 2) (chgC ⟨#[]⟩ noWin 0 0 0 (.slice none 0 0) 0 (.slice none 0 0) 0 0) w b ts r cap _ _ (chgC n1 x1 a1 bk1 ck1 (.slice A0 l1.length c0) 0 (.slice none 0 0) t.line t.col) := hS17.put 11 [.slice A0 l1.length c0]
        have hot18 := own_put hot0 (own_ne_blk hot0 hS17.cb (by decide)) 11 [.slice A0 l1.length c0]
        obtain ⟨p19, hP19⟩ := hT18.at_
        go_wp2_with fail
        refine (hs3.out _ _ hP19 _ (by simp [puts, World.setCell])).mono ?_
        rintro e v19 ⟨rfl, hA19, hF19⟩
        have hS19 := hT18.call hF19 hA19
        have hot19 := own_fr hot18 hF19 hb
        obtain ⟨p20, hP20⟩ := hS19.at_
        go_wp2_with fail
        refine (hmd.out _ _ hP20).mono ?_
        rintro e v20 ⟨rfl, hA20, hF20⟩
        have hS20 := hS19.call hF20 hA20
        have hot20 := own_fr hot19 hF20 hb
        obtain ⟨q21, q21'⟩ := hS20.cell 12 _ rfl
        have hl21 := hS20.lt
        have hT21 : P2 52 (w.heap.size + 1) (w.heap.size + 2) (chgC ⟨#[]⟩ noWin 0 0 0 (.slice none 0 0) 0 (.slice none 0 0) 0 0) w b ts r cap _ _ (chgC n1 x1 a1 bk1 ck1 (.slice A0 l1.length c0) md1 (.slice none 0 0) t.line t.col) := hS20.put 12 [.int .i64 md1]
        have hot21 := own_put hot20 (own_ne_blk hot20 hS20.cb (by decide)) 12 [.int .i64 md1]
        obtain ⟨p22, hP22⟩ := hT21.at_
        go_wp2_with fail
        refine (hs4.out _ _ hP22 _ (by simp [puts, World.setCell])).mono ?_
        rintro e v22 ⟨rfl, hA22, hF22⟩
        have hS22 := hT21.call hF22 hA22
        have hot22 := own_fr hot21 hF22 hb
        go_wp2_with fail
        have hlm : len q6 ≤ 100000 := by obtain ⟨j, hj⟩ := hS22.at_; rw [hj.len]; omega
        have hLA : P2 52 (w.heap.size + 1) (w.heap.size + 2) (chgC ⟨#[]⟩ noWin 0 0 0 (.slice none 0 0) 0 (.slice none 0 0) 0 0) w b ts r cap v22 q6 (chgC n1 x1 a1 bk1 ck1 (.slice A0 l1.length c0) md1 (.slice none 0 0) t.line t.col) := hS22
        have hLO := hot22
        have HDT := Lib.hid hD
        have HH := Lib.hid h
        clear hcut hti hs3 hmd hs4 hS17 hS19 hS20 hS22 hT18 hT21 hot hot0 hot18 hot19 hot20 hot21 hot22 hP17 hP19 hP20 hP22 hA17 hA19 hA20 hA22 hF17 hF19 hF20 hF22 q18 q18' q21 q21' hl18 hl21 hD h
        go_loopw [] (fun wr => ∃ acc s' av, P2 52 (w.heap.size + 1) (w.heap.size + 2) (chgC ⟨#[]⟩ noWin 0 0 0 (.slice none 0 0) 0 (.slice none 0 0) 0 0) w b ts r cap wr s' (chgC n1 x1 a1 bk1 ck1 (.slice A0 l1.length c0) md1 av t.line t.col) ∧ wr.ownsRow w.heap.size 121 3 av acc.length (acc.flatMap adjF) ∧ wr.ownsRow w.heap.size 119 2 (.slice A0 l1.length c0) l1.length (l1.flatMap tierF) ∧ acc.length + len s' ≤ 100000 ∧ Hid (P.adjAll npV acc s' = (d1, d2))) (fun wr => leftOf wr b)
        case atStart => exact ⟨[], q6, (.slice none 0 0), hLA, World.ownsRow_nil _ _ _ _, hLO, by simpa using hlm, HD⟩
        case round =>
          obtain ⟨acc, s', av, hS, hown, hownT, hlen, HK⟩ := hrel
          clear HD hlm hLA hLO
          obtain ⟨jr, hPr⟩ := hS.at_
          have hmea := leftOf_eq hPr
          have hlp : 0 < len s' := by rw [hPr.len]; have := hPr.lt; omega
          have haj := adjust_any hPr hT (DT_at HDT.out HH.out hS.fr)
          have hst := @adjAll_step npV acc s'
          have hen := @adjAll_end npV acc s'
          have hrd := @adj_round npV s'
          rw [HK.out] at hst hen
          clear HK hPr
          generalize P.adjust npV s' = aj at *
          obtain ⟨⟨⟨ak, an, am⟩, ok⟩, s2⟩ := aj
          simp only at hst hen hrd haj
          obtain ⟨A, c3, rfl, hcl, hcm, hA⟩ := Lies.open (f := adjF) (l := acc) (Lies.of hown)
          unfold maxLen at hcm
          cases ok with
          | false =>
            obtain ⟨rfl, rfl⟩ := Prod.mk.inj (hen (.inl rfl) hlp)
            clear hst hen hrd
            go_wp2_with fail
            refine haj.mono ?_
            rintro e v60 ⟨rfl, hA60, hF60⟩
            have hS60 := hS.call hF60 hA60
            have o60 := own_fr hown hF60 hb
            have u60 := own_fr hownT hF60 hb
            obtain ⟨p60, hP60⟩ := hS60.at_
            have hS61 := hS60.alloc (.cells #[.int .i64 ak, .int .i64 an, .int .i64 am] 121)
            have o61 := o60.alloc (.cells #[.int .i64 ak, .int .i64 an, .int .i64 am] 121)
            have u61 := u60.alloc (.cells #[.int .i64 ak, .int .i64 an, .int .i64 am] 121)
            obtain ⟨p62, hP62⟩ := hS61.at_
            go_wp2_with fail
            refine (hs5.out _ _ hP62 _ (by simp)).mono ?_
            rintro e v62 ⟨rfl, hA62, hF62⟩
            have hS62 := hS61.call hF62 hA62
            have o62 := own_fr o61 hF62 hb
            have u62 := own_fr u61 hF62 hb
            obtain ⟨f1, f2, f3⟩ := hS62.finRow (chgC n1 x1 a1 bk1 ck1 (.slice A0 l1.length c0) md1 (.slice A d1.length c3) t.line t.col)
            have o63 := own_row (cs := (chgC n1 x1 a1 bk1 ck1 (.slice A0 l1.length c0) md1 (.slice A d1.length c3) t.line t.col)) o62 (own_ne_blk o62 hS62.rb (by decide))
            have u63 := own_row (cs := (chgC n1 x1 a1 bk1 ck1 (.slice A0 l1.length c0) md1 (.slice A d1.length c3) t.line t.col)) u62 (own_ne_blk u62 hS62.rb (by decide))
            skip
            have hsc : (storeCells ⟨(w.heap.size + 1), 0, none⟩ (chgC n1 x1 a1 bk1 ck1 (.slice A0 l1.length c0) md1 (.slice A d1.length c3) t.line t.col).toList).run Tryd.prog v62 = .ok () (v62.setRow (w.heap.size + 1) (chgC n1 x1 a1 bk1 ck1 (.slice A0 l1.length c0) md1 (.slice A d1.length c3) t.line t.col)) := by
              have hq := run_storeCells_from (P := Tryd.prog) (w.heap.size + 1) 52 (chgC n1 x1 a1 bk1 ck1 (.slice A0 l1.length c0) md1 (.slice A d1.length c3) t.line t.col).toList 0 _ v62 hS62.rb rfl (by simp [chgC, Value.oneCell'])
              simpa using hq
            go_wp2_with (refine wpList_load_row rfl 52 (.tmp 5) rfl (w.heap.size + 2) rfl 52 (chgC n1 x1 a1 bk1 ck1 (.slice A0 l1.length c0) md1 (.slice A d1.length c3) t.line t.col) (0, 0) _ hS62.cb Tryd.underlying52 rfl (by kernel_rfl) ?_)
            exact bodyPost_ret (results_cell_row rfl _ _ (w.heap.size + 1) _ (chgC n1 x1 a1 bk1 ck1 (.slice A0 l1.length c0) md1 (.slice A d1.length c3) t.line t.col) (0, 0) _ rfl f3 Tryd.underlying52 rfl (by kernel_rfl)) rfl ⟨(.slice A0 l1.length c0), .slice A d1.length c3, rfl, u63, o63, f1, f2⟩
          | true =>
            by_cases h0 : s2.err = 0
            · have hst2 := hst rfl h0
              have hrd2 := hrd rfl
              have HK2 := Lib.hid hst2.symm
              have hcalm := fun v j (h : PAt v b ts r cap j s2) => h.calm h0
              clear hst hen hrd hst2 h0
              go_wp2_with fail
              refine haj.mono ?_
              rintro e v1 ⟨rfl, hA1, hF1⟩
              have hS1 := hS.call hF1 hA1
              have o1 := own_fr hown hF1 hb
              have u1 := own_fr hownT hF1 hb
              obtain ⟨p1, hP1⟩ := hS1.at_
              obtain ⟨c1, c2, c3'⟩ := hcalm _ _ hP1
              have hbb := hP1.blk.lt
              have hfe := @fault_neq00
              have hl1 := hS1.lt
              have hS2 := hS1.alloc (.cells #[.int .i64 ak, .int .i64 an, .int .i64 am] 121)
              have hS3 := hS2.alloc (.cells #[.int .i64 ak, .int .i64 an, .int .i64 am] 121)
              have o3 := (o1.alloc (.cells #[.int .i64 ak, .int .i64 an, .int .i64 am] 121)).alloc (.cells #[.int .i64 ak, .int .i64 an, .int .i64 am] 121)
              have u3 := (u1.alloc (.cells #[.int .i64 ak, .int .i64 an, .int .i64 am] 121)).alloc (.cells #[.int .i64 ak, .int .i64 an, .int .i64 am] 121)
              have kn := Blk.new (v1.alloc (.cells #[.int .i64 ak, .int .i64 an, .int .i64 am] 121)) 121 #[.int .i64 ak, .int .i64 an, .int .i64 am]
              rw [World.size_alloc] at kn
              obtain ⟨m13, m13'⟩ := hS1.cell 13 (.slice A acc.length c3) rfl
              have hsz1 := hS1.fr.size
              go_wp2_with (at_builtin; refine wpList_append_lies _ rfl (.tmp 72) (.tmp 74) 50 rfl w.heap.size 121 i1 _ 3 24 Tryd.underlying50 hi1 hy0 hy1 hy2 rfl (by decide) _ _ _ rfl o3 ⟨v1.heap.size + 1, 0, none⟩ 1 1 [.int .i64 ak, .int .i64 an, .int .i64 am] rfl rfl (World.news_of_block (cs := #[.int .i64 ak, .int .i64 an, .int .i64 am]) (t := 121) (fr := (0, 0)) kn) (by simp [Value.oneCell']) (by decide) (by unfold maxLen; omega) (by omega) (by simp; omega) _ rfl ?_; intro g cp w8 hown8 hgrow8 hat8 hlt8; (have hS4 := hS3.grown o3 hgrow8 (by decide)); obtain ⟨n13, n13'⟩ := hS4.cell 13 (.slice A acc.length c3) rfl; have hl4 := hS4.lt)
              have hT5 : P2 52 (w.heap.size + 1) (w.heap.size + 2) (chgC ⟨#[]⟩ noWin 0 0 0 (.slice none 0 0) 0 (.slice none 0 0) 0 0) w b ts r cap _ _ (chgC n1 x1 a1 bk1 ck1 (.slice A0 l1.length c0) md1 (.slice (some ⟨g, 0, none⟩) (acc.length + 1) cp) t.line t.col) := hS4.put 13 [.slice (some ⟨g, 0, none⟩) (acc.length + 1) cp]
              have hown5 := own_put hown8 (own_ne_blk hown8 hS4.cb (by decide)) 13 [.slice (some ⟨g, 0, none⟩) (acc.length + 1) cp]
              have u4 := u3.kept hgrow8 (by
                rcases ho : (Value.slice A0 l1.length c0).ownBlock with _ | x
                · exact .inl rfl
                · exact .inr (fun e => own_ne_own u3 o3 (by decide) ho e.symm))
              have u5 := own_put u4 (own_ne_blk u4 hS4.cb (by decide)) 13 [.slice (some ⟨g, 0, none⟩) (acc.length + 1) cp]
              obtain ⟨p5, hP5⟩ := hT5.at_
              have hmea5 := leftOf_eq hP5
              go_roundw
              case rel => exact ⟨acc ++ [⟨ak, an, am⟩], s2, _, hT5, by rw [flat_snoc, List.length_append]; exact hown5, u5, by rw [List.length_append, List.length_singleton]; omega, HK2⟩
              case measure => exact (by omega : leftOf (puts w8 (w.heap.size + 2) 13 [.slice (some ⟨g, 0, none⟩) (acc.length + 1) cp]) b < leftOf wr b)
            · obtain ⟨rfl, rfl⟩ := Prod.mk.inj (hen (.inr h0) hlp)
              clear hst hen hrd
              go_wp2_with fail
              refine haj.mono ?_
              rintro e v60 ⟨rfl, hA60, hF60⟩
              have hS60 := hS.call hF60 hA60
              have o60 := own_fr hown hF60 hb
              have u60 := own_fr hownT hF60 hb
              obtain ⟨p60, hP60⟩ := hS60.at_
              have g0 : (d2.err != 0) = true := bne_iff_ne.2 h0
              have hfe := fault_neq0 hP60.ok
              rw [g0] at hfe
              obtain ⟨_, c1, c2, c4, _⟩ := hP60.blk.c4
              have hbb := hP60.blk.lt
              have hS61 := hS60.alloc (.cells #[.int .i64 ak, .int .i64 an, .int .i64 am] 121)
              have o61 := o60.alloc (.cells #[.int .i64 ak, .int .i64 an, .int .i64 am] 121)
              have u61 := u60.alloc (.cells #[.int .i64 ak, .int .i64 an, .int .i64 am] 121)
              obtain ⟨p62, hP62⟩ := hS61.at_
              go_wp2_with fail
              refine (hs5.out _ _ hP62 _ (by simp)).mono ?_
              rintro e v62 ⟨rfl, hA62, hF62⟩
              have hS62 := hS61.call hF62 hA62
              have o62 := own_fr o61 hF62 hb
              have u62 := own_fr u61 hF62 hb
              obtain ⟨f1, f2, f3⟩ := hS62.finRow (chgC n1 x1 a1 bk1 ck1 (.slice A0 l1.length c0) md1 (.slice A d1.length c3) t.line t.col)
              have o63 := own_row (cs := (chgC n1 x1 a1 bk1 ck1 (.slice A0 l1.length c0) md1 (.slice A d1.length c3) t.line t.col)) o62 (own_ne_blk o62 hS62.rb (by decide))
              have u63 := own_row (cs := (chgC n1 x1 a1 bk1 ck1 (.slice A0 l1.length c0) md1 (.slice A d1.length c3) t.line t.col)) u62 (own_ne_blk u62 hS62.rb (by decide))
              skip
              have hsc : (storeCells ⟨(w.heap.size + 1), 0, none⟩ (chgC n1 x1 a1 bk1 ck1 (.slice A0 l1.length c0) md1 (.slice A d1.length c3) t.line t.col).toList).run Tryd.prog v62 = .ok () (v62.setRow (w.heap.size + 1) (chgC n1 x1 a1 bk1 ck1 (.slice A0 l1.length c0) md1 (.slice A d1.length c3) t.line t.col)) := by
                have hq := run_storeCells_from (P := Tryd.prog) (w.heap.size + 1) 52 (chgC n1 x1 a1 bk1 ck1 (.slice A0 l1.length c0) md1 (.slice A d1.length c3) t.line t.col).toList 0 _ v62 hS62.rb rfl (by simp [chgC, Value.oneCell'])
                simpa using hq
              go_wp2_with (refine wpList_load_row rfl 52 (.tmp 5) rfl (w.heap.size + 2) rfl 52 (chgC n1 x1 a1 bk1 ck1 (.slice A0 l1.length c0) md1 (.slice A d1.length c3) t.line t.col) (0, 0) _ hS62.cb Tryd.underlying52 rfl (by kernel_rfl) ?_)
              exact bodyPost_ret (results_cell_row rfl _ _ (w.heap.size + 1) _ (chgC n1 x1 a1 bk1 ck1 (.slice A0 l1.length c0) md1 (.slice A d1.length c3) t.line t.col) (0, 0) _ rfl f3 Tryd.underlying52 rfl (by kernel_rfl)) rfl ⟨(.slice A0 l1.length c0), .slice A d1.length c3, rfl, u63, o63, f1, f2⟩
end Go.Proofs.YtcgkfgklggjmaaaDoor.Par
end
section
namespace Go.Proofs.YtcgkfgklggjmaaaDoor.Par
set_option linter.unusedVariables false
set_option linter.unusedSimpArgs false
/-- the tokens of a text end with the end -/
theorem lex_shape : ∀ (n : Nat) (l : List UInt8) (line col : Int) (ts : List Tok), l.length ≤ n → lexL l line col = .ok ts → ts ≠ [] ∧ (∀ t, ts.getLast? = some t → t.kind = 0) ∧ ts.length ≤ l.length + 1 := by
  intro n
  induction n with
  | zero =>
    intro l line col ts hn h
    obtain rfl : l = [] := List.eq_nil_of_length_eq_zero (by omega)
    rw [lexL] at h
    injection h with h
    subst h
    refine ⟨by simp, ?_, by simp⟩
    intro t ht
    simp at ht
    subst ht; rfl
  | succ n ih =>
    intro l line col ts hn h
    cases l with
    | nil =>
      rw [lexL] at h
      injection h with h
      subst h
      refine ⟨by simp, ?_, by simp⟩
      intro t ht
      simp at ht
      subst ht; rfl
    | cons c cs =>
      rw [lexL] at h
      rw [List.length_cons] at hn
      split at h
      · have := ih _ _ _ _ (by rw [List.length_drop]; omega) h
        rw [List.length_drop] at this
        rw [List.length_cons]
        exact ⟨this.1, this.2.1, by omega⟩
      · split at h
        · have := ih _ _ _ _ (by omega) h
          rw [List.length_cons]
          exact ⟨this.1, this.2.1, by omega⟩
        · split at h
          · have := ih _ _ _ _ (by omega) h
            rw [List.length_cons]
            exact ⟨this.1, this.2.1, by omega⟩
          · split at h
            · cases h
            · cases hr : lexL (cs.drop (tokLen c cs)) line (col + 1 + tokLen c cs) with
              | error e => rw [hr] at h; cases h
              | ok ts' =>
                rw [hr] at h
                injection h with h
                subst h
                have := ih _ _ _ _ (by rw [List.length_drop]; omega) hr
                rw [List.length_drop] at this
                refine ⟨by simp, ?_, by rw [List.length_cons, List.length_cons]; omega⟩
                intro t ht
                cases ts' with
                | nil => exact absurd rfl this.1
                | cons a rs =>
                  rw [List.getLast?_cons_cons] at ht
                  exact this.2.1 t ht
theorem all_shape {l : List UInt8} {ts : List Tok} {a b : Int} (h : lexAll l = (ts, 0, a, b)) : ts ≠ [] ∧ (∀ t, ts.getLast? = some t → t.kind = 0) ∧ ts.length ≤ 8193 := by
  unfold lexAll at h
  split at h
  · injection h with _ h
    injection h with h _
    cases h
  · cases hr : lexL l 1 1 with
    | ok ts' =>
      rw [hr] at h
      injection h with h _
      subst h
      have := lex_shape _ l 1 1 _ (Nat.le_refl _) hr
      exact ⟨this.1, this.2.1, by omega⟩
    | error e =>
      rw [hr] at h
      injection h with _ h
      injection h with h _
      cases h
/-- what the reference says of a text -/
def RParse (l : List UInt8) : Plan × Int × Int × Int :=
  if (lexAll l).2.1 ≠ 0 then (noPlan, (lexAll l).2.1, (lexAll l).2.2.1, (lexAll l).2.2.2)
  else if (R.plan dp npV (lexAll l).1).2.err ≠ 0 then (noPlan, (R.plan dp npV (lexAll l).1).2.err, (R.plan dp npV (lexAll l).1).2.line, (R.plan dp npV (lexAll l).1).2.col)
  else ((R.plan dp npV (lexAll l).1).1, 0, 0, 0)
theorem RParse_lex {l : List UInt8} {ts : List Tok} {er a b : Int} (h : lexAll l = (ts, er, a, b)) (h0 : er ≠ 0) : RParse l = (noPlan, er, a, b) := by unfold RParse; rw [h]; exact if_pos h0
theorem RParse_bad {l : List UInt8} {ts : List Tok} {a b : Int} (h : lexAll l = (ts, 0, a, b)) (h0 : (R.plan dp npV ts).2.err ≠ 0) : RParse l = (noPlan, (R.plan dp npV ts).2.err, (R.plan dp npV ts).2.line, (R.plan dp npV ts).2.col) := by
  unfold RParse; rw [h]
  simp only [ne_eq, not_true_eq_false, if_false]
  rw [if_pos h0]
theorem RParse_ok {l : List UInt8} {ts : List Tok} {a b : Int} (h : lexAll l = (ts, 0, a, b)) (h0 : (R.plan dp npV ts).2.err = 0) : RParse l = ((R.plan dp npV ts).1, 0, 0, 0) := by
  unfold RParse; rw [h]
  simp only [ne_eq, not_true_eq_false, if_false]
  rw [if_neg (fun e => e h0)]
theorem rplan_eq (ts : List Tok) : R.plan dp npV ts = R.itemsAll dp npV (R.head dp ⟨ts, 0, 0, 0⟩).1 (R.head dp ⟨ts, 0, 0, 0⟩).2 := rfl
end Go.Proofs.YtcgkfgklggjmaaaDoor.Par
end
section
namespace Go.Proofs.YtcgkfgklggjmaaaDoor.Par
set_option linter.unusedVariables false
set_option linter.unusedSimpArgs false
open Go.RowKit
/-- within the program's Parse -/
structure PS (w0 : World) (b O : Nat) (ts : List Tok) (r cap : Nat) (w : World) (s : St) (p : Plan) (mv fv cv : Value) (cs : List CT) : Prop where
  at_ : ∃ j, PAt w b ts r cap j s
  bl : Below w0.heap.size w0 w
  rb : Blk w w0.heap.size 29 (planC noPlan (.slice none 0 0) (.slice none 0 0) (.slice none 0 0))
  fb : Blk w (w0.heap.size + 1) 34 #[.int .i64 0, .int .i64 0, .int .i64 0]
  ob : Blk w O 29 (planC p mv fv cv)
  rows : Rows w w0.heap.size p mv fv cv cs
  hb : w0.heap.size ≤ b
  hO : w0.heap.size + 1 < O
section
variable {w0 : World} {b O : Nat} {ts : List Tok} {r cap : Nat} {w w' : World} {s s' : St} {p : Plan} {mv fv cv : Value} {cs : List CT}
theorem PS.nb (h : PS w0 b O ts r cap w s p mv fv cv cs) : ¬ blocks mv fv cv cs b := by
  obtain ⟨j, hj⟩ := h.at_
  exact h.rows.apart hj.blk (by decide) (by decide) (by decide) (by decide) (by decide)
theorem PS.nO (h : PS w0 b O ts r cap w s p mv fv cv cs) : ¬ blocks mv fv cv cs O := h.rows.apart h.ob (by decide) (by decide) (by decide) (by decide) (by decide)
theorem PS.nR (h : PS w0 b O ts r cap w s p mv fv cv cs) : ¬ blocks mv fv cv cs w0.heap.size := h.rows.apart h.rb (by decide) (by decide) (by decide) (by decide) (by decide)
theorem PS.nes (h : PS w0 b O ts r cap w s p mv fv cv cs) : b ≠ O ∧ b ≠ w0.heap.size ∧ r ≠ O ∧ r ≠ w0.heap.size ∧ b ≠ w0.heap.size + 1 := by
  obtain ⟨j, hj⟩ := h.at_
  exact ⟨Blk.ne_ hj.blk h.ob (by decide), Blk.ne_ hj.blk h.rb (by decide), fun e => own_ne_blk hj.row h.ob (by decide) (congrArg some e), fun e => own_ne_blk hj.row h.rb (by decide) (congrArg some e), Blk.ne_ hj.blk h.fb (by decide)⟩
theorem PS.call (h : PS w0 b O ts r cap w s p mv fv cv cs) (hf : Fr b w w') (ha : ∃ j, PAt w' b ts r cap j s') : PS w0 b O ts r cap w' s' p mv fv cv cs := by
  obtain ⟨h1, h2, h3, h4, h5⟩ := h.nes
  exact ⟨ha, Fr.toBelow h.bl hf h.hb, hf.blk h.rb (Ne.symm h2), hf.blk h.fb (Ne.symm h5), hf.blk h.ob (Ne.symm h1), h.rows.fr hf h.nb, h.hb, h.hO⟩
theorem PS.below (h : PS w0 b O ts r cap w s p mv fv cv cs) (hf : Below w.heap.size w w') : PS w0 b O ts r cap w' s p mv fv cv cs :=
  h.call (Fr.of_below hf) (by obtain ⟨j, hj⟩ := h.at_; exact ⟨j, hj.below hf⟩)
theorem PS.alloc (h : PS w0 b O ts r cap w s p mv fv cv cs) (o : Obj) : PS w0 b O ts r cap (w.alloc o) s p mv fv cv cs := h.below (bl_alloc (bl_refl _) o)
theorem PS.drew (h : PS w0 b O ts r cap w s p mv fv cv cs) : PS w0 b O ts r cap w.drew s p mv fv cv cs := h.below (bl_drew (bl_refl _))
theorem PS.lt (h : PS w0 b O ts r cap w s p mv fv cv cs) : O < w.heap.size ∧ w0.heap.size < w.heap.size := ⟨h.ob.lt, h.rb.lt⟩
theorem PS.cell (h : PS w0 b O ts r cap w s p mv fv cv cs) (k : Nat) (v : Value) (hv : (planC p mv fv cv)[k]? = some v) : w.cell? ⟨O, k, none⟩ = some v ∧ w.frozen? ⟨O, k, none⟩ = false := ⟨(h.ob.cell k).trans hv, h.ob.frozen k⟩
/-- stores into the plan itself, the rows as they are -/
theorem PS.putO (h : PS w0 b O ts r cap w s p mv fv cv cs) (k : Nat) (vs : List Value) (q : Plan) (hc : setsA (planC p mv fv cv) k vs = planC q mv fv cv) (h1 : q.mets = p.mets) (h2 : q.fees = p.fees) (h3 : q.chgs = p.chgs) : PS w0 b O ts r cap (puts w O k vs) s q mv fv cv cs := by
  obtain ⟨e1, e2, e3, e4, e5⟩ := h.nes
  obtain ⟨j, hj⟩ := h.at_
  have hO := h.hO
  have hr := h.rows.puts_ h.nO k vs
  exact ⟨⟨j, hj.putAll e1 e3 k vs⟩, bl_puts h.bl (by omega) k vs, h.rb.putsFar (by omega) k vs, h.fb.putsFar (by omega) k vs, by have := h.ob.putAll vs k; rwa [hc] at this,
    ⟨by rw [h1]; exact hr.mo, by rw [h2]; exact hr.fo, hr.co, by rw [h3]; exact hr.eq, hr.ne⟩, h.hb, hO⟩
/-- stores into a block of one's own -/
theorem PS.putM (h : PS w0 b O ts r cap w s p mv fv cv cs) {g : Nat} {T : TypeId} {cells : Array Value} (hk : Blk w g T cells) (t1 : 99 ≠ T) (t2 : 29 ≠ T) (t4 : 34 ≠ T) (t3 : 102 ≠ T) (hg : w0.heap.size ≤ g) (hn : ¬ blocks mv fv cv cs g) (k : Nat) (vs : List Value) : PS w0 b O ts r cap (puts w g k vs) s p mv fv cv cs := by
  obtain ⟨j, hj⟩ := h.at_
  have e1 := Blk.ne_ hj.blk hk t1
  have e2 := Blk.ne_ h.ob hk t2
  have e3 := Blk.ne_ h.rb hk t2
  have e5 := Blk.ne_ h.fb hk t4
  have e4 : r ≠ g := fun e => own_ne_blk hj.row hk t3 (congrArg some e)
  exact ⟨⟨j, hj.putAll e1 e4 k vs⟩, bl_puts h.bl hg k vs, h.rb.putsFar e3 k vs, h.fb.putsFar e5 k vs, h.ob.putsFar e2 k vs, h.rows.puts_ hn k vs, h.hb, h.hO⟩
theorem PS.grown {e : TypeId} {size n : Nat} {v : Value} {xs : List Value} (h : PS w0 b O ts r cap w s p mv fv cv cs) (ho : w.ownsRow w0.heap.size e size v n xs) (hg : w.grownBy w' v.ownBlock) (t1 : e ≠ 99) (t2 : e ≠ 29) (t4 : e ≠ 34) (t3 : e ≠ 102) :
    (∃ j, PAt w' b ts r cap j s) ∧ Below w0.heap.size w0 w' ∧ Blk w' w0.heap.size 29 (planC noPlan (.slice none 0 0) (.slice none 0 0) (.slice none 0 0)) ∧ Blk w' (w0.heap.size + 1) 34 #[.int .i64 0, .int .i64 0, .int .i64 0] ∧ Blk w' O 29 (planC p mv fv cv) := by
  obtain ⟨j, hj⟩ := h.at_
  refine ⟨⟨j, hj.grown hg (own_ne_blk ho hj.blk t1) (fun e => own_ne_own ho hj.row t3 e rfl)⟩, h.bl.grown hg h.bl.size (fun k hk => (ho.lt k hk).1), h.rb.grown hg (fun e => own_ne_blk ho h.rb t2 e.symm), h.fb.grown hg (fun e => own_ne_blk ho h.fb t4 e.symm), h.ob.grown hg (fun e => own_ne_blk ho h.ob t2 e.symm)⟩
theorem PS.addMet {mv' : Value} {m : Met} (h : PS w0 b O ts r cap w s p mv fv cv cs) (hg : w.grownBy w' mv.ownBlock) (ho : w'.ownsRow w0.heap.size 44 5 mv' (p.mets.length + 1) (p.mets.flatMap metF ++ metF m)) :
    Blk w' O 29 (planC p mv fv cv) ∧ PS w0 b O ts r cap (puts w' O 8 [mv']) s { p with mets := p.mets ++ [m] } mv' fv cv cs := by
  obtain ⟨e1, e2, e3, e4, e5⟩ := h.nes
  obtain ⟨⟨j, hj⟩, hb, hr, hfb, hob⟩ := h.grown h.rows.mo hg (by decide) (by decide) (by decide) (by decide)
  have hrows := h.rows.addMet hg ho
  have hn := hrows.apart hob (by decide) (by decide) (by decide) (by decide) (by decide)
  have hO := h.hO
  exact ⟨hob, ⟨j, hj.putAll e1 e3 8 _⟩, bl_puts hb (by omega) 8 _, hr.putsFar (by omega) 8 _, hfb.putsFar (by omega) 8 _, hob.putAll [mv'] 8, hrows.puts_ hn 8 _, h.hb, hO⟩
theorem PS.addFee {fv' : Value} {f : Fee} (h : PS w0 b O ts r cap w s p mv fv cv cs) (hg : w.grownBy w' fv.ownBlock) (ho : w'.ownsRow w0.heap.size 48 10 fv' (p.fees.length + 1) (p.fees.flatMap feeF ++ feeF f)) :
    Blk w' O 29 (planC p mv fv cv) ∧ PS w0 b O ts r cap (puts w' O 9 [fv']) s { p with fees := p.fees ++ [f] } mv fv' cv cs := by
  obtain ⟨e1, e2, e3, e4, e5⟩ := h.nes
  obtain ⟨⟨j, hj⟩, hb, hr, hfb, hob⟩ := h.grown h.rows.fo hg (by decide) (by decide) (by decide) (by decide)
  have hrows := h.rows.addFee hg ho
  have hn := hrows.apart hob (by decide) (by decide) (by decide) (by decide) (by decide)
  have hO := h.hO
  exact ⟨hob, ⟨j, hj.putAll e1 e3 9 _⟩, bl_puts hb (by omega) 9 _, hr.putsFar (by omega) 9 _, hfb.putsFar (by omega) 9 _, hob.putAll [fv'] 9, hrows.puts_ hn 9 _, h.hb, hO⟩
theorem PS.addChg {cv' tv av : Value} {c : Chg} (h : PS w0 b O ts r cap w s p mv fv cv cs) (ht : TiersLie w0.heap.size w tv c.tiers) (ha : AdjsLie w0.heap.size w av c.adjs) (hg : w.grownBy w' cv.ownBlock) (ho : w'.ownsRow w0.heap.size 52 16 cv' (cs.length + 1) (cs.flatMap chgF ++ chgF (c, tv, av))) :
    Blk w' O 29 (planC p mv fv cv) ∧ PS w0 b O ts r cap (puts w' O 10 [cv']) s { p with chgs := p.chgs ++ [c] } mv fv cv' (cs ++ [(c, tv, av)]) := by
  obtain ⟨e1, e2, e3, e4, e5⟩ := h.nes
  obtain ⟨⟨j, hj⟩, hb, hr, hfb, hob⟩ := h.grown h.rows.co hg (by decide) (by decide) (by decide) (by decide)
  have hrows := h.rows.addChg ht ha hg ho
  have hn := hrows.apart hob (by decide) (by decide) (by decide) (by decide) (by decide)
  have hO := h.hO
  exact ⟨hob, ⟨j, hj.putAll e1 e3 10 _⟩, bl_puts hb (by omega) 10 _, hr.putsFar (by omega) 10 _, hfb.putsFar (by omega) 10 _, hob.putAll [cv'] 10, hrows.puts_ hn 10 _, h.hb, hO⟩
end
end Go.Proofs.YtcgkfgklggjmaaaDoor.Par
end
