import Derived.Test.YtcgkfgklggjmaaaGreatDoorGa
import Derived.Laws.BytesArg
import Derived.Deep.RegionLaw
section
namespace Go.Proofs.YtcgkfgklggjmaaaGreatDoor.Par
set_option linter.unusedVariables false
set_option linter.unusedSimpArgs false
open Go.RowKit
/-- the reference's parser in memory -/
structure RAt (w : World) (b : Nat) (ts : List Tok) (r cap i : Nat) (s : St) : Prop where
  blk : Blk w b 72 #[.slice (some ⟨r, 0, none⟩) ts.length cap, .int .i64 i, .int .i64 s.err, .int .i64 s.line, .int .i64 s.col]
  row : w.ownsRow 0 74 4 (.slice (some ⟨r, 0, none⟩) ts.length cap) ts.length (toksCells ts)
  ne : r ≠ b
  rest : s.rest = ts.drop i
  lt : i < ts.length
  last : ∀ t, ts.getLast? = some t → t.kind = 0
  big : ts.length < 100000
  ends : ∀ t ∈ ts, t.text.size ≤ 8192
theorem RAt.peek_at {w : World} {b : Nat} {ts : List Tok} {r cap i : Nat} {s : St} (h : RAt w b ts r cap i s) : ts[i]? = some (peek s) := by
  unfold peek
  rw [h.rest, List.getElem?_eq_getElem h.lt, List.drop_eq_getElem_cons h.lt]
  rfl
theorem RAt.tok {w : World} {b : Nat} {ts : List Tok} {r cap i : Nat} {s : St} (h : RAt w b ts r cap i s) :
    w.cell? ⟨r, i * 4, none⟩ = some (.int .i64 (peek s).kind) ∧ w.cell? ⟨r, i * 4 + 1, none⟩ = some (.string (peek s).text) ∧ w.cell? ⟨r, i * 4 + 2, none⟩ = some (.int .i64 (peek s).line) ∧ w.cell? ⟨r, i * 4 + 3, none⟩ = some (.int .i64 (peek s).col) :=
  tok_cells h.row h.peek_at rfl
theorem RAt.below {w w' : World} {b : Nat} {ts : List Tok} {r cap i : Nat} {s : St} (h : RAt w b ts r cap i s) (hb : Below w.heap.size w w') : RAt w' b ts r cap i s :=
  ⟨h.blk.call hb, own_base (ownsRow_below h.row hb) (Nat.zero_le _), h.ne, h.rest, h.lt, h.last, h.big, h.ends⟩
theorem RAt.far {w : World} {b : Nat} {ts : List Tok} {r cap i : Nat} {s : St} (h : RAt w b ts r cap i s) (p : Addr) (hb : b ≠ p.block) (hr : r ≠ p.block) (u : Value) : RAt (w.setCell p u) b ts r cap i s :=
  ⟨h.blk.far hb u, own_keep h.row (fun g hg => by obtain rfl : r = g := Option.some.inj hg; exact Below.heap_setCell _ _ _ _ hr), h.ne, h.rest, h.lt, h.last, h.big, h.ends⟩
theorem RAt.putAll {w : World} {b : Nat} {ts : List Tok} {r cap i : Nat} {s : St} (h : RAt w b ts r cap i s) {g : Nat} (hb : b ≠ g) (hr : r ≠ g) (k : Nat) (vs : List Value) : RAt (puts w g k vs) b ts r cap i s :=
  ⟨h.blk.putsFar hb k vs, own_keep h.row (fun x hx => by obtain rfl : r = x := Option.some.inj hx; exact (puts_heap vs w k).1 r hr), h.ne, h.rest, h.lt, h.last, h.big, h.ends⟩
theorem RAt.drew {w : World} {b : Nat} {ts : List Tok} {r cap i : Nat} {s : St} (h : RAt w b ts r cap i s) : RAt w.drew b ts r cap i s := ⟨h.blk, h.row, h.ne, h.rest, h.lt, h.last, h.big, h.ends⟩
theorem RAt.drewN {w : World} {b : Nat} {ts : List Tok} {r cap i : Nat} {s : St} (h : RAt w b ts r cap i s) (n : Nat) : RAt (w.drewN n) b ts r cap i s := ⟨h.blk, h.row, h.ne, h.rest, h.lt, h.last, h.big, h.ends⟩
theorem RAt.rlt {w : World} {b : Nat} {ts : List Tok} {r cap i : Nat} {s : St} (h : RAt w b ts r cap i s) : r < w.heap.size := World.block_lt_of_cell? w _ h.tok.1
theorem RAt.size {w : World} {b : Nat} {ts : List Tok} {r cap i : Nat} {s : St} (h : RAt w b ts r cap i s) : (peek s).text.size ≤ 8192 := h.ends _ (List.mem_of_getElem? h.peek_at)
theorem RAt.next {w : World} {b : Nat} {ts : List Tok} {r cap i : Nat} {s : St} (h : RAt w b ts r cap i s) (hk : (peek s).kind ≠ 0) : i + 1 < ts.length := by
  have hlt := h.lt
  rcases Nat.lt_or_ge (i + 1) ts.length with h2 | h2
  · exact h2
  · exfalso
    have hl : ts.getLast? = some (peek s) := by
      rw [List.getLast?_eq_getElem?, show ts.length - 1 = i by omega]
      exact h.peek_at
    exact hk (h.last _ hl)
/-- a step on -/
theorem RAt.step {w : World} {b : Nat} {ts : List Tok} {r cap i : Nat} {s : St} (h : RAt w b ts r cap i s) (hk : (peek s).kind ≠ 0) : RAt (w.setCell ⟨b, 1, none⟩ (.int .i64 ((i + 1 : Nat) : Int))) b ts r cap (i + 1) (drop1 s) :=
  ⟨h.blk.set_ 1 _, own_keep h.row (fun g hg => by obtain rfl : r = g := Option.some.inj hg; exact Below.heap_setCell _ _ _ _ h.ne), h.ne, by show s.rest.tail = _; rw [h.rest, List.tail_drop], h.next hk, h.last, h.big, h.ends⟩
/-- a fault -/
theorem RAt.fault {w : World} {b : Nat} {ts : List Tok} {r cap i : Nat} {s : St} (h : RAt w b ts r cap i s) (e : Int) (h0 : s.err = 0) : RAt (((w.setCell ⟨b, 2, none⟩ (.int .i64 e)).setCell ⟨b, 3, none⟩ (.int .i64 (peek s).line)).setCell ⟨b, 4, none⟩ (.int .i64 (peek s).col)) b ts r cap i (R.wrong e s) := by
  have hf : R.wrong e s = { s with err := e, line := (peek s).line, col := (peek s).col } := by unfold R.wrong Par.fail; rw [if_pos h0]
  rw [hf]
  have hrow := fun (v : World) (u : Nat) (x : Value) (hv : v.ownsRow 0 74 4 (.slice (some ⟨r, 0, none⟩) ts.length cap) ts.length (toksCells ts)) => own_keep (w' := v.setCell ⟨b, u, none⟩ x) hv (fun g hg => by obtain rfl : r = g := Option.some.inj hg; exact Below.heap_setCell _ _ _ _ h.ne)
  exact ⟨((h.blk.set_ 2 _).set_ 3 _).set_ 4 _, hrow _ 4 _ (hrow _ 3 _ (hrow _ 2 _ h.row)), h.ne, h.rest, h.lt, h.last, h.big, h.ends⟩
set_option maxHeartbeats 2000000 in
set_option maxRecDepth 100000 in
theorem wrong_any {w : World} {b : Nat} {ts : List Tok} {r cap i : Nat} {s : St} (h : RAt w b ts r cap i s) (e : Int) :
    Calls Tryz.prog 39 #[.pointer (some ⟨b, 0, none⟩), .int .i64 e] w fun en w' => en = .returned (.tuple #[]) ∧ RAt w' b ts r cap i (R.wrong e s) ∧ Fr b w w' := by
  obtain ⟨t0, t1, t2, t3⟩ := h.tok
  obtain ⟨c0, c1, c2, c3, c4, f0, f1, f2, f3, f4⟩ := h.blk.c5
  have hb := h.blk.lt
  have hr := h.rlt
  have hne := h.ne
  have hlt := h.lt
  have hbig := h.big
  have b0 : (0 : Int) ≤ (i : Int) := by omega
  have b1 : (i : Int) < (ts.length : Int) := by omega
  by_cases h0 : s.err = 0
  · have hF := h.fault e h0
    rw [h0] at c2
    generalize R.wrong e s = s' at *
    generalize peek s = t at *
    clear h0
    go_enter Tryz.func39, Tryz.ntmps39
    go_wp2_with fail
    go_region
    all_goals go_wp2_with fail
    all_goals go_region
    all_goals go_wp2_with fail
    all_goals go_end0
    exact ⟨rfl, hF.drew.drew, (((((Fr.refl b w).set ⟨b, 2, none⟩ rfl (.int .i64 e)).set ⟨b, 3, none⟩ rfl (.int .i64 t.line)).set ⟨b, 4, none⟩ rfl (.int .i64 t.col)).drew).drew⟩
  · have hn : (s.err == 0) = false := beq_eq_false_iff_ne.2 h0
    have hw : R.wrong e s = s := fail_keep h0
    rw [hw]
    go_enter Tryz.func39, Tryz.ntmps39
    go_wp2_with fail
    go_end0
    exact ⟨rfl, h, Fr.refl b w⟩
set_option maxHeartbeats 2000000 in
set_option maxRecDepth 100000 in
theorem on_any {w : World} {b : Nat} {ts : List Tok} {r cap i : Nat} {s : St} (h : RAt w b ts r cap i s) (x : ByteArray) :
    Calls Tryz.prog 135 #[.pointer (some ⟨b, 0, none⟩), .string x] w fun en w' => en = .returned (.bool (s.err == 0 && on x s)) ∧ Below w.heap.size w w' := by
  obtain ⟨t0, t1, t2, t3⟩ := h.tok
  obtain ⟨c0, c1, c2, c3, c4, f0, f1, f2, f3, f4⟩ := h.blk.c5
  have hb := h.blk.lt
  have hr := h.rlt
  have hlt := h.lt
  have hbig := h.big
  have b0 : (0 : Int) ≤ (i : Int) := by omega
  have b1 : (i : Int) < (ts.length : Int) := by omega
  have hon : on x s = (((peek s).kind == 2 || (peek s).kind == 5) && (peek s).text == x) := rfl
  rw [hon]
  clear hon
  have kz := Blk.new w 74 #[.int .i64 0, .string ⟨#[]⟩, .int .i64 0, .int .i64 0]
  obtain ⟨z0, z1, z2, z3, _⟩ := kz.c4
  generalize peek s = t at *
  have hcase : (s.err == 0) = false ∨ ((s.err == 0) = true ∧ (t.kind == 2) = true) ∨ ((s.err == 0) = true ∧ (t.kind == 2) = false ∧ (t.kind == 5) = true) ∨ ((s.err == 0) = true ∧ (t.kind == 2) = false ∧ (t.kind == 5) = false) := by
    cases (s.err == 0) <;> cases (t.kind == 2) <;> cases (t.kind == 5) <;> simp
  rcases hcase with h0 | ⟨h0, h2⟩ | ⟨h0, h2, h5⟩ | ⟨h0, h2, h5⟩
  all_goals
    go_enter Tryz.func135, Tryz.ntmps135
    go_wp2_with fail
    go_region
    all_goals go_wp2_with fail
    all_goals go_ret
    refine ⟨?_, bl_drew (bl_alloc (bl_refl w) _)⟩
  · rw [h0]; rfl
  · rw [h0, h2, ← beq_bytes]; rfl
  · rw [h0, h2, h5, ← beq_bytes]; rfl
  · rw [h0, h2, h5]; rfl
end Go.Proofs.YtcgkfgklggjmaaaGreatDoor.Par
end
section
namespace Go.Proofs.YtcgkfgklggjmaaaGreatDoor.Par
set_option linter.unusedVariables false
set_option linter.unusedSimpArgs false
open Go.RowKit
set_option maxHeartbeats 2000000 in
set_option maxRecDepth 100000 in
theorem take_any {w : World} {b : Nat} {ts : List Tok} {r cap i : Nat} {s : St} (h : RAt w b ts r cap i s) (x : ByteArray) :
    Calls Tryz.prog 79 #[.pointer (some ⟨b, 0, none⟩), .string x] w fun en w' => en = .returned (.bool (R.take x s).1) ∧ (∃ j, RAt w' b ts r cap j (R.take x s).2) ∧ Fr b w w' := by
  have hb := h.blk.lt
  have hlt := h.lt
  have hbig := h.big
  have hon := on_any h x
  by_cases hc : s.err = 0 ∧ on x s = true
  · have e0 : R.take x s = (true, drop1 s) := by unfold R.take; rw [if_pos hc]
    have e1 : (s.err == 0 && on x s) = true := by rw [hc.1, hc.2]; rfl
    rw [e0]
    rw [e1] at hon
    have hst := fun v (hv : Below w.heap.size w v) => (h.below hv).step (on_kind hc.2)
    have hnx := h.next (on_kind hc.2)
    clear e0 e1 hc
    go_enter Tryz.func79, Tryz.ntmps79
    go_wp2_with fail
    refine hon.mono ?_
    rintro e w1 ⟨rfl, hb1⟩
    have h1 := h.below hb1
    obtain ⟨c0, c1, c2, c3, c4, f0, f1, f2, f3, f4⟩ := h1.blk.c5
    have hbl1 := h1.blk.lt
    go_wp2_with fail
    go_ret
    refine ⟨rfl, ⟨i + 1, ?_⟩, (Fr.of_below hb1).set ⟨b, 1, none⟩ rfl _⟩
    exact hst w1 hb1
  · have e0 : R.take x s = (false, s) := by unfold R.take; rw [if_neg hc]
    have e1 : (s.err == 0 && on x s) = false := by
      cases h1 : (s.err == 0) with
      | false => rfl
      | true => cases h2 : on x s with
        | false => rfl
        | true => exact absurd ⟨by simpa using h1, h2⟩ hc
    rw [e0]
    rw [e1] at hon
    clear e0 e1 hc
    go_enter Tryz.func79, Tryz.ntmps79
    go_wp2_with fail
    refine hon.mono ?_
    rintro e w1 ⟨rfl, hb1⟩
    go_wp2_with fail
    go_ret
    exact ⟨rfl, ⟨i, h.below hb1⟩, Fr.of_below hb1⟩
set_option maxHeartbeats 2000000 in
set_option maxRecDepth 100000 in
theorem want_any {w : World} {b : Nat} {ts : List Tok} {r cap i : Nat} {s : St} (h : RAt w b ts r cap i s) (x : ByteArray) :
    Calls Tryz.prog 32 #[.pointer (some ⟨b, 0, none⟩), .string x] w fun en w' => en = .returned (.tuple #[]) ∧ (∃ j, RAt w' b ts r cap j (R.want x s)) ∧ Fr b w w' := by
  have ht := take_any h x
  unfold R.want
  generalize R.take x s = y at *
  obtain ⟨y1, y2⟩ := y
  cases y1 with
  | true =>
    rw [if_pos rfl]
    go_enter Tryz.func32, Tryz.ntmps32
    go_wp2_with fail
    refine ht.mono ?_
    rintro e w1 ⟨rfl, hP, hF⟩
    go_wp2_with fail
    go_end0
    exact ⟨rfl, hP, hF⟩
  | false =>
    rw [if_neg (fun e => Bool.false_ne_true e)]
    go_enter Tryz.func32, Tryz.ntmps32
    go_wp2_with fail
    refine ht.mono ?_
    rintro e w1 ⟨rfl, ⟨j, hP⟩, hF⟩
    go_wp2_with fail
    refine (wrong_any hP 4).mono ?_
    rintro e w2 ⟨rfl, hP2, hF2⟩
    go_wp2_with fail
    go_end0
    exact ⟨rfl, ⟨j, hP2⟩, hF.trans hF2⟩
set_option maxHeartbeats 2000000 in
set_option maxRecDepth 100000 in
theorem token_any {w : World} {b : Nat} {ts : List Tok} {r cap i : Nat} {s : St} (h : RAt w b ts r cap i s) (k : Int) (hk0 : k ≠ 0) :
    Calls Tryz.prog 33 #[.pointer (some ⟨b, 0, none⟩), .int .i64 k] w fun en w' => en = .returned (.string (R.token k s).1) ∧ (∃ j, RAt w' b ts r cap j (R.token k s).2) ∧ Fr b w w' := by
  obtain ⟨t0, t1, t2, t3⟩ := h.tok
  obtain ⟨c0, c1, c2, c3, c4, f0, f1, f2, f3, f4⟩ := h.blk.c5
  have hb := h.blk.lt
  have hr := h.rlt
  have hlt := h.lt
  have hbig := h.big
  have b0 : (0 : Int) ≤ (i : Int) := by omega
  have b1 : (i : Int) < (ts.length : Int) := by omega
  have kz := Blk.new w 74 #[.int .i64 0, .string ⟨#[]⟩, .int .i64 0, .int .i64 0]
  obtain ⟨z0, z1, z2, z3, _⟩ := kz.c4
  have hbl := bl_drew (bl_alloc (bl_refl w) (.cells #[.int .i64 (peek s).kind, .string (peek s).text, .int .i64 (peek s).line, .int .i64 (peek s).col] 74))
  have h1 := h.below hbl
  have hw := wrong_any h1 4
  by_cases hc : s.err ≠ 0 ∨ (peek s).kind ≠ k
  · have e0 : R.token k s = (⟨#[]⟩, R.wrong 4 s) := by unfold R.token; rw [if_pos hc]
    rw [e0]
    have hcase : (s.err != 0) = true ∨ ((s.err != 0) = false ∧ ((peek s).kind != k) = true) := by
      by_cases h0 : s.err = 0
      · right
        rw [h0]
        exact ⟨rfl, bne_iff_ne.2 (hc.resolve_left (fun e => e h0))⟩
      · left; exact bne_iff_ne.2 h0
    generalize R.wrong 4 s = s' at *
    generalize peek s = t at *
    clear e0 hc
    rcases hcase with g0 | ⟨g0, g1⟩
    all_goals
      go_enter Tryz.func33, Tryz.ntmps33
      go_wp2_with fail
      go_region
      go_wp2_with fail
      refine hw.mono ?_
      rintro e w1 ⟨rfl, hP, hF⟩
      go_wp2_with fail
      go_ret
      exact ⟨rfl, ⟨i, hP⟩, (Fr.of_below hbl).trans hF⟩
  · have hc1 : s.err = 0 := Classical.byContradiction fun e => hc (.inl e)
    have hc2 : (peek s).kind = k := Classical.byContradiction fun e => hc (.inr e)
    have e0 : R.token k s = ((peek s).text, drop1 s) := by unfold R.token; rw [if_neg hc]
    rw [e0]
    have g0 : (s.err != 0) = false := by rw [hc1]; rfl
    have g1 : ((peek s).kind != k) = false := by rw [hc2]; simp
    have hst := ((h.step (by rw [hc2]; exact hk0)).below (bl_alloc (bl_refl _) (.cells #[.int .i64 (peek s).kind, .string (peek s).text, .int .i64 (peek s).line, .int .i64 (peek s).col] 74))).drew
    generalize peek s = t at *
    clear e0 hc hc1 hc2
    go_enter Tryz.func33, Tryz.ntmps33
    go_wp2_with fail
    go_region
    go_wp2_with fail
    go_ret
    exact ⟨rfl, ⟨i + 1, hst⟩, (((Fr.refl b w).set ⟨b, 1, none⟩ rfl _).trans (Fr.of_below (bl_alloc (bl_refl _) _))).drew⟩
end Go.Proofs.YtcgkfgklggjmaaaGreatDoor.Par
end
section
namespace Go.Proofs.YtcgkfgklggjmaaaGreatDoor
set_option linter.unusedVariables false
set_option linter.unusedSimpArgs false
open Go.RowKit
theorem leap_any (y : Int) (w : World) :
    Calls Tryz.prog 188 #[.int .i64 y] w fun e w' => e = .returned (.bool (leapB y)) ∧ w = w' := by
  go_enter Tryz.func188, Tryz.ntmps188
  go_wp2
  all_goals
    go_ret
    refine ⟨ret_bool ?_, rfl⟩
    simp only [leapB]
    simp only [tmod_beq, tmod_bne, bne_iff_ne, ne_eq, beq_iff_eq, tmod_zero] at *
    simp [*]
theorem rleap_any (y : Int) (w : World) :
    Calls Tryz.prog 157 #[.int .i64 y] w fun e w' => e = .returned (.bool (leapB y)) ∧ w = w' := by
  go_enter Tryz.func157, Tryz.ntmps157
  go_wp2
  all_goals
    go_ret
    refine ⟨ret_bool ?_, rfl⟩
    simp only [beq_iff_eq, beq_eq_false_iff_ne, ne_eq, tmod_zero, tmod_beq] at *
    first | (rw [leap_400 _ (by assumption)]; done) | (rw [leap_100 _ (by assumption) (by assumption)]; done) | (rw [leap_ref _ (by assumption) (by assumption)]; done)
theorem days_any (y m : Int) (w : World) :
    Calls Tryz.prog 142 #[.int .i64 y, .int .i64 m] w fun e w' => e = .returned (.int .i64 (daysI y m)) ∧ w = w' := by
  go_enter Tryz.func142, Tryz.ntmps142
  go_wp2_with (go_at_call 188; refine (leap_any _ _).mono ?_; rintro e w' ⟨rfl, rfl⟩)
  all_goals
    go_ret
    refine ⟨ret_int ?_, rfl⟩
    simp only [beq_iff_eq, beq_eq_false_iff_ne, ne_eq] at *
    first
    | (rw [days_30 _ _ (by omega)]; done)
    | (rw [days_31 _ _ (by omega)]; done)
    | (rw [days_none _ _ (by omega)]; done)
    | (subst m; first | rw [days_2t _ (by assumption)] | rw [days_2f _ (by assumption)])
set_option maxHeartbeats 4000000 in
theorem rdays_any (y m : Int) (w : World) :
    Calls Tryz.prog 146 #[.int .i64 y, .int .i64 m] w fun e w' => e = .returned (.int .i64 (daysI y m)) ∧ Below w.heap.size w w' := by
  by_cases h1 : m < 1
  · go_enter Tryz.func146, Tryz.ntmps146
    go_wp2
    go_ret
    exact ⟨ret_int (days_none _ _ (by omega)).symm, Below.refl _ _⟩
  by_cases h2 : 12 < m
  · go_enter Tryz.func146, Tryz.ntmps146
    go_wp2
    go_ret
    exact ⟨ret_int (days_none _ _ (by omega)).symm, Below.refl _ _⟩
  rcases (by omega : m = 1 ∨ m = 2 ∨ m = 3 ∨ m = 4 ∨ m = 5 ∨ m = 6 ∨ m = 7 ∨ m = 8 ∨ m = 9 ∨ m = 10 ∨ m = 11 ∨ m = 12) with rfl | rfl | rfl | rfl | rfl | rfl | rfl | rfl | rfl | rfl | rfl | rfl
  all_goals
    clear h1 h2
    go_enter Tryz.func146, Tryz.ntmps146
    go_wp2_with (go_at_call 157; refine (rleap_any _ _).mono ?_; rintro e w' ⟨rfl, rfl⟩)
  all_goals
    go_ret
    refine ⟨ret_int ?_, ?_⟩
    · first | rfl | exact (days_2t _ (by assumption)).symm | exact (days_2f _ (by assumption)).symm
    · first | exact Below.refl _ _ | exact (Below.refl _ _).alloc (Nat.le_refl _) _
theorem good_any (y m d : Int) (w : World) :
    Calls Tryz.prog 86 #[.agg #[.int .i64 y, .int .i64 m, .int .i64 d]] w fun e w' => e = .returned (.bool (goodB y m d)) ∧ Below w.heap.size w w' := by
  by_cases h1 : 1 ≤ y
  · by_cases h2 : y ≤ 9999
    · by_cases h3 : 1 ≤ d
      · go_enter Tryz.func86, Tryz.ntmps86
        go_wp2
        go_quiet ((go_at_call 142; exact quiet_left (days_any _ _ _)))
        go_wp2
        go_ret
        refine ⟨ret_bool (by simp [goodB, h1, h2, h3] <;> omega), below_drewN ((Below.refl _ _).alloc (Nat.le_refl _) _) _⟩
      · have hd : decide (1 ≤ d) = false := by simpa using h3
        go_enter Tryz.func86, Tryz.ntmps86
        go_wp2
        go_quiet (fail)
        go_wp2
        go_ret
        refine ⟨ret_bool (by simp [goodB, h1, h2, h3] <;> omega), below_drewN ((Below.refl _ _).alloc (Nat.le_refl _) _) _⟩
    · have hd : decide (y ≤ 9999) = false := by simpa using h2
      go_enter Tryz.func86, Tryz.ntmps86
      go_wp2
      go_quiet (fail)
      go_wp2
      go_ret
      refine ⟨ret_bool (by simp [goodB, h1, h2] <;> omega), below_drewN ((Below.refl _ _).alloc (Nat.le_refl _) _) _⟩
  · have hd : decide (1 ≤ y) = false := by simpa using h1
    go_enter Tryz.func86, Tryz.ntmps86
    go_wp2
    go_quiet (fail)
    go_wp2
    go_ret
    refine ⟨ret_bool (by simp [goodB, h1] <;> omega), below_drewN ((Below.refl _ _).alloc (Nat.le_refl _) _) _⟩
theorem rgood_of (y m d : Int) (h : 1 ≤ y ∧ y ≤ 9999 ∧ 1 ≤ m ∧ m ≤ 12 ∧ 1 ≤ d) : decide (d ≤ daysI y m) = goodB y m d := by
  simp [goodB, h.1, h.2.1, h.2.2.2.2]
theorem rgood_no (y m d : Int) (h : y < 1 ∨ 9999 < y ∨ m < 1 ∨ 12 < m ∨ d < 1) : goodB y m d = false := by
  refine Bool.eq_false_iff.2 fun hc => ?_
  have := good_of hc
  omega
end Go.Proofs.YtcgkfgklggjmaaaGreatDoor
end
section
namespace Go.Proofs.YtcgkfgklggjmaaaGreatDoor
set_option linter.unusedVariables false
set_option linter.unusedSimpArgs false
open Go.RowKit
set_option maxHeartbeats 4000000 in
theorem rgood_any (y m d : Int) (w : World) :
    Calls Tryz.prog 93 #[.agg #[.int .i64 y, .int .i64 m, .int .i64 d]] w fun e w' => e = .returned (.bool (goodB y m d)) ∧ Below w.heap.size w w' := by
  by_cases hh : 1 ≤ y ∧ y ≤ 9999 ∧ 1 ≤ m ∧ m ≤ 12 ∧ 1 ≤ d
  · have hg := rgood_of y m d hh
    obtain ⟨h1, h2, h4, h5, h3⟩ := hh
    have HG := Lib.hid hg
    clear hg
    go_enter Tryz.func93, Tryz.ntmps93
    go_wp2
    go_region_held3 (fun w' => w'.cell? ⟨w.heap.size, 0, none⟩ = some (.int .i64 y) ∧ w'.cell? ⟨w.heap.size, 1, none⟩ = some (.int .i64 m) ∧ w'.cell? ⟨w.heap.size, 2, none⟩ = some (.int .i64 d))
      (first
        | go_keep
        | (refine ⟨?_, ?_, ?_⟩ <;> (rw [hb1.cell (by simp)]; simp [go_sem])))
      ((go_at_call 146; refine (rdays_any _ _ _).mono ?_; rintro e w' ⟨rfl, hb1⟩))
    go_wp2
    go_ret
    refine ⟨ret_bool (by rw [HG.out]), ?_⟩
    exact bl_call (bl_drew (bl_alloc (bl_refl _) _)) hb1
  · have hg := rgood_no y m d (by omega)
    have HG := Lib.hid hg
    clear hg
    by_cases h1 : 1 ≤ y
    · by_cases h2 : y ≤ 9999
      · by_cases h4 : 1 ≤ m
        · by_cases h5 : m ≤ 12
          · have h3 : decide (1 ≤ d) = false := by rw [decide_eq_false_iff_not]; omega
            go_enter Tryz.func93, Tryz.ntmps93
            go_wp2
            go_quiet (fail)
            go_wp2
            go_ret
            exact ⟨ret_bool (by rw [HG.out]), below_drewN ((Below.refl _ _).alloc (Nat.le_refl _) _) _⟩
          · have h3 : decide (m ≤ 12) = false := by rw [decide_eq_false_iff_not]; omega
            go_enter Tryz.func93, Tryz.ntmps93
            go_wp2
            go_quiet (fail)
            go_wp2
            go_ret
            exact ⟨ret_bool (by rw [HG.out]), below_drewN ((Below.refl _ _).alloc (Nat.le_refl _) _) _⟩
        · have h3 : decide (1 ≤ m) = false := by rw [decide_eq_false_iff_not]; omega
          go_enter Tryz.func93, Tryz.ntmps93
          go_wp2
          go_quiet (fail)
          go_wp2
          go_ret
          exact ⟨ret_bool (by rw [HG.out]), below_drewN ((Below.refl _ _).alloc (Nat.le_refl _) _) _⟩
      · have h3 : decide (y ≤ 9999) = false := by rw [decide_eq_false_iff_not]; omega
        go_enter Tryz.func93, Tryz.ntmps93
        go_wp2
        go_quiet (fail)
        go_wp2
        go_ret
        exact ⟨ret_bool (by rw [HG.out]), below_drewN ((Below.refl _ _).alloc (Nat.le_refl _) _) _⟩
    · have h3 : decide (1 ≤ y) = false := by rw [decide_eq_false_iff_not]; omega
      go_enter Tryz.func93, Tryz.ntmps93
      go_wp2
      go_quiet (fail)
      go_wp2
      go_ret
      exact ⟨ret_bool (by rw [HG.out]), below_drewN ((Below.refl _ _).alloc (Nat.le_refl _) _) _⟩
end Go.Proofs.YtcgkfgklggjmaaaGreatDoor
end
section
namespace Go.Proofs.YtcgkfgklggjmaaaGreatDoor
set_option linter.unusedVariables false
set_option linter.unusedSimpArgs false
open Go.RowKit
theorem width_one (s : ByteArray) (pos : Nat) (h : pos < s.size) : ((s[pos]'h).toNat < 128 ∧ Utf8.decode s pos = ((s[pos]'h).toNat, 1)) ∨ (128 ≤ (s[pos]'h).toNat ∧ 128 ≤ (Utf8.decode s pos).1 ∧ (Utf8.decode s pos).1 ≤ 2147483647) := by
  by_cases ha : (s[pos]'h).toNat < 128
  · exact .inl ⟨ha, decode_ascii s pos h ha⟩
  · exact .inr ⟨by omega, (decode_high s pos h (by omega)).1, decode_le s pos⟩
def pOk (s : ByteArray) : Bool := parseOk s.data.toList
def pY (s : ByteArray) : Int := if parseOk s.data.toList then parseY s.data.toList else 0
def pM (s : ByteArray) : Int := if parseOk s.data.toList then parseM s.data.toList else 0
def pD (s : ByteArray) : Int := if parseOk s.data.toList then parseD s.data.toList else 0
theorem p_no {s : ByteArray} (h : parseOk s.data.toList = false) : pY s = 0 ∧ pM s = 0 ∧ pD s = 0 ∧ pOk s = false := by simp [pY, pM, pD, pOk, h]
theorem p_yes {s : ByteArray} (h : parseOk s.data.toList = true) : pY s = parseY s.data.toList ∧ pM s = parseM s.data.toList ∧ pD s = parseD s.data.toList ∧ pOk s = true := by simp [pY, pM, pD, pOk, h]
theorem shape_no {l : List UInt8} (h : dateShape l = false) : parseOk l = false := by simp [parseOk, h]
theorem shape_n0 {l t : List UInt8} (e : t = l.take 4) (h : t.all isDig = false) : dateShape l = false := by subst e; simp only [dateShape, h, Bool.and_false, Bool.false_and]
theorem shape_n1 {l t : List UInt8} (e : t = (l.drop 5).take 2) (h : t.all isDig = false) : dateShape l = false := by subst e; simp only [dateShape, h, Bool.and_false, Bool.false_and]
theorem shape_n2 {l t : List UInt8} (e : t = l.drop 8) (h : t.all isDig = false) : dateShape l = false := by subst e; simp only [dateShape, h, Bool.and_false]
theorem all_no (t : ByteArray) (pos : Nat) (hp : pos < t.size) (h : isDig (t[pos]'hp) = false) : t.data.toList.all isDig = false := by
  rw [List.all_eq_false]
  refine ⟨t[pos], ?_, by simp [h]⟩
  have : t[pos] = t.data.toList[pos]'(by simpa using hp) := rfl
  rw [this]
  exact List.getElem_mem _
theorem shape_yes {l : List UInt8} (h0 : l.length = 10) (h4 : ((l.getD 4 0).toNat : Int) = 45) (h7 : ((l.getD 7 0).toNat : Int) = 45) (a0 : (l.take 4).all isDig = true) (a1 : ((l.drop 5).take 2).all isDig = true) (a2 : (l.drop 8).all isDig = true) : dateShape l = true := by
  have e4 : l.getD 4 0 = 45 := UInt8.toNat.inj (by show _ = 45; omega)
  have e7 : l.getD 7 0 = 45 := UInt8.toNat.inj (by show _ = 45; omega)
  simp only [dateShape, h0, e4, e7, a0, a1, a2]; rfl
def DigN (t : ByteArray) (n : Int) : Prop := t.data.toList.all isDig = true ∧ n = numL t.data.toList
def OutRel (t0 t1 t2 : ByteArray) (i n0 n1 n2 : Int) : Prop :=
  (i = 0 ∧ n0 = 0 ∧ n1 = 0 ∧ n2 = 0) ∨ (i = 1 ∧ DigN t0 n0 ∧ n1 = 0 ∧ n2 = 0) ∨ (i = 2 ∧ DigN t0 n0 ∧ DigN t1 n1 ∧ n2 = 0) ∨ (i = 3 ∧ DigN t0 n0 ∧ DigN t1 n1 ∧ DigN t2 n2)
theorem numL_lt4 (t : ByteArray) (pos : Nat) (h : (t.data.toList.take pos).all isDig = true) (hp : pos ≤ 4) : 0 ≤ numL (t.data.toList.take pos) ∧ numL (t.data.toList.take pos) < 10000 := by
  have := numL_bd _ h
  have hl : (t.data.toList.take pos).length ≤ 4 := Nat.le_trans (List.length_take_le _ _) hp
  rcases (by omega : (t.data.toList.take pos).length = 0 ∨ (t.data.toList.take pos).length = 1 ∨ (t.data.toList.take pos).length = 2 ∨ (t.data.toList.take pos).length = 3 ∨ (t.data.toList.take pos).length = 4) with h | h | h | h | h
  all_goals
    rw [h] at this
    omega
set_option maxHeartbeats 4000000 in
theorem dparse_any (s : ByteArray) (w : World) :
    Calls Tryz.prog 103 #[.string s] w fun e w' => e = .returned (.tuple #[.agg #[.int .i64 (pY s), .int .i64 (pM s), .int .i64 (pD s)], .bool (pOk s)]) ∧ Below w.heap.size w w' := by
  by_cases hz : s.size = 10
  · have b4 : 4 < s.size := by omega
    have b7 : 7 < s.size := by omega
    have h4 : ∃ x : Int, ((s[4]'b4).toNat : Int) = x ∧ (s.data.toList.getD 4 0).toNat = x := ⟨_, rfl, by simp [List.getD, hz]; rfl⟩
    have h7 : ∃ x : Int, ((s[7]'b7).toNat : Int) = x ∧ (s.data.toList.getD 7 0).toNat = x := ⟨_, rfl, by simp [List.getD, hz]; rfl⟩
    obtain ⟨x4, hx4, hy4⟩ := h4
    obtain ⟨x7, hx7, hy7⟩ := h7
    have HY4 := Lib.hid hy4
    have HY7 := Lib.hid hy7
    clear hy4 hy7
    by_cases c4 : x4 = 45
    · by_cases c7 : x7 = 45
      · subst c4 c7
        go_enter Tryz.func103, Tryz.ntmps103
        go_wp2_with fail
        go_quiet (fail)
        go_wp2_with fail
        have z0 : (s.extract 0 4).size = 4 := by simp; omega
        have z1 : (s.extract 5 7).size = 2 := by simp; omega
        have z2 : (s.extract 8 10).size = 2 := by simp; omega
        have l0 : (s.extract 0 4).data.toList = s.data.toList.take 4 := by simp [Lib.extract_data]
        have l1 : (s.extract 5 7).data.toList = (s.data.toList.drop 5).take 2 := by simp [Lib.extract_data]
        have l2 : (s.extract 8 10).data.toList = s.data.toList.drop 8 := by
          simp [Lib.extract_data]
          exact List.take_of_length_le (by simp [hz])
        generalize s.extract 0 4 = t0 at *
        generalize s.extract 5 7 = t1 at *
        generalize s.extract 8 10 = t2 at *
        have L0 := Lib.hid l0
        have L1 := Lib.hid l1
        have L2 := Lib.hid l2
        have Z0 := Lib.hid z0
        have Z1 := Lib.hid z1
        have Z2 := Lib.hid z2
        clear l0 l1 l2 z0 z1 z2
        go_loopw [31] (fun v wr => ∃ i n0 n1 n2 : Int, v = .int .i64 i ∧ Blk wr w.heap.size 24 #[.int .i64 0, .int .i64 0, .int .i64 0] ∧ Blk wr (w.heap.size + 1) 194 #[.int .i64 n0, .int .i64 n1, .int .i64 n2] ∧ Below w.heap.size w wr ∧ OutRel t0 t1 t2 i n0 n1 n2) (fun v _ => (3 - intOf v).toNat)
        case atStart => exact ⟨0, 0, 0, 0, rfl, ((Blk.new _ _ _).alloc _).drewN _, Blk.drewN (by have := Blk.new (w.alloc (Obj.cells #[.int .i64 0, .int .i64 0, .int .i64 0] 24)) 194 #[.int .i64 0, .int .i64 0, .int .i64 0]; simpa using this) _, bl_drewN (bl_alloc (bl_alloc (bl_refl _) _) _) _, .inl ⟨rfl, rfl, rfl, rfl⟩⟩
        case round =>
          obtain ⟨i, n0, n1, n2, rfl, hb0, hb1, hbw, hor⟩ := hrel
          have i0 : ∀ w, (Instr.index 195 (.agg #[.string t0, .string t1, .string t2]) (.int .i64 0)).run Tryz.prog w = .ok (.string t0) w := fun _ => by kernel_rfl
          have i1 : ∀ w, (Instr.index 195 (.agg #[.string t0, .string t1, .string t2]) (.int .i64 1)).run Tryz.prog w = .ok (.string t1) w := fun _ => by kernel_rfl
          have i2 : ∀ w, (Instr.index 195 (.agg #[.string t0, .string t1, .string t2]) (.int .i64 2)).run Tryz.prog w = .ok (.string t2) w := fun _ => by kernel_rfl
          rcases hor with ⟨rfl, rfl, rfl, rfl⟩ | ⟨rfl, hd0, rfl, rfl⟩ | ⟨rfl, hd0, hd1, rfl⟩ | ⟨rfl, hd0, hd1, hd2⟩
          · obtain ⟨wo, rfl⟩ : ∃ wo : World, wo = wr := ⟨_, rfl⟩
            have hlt0 := hb0.lt
            have hlt1 := hb1.lt
            have hbo := hbw.size
            go_wp2_with fail
            go_loopw [8] (fun _ wi => ∃ pos : Nat, wi.heap[wo.heap.size]? = some (.stringIter t0 pos) ∧ Blk wi w.heap.size 24 #[.int .i64 0, .int .i64 0, .int .i64 0] ∧ Blk wi (w.heap.size + 1) 194 #[.int .i64 (numL (t0.data.toList.take pos)), .int .i64 0, .int .i64 0] ∧ Below w.heap.size w wi ∧ Hid ((t0.data.toList.take pos).all isDig = true) ∧ pos ≤ t0.size) (fun _ wi => t0.size - wi.iterPos wo.heap.size)
            case atStart => exact ⟨0, World.iter_heap wo t0 0, hb0.alloc _, (hb1.alloc _), bl_alloc hbw _, by simp [Hid], Nat.zero_le _⟩
            case round =>
              obtain ⟨pos, hit, hi0, hi1, hbi, HA, hpl⟩ := hrel
              have hpos0 := iterPos_of hit
              clear hb0 hb1 hbw
              by_cases hp : pos < t0.size
              · have hnx : ∀ ty, (Instr.next (.pointer (some ⟨wo.heap.size, 0, none⟩)) true ty).run Tryz.prog wr = _ := fun ty => Lib.run_next_any_at wr wo.heap.size t0 pos ty hit hp
                have hit2 := Lib.iterAt_heap wr wo.heap.size t0 pos (pos + (Utf8.decode t0 pos).2) hit
                have hbw2 := Lib.below_iterAt hbi (k := wo.heap.size) hbo t0 (pos + (Utf8.decode t0 pos).2)
                have hj0 := hi0.iterAt (k := wo.heap.size) (by omega) t0 (pos + (Utf8.decode t0 pos).2)
                have hj1 := hi1.iterAt (k := wo.heap.size) (by omega) t0 (pos + (Utf8.decode t0 pos).2)
                have hsn := take_snoc t0 pos hp
                obtain ⟨W1, hW1⟩ : ∃ W1, W1 = wr.iterAt wo.heap.size t0 (pos + (Utf8.decode t0 pos).2) := ⟨_, rfl⟩
                rw [← hW1] at hnx hit2 hbw2 hj0 hj1
                clear hW1 hit hi0 hi1 hbi
                have HS := Lib.hid hsn
                clear hsn
                have hlj1 := hj1.lt
                rcases width_one t0 pos hp with ⟨ha, hde⟩ | ⟨ha, hde, hde2⟩
                · rw [hde] at hnx hit2
                  simp only at hnx hit2
                  clear hde
                  have hc1 : W1.cell? ⟨w.heap.size + 1, 0, none⟩ = some (.int .i64 (numL (t0.data.toList.take pos))) := hj1.cell 0
                  have hf1 : W1.frozen? ⟨w.heap.size + 1, 0, none⟩ = false := hj1.frozen 0
                  have hnb := numL_lt4 t0 pos HA.out (by have := Z0.out; omega)
                  obtain ⟨hnb1, hnb2⟩ := hnb
                  have hbad := all_no t0 pos hp
                  generalize hby : (t0[pos]'hp) = by_ at *
                  have hbl := by_.toNat_lt
                  by_cases hg : 48 ≤ by_.toNat ∧ by_.toNat ≤ 57
                  · obtain ⟨hg1, hg2⟩ := hg
                    have hgi : isDig by_ = true := by simp [isDig, hg1, hg2]
                    have HG := Lib.hid hgi
                    clear hgi hby hbad
                    go_wp2
                    go_roundw
                    case rel =>
                      refine ⟨pos + 1, ?_, ?_, ?_, ?_, ?_, by omega⟩
                      · exact (Below.heap_setCell _ _ _ _ (by simp; omega)).trans hit2
                      · exact hj0.far (by simp) _
                      · rw [HS.out, numL_snoc]
                        have hz := hj1.set_ 0 (.int .i64 (10 * numL (t0.data.toList.take pos) + digI by_))
                        simpa [digI] using hz
                      · exact bl_set hbw2 (by simp) _
                      · show _ = _
                        rw [HS.out]
                        simp [HG.out, HA.out]
                    case measure =>
                      rw [iterPos_of ((Below.heap_setCell _ _ _ _ (by simp; omega)).trans hit2), hpos0]
                      omega
                  · have hnd : isDig by_ = false := by simp [isDig]; omega
                    have hno : parseOk s.data.toList = false := shape_no (shape_n0 L0.out (hbad hnd))
                    obtain ⟨e1, e2, e3, e4⟩ := p_no hno
                    have EH := Lib.hid (And.intro e1 (And.intro e2 (And.intro e3 e4)))
                    clear e1 e2 e3 e4 hno hbad hnd
                    have hcc0 := hj0.cell 0
                    have hcc1 := hj0.cell 1
                    have hcc2 := hj0.cell 2
                    have hff0 := hj0.frozen
                    have hl0 := hj0.lt
                    by_cases hg1 : 48 ≤ by_.toNat
                    all_goals
                      go_wp2
                      rw [EH.out.1, EH.out.2.1, EH.out.2.2.1, EH.out.2.2.2]
                      exact bodyPost_ret (results_cell_tmp_row rfl _ _ w.heap.size _ #[.int .i64 0, .int .i64 0, .int .i64 0] _ rfl (((hj0.set_ 0 _).set_ 1 _).set_ 2 _) Tryz.underlying24 rfl (by kernel_rfl)) rfl ⟨rfl, bl_set (bl_set (bl_set hbw2 (Nat.le_refl _) _) (Nat.le_refl _) _) (Nat.le_refl _) _⟩
                · have hnd : isDig (t0[pos]'hp) = false := by simp [isDig]; omega
                  have hno : parseOk s.data.toList = false := shape_no (shape_n0 L0.out (all_no t0 pos hp hnd))
                  obtain ⟨e1, e2, e3, e4⟩ := p_no hno
                  have EH := Lib.hid (And.intro e1 (And.intro e2 (And.intro e3 e4)))
                  clear e1 e2 e3 e4 hno hnd
                  have hcc0 := hj0.cell 0
                  have hcc1 := hj0.cell 1
                  have hcc2 := hj0.cell 2
                  have hff0 := hj0.frozen
                  have hl0 := hj0.lt
                  generalize (Utf8.decode t0 pos).1 = rr at *
                  go_wp2
                  rw [EH.out.1, EH.out.2.1, EH.out.2.2.1, EH.out.2.2.2]
                  exact bodyPost_ret (results_cell_tmp_row rfl _ _ w.heap.size _ #[.int .i64 0, .int .i64 0, .int .i64 0] _ rfl (((hj0.set_ 0 _).set_ 1 _).set_ 2 _) Tryz.underlying24 rfl (by kernel_rfl)) rfl ⟨rfl, bl_set (bl_set (bl_set hbw2 (Nat.le_refl _) _) (Nat.le_refl _) _) (Nat.le_refl _) _⟩
              · have hpe : pos = t0.size := by omega
                have hnx : ∀ ty, (Instr.next (.pointer (some ⟨wo.heap.size, 0, none⟩)) true ty).run Tryz.prog wr = _ := fun ty => Lib.run_next_end_at wr wo.heap.size t0 pos ty hit hp
                subst hpe
                go_wp2
                go_roundw
                case rel =>
                  have hN : numL (t0.data.toList.take t0.size) = numL t0.data.toList := by rw [List.take_of_length_le (by simp)]
                  have hA : t0.data.toList.all isDig = true := by have := HA.out; rwa [List.take_of_length_le (by simp)] at this
                  exact ⟨0 + 1, _, _, _, by go_num, hi0, hi1, hbi, .inr (.inl ⟨rfl, ⟨hA, hN⟩, rfl, rfl⟩)⟩
                case measure => simp [intOf]
          · obtain ⟨wo, rfl⟩ : ∃ wo : World, wo = wr := ⟨_, rfl⟩
            have hlt0 := hb0.lt
            have hlt1 := hb1.lt
            have hbo := hbw.size
            go_wp2_with fail
            go_loopw [8] (fun _ wi => ∃ pos : Nat, wi.heap[wo.heap.size]? = some (.stringIter t1 pos) ∧ Blk wi w.heap.size 24 #[.int .i64 0, .int .i64 0, .int .i64 0] ∧ Blk wi (w.heap.size + 1) 194 #[.int .i64 n0, .int .i64 (numL (t1.data.toList.take pos)), .int .i64 0] ∧ Below w.heap.size w wi ∧ Hid ((t1.data.toList.take pos).all isDig = true) ∧ pos ≤ t1.size) (fun _ wi => t1.size - wi.iterPos wo.heap.size)
            case atStart => exact ⟨0, World.iter_heap wo t1 0, hb0.alloc _, (hb1.alloc _), bl_alloc hbw _, by simp [Hid], Nat.zero_le _⟩
            case round =>
              obtain ⟨pos, hit, hi0, hi1, hbi, HA, hpl⟩ := hrel
              have hpos0 := iterPos_of hit
              clear hb0 hb1 hbw
              by_cases hp : pos < t1.size
              · have hnx : ∀ ty, (Instr.next (.pointer (some ⟨wo.heap.size, 0, none⟩)) true ty).run Tryz.prog wr = _ := fun ty => Lib.run_next_any_at wr wo.heap.size t1 pos ty hit hp
                have hit2 := Lib.iterAt_heap wr wo.heap.size t1 pos (pos + (Utf8.decode t1 pos).2) hit
                have hbw2 := Lib.below_iterAt hbi (k := wo.heap.size) hbo t1 (pos + (Utf8.decode t1 pos).2)
                have hj0 := hi0.iterAt (k := wo.heap.size) (by omega) t1 (pos + (Utf8.decode t1 pos).2)
                have hj1 := hi1.iterAt (k := wo.heap.size) (by omega) t1 (pos + (Utf8.decode t1 pos).2)
                have hsn := take_snoc t1 pos hp
                obtain ⟨W1, hW1⟩ : ∃ W1, W1 = wr.iterAt wo.heap.size t1 (pos + (Utf8.decode t1 pos).2) := ⟨_, rfl⟩
                rw [← hW1] at hnx hit2 hbw2 hj0 hj1
                clear hW1 hit hi0 hi1 hbi
                have HS := Lib.hid hsn
                clear hsn
                have hlj1 := hj1.lt
                rcases width_one t1 pos hp with ⟨ha, hde⟩ | ⟨ha, hde, hde2⟩
                · rw [hde] at hnx hit2
                  simp only at hnx hit2
                  clear hde
                  have hc1 : W1.cell? ⟨w.heap.size + 1, 1, none⟩ = some (.int .i64 (numL (t1.data.toList.take pos))) := hj1.cell 1
                  have hf1 : W1.frozen? ⟨w.heap.size + 1, 1, none⟩ = false := hj1.frozen 1
                  have hnb := numL_lt4 t1 pos HA.out (by have := Z1.out; omega)
                  obtain ⟨hnb1, hnb2⟩ := hnb
                  have hbad := all_no t1 pos hp
                  generalize hby : (t1[pos]'hp) = by_ at *
                  have hbl := by_.toNat_lt
                  by_cases hg : 48 ≤ by_.toNat ∧ by_.toNat ≤ 57
                  · obtain ⟨hg1, hg2⟩ := hg
                    have hgi : isDig by_ = true := by simp [isDig, hg1, hg2]
                    have HG := Lib.hid hgi
                    clear hgi hby hbad
                    go_wp2
                    go_roundw
                    case rel =>
                      refine ⟨pos + 1, ?_, ?_, ?_, ?_, ?_, by omega⟩
                      · exact (Below.heap_setCell _ _ _ _ (by simp; omega)).trans hit2
                      · exact hj0.far (by simp) _
                      · rw [HS.out, numL_snoc]
                        have hz := hj1.set_ 1 (.int .i64 (10 * numL (t1.data.toList.take pos) + digI by_))
                        simpa [digI] using hz
                      · exact bl_set hbw2 (by simp) _
                      · show _ = _
                        rw [HS.out]
                        simp [HG.out, HA.out]
                    case measure =>
                      rw [iterPos_of ((Below.heap_setCell _ _ _ _ (by simp; omega)).trans hit2), hpos0]
                      omega
                  · have hnd : isDig by_ = false := by simp [isDig]; omega
                    have hno : parseOk s.data.toList = false := shape_no (shape_n1 L1.out (hbad hnd))
                    obtain ⟨e1, e2, e3, e4⟩ := p_no hno
                    have EH := Lib.hid (And.intro e1 (And.intro e2 (And.intro e3 e4)))
                    clear e1 e2 e3 e4 hno hbad hnd
                    have hcc0 := hj0.cell 0
                    have hcc1 := hj0.cell 1
                    have hcc2 := hj0.cell 2
                    have hff0 := hj0.frozen
                    have hl0 := hj0.lt
                    by_cases hg1 : 48 ≤ by_.toNat
                    all_goals
                      go_wp2
                      rw [EH.out.1, EH.out.2.1, EH.out.2.2.1, EH.out.2.2.2]
                      exact bodyPost_ret (results_cell_tmp_row rfl _ _ w.heap.size _ #[.int .i64 0, .int .i64 0, .int .i64 0] _ rfl (((hj0.set_ 0 _).set_ 1 _).set_ 2 _) Tryz.underlying24 rfl (by kernel_rfl)) rfl ⟨rfl, bl_set (bl_set (bl_set hbw2 (Nat.le_refl _) _) (Nat.le_refl _) _) (Nat.le_refl _) _⟩
                · have hnd : isDig (t1[pos]'hp) = false := by simp [isDig]; omega
                  have hno : parseOk s.data.toList = false := shape_no (shape_n1 L1.out (all_no t1 pos hp hnd))
                  obtain ⟨e1, e2, e3, e4⟩ := p_no hno
                  have EH := Lib.hid (And.intro e1 (And.intro e2 (And.intro e3 e4)))
                  clear e1 e2 e3 e4 hno hnd
                  have hcc0 := hj0.cell 0
                  have hcc1 := hj0.cell 1
                  have hcc2 := hj0.cell 2
                  have hff0 := hj0.frozen
                  have hl0 := hj0.lt
                  generalize (Utf8.decode t1 pos).1 = rr at *
                  go_wp2
                  rw [EH.out.1, EH.out.2.1, EH.out.2.2.1, EH.out.2.2.2]
                  exact bodyPost_ret (results_cell_tmp_row rfl _ _ w.heap.size _ #[.int .i64 0, .int .i64 0, .int .i64 0] _ rfl (((hj0.set_ 0 _).set_ 1 _).set_ 2 _) Tryz.underlying24 rfl (by kernel_rfl)) rfl ⟨rfl, bl_set (bl_set (bl_set hbw2 (Nat.le_refl _) _) (Nat.le_refl _) _) (Nat.le_refl _) _⟩
              · have hpe : pos = t1.size := by omega
                have hnx : ∀ ty, (Instr.next (.pointer (some ⟨wo.heap.size, 0, none⟩)) true ty).run Tryz.prog wr = _ := fun ty => Lib.run_next_end_at wr wo.heap.size t1 pos ty hit hp
                subst hpe
                go_wp2
                go_roundw
                case rel =>
                  have hN : numL (t1.data.toList.take t1.size) = numL t1.data.toList := by rw [List.take_of_length_le (by simp)]
                  have hA : t1.data.toList.all isDig = true := by have := HA.out; rwa [List.take_of_length_le (by simp)] at this
                  exact ⟨1 + 1, _, _, _, by go_num, hi0, hi1, hbi, .inr (.inr (.inl ⟨rfl, hd0, ⟨hA, hN⟩, rfl⟩))⟩
                case measure => simp [intOf]
          · obtain ⟨wo, rfl⟩ : ∃ wo : World, wo = wr := ⟨_, rfl⟩
            have hlt0 := hb0.lt
            have hlt1 := hb1.lt
            have hbo := hbw.size
            go_wp2_with fail
            go_loopw [8] (fun _ wi => ∃ pos : Nat, wi.heap[wo.heap.size]? = some (.stringIter t2 pos) ∧ Blk wi w.heap.size 24 #[.int .i64 0, .int .i64 0, .int .i64 0] ∧ Blk wi (w.heap.size + 1) 194 #[.int .i64 n0, .int .i64 n1, .int .i64 (numL (t2.data.toList.take pos))] ∧ Below w.heap.size w wi ∧ Hid ((t2.data.toList.take pos).all isDig = true) ∧ pos ≤ t2.size) (fun _ wi => t2.size - wi.iterPos wo.heap.size)
            case atStart => exact ⟨0, World.iter_heap wo t2 0, hb0.alloc _, (hb1.alloc _), bl_alloc hbw _, by simp [Hid], Nat.zero_le _⟩
            case round =>
              obtain ⟨pos, hit, hi0, hi1, hbi, HA, hpl⟩ := hrel
              have hpos0 := iterPos_of hit
              clear hb0 hb1 hbw
              by_cases hp : pos < t2.size
              · have hnx : ∀ ty, (Instr.next (.pointer (some ⟨wo.heap.size, 0, none⟩)) true ty).run Tryz.prog wr = _ := fun ty => Lib.run_next_any_at wr wo.heap.size t2 pos ty hit hp
                have hit2 := Lib.iterAt_heap wr wo.heap.size t2 pos (pos + (Utf8.decode t2 pos).2) hit
                have hbw2 := Lib.below_iterAt hbi (k := wo.heap.size) hbo t2 (pos + (Utf8.decode t2 pos).2)
                have hj0 := hi0.iterAt (k := wo.heap.size) (by omega) t2 (pos + (Utf8.decode t2 pos).2)
                have hj1 := hi1.iterAt (k := wo.heap.size) (by omega) t2 (pos + (Utf8.decode t2 pos).2)
                have hsn := take_snoc t2 pos hp
                obtain ⟨W1, hW1⟩ : ∃ W1, W1 = wr.iterAt wo.heap.size t2 (pos + (Utf8.decode t2 pos).2) := ⟨_, rfl⟩
                rw [← hW1] at hnx hit2 hbw2 hj0 hj1
                clear hW1 hit hi0 hi1 hbi
                have HS := Lib.hid hsn
                clear hsn
                have hlj1 := hj1.lt
                rcases width_one t2 pos hp with ⟨ha, hde⟩ | ⟨ha, hde, hde2⟩
                · rw [hde] at hnx hit2
                  simp only at hnx hit2
                  clear hde
                  have hc1 : W1.cell? ⟨w.heap.size + 1, 2, none⟩ = some (.int .i64 (numL (t2.data.toList.take pos))) := hj1.cell 2
                  have hf1 : W1.frozen? ⟨w.heap.size + 1, 2, none⟩ = false := hj1.frozen 2
                  have hnb := numL_lt4 t2 pos HA.out (by have := Z2.out; omega)
                  obtain ⟨hnb1, hnb2⟩ := hnb
                  have hbad := all_no t2 pos hp
                  generalize hby : (t2[pos]'hp) = by_ at *
                  have hbl := by_.toNat_lt
                  by_cases hg : 48 ≤ by_.toNat ∧ by_.toNat ≤ 57
                  · obtain ⟨hg1, hg2⟩ := hg
                    have hgi : isDig by_ = true := by simp [isDig, hg1, hg2]
                    have HG := Lib.hid hgi
                    clear hgi hby hbad
                    go_wp2
                    go_roundw
                    case rel =>
                      refine ⟨pos + 1, ?_, ?_, ?_, ?_, ?_, by omega⟩
                      · exact (Below.heap_setCell _ _ _ _ (by simp; omega)).trans hit2
                      · exact hj0.far (by simp) _
                      · rw [HS.out, numL_snoc]
                        have hz := hj1.set_ 2 (.int .i64 (10 * numL (t2.data.toList.take pos) + digI by_))
                        simpa [digI] using hz
                      · exact bl_set hbw2 (by simp) _
                      · show _ = _
                        rw [HS.out]
                        simp [HG.out, HA.out]
                    case measure =>
                      rw [iterPos_of ((Below.heap_setCell _ _ _ _ (by simp; omega)).trans hit2), hpos0]
                      omega
                  · have hnd : isDig by_ = false := by simp [isDig]; omega
                    have hno : parseOk s.data.toList = false := shape_no (shape_n2 L2.out (hbad hnd))
                    obtain ⟨e1, e2, e3, e4⟩ := p_no hno
                    have EH := Lib.hid (And.intro e1 (And.intro e2 (And.intro e3 e4)))
                    clear e1 e2 e3 e4 hno hbad hnd
                    have hcc0 := hj0.cell 0
                    have hcc1 := hj0.cell 1
                    have hcc2 := hj0.cell 2
                    have hff0 := hj0.frozen
                    have hl0 := hj0.lt
                    by_cases hg1 : 48 ≤ by_.toNat
                    all_goals
                      go_wp2
                      rw [EH.out.1, EH.out.2.1, EH.out.2.2.1, EH.out.2.2.2]
                      exact bodyPost_ret (results_cell_tmp_row rfl _ _ w.heap.size _ #[.int .i64 0, .int .i64 0, .int .i64 0] _ rfl (((hj0.set_ 0 _).set_ 1 _).set_ 2 _) Tryz.underlying24 rfl (by kernel_rfl)) rfl ⟨rfl, bl_set (bl_set (bl_set hbw2 (Nat.le_refl _) _) (Nat.le_refl _) _) (Nat.le_refl _) _⟩
                · have hnd : isDig (t2[pos]'hp) = false := by simp [isDig]; omega
                  have hno : parseOk s.data.toList = false := shape_no (shape_n2 L2.out (all_no t2 pos hp hnd))
                  obtain ⟨e1, e2, e3, e4⟩ := p_no hno
                  have EH := Lib.hid (And.intro e1 (And.intro e2 (And.intro e3 e4)))
                  clear e1 e2 e3 e4 hno hnd
                  have hcc0 := hj0.cell 0
                  have hcc1 := hj0.cell 1
                  have hcc2 := hj0.cell 2
                  have hff0 := hj0.frozen
                  have hl0 := hj0.lt
                  generalize (Utf8.decode t2 pos).1 = rr at *
                  go_wp2
                  rw [EH.out.1, EH.out.2.1, EH.out.2.2.1, EH.out.2.2.2]
                  exact bodyPost_ret (results_cell_tmp_row rfl _ _ w.heap.size _ #[.int .i64 0, .int .i64 0, .int .i64 0] _ rfl (((hj0.set_ 0 _).set_ 1 _).set_ 2 _) Tryz.underlying24 rfl (by kernel_rfl)) rfl ⟨rfl, bl_set (bl_set (bl_set hbw2 (Nat.le_refl _) _) (Nat.le_refl _) _) (Nat.le_refl _) _⟩
              · have hpe : pos = t2.size := by omega
                have hnx : ∀ ty, (Instr.next (.pointer (some ⟨wo.heap.size, 0, none⟩)) true ty).run Tryz.prog wr = _ := fun ty => Lib.run_next_end_at wr wo.heap.size t2 pos ty hit hp
                subst hpe
                go_wp2
                go_roundw
                case rel =>
                  have hN : numL (t2.data.toList.take t2.size) = numL t2.data.toList := by rw [List.take_of_length_le (by simp)]
                  have hA : t2.data.toList.all isDig = true := by have := HA.out; rwa [List.take_of_length_le (by simp)] at this
                  exact ⟨2 + 1, _, _, _, by go_num, hi0, hi1, hbi, .inr (.inr (.inr ⟨rfl, hd0, hd1, ⟨hA, hN⟩⟩))⟩
                case measure => simp [intOf]
          · have hc0 : wr.cell? ⟨w.heap.size + 1, 0, none⟩ = some (.int .i64 n0) := hb1.cell 0
            have hc1 : wr.cell? ⟨w.heap.size + 1, 1, none⟩ = some (.int .i64 n1) := hb1.cell 1
            have hc2 : wr.cell? ⟨w.heap.size + 1, 2, none⟩ = some (.int .i64 n2) := hb1.cell 2
            have hyk : parseY s.data.toList = n0 := by rw [hd0.2, L0.out]; rfl
            have hmk : parseM s.data.toList = n1 := by rw [hd1.2, L1.out]; rfl
            have hdk : parseD s.data.toList = n2 := by rw [hd2.2, L2.out]; rfl
            have hsh : dateShape s.data.toList = true := shape_yes (by simpa using hz) (by simpa using HY4.out) (by simpa using HY7.out) (by rw [← L0.out]; exact hd0.1) (by rw [← L1.out]; exact hd1.1) (by rw [← L2.out]; exact hd2.1)
            have hpo : parseOk s.data.toList = goodB n0 n1 n2 := by rw [← hyk, ← hmk, ← hdk]; simp [parseOk, hsh]
            have HP := Lib.hid hpo
            have HK := Lib.hid (And.intro hyk (And.intro hmk hdk))
            clear hyk hmk hdk hsh hpo
            cases hgd : goodB n0 n1 n2 with
            | true =>
              have HY := Lib.hid (p_yes (HP.out.trans hgd))
              go_wp2_with (go_at_call 86; refine (good_any _ _ _ _).mono ?_; rintro e w' ⟨rfl, hgb⟩; (have k0 := (hb0.alloc _).call hgb); (have kd := (Blk.new _ _ _).call hgb); obtain ⟨_, _, _, _, _, _⟩ := k0.c3; obtain ⟨_, _, _, _, _, _⟩ := kd.c3)
              rw [HY.out.1, HY.out.2.1, HY.out.2.2.1, HY.out.2.2.2, HK.out.1, HK.out.2.1, HK.out.2.2]
              exact bodyPost_ret (results_cell_tmp_row rfl _ _ w.heap.size _ #[.int .i64 n0, .int .i64 n1, .int .i64 n2] _ rfl (((k0.set_ 0 _).set_ 1 _).set_ 2 _) Tryz.underlying24 rfl (by kernel_rfl)) rfl ⟨rfl, bl_set (bl_set (bl_set (bl_call (bl_alloc hbw _) hgb) (Nat.le_refl _) _) (Nat.le_refl _) _) (Nat.le_refl _) _⟩
            | false =>
              have HY := Lib.hid (p_no (HP.out.trans hgd))
              go_wp2_with (go_at_call 86; refine (good_any _ _ _ _).mono ?_; rintro e w' ⟨rfl, hgb⟩; (have k0 := (hb0.alloc _).call hgb); (have kd := (Blk.new _ _ _).call hgb); obtain ⟨_, _, _, _, _, _⟩ := k0.c3; obtain ⟨_, _, _, _, _, _⟩ := kd.c3)
              rw [HY.out.1, HY.out.2.1, HY.out.2.2.1, HY.out.2.2.2]
              exact bodyPost_ret (results_cell_tmp_row rfl _ _ w.heap.size _ #[.int .i64 0, .int .i64 0, .int .i64 0] _ rfl (((k0.set_ 0 _).set_ 1 _).set_ 2 _) Tryz.underlying24 rfl (by kernel_rfl)) rfl ⟨rfl, bl_set (bl_set (bl_set (bl_call (bl_alloc hbw _) hgb) (Nat.le_refl _) _) (Nat.le_refl _) _) (Nat.le_refl _) _⟩
      · have hn : parseOk s.data.toList = false := shape_no (by
          have hu : ¬ s.data.toList.getD 7 0 = 45 := fun he => c7 (by rw [← HY7.out, he]; rfl)
          have he := beq_eq_false_iff_ne.2 hu
          simp only [dateShape, he, Bool.and_false, Bool.false_and])
        obtain ⟨e1, e2, e3, e4⟩ := p_no hn
        rw [e1, e2, e3, e4]
        clear e1 e2 e3 e4 hn
        have c7b : (x7 != 45) = true := by simpa using c7
        subst c4
        go_enter Tryz.func103, Tryz.ntmps103
        go_wp2
        exact bodyPost_ret (v := .tuple #[.agg #[.int .i64 0, .int .i64 0, .int .i64 0], .bool false]) (by simp [results, Tryz.results103, go_sem]) rfl ⟨rfl, bl_alloc (bl_refl _) _⟩
    · have hn : parseOk s.data.toList = false := shape_no (by
        have hu : ¬ s.data.toList.getD 4 0 = 45 := fun he => c4 (by rw [← HY4.out, he]; rfl)
        have he := beq_eq_false_iff_ne.2 hu
        simp only [dateShape, he, Bool.and_false, Bool.false_and])
      obtain ⟨e1, e2, e3, e4⟩ := p_no hn
      rw [e1, e2, e3, e4]
      clear e1 e2 e3 e4 hn
      have c4b : (x4 != 45) = true := by simpa using c4
      go_enter Tryz.func103, Tryz.ntmps103
      go_wp2
      exact bodyPost_ret (v := .tuple #[.agg #[.int .i64 0, .int .i64 0, .int .i64 0], .bool false]) (by simp [results, Tryz.results103, go_sem]) rfl ⟨rfl, bl_alloc (bl_refl _) _⟩
  · have hn : parseOk s.data.toList = false := shape_no (by
      have he : (s.data.toList.length == 10) = false := beq_eq_false_iff_ne.2 (by simpa using hz)
      simp only [dateShape, he, Bool.false_and])
    obtain ⟨e1, e2, e3, e4⟩ := p_no hn
    rw [e1, e2, e3, e4]
    clear e1 e2 e3 e4 hn
    have h1 : ((s.size : Int) != 10) = true := by simp; omega
    go_enter Tryz.func103, Tryz.ntmps103
    go_wp2
    exact bodyPost_ret (v := .tuple #[.agg #[.int .i64 0, .int .i64 0, .int .i64 0], .bool false]) (by simp [results, Tryz.results103, go_sem]) rfl ⟨rfl, bl_alloc (bl_refl _) _⟩
end Go.Proofs.YtcgkfgklggjmaaaGreatDoor
end
section
namespace Go.Proofs.YtcgkfgklggjmaaaGreatDoor.Par
set_option linter.unusedVariables false
set_option linter.unusedSimpArgs false
open Go.RowKit
/-- a day's values, as date.Parse says them -/
def dp (t : ByteArray) : Day := (pY t, pM t, pD t)
def dayV (d : Day) : Value := .agg #[.int .i64 d.1, .int .i64 d.2.1, .int .i64 d.2.2]
end Go.Proofs.YtcgkfgklggjmaaaGreatDoor.Par
end
section
namespace Go.Proofs.YtcgkfgklggjmaaaGreatDoor
set_option linter.unusedVariables false
set_option linter.unusedSimpArgs false
open Go.RowKit
def rN (l : List UInt8) : Nat → Int
  | 0 => 0
  | k + 1 => if k = 4 ∨ k = 7 then rN l k else 10 * rN l k + digI (l.getD k 0)
def rOkAt (l : List UInt8) (k : Nat) : Bool := if k = 4 ∨ k = 7 then l.getD k 0 == 45 else isDig (l.getD k 0)
theorem rN_skip (l : List UInt8) (k : Nat) (h : k = 4 ∨ k = 7) : rN l (k + 1) = rN l k := by simp [rN, h]
theorem rN_more (l : List UInt8) (k : Nat) (h : ¬ (k = 4 ∨ k = 7)) : rN l (k + 1) = 10 * rN l k + digI (l.getD k 0) := by simp only [rN, h, if_false]
theorem rOk_dig (l : List UInt8) (k : Nat) (h : ¬ (k = 4 ∨ k = 7)) : rOkAt l k = isDig (l.getD k 0) := by simp only [rOkAt, h, if_false]
theorem rOk_str (l : List UInt8) (k : Nat) (h : k = 4 ∨ k = 7) : rOkAt l k = (l.getD k 0 == 45) := by simp only [rOkAt, h, if_true]
theorem rN_bd (l : List UInt8) : ∀ k, (∀ j, j < k → rOkAt l j = true) → 0 ≤ rN l k ∧ rN l k < 10 ^ k
  | 0, _ => by simp [rN]
  | k + 1, h => by
    have ih := rN_bd l k fun j hj => h j (by omega)
    have hk := h k (by omega)
    rw [Int.pow_succ]
    by_cases hc : k = 4 ∨ k = 7
    · rw [rN_skip l k hc]; omega
    · rw [rN_more l k hc]
      rw [rOk_dig l k hc] at hk
      have := digI_bd hk
      omega
theorem rN_lt (l : List UInt8) (k : Nat) (hk : k ≤ 10) (h : ∀ j, j < k → rOkAt l j = true) : 0 ≤ rN l k ∧ rN l k < 10000000000 := by
  have h1 := rN_bd l k h
  rcases (by omega : k = 0 ∨ k = 1 ∨ k = 2 ∨ k = 3 ∨ k = 4 ∨ k = 5 ∨ k = 6 ∨ k = 7 ∨ k = 8 ∨ k = 9 ∨ k = 10) with h | h | h | h | h | h | h | h | h | h | h
  all_goals
    rw [h] at h1
    rw [h]
    omega
theorem ten (l : List UInt8) (h : l.length = 10) : ∃ a b c d e f g i j k, l = [a, b, c, d, e, f, g, i, j, k] := by
  match l, h with
  | [a, b, c, d, e, f, g, i, j, k], _ => exact ⟨a, b, c, d, e, f, g, i, j, k, rfl⟩
theorem shape_iff (l : List UInt8) (h : l.length = 10) : dateShape l = true ↔ ∀ j, j < 10 → rOkAt l j = true := by
  obtain ⟨a, b, c, d, e, f, g, i, j, k, rfl⟩ := ten l h
  constructor
  · intro hs n hn
    simp [dateShape] at hs
    rcases (by omega : n = 0 ∨ n = 1 ∨ n = 2 ∨ n = 3 ∨ n = 4 ∨ n = 5 ∨ n = 6 ∨ n = 7 ∨ n = 8 ∨ n = 9) with rfl | rfl | rfl | rfl | rfl | rfl | rfl | rfl | rfl | rfl <;> simp [rOkAt, hs]
  · intro hs
    have h0 := hs 0 (by omega); have h1 := hs 1 (by omega); have h2 := hs 2 (by omega); have h3 := hs 3 (by omega); have h4 := hs 4 (by omega)
    have h5 := hs 5 (by omega); have h6 := hs 6 (by omega); have h7 := hs 7 (by omega); have h8 := hs 8 (by omega); have h9 := hs 9 (by omega)
    simp [rOkAt] at h0 h1 h2 h3 h4 h5 h6 h7 h8 h9
    simp [dateShape, *]
theorem rok_no {l : List UInt8} (h : l.length = 10) {k : Nat} (hk : k < 10) (hn : rOkAt l k = false) : parseOk l = false := shape_no (by
  cases hs : dateShape l with
  | false => rfl
  | true => have := (shape_iff l h).1 hs k hk; rw [hn] at this; cases this)
theorem rN_end (l : List UInt8) (h : l.length = 10) (ho : ∀ j, j < 10 → rOkAt l j = true) :
    rN l 10 / 10000 = parseY l ∧ rN l 10 / 100 % 100 = parseM l ∧ rN l 10 % 100 = parseD l := by
  obtain ⟨a, b, c, d, e, f, g, i, j, k, rfl⟩ := ten l h
  have h0 := digI_bd (ho 0 (by omega)); have h1 := digI_bd (ho 1 (by omega)); have h2 := digI_bd (ho 2 (by omega)); have h3 := digI_bd (ho 3 (by omega))
  have h5 := digI_bd (ho 5 (by omega)); have h6 := digI_bd (ho 6 (by omega)); have h8 := digI_bd (ho 8 (by omega)); have h9 := digI_bd (ho 9 (by omega))
  simp at h0 h1 h2 h3 h5 h6 h8 h9
  simp [rN, parseY, parseM, parseD, numL]
  omega
def allTo (l : List UInt8) (k : Nat) : Prop := ∀ j, j < k → rOkAt l j = true
theorem allTo_succ {l : List UInt8} {k : Nat} (h : allTo l k) (hk : rOkAt l k = true) : allTo l (k + 1) := fun j hj => by
  rcases Nat.lt_or_eq_of_le (Nat.le_of_lt_succ hj) with h1 | h1
  · exact h j h1
  · rw [h1]; exact hk
theorem getD_at (s : ByteArray) (k : Nat) (h : k < s.size) : s.data.toList.getD k 0 = s[k] := by
  have hl : k < s.data.toList.length := by simpa using h
  rw [List.getD, List.getElem?_eq_getElem hl]; rfl
set_option maxHeartbeats 4000000 in
theorem rparse_any (s : ByteArray) (w : World) :
    Calls Tryz.prog 80 #[.string s] w fun e w' => e = .returned (.tuple #[.agg #[.int .i64 (pY s), .int .i64 (pM s), .int .i64 (pD s)], .bool (pOk s)]) ∧ Below w.heap.size w w' := by
  by_cases hz : s.size = 10
  · have hz1 := Lib.hid hz
    have hz2 : 10 ≤ s.size := by omega
    have hz3 : ((s.size : Int) != 10) = false := by simp [hz]
    clear hz
    go_enter Tryz.func80, Tryz.ntmps80
    go_wp2_with fail
    go_loopw [4, 5] (fun n v wr => ∃ k : Nat, k ≤ 10 ∧ v = .int .i64 k ∧ n = .int .i64 (rN s.data.toList k) ∧ wr = w.alloc (.cells #[.int .i64 0, .int .i64 0, .int .i64 0] 24) ∧ Hid (allTo s.data.toList k)) (fun _ v _ => (10 - intOf v).toNat)
    case atStart => exact ⟨0, by omega, rfl, rfl, rfl, fun j hj => absurd hj (by omega)⟩
    case round =>
      obtain ⟨k, hk, rfl, rfl, rfl, HA⟩ := hrel
      obtain ⟨hb1, hb2⟩ := rN_lt s.data.toList k hk HA
      by_cases hlt : k < 10
      · have hks : k < s.size := by omega
        have hgd := getD_at s k hks
        have hcl := (s[k]'hks).toNat_lt
        have HG := Lib.hid hgd
        clear hgd
        by_cases hc : k = 4 ∨ k = 7
        · by_cases h45 : ((s[k]'hks).toNat : Int) = 45
          · have HX := Lib.hid (rN_skip s.data.toList k hc)
            have HY : Hid (rOkAt s.data.toList k = true) := by
              show _ = _
              rw [rOk_str _ _ hc, HG.out]; simp; exact UInt8.toNat.inj (by show _ = 45; omega)
            have h45b : (((s[k]'hks).toNat : Int) != 45) = false := by simp [h45]
            clear h45
            rcases hc with rfl | rfl
            all_goals
              go_wp2
              go_roundw
              case rel => first | exact ⟨4 + 1, by omega, by go_num, by rw [HX.out], trivial, allTo_succ HA.out HY.out⟩ | exact ⟨7 + 1, by omega, by go_num, by rw [HX.out], trivial, allTo_succ HA.out HY.out⟩
              case measure => simp [intOf]
          · have hno := rok_no (l := s.data.toList) (by simpa using hz1.out) hlt (by
              rw [rOk_str _ _ hc, HG.out]
              exact beq_eq_false_iff_ne.2 fun he => h45 (by rw [he]; rfl))
            obtain ⟨e1, e2, e3, e4⟩ := p_no hno
            have EH := Lib.hid (And.intro e1 (And.intro e2 (And.intro e3 e4)))
            clear e1 e2 e3 e4 hno
            have h45b : (((s[k]'hks).toNat : Int) != 45) = true := by simp [h45]
            clear h45
            rcases hc with rfl | rfl
            all_goals
              go_wp2
              rw [EH.out.1, EH.out.2.1, EH.out.2.2.1, EH.out.2.2.2]
              exact bodyPost_ret (v := .tuple #[.agg #[.int .i64 0, .int .i64 0, .int .i64 0], .bool false]) (by simp [results, Tryz.results80, go_sem]) rfl ⟨rfl, bl_alloc (bl_refl _) _⟩
        · have hc4 : ((k : Int) == 4) = false := by simp; omega
          have hc7 : ((k : Int) == 7) = false := by simp; omega
          by_cases hd : 48 ≤ ((s[k]'hks).toNat : Int) ∧ ((s[k]'hks).toNat : Int) ≤ 57
          · obtain ⟨hd1, hd2⟩ := hd
            have HX := Lib.hid (rN_more s.data.toList k hc)
            have HY : Hid (rOkAt s.data.toList k = true) := by
              show _ = _
              rw [rOk_dig _ _ hc, HG.out]; simp [isDig]; omega
            clear hc
            go_wp2
            go_roundw
            case rel => exact ⟨k + 1, by omega, by go_num, by rw [HX.out, HG.out]; simp [digI], trivial, allTo_succ HA.out HY.out⟩
            case measure => simp [intOf]; omega
          · have hno := rok_no (l := s.data.toList) (by simpa using hz1.out) hlt (by
              rw [rOk_dig _ _ hc, HG.out]
              simp [isDig]; omega)
            obtain ⟨e1, e2, e3, e4⟩ := p_no hno
            have EH := Lib.hid (And.intro e1 (And.intro e2 (And.intro e3 e4)))
            clear e1 e2 e3 e4 hno hc
            by_cases hd1 : 48 ≤ ((s[k]'hks).toNat : Int)
            all_goals
              go_wp2
              rw [EH.out.1, EH.out.2.1, EH.out.2.2.1, EH.out.2.2.2]
              exact bodyPost_ret (v := .tuple #[.agg #[.int .i64 0, .int .i64 0, .int .i64 0], .bool false]) (by simp [results, Tryz.results80, go_sem]) rfl ⟨rfl, bl_alloc (bl_refl _) _⟩
      · obtain rfl : k = 10 := by omega
        have hl : s.data.toList.length = 10 := by simpa using hz1.out
        obtain ⟨f1, f2, f3⟩ := rN_end _ hl HA.out
        have hpo : parseOk s.data.toList = goodB (rN s.data.toList 10 / 10000) (rN s.data.toList 10 / 100 % 100) (rN s.data.toList 10 % 100) := by
          rw [f1, f2, f3]; simp [parseOk, (shape_iff _ hl).2 HA.out]
        have HP := Lib.hid hpo
        have HK := Lib.hid (And.intro f1 (And.intro f2 f3))
        clear f1 f2 f3 hpo hl
        cases hgd : goodB (rN s.data.toList 10 / 10000) (rN s.data.toList 10 / 100 % 100) (rN s.data.toList 10 % 100) with
        | true =>
          have HY := Lib.hid (p_yes (HP.out.trans hgd))
          go_wp2_with (go_at_call 93; refine (rgood_any _ _ _ _).mono ?_; rintro e w' ⟨rfl, hgb⟩; (have k0 := ((Blk.new w 24 _).alloc _).call hgb); (have kd := (Blk.new _ _ _).call hgb); (have hgz := hgb.size); simp only [World.size_alloc] at kd hgz; obtain ⟨_, _, _, _, _, _⟩ := k0.c3; obtain ⟨_, _, _, _, _, _⟩ := kd.c3)
          rw [HY.out.1, HY.out.2.1, HY.out.2.2.1, HY.out.2.2.2, ← HK.out.1, ← HK.out.2.1, ← HK.out.2.2]
          exact bodyPost_ret (results_cell_tmp_row rfl _ _ w.heap.size _ #[_, _, _] _ rfl (((k0.set_ 0 _).set_ 1 _).set_ 2 _) Tryz.underlying24 rfl (by kernel_rfl)) rfl ⟨rfl, bl_set (bl_set (bl_set (bl_call (bl_alloc (bl_alloc (bl_refl _) _) _) hgb) (Nat.le_refl _) _) (Nat.le_refl _) _) (Nat.le_refl _) _⟩
        | false =>
          have HY := Lib.hid (p_no (HP.out.trans hgd))
          go_wp2_with (go_at_call 93; refine (rgood_any _ _ _ _).mono ?_; rintro e w' ⟨rfl, hgb⟩; (have k0 := ((Blk.new w 24 _).alloc _).call hgb); (have kd := (Blk.new _ _ _).call hgb); (have hgz := hgb.size); simp only [World.size_alloc] at kd hgz; obtain ⟨_, _, _, _, _, _⟩ := k0.c3; obtain ⟨_, _, _, _, _, _⟩ := kd.c3)
          rw [HY.out.1, HY.out.2.1, HY.out.2.2.1, HY.out.2.2.2]
          exact bodyPost_ret (results_cell_tmp_row rfl _ _ w.heap.size _ #[.int .i64 0, .int .i64 0, .int .i64 0] _ rfl (((k0.set_ 0 _).set_ 1 _).set_ 2 _) Tryz.underlying24 rfl (by kernel_rfl)) rfl ⟨rfl, bl_set (bl_set (bl_set (bl_call (bl_alloc (bl_alloc (bl_refl _) _) _) hgb) (Nat.le_refl _) _) (Nat.le_refl _) _) (Nat.le_refl _) _⟩
  · have hn : parseOk s.data.toList = false := shape_no (by
      have he : (s.data.toList.length == 10) = false := beq_eq_false_iff_ne.2 (by simpa using hz)
      simp only [dateShape, he, Bool.false_and])
    obtain ⟨e1, e2, e3, e4⟩ := p_no hn
    rw [e1, e2, e3, e4]
    clear e1 e2 e3 e4 hn
    have h1 : ((s.size : Int) != 10) = true := by simp; omega
    go_enter Tryz.func80, Tryz.ntmps80
    go_wp2
    exact bodyPost_ret (v := .tuple #[.agg #[.int .i64 0, .int .i64 0, .int .i64 0], .bool false]) (by simp [results, Tryz.results80, go_sem]) rfl ⟨rfl, bl_alloc (bl_refl _) _⟩
end Go.Proofs.YtcgkfgklggjmaaaGreatDoor
end
section
namespace Go.Proofs.YtcgkfgklggjmaaaGreatDoor.Par
set_option linter.unusedVariables false
set_option linter.unusedSimpArgs false
open Go.RowKit
def strF (s : ByteArray) : List Value := [.string s]
theorem strF_len (s : ByteArray) : (strF s).length = 1 := rfl
theorem strs_blk {w : World} {g n c : Nat} {cs : Array Value} {ws : List ByteArray} (h : Blk w g 9 cs) (hc : cs.toList = ws.flatMap strF) (hn : ws.length = n) (hcc : cs.size = c) (hnc : n ≤ c) (hm : c ≤ maxLen) : Lies strF 9 1 w (.slice (some ⟨g, 0, none⟩) n c) ws := by
  subst hn
  refine ⟨by rw [flat_len strF_len], .inr ⟨g, c, cs, rfl, Nat.zero_le _, h, hnc, hm, by omega, ?_⟩⟩
  rw [hc]
  apply List.take_of_length_le
  rw [flat_len strF_len]
  omega
theorem Fr.lies {α : Type} {f : α → List Value} {e : TypeId} {k b : Nat} {w w' : World} {v : Value} {l : List α} (h : Fr b w w') (hl : Lies f e k w v l) (hb : v.ownBlock ≠ some b) : Lies f e k w' v l :=
  hl.keep fun g hg => h.block g (hl.lt g hg).2 (fun e => hb (by rw [hg, e]))
theorem one_drop (w : ByteArray) (ws : List ByteArray) (i : Int) (s : St) (h : (R.take w s).1 = false) : R.one (w :: ws) i s = R.one ws (i + 1) s := by
  rw [R.one, if_neg (by rw [h]; exact Bool.false_ne_true), take_no h]
set_option maxHeartbeats 2000000 in
set_option maxRecDepth 100000 in
theorem one_any {w : World} {b : Nat} {ts : List Tok} {r cap i : Nat} {s : St} (h : RAt w b ts r cap i s) (g c : Nat) (ws : List ByteArray) (hg : g ≠ b) (hl : Lies strF 9 1 w (.slice (some ⟨g, 0, none⟩) ws.length c) ws) (h0 : ws ≠ []) :
    Calls Tryz.prog 35 #[.pointer (some ⟨b, 0, none⟩), .slice (some ⟨g, 0, none⟩) ws.length c] w fun en w' => en = .returned (.int .i64 (R.one ws 0 s).1) ∧ (∃ j, RAt w' b ts r cap j (R.one ws 0 s).2) ∧ Fr b w w' := by
  have hcm : ws.length ≤ c ∧ c ≤ maxLen := by
    obtain ⟨_, h2, h3, _⟩ := hl.ends
    exact ⟨h2, h3⟩
  obtain ⟨hc1, hc2⟩ := hcm
  unfold maxLen at hc2
  obtain ⟨R0, hR0⟩ : ∃ R0, R0 = R.one ws 0 s := ⟨_, rfl⟩
  rw [← hR0]
  have HR := Lib.hid (show R.one (ws.drop 0) ((0 : Nat) : Int) s = R0 from hR0.symm)
  clear hR0
  go_enter Tryz.func35, Tryz.ntmps35
  go_wp2_with fail
  go_loopw [9] (fun v9 wr => ∃ k j : Nat, k ≤ ws.length ∧ v9 = .int .i64 k ∧ RAt wr b ts r cap j s ∧ Fr b w wr ∧ Hid (R.one (ws.drop k) (k : Int) s = R0)) (fun v9 _ => ws.length - (intOf v9).toNat)
  case atStart => exact ⟨0, i, Nat.zero_le _, rfl, h, Fr.refl b w, HR⟩
  case round =>
    obtain ⟨k, j, hk, rfl, hP, hF, HK⟩ := hrel
    by_cases hlt : k < ws.length
    · have hl1 := hF.lies hl (by intro e; exact hg (Option.some.inj e))
      obtain ⟨x, hx⟩ : ∃ x, ws[k]? = some x := ⟨_, List.getElem?_eq_getElem hlt⟩
      have hcell := hl1.at strF_len hx (j := 0) (u := .string x) rfl
      rw [Nat.mul_one, Nat.add_zero] at hcell
      have hgl := World.block_lt_of_cell? wr _ hcell
      have hdr : ws.drop k = x :: ws.drop (k + 1) := by
        rw [List.drop_eq_getElem_cons hlt]
        congr 1
        rw [List.getElem?_eq_getElem hlt] at hx
        exact Option.some.inj hx
      have b0 : (0 : Int) ≤ (k : Int) := by omega
      have b1 : (k : Int) < (ws.length : Int) := by omega
      have ht := take_any hP x
      have HD := Lib.hid hdr
      have HX := Lib.hid hx
      clear hdr hx
      cases hc : (R.take x s).1 with
      | true =>
        have h2 : R0 = ((k : Int), (R.take x s).2) := by rw [← HK.out, HD.out, R.one, if_pos hc]
        rw [hc] at ht
        clear HK HR
        subst h2
        go_wp2_with (go_at_call 79; refine ht.mono ?_; rintro e w1 ⟨rfl, hP1, hF1⟩)
        go_ret
        exact ⟨rfl, hP1, hF.trans hF1⟩
      | false =>
        have h2 : R.one (ws.drop (k + 1)) (((k + 1 : Nat)) : Int) s = R0 := by
          rw [← HK.out, HD.out, one_drop _ _ _ _ hc]; rfl
        have H2 := Lib.hid h2
        rw [hc, take_no hc] at ht
        clear HK HR h2 hc
        go_wp2_with (go_at_call 79; refine ht.mono ?_; rintro e w1 ⟨rfl, hP1, hF1⟩)
        go_roundw
        case rel =>
          obtain ⟨j1, hP1⟩ := hP1
          exact ⟨k + 1, j1, by omega, by go_num, hP1, hF.trans hF1, H2⟩
        case measure => simp [intOf]; omega
    · obtain rfl : k = ws.length := by omega
      have h2 : R0 = (-1, s) := by rw [← HK.out, List.drop_length]; rfl
      clear HK HR
      subst h2
      go_wp2_with fail
      go_ret
      exact ⟨rfl, ⟨j, hP⟩, hF⟩
end Go.Proofs.YtcgkfgklggjmaaaGreatDoor.Par
end
section
namespace Go.Proofs.YtcgkfgklggjmaaaGreatDoor.Par
set_option linter.unusedVariables false
set_option linter.unusedSimpArgs false
open Go.RowKit
set_option maxHeartbeats 2000000 in
set_option maxRecDepth 100000 in
theorem rmode_any {w : World} {b : Nat} {ts : List Tok} {r cap i : Nat} {s : St} (h : RAt w b ts r cap i s) :
    Calls Tryz.prog 82 #[.pointer (some ⟨b, 0, none⟩)] w fun en w' => en = .returned (.int .i64 (R.mode s).1) ∧ (∃ j, RAt w' b ts r cap j (R.mode s).2) ∧ Fr b w w' := by
  have hbl := bl_alloc (bl_refl w) (.cells #[.string wFloor, .string wCeil, .string wHalfup, .string wHalfeven] 9)
  have hb := h.blk.lt
  have ho := one_any (h.below hbl) w.heap.size 4 [wFloor, wCeil, wHalfup, wHalfeven] (by omega) (strs_blk (Blk.new w _ _) rfl rfl rfl (Nat.le_refl _) (by decide)) (by simp)
  have hrg := one_range [wFloor, wCeil, wHalfup, wHalfeven] 0 s
  rw [← rone_eq] at hrg
  unfold R.mode
  generalize R.one [wFloor, wCeil, wHalfup, wHalfeven] 0 s = o at *
  obtain ⟨o1, o2⟩ := o
  simp only [List.length_cons, List.length_nil] at ho hrg
  by_cases hn : o1 < 0
  · have hm : max o1 0 = 0 := by omega
    simp only [if_pos hn]
    go_enter Tryz.func82, Tryz.ntmps82
    go_wp2_with fail
    refine ho.mono ?_
    rintro e w1 ⟨rfl, ⟨j, hP⟩, hF⟩
    go_wp2_with fail
    refine (wrong_any hP 4).mono ?_
    rintro e w2 ⟨rfl, hP2, hF2⟩
    go_wp2_with fail
    go_ret
    exact ⟨by rw [hm]; rfl, ⟨j, hP2⟩, ((Fr.of_below hbl).trans hF).trans hF2⟩
  · have hm : max o1 0 = o1 := by omega
    simp only [if_neg hn]
    go_enter Tryz.func82, Tryz.ntmps82
    go_wp2_with fail
    refine ho.mono ?_
    rintro e w1 ⟨rfl, ⟨j, hP⟩, hF⟩
    go_wp2_with fail
    go_ret
    exact ⟨by rw [hm]; rfl, ⟨j, hP⟩, (Fr.of_below hbl).trans hF⟩
set_option maxHeartbeats 2000000 in
set_option maxRecDepth 100000 in
theorem rday_any {w : World} {b : Nat} {ts : List Tok} {r cap i : Nat} {s : St} (h : RAt w b ts r cap i s) :
    Calls Tryz.prog 34 #[.pointer (some ⟨b, 0, none⟩)] w fun en w' => en = .returned (dayV (R.day dp s).1) ∧ (∃ j, RAt w' b ts r cap j (R.day dp s).2) ∧ Fr b w w' := by
  have hbl := bl_alloc (bl_refl w) (.cells #[.int .i64 0, .int .i64 0, .int .i64 0] 24)
  have hk := token_any (h.below hbl) 4 (by decide)
  have hb := h.blk.lt
  have kr := Blk.new w 24 #[.int .i64 0, .int .i64 0, .int .i64 0]
  have e1 : R.day dp s = (dp (R.token 4 s).1, (R.token 4 s).2) := rfl
  rw [e1]
  generalize R.token 4 s = x at *
  obtain ⟨x1, x2⟩ := x
  unfold dayV dp
  clear e1
  go_enter Tryz.func34, Tryz.ntmps34
  go_wp2_with fail
  refine hk.mono ?_
  rintro e w1 ⟨rfl, ⟨j, hP⟩, hF⟩
  have kr1 := hF.blk kr (by omega)
  go_wp2_with fail
  refine (rparse_any _ _).mono ?_
  rintro e w2 ⟨rfl, hb2⟩
  have kr2 := kr1.call hb2
  have hP2 := hP.below hb2
  have hlr := kr2.lt
  obtain ⟨r0, r1, r2, g0, g1, g2⟩ := kr2.c3
  have hr := h.rlt
  go_wp2_with fail
  have hF2 := ((Fr.of_below (b := b) hbl).trans hF).trans (Fr.of_below hb2)
  exact bodyPost_ret (results_cell_row rfl _ _ w.heap.size _ #[.int .i64 (pY x1), .int .i64 (pM x1), .int .i64 (pD x1)] (0, 0) _ rfl ((((kr2.set_ 0 _).set_ 1 _).set_ 2 _).alloc _) Tryz.underlying24 rfl (by kernel_rfl)) rfl
    ⟨rfl, ⟨j, (((hP2.far ⟨w.heap.size, 0, none⟩ (by (try dsimp only); omega) (by (try dsimp only); omega) _).far ⟨w.heap.size, 1, none⟩ (by (try dsimp only); omega) (by (try dsimp only); omega) _).far ⟨w.heap.size, 2, none⟩ (by (try dsimp only); omega) (by (try dsimp only); omega) _).below (bl_alloc (bl_refl _) _)⟩,
      (((hF2.setNew ⟨w.heap.size, 0, none⟩ (Nat.le_refl _) _).setNew ⟨w.heap.size, 1, none⟩ (Nat.le_refl _) _).setNew ⟨w.heap.size, 2, none⟩ (Nat.le_refl _) _).trans (Fr.of_below (bl_alloc (bl_refl _) _))⟩
end Go.Proofs.YtcgkfgklggjmaaaGreatDoor.Par
end
section
namespace Go.Proofs.YtcgkfgklggjmaaaGreatDoor.Par
set_option linter.unusedVariables false
set_option linter.unusedSimpArgs false
open Go.RowKit
def winC (x : Win) : List Value := [.bool x.has, .int .i64 x.from_.1, .int .i64 x.from_.2.1, .int .i64 x.from_.2.2, .int .i64 x.to_.1, .int .i64 x.to_.2.1, .int .i64 x.to_.2.2]
def winV (x : Win) : Value := .agg #[.bool x.has, .int .i64 x.from_.1, .int .i64 x.from_.2.1, .int .i64 x.from_.2.2, .int .i64 x.to_.1, .int .i64 x.to_.2.1, .int .i64 x.to_.2.2]
set_option maxHeartbeats 4000000 in
set_option maxRecDepth 100000 in
theorem rwindow_any {w : World} {b : Nat} {ts : List Tok} {r cap i : Nat} {s : St} (h : RAt w b ts r cap i s) :
    Calls Tryz.prog 37 #[.pointer (some ⟨b, 0, none⟩)] w fun en w' => en = .returned (winV (R.window dp s).1) ∧ (∃ j, RAt w' b ts r cap j (R.window dp s).2) ∧ Fr b w w' := by
  have hbl := bl_alloc (bl_refl w) (.cells #[.bool false, .int .i64 0, .int .i64 0, .int .i64 0, .int .i64 0, .int .i64 0, .int .i64 0] 60)
  have ht := take_any (h.below hbl) wFrom
  have hb := h.blk.lt
  have hr := h.rlt
  have kr := Blk.new w 60 #[.bool false, .int .i64 0, .int .i64 0, .int .i64 0, .int .i64 0, .int .i64 0, .int .i64 0]
  unfold R.window
  simp only
  generalize R.take wFrom s = x at *
  obtain ⟨x1, x2⟩ := x
  cases x1 with
  | false =>
    simp only [Bool.false_eq_true, if_false]
    go_enter Tryz.func37, Tryz.ntmps37
    go_wp2_with fail
    refine ht.mono ?_
    rintro e w1 ⟨rfl, ⟨j, hP⟩, hF⟩
    have kr1 := hF.blk kr (by omega)
    have hF1 := (Fr.of_below (b := b) hbl).trans hF
    obtain ⟨d0, d1, d2, d3, d4, d5, d6, g0, g1, g2, g3, g4, g5, g6⟩ := kr1.c7
    have hlr := kr1.lt
    go_wp2_with fail
    exact bodyPost_ret (results_cell_row rfl _ _ w.heap.size _ #[.bool false, .int .i64 0, .int .i64 0, .int .i64 0, .int .i64 0, .int .i64 0, .int .i64 0] (0, 0) _ rfl (kr1.putAll [_, _, _, _, _, _, _] 0) Tryz.underlying60 rfl (by kernel_rfl)) rfl
      ⟨rfl, ⟨j, hP.putAll (by omega) (by omega) 0 [_, _, _, _, _, _, _]⟩, hF1.putsNew (Nat.le_refl _) 0 [_, _, _, _, _, _, _]⟩
  | true =>
    simp only [if_true]
    have hd := fun v i (h : RAt v b ts r cap i x2) => rday_any h
    generalize R.day dp x2 = y at *
    obtain ⟨y1, y2⟩ := y
    have hw := fun v i (h : RAt v b ts r cap i y2) => want_any h wTo
    generalize R.want wTo y2 = s3 at *
    have hd4 := fun v i (h : RAt v b ts r cap i s3) => rday_any h
    generalize R.day dp s3 = z at *
    obtain ⟨z1, z2⟩ := z
    unfold dayV at hd hd4
    go_enter Tryz.func37, Tryz.ntmps37
    go_wp2_with fail
    refine ht.mono ?_
    rintro e w1 ⟨rfl, ⟨j, hP⟩, hF⟩
    have kr1 := hF.blk kr (by omega)
    have hF1 := (Fr.of_below (b := b) hbl).trans hF
    go_wp2_with fail
    refine (hd _ _ hP).mono ?_
    rintro e w2 ⟨rfl, ⟨j2, hP2⟩, hF2⟩
    have kr2 := hF2.blk kr1 (by omega)
    have hF02 := hF1.trans hF2
    have kf := Blk.new w2 24 #[.int .i64 y1.1, .int .i64 y1.2.1, .int .i64 y1.2.2]
    have hbl2 := bl_alloc (bl_refl w2) (.cells #[.int .i64 y1.1, .int .i64 y1.2.1, .int .i64 y1.2.2] 24)
    have kr3 := kr2.call hbl2
    have hP3 := hP2.below hbl2
    have hl2 := kr2.lt
    have hbb2 := hP2.blk.lt
    have hrr2 := hP2.rlt
    go_wp2_with fail
    refine (hw _ _ hP3).mono ?_
    rintro e w4 ⟨rfl, ⟨j4, hP4⟩, hF4⟩
    have kf4 := hF4.blk kf (by omega)
    have kr4 := hF4.blk kr3 (by omega)
    have hF04 := (hF02.trans (Fr.of_below hbl2)).trans hF4
    obtain ⟨f0, f1, f2, _⟩ := kf4.c3
    have hlf := kf4.lt
    obtain ⟨d0, d1, d2, d3, d4, d5, d6, g0, g1, g2, g3, g4, g5, g6⟩ := kr4.c7
    have hlr := kr4.lt
    go_wp2_with fail
    go_region_with (go_at_call 34; refine (hd4 _ _ hP4.drew).mono ?_; rintro e w5 ⟨rfl, ⟨j5, hP5⟩, hF5⟩; (have kf5 := hF5.blk kf4.drew (by omega)); (have kr5 := hF5.blk kr4.drew (by omega)); obtain ⟨f50, f51, f52, _⟩ := kf5.c3; obtain ⟨d50, d51, d52, d53, d54, d55, d56, g50, g51, g52, g53, g54, g55, g56⟩ := kr5.c7)
    all_goals
      go_wp2_with fail
      exact bodyPost_ret (results_cell_row rfl _ _ w.heap.size _ #[.bool true, .int .i64 y1.1, .int .i64 y1.2.1, .int .i64 y1.2.2, .int .i64 z1.1, .int .i64 z1.2.1, .int .i64 z1.2.2] (0, 0) _ rfl (kr5.putAll [_, _, _, _, _, _, _] 0) Tryz.underlying60 rfl (by kernel_rfl)) rfl
        ⟨rfl, ⟨j5, hP5.putAll (g := w.heap.size) (by omega) (by omega) 0 [_, _, _, _, _, _, _]⟩, (hF04.trans (hF5.ofDrew)).putsNew (Nat.le_refl _) 0 [_, _, _, _, _, _, _]⟩
end Go.Proofs.YtcgkfgklggjmaaaGreatDoor.Par
end
section
namespace Go.Proofs.YtcgkfgklggjmaaaGreatDoor.Par
set_option linter.unusedVariables false
set_option linter.unusedSimpArgs false
open Go.RowKit
def tierF (t : Tier) : List Value := [.int .i64 t.upto, .int .i64 t.rate]
def adjF (a : Adj) : List Value := [.int .i64 a.kind, .int .i64 a.n, .int .i64 a.mode]
theorem tierF_len (t : Tier) : (tierF t).length = 2 := rfl
theorem adjF_len (a : Adj) : (adjF a).length = 3 := rfl
abbrev TiersLie (B : Nat) (w : World) (v : Value) (l : List Tier) : Prop := w.ownsRow B 131 2 v l.length (l.flatMap tierF)
abbrev AdjsLie (B : Nat) (w : World) (v : Value) (l : List Adj) : Prop := w.ownsRow B 134 3 v l.length (l.flatMap adjF)
/-- a charge's cells, with the values of its two slices -/
def chgC (m : ByteArray) (x : Win) (al bl ki : Int) (tv : Value) (mo : Int) (av : Value) (li co : Int) : Array Value :=
  #[.string m, .bool x.has, .int .i64 x.from_.1, .int .i64 x.from_.2.1, .int .i64 x.from_.2.2, .int .i64 x.to_.1, .int .i64 x.to_.2.1, .int .i64 x.to_.2.2, .int .i64 al, .int .i64 bl, .int .i64 ki, tv, .int .i64 mo, av, .int .i64 li, .int .i64 co]
theorem own_fr {w0 w w' : World} {b : Nat} {e : TypeId} {size n : Nat} {v : Value} {xs : List Value} (ho : w.ownsRow w0.heap.size e size v n xs) (hf : Fr b w w') (hb : b < w0.heap.size) : w'.ownsRow w0.heap.size e size v n xs :=
  own_keep ho fun g hg => hf.block g (ho.lt g hg).2 (by have := (ho.lt g hg).1; omega)
theorem own_put {w : World} {base g : Nat} {e : TypeId} {size n : Nat} {v : Value} {xs : List Value} (ho : w.ownsRow base e size v n xs) (hg : v.ownBlock ≠ some g) (k : Nat) (vs : List Value) : (puts w g k vs).ownsRow base e size v n xs :=
  own_keep ho fun x hx => (puts_heap vs w k).1 x (fun e => hg (by rw [hx, e]))
theorem tierInfo : (Tryz.prog.info? 131).map (fun i => (i.zero, i.size, i.bytes)) = some (some (.agg #[.int .i64 0, .int .i64 0]), 2, 16) := by kernel_rfl
theorem adjInfo : (Tryz.prog.info? 134).map (fun i => (i.zero, i.size, i.bytes)) = some (some (.agg #[.int .i64 0, .int .i64 0, .int .i64 0]), 3, 24) := by kernel_rfl
theorem setRow_far (w : World) (g x : Nat) (cs : Array Value) (hx : x ≠ g) : (w.setRow g cs).heap[x]? = w.heap[x]? := by
  simp [World.setRow, Array.getElem?_modify, Ne.symm hx]
theorem setRow_size (w : World) (g : Nat) (cs : Array Value) : (w.setRow g cs).heap.size = w.heap.size := by simp [World.setRow]
theorem Blk.row {w : World} {g : Nat} {t : TypeId} {cs cs' : Array Value} (h : Blk w g t cs) : Blk (w.setRow g cs') g t cs' := setRow_heap w g cs cs' t (0, 0) h
theorem own_row {w : World} {base g : Nat} {e : TypeId} {size n : Nat} {v : Value} {xs : List Value} {cs : Array Value} (ho : w.ownsRow base e size v n xs) (hg : v.ownBlock ≠ some g) : (w.setRow g cs).ownsRow base e size v n xs :=
  own_keep ho fun x hx => setRow_far w g x cs (fun e => hg (by rw [hx, e]))
theorem Fr.row {b : Nat} {w v : World} (h : Fr b w v) {g : Nat} {cs : Array Value} (hg : w.heap.size ≤ g) : Fr b w (v.setRow g cs) :=
  ⟨h.os, h.tape, h.output, by rw [setRow_size]; exact h.size, fun i hi hb => (setRow_far v g i cs (by omega)).trans (h.block i hi hb)⟩
theorem RAt.row_ {w : World} {b : Nat} {ts : List Tok} {r cap i : Nat} {s : St} (h : RAt w b ts r cap i s) {g : Nat} {cs : Array Value} (hb : b ≠ g) (hr : r ≠ g) : RAt (w.setRow g cs) b ts r cap i s :=
  ⟨(setRow_far w g b cs hb).trans h.blk, own_keep h.row (fun x hx => by obtain rfl : r = x := Option.some.inj hx; exact setRow_far w g r cs hr), h.ne, h.rest, h.lt, h.last, h.big, h.ends⟩
end Go.Proofs.YtcgkfgklggjmaaaGreatDoor.Par
end
section
namespace Go.Proofs.YtcgkfgklggjmaaaGreatDoor.Par
set_option linter.unusedVariables false
set_option linter.unusedSimpArgs false
section
variable (dp : ByteArray → Day) (np : ByteArray → Int → Int → Int × Int)
/-! the reference's items without their fuel -/
theorem len_rtake (w : ByteArray) (s : St) : len (R.take w s).2 ≤ len s := by rw [take_eq]; exact len_eat w s
theorem len_rone (l : List ByteArray) (i : Int) (s : St) : len (R.one l i s).2 ≤ len s := by rw [rone_eq]; exact len_one l i s
theorem len_rtierLoop : ∀ (f : Nat) (acc : List Tier) (s : St), len (R.tierLoop np f acc s).2 ≤ len s
  | 0, acc, s => Nat.le_refl _
  | f + 1, acc, s => by
    rw [R.tierLoop]
    by_cases hc : (R.take wUpto s).1 = true
    · rw [if_pos hc]
      exact Nat.le_trans (len_rtierLoop f _ _) (Nat.le_of_lt (rtier_round np hc))
    · rw [if_neg hc]
      exact len_rtake wUpto s
theorem len_rtiers (s : St) : len (R.tiers np s).2 ≤ len s :=
  Nat.le_trans (len_want _ _) (Nat.le_trans (len_want _ _) (Nat.le_trans (len_rnumber np _ _ _) (Nat.le_trans (len_want _ _) (Nat.le_trans (len_want _ _) (Nat.le_trans (len_rtierLoop np _ _ _) (len_want _ s))))))
theorem len_rday (s : St) : len (R.day dp s).2 ≤ len s := len_token 4 s
theorem len_rwindow (s : St) : len (R.window dp s).2 ≤ len s := by
  unfold R.window
  simp only
  split
  · exact Nat.le_trans (len_rday dp _) (Nat.le_trans (len_want _ _) (Nat.le_trans (len_rday dp _) (len_rtake wFrom s)))
  · exact len_rtake wFrom s
theorem len_ropt (w : ByteArray) (d : Int) (s : St) : len (R.opt np w d s).2 ≤ len s := by
  unfold R.opt
  split
  · exact Nat.le_trans (len_want _ _) (Nat.le_trans (len_rnumber np _ _ _) (len_rtake w s))
  · exact len_rtake w s
theorem len_rckind (s : St) : len (R.ckind s).2 ≤ len s := by
  unfold R.ckind
  simp only
  split
  · rw [len_wrong]; exact len_rone _ _ s
  · exact len_rone _ _ s
theorem len_radjLoop : ∀ (f : Nat) (acc : List Adj) (s : St), len (R.adjLoop np f acc s).2 ≤ len s
  | 0, acc, s => Nat.le_refl _
  | f + 1, acc, s => by
    rw [R.adjLoop]
    simp only
    split
    · exact len_rone _ _ s
    · exact Nat.le_trans (len_radjLoop f _ _) (Nat.le_trans (len_radjBody np _ _) (len_rone _ _ s))
theorem len_rcharge (l c : Int) (s : St) : len (R.charge dp np l c s).2 ≤ len s :=
  Nat.le_trans (len_want _ _) (Nat.le_trans (len_radjLoop np _ _ _) (Nat.le_trans (len_want _ _) (Nat.le_trans (len_rmode _) (Nat.le_trans (len_want _ _) (Nat.le_trans (len_rtiers np _) (Nat.le_trans (len_rckind _) (Nat.le_trans (len_ropt np _ _ _) (Nat.le_trans (len_ropt np _ _ _) (Nat.le_trans (len_want _ _) (Nat.le_trans (len_rwindow dp _) (len_token 1 s)))))))))))
theorem len_rmeter (l c : Int) (s : St) : len (R.meter np l c s).2 ≤ len s :=
  Nat.le_trans (len_want _ _) (Nat.le_trans (len_rnumber np _ _ _) (Nat.le_trans (len_want _ _) (Nat.le_trans (len_token 1 _) (Nat.le_trans (len_want _ _) (len_token 1 s)))))
theorem len_rfee (l c : Int) (s : St) : len (R.fee dp np l c s).2 ≤ len s :=
  Nat.le_trans (len_want _ _) (Nat.le_trans (len_rwindow dp _) (len_rnumber np _ _ s))
/-- a round of the items' loop leaves fewer, or a fault -/
theorem ritem_round (p : Plan) (s : St) : (R.item dp np p s).2.err ≠ 0 ∨ len (R.item dp np p s).2 < len s := by
  unfold R.item
  simp only
  have hrg := one_range [wMeter, wFee, wCharge] 0 s
  have h1 := len_oned [wMeter, wFee, wCharge] 0 s (by decide)
  rw [← rone_eq] at hrg h1
  by_cases c0 : (R.one [wMeter, wFee, wCharge] 0 s).1 = 0
  · right
    rw [if_pos c0]
    have h2 := len_rmeter np (peek s).line (peek s).col (R.one [wMeter, wFee, wCharge] 0 s).2
    have h3 := h1 (by omega)
    show len (R.meter np (peek s).line (peek s).col (R.one [wMeter, wFee, wCharge] 0 s).2).2 < len s
    omega
  · rw [if_neg c0]
    by_cases c1 : (R.one [wMeter, wFee, wCharge] 0 s).1 = 1
    · right
      rw [if_pos c1]
      have h2 := len_rfee dp np (peek s).line (peek s).col (R.one [wMeter, wFee, wCharge] 0 s).2
      have h3 := h1 (by omega)
      show len (R.fee dp np (peek s).line (peek s).col (R.one [wMeter, wFee, wCharge] 0 s).2).2 < len s
      omega
    · rw [if_neg c1]
      by_cases c2 : (R.one [wMeter, wFee, wCharge] 0 s).1 = 2
      · right
        rw [if_pos c2]
        have h2 := len_rcharge dp np (peek s).line (peek s).col (R.one [wMeter, wFee, wCharge] 0 s).2
        have h3 := h1 (by omega)
        show len (R.charge dp np (peek s).line (peek s).col (R.one [wMeter, wFee, wCharge] 0 s).2).2 < len s
        omega
      · left
        rw [if_neg c2]
        exact fail_err 4 _ _ (by decide)
theorem ritems_fuel : ∀ (f g : Nat) (p : Plan) (s : St), len s ≤ f → len s ≤ g → R.items dp np f p s = R.items dp np g p s
  | 0, 0, p, s, _, _ => rfl
  | 0, g + 1, p, s, h, _ => by
    have hk : (peek s).kind = 0 := by
      unfold len at h
      unfold peek
      rw [List.length_eq_zero_iff.1 (Nat.le_zero.1 h)]; rfl
    rw [R.items, R.items, if_neg (fun e => e.2 hk)]
  | f + 1, 0, p, s, _, h => by
    have hk : (peek s).kind = 0 := by
      unfold len at h
      unfold peek
      rw [List.length_eq_zero_iff.1 (Nat.le_zero.1 h)]; rfl
    rw [R.items, R.items, if_neg (fun e => e.2 hk)]
  | f + 1, g + 1, p, s, hf, hg => by
    rw [R.items, R.items]
    by_cases hc : s.err = 0 ∧ (peek s).kind ≠ 0
    · rw [if_pos hc, if_pos hc]
      rcases ritem_round dp np p s with h | h
      · rw [ritems_bad dp np f _ h, ritems_bad dp np g _ h]
      · exact ritems_fuel f g _ _ (by omega) (by omega)
    · rw [if_neg hc, if_neg hc]
def R.itemsAll (p : Plan) (s : St) : Plan × St := R.items dp np (len s) p s
theorem ritemsAll_step {p : Plan} {s : St} (h0 : s.err = 0) (hk : (peek s).kind ≠ 0) : R.itemsAll dp np p s = R.itemsAll dp np (R.item dp np p s).1 (R.item dp np p s).2 := by
  unfold R.itemsAll
  obtain ⟨f, hf⟩ : ∃ f, len s = f + 1 := by
    cases hl : len s with
    | zero =>
      exfalso
      apply hk
      unfold peek
      rw [List.length_eq_zero_iff.1 hl]; rfl
    | succ f => exact ⟨f, rfl⟩
  rw [hf, R.items, if_pos ⟨h0, hk⟩]
  rcases ritem_round dp np p s with h | h
  · rw [ritems_bad dp np f _ h, ritems_bad dp np _ _ h]
  · exact ritems_fuel dp np f _ _ _ (by omega) (Nat.le_refl _)
theorem ritemsAll_end {p : Plan} {s : St} (h : s.err ≠ 0 ∨ (peek s).kind = 0) : R.itemsAll dp np p s = (p, s) := by
  unfold R.itemsAll
  cases hl : len s with
  | zero => rfl
  | succ f => rw [R.items, if_neg (fun e => h.elim (fun x => x e.1) (fun x => e.2 x))]
end
/-- what the reference's parser says of a text: with dates and numbers as values -/
def noPlan : Plan := ⟨⟨#[]⟩, ⟨#[]⟩, (0, 0, 0), (0, 0, 0), [], [], [], 0, 0⟩
end Go.Proofs.YtcgkfgklggjmaaaGreatDoor.Par
end
section
namespace Go.Proofs.YtcgkfgklggjmaaaGreatDoor.Par
set_option linter.unusedVariables false
set_option linter.unusedSimpArgs false
open Go.RowKit
/-! a plan in memory -/
def metF (m : Met) : List Value := [.string m.name, .string m.unit, .int .i64 m.max, .int .i64 m.line, .int .i64 m.col]
def feeF (f : Fee) : List Value := [.int .i64 f.amount, .bool f.win.has, .int .i64 f.win.from_.1, .int .i64 f.win.from_.2.1, .int .i64 f.win.from_.2.2, .int .i64 f.win.to_.1, .int .i64 f.win.to_.2.1, .int .i64 f.win.to_.2.2, .int .i64 f.line, .int .i64 f.col]
abbrev CT := Chg × Value × Value
def chgF (x : CT) : List Value := [.string x.1.meter, .bool x.1.win.has, .int .i64 x.1.win.from_.1, .int .i64 x.1.win.from_.2.1, .int .i64 x.1.win.from_.2.2, .int .i64 x.1.win.to_.1, .int .i64 x.1.win.to_.2.1, .int .i64 x.1.win.to_.2.2, .int .i64 x.1.allow, .int .i64 x.1.block, .int .i64 x.1.kind, x.2.1, .int .i64 x.1.mode, x.2.2, .int .i64 x.1.line, .int .i64 x.1.col]
theorem metF_len (m : Met) : (metF m).length = 5 := rfl
theorem feeF_len (f : Fee) : (feeF f).length = 10 := rfl
theorem chgF_len (x : CT) : (chgF x).length = 16 := rfl
def planC (p : Plan) (mv fv cv : Value) : Array Value := #[.string p.name, .string p.cur, .int .i64 p.from_.1, .int .i64 p.from_.2.1, .int .i64 p.from_.2.2, .int .i64 p.to_.1, .int .i64 p.to_.2.1, .int .i64 p.to_.2.2, mv, fv, cv, .int .i64 p.line, .int .i64 p.col]
def Nest (B : Nat) (w : World) (cs : List CT) : Prop := ∀ c ∈ cs, TiersLie B w c.2.1 c.1.tiers ∧ AdjsLie B w c.2.2 c.1.adjs
/-- the blocks in which a plan's rows lie -/
def blocks (mv fv cv : Value) (cs : List CT) (g : Nat) : Prop := mv.ownBlock = some g ∨ fv.ownBlock = some g ∨ cv.ownBlock = some g ∨ ∃ c ∈ cs, c.2.1.ownBlock = some g ∨ c.2.2.ownBlock = some g
structure Rows (w : World) (B : Nat) (p : Plan) (mv fv cv : Value) (cs : List CT) : Prop where
  mo : w.ownsRow B 58 5 mv p.mets.length (p.mets.flatMap metF)
  fo : w.ownsRow B 62 10 fv p.fees.length (p.fees.flatMap feeF)
  co : w.ownsRow B 66 16 cv cs.length (cs.flatMap chgF)
  eq : cs.map (·.1) = p.chgs
  ne : Nest B w cs
/-- a value that is a plan -/
def PlanLies (B : Nat) (w : World) (v : Value) (p : Plan) : Prop := ∃ mv fv cv cs, v = .agg (planC p mv fv cv) ∧ Rows w B p mv fv cv cs
section
variable {w w' : World} {B : Nat} {p : Plan} {mv fv cv : Value} {cs : List CT}
theorem Rows.lt (h : Rows w B p mv fv cv cs) {g : Nat} (hg : blocks mv fv cv cs g) : g < w.heap.size := by
  rcases hg with hg | hg | hg | ⟨c, hc, hg | hg⟩
  · exact (h.mo.lt g hg).2
  · exact (h.fo.lt g hg).2
  · exact (h.co.lt g hg).2
  · exact (World.ownsRow.lt (h.ne c hc).1 g hg).2
  · exact (World.ownsRow.lt (h.ne c hc).2 g hg).2
theorem Rows.keep (h : Rows w B p mv fv cv cs) (hk : ∀ g, blocks mv fv cv cs g → w'.heap[g]? = w.heap[g]?) : Rows w' B p mv fv cv cs :=
  ⟨own_keep h.mo fun g hg => hk g (.inl hg), own_keep h.fo fun g hg => hk g (.inr (.inl hg)), own_keep h.co fun g hg => hk g (.inr (.inr (.inl hg))), h.eq,
    fun c hc => ⟨own_keep (h.ne c hc).1 fun g hg => hk g (.inr (.inr (.inr ⟨c, hc, .inl hg⟩))), own_keep (h.ne c hc).2 fun g hg => hk g (.inr (.inr (.inr ⟨c, hc, .inr hg⟩)))⟩⟩
theorem Rows.below (h : Rows w B p mv fv cv cs) (hb : Below w.heap.size w w') : Rows w' B p mv fv cv cs := h.keep fun g hg => hb.block g (h.lt hg)
theorem Rows.base {B' : Nat} (h : Rows w B p mv fv cv cs) (hB : B' ≤ B) : Rows w B' p mv fv cv cs := ⟨own_base h.mo hB, own_base h.fo hB, own_base h.co hB, h.eq, fun c hc => ⟨own_base (h.ne c hc).1 hB, own_base (h.ne c hc).2 hB⟩⟩
/-- a block of another type is none of a plan's -/
theorem Rows.apart (h : Rows w B p mv fv cv cs) {g : Nat} {T : TypeId} {cells : Array Value} (hb : Blk w g T cells) (h1 : 58 ≠ T) (h2 : 62 ≠ T) (h3 : 66 ≠ T) (h4 : 131 ≠ T) (h5 : 134 ≠ T) : ¬ blocks mv fv cv cs g := by
  rintro (hg | hg | hg | ⟨c, hc, hg | hg⟩)
  · exact own_ne_blk h.mo hb h1 hg
  · exact own_ne_blk h.fo hb h2 hg
  · exact own_ne_blk h.co hb h3 hg
  · exact own_ne_blk (h.ne c hc).1 hb h4 hg
  · exact own_ne_blk (h.ne c hc).2 hb h5 hg
theorem Rows.fr {b : Nat} (h : Rows w B p mv fv cv cs) (hf : Fr b w w') (hb : ¬ blocks mv fv cv cs b) : Rows w' B p mv fv cv cs :=
  h.keep fun g hg => hf.block g (h.lt hg) (fun e => hb (e ▸ hg))
theorem Rows.puts_ (h : Rows w B p mv fv cv cs) {g : Nat} (hg : ¬ blocks mv fv cv cs g) (k : Nat) (vs : List Value) : Rows (puts w g k vs) B p mv fv cv cs :=
  h.keep fun x hx => (puts_heap vs w k).1 x (fun e => hg (e ▸ hx))
theorem Rows.setRow_ (h : Rows w B p mv fv cv cs) {g : Nat} (hg : ¬ blocks mv fv cv cs g) (cells : Array Value) : Rows (w.setRow g cells) B p mv fv cv cs :=
  h.keep fun x hx => setRow_far w g x cells (fun e => hg (e ▸ hx))
/-- a row's append leaves all others -/
theorem own_grown {w w' : World} {B B' : Nat} {e e' : TypeId} {k k' n n' : Nat} {v v' : Value} {xs xs' : List Value} (h : w.ownsRow B e k v n xs) (h' : w.ownsRow B' e' k' v' n' xs') (hne : e ≠ e') (hg : w.grownBy w' v'.ownBlock) : w'.ownsRow B e k v n xs :=
  own_keep h fun g hx => hg.block g (h.lt g hx).2 (fun eq => own_ne_own h h' hne hx eq.symm)
theorem Nest.grown {B B' : Nat} {e' : TypeId} {k' n' : Nat} {v' : Value} {xs' : List Value} (h : Nest B w cs) (h' : w.ownsRow B' e' k' v' n' xs') (h4 : 131 ≠ e') (h5 : 134 ≠ e') (hg : w.grownBy w' v'.ownBlock) : Nest B w' cs :=
  fun c hc => ⟨own_grown (h c hc).1 h' h4 hg, own_grown (h c hc).2 h' h5 hg⟩
theorem Rows.addMet {mv' : Value} {m : Met} (h : Rows w B p mv fv cv cs) (hg : w.grownBy w' mv.ownBlock) (ho : w'.ownsRow B 58 5 mv' (p.mets.length + 1) (p.mets.flatMap metF ++ metF m)) : Rows w' B { p with mets := p.mets ++ [m] } mv' fv cv cs :=
  ⟨by show w'.ownsRow _ _ _ _ (p.mets ++ [m]).length ((p.mets ++ [m]).flatMap metF); rw [flat_snoc, List.length_append]; exact ho, own_grown h.fo h.mo (by decide) hg, own_grown h.co h.mo (by decide) hg, h.eq, h.ne.grown h.mo (by decide) (by decide) hg⟩
theorem Rows.addFee {fv' : Value} {f : Fee} (h : Rows w B p mv fv cv cs) (hg : w.grownBy w' fv.ownBlock) (ho : w'.ownsRow B 62 10 fv' (p.fees.length + 1) (p.fees.flatMap feeF ++ feeF f)) : Rows w' B { p with fees := p.fees ++ [f] } mv fv' cv cs :=
  ⟨own_grown h.mo h.fo (by decide) hg, by show w'.ownsRow _ _ _ _ (p.fees ++ [f]).length ((p.fees ++ [f]).flatMap feeF); rw [flat_snoc, List.length_append]; exact ho, own_grown h.co h.fo (by decide) hg, h.eq, h.ne.grown h.fo (by decide) (by decide) hg⟩
theorem Rows.addChg {cv' tv av : Value} {c : Chg} (h : Rows w B p mv fv cv cs) (ht : TiersLie B w tv c.tiers) (ha : AdjsLie B w av c.adjs) (hg : w.grownBy w' cv.ownBlock) (ho : w'.ownsRow B 66 16 cv' (cs.length + 1) (cs.flatMap chgF ++ chgF (c, tv, av))) : Rows w' B { p with chgs := p.chgs ++ [c] } mv fv cv' (cs ++ [(c, tv, av)]) :=
  ⟨own_grown h.mo h.co (by decide) hg, own_grown h.fo h.co (by decide) hg, by rw [flat_snoc, List.length_append]; exact ho, by rw [List.map_append, h.eq]; rfl, fun x hx => by
    rcases List.mem_append.1 hx with hx | hx
    · exact (h.ne.grown h.co (by decide) (by decide) hg) x hx
    · obtain rfl := List.mem_singleton.1 hx
      exact ⟨own_grown ht h.co (by decide) hg, own_grown ha h.co (by decide) hg⟩⟩
theorem Rows.none (w : World) (B : Nat) (p : Plan) (h1 : p.mets = []) (h2 : p.fees = []) (h3 : p.chgs = []) : Rows w B p (.slice none 0 0) (.slice none 0 0) (.slice none 0 0) [] :=
  ⟨by rw [h1]; exact World.ownsRow_nil _ _ _ _, by rw [h2]; exact World.ownsRow_nil _ _ _ _, World.ownsRow_nil _ _ _ _, by rw [h3]; rfl, fun c hc => by cases hc⟩
end
theorem PlanLies.below {B : Nat} {w w' : World} {v : Value} {p : Plan} (h : PlanLies B w v p) (hb : Below w.heap.size w w') : PlanLies B w' v p := by
  obtain ⟨mv, fv, cv, cs, h1, h2⟩ := h
  exact ⟨mv, fv, cv, cs, h1, h2.below hb⟩
theorem metInfo : (Tryz.prog.info? 58).map (fun i => (i.zero, i.size, i.bytes)) = some (some (.agg #[.string ⟨#[]⟩, .string ⟨#[]⟩, .int .i64 0, .int .i64 0, .int .i64 0]), 5, 56) := by kernel_rfl
theorem feeInfo : (Tryz.prog.info? 62).map (fun i => (i.zero, i.size, i.bytes)) = some (some (.agg #[.int .i64 0, .bool false, .int .i64 0, .int .i64 0, .int .i64 0, .int .i64 0, .int .i64 0, .int .i64 0, .int .i64 0, .int .i64 0]), 10, 80) := by kernel_rfl
theorem chgInfo : (Tryz.prog.info? 66).map (fun i => (i.zero, i.size, i.bytes)) = some (some (.agg (chgC ⟨#[]⟩ noWin 0 0 0 (.slice none 0 0) 0 (.slice none 0 0) 0 0)), 16, 168) := by kernel_rfl
theorem Fr.toBelow {b : Nat} {w0 w w' : World} (h : Below w0.heap.size w0 w) (hf : Fr b w w') (hb : w0.heap.size ≤ b) : Below w0.heap.size w0 w' :=
  ⟨hf.os.trans h.os, hf.tape.trans h.tape, hf.output.trans h.output, Nat.le_trans h.size hf.size, fun g hg => (hf.block g (Nat.lt_of_lt_of_le hg h.size) (by omega)).trans (h.block g hg)⟩
end Go.Proofs.YtcgkfgklggjmaaaGreatDoor.Par
end
section
namespace Go.Proofs.YtcgkfgklggjmaaaGreatDoor.Par
set_option linter.unusedVariables false
set_option linter.unusedSimpArgs false
open Go.RowKit
/-- a number's eight bytes -/
def octets (n : Int) : List Int := [IntKind.u64.wrap n % 256, IntKind.u64.wrap n / 256 % 256, IntKind.u64.wrap n / 65536 % 256, IntKind.u64.wrap n / 16777216 % 256, IntKind.u64.wrap n / 4294967296 % 256, IntKind.u64.wrap n / 1099511627776 % 256, IntKind.u64.wrap n / 281474976710656 % 256, IntKind.u64.wrap n / 72057594037927936 % 256]
def textB (n : Int) : ByteArray := strOfNums (octets n)
set_option maxHeartbeats 4000000 in
set_option maxRecDepth 100000 in
theorem text_any (n : Int) (w : World) : Calls Tryz.prog 108 #[.int .i64 n] w fun e w' => e = .returned (.string (textB n)) ∧ Below w.heap.size w w' := by
  have kb := Blk.new w 5 ((octets n).map (Value.int .u8)).toArray
  have hcv := run_convert_bytes_arg (P := Tryz.prog) (w.alloc (.cells ((octets n).map (Value.int .u8)).toArray 5)) 86 5 Tryz.underlying86 Tryz.underlying5 w.heap.size 0 8 8 (octets n) rfl (fun i hi => by
    rw [Nat.zero_add, kb.cell i]
    have hl : i < (octets n).length := hi
    simp [List.getElem?_eq_getElem hl, List.getD]) 9 Tryz.underlying9
  clear kb
  unfold textB
  generalize hs : strOfNums (octets n) = s at *
  clear hs
  unfold octets at hcv
  simp only [List.map_cons, List.map_nil] at hcv
  go_enter Tryz.func108, Tryz.ntmps108
  go_wp2
  go_ret
  exact ⟨rfl, bl_alloc (bl_refl w) _⟩
end Go.Proofs.YtcgkfgklggjmaaaGreatDoor.Par
end
section
namespace Go.Proofs.YtcgkfgklggjmaaaGreatDoor.Par
set_option linter.unusedVariables false
set_option linter.unusedSimpArgs false
open Go.RowKit
/-- what lay there stays -/
structure LB (w w' : World) : Prop where
  out : Below w.heap.size w w'
theorem LB.drew {w v : World} (h : LB w v) : LB w v.drew := ⟨bl_drew h.out⟩
theorem LB.call {w v w' : World} (h : LB w v) (hb : Below v.heap.size v w') : LB w w' := ⟨bl_call h.out hb⟩
theorem LB.alloc {w v : World} (h : LB w v) (o : Obj) : LB w (v.alloc o) := ⟨bl_alloc h.out o⟩
def wYes := str [121, 101, 115]
def wNo := str [110, 111]
def winT (x : Win) : List ByteArray := [if x.has = true then wYes else wNo, textB x.from_.1, textB x.from_.2.1, textB x.from_.2.2, textB x.to_.1, textB x.to_.2.1, textB x.to_.2.2]
set_option maxHeartbeats 4000000 in
set_option maxRecDepth 100000 in
theorem win6_any (x : Win) (w : World) : Calls Tryz.prog 107 #[.agg #[.bool x.has, .int .i64 x.from_.1, .int .i64 x.from_.2.1, .int .i64 x.from_.2.2, .int .i64 x.to_.1, .int .i64 x.to_.2.1, .int .i64 x.to_.2.2]] w fun e w' => ∃ g, e = .returned (.slice (some ⟨g, 0, none⟩) 7 7) ∧ Blk w' g 9 ((winT x).map Value.string).toArray ∧ w.heap.size ≤ g ∧ Below w.heap.size w w' := by
  have kb := Blk.new w 60 #[.bool x.has, .int .i64 x.from_.1, .int .i64 x.from_.2.1, .int .i64 x.from_.2.2, .int .i64 x.to_.1, .int .i64 x.to_.2.1, .int .i64 x.to_.2.2]
  obtain ⟨c0, _, _, _, _, _, _, _, _, _, _, _, _, _⟩ := kb.c7
  have hbl := bl_alloc (bl_refl w) (.cells #[.bool x.has, .int .i64 x.from_.1, .int .i64 x.from_.2.1, .int .i64 x.from_.2.2, .int .i64 x.to_.1, .int .i64 x.to_.2.1, .int .i64 x.to_.2.2] 60)
  unfold winT wYes wNo
  cases hh : x.has with
  | true =>
    rw [hh] at kb c0 hbl
    have kd : Blk (w.alloc (.cells #[.bool true, .int .i64 x.from_.1, .int .i64 x.from_.2.1, .int .i64 x.from_.2.2, .int .i64 x.to_.1, .int .i64 x.to_.2.1, .int .i64 x.to_.2.2] 60)).drew w.heap.size 60 #[.bool true, .int .i64 x.from_.1, .int .i64 x.from_.2.1, .int .i64 x.from_.2.2, .int .i64 x.to_.1, .int .i64 x.to_.2.1, .int .i64 x.to_.2.2] := kb.drew
    have hLd : LB w (w.alloc (.cells #[.bool true, .int .i64 x.from_.1, .int .i64 x.from_.2.1, .int .i64 x.from_.2.2, .int .i64 x.to_.1, .int .i64 x.to_.2.1, .int .i64 x.to_.2.2] 60)).drew := ⟨bl_drew hbl⟩
    obtain ⟨_, k1, k2, k3, k4, k5, k6, _, _, _, _, _, _, _⟩ := kd.c7
    clear hh hbl
    simp only [if_true, Bool.false_eq_true, if_false]
    go_enter Tryz.func107, Tryz.ntmps107
    go_wp2_with fail
    go_region_held3 (fun w' => w'.cell? ⟨w.heap.size, 1, none⟩ = some (.int .i64 x.from_.1) ∧ w'.cell? ⟨w.heap.size, 2, none⟩ = some (.int .i64 x.from_.2.1) ∧ w'.cell? ⟨w.heap.size, 3, none⟩ = some (.int .i64 x.from_.2.2) ∧ w'.cell? ⟨w.heap.size, 4, none⟩ = some (.int .i64 x.to_.1) ∧ w'.cell? ⟨w.heap.size, 5, none⟩ = some (.int .i64 x.to_.2.1) ∧ w'.cell? ⟨w.heap.size, 6, none⟩ = some (.int .i64 x.to_.2.2) ∧ LB w w')
      (refine ⟨?_, ?_, ?_, ?_, ?_, ?_, ?_⟩ <;> first | with_reducible assumption | exact LB.alloc (by with_reducible assumption) _ | (go_keep; done))
      ((go_at_call 108; refine (text_any _ _).mono ?_; rintro e w6 ⟨rfl, hb6⟩; (have kW : Blk w6 w.heap.size 60 #[.bool true, .int .i64 x.from_.1, .int .i64 x.from_.2.1, .int .i64 x.from_.2.2, .int .i64 x.to_.1, .int .i64 x.to_.2.1, .int .i64 x.to_.2.2] := Blk.call (by with_reducible assumption) hb6); obtain ⟨_, j1, j2, j3, j4, j5, j6, _, _, _, _, _, _, _⟩ := kW.c7; (have hLW : LB w w6 := LB.call (by with_reducible assumption) hb6)))
    all_goals go_split_ands
    go_wp2_with fail
    go_ret
    exact ⟨_, rfl, Blk.new _ _ _, hLW.out.size, bl_alloc hLW.out _⟩
  | false =>
    rw [hh] at kb c0 hbl
    have kd : Blk (w.alloc (.cells #[.bool false, .int .i64 x.from_.1, .int .i64 x.from_.2.1, .int .i64 x.from_.2.2, .int .i64 x.to_.1, .int .i64 x.to_.2.1, .int .i64 x.to_.2.2] 60)).drew w.heap.size 60 #[.bool false, .int .i64 x.from_.1, .int .i64 x.from_.2.1, .int .i64 x.from_.2.2, .int .i64 x.to_.1, .int .i64 x.to_.2.1, .int .i64 x.to_.2.2] := kb.drew
    have hLd : LB w (w.alloc (.cells #[.bool false, .int .i64 x.from_.1, .int .i64 x.from_.2.1, .int .i64 x.from_.2.2, .int .i64 x.to_.1, .int .i64 x.to_.2.1, .int .i64 x.to_.2.2] 60)).drew := ⟨bl_drew hbl⟩
    obtain ⟨_, k1, k2, k3, k4, k5, k6, _, _, _, _, _, _, _⟩ := kd.c7
    clear hh hbl
    simp only [if_true, Bool.false_eq_true, if_false]
    go_enter Tryz.func107, Tryz.ntmps107
    go_wp2_with fail
    go_region_held3 (fun w' => w'.cell? ⟨w.heap.size, 1, none⟩ = some (.int .i64 x.from_.1) ∧ w'.cell? ⟨w.heap.size, 2, none⟩ = some (.int .i64 x.from_.2.1) ∧ w'.cell? ⟨w.heap.size, 3, none⟩ = some (.int .i64 x.from_.2.2) ∧ w'.cell? ⟨w.heap.size, 4, none⟩ = some (.int .i64 x.to_.1) ∧ w'.cell? ⟨w.heap.size, 5, none⟩ = some (.int .i64 x.to_.2.1) ∧ w'.cell? ⟨w.heap.size, 6, none⟩ = some (.int .i64 x.to_.2.2) ∧ LB w w')
      (refine ⟨?_, ?_, ?_, ?_, ?_, ?_, ?_⟩ <;> first | with_reducible assumption | exact LB.alloc (by with_reducible assumption) _ | (go_keep; done))
      ((go_at_call 108; refine (text_any _ _).mono ?_; rintro e w6 ⟨rfl, hb6⟩; (have kW : Blk w6 w.heap.size 60 #[.bool false, .int .i64 x.from_.1, .int .i64 x.from_.2.1, .int .i64 x.from_.2.2, .int .i64 x.to_.1, .int .i64 x.to_.2.1, .int .i64 x.to_.2.2] := Blk.call (by with_reducible assumption) hb6); obtain ⟨_, j1, j2, j3, j4, j5, j6, _, _, _, _, _, _, _⟩ := kW.c7; (have hLW : LB w w6 := LB.call (by with_reducible assumption) hb6)))
    all_goals go_split_ands
    go_wp2_with fail
    go_ret
    exact ⟨_, rfl, Blk.new _ _ _, hLW.out.size, bl_alloc hLW.out _⟩
end Go.Proofs.YtcgkfgklggjmaaaGreatDoor.Par
end
