import Derived.Test.YtapdepjkcbipaaaLexJ
import Derived.Test.YtapdepjkcbipaaaLexR
namespace Go.Proofs.Ytapdepjkcbipaaa
set_option linter.unusedVariables false
set_option linter.unusedSimpArgs false
open Go.RowKit
theorem fault_eq (d : Nat) (a b c a' b' c' : Int) (w : World) :
    (Op.equalIn (d + 2) 26 (.agg #[.int .i64 a, .int .i64 b, .int .i64 c]) (.agg #[.int .i64 a', .int .i64 b', .int .i64 c'])).run Try.prog w = .ok (a == a' && (b == b' && (c == c' && true))) w := by
  refine eqS_of _ _ _ _ _ _ Try.underlying26 (by kernel_rfl) ?_
  refine eqF_cons _ _ _ _ _ (.int .i64 a) (.int .i64 a') _ _ rfl (by go_simp) (by go_simp) (by go_simp) ?_
  refine eqF_cons _ _ _ _ _ (.int .i64 b) (.int .i64 b') _ _ rfl (by go_simp) (by go_simp) (by go_simp) ?_
  refine eqF_cons _ _ _ _ _ (.int .i64 c) (.int .i64 c') _ _ rfl (by go_simp) (by go_simp) (by go_simp) ?_
  exact eqF_nil _ _ _
theorem tok_eq (d : Nat) (a c e a' c' e' : Int) (b b' : ByteArray) (w : World) :
    (Op.equalIn (d + 2) 36 (.agg #[.int .i64 a, .string b, .int .i64 c, .int .i64 e]) (.agg #[.int .i64 a', .string b', .int .i64 c', .int .i64 e'])).run Try.prog w = .ok (a == a' && (b.toList == b'.toList && (c == c' && (e == e' && true)))) w := by
  refine eqS_of _ _ _ _ _ _ Try.underlying36 (by kernel_rfl) ?_
  refine eqF_cons _ _ _ _ _ (.int .i64 a) (.int .i64 a') _ _ rfl (by go_simp) (by go_simp) (by go_simp) ?_
  refine eqF_cons _ _ _ _ _ (.string b) (.string b') _ _ rfl (by go_simp) (by go_simp) (by go_simp) ?_
  refine eqF_cons _ _ _ _ _ (.int .i64 c) (.int .i64 c') _ _ rfl (by go_simp) (by go_simp) (by go_simp) ?_
  refine eqF_cons _ _ _ _ _ (.int .i64 e) (.int .i64 e') _ _ rfl (by go_simp) (by go_simp) (by go_simp) ?_
  exact eqF_nil _ _ _
theorem fault_same (a b c : Int) (w : World) : (binOp .eql 26 (.agg #[.int .i64 a, .int .i64 b, .int .i64 c]) (.agg #[.int .i64 a, .int .i64 b, .int .i64 c])).run Try.prog w = .ok (.bool true) w := by
  have h := eql_S (fun d => fault_eq (d + 1) a b c a b c w)
  simpa using h
theorem fault_zero (w : World) : (binOp .neq 26 (.agg #[.int .i64 0, .int .i64 0, .int .i64 0]) (.agg #[.int .i64 0, .int .i64 0, .int .i64 0])).run Try.prog w = .ok (.bool false) w := by
  have h := neq_S (fun d => fault_eq (d + 1) 0 0 0 0 0 0 w)
  simpa using h
theorem fault_three (b c : Int) (w : World) : (binOp .neq 26 (.agg #[.int .i64 3, .int .i64 b, .int .i64 c]) (.agg #[.int .i64 0, .int .i64 0, .int .i64 0])).run Try.prog w = .ok (.bool true) w := by
  have h := neq_S (fun d => fault_eq (d + 1) 3 b c 0 0 0 w)
  simpa using h
theorem tok_same (a c e : Int) (b : ByteArray) (w : World) : (binOp .neq 36 (.agg #[.int .i64 a, .string b, .int .i64 c, .int .i64 e]) (.agg #[.int .i64 a, .string b, .int .i64 c, .int .i64 e])).run Try.prog w = .ok (.bool false) w := by
  have h := neq_S (fun d => tok_eq (d + 1) a c e a c e b b w)
  simpa using h
theorem joined_list (a b : ByteArray) : (a ++ ⟨#[10]⟩ ++ b).data.toList = a.data.toList ++ 10 :: b.data.toList := by
  simp only [ByteArray.data_append, Array.toList_append]; simp
theorem joined_size (a b : ByteArray) : (a ++ ⟨#[10]⟩ ++ b).size = a.size + 1 + b.size := by
  rw [ByteArray.size_append, ByteArray.size_append]; rfl
set_option maxHeartbeats 4000000 in
set_option maxRecDepth 100000 in
theorem joins_err (a b : ByteArray) (w : World) (hG : GL w) (ha : a.size ≤ 4096) (hb : b.size < 4096) (p q : Int) (hA1 : lexL a.data.toList 1 1 = .error (p, q)) (hA : lexAll a.data.toList = ([], 3, p, q)) (ts : List Tok) (er r t : Int) (hB : lexAll b.data.toList = (ts, er, r, t)) :
    Calls Try.prog 4 #[.string a, .string b] w fun e w' => e = .returned (.bool true) ∧ Below w.heap.size w w' := by
  have hsa : a.size ≤ 9223372036854775807 := by omega
  have hsb : b.size ≤ 9223372036854775807 := by omega
  have hsz : (a ++ ⟨#[10]⟩ ++ b).size ≤ 9223372036854775807 := by rw [joined_size]; omega
  have hZ : lexAll (a ++ ⟨#[10]⟩ ++ b).data.toList = ([], 3, p, q) := by
    rw [joined_list]; exact all_join_err hA1 (by rw [← joined_list]; simp only [Array.length_toList]; show (a ++ ⟨#[10]⟩ ++ b).size ≤ _; rw [joined_size]; omega)
  have q1 := fault_three p q
  have q2 := fault_same 3 p q
  clear hA1
  go_enter Try.func4, Try.ntmps4
  go_wp2_with fail
  refine (alive_any _ hG).mono ?_
  rintro e w1 ⟨rfl, hb1⟩
  have hG1 := hG.below hb1
  go_wp2_with fail
  refine (lex_any a _ hG1 hsa).mono ?_
  rintro e w2 ⟨v2, ts2, er2, ln2, cl2, rfl, hown2, hb2, hall2⟩
  have hh2 := hA.symm.trans hall2
  simp only [Prod.mk.injEq] at hh2
  obtain ⟨rfl, rfl, rfl, rfl⟩ := hh2
  clear hall2
  have hG2 := hG1.below hb2
  have hbb2 := bl_call hb1 hb2
  unfold lexR
  go_wp2_with fail
  refine (lex_any b _ (hG2.alloc _) hsb).mono ?_
  rintro e w3 ⟨v3, ts3, er3, ln3, cl3, rfl, hown3, hb3, hall3⟩
  have hh3 := hB.symm.trans hall3
  simp only [Prod.mk.injEq] at hh3
  obtain ⟨rfl, rfl, rfl, rfl⟩ := hh3
  clear hall3
  have kx3 := (Blk.new w2 26 #[.int .i64 3, .int .i64 p, .int .i64 q]).call hb3
  have o23 := ownsRow_below (w := w2.alloc (.cells #[.int .i64 3, .int .i64 p, .int .i64 q] 26)) (hown2.alloc _) hb3
  have hG3 := (hG2.alloc (.cells #[.int .i64 3, .int .i64 p, .int .i64 q] 26)).below hb3
  have hbb3 := bl_call (bl_alloc hbb2 _) hb3
  unfold lexR
  go_wp2_with fail
  refine (lex_any _ _ (hG3.alloc _) ?_).mono ?_
  · exact hsz
  rintro e w4 ⟨v4, ts4, er4, ln4, cl4, rfl, hown4, hb4, hall4⟩
  have hh4 := hZ.symm.trans hall4
  simp only [Prod.mk.injEq] at hh4
  obtain ⟨rfl, rfl, rfl, rfl⟩ := hh4
  clear hall4
  have kx4 := (kx3.alloc (.cells #[.int .i64 er, .int .i64 r, .int .i64 t] 26)).call hb4
  have ky4 := (Blk.new w3 26 #[.int .i64 er, .int .i64 r, .int .i64 t]).call hb4
  have o24 := ownsRow_below (w := w3.alloc (.cells #[.int .i64 er, .int .i64 r, .int .i64 t] 26)) (o23.alloc _) hb4
  have o34 := ownsRow_below (w := w3.alloc (.cells #[.int .i64 er, .int .i64 r, .int .i64 t] 26)) (hown3.alloc _) hb4
  have hG4 := (hG3.alloc (.cells #[.int .i64 er, .int .i64 r, .int .i64 t] 26)).below hb4
  have hbb4 := bl_call (bl_alloc hbb3 _) hb4
  obtain ⟨x0, x1, x2, _, _, _⟩ := kx4.c3
  obtain ⟨y0, y1, y2, _, _, _⟩ := ky4.c3
  have hlx := kx4.lt
  have hly := ky4.lt
  unfold lexR
  obtain ⟨C4, cap4, rfl, _, _⟩ := own_slice hown4
  simp only [List.length_nil]
  go_wp2_with fail
  go_ret
  exact ⟨rfl, bl_alloc hbb4 _⟩
set_option maxHeartbeats 4000000 in
set_option maxRecDepth 100000 in
theorem joins_err2 (a b : ByteArray) (w : World) (hG : GL w) (ha : a.size ≤ 4096) (hb : b.size < 4096) (us : List Tok) (e : Tok) (hA1 : lexL a.data.toList 1 1 = .ok (us ++ [e])) (hA : lexAll a.data.toList = (us ++ [e], 0, 0, 0)) (p q : Int) (hB1 : lexL b.data.toList 1 1 = .error (p, q)) (hB : lexAll b.data.toList = ([], 3, p, q)) :
    Calls Try.prog 4 #[.string a, .string b] w fun e w' => e = .returned (.bool true) ∧ Below w.heap.size w w' := by
  have hsa : a.size ≤ 9223372036854775807 := by omega
  have hsb : b.size ≤ 9223372036854775807 := by omega
  have hsz : (a ++ ⟨#[10]⟩ ++ b).size ≤ 9223372036854775807 := by rw [joined_size]; omega
  have hlz : (a.data.toList ++ 10 :: b.data.toList).length ≤ 8192 := by
    rw [← joined_list]; simp only [Array.length_toList]; show (a ++ ⟨#[10]⟩ ++ b).size ≤ _; rw [joined_size]; omega
  have hZ : lexAll (a ++ ⟨#[10]⟩ ++ b).data.toList = ([], 3, p + e.line, q) := by
    rw [joined_list, lexAll, if_neg (by omega), all_join_ok hA1 hlz, hB1]; rfl
  have hb1 := (all_bound hA1 e (by simp))
  have hb2 := all_bound_err hB1
  have hac : a.data.toList.length = a.size := by simp
  have hbc : b.data.toList.length = b.size := by simp
  have hcu := count_ok _ a.data.toList 1 1 _ (Nat.le_refl _) hA1
  rw [List.length_append, List.length_singleton] at hcu
  have d1 : 1 ≤ e.line ∧ e.line ≤ 10000 := by omega
  have d2 : 1 ≤ p ∧ p ≤ 10000 := by omega
  have d3 : us.length ≤ 10000 := by omega
  obtain ⟨d4, d5⟩ := d1
  obtain ⟨d6, d7⟩ := d2
  clear hb1 hb2 hac hbc hcu hlz hA1 hB1
  have q1 := fault_three p q
  have q2 := fault_zero
  go_enter Try.func4, Try.ntmps4
  go_wp2_with fail
  refine (alive_any _ hG).mono ?_
  rintro e w1 ⟨rfl, hb1⟩
  have hG1 := hG.below hb1
  go_wp2_with fail
  refine (lex_any a _ hG1 hsa).mono ?_
  rintro e w2 ⟨v2, ts2, er2, ln2, cl2, rfl, hown2, hb2, hall2⟩
  have hh2 := hA.symm.trans hall2
  simp only [Prod.mk.injEq] at hh2
  obtain ⟨rfl, rfl, rfl, rfl⟩ := hh2
  clear hall2
  have hul : (us ++ [e]).length = us.length + 1 := by simp
  rw [hul] at hown2
  obtain ⟨g, cap, rfl, _, _⟩ := hown2.form (by omega)
  clear hul
  have hG2 := hG1.below hb2
  have hbb2 := bl_call hb1 hb2
  unfold lexR
  go_wp2_with fail
  refine (lex_any b _ (hG2.alloc _) hsb).mono ?_
  rintro e w3 ⟨v3, ts3, er3, ln3, cl3, rfl, hown3, hb3, hall3⟩
  have hh3 := hB.symm.trans hall3
  simp only [Prod.mk.injEq] at hh3
  obtain ⟨rfl, rfl, rfl, rfl⟩ := hh3
  clear hall3
  have kx3 := (Blk.new w2 26 #[.int .i64 0, .int .i64 0, .int .i64 0]).call hb3
  have o23 := ownsRow_below (w := w2.alloc (.cells #[.int .i64 0, .int .i64 0, .int .i64 0] 26)) (hown2.alloc _) hb3
  have hG3 := (hG2.alloc (.cells #[.int .i64 0, .int .i64 0, .int .i64 0] 26)).below hb3
  have hbb3 := bl_call (bl_alloc hbb2 _) hb3
  unfold lexR
  go_wp2_with fail
  refine (lex_any _ _ (hG3.alloc _) ?_).mono ?_
  · exact hsz
  rintro e w4 ⟨v4, ts4, er4, ln4, cl4, rfl, hown4, hb4, hall4⟩
  have hh4 := hZ.symm.trans hall4
  simp only [Prod.mk.injEq] at hh4
  obtain ⟨rfl, rfl, rfl, rfl⟩ := hh4
  clear hall4
  have kx4 := (kx3.alloc (.cells #[.int .i64 3, .int .i64 p, .int .i64 q] 26)).call hb4
  have ky4 := (Blk.new w3 26 #[.int .i64 3, .int .i64 p, .int .i64 q]).call hb4
  have o24 := ownsRow_below (w := w3.alloc (.cells #[.int .i64 3, .int .i64 p, .int .i64 q] 26)) (o23.alloc _) hb4
  have o34 := ownsRow_below (w := w3.alloc (.cells #[.int .i64 3, .int .i64 p, .int .i64 q] 26)) (hown3.alloc _) hb4
  have hG4 := (hG3.alloc (.cells #[.int .i64 3, .int .i64 p, .int .i64 q] 26)).below hb4
  have hbb4 := bl_call (bl_alloc hbb3 _) hb4
  obtain ⟨x0, x1, x2, _, _, _⟩ := kx4.c3
  obtain ⟨y0, y1, y2, _, _, _⟩ := ky4.c3
  have hlx := kx4.lt
  have hly := ky4.lt
  unfold lexR
  obtain ⟨C4, cap4, rfl, _, _⟩ := own_slice hown4
  simp only [List.length_nil]
  obtain ⟨t0, t1, t2, t3⟩ := tok_cells o24 (k := us.length) (t := e) (by simp) (by simp)
  have hgl := (o24.lt g rfl).2
  have wr1 : IntKind.i64.wrap ((us.length : Int) + 1 - 1) = (us.length : Int) := by rw [IntKind.wrap_i64]; omega
  have wr2 : IntKind.i64.wrap (p + e.line) = p + e.line := by rw [IntKind.wrap_i64]; omega
  have wr3 : (0 : Int) ≤ (us.length : Int) := by omega
  have wr4 : (us.length : Int) < (us.length : Int) + 1 := by omega
  go_wp2_with fail
  go_quiet (fail)
  go_wp2_with fail
  go_ret
  exact ⟨rfl, bl_drewN (bl_alloc hbb4 _) _⟩
theorem join_at (us vs : List Tok) (d : Int) (k : Nat) (h : k < us.length) : ∃ t, (us ++ vs.map (downT d))[k]? = some t ∧ ∀ e, (us ++ [e])[k]? = some t := by
  refine ⟨us[k], ?_, fun e => ?_⟩
  · rw [List.getElem?_append_left h]; exact List.getElem?_eq_getElem h
  · rw [List.getElem?_append_left h]; exact List.getElem?_eq_getElem h
theorem join_at2 (us vs : List Tok) (d : Int) (j : Nat) (h : j < vs.length) : ∃ t, (us ++ vs.map (downT d))[us.length + j]? = some (downT d t) ∧ vs[j]? = some t := by
  refine ⟨vs[j], ?_, List.getElem?_eq_getElem h⟩
  rw [List.getElem?_append_right (by omega), show us.length + j - us.length = j from by omega, List.getElem?_map, List.getElem?_eq_getElem h]; rfl
set_option maxHeartbeats 8000000 in
set_option maxRecDepth 100000 in
theorem joins_ok (a b : ByteArray) (w : World) (hG : GL w) (ha : a.size ≤ 4096) (hb : b.size < 4096) (us : List Tok) (e : Tok) (hA1 : lexL a.data.toList 1 1 = .ok (us ++ [e])) (hA : lexAll a.data.toList = (us ++ [e], 0, 0, 0)) (vs : List Tok) (hB1 : lexL b.data.toList 1 1 = .ok vs) (hB : lexAll b.data.toList = (vs, 0, 0, 0)) :
    Calls Try.prog 4 #[.string a, .string b] w fun e w' => e = .returned (.bool true) ∧ Below w.heap.size w w' := by
  have hsa : a.size ≤ 9223372036854775807 := by omega
  have hsb : b.size ≤ 9223372036854775807 := by omega
  have hsz : (a ++ ⟨#[10]⟩ ++ b).size ≤ 9223372036854775807 := by rw [joined_size]; omega
  have hlz : (a.data.toList ++ 10 :: b.data.toList).length ≤ 8192 := by
    rw [← joined_list]; simp only [Array.length_toList]; show (a ++ ⟨#[10]⟩ ++ b).size ≤ _; rw [joined_size]; omega
  have hZ : lexAll (a ++ ⟨#[10]⟩ ++ b).data.toList = (us ++ vs.map (downT e.line), 0, 0, 0) := by
    rw [joined_list, lexAll, if_neg (by omega), all_join_ok hA1 hlz, hB1]; rfl
  have hb1 := (all_bound hA1 e (by simp))
  have hb2 := all_bound hB1
  have hac : a.data.toList.length = a.size := by simp
  have hbc : b.data.toList.length = b.size := by simp
  have hcu := count_ok _ a.data.toList 1 1 _ (Nat.le_refl _) hA1
  have hcv := count_ok _ b.data.toList 1 1 _ (Nat.le_refl _) hB1
  rw [List.length_append, List.length_singleton] at hcu
  have d1 : 1 ≤ e.line ∧ e.line ≤ 10000 := by omega
  have d2 : ∀ t ∈ vs, 1 ≤ t.line ∧ t.line ≤ 10000 := fun t ht => by have := hb2 t ht; omega
  have D2 := Lib.hid d2
  have d3 : us.length ≤ 10000 := by omega
  have d6 : vs.length ≤ 10000 := by omega
  obtain ⟨d4, d5⟩ := d1
  clear hb1 hb2 hac hbc hcu hcv hlz hA1 hB1 d2
  have q2 := fault_zero
  go_enter Try.func4, Try.ntmps4
  go_wp2_with fail
  refine (alive_any _ hG).mono ?_
  rintro e w1 ⟨rfl, hb1⟩
  have hG1 := hG.below hb1
  go_wp2_with fail
  refine (lex_any a _ hG1 hsa).mono ?_
  rintro e w2 ⟨v2, ts2, er2, ln2, cl2, rfl, hown2, hb2, hall2⟩
  have hh2 := hA.symm.trans hall2
  simp only [Prod.mk.injEq] at hh2
  obtain ⟨rfl, rfl, rfl, rfl⟩ := hh2
  clear hall2
  have hul : (us ++ [e]).length = us.length + 1 := by simp
  rw [hul] at hown2
  obtain ⟨g, cap, rfl, _, _⟩ := hown2.form (by omega)
  clear hul
  have hG2 := hG1.below hb2
  have hbb2 := bl_call hb1 hb2
  unfold lexR
  go_wp2_with fail
  refine (lex_any b _ (hG2.alloc _) hsb).mono ?_
  rintro e w3 ⟨v3, ts3, er3, ln3, cl3, rfl, hown3, hb3, hall3⟩
  have hh3 := hB.symm.trans hall3
  simp only [Prod.mk.injEq] at hh3
  obtain ⟨rfl, rfl, rfl, rfl⟩ := hh3
  clear hall3
  have kx3 := (Blk.new w2 26 #[.int .i64 0, .int .i64 0, .int .i64 0]).call hb3
  have o23 := ownsRow_below (w := w2.alloc (.cells #[.int .i64 0, .int .i64 0, .int .i64 0] 26)) (hown2.alloc _) hb3
  have hG3 := (hG2.alloc (.cells #[.int .i64 0, .int .i64 0, .int .i64 0] 26)).below hb3
  have hbb3 := bl_call (bl_alloc hbb2 _) hb3
  unfold lexR
  go_wp2_with fail
  refine (lex_any _ _ (hG3.alloc _) ?_).mono ?_
  · exact hsz
  rintro e w4 ⟨v4, ts4, er4, ln4, cl4, rfl, hown4, hb4, hall4⟩
  have hh4 := hZ.symm.trans hall4
  simp only [Prod.mk.injEq] at hh4
  obtain ⟨rfl, rfl, rfl, rfl⟩ := hh4
  clear hall4
  have kx4 := (kx3.alloc (.cells #[.int .i64 0, .int .i64 0, .int .i64 0] 26)).call hb4
  have ky4 := (Blk.new w3 26 #[.int .i64 0, .int .i64 0, .int .i64 0]).call hb4
  have o24 := ownsRow_below (w := w3.alloc (.cells #[.int .i64 0, .int .i64 0, .int .i64 0] 26)) (o23.alloc _) hb4
  have o34 := ownsRow_below (w := w3.alloc (.cells #[.int .i64 0, .int .i64 0, .int .i64 0] 26)) (hown3.alloc _) hb4
  have hG4 := (hG3.alloc (.cells #[.int .i64 0, .int .i64 0, .int .i64 0] 26)).below hb4
  have hbb4 := bl_call (bl_alloc hbb3 _) hb4
  obtain ⟨x0, x1, x2, _, _, _⟩ := kx4.c3
  obtain ⟨y0, y1, y2, _, _, _⟩ := ky4.c3
  have hlx := kx4.lt
  have hly := ky4.lt
  unfold lexR
  have hwl : (us ++ vs.map (downT e.line)).length = us.length + vs.length := by simp
  rw [hwl] at hown4
  obtain ⟨B3, cap3, rfl, hc3, hB3⟩ := own_slice hown3
  obtain ⟨C4, cap4, rfl, hc4, hC4⟩ := own_slice hown4
  obtain ⟨t0, t1, t2, t3⟩ := tok_cells o24 (k := us.length) (t := e) (by simp) (by simp)
  have hgl := (o24.lt g rfl).2
  have hcap1 := own_cap o24
  have hcap3 := own_cap o34
  have hcap4 := own_cap hown4
  unfold maxLen at hcap1 hcap3 hcap4
  have g0 : ((us.length : Int) + 1 == 0) = false := by rw [beq_eq_false_iff_ne]; omega
  go_wp2_with fail
  have o1 := o24.alloc (.cells #[.int .i64 0, .int .i64 0, .int .i64 0] 26)
  have o2 := o34.alloc (.cells #[.int .i64 0, .int .i64 0, .int .i64 0] 26)
  have o3 := hown4.alloc (.cells #[.int .i64 0, .int .i64 0, .int .i64 0] 26)
  have hb5 := bl_alloc hbb4 (.cells #[.int .i64 0, .int .i64 0, .int .i64 0] 26)
  clear o24 o34 hown4 hbb4 hgl t0 t1 t2 t3 x0 x1 x2 y0 y1 y2 hlx hly kx4 ky4 hG4 hbb3 hG3 o23 kx3 hbb2 hG2 hb1 hb2 hb3 hb4 hG1 q2 g0
  generalize w1.heap.size = Q1 at *
  generalize (w2.alloc (.cells #[.int .i64 0, .int .i64 0, .int .i64 0] 26)).heap.size = Q2 at *
  generalize (w3.alloc (.cells #[.int .i64 0, .int .i64 0, .int .i64 0] 26)).heap.size = Q3 at *
  go_loopw [112] (fun v wr => ∃ k : Nat, k ≤ us.length + vs.length ∧ v = .int .i64 k ∧ Below w.heap.size w wr ∧ wr.ownsRow Q1 36 4 (.slice (some ⟨g, 0, none⟩) (us.length + 1) cap) (us.length + 1) (toksCells (us ++ [e])) ∧ wr.ownsRow Q2 36 4 (.slice B3 vs.length cap3) vs.length (toksCells vs) ∧ wr.ownsRow Q3 36 4 (.slice C4 (us.length + vs.length) cap4) (us.length + vs.length) (toksCells (us ++ vs.map (downT e.line)))) (fun v _ => us.length + vs.length - (intOf v).toNat)
  case atStart => exact ⟨0, Nat.zero_le _, rfl, hb5, o1, o2, o3⟩
  case round =>
    obtain ⟨k, hk, rfl, hbw, r1, r2, r3⟩ := hrel
    clear o1 o2 o3 hb5
    by_cases hlt : k < us.length + vs.length
    · obtain ⟨g4, rfl⟩ := hC4 (by omega)
      have hg1 := (r1.lt g rfl).2
      have hg4 := (r3.lt g4 rfl).2
      by_cases hku : k < us.length
      · obtain ⟨t, ht1, ht2⟩ := join_at us vs e.line k hku
        obtain ⟨x0, x1, x2, x3⟩ := tok_cells r1 (ht2 e) (by simp)
        obtain ⟨z0, z1, z2, z3⟩ := tok_cells r3 ht1 (by simp)
        have q3 := tok_same t.kind t.line t.col t.text
        have gg0 : (0 : Int) ≤ (k : Int) := by omega
        have gg1 : (k : Int) < (us.length : Int) + 1 := by omega
        clear ht1 ht2 hC4 hB3
        go_wp2_with fail
        go_quiet (fail)
        go_wp2_with fail
        go_roundw
        case rel => exact ⟨k + 1, by omega, by go_num, bl_drewN (bl_alloc hbw _) _, r1.alloc _, r2.alloc _, r3.alloc _⟩
        case measure => simp [intOf]; omega
      · obtain ⟨j, rfl⟩ : ∃ j, k = us.length + j := ⟨k - us.length, by omega⟩
        obtain ⟨t, ht1, ht2⟩ := join_at2 us vs e.line j (by omega)
        obtain ⟨g3, rfl⟩ := hB3 (by omega)
        have hg3 := (r2.lt g3 rfl).2
        have hd2 := D2.out t (List.mem_of_getElem? ht2)
        obtain ⟨dd1, dd2⟩ := hd2
        obtain ⟨y0, y1, y2, y3⟩ := tok_cells r2 ht2 rfl
        obtain ⟨z0, z1, z2, z3⟩ := tok_cells r3 ht1 (by simp)
        simp only [downT] at z0 z1 z2 z3
        have gg0 : (0 : Int) ≤ (j : Int) := by omega
        have gg1 : (j : Int) < (vs.length : Int) := by omega
        have gg2 : (us.length : Int) + (j : Int) - ((us.length : Int) + 1) + 1 = (j : Int) := by omega
        clear ht1 ht2 hC4 hB3
        go_wp2_with fail
        go_roundw
        case rel => exact ⟨us.length + j + 1, by omega, by go_num, bl_alloc (bl_alloc hbw _) _, (r1.alloc _).alloc _, (r2.alloc _).alloc _, (r3.alloc _).alloc _⟩
        case measure => simp [intOf]; omega
    · go_wp2
      go_ret
      exact ⟨rfl, hbw⟩
set_option maxHeartbeats 1000000 in
set_option maxRecDepth 100000 in
theorem joins_any (a b : ByteArray) (w : World) (hG : GL w) :
    Calls Try.prog 4 #[.string a, .string b] w fun e w' => e = .returned (.bool true) ∧ Below w.heap.size w w' := by
  by_cases ha : a.size ≤ 4096
  · by_cases hb : b.size < 4096
    · have hla : a.data.toList.length = a.size := by simp
      have hlb : b.data.toList.length = b.size := by simp
      rcases all_cases a.data.toList (by omega) with ⟨us, e, hA1, hA⟩ | ⟨p, q, hA1, hA⟩
      · rcases all_cases b.data.toList (by omega) with ⟨us2, e2, hB1, hB⟩ | ⟨p, q, hB1, hB⟩
        · exact joins_ok a b w hG ha hb us e hA1 hA (us2 ++ [e2]) hB1 hB
        · exact joins_err2 a b w hG ha hb us e hA1 hA p q hB1 hB
      · exact joins_err a b w hG ha hb p q hA1 hA _ _ _ _ rfl
    · have hb1 : 4096 ≤ (b.size : Int) := by omega
      have ha1 : (a.size : Int) ≤ 4096 := by omega
      clear hb ha
      go_enter Try.func4, Try.ntmps4
      go_wp2_with (go_at_call 6; refine (alive_any _ hG).mono ?_; rintro e w1 ⟨rfl, hb1⟩)
      go_ret
      exact ⟨rfl, by assumption⟩
  · have ha1 : 4096 < (a.size : Int) := by omega
    clear ha
    go_enter Try.func4, Try.ntmps4
    go_wp2_with (go_at_call 6; refine (alive_any _ hG).mono ?_; rintro e w1 ⟨rfl, hb1⟩)
    go_ret
    exact ⟨rfl, by assumption⟩
end Go.Proofs.Ytapdepjkcbipaaa
