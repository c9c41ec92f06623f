import Derived.Test.YtmhimnmiclnbjaaDoorDecF
namespace Go.Proofs.YtmhimnmiclnbjaaDoor
set_option linter.unusedVariables false
set_option linter.unusedSimpArgs false
open Go.RowKit
theorem size_alloc (w : World) (o : Obj) : (w.alloc o).heap.size = w.heap.size + 1 := Array.size_push _
theorem Blk.new2 (w : World) (o : Obj) (t : TypeId) (cs : Array Value) : Blk ((w.alloc o).alloc (.cells cs t)) (w.heap.size + 1) t cs := by
  have h := Blk.new (w.alloc o) t cs
  rwa [size_alloc] at h
set_option maxHeartbeats 4000000 in
theorem wof_any (a : Int) (w : World) (h0 : 0 ≤ a) (h1 : a < 9223372036854775808) :
    Calls Tryd.prog 35 #[.int .i64 a] w fun e w' => e = .returned (.agg #[.bool false, .int .u64 0, .int .u64 a]) ∧ Below w.heap.size w w' := by
  have hu : IntKind.u64.wrap a = a := by rw [IntKind.wrap_u64]; omega
  go_enter Tryd.func35, Tryd.ntmps35
  go_wp2_with fail
  exact bodyPost_ret (results_cell_row rfl _ _ w.heap.size _ #[.bool false, .int .u64 0, .int .u64 a] (0, 0) _ rfl (Blk.new w _ _) Tryd.underlying65 rfl (by kernel_rfl)) rfl ⟨rfl, bl_alloc (bl_refl w) _⟩
set_option maxHeartbeats 4000000 in
theorem wzero_any (b : Bool) (hi lo : Int) (w : World) :
    Calls Tryd.prog 53 #[.agg #[.bool b, .int .u64 hi, .int .u64 lo]] w fun e w' => e = .returned (.bool (hi == 0 && lo == 0)) ∧ Below w.heap.size w w' := by
  by_cases h : hi = 0
  · subst h
    go_enter Tryd.func53, Tryd.ntmps53
    go_wp2_with fail
    go_ret
    exact ⟨by first | rfl | simp, bl_alloc (bl_refl w) _⟩
  · have hb : (hi == 0) = false := beq_eq_false_iff_ne.mpr h
    go_enter Tryd.func53, Tryd.ntmps53
    go_wp2_with fail
    go_ret
    exact ⟨by rw [hb]; rfl, bl_alloc (bl_refl w) _⟩
set_option maxHeartbeats 4000000 in
theorem wint_ok (lo : Int) (w : World) (l0 : 0 ≤ lo) (l1 : lo < 9223372036854775808) :
    Calls Tryd.prog 32 #[.agg #[.bool false, .int .u64 0, .int .u64 lo]] w fun e w' => e = .returned (.tuple #[.int .i64 lo, .bool true]) ∧ Below w.heap.size w w' := by
  have hu : IntKind.i64.wrap lo = lo := by rw [IntKind.wrap_i64]; omega
  go_enter Tryd.func32, Tryd.ntmps32
  go_wp2_with fail
  go_ret2
  exact ⟨rfl, bl_alloc (bl_refl w) _⟩
set_option maxHeartbeats 4000000 in
theorem wint_no (hi lo : Int) (w : World) (h : hi ≠ 0 ∨ (hi = 0 ∧ 9223372036854775808 ≤ lo)) :
    Calls Tryd.prog 32 #[.agg #[.bool false, .int .u64 hi, .int .u64 lo]] w fun e w' => e = .returned (.tuple #[.int .i64 0, .bool false]) ∧ Below w.heap.size w w' := by
  rcases h with h | ⟨rfl, h⟩
  · have hb : (hi != 0) = true := bne_iff_ne.mpr h
    go_enter Tryd.func32, Tryd.ntmps32
    go_wp2_with fail
    go_ret2
    exact ⟨rfl, bl_alloc (bl_refl w) _⟩
  · go_enter Tryd.func32, Tryd.ntmps32
    go_wp2_with fail
    go_ret2
    exact ⟨rfl, bl_alloc (bl_refl w) _⟩
set_option maxHeartbeats 4000000 in
theorem wplus_any (b c : Bool) (ah al bh bl hi lo : Int) (w : World) (a0 : 0 ≤ ah) (a1 : 0 ≤ al) (a2 : al < 18446744073709551616) (b0 : 0 ≤ bh) (b1 : 0 ≤ bl) (b2 : bl < 18446744073709551616) (hh : ah + bh + 1 < 18446744073709551616)
    (hhi : hi = ah + bh + (al + bl) / 18446744073709551616) (hlo : lo = (al + bl) % 18446744073709551616) :
    Calls Tryd.prog 52 #[.agg #[.bool b, .int .u64 ah, .int .u64 al], .agg #[.bool c, .int .u64 bh, .int .u64 bl]] w fun e w' => e = .returned (.agg #[.bool false, .int .u64 hi, .int .u64 lo]) ∧ Below w.heap.size w w' := by
  have hw1 : IntKind.u64.wrap (al + bl) = lo := by rw [IntKind.wrap_u64]; omega
  have hw2 : IntKind.u64.wrap (ah + bh) = ah + bh := by rw [IntKind.wrap_u64]; omega
  have hw3 : IntKind.u64.wrap (ah + bh + 1) = ah + bh + 1 := by rw [IntKind.wrap_u64]; omega
  by_cases hc : lo < al
  · have hx : hi = ah + bh + 1 := by omega
    rw [hx]
    clear hhi hlo hx hi
    go_enter Tryd.func52, Tryd.ntmps52
    go_wp2_with fail
    exact bodyPost_ret (results_cell_row rfl _ _ (w.heap.size + 1 + 1) _ #[.bool false, .int .u64 (ah + bh + 1), .int .u64 lo] (0, 0) _ rfl (by have hz := Blk.new2 (w.alloc (.cells #[.bool b, .int .u64 ah, .int .u64 al] 65)) (.cells #[.bool c, .int .u64 bh, .int .u64 bl] 65) 65 #[.bool false, .int .u64 (ah + bh + 1), .int .u64 lo]; rwa [size_alloc] at hz) Tryd.underlying65 rfl (by kernel_rfl)) rfl ⟨rfl, bl_alloc (bl_alloc (bl_alloc (bl_refl w) _) _) _⟩
  · have hx : hi = ah + bh := by omega
    rw [hx]
    clear hhi hlo hx hi
    go_enter Tryd.func52, Tryd.ntmps52
    go_wp2_with fail
    exact bodyPost_ret (results_cell_row rfl _ _ (w.heap.size + 1 + 1) _ #[.bool false, .int .u64 (ah + bh), .int .u64 lo] (0, 0) _ rfl (by have hz := Blk.new2 (w.alloc (.cells #[.bool b, .int .u64 ah, .int .u64 al] 65)) (.cells #[.bool c, .int .u64 bh, .int .u64 bl] 65) 65 #[.bool false, .int .u64 (ah + bh), .int .u64 lo]; rwa [size_alloc] at hz) Tryd.underlying65 rfl (by kernel_rfl)) rfl ⟨rfl, bl_alloc (bl_alloc (bl_alloc (bl_refl w) _) _) _⟩
set_option maxHeartbeats 4000000 in
/-- the sum of two that are not below 0 -/
theorem wadd_any (ah al bh bl hi lo : Int) (w : World) (a0 : 0 ≤ ah) (a1 : 0 ≤ al) (a2 : al < 18446744073709551616) (b0 : 0 ≤ bh) (b1 : 0 ≤ bl) (b2 : bl < 18446744073709551616) (hh : ah + bh + 1 < 18446744073709551616)
    (hhi : hi = ah + bh + (al + bl) / 18446744073709551616) (hlo : lo = (al + bl) % 18446744073709551616) :
    Calls Tryd.prog 33 #[.agg #[.bool false, .int .u64 ah, .int .u64 al], .agg #[.bool false, .int .u64 bh, .int .u64 bl]] w fun e w' => e = .returned (.agg #[.bool false, .int .u64 hi, .int .u64 lo]) ∧ Below w.heap.size w w' := by
  have hpl := fun v => wplus_any false false ah al bh bl hi lo v a0 a1 a2 b0 b1 b2 hh hhi hlo
  clear hhi hlo
  go_enter Tryd.func33, Tryd.ntmps33
  go_wp2_with fail
  refine (hpl _).mono ?_
  rintro e w1 ⟨rfl, hb1⟩
  have ka := (((Blk.new w 65 #[.bool false, .int .u64 ah, .int .u64 al]).alloc (.cells #[.bool false, .int .u64 bh, .int .u64 bl] 65)).alloc (.cells #[.bool false, .int .u64 0, .int .u64 0] 65)).call hb1
  have hbb1 := bl_call (bl_alloc (bl_alloc (bl_alloc (bl_refl w) (.cells #[.bool false, .int .u64 ah, .int .u64 al] 65)) (.cells #[.bool false, .int .u64 bh, .int .u64 bl] 65)) (.cells #[.bool false, .int .u64 0, .int .u64 0] 65)) hb1
  have hl := ka.lt
  obtain ⟨x0, x1, x2, _, _, _⟩ := ka.c3
  have kr0 := Blk.new2 (w.alloc (.cells #[.bool false, .int .u64 ah, .int .u64 al] 65)) (.cells #[.bool false, .int .u64 bh, .int .u64 bl] 65) 65 #[.bool false, .int .u64 0, .int .u64 0]
  rw [size_alloc] at kr0
  have kr := kr0.call hb1
  have hl2 := kr.lt
  obtain ⟨r0, r1, r2, s0, s1, s2⟩ := kr.c3
  have kx := Blk.new w1 65 #[.bool false, .int .u64 hi, .int .u64 lo]
  obtain ⟨y0, y1, y2, _, _, _⟩ := kx.c3
  go_wp2_with fail
  exact bodyPost_ret (results_cell_row rfl _ _ (w.heap.size + 1 + 1) _ #[.bool false, .int .u64 hi, .int .u64 lo] (0, 0) _ rfl ((((kr.set_ 0 (.bool false)).set_ 1 (.int .u64 hi)).set_ 2 (.int .u64 lo)).alloc _) Tryd.underlying65 rfl (by kernel_rfl)) rfl
    ⟨rfl, bl_alloc (bl_set (bl_set (bl_set hbb1 (by show w.heap.size ≤ w.heap.size + 1 + 1; omega) _) (by show w.heap.size ≤ w.heap.size + 1 + 1; omega) _) (by show w.heap.size ≤ w.heap.size + 1 + 1; omega) _) _⟩
end Go.Proofs.YtmhimnmiclnbjaaDoor
