import Derived.Test.YtcgkfgklggjmaaaGe
import Derived.Deep.QuietTactic
import Derived.BigQuiet
import Derived.Deep.Cut
import Derived.Laws.Bits64b
section
namespace Go.Proofs.Ytcgkfgklggjmaaa.Par
set_option linter.unusedVariables false
set_option linter.unusedSimpArgs false
open Go.RowKit
set_option maxHeartbeats 16000000 in
set_option maxRecDepth 100000 in
theorem wadd_pp (ah al bh bl hi lo : Int) (w : World) 
    (hop : ∀ W, Calls Try.prog 77 #[.agg #[.bool false, .int .u64 ah, .int .u64 al], .agg #[.bool false, .int .u64 bh, .int .u64 bl]] W fun e w' => e = .returned (.agg #[.bool false, .int .u64 hi, .int .u64 lo]) ∧ Below W.heap.size W w') :
    Calls Try.prog 57 #[.agg #[.bool false, .int .u64 ah, .int .u64 al], .agg #[.bool false, .int .u64 bh, .int .u64 bl]] w fun e w' => e = .returned (.agg #[.bool false, .int .u64 hi, .int .u64 lo]) ∧ Below w.heap.size w w' := by
  have ka := ((Blk.new w 108 #[.bool false, .int .u64 ah, .int .u64 al]).alloc (.cells #[.bool false, .int .u64 bh, .int .u64 bl] 108)).alloc (.cells #[.bool false, .int .u64 0, .int .u64 0] 108)
  have kb := (Dec.Blk.new2 w (.cells #[.bool false, .int .u64 ah, .int .u64 al] 108) 108 #[.bool false, .int .u64 bh, .int .u64 bl]).alloc (.cells #[.bool false, .int .u64 0, .int .u64 0] 108)
  have kr := Dec.Blk.new2 (w.alloc (.cells #[.bool false, .int .u64 ah, .int .u64 al] 108)) (.cells #[.bool false, .int .u64 bh, .int .u64 bl] 108) 108 #[.bool false, .int .u64 0, .int .u64 0]
  rw [World.size_alloc] at kr
  have b0 := bl_alloc (bl_alloc (bl_alloc (bl_refl w) (.cells #[.bool false, .int .u64 ah, .int .u64 al] 108)) (.cells #[.bool false, .int .u64 bh, .int .u64 bl] 108)) (.cells #[.bool false, .int .u64 0, .int .u64 0] 108)
  replace hop := Lib.hid hop
  obtain ⟨x0, x1, x2, _, _, _⟩ := ka.c3
  obtain ⟨v0, v1, v2, _, _, _⟩ := kb.c3
  go_enter Try.func57, Try.ntmps57
  go_wp2_with fail
  refine (hop.out _).mono ?_
  rintro e w1 ⟨rfl, hb1⟩
  have ka1 := ka.call hb1
  have kb1 := kb.call hb1
  have kr1 := kr.call hb1
  have b1 := bl_call b0 hb1
  have la := ka1.lt
  have lb := kb1.lt
  have lr := kr1.lt
  clear x0 x1 x2 v0 v1 v2 ka kb kr b0 hop
  obtain ⟨x0, x1, x2, _, _, _⟩ := ka1.c3
  obtain ⟨v0, v1, v2, _, _, _⟩ := kb1.c3
  obtain ⟨r0, r1, r2, s0, s1, s2⟩ := kr1.c3
  have kx := Blk.new w1 108 #[.bool false, .int .u64 hi, .int .u64 lo]
  obtain ⟨y0, y1, y2, t0, t1, t2⟩ := kx.c3
  go_wp2_with fail
  exact bodyPost_ret (results_cell_row rfl _ _ (w.heap.size + 1 + 1) _ #[.bool false, .int .u64 hi, .int .u64 lo] (0, 0) _ rfl ((((kr1.set_ 0 (.bool false)).set_ 1 (.int .u64 hi)).set_ 2 (.int .u64 lo)).alloc _) Try.underlying108 rfl (by kernel_rfl)) rfl
    ⟨rfl, bl_alloc (bl_set (bl_set (bl_set b1 (by show w.heap.size ≤ w.heap.size + 1 + 1; omega) _) (by show w.heap.size ≤ w.heap.size + 1 + 1; omega) _) (by show w.heap.size ≤ w.heap.size + 1 + 1; omega) _) _⟩
set_option maxHeartbeats 16000000 in
set_option maxRecDepth 100000 in
theorem wadd_nn (ah al bh bl hi lo : Int) (w : World) 
    (hop : ∀ W, Calls Try.prog 77 #[.agg #[.bool true, .int .u64 ah, .int .u64 al], .agg #[.bool true, .int .u64 bh, .int .u64 bl]] W fun e w' => e = .returned (.agg #[.bool false, .int .u64 hi, .int .u64 lo]) ∧ Below W.heap.size W w') (hz : (hi == 0 && lo == 0) = false) :
    Calls Try.prog 57 #[.agg #[.bool true, .int .u64 ah, .int .u64 al], .agg #[.bool true, .int .u64 bh, .int .u64 bl]] w fun e w' => e = .returned (.agg #[.bool true, .int .u64 hi, .int .u64 lo]) ∧ Below w.heap.size w w' := by
  have ka := ((Blk.new w 108 #[.bool true, .int .u64 ah, .int .u64 al]).alloc (.cells #[.bool true, .int .u64 bh, .int .u64 bl] 108)).alloc (.cells #[.bool false, .int .u64 0, .int .u64 0] 108)
  have kb := (Dec.Blk.new2 w (.cells #[.bool true, .int .u64 ah, .int .u64 al] 108) 108 #[.bool true, .int .u64 bh, .int .u64 bl]).alloc (.cells #[.bool false, .int .u64 0, .int .u64 0] 108)
  have kr := Dec.Blk.new2 (w.alloc (.cells #[.bool true, .int .u64 ah, .int .u64 al] 108)) (.cells #[.bool true, .int .u64 bh, .int .u64 bl] 108) 108 #[.bool false, .int .u64 0, .int .u64 0]
  rw [World.size_alloc] at kr
  have b0 := bl_alloc (bl_alloc (bl_alloc (bl_refl w) (.cells #[.bool true, .int .u64 ah, .int .u64 al] 108)) (.cells #[.bool true, .int .u64 bh, .int .u64 bl] 108)) (.cells #[.bool false, .int .u64 0, .int .u64 0] 108)
  have hZ := Lib.hid (fun W => Dec.wzero_any false hi lo W)
  rw [hz] at hZ
  clear hz
  replace hop := Lib.hid hop
  obtain ⟨x0, x1, x2, _, _, _⟩ := ka.c3
  obtain ⟨v0, v1, v2, _, _, _⟩ := kb.c3
  go_enter Try.func57, Try.ntmps57
  go_wp2_with fail
  refine (hop.out _).mono ?_
  rintro e w1 ⟨rfl, hb1⟩
  have ka1 := ka.call hb1
  have kb1 := kb.call hb1
  have kr1 := kr.call hb1
  have b1 := bl_call b0 hb1
  have la := ka1.lt
  have lb := kb1.lt
  have lr := kr1.lt
  clear x0 x1 x2 v0 v1 v2 ka kb kr b0 hop
  obtain ⟨x0, x1, x2, _, _, _⟩ := ka1.c3
  obtain ⟨v0, v1, v2, _, _, _⟩ := kb1.c3
  obtain ⟨r0, r1, r2, s0, s1, s2⟩ := kr1.c3
  have kx := Blk.new w1 108 #[.bool false, .int .u64 hi, .int .u64 lo]
  obtain ⟨y0, y1, y2, t0, t1, t2⟩ := kx.c3
  go_wp2_with fail
  refine (hZ.out _).mono ?_
  rintro e w2 ⟨rfl, hb2⟩
  have kr2 := (kr1.alloc (.cells #[.bool false, .int .u64 hi, .int .u64 lo] 108)).call hb2
  have kx2 := kx.call hb2
  have b2 := bl_call (bl_alloc b1 (.cells #[.bool false, .int .u64 hi, .int .u64 lo] 108)) hb2
  have lx2 := kx2.lt
  have lr2 := kr2.lt
  have hle := b1.size
  clear r0 r1 r2 s0 s1 s2 y0 y1 y2 t0 t1 t2 x0 x1 x2 v0 v1 v2 hZ
  obtain ⟨r0, r1, r2, s0, s1, s2⟩ := kr2.c3
  obtain ⟨y0, y1, y2, t0, t1, t2⟩ := kx2.c3
  go_wp2_with fail
  exact bodyPost_ret (results_cell_row rfl _ _ (w.heap.size + 1 + 1) _ #[.bool true, .int .u64 hi, .int .u64 lo] (0, 0) _ rfl (((((kr2.far (p := ⟨w1.heap.size, 0, none⟩) (by (try dsimp only); omega) (.bool true)).set_ 0 (.bool true)).set_ 1 (.int .u64 hi)).set_ 2 (.int .u64 lo))) Try.underlying108 rfl (by kernel_rfl)) rfl
    ⟨rfl, bl_set (bl_set (bl_set (bl_set b2 (by (try dsimp only); omega) _) (by show w.heap.size ≤ w.heap.size + 1 + 1; omega) _) (by show w.heap.size ≤ w.heap.size + 1 + 1; omega) _) (by show w.heap.size ≤ w.heap.size + 1 + 1; omega) _⟩
set_option maxHeartbeats 16000000 in
set_option maxRecDepth 100000 in
theorem wadd_ba_p (ah al bh bl hi lo : Int) (w : World) 
    (hop : ∀ W, Calls Try.prog 80 #[.agg #[.bool false, .int .u64 bh, .int .u64 bl], .agg #[.bool true, .int .u64 ah, .int .u64 al]] W fun e w' => e = .returned (.agg #[.bool false, .int .u64 hi, .int .u64 lo]) ∧ Below W.heap.size W w')
    (hsz : ∀ W, Calls Try.prog 79 #[.agg #[.bool true, .int .u64 ah, .int .u64 al], .agg #[.bool false, .int .u64 bh, .int .u64 bl]] W fun e w' => e = .returned (.bool true) ∧ Below W.heap.size W w') :
    Calls Try.prog 57 #[.agg #[.bool true, .int .u64 ah, .int .u64 al], .agg #[.bool false, .int .u64 bh, .int .u64 bl]] w fun e w' => e = .returned (.agg #[.bool false, .int .u64 hi, .int .u64 lo]) ∧ Below w.heap.size w w' := by
  have ka := ((Blk.new w 108 #[.bool true, .int .u64 ah, .int .u64 al]).alloc (.cells #[.bool false, .int .u64 bh, .int .u64 bl] 108)).alloc (.cells #[.bool false, .int .u64 0, .int .u64 0] 108)
  have kb := (Dec.Blk.new2 w (.cells #[.bool true, .int .u64 ah, .int .u64 al] 108) 108 #[.bool false, .int .u64 bh, .int .u64 bl]).alloc (.cells #[.bool false, .int .u64 0, .int .u64 0] 108)
  have kr := Dec.Blk.new2 (w.alloc (.cells #[.bool true, .int .u64 ah, .int .u64 al] 108)) (.cells #[.bool false, .int .u64 bh, .int .u64 bl] 108) 108 #[.bool false, .int .u64 0, .int .u64 0]
  rw [World.size_alloc] at kr
  have b0 := bl_alloc (bl_alloc (bl_alloc (bl_refl w) (.cells #[.bool true, .int .u64 ah, .int .u64 al] 108)) (.cells #[.bool false, .int .u64 bh, .int .u64 bl] 108)) (.cells #[.bool false, .int .u64 0, .int .u64 0] 108)
  replace hop := Lib.hid hop
  replace hsz := Lib.hid hsz
  obtain ⟨x0, x1, x2, _, _, _⟩ := ka.c3
  obtain ⟨v0, v1, v2, _, _, _⟩ := kb.c3
  go_enter Try.func57, Try.ntmps57
  go_wp2_with fail
  refine (hsz.out _).mono ?_
  rintro e w0 ⟨rfl, hb0⟩
  replace ka := ka.call hb0
  replace kb := kb.call hb0
  replace kr := kr.call hb0
  replace b0 := bl_call b0 hb0
  clear x0 x1 x2 v0 v1 v2
  obtain ⟨x0, x1, x2, _, _, _⟩ := ka.c3
  obtain ⟨v0, v1, v2, _, _, _⟩ := kb.c3
  go_wp2_with fail
  refine (hop.out _).mono ?_
  rintro e w1 ⟨rfl, hb1⟩
  have ka1 := ka.call hb1
  have kb1 := kb.call hb1
  have kr1 := kr.call hb1
  have b1 := bl_call b0 hb1
  have la := ka1.lt
  have lb := kb1.lt
  have lr := kr1.lt
  clear x0 x1 x2 v0 v1 v2 ka kb kr b0 hop
  obtain ⟨x0, x1, x2, _, _, _⟩ := ka1.c3
  obtain ⟨v0, v1, v2, _, _, _⟩ := kb1.c3
  obtain ⟨r0, r1, r2, s0, s1, s2⟩ := kr1.c3
  have kx := Blk.new w1 108 #[.bool false, .int .u64 hi, .int .u64 lo]
  obtain ⟨y0, y1, y2, t0, t1, t2⟩ := kx.c3
  go_wp2_with fail
  exact bodyPost_ret (results_cell_row rfl _ _ (w.heap.size + 1 + 1) _ #[.bool false, .int .u64 hi, .int .u64 lo] (0, 0) _ rfl ((((kr1.set_ 0 (.bool false)).set_ 1 (.int .u64 hi)).set_ 2 (.int .u64 lo)).alloc _) Try.underlying108 rfl (by kernel_rfl)) rfl
    ⟨rfl, bl_alloc (bl_set (bl_set (bl_set b1 (by show w.heap.size ≤ w.heap.size + 1 + 1; omega) _) (by show w.heap.size ≤ w.heap.size + 1 + 1; omega) _) (by show w.heap.size ≤ w.heap.size + 1 + 1; omega) _) _⟩
set_option maxHeartbeats 16000000 in
set_option maxRecDepth 100000 in
theorem wadd_ba_n (ah al bh bl hi lo : Int) (w : World) 
    (hop : ∀ W, Calls Try.prog 80 #[.agg #[.bool true, .int .u64 bh, .int .u64 bl], .agg #[.bool false, .int .u64 ah, .int .u64 al]] W fun e w' => e = .returned (.agg #[.bool false, .int .u64 hi, .int .u64 lo]) ∧ Below W.heap.size W w')
    (hsz : ∀ W, Calls Try.prog 79 #[.agg #[.bool false, .int .u64 ah, .int .u64 al], .agg #[.bool true, .int .u64 bh, .int .u64 bl]] W fun e w' => e = .returned (.bool true) ∧ Below W.heap.size W w') (hz : (hi == 0 && lo == 0) = false) :
    Calls Try.prog 57 #[.agg #[.bool false, .int .u64 ah, .int .u64 al], .agg #[.bool true, .int .u64 bh, .int .u64 bl]] w fun e w' => e = .returned (.agg #[.bool true, .int .u64 hi, .int .u64 lo]) ∧ Below w.heap.size w w' := by
  have ka := ((Blk.new w 108 #[.bool false, .int .u64 ah, .int .u64 al]).alloc (.cells #[.bool true, .int .u64 bh, .int .u64 bl] 108)).alloc (.cells #[.bool false, .int .u64 0, .int .u64 0] 108)
  have kb := (Dec.Blk.new2 w (.cells #[.bool false, .int .u64 ah, .int .u64 al] 108) 108 #[.bool true, .int .u64 bh, .int .u64 bl]).alloc (.cells #[.bool false, .int .u64 0, .int .u64 0] 108)
  have kr := Dec.Blk.new2 (w.alloc (.cells #[.bool false, .int .u64 ah, .int .u64 al] 108)) (.cells #[.bool true, .int .u64 bh, .int .u64 bl] 108) 108 #[.bool false, .int .u64 0, .int .u64 0]
  rw [World.size_alloc] at kr
  have b0 := bl_alloc (bl_alloc (bl_alloc (bl_refl w) (.cells #[.bool false, .int .u64 ah, .int .u64 al] 108)) (.cells #[.bool true, .int .u64 bh, .int .u64 bl] 108)) (.cells #[.bool false, .int .u64 0, .int .u64 0] 108)
  have hZ := Lib.hid (fun W => Dec.wzero_any false hi lo W)
  rw [hz] at hZ
  clear hz
  replace hop := Lib.hid hop
  replace hsz := Lib.hid hsz
  obtain ⟨x0, x1, x2, _, _, _⟩ := ka.c3
  obtain ⟨v0, v1, v2, _, _, _⟩ := kb.c3
  go_enter Try.func57, Try.ntmps57
  go_wp2_with fail
  refine (hsz.out _).mono ?_
  rintro e w0 ⟨rfl, hb0⟩
  replace ka := ka.call hb0
  replace kb := kb.call hb0
  replace kr := kr.call hb0
  replace b0 := bl_call b0 hb0
  clear x0 x1 x2 v0 v1 v2
  obtain ⟨x0, x1, x2, _, _, _⟩ := ka.c3
  obtain ⟨v0, v1, v2, _, _, _⟩ := kb.c3
  go_wp2_with fail
  refine (hop.out _).mono ?_
  rintro e w1 ⟨rfl, hb1⟩
  have ka1 := ka.call hb1
  have kb1 := kb.call hb1
  have kr1 := kr.call hb1
  have b1 := bl_call b0 hb1
  have la := ka1.lt
  have lb := kb1.lt
  have lr := kr1.lt
  clear x0 x1 x2 v0 v1 v2 ka kb kr b0 hop
  obtain ⟨x0, x1, x2, _, _, _⟩ := ka1.c3
  obtain ⟨v0, v1, v2, _, _, _⟩ := kb1.c3
  obtain ⟨r0, r1, r2, s0, s1, s2⟩ := kr1.c3
  have kx := Blk.new w1 108 #[.bool false, .int .u64 hi, .int .u64 lo]
  obtain ⟨y0, y1, y2, t0, t1, t2⟩ := kx.c3
  go_wp2_with fail
  refine (hZ.out _).mono ?_
  rintro e w2 ⟨rfl, hb2⟩
  have kr2 := (kr1.alloc (.cells #[.bool false, .int .u64 hi, .int .u64 lo] 108)).call hb2
  have kx2 := kx.call hb2
  have b2 := bl_call (bl_alloc b1 (.cells #[.bool false, .int .u64 hi, .int .u64 lo] 108)) hb2
  have lx2 := kx2.lt
  have lr2 := kr2.lt
  have hle := b1.size
  clear r0 r1 r2 s0 s1 s2 y0 y1 y2 t0 t1 t2 x0 x1 x2 v0 v1 v2 hZ
  obtain ⟨r0, r1, r2, s0, s1, s2⟩ := kr2.c3
  obtain ⟨y0, y1, y2, t0, t1, t2⟩ := kx2.c3
  go_wp2_with fail
  exact bodyPost_ret (results_cell_row rfl _ _ (w.heap.size + 1 + 1) _ #[.bool true, .int .u64 hi, .int .u64 lo] (0, 0) _ rfl (((((kr2.far (p := ⟨w1.heap.size, 0, none⟩) (by (try dsimp only); omega) (.bool true)).set_ 0 (.bool true)).set_ 1 (.int .u64 hi)).set_ 2 (.int .u64 lo))) Try.underlying108 rfl (by kernel_rfl)) rfl
    ⟨rfl, bl_set (bl_set (bl_set (bl_set b2 (by (try dsimp only); omega) _) (by show w.heap.size ≤ w.heap.size + 1 + 1; omega) _) (by show w.heap.size ≤ w.heap.size + 1 + 1; omega) _) (by show w.heap.size ≤ w.heap.size + 1 + 1; omega) _⟩
set_option maxHeartbeats 16000000 in
set_option maxRecDepth 100000 in
theorem wadd_ab_p (ah al bh bl hi lo : Int) (w : World) 
    (hop : ∀ W, Calls Try.prog 80 #[.agg #[.bool false, .int .u64 ah, .int .u64 al], .agg #[.bool true, .int .u64 bh, .int .u64 bl]] W fun e w' => e = .returned (.agg #[.bool false, .int .u64 hi, .int .u64 lo]) ∧ Below W.heap.size W w')
    (hsz : ∀ W, Calls Try.prog 79 #[.agg #[.bool false, .int .u64 ah, .int .u64 al], .agg #[.bool true, .int .u64 bh, .int .u64 bl]] W fun e w' => e = .returned (.bool false) ∧ Below W.heap.size W w') :
    Calls Try.prog 57 #[.agg #[.bool false, .int .u64 ah, .int .u64 al], .agg #[.bool true, .int .u64 bh, .int .u64 bl]] w fun e w' => e = .returned (.agg #[.bool false, .int .u64 hi, .int .u64 lo]) ∧ Below w.heap.size w w' := by
  have ka := ((Blk.new w 108 #[.bool false, .int .u64 ah, .int .u64 al]).alloc (.cells #[.bool true, .int .u64 bh, .int .u64 bl] 108)).alloc (.cells #[.bool false, .int .u64 0, .int .u64 0] 108)
  have kb := (Dec.Blk.new2 w (.cells #[.bool false, .int .u64 ah, .int .u64 al] 108) 108 #[.bool true, .int .u64 bh, .int .u64 bl]).alloc (.cells #[.bool false, .int .u64 0, .int .u64 0] 108)
  have kr := Dec.Blk.new2 (w.alloc (.cells #[.bool false, .int .u64 ah, .int .u64 al] 108)) (.cells #[.bool true, .int .u64 bh, .int .u64 bl] 108) 108 #[.bool false, .int .u64 0, .int .u64 0]
  rw [World.size_alloc] at kr
  have b0 := bl_alloc (bl_alloc (bl_alloc (bl_refl w) (.cells #[.bool false, .int .u64 ah, .int .u64 al] 108)) (.cells #[.bool true, .int .u64 bh, .int .u64 bl] 108)) (.cells #[.bool false, .int .u64 0, .int .u64 0] 108)
  replace hop := Lib.hid hop
  replace hsz := Lib.hid hsz
  obtain ⟨x0, x1, x2, _, _, _⟩ := ka.c3
  obtain ⟨v0, v1, v2, _, _, _⟩ := kb.c3
  go_enter Try.func57, Try.ntmps57
  go_wp2_with fail
  refine (hsz.out _).mono ?_
  rintro e w0 ⟨rfl, hb0⟩
  replace ka := ka.call hb0
  replace kb := kb.call hb0
  replace kr := kr.call hb0
  replace b0 := bl_call b0 hb0
  clear x0 x1 x2 v0 v1 v2
  obtain ⟨x0, x1, x2, _, _, _⟩ := ka.c3
  obtain ⟨v0, v1, v2, _, _, _⟩ := kb.c3
  go_wp2_with fail
  refine (hop.out _).mono ?_
  rintro e w1 ⟨rfl, hb1⟩
  have ka1 := ka.call hb1
  have kb1 := kb.call hb1
  have kr1 := kr.call hb1
  have b1 := bl_call b0 hb1
  have la := ka1.lt
  have lb := kb1.lt
  have lr := kr1.lt
  clear x0 x1 x2 v0 v1 v2 ka kb kr b0 hop
  obtain ⟨x0, x1, x2, _, _, _⟩ := ka1.c3
  obtain ⟨v0, v1, v2, _, _, _⟩ := kb1.c3
  obtain ⟨r0, r1, r2, s0, s1, s2⟩ := kr1.c3
  have kx := Blk.new w1 108 #[.bool false, .int .u64 hi, .int .u64 lo]
  obtain ⟨y0, y1, y2, t0, t1, t2⟩ := kx.c3
  go_wp2_with fail
  exact bodyPost_ret (results_cell_row rfl _ _ (w.heap.size + 1 + 1) _ #[.bool false, .int .u64 hi, .int .u64 lo] (0, 0) _ rfl ((((kr1.set_ 0 (.bool false)).set_ 1 (.int .u64 hi)).set_ 2 (.int .u64 lo)).alloc _) Try.underlying108 rfl (by kernel_rfl)) rfl
    ⟨rfl, bl_alloc (bl_set (bl_set (bl_set b1 (by show w.heap.size ≤ w.heap.size + 1 + 1; omega) _) (by show w.heap.size ≤ w.heap.size + 1 + 1; omega) _) (by show w.heap.size ≤ w.heap.size + 1 + 1; omega) _) _⟩
set_option maxHeartbeats 16000000 in
set_option maxRecDepth 100000 in
theorem wadd_ab_n (ah al bh bl hi lo : Int) (w : World) 
    (hop : ∀ W, Calls Try.prog 80 #[.agg #[.bool true, .int .u64 ah, .int .u64 al], .agg #[.bool false, .int .u64 bh, .int .u64 bl]] W fun e w' => e = .returned (.agg #[.bool false, .int .u64 hi, .int .u64 lo]) ∧ Below W.heap.size W w')
    (hsz : ∀ W, Calls Try.prog 79 #[.agg #[.bool true, .int .u64 ah, .int .u64 al], .agg #[.bool false, .int .u64 bh, .int .u64 bl]] W fun e w' => e = .returned (.bool false) ∧ Below W.heap.size W w') (hz : (hi == 0 && lo == 0) = false) :
    Calls Try.prog 57 #[.agg #[.bool true, .int .u64 ah, .int .u64 al], .agg #[.bool false, .int .u64 bh, .int .u64 bl]] w fun e w' => e = .returned (.agg #[.bool true, .int .u64 hi, .int .u64 lo]) ∧ Below w.heap.size w w' := by
  have ka := ((Blk.new w 108 #[.bool true, .int .u64 ah, .int .u64 al]).alloc (.cells #[.bool false, .int .u64 bh, .int .u64 bl] 108)).alloc (.cells #[.bool false, .int .u64 0, .int .u64 0] 108)
  have kb := (Dec.Blk.new2 w (.cells #[.bool true, .int .u64 ah, .int .u64 al] 108) 108 #[.bool false, .int .u64 bh, .int .u64 bl]).alloc (.cells #[.bool false, .int .u64 0, .int .u64 0] 108)
  have kr := Dec.Blk.new2 (w.alloc (.cells #[.bool true, .int .u64 ah, .int .u64 al] 108)) (.cells #[.bool false, .int .u64 bh, .int .u64 bl] 108) 108 #[.bool false, .int .u64 0, .int .u64 0]
  rw [World.size_alloc] at kr
  have b0 := bl_alloc (bl_alloc (bl_alloc (bl_refl w) (.cells #[.bool true, .int .u64 ah, .int .u64 al] 108)) (.cells #[.bool false, .int .u64 bh, .int .u64 bl] 108)) (.cells #[.bool false, .int .u64 0, .int .u64 0] 108)
  have hZ := Lib.hid (fun W => Dec.wzero_any false hi lo W)
  rw [hz] at hZ
  clear hz
  replace hop := Lib.hid hop
  replace hsz := Lib.hid hsz
  obtain ⟨x0, x1, x2, _, _, _⟩ := ka.c3
  obtain ⟨v0, v1, v2, _, _, _⟩ := kb.c3
  go_enter Try.func57, Try.ntmps57
  go_wp2_with fail
  refine (hsz.out _).mono ?_
  rintro e w0 ⟨rfl, hb0⟩
  replace ka := ka.call hb0
  replace kb := kb.call hb0
  replace kr := kr.call hb0
  replace b0 := bl_call b0 hb0
  clear x0 x1 x2 v0 v1 v2
  obtain ⟨x0, x1, x2, _, _, _⟩ := ka.c3
  obtain ⟨v0, v1, v2, _, _, _⟩ := kb.c3
  go_wp2_with fail
  refine (hop.out _).mono ?_
  rintro e w1 ⟨rfl, hb1⟩
  have ka1 := ka.call hb1
  have kb1 := kb.call hb1
  have kr1 := kr.call hb1
  have b1 := bl_call b0 hb1
  have la := ka1.lt
  have lb := kb1.lt
  have lr := kr1.lt
  clear x0 x1 x2 v0 v1 v2 ka kb kr b0 hop
  obtain ⟨x0, x1, x2, _, _, _⟩ := ka1.c3
  obtain ⟨v0, v1, v2, _, _, _⟩ := kb1.c3
  obtain ⟨r0, r1, r2, s0, s1, s2⟩ := kr1.c3
  have kx := Blk.new w1 108 #[.bool false, .int .u64 hi, .int .u64 lo]
  obtain ⟨y0, y1, y2, t0, t1, t2⟩ := kx.c3
  go_wp2_with fail
  refine (hZ.out _).mono ?_
  rintro e w2 ⟨rfl, hb2⟩
  have kr2 := (kr1.alloc (.cells #[.bool false, .int .u64 hi, .int .u64 lo] 108)).call hb2
  have kx2 := kx.call hb2
  have b2 := bl_call (bl_alloc b1 (.cells #[.bool false, .int .u64 hi, .int .u64 lo] 108)) hb2
  have lx2 := kx2.lt
  have lr2 := kr2.lt
  have hle := b1.size
  clear r0 r1 r2 s0 s1 s2 y0 y1 y2 t0 t1 t2 x0 x1 x2 v0 v1 v2 hZ
  obtain ⟨r0, r1, r2, s0, s1, s2⟩ := kr2.c3
  obtain ⟨y0, y1, y2, t0, t1, t2⟩ := kx2.c3
  go_wp2_with fail
  exact bodyPost_ret (results_cell_row rfl _ _ (w.heap.size + 1 + 1) _ #[.bool true, .int .u64 hi, .int .u64 lo] (0, 0) _ rfl (((((kr2.far (p := ⟨w1.heap.size, 0, none⟩) (by (try dsimp only); omega) (.bool true)).set_ 0 (.bool true)).set_ 1 (.int .u64 hi)).set_ 2 (.int .u64 lo))) Try.underlying108 rfl (by kernel_rfl)) rfl
    ⟨rfl, bl_set (bl_set (bl_set (bl_set b2 (by (try dsimp only); omega) _) (by show w.heap.size ≤ w.heap.size + 1 + 1; omega) _) (by show w.heap.size ≤ w.heap.size + 1 + 1; omega) _) (by show w.heap.size ≤ w.heap.size + 1 + 1; omega) _⟩
set_option maxHeartbeats 16000000 in
set_option maxRecDepth 100000 in
theorem wadd_ab_z (ah al bh bl hi lo : Int) (w : World) 
    (hop : ∀ W, Calls Try.prog 80 #[.agg #[.bool true, .int .u64 ah, .int .u64 al], .agg #[.bool false, .int .u64 bh, .int .u64 bl]] W fun e w' => e = .returned (.agg #[.bool false, .int .u64 hi, .int .u64 lo]) ∧ Below W.heap.size W w')
    (hsz : ∀ W, Calls Try.prog 79 #[.agg #[.bool true, .int .u64 ah, .int .u64 al], .agg #[.bool false, .int .u64 bh, .int .u64 bl]] W fun e w' => e = .returned (.bool false) ∧ Below W.heap.size W w') (hz : (hi == 0 && lo == 0) = true) :
    Calls Try.prog 57 #[.agg #[.bool true, .int .u64 ah, .int .u64 al], .agg #[.bool false, .int .u64 bh, .int .u64 bl]] w fun e w' => e = .returned (.agg #[.bool false, .int .u64 hi, .int .u64 lo]) ∧ Below w.heap.size w w' := by
  have ka := ((Blk.new w 108 #[.bool true, .int .u64 ah, .int .u64 al]).alloc (.cells #[.bool false, .int .u64 bh, .int .u64 bl] 108)).alloc (.cells #[.bool false, .int .u64 0, .int .u64 0] 108)
  have kb := (Dec.Blk.new2 w (.cells #[.bool true, .int .u64 ah, .int .u64 al] 108) 108 #[.bool false, .int .u64 bh, .int .u64 bl]).alloc (.cells #[.bool false, .int .u64 0, .int .u64 0] 108)
  have kr := Dec.Blk.new2 (w.alloc (.cells #[.bool true, .int .u64 ah, .int .u64 al] 108)) (.cells #[.bool false, .int .u64 bh, .int .u64 bl] 108) 108 #[.bool false, .int .u64 0, .int .u64 0]
  rw [World.size_alloc] at kr
  have b0 := bl_alloc (bl_alloc (bl_alloc (bl_refl w) (.cells #[.bool true, .int .u64 ah, .int .u64 al] 108)) (.cells #[.bool false, .int .u64 bh, .int .u64 bl] 108)) (.cells #[.bool false, .int .u64 0, .int .u64 0] 108)
  have hZ := Lib.hid (fun W => Dec.wzero_any false hi lo W)
  rw [hz] at hZ
  clear hz
  replace hop := Lib.hid hop
  replace hsz := Lib.hid hsz
  obtain ⟨x0, x1, x2, _, _, _⟩ := ka.c3
  obtain ⟨v0, v1, v2, _, _, _⟩ := kb.c3
  go_enter Try.func57, Try.ntmps57
  go_wp2_with fail
  refine (hsz.out _).mono ?_
  rintro e w0 ⟨rfl, hb0⟩
  replace ka := ka.call hb0
  replace kb := kb.call hb0
  replace kr := kr.call hb0
  replace b0 := bl_call b0 hb0
  clear x0 x1 x2 v0 v1 v2
  obtain ⟨x0, x1, x2, _, _, _⟩ := ka.c3
  obtain ⟨v0, v1, v2, _, _, _⟩ := kb.c3
  go_wp2_with fail
  refine (hop.out _).mono ?_
  rintro e w1 ⟨rfl, hb1⟩
  have ka1 := ka.call hb1
  have kb1 := kb.call hb1
  have kr1 := kr.call hb1
  have b1 := bl_call b0 hb1
  have la := ka1.lt
  have lb := kb1.lt
  have lr := kr1.lt
  clear x0 x1 x2 v0 v1 v2 ka kb kr b0 hop
  obtain ⟨x0, x1, x2, _, _, _⟩ := ka1.c3
  obtain ⟨v0, v1, v2, _, _, _⟩ := kb1.c3
  obtain ⟨r0, r1, r2, s0, s1, s2⟩ := kr1.c3
  have kx := Blk.new w1 108 #[.bool false, .int .u64 hi, .int .u64 lo]
  obtain ⟨y0, y1, y2, t0, t1, t2⟩ := kx.c3
  go_wp2_with fail
  refine (hZ.out _).mono ?_
  rintro e w2 ⟨rfl, hb2⟩
  have kr2 := (kr1.alloc (.cells #[.bool false, .int .u64 hi, .int .u64 lo] 108)).call hb2
  have kx2 := kx.call hb2
  have b2 := bl_call (bl_alloc b1 (.cells #[.bool false, .int .u64 hi, .int .u64 lo] 108)) hb2
  have lx2 := kx2.lt
  have lr2 := kr2.lt
  have hle := b1.size
  clear r0 r1 r2 s0 s1 s2 y0 y1 y2 t0 t1 t2 x0 x1 x2 v0 v1 v2 hZ
  obtain ⟨r0, r1, r2, s0, s1, s2⟩ := kr2.c3
  obtain ⟨y0, y1, y2, t0, t1, t2⟩ := kx2.c3
  go_wp2_with fail
  exact bodyPost_ret (results_cell_row rfl _ _ (w.heap.size + 1 + 1) _ #[.bool false, .int .u64 hi, .int .u64 lo] (0, 0) _ rfl (((((kr2.far (p := ⟨w1.heap.size, 0, none⟩) (by (try dsimp only); omega) (.bool false)).set_ 0 (.bool false)).set_ 1 (.int .u64 hi)).set_ 2 (.int .u64 lo))) Try.underlying108 rfl (by kernel_rfl)) rfl
    ⟨rfl, bl_set (bl_set (bl_set (bl_set b2 (by (try dsimp only); omega) _) (by show w.heap.size ≤ w.heap.size + 1 + 1; omega) _) (by show w.heap.size ≤ w.heap.size + 1 + 1; omega) _) (by show w.heap.size ≤ w.heap.size + 1 + 1; omega) _⟩
end Go.Proofs.Ytcgkfgklggjmaaa.Par
end
section
namespace Go.Proofs.Ytcgkfgklggjmaaa.Par
set_option linter.unusedVariables false
set_option linter.unusedSimpArgs false
open Go.RowKit
theorem WV.of {v : Int} {b : Bool} {hi lo : Int} (hb : b = decide (v < 0)) (h : hi * 18446744073709551616 + lo = (if v < 0 then -v else v)) (h1 : hi < 9223372036854775808) (l0 : 0 ≤ lo) (l1 : lo < 18446744073709551616) (h0 : 0 ≤ hi) : WV v b hi lo := ⟨hb, h, h0, h1, l0, l1⟩
def absI (v : Int) : Int := if v < 0 then -v else v
theorem wv_abs {v : Int} {b : Bool} {hi lo : Int} (h : WV v b hi lo) : hi * 18446744073709551616 + lo = absI v := h.abs
/-- the sum of two wide numbers that are far from 128 bits -/
theorem wadd9_any (a b : Int) (ab bb : Bool) (ah al bh bl : Int) (w : World) (ha : WV a ab ah al) (hb : WV b bb bh bl) (hs : absI a + absI b < 170141183460469231731687303715884105728) :
    ∃ cb ch cl, WV (a + b) cb ch cl ∧ Calls Try.prog 57 #[.agg #[.bool ab, .int .u64 ah, .int .u64 al], .agg #[.bool bb, .int .u64 bh, .int .u64 bl]] w fun e w' => e = .returned (.agg #[.bool cb, .int .u64 ch, .int .u64 cl]) ∧ Below w.heap.size w w' := by
  obtain ⟨a1, a2, a3, a4, a5, a6⟩ := ha
  obtain ⟨b1, b2, b3, b4, b5, b6⟩ := hb
  unfold absI at hs
  by_cases na : a < 0
  · rw [if_pos na] at a2 hs
    rw [decide_eq_true na] at a1
    subst a1
    by_cases nb : b < 0
    · rw [if_pos nb] at b2 hs
      rw [decide_eq_true nb] at b1
      subst b1
      refine ⟨true, (-a - b) / 18446744073709551616, (-a - b) % 18446744073709551616, ⟨(decide_eq_true (by omega)).symm, by rw [if_pos (by omega)]; omega, by omega, by omega, by omega, by omega⟩, ?_⟩
      exact wadd_nn ah al bh bl _ _ w (fun W => Dec.wplus_any true true ah al bh bl _ _ W a3 a5 a6 b3 b5 b6 (by omega) (by omega) (by omega)) (by
        rw [Bool.and_eq_false_iff, beq_eq_false_iff_ne, beq_eq_false_iff_ne]
        omega)
    · rw [if_neg nb] at b2 hs
      rw [decide_eq_false nb] at b1
      subst b1
      by_cases hlt : -a < b
      · refine ⟨false, (a + b) / 18446744073709551616, (a + b) % 18446744073709551616, ⟨(decide_eq_false (by omega)).symm, by rw [if_neg (by omega)]; omega, by omega, by omega, by omega, by omega⟩, ?_⟩
        exact wadd_ba_p ah al bh bl _ _ w (fun W => wminus_any false true bh bl ah al _ _ W b5 b6 a3 a5 a6 b4 (by omega) (by omega) (by omega) (by omega)) (fun W => wsize_any true false ah al bh bl true W (decide_eq_true (by omega)).symm)
      · by_cases hz : -a = b
        · refine ⟨false, 0, 0, ⟨(decide_eq_false (by omega)).symm, by rw [if_neg (by omega)]; omega, by omega, by omega, by omega, by omega⟩, ?_⟩
          exact wadd_ab_z ah al bh bl 0 0 w (fun W => wminus_any true false ah al bh bl 0 0 W a5 a6 b3 b5 b6 a4 (by omega) (by omega) (by omega) (by omega)) (fun W => wsize_any true false ah al bh bl false W (decide_eq_false (by omega)).symm) rfl
        · refine ⟨true, (-a - b) / 18446744073709551616, (-a - b) % 18446744073709551616, ⟨(decide_eq_true (by omega)).symm, by rw [if_pos (by omega)]; omega, by omega, by omega, by omega, by omega⟩, ?_⟩
          exact wadd_ab_n ah al bh bl _ _ w (fun W => wminus_any true false ah al bh bl _ _ W a5 a6 b3 b5 b6 a4 (by omega) (by omega) (by omega) (by omega)) (fun W => wsize_any true false ah al bh bl false W (decide_eq_false (by omega)).symm) (by
            rw [Bool.and_eq_false_iff, beq_eq_false_iff_ne, beq_eq_false_iff_ne]
            omega)
  · rw [if_neg na] at a2 hs
    rw [decide_eq_false na] at a1
    subst a1
    by_cases nb : b < 0
    · rw [if_pos nb] at b2 hs
      rw [decide_eq_true nb] at b1
      subst b1
      by_cases hlt : a < -b
      · refine ⟨true, (-a - b) / 18446744073709551616, (-a - b) % 18446744073709551616, ⟨(decide_eq_true (by omega)).symm, by rw [if_pos (by omega)]; omega, by omega, by omega, by omega, by omega⟩, ?_⟩
        exact wadd_ba_n ah al bh bl _ _ w (fun W => wminus_any true false bh bl ah al _ _ W b5 b6 a3 a5 a6 b4 (by omega) (by omega) (by omega) (by omega)) (fun W => wsize_any false true ah al bh bl true W (decide_eq_true (by omega)).symm) (by
            rw [Bool.and_eq_false_iff, beq_eq_false_iff_ne, beq_eq_false_iff_ne]
            omega)
      · refine ⟨false, (a + b) / 18446744073709551616, (a + b) % 18446744073709551616, ⟨(decide_eq_false (by omega)).symm, by rw [if_neg (by omega)]; omega, by omega, by omega, by omega, by omega⟩, ?_⟩
        exact wadd_ab_p ah al bh bl _ _ w (fun W => wminus_any false true ah al bh bl _ _ W a5 a6 b3 b5 b6 a4 (by omega) (by omega) (by omega) (by omega)) (fun W => wsize_any false true ah al bh bl false W (decide_eq_false (by omega)).symm)
    · rw [if_neg nb] at b2 hs
      rw [decide_eq_false nb] at b1
      subst b1
      refine ⟨false, (a + b) / 18446744073709551616, (a + b) % 18446744073709551616, ⟨(decide_eq_false (by omega)).symm, by rw [if_neg (by omega)]; omega, by omega, by omega, by omega, by omega⟩, ?_⟩
      exact wadd_pp ah al bh bl _ _ w (fun W => Dec.wplus_any false false ah al bh bl _ _ W a3 a5 a6 b3 b5 b6 (by omega) (by omega) (by omega))
end Go.Proofs.Ytcgkfgklggjmaaa.Par
end
section
namespace Go.Proofs.Ytcgkfgklggjmaaa.Par
set_option linter.unusedVariables false
set_option linter.unusedSimpArgs false
open Go.RowKit
set_option maxHeartbeats 16000000 in
set_option maxRecDepth 100000 in
theorem wmul_pp (a b X Y A M1 M2 D H1 L1 H L : Int) (w : World) (x0 x1 y0 y1 : Int)
    (hA : ∀ W, Calls Try.prog 58 #[.int .i64 a] W fun e w' => e = .returned (.agg #[.bool false, .int .u64 0, .int .u64 X]) ∧ Below W.heap.size W w')
    (hB : ∀ W, Calls Try.prog 58 #[.int .i64 b] W fun e w' => e = .returned (.agg #[.bool false, .int .u64 0, .int .u64 Y]) ∧ Below W.heap.size W w')
    (hX0 : X.tmod 4294967296 = x0) (hX1 : X / 4294967296 = x1) (hY0 : Y.tmod 4294967296 = y0) (hY1 : Y / 4294967296 = y1)
    (hwA : IntKind.u64.wrap (x1 * y1) = A) (hwD : IntKind.u64.wrap (x0 * y0) = D) (hw1 : IntKind.u64.wrap (x0 * y1) = M1) (hw2 : IntKind.u64.wrap (x1 * y0) = M2)
    (hp1 : ∀ W, Calls Try.prog 77 #[.agg #[.bool false, .int .u64 A, .int .u64 D], .agg #[.bool false, .int .u64 (M1 / 4294967296), .int .u64 (M1 * 4294967296 % 18446744073709551616)]] W fun e w' => e = .returned (.agg #[.bool false, .int .u64 H1, .int .u64 L1]) ∧ Below W.heap.size W w')
    (hp2 : ∀ W, Calls Try.prog 77 #[.agg #[.bool false, .int .u64 H1, .int .u64 L1], .agg #[.bool false, .int .u64 (M2 / 4294967296), .int .u64 (M2 * 4294967296 % 18446744073709551616)]] W fun e w' => e = .returned (.agg #[.bool false, .int .u64 H, .int .u64 L]) ∧ Below W.heap.size W w') :
    Calls Try.prog 73 #[.int .i64 a, .int .i64 b] w fun e w' => e = .returned (.agg #[.bool false, .int .u64 H, .int .u64 L]) ∧ Below w.heap.size w w' := by
  have hw9 : IntKind.u64.wrap (M1 * 4294967296) = M1 * 4294967296 % 18446744073709551616 := by rw [IntKind.wrap_u64]
  have hw8 : IntKind.u64.wrap (M2 * 4294967296) = M2 * 4294967296 % 18446744073709551616 := by rw [IntKind.wrap_u64]
  replace hA := Lib.hid hA
  replace hB := Lib.hid hB
  replace hp1 := Lib.hid hp1
  replace hp2 := Lib.hid hp2
  go_enter Try.func73, Try.ntmps73
  go_wp2_with fail
  refine (hA.out _).mono ?_
  rintro e w1 ⟨rfl, hb1⟩
  go_wp2_with fail
  refine (hB.out _).mono ?_
  rintro e w2 ⟨rfl, hb2⟩
  have kr := ((Blk.new w 108 #[.bool false, .int .u64 0, .int .u64 0]).call hb1).call hb2
  have hbb2 := bl_call (bl_call (bl_alloc (bl_refl w) (.cells #[.bool false, .int .u64 0, .int .u64 0] 108)) hb1) hb2
  have hl0 := kr.lt
  have kx := (Blk.new w2 108 #[.bool false, .int .u64 0, .int .u64 X]).alloc (.cells #[.bool false, .int .u64 0, .int .u64 Y] 108)
  have ky := Dec.Blk.new2 w2 (.cells #[.bool false, .int .u64 0, .int .u64 X] 108) 108 #[.bool false, .int .u64 0, .int .u64 Y]
  obtain ⟨a0, a1, a2, _, _, _⟩ := kx.c3
  obtain ⟨c0, c1, c2, _, _, _⟩ := ky.c3
  go_wp2_with fail
  go_quiet (fail)
  have kx1 := kx.drewN nq
  have ky1 := ky.drewN nq
  clear a0 a1 a2 c0 c1 c2
  obtain ⟨a0, a1, a2, _, _, _⟩ := kx1.c3
  obtain ⟨c0, c1, c2, _, _, _⟩ := ky1.c3
  go_wp2_with fail
  go_quiet (fail)
  go_wp2_with fail
  clear a0 a1 a2 c0 c1 c2
  go_loopw [45] (fun v wr => ∃ (i hi lo : Int), v = .int .i64 i ∧ ((i = 0 ∧ hi = A ∧ lo = D) ∨ (i = 1 ∧ hi = H1 ∧ lo = L1) ∨ (i = 2 ∧ hi = H ∧ lo = L)) ∧
      Blk wr w.heap.size 108 #[.bool false, .int .u64 0, .int .u64 0] ∧ Blk wr (w2.heap.size) 108 #[.bool false, .int .u64 0, .int .u64 X] ∧ Blk wr (w2.heap.size + 1) 108 #[.bool false, .int .u64 0, .int .u64 Y] ∧
      Blk wr (w2.heap.size + 1 + 1) 108 #[.bool false, .int .u64 hi, .int .u64 lo] ∧ Blk wr (w2.heap.size + 1 + 1 + 1) 106 #[.int .u64 M1, .int .u64 M2] ∧ Below w.heap.size w wr) (fun v _ => (2 - intOf v).toNat)
  case atStart =>
    refine ⟨0, A, D, rfl, .inl ⟨rfl, rfl, rfl⟩, ?_, ?_, ?_, ?_, ?_, ?_⟩
    · exact (((((kr.alloc _).alloc _).drewN _).alloc _).alloc _)
    · exact ((kx.drewN _).alloc _).alloc _
    · exact ((ky.drewN _).alloc _).alloc _
    · exact (Dec.Blk.new_at _ _ _ _ (by show ((w2.alloc _).alloc _).heap.size = _; rw [Dec.size_alloc, Dec.size_alloc])).alloc _
    · exact Dec.Blk.new_at _ _ _ _ (by rw [Dec.size_alloc]; show ((w2.alloc _).alloc _).heap.size + 1 = _; rw [Dec.size_alloc, Dec.size_alloc])
    · exact bl_alloc (bl_alloc (bl_drewN (bl_alloc (bl_alloc hbb2 _) _) _) _) _
  case round =>
    obtain ⟨i, hi, lo, rfl, hcase, kr', kx', ky', ko', ks', hbw⟩ := hrel
    have ho := ko'.lt
    have hs := ks'.lt
    obtain ⟨o0, o1, o2, _, _, _⟩ := ko'.c3
    obtain ⟨s0, s1, _, _⟩ := ks'.c2
    rcases hcase with ⟨rfl, rfl, rfl⟩ | ⟨rfl, rfl, rfl⟩ | ⟨rfl, rfl, rfl⟩
    · go_wp2_with fail
      refine (hp1.out _).mono ?_
      rintro e w3 ⟨rfl, hb3⟩
      have ko3 := ko'.call hb3
      have ks3 := ks'.call hb3
      have kx3 := kx'.call hb3
      have ky3 := ky'.call hb3
      have kr3 := kr'.call hb3
      have hbw3 := bl_call hbw hb3
      have ho3 := ko3.lt
      clear o0 o1 o2 s0 s1
      obtain ⟨o0, o1, o2, f0, f1, f2⟩ := ko3.c3
      go_wp2
      go_roundw
      case rel =>
        refine ⟨_, H1, L1, rfl, .inr (.inl ⟨by go_num, rfl, rfl⟩), ?_, ?_, ?_, ?_, ?_, ?_⟩
        · exact ((kr3.far (by (try dsimp only); omega) _).far (by (try dsimp only); omega) _).far (by (try dsimp only); omega) _
        · exact ((kx3.far (by (try dsimp only); omega) _).far (by (try dsimp only); omega) _).far (by (try dsimp only); omega) _
        · exact ((ky3.far (by (try dsimp only); omega) _).far (by (try dsimp only); omega) _).far (by (try dsimp only); omega) _
        · exact ((ko3.set_ 0 (.bool false)).set_ 1 (.int .u64 H1)).set_ 2 (.int .u64 L1)
        · exact ((ks3.far (by (try dsimp only); omega) _).far (by (try dsimp only); omega) _).far (by (try dsimp only); omega) _
        · exact bl_set (bl_set (bl_set hbw3 (by (try dsimp only); omega) _) (by (try dsimp only); omega) _) (by (try dsimp only); omega) _
      case measure => simp [intOf]
    · go_wp2_with fail
      refine (hp2.out _).mono ?_
      rintro e w3 ⟨rfl, hb3⟩
      have ko3 := ko'.call hb3
      have ks3 := ks'.call hb3
      have kx3 := kx'.call hb3
      have ky3 := ky'.call hb3
      have kr3 := kr'.call hb3
      have hbw3 := bl_call hbw hb3
      have ho3 := ko3.lt
      clear o0 o1 o2 s0 s1
      obtain ⟨o0, o1, o2, f0, f1, f2⟩ := ko3.c3
      go_wp2
      go_roundw
      case rel =>
        refine ⟨_, H, L, rfl, .inr (.inr ⟨by go_num, rfl, rfl⟩), ?_, ?_, ?_, ?_, ?_, ?_⟩
        · exact ((kr3.far (by (try dsimp only); omega) _).far (by (try dsimp only); omega) _).far (by (try dsimp only); omega) _
        · exact ((kx3.far (by (try dsimp only); omega) _).far (by (try dsimp only); omega) _).far (by (try dsimp only); omega) _
        · exact ((ky3.far (by (try dsimp only); omega) _).far (by (try dsimp only); omega) _).far (by (try dsimp only); omega) _
        · exact ((ko3.set_ 0 (.bool false)).set_ 1 (.int .u64 H)).set_ 2 (.int .u64 L)
        · exact ((ks3.far (by (try dsimp only); omega) _).far (by (try dsimp only); omega) _).far (by (try dsimp only); omega) _
        · exact bl_set (bl_set (bl_set hbw3 (by (try dsimp only); omega) _) (by (try dsimp only); omega) _) (by (try dsimp only); omega) _
      case measure => simp [intOf]
    · obtain ⟨z0, z1, z2, _, _, _⟩ := kx'.c3
      obtain ⟨t0, t1, t2, _, _, _⟩ := ky'.c3
      obtain ⟨v0, v1, v2, _, _, _⟩ := kr'.c3
      go_wp2_with fail
      exact bodyPost_ret (results_cell_row rfl _ _ w.heap.size _ #[.bool false, .int .u64 hi, .int .u64 lo] (0, 0) _ rfl ((((kr'.far (by (try dsimp only); omega) _).set_ 0 (.bool false)).set_ 1 (.int .u64 hi)).set_ 2 (.int .u64 lo)) Try.underlying108 rfl (by kernel_rfl)) rfl
        ⟨rfl, bl_set (bl_set (bl_set (bl_set hbw (by (try dsimp only); omega) _) (Nat.le_refl _) _) (Nat.le_refl _) _) (Nat.le_refl _) _⟩
set_option maxHeartbeats 16000000 in
set_option maxRecDepth 100000 in
theorem wmul_np_n (a b X Y A M1 M2 D H1 L1 H L : Int) (w : World) (x0 x1 y0 y1 : Int)
    (hA : ∀ W, Calls Try.prog 58 #[.int .i64 a] W fun e w' => e = .returned (.agg #[.bool true, .int .u64 0, .int .u64 X]) ∧ Below W.heap.size W w')
    (hB : ∀ W, Calls Try.prog 58 #[.int .i64 b] W fun e w' => e = .returned (.agg #[.bool false, .int .u64 0, .int .u64 Y]) ∧ Below W.heap.size W w')
    (hX0 : X.tmod 4294967296 = x0) (hX1 : X / 4294967296 = x1) (hY0 : Y.tmod 4294967296 = y0) (hY1 : Y / 4294967296 = y1)
    (hwA : IntKind.u64.wrap (x1 * y1) = A) (hwD : IntKind.u64.wrap (x0 * y0) = D) (hw1 : IntKind.u64.wrap (x0 * y1) = M1) (hw2 : IntKind.u64.wrap (x1 * y0) = M2)
    (hp1 : ∀ W, Calls Try.prog 77 #[.agg #[.bool false, .int .u64 A, .int .u64 D], .agg #[.bool false, .int .u64 (M1 / 4294967296), .int .u64 (M1 * 4294967296 % 18446744073709551616)]] W fun e w' => e = .returned (.agg #[.bool false, .int .u64 H1, .int .u64 L1]) ∧ Below W.heap.size W w')
    (hp2 : ∀ W, Calls Try.prog 77 #[.agg #[.bool false, .int .u64 H1, .int .u64 L1], .agg #[.bool false, .int .u64 (M2 / 4294967296), .int .u64 (M2 * 4294967296 % 18446744073709551616)]] W fun e w' => e = .returned (.agg #[.bool false, .int .u64 H, .int .u64 L]) ∧ Below W.heap.size W w') (hz : (H == 0 && L == 0) = false) :
    Calls Try.prog 73 #[.int .i64 a, .int .i64 b] w fun e w' => e = .returned (.agg #[.bool true, .int .u64 H, .int .u64 L]) ∧ Below w.heap.size w w' := by
  have hw9 : IntKind.u64.wrap (M1 * 4294967296) = M1 * 4294967296 % 18446744073709551616 := by rw [IntKind.wrap_u64]
  have hw8 : IntKind.u64.wrap (M2 * 4294967296) = M2 * 4294967296 % 18446744073709551616 := by rw [IntKind.wrap_u64]
  replace hA := Lib.hid hA
  replace hB := Lib.hid hB
  replace hp1 := Lib.hid hp1
  replace hp2 := Lib.hid hp2
  have hZ := Lib.hid (fun W => Dec.wzero_any false H L W)
  rw [hz] at hZ
  clear hz
  go_enter Try.func73, Try.ntmps73
  go_wp2_with fail
  refine (hA.out _).mono ?_
  rintro e w1 ⟨rfl, hb1⟩
  go_wp2_with fail
  refine (hB.out _).mono ?_
  rintro e w2 ⟨rfl, hb2⟩
  have kr := ((Blk.new w 108 #[.bool false, .int .u64 0, .int .u64 0]).call hb1).call hb2
  have hbb2 := bl_call (bl_call (bl_alloc (bl_refl w) (.cells #[.bool false, .int .u64 0, .int .u64 0] 108)) hb1) hb2
  have hl0 := kr.lt
  have kx := (Blk.new w2 108 #[.bool true, .int .u64 0, .int .u64 X]).alloc (.cells #[.bool false, .int .u64 0, .int .u64 Y] 108)
  have ky := Dec.Blk.new2 w2 (.cells #[.bool true, .int .u64 0, .int .u64 X] 108) 108 #[.bool false, .int .u64 0, .int .u64 Y]
  obtain ⟨a0, a1, a2, _, _, _⟩ := kx.c3
  obtain ⟨c0, c1, c2, _, _, _⟩ := ky.c3
  go_wp2_with fail
  go_quiet (fail)
  have kx1 := kx.drewN nq
  have ky1 := ky.drewN nq
  clear a0 a1 a2 c0 c1 c2
  obtain ⟨a0, a1, a2, _, _, _⟩ := kx1.c3
  obtain ⟨c0, c1, c2, _, _, _⟩ := ky1.c3
  go_wp2_with fail
  go_quiet (fail)
  go_wp2_with fail
  clear a0 a1 a2 c0 c1 c2
  go_loopw [45] (fun v wr => ∃ (i hi lo : Int), v = .int .i64 i ∧ ((i = 0 ∧ hi = A ∧ lo = D) ∨ (i = 1 ∧ hi = H1 ∧ lo = L1) ∨ (i = 2 ∧ hi = H ∧ lo = L)) ∧
      Blk wr w.heap.size 108 #[.bool false, .int .u64 0, .int .u64 0] ∧ Blk wr (w2.heap.size) 108 #[.bool true, .int .u64 0, .int .u64 X] ∧ Blk wr (w2.heap.size + 1) 108 #[.bool false, .int .u64 0, .int .u64 Y] ∧
      Blk wr (w2.heap.size + 1 + 1) 108 #[.bool false, .int .u64 hi, .int .u64 lo] ∧ Blk wr (w2.heap.size + 1 + 1 + 1) 106 #[.int .u64 M1, .int .u64 M2] ∧ Below w.heap.size w wr) (fun v _ => (2 - intOf v).toNat)
  case atStart =>
    refine ⟨0, A, D, rfl, .inl ⟨rfl, rfl, rfl⟩, ?_, ?_, ?_, ?_, ?_, ?_⟩
    · exact (((((kr.alloc _).alloc _).drewN _).alloc _).alloc _)
    · exact ((kx.drewN _).alloc _).alloc _
    · exact ((ky.drewN _).alloc _).alloc _
    · exact (Dec.Blk.new_at _ _ _ _ (by show ((w2.alloc _).alloc _).heap.size = _; rw [Dec.size_alloc, Dec.size_alloc])).alloc _
    · exact Dec.Blk.new_at _ _ _ _ (by rw [Dec.size_alloc]; show ((w2.alloc _).alloc _).heap.size + 1 = _; rw [Dec.size_alloc, Dec.size_alloc])
    · exact bl_alloc (bl_alloc (bl_drewN (bl_alloc (bl_alloc hbb2 _) _) _) _) _
  case round =>
    obtain ⟨i, hi, lo, rfl, hcase, kr', kx', ky', ko', ks', hbw⟩ := hrel
    have ho := ko'.lt
    have hs := ks'.lt
    obtain ⟨o0, o1, o2, _, _, _⟩ := ko'.c3
    obtain ⟨s0, s1, _, _⟩ := ks'.c2
    rcases hcase with ⟨rfl, rfl, rfl⟩ | ⟨rfl, rfl, rfl⟩ | ⟨rfl, rfl, rfl⟩
    · go_wp2_with fail
      refine (hp1.out _).mono ?_
      rintro e w3 ⟨rfl, hb3⟩
      have ko3 := ko'.call hb3
      have ks3 := ks'.call hb3
      have kx3 := kx'.call hb3
      have ky3 := ky'.call hb3
      have kr3 := kr'.call hb3
      have hbw3 := bl_call hbw hb3
      have ho3 := ko3.lt
      clear o0 o1 o2 s0 s1
      obtain ⟨o0, o1, o2, f0, f1, f2⟩ := ko3.c3
      go_wp2
      go_roundw
      case rel =>
        refine ⟨_, H1, L1, rfl, .inr (.inl ⟨by go_num, rfl, rfl⟩), ?_, ?_, ?_, ?_, ?_, ?_⟩
        · exact ((kr3.far (by (try dsimp only); omega) _).far (by (try dsimp only); omega) _).far (by (try dsimp only); omega) _
        · exact ((kx3.far (by (try dsimp only); omega) _).far (by (try dsimp only); omega) _).far (by (try dsimp only); omega) _
        · exact ((ky3.far (by (try dsimp only); omega) _).far (by (try dsimp only); omega) _).far (by (try dsimp only); omega) _
        · exact ((ko3.set_ 0 (.bool false)).set_ 1 (.int .u64 H1)).set_ 2 (.int .u64 L1)
        · exact ((ks3.far (by (try dsimp only); omega) _).far (by (try dsimp only); omega) _).far (by (try dsimp only); omega) _
        · exact bl_set (bl_set (bl_set hbw3 (by (try dsimp only); omega) _) (by (try dsimp only); omega) _) (by (try dsimp only); omega) _
      case measure => simp [intOf]
    · go_wp2_with fail
      refine (hp2.out _).mono ?_
      rintro e w3 ⟨rfl, hb3⟩
      have ko3 := ko'.call hb3
      have ks3 := ks'.call hb3
      have kx3 := kx'.call hb3
      have ky3 := ky'.call hb3
      have kr3 := kr'.call hb3
      have hbw3 := bl_call hbw hb3
      have ho3 := ko3.lt
      clear o0 o1 o2 s0 s1
      obtain ⟨o0, o1, o2, f0, f1, f2⟩ := ko3.c3
      go_wp2
      go_roundw
      case rel =>
        refine ⟨_, H, L, rfl, .inr (.inr ⟨by go_num, rfl, rfl⟩), ?_, ?_, ?_, ?_, ?_, ?_⟩
        · exact ((kr3.far (by (try dsimp only); omega) _).far (by (try dsimp only); omega) _).far (by (try dsimp only); omega) _
        · exact ((kx3.far (by (try dsimp only); omega) _).far (by (try dsimp only); omega) _).far (by (try dsimp only); omega) _
        · exact ((ky3.far (by (try dsimp only); omega) _).far (by (try dsimp only); omega) _).far (by (try dsimp only); omega) _
        · exact ((ko3.set_ 0 (.bool false)).set_ 1 (.int .u64 H)).set_ 2 (.int .u64 L)
        · exact ((ks3.far (by (try dsimp only); omega) _).far (by (try dsimp only); omega) _).far (by (try dsimp only); omega) _
        · exact bl_set (bl_set (bl_set hbw3 (by (try dsimp only); omega) _) (by (try dsimp only); omega) _) (by (try dsimp only); omega) _
      case measure => simp [intOf]
    · obtain ⟨z0, z1, z2, _, _, _⟩ := kx'.c3
      obtain ⟨t0, t1, t2, _, _, _⟩ := ky'.c3
      obtain ⟨v0, v1, v2, _, _, _⟩ := kr'.c3
      go_wp2_with fail
      refine (hZ.out _).mono ?_
      rintro e w4 ⟨rfl, hb4⟩
      have ko4 := ko'.call hb4
      have kr4 := kr'.call hb4
      have hbw4 := bl_call hbw hb4
      have ho4 := ko4.lt
      clear o0 o1 o2 s0 s1 z0 z1 z2 t0 t1 t2 v0 v1 v2
      obtain ⟨o0, o1, o2, f0, f1, f2⟩ := ko4.c3
      obtain ⟨v0, v1, v2, _, _, _⟩ := kr4.c3
      go_wp2_with fail
      exact bodyPost_ret (results_cell_row rfl _ _ w.heap.size _ #[.bool true, .int .u64 hi, .int .u64 lo] (0, 0) _ rfl ((((kr4.far (by (try dsimp only); omega) _).set_ 0 (.bool true)).set_ 1 (.int .u64 hi)).set_ 2 (.int .u64 lo)) Try.underlying108 rfl (by kernel_rfl)) rfl
        ⟨rfl, bl_set (bl_set (bl_set (bl_set hbw4 (by (try dsimp only); omega) _) (Nat.le_refl _) _) (Nat.le_refl _) _) (Nat.le_refl _) _⟩
set_option maxHeartbeats 16000000 in
set_option maxRecDepth 100000 in
theorem wmul_np_z (a b X Y A M1 M2 D H1 L1 H L : Int) (w : World) (x0 x1 y0 y1 : Int)
    (hA : ∀ W, Calls Try.prog 58 #[.int .i64 a] W fun e w' => e = .returned (.agg #[.bool true, .int .u64 0, .int .u64 X]) ∧ Below W.heap.size W w')
    (hB : ∀ W, Calls Try.prog 58 #[.int .i64 b] W fun e w' => e = .returned (.agg #[.bool false, .int .u64 0, .int .u64 Y]) ∧ Below W.heap.size W w')
    (hX0 : X.tmod 4294967296 = x0) (hX1 : X / 4294967296 = x1) (hY0 : Y.tmod 4294967296 = y0) (hY1 : Y / 4294967296 = y1)
    (hwA : IntKind.u64.wrap (x1 * y1) = A) (hwD : IntKind.u64.wrap (x0 * y0) = D) (hw1 : IntKind.u64.wrap (x0 * y1) = M1) (hw2 : IntKind.u64.wrap (x1 * y0) = M2)
    (hp1 : ∀ W, Calls Try.prog 77 #[.agg #[.bool false, .int .u64 A, .int .u64 D], .agg #[.bool false, .int .u64 (M1 / 4294967296), .int .u64 (M1 * 4294967296 % 18446744073709551616)]] W fun e w' => e = .returned (.agg #[.bool false, .int .u64 H1, .int .u64 L1]) ∧ Below W.heap.size W w')
    (hp2 : ∀ W, Calls Try.prog 77 #[.agg #[.bool false, .int .u64 H1, .int .u64 L1], .agg #[.bool false, .int .u64 (M2 / 4294967296), .int .u64 (M2 * 4294967296 % 18446744073709551616)]] W fun e w' => e = .returned (.agg #[.bool false, .int .u64 H, .int .u64 L]) ∧ Below W.heap.size W w') (hz : (H == 0 && L == 0) = true) :
    Calls Try.prog 73 #[.int .i64 a, .int .i64 b] w fun e w' => e = .returned (.agg #[.bool false, .int .u64 H, .int .u64 L]) ∧ Below w.heap.size w w' := by
  have hw9 : IntKind.u64.wrap (M1 * 4294967296) = M1 * 4294967296 % 18446744073709551616 := by rw [IntKind.wrap_u64]
  have hw8 : IntKind.u64.wrap (M2 * 4294967296) = M2 * 4294967296 % 18446744073709551616 := by rw [IntKind.wrap_u64]
  replace hA := Lib.hid hA
  replace hB := Lib.hid hB
  replace hp1 := Lib.hid hp1
  replace hp2 := Lib.hid hp2
  have hZ := Lib.hid (fun W => Dec.wzero_any false H L W)
  rw [hz] at hZ
  clear hz
  go_enter Try.func73, Try.ntmps73
  go_wp2_with fail
  refine (hA.out _).mono ?_
  rintro e w1 ⟨rfl, hb1⟩
  go_wp2_with fail
  refine (hB.out _).mono ?_
  rintro e w2 ⟨rfl, hb2⟩
  have kr := ((Blk.new w 108 #[.bool false, .int .u64 0, .int .u64 0]).call hb1).call hb2
  have hbb2 := bl_call (bl_call (bl_alloc (bl_refl w) (.cells #[.bool false, .int .u64 0, .int .u64 0] 108)) hb1) hb2
  have hl0 := kr.lt
  have kx := (Blk.new w2 108 #[.bool true, .int .u64 0, .int .u64 X]).alloc (.cells #[.bool false, .int .u64 0, .int .u64 Y] 108)
  have ky := Dec.Blk.new2 w2 (.cells #[.bool true, .int .u64 0, .int .u64 X] 108) 108 #[.bool false, .int .u64 0, .int .u64 Y]
  obtain ⟨a0, a1, a2, _, _, _⟩ := kx.c3
  obtain ⟨c0, c1, c2, _, _, _⟩ := ky.c3
  go_wp2_with fail
  go_quiet (fail)
  have kx1 := kx.drewN nq
  have ky1 := ky.drewN nq
  clear a0 a1 a2 c0 c1 c2
  obtain ⟨a0, a1, a2, _, _, _⟩ := kx1.c3
  obtain ⟨c0, c1, c2, _, _, _⟩ := ky1.c3
  go_wp2_with fail
  go_quiet (fail)
  go_wp2_with fail
  clear a0 a1 a2 c0 c1 c2
  go_loopw [45] (fun v wr => ∃ (i hi lo : Int), v = .int .i64 i ∧ ((i = 0 ∧ hi = A ∧ lo = D) ∨ (i = 1 ∧ hi = H1 ∧ lo = L1) ∨ (i = 2 ∧ hi = H ∧ lo = L)) ∧
      Blk wr w.heap.size 108 #[.bool false, .int .u64 0, .int .u64 0] ∧ Blk wr (w2.heap.size) 108 #[.bool true, .int .u64 0, .int .u64 X] ∧ Blk wr (w2.heap.size + 1) 108 #[.bool false, .int .u64 0, .int .u64 Y] ∧
      Blk wr (w2.heap.size + 1 + 1) 108 #[.bool false, .int .u64 hi, .int .u64 lo] ∧ Blk wr (w2.heap.size + 1 + 1 + 1) 106 #[.int .u64 M1, .int .u64 M2] ∧ Below w.heap.size w wr) (fun v _ => (2 - intOf v).toNat)
  case atStart =>
    refine ⟨0, A, D, rfl, .inl ⟨rfl, rfl, rfl⟩, ?_, ?_, ?_, ?_, ?_, ?_⟩
    · exact (((((kr.alloc _).alloc _).drewN _).alloc _).alloc _)
    · exact ((kx.drewN _).alloc _).alloc _
    · exact ((ky.drewN _).alloc _).alloc _
    · exact (Dec.Blk.new_at _ _ _ _ (by show ((w2.alloc _).alloc _).heap.size = _; rw [Dec.size_alloc, Dec.size_alloc])).alloc _
    · exact Dec.Blk.new_at _ _ _ _ (by rw [Dec.size_alloc]; show ((w2.alloc _).alloc _).heap.size + 1 = _; rw [Dec.size_alloc, Dec.size_alloc])
    · exact bl_alloc (bl_alloc (bl_drewN (bl_alloc (bl_alloc hbb2 _) _) _) _) _
  case round =>
    obtain ⟨i, hi, lo, rfl, hcase, kr', kx', ky', ko', ks', hbw⟩ := hrel
    have ho := ko'.lt
    have hs := ks'.lt
    obtain ⟨o0, o1, o2, _, _, _⟩ := ko'.c3
    obtain ⟨s0, s1, _, _⟩ := ks'.c2
    rcases hcase with ⟨rfl, rfl, rfl⟩ | ⟨rfl, rfl, rfl⟩ | ⟨rfl, rfl, rfl⟩
    · go_wp2_with fail
      refine (hp1.out _).mono ?_
      rintro e w3 ⟨rfl, hb3⟩
      have ko3 := ko'.call hb3
      have ks3 := ks'.call hb3
      have kx3 := kx'.call hb3
      have ky3 := ky'.call hb3
      have kr3 := kr'.call hb3
      have hbw3 := bl_call hbw hb3
      have ho3 := ko3.lt
      clear o0 o1 o2 s0 s1
      obtain ⟨o0, o1, o2, f0, f1, f2⟩ := ko3.c3
      go_wp2
      go_roundw
      case rel =>
        refine ⟨_, H1, L1, rfl, .inr (.inl ⟨by go_num, rfl, rfl⟩), ?_, ?_, ?_, ?_, ?_, ?_⟩
        · exact ((kr3.far (by (try dsimp only); omega) _).far (by (try dsimp only); omega) _).far (by (try dsimp only); omega) _
        · exact ((kx3.far (by (try dsimp only); omega) _).far (by (try dsimp only); omega) _).far (by (try dsimp only); omega) _
        · exact ((ky3.far (by (try dsimp only); omega) _).far (by (try dsimp only); omega) _).far (by (try dsimp only); omega) _
        · exact ((ko3.set_ 0 (.bool false)).set_ 1 (.int .u64 H1)).set_ 2 (.int .u64 L1)
        · exact ((ks3.far (by (try dsimp only); omega) _).far (by (try dsimp only); omega) _).far (by (try dsimp only); omega) _
        · exact bl_set (bl_set (bl_set hbw3 (by (try dsimp only); omega) _) (by (try dsimp only); omega) _) (by (try dsimp only); omega) _
      case measure => simp [intOf]
    · go_wp2_with fail
      refine (hp2.out _).mono ?_
      rintro e w3 ⟨rfl, hb3⟩
      have ko3 := ko'.call hb3
      have ks3 := ks'.call hb3
      have kx3 := kx'.call hb3
      have ky3 := ky'.call hb3
      have kr3 := kr'.call hb3
      have hbw3 := bl_call hbw hb3
      have ho3 := ko3.lt
      clear o0 o1 o2 s0 s1
      obtain ⟨o0, o1, o2, f0, f1, f2⟩ := ko3.c3
      go_wp2
      go_roundw
      case rel =>
        refine ⟨_, H, L, rfl, .inr (.inr ⟨by go_num, rfl, rfl⟩), ?_, ?_, ?_, ?_, ?_, ?_⟩
        · exact ((kr3.far (by (try dsimp only); omega) _).far (by (try dsimp only); omega) _).far (by (try dsimp only); omega) _
        · exact ((kx3.far (by (try dsimp only); omega) _).far (by (try dsimp only); omega) _).far (by (try dsimp only); omega) _
        · exact ((ky3.far (by (try dsimp only); omega) _).far (by (try dsimp only); omega) _).far (by (try dsimp only); omega) _
        · exact ((ko3.set_ 0 (.bool false)).set_ 1 (.int .u64 H)).set_ 2 (.int .u64 L)
        · exact ((ks3.far (by (try dsimp only); omega) _).far (by (try dsimp only); omega) _).far (by (try dsimp only); omega) _
        · exact bl_set (bl_set (bl_set hbw3 (by (try dsimp only); omega) _) (by (try dsimp only); omega) _) (by (try dsimp only); omega) _
      case measure => simp [intOf]
    · obtain ⟨z0, z1, z2, _, _, _⟩ := kx'.c3
      obtain ⟨t0, t1, t2, _, _, _⟩ := ky'.c3
      obtain ⟨v0, v1, v2, _, _, _⟩ := kr'.c3
      go_wp2_with fail
      refine (hZ.out _).mono ?_
      rintro e w4 ⟨rfl, hb4⟩
      have ko4 := ko'.call hb4
      have kr4 := kr'.call hb4
      have hbw4 := bl_call hbw hb4
      have ho4 := ko4.lt
      clear o0 o1 o2 s0 s1 z0 z1 z2 t0 t1 t2 v0 v1 v2
      obtain ⟨o0, o1, o2, f0, f1, f2⟩ := ko4.c3
      obtain ⟨v0, v1, v2, _, _, _⟩ := kr4.c3
      go_wp2_with fail
      exact bodyPost_ret (results_cell_row rfl _ _ w.heap.size _ #[.bool false, .int .u64 hi, .int .u64 lo] (0, 0) _ rfl ((((kr4.far (by (try dsimp only); omega) _).set_ 0 (.bool false)).set_ 1 (.int .u64 hi)).set_ 2 (.int .u64 lo)) Try.underlying108 rfl (by kernel_rfl)) rfl
        ⟨rfl, bl_set (bl_set (bl_set (bl_set hbw4 (by (try dsimp only); omega) _) (Nat.le_refl _) _) (Nat.le_refl _) _) (Nat.le_refl _) _⟩
end Go.Proofs.Ytcgkfgklggjmaaa.Par
end
section
namespace Go.Proofs.Ytcgkfgklggjmaaa.Par
set_option linter.unusedVariables false
set_option linter.unusedSimpArgs false
open Go.RowKit
theorem WV.uniq {v : Int} {b b' : Bool} {h l h' l' : Int} (x : WV v b h l) (y : WV v b' h' l') : b = b' ∧ h = h' ∧ l = l' := by
  obtain ⟨x1, x2, x3, x4, x5, x6⟩ := x
  obtain ⟨y1, y2, y3, y4, y5, y6⟩ := y
  refine ⟨x1.trans y1.symm, ?_, ?_⟩ <;> omega
theorem wadd9_all (a b : Int) (ab bb : Bool) (ah al bh bl : Int) (ha : WV a ab ah al) (hb : WV b bb bh bl) (hs : absI a + absI b < 170141183460469231731687303715884105728) :
    ∃ cb ch cl, WV (a + b) cb ch cl ∧ ∀ w, Calls Try.prog 57 #[.agg #[.bool ab, .int .u64 ah, .int .u64 al], .agg #[.bool bb, .int .u64 bh, .int .u64 bl]] w fun e w' => e = .returned (.agg #[.bool cb, .int .u64 ch, .int .u64 cl]) ∧ Below w.heap.size w w' := by
  obtain ⟨cb, ch, cl, h1, _⟩ := wadd9_any a b ab bb ah al bh bl default ha hb hs
  refine ⟨cb, ch, cl, h1, fun w => ?_⟩
  obtain ⟨cb', ch', cl', h1', h2'⟩ := wadd9_any a b ab bb ah al bh bl w ha hb hs
  obtain ⟨rfl, rfl, rfl⟩ := h1.uniq h1'
  exact h2'
theorem wopp9_all (v : Int) (b : Bool) (hi lo : Int) (h : WV v b hi lo) :
    ∃ b', WV (-v) b' hi lo ∧ ∀ w, Calls Try.prog 75 #[.agg #[.bool b, .int .u64 hi, .int .u64 lo]] w fun e w' => e = .returned (.agg #[.bool b', .int .u64 hi, .int .u64 lo]) ∧ Below w.heap.size w w' := by
  refine ⟨_, h.opp, fun w => (wopp_any v b hi lo w h).mono fun e w' ⟨b', he, hv, hb⟩ => ?_⟩
  obtain ⟨rfl, _, _⟩ := hv.uniq h.opp
  exact ⟨he, hb⟩
theorem prod_bd {x y M N : Int} (x0 : 0 ≤ x) (x1 : x ≤ M) (y0 : 0 ≤ y) (y1 : y ≤ N) (hM : 0 ≤ M) : 0 ≤ x * y ∧ x * y ≤ M * N :=
  ⟨Int.mul_nonneg x0 y0, Int.mul_le_mul x1 y1 y0 hM⟩
theorem prod_split (x1 x0 y1 y0 : Int) : (4294967296 * x1 + x0) * (4294967296 * y1 + y0) = 18446744073709551616 * (x1 * y1) + 4294967296 * (x0 * y1) + 4294967296 * (x1 * y0) + x0 * y0 := by
  have e1 : 4294967296 * x1 * (4294967296 * y1) = 18446744073709551616 * (x1 * y1) := by rw [Int.mul_assoc, Int.mul_left_comm x1]; omega
  have e2 : 4294967296 * x1 * y0 = 4294967296 * (x1 * y0) := Int.mul_assoc _ _ _
  have e3 : x0 * (4294967296 * y1) = 4294967296 * (x0 * y1) := Int.mul_left_comm _ _ _
  rw [Int.add_mul, Int.mul_add, Int.mul_add, e1, e2, e3]
  omega
/-- a product of sizes, part by part -/
theorem parts9 (X Y : Int) (hX : 0 ≤ X) (hX' : X ≤ 9223372036854775808) (hY : 0 ≤ Y) (hY' : Y ≤ 9223372036854775808) :
    ∃ A M1 M2 D H1 L1 H L x0 x1 y0 y1 : Int, X.tmod 4294967296 = x0 ∧ X / 4294967296 = x1 ∧ Y.tmod 4294967296 = y0 ∧ Y / 4294967296 = y1 ∧
      IntKind.u64.wrap (x1 * y1) = A ∧ IntKind.u64.wrap (x0 * y0) = D ∧ IntKind.u64.wrap (x0 * y1) = M1 ∧ IntKind.u64.wrap (x1 * y0) = M2 ∧
      (∀ W, Calls Try.prog 77 #[.agg #[.bool false, .int .u64 A, .int .u64 D], .agg #[.bool false, .int .u64 (M1 / 4294967296), .int .u64 (M1 * 4294967296 % 18446744073709551616)]] W fun e w' => e = .returned (.agg #[.bool false, .int .u64 H1, .int .u64 L1]) ∧ Below W.heap.size W w') ∧
      (∀ W, Calls Try.prog 77 #[.agg #[.bool false, .int .u64 H1, .int .u64 L1], .agg #[.bool false, .int .u64 (M2 / 4294967296), .int .u64 (M2 * 4294967296 % 18446744073709551616)]] W fun e w' => e = .returned (.agg #[.bool false, .int .u64 H, .int .u64 L]) ∧ Below W.heap.size W w') ∧
      H * 18446744073709551616 + L = X * Y ∧ 0 ≤ H ∧ H < 9223372036854775808 ∧ 0 ≤ L ∧ L < 18446744073709551616 := by
  obtain ⟨x0, hx0⟩ : ∃ x, X % 4294967296 = x := ⟨_, rfl⟩
  obtain ⟨x1, hx1⟩ : ∃ x, X / 4294967296 = x := ⟨_, rfl⟩
  obtain ⟨y0, hy0⟩ : ∃ x, Y % 4294967296 = x := ⟨_, rfl⟩
  obtain ⟨y1, hy1⟩ : ∃ x, Y / 4294967296 = x := ⟨_, rfl⟩
  have eX : X = 4294967296 * x1 + x0 := by omega
  have eY : Y = 4294967296 * y1 + y0 := by omega
  have hP : X * Y = 18446744073709551616 * (x1 * y1) + 4294967296 * (x0 * y1) + 4294967296 * (x1 * y0) + x0 * y0 := by rw [eX, eY]; exact prod_split x1 x0 y1 y0
  obtain ⟨pa0, pa1⟩ := prod_bd (x := x1) (y := y1) (M := 2147483648) (N := 2147483648) (by omega) (by omega) (by omega) (by omega) (by decide)
  obtain ⟨pb0, pb1⟩ := prod_bd (x := x0) (y := y1) (M := 4294967295) (N := 2147483648) (by omega) (by omega) (by omega) (by omega) (by decide)
  obtain ⟨pc0, pc1⟩ := prod_bd (x := x1) (y := y0) (M := 2147483648) (N := 4294967295) (by omega) (by omega) (by omega) (by omega) (by decide)
  obtain ⟨pd0, pd1⟩ := prod_bd (x := x0) (y := y0) (M := 4294967295) (N := 4294967295) (by omega) (by omega) (by omega) (by omega) (by decide)
  rw [hP]
  have t0 : X.tmod 4294967296 = x0 := by rw [Int.tmod_eq_emod_of_nonneg hX]; exact hx0
  have t1 : Y.tmod 4294967296 = y0 := by rw [Int.tmod_eq_emod_of_nonneg hY]; exact hy0
  generalize hA : x1 * y1 = A at *
  generalize hB : x0 * y1 = M1 at *
  generalize hC : x1 * y0 = M2 at *
  generalize hD : x0 * y0 = D at *
  refine ⟨A, M1, M2, D, (18446744073709551616 * A + D + 4294967296 * M1) / 18446744073709551616, (18446744073709551616 * A + D + 4294967296 * M1) % 18446744073709551616,
    (18446744073709551616 * A + D + 4294967296 * M1 + 4294967296 * M2) / 18446744073709551616, (18446744073709551616 * A + D + 4294967296 * M1 + 4294967296 * M2) % 18446744073709551616, x0, x1, y0, y1, t0, hx1, t1, hy1, ?_, ?_, ?_, ?_, ?_, ?_, ?_, ?_, ?_, ?_, ?_⟩
  · rw [hA, IntKind.wrap_u64]; omega
  · rw [hD, IntKind.wrap_u64]; omega
  · rw [hB, IntKind.wrap_u64]; omega
  · rw [hC, IntKind.wrap_u64]; omega
  · intro W
    exact Dec.wplus_any false false A D _ _ _ _ W (by omega) (by omega) (by omega) (by omega) (by omega) (by omega) (by omega) (by omega) (by omega)
  · intro W
    exact Dec.wplus_any false false _ _ _ _ _ _ W (by omega) (by omega) (by omega) (by omega) (by omega) (by omega) (by omega) (by omega) (by omega)
  all_goals omega
theorem wmul9_all (a b : Int) (a0 : -9223372036854775808 ≤ a) (a1 : a < 9223372036854775808) (b0 : 0 ≤ b) (b1 : b < 9223372036854775808) :
    ∃ cb ch cl, WV (a * b) cb ch cl ∧ ∀ w, Calls Try.prog 73 #[.int .i64 a, .int .i64 b] w fun e w' => e = .returned (.agg #[.bool cb, .int .u64 ch, .int .u64 cl]) ∧ Below w.heap.size w w' := by
  by_cases hn : a < 0
  · obtain ⟨A, M1, M2, D, H1, L1, H, L, x0, x1, y0, y1, e1, e2, e3, e4, e5, e6, e7, e8, p1, p2, hv, h0, h1, l0, l1⟩ := parts9 (-a) b (by omega) (by omega) b0 (by omega)
    have hneg : -a * b = -(a * b) := Int.neg_mul _ _
    rw [hneg] at hv
    by_cases hz : a * b = 0
    · refine ⟨false, H, L, ⟨by rw [hz]; rfl, by rw [hz] at hv ⊢; simpa using hv, h0, h1, l0, l1⟩, fun w => ?_⟩
      exact wmul_np_z a b (-a) b A M1 M2 D H1 L1 H L w x0 x1 y0 y1 (fun W => wofN_any a W hn a0) (fun W => Dec.wof_any b W b0 b1) e1 e2 e3 e4 e5 e6 e7 e8 p1 p2 (by
        rw [hz] at hv
        rw [Bool.and_eq_true, beq_iff_eq, beq_iff_eq]; omega)
    · have hlt : a * b < 0 := by
        have : a * b ≤ 0 := by have := Int.mul_nonneg (show 0 ≤ -a by omega) b0; omega
        omega
      refine ⟨true, H, L, ⟨(decide_eq_true hlt).symm, by rw [if_pos hlt]; exact hv, h0, h1, l0, l1⟩, fun w => ?_⟩
      exact wmul_np_n a b (-a) b A M1 M2 D H1 L1 H L w x0 x1 y0 y1 (fun W => wofN_any a W hn a0) (fun W => Dec.wof_any b W b0 b1) e1 e2 e3 e4 e5 e6 e7 e8 p1 p2 (by
        rw [Bool.and_eq_false_iff, beq_eq_false_iff_ne, beq_eq_false_iff_ne]; omega)
  · obtain ⟨A, M1, M2, D, H1, L1, H, L, x0, x1, y0, y1, e1, e2, e3, e4, e5, e6, e7, e8, p1, p2, hv, h0, h1, l0, l1⟩ := parts9 a b (by omega) (by omega) b0 (by omega)
    have hge : 0 ≤ a * b := Int.mul_nonneg (by omega) b0
    refine ⟨false, H, L, ⟨(decide_eq_false (by omega)).symm, by rw [if_neg (by omega)]; exact hv, h0, h1, l0, l1⟩, fun w => ?_⟩
    exact wmul_pp a b a b A M1 M2 D H1 L1 H L w x0 x1 y0 y1 (fun W => Dec.wof_any a W (by omega) a1) (fun W => Dec.wof_any b W b0 b1) e1 e2 e3 e4 e5 e6 e7 e8 p1 p2
end Go.Proofs.Ytcgkfgklggjmaaa.Par
end
section
namespace Go.Proofs.Ytcgkfgklggjmaaa.Par
set_option linter.unusedVariables false
set_option linter.unusedSimpArgs false
open Go.RowKit
theorem cell_set_ne {v : World} {p q : Addr} {x u : Value} (h : v.cell? p = some x) (hne : p.block ≠ q.block) : (v.setCell q u).cell? p = some x := (World.cell?_of_block (Below.heap_setCell v q u p.block hne)).trans h
theorem cell_al {v : World} {p : Addr} {x : Value} {o : Obj} (h : v.cell? p = some x) : (v.alloc o).cell? p = some x := cell_keep h (bl_alloc (bl_refl v) o)
set_option maxHeartbeats 16000000 in
set_option maxRecDepth 100000 in
theorem wless9_any (ab bb ob_ cb : Bool) (ah al bh bl ch cl : Int) (w : World)
    (hO : ∀ W, Calls Try.prog 75 #[.agg #[.bool bb, .int .u64 bh, .int .u64 bl]] W fun e w' => e = .returned (.agg #[.bool ob_, .int .u64 bh, .int .u64 bl]) ∧ Below W.heap.size W w')
    (hA : ∀ W, Calls Try.prog 57 #[.agg #[.bool ab, .int .u64 ah, .int .u64 al], .agg #[.bool ob_, .int .u64 bh, .int .u64 bl]] W fun e w' => e = .returned (.agg #[.bool cb, .int .u64 ch, .int .u64 cl]) ∧ Below W.heap.size W w') :
    Calls Try.prog 86 #[.agg #[.bool ab, .int .u64 ah, .int .u64 al], .agg #[.bool bb, .int .u64 bh, .int .u64 bl]] w fun e w' => e = .returned (.bool cb) ∧ Below w.heap.size w w' := by
  have ka := ((Blk.new w 108 #[.bool ab, .int .u64 ah, .int .u64 al]).alloc (.cells #[.bool bb, .int .u64 bh, .int .u64 bl] 108)).drew
  have kb := (Dec.Blk.new2 w (.cells #[.bool ab, .int .u64 ah, .int .u64 al] 108) 108 #[.bool bb, .int .u64 bh, .int .u64 bl]).drew
  have b0 := bl_drew (bl_alloc (bl_alloc (bl_refl w) (.cells #[.bool ab, .int .u64 ah, .int .u64 al] 108)) (.cells #[.bool bb, .int .u64 bh, .int .u64 bl] 108))
  have kL0 : LB w (((w.alloc (.cells #[.bool ab, .int .u64 ah, .int .u64 al] 108)).alloc (.cells #[.bool bb, .int .u64 bh, .int .u64 bl] 108)).drew) := LB.mk b0
  have kaZ : Blk ((((w.alloc (.cells #[.bool ab, .int .u64 ah, .int .u64 al] 108)).alloc (.cells #[.bool bb, .int .u64 bh, .int .u64 bl] 108)).alloc (.cells #[.bool false, .int .u64 0, .int .u64 0] 108)).drew) w.heap.size 108 #[.bool ab, .int .u64 ah, .int .u64 al] := (((Blk.new w 108 #[.bool ab, .int .u64 ah, .int .u64 al]).alloc (.cells #[.bool bb, .int .u64 bh, .int .u64 bl] 108)).alloc (.cells #[.bool false, .int .u64 0, .int .u64 0] 108)).drew
  have kbZ : Blk ((((w.alloc (.cells #[.bool ab, .int .u64 ah, .int .u64 al] 108)).alloc (.cells #[.bool bb, .int .u64 bh, .int .u64 bl] 108)).alloc (.cells #[.bool false, .int .u64 0, .int .u64 0] 108)).drew) (w.heap.size + 1) 108 #[.bool bb, .int .u64 bh, .int .u64 bl] := ((Dec.Blk.new2 w (.cells #[.bool ab, .int .u64 ah, .int .u64 al] 108) 108 #[.bool bb, .int .u64 bh, .int .u64 bl]).alloc (.cells #[.bool false, .int .u64 0, .int .u64 0] 108)).drew
  have kLZ : LB w ((((w.alloc (.cells #[.bool ab, .int .u64 ah, .int .u64 al] 108)).alloc (.cells #[.bool bb, .int .u64 bh, .int .u64 bl] 108)).alloc (.cells #[.bool false, .int .u64 0, .int .u64 0] 108)).drew) := LB.mk (bl_drew (bl_alloc (bl_alloc (bl_alloc (bl_refl w) (.cells #[.bool ab, .int .u64 ah, .int .u64 al] 108)) (.cells #[.bool bb, .int .u64 bh, .int .u64 bl] 108)) (.cells #[.bool false, .int .u64 0, .int .u64 0] 108)))
  have kdZ : Blk ((((w.alloc (.cells #[.bool ab, .int .u64 ah, .int .u64 al] 108)).alloc (.cells #[.bool bb, .int .u64 bh, .int .u64 bl] 108)).alloc (.cells #[.bool false, .int .u64 0, .int .u64 0] 108)).drew) ((w.alloc (.cells #[.bool ab, .int .u64 ah, .int .u64 al] 108)).alloc (.cells #[.bool bb, .int .u64 bh, .int .u64 bl] 108)).heap.size 108 #[.bool false, .int .u64 0, .int .u64 0] := (Blk.new ((w.alloc (.cells #[.bool ab, .int .u64 ah, .int .u64 al] 108)).alloc (.cells #[.bool bb, .int .u64 bh, .int .u64 bl] 108)) 108 #[.bool false, .int .u64 0, .int .u64 0]).drew
  rw [World.size_alloc, World.size_alloc] at kdZ
  replace hO := Lib.hid hO
  replace hA := Lib.hid hA
  obtain ⟨x0, x1, x2, _, _, _⟩ := ka.c3
  obtain ⟨v0, v1, v2, _, _, _⟩ := kb.c3
  obtain ⟨f0, f1, f2, _, _, _⟩ := kaZ.c3
  obtain ⟨g0, g1, g2, _, _, _⟩ := kbZ.c3
  go_enter Try.func86, Try.ntmps86
  go_upto_region 1 with fail
  go_region_held3 (fun w' => w'.cell? ⟨w.heap.size, 0, none⟩ = some (.bool ab) ∧ w'.cell? ⟨w.heap.size, 1, none⟩ = some (.int .u64 ah) ∧ w'.cell? ⟨w.heap.size, 2, none⟩ = some (.int .u64 al) ∧ w'.cell? ⟨w.heap.size + 1, 0, none⟩ = some (.bool bb) ∧ w'.cell? ⟨w.heap.size + 1, 1, none⟩ = some (.int .u64 bh) ∧ w'.cell? ⟨w.heap.size + 1, 2, none⟩ = some (.int .u64 bl))
    (refine ⟨?_, ?_, ?_, ?_, ?_, ?_⟩ <;> (first | with_reducible assumption | ((repeat (first | with_reducible refine cell_al ?_ | with_reducible refine cell_set_ne ?_ (by dsimp only; omega))); with_reducible assumption)))
    ((first | (go_at_call 75; (try go_split_ands); (with_reducible refine (hO.out _).mono ?_); rintro e' w5 ⟨rfl, hb5⟩; (first | (have ka5 := ka.call hb5; have kb5 := kb.call hb5; have hL5 := kL0.call hb5) | (have ka5 := kaZ.call hb5; have kb5 := kbZ.call hb5; have hL5 := kLZ.call hb5; have kd5 := kdZ.call hb5; obtain ⟨d_0, d_1, d_2, _, _, _⟩ := kd5.c3; have ld5 := kd5.lt)); obtain ⟨p_0, p_1, p_2, _, _, _⟩ := ka5.c3; obtain ⟨q_0, q_1, q_2, _, _, _⟩ := kb5.c3; (have la5 := ka5.lt); (have lb5 := kb5.lt)) | (go_at_call 57; (try go_split_ands); (with_reducible refine (hA.out _).mono ?_); rintro e' w6 ⟨rfl, hb6⟩; (first | (have kd6 := kd5.call hb6; have ka6 := ka5.call hb6; have kb6 := kb5.call hb6; have hL6 := hL5.call hb6; obtain ⟨d_0, d_1, d_2, _, _, _⟩ := kd6.c3; have ld6 := kd6.lt) | (have ka6 := (ka5.alloc (.cells #[.bool false, .int .u64 0, .int .u64 0] 108)).call hb6; have kb6 := (kb5.alloc (.cells #[.bool false, .int .u64 0, .int .u64 0] 108)).call hb6; have hL6 := (hL5.alloc (.cells #[.bool false, .int .u64 0, .int .u64 0] 108)).call hb6; have kd6 := Blk.call (Blk.new _ 108 #[.bool false, .int .u64 0, .int .u64 0]) hb6; obtain ⟨d_0, d_1, d_2, _, _, _⟩ := kd6.c3; have ld6 := kd6.lt) | (have ka6 := ka5.call hb6; have kb6 := kb5.call hb6; have hL6 := hL5.call hb6)); obtain ⟨r_0, r_1, r_2, _, _, _⟩ := ka6.c3; obtain ⟨s_0, s_1, s_2, _, _, _⟩ := kb6.c3; (have la6 := ka6.lt); (have lb6 := kb6.lt))))
  all_goals go_wp2_with fail
  all_goals go_ret
  all_goals refine ⟨rfl, ?_⟩
  all_goals (repeat (with_reducible refine bl_set ?_ (by dsimp only; omega) _))
  all_goals first | (with_reducible exact hL6.out) | (with_reducible exact bl_alloc hL6.out _)
end Go.Proofs.Ytcgkfgklggjmaaa.Par
end
section
namespace Go.Proofs.Ytcgkfgklggjmaaa.Par
set_option linter.unusedVariables false
set_option linter.unusedSimpArgs false
/-! halving: plain -/
/-- the greatest multiple of 2^j that isn't above M -/
def floA (M : Int) (j : Nat) : Int := M / 2 ^ j * 2 ^ j
theorem pow_pos2 (j : Nat) : (0 : Int) < 2 ^ j := Int.pow_pos (by decide)
theorem floA_zero (M : Int) : floA M 0 = M := by unfold floA; simp
theorem floA_top {M : Int} (h0 : 0 ≤ M) (h1 : M < 9223372036854775808) : floA M 63 = 0 := by
  unfold floA
  rw [Int.ediv_eq_zero_of_lt h0 (by omega)]
  rfl
theorem floA_step {M : Int} (j : Nat) : floA M j = if floA M (j + 1) + 2 ^ j ≤ M then floA M (j + 1) + 2 ^ j else floA M (j + 1) := by
  have hp := pow_pos2 j
  have e1 : (2 : Int) ^ (j + 1) = 2 ^ j * 2 := Int.pow_succ 2 j
  have e2 : M / 2 ^ (j + 1) = M / 2 ^ j / 2 := by rw [e1, Int.ediv_ediv_of_nonneg (by omega)]
  have e3 : floA M (j + 1) = (2 * (M / 2 ^ j / 2)) * 2 ^ j := by
    unfold floA
    rw [e2, e1, Int.mul_comm (2 ^ j) 2, ← Int.mul_assoc, Int.mul_comm (M / 2 ^ j / 2) 2]
  have e4 : floA M (j + 1) + 2 ^ j = (2 * (M / 2 ^ j / 2) + 1) * 2 ^ j := by rw [e3, Int.add_mul, Int.one_mul]
  have h5 : (2 * (M / 2 ^ j / 2) + 1) * 2 ^ j ≤ M ↔ 2 * (M / 2 ^ j / 2) + 1 ≤ M / 2 ^ j := (Int.le_ediv_iff_mul_le hp).symm
  rw [e4, e3]
  unfold floA
  generalize M / 2 ^ j = m at *
  by_cases h : (2 * (m / 2) + 1) * 2 ^ j ≤ M
  · rw [if_pos h]
    have := h5.1 h
    congr 1
    omega
  · rw [if_neg h]
    have : ¬ 2 * (m / 2) + 1 ≤ m := fun x => h (h5.2 x)
    congr 1
    omega
theorem floA_bd {M : Int} (j : Nat) (hj : j ≤ 62) (h0 : 0 ≤ M) (h1 : M < 9223372036854775808) : 0 ≤ floA M (j + 1) ∧ floA M (j + 1) + 2 ^ j < 9223372036854775808 := by
  have hp := pow_pos2 j
  have hq := pow_pos2 (j + 1)
  have hd : 0 ≤ M / 2 ^ (j + 1) := Int.ediv_nonneg h0 (by omega)
  refine ⟨Int.mul_nonneg hd (by omega), ?_⟩
  have e0 : (9223372036854775808 : Int) = 2 ^ (63 - (j + 1)) * 2 ^ (j + 1) := by
    rw [← Int.pow_add, show 63 - (j + 1) + (j + 1) = 63 by omega]; rfl
  have hlt : M / 2 ^ (j + 1) < 2 ^ (63 - (j + 1)) := by
    rw [Int.ediv_lt_iff_lt_mul hq, ← e0]; exact h1
  have h2 : (M / 2 ^ (j + 1) + 1) * 2 ^ (j + 1) ≤ 2 ^ (63 - (j + 1)) * 2 ^ (j + 1) := Int.mul_le_mul_of_nonneg_right (by omega) (by omega)
  rw [← e0, Int.add_mul, Int.one_mul] at h2
  have e1 : (2 : Int) ^ (j + 1) = 2 ^ j * 2 := Int.pow_succ 2 j
  unfold floA
  omega
/-- the floor that is asked for -/
def quoM (P c : Int) : Int := min (P / c) 9223372036854775807
theorem quoM_bd {P c : Int} (h0 : 0 ≤ P) (hc : 0 < c) : 0 ≤ quoM P c ∧ quoM P c < 9223372036854775808 := by
  have : 0 ≤ P / c := Int.ediv_nonneg h0 (by omega)
  unfold quoM; omega
theorem quoM_le {P c n : Int} (hc : 0 < c) (hn : n < 9223372036854775808) : (n * c ≤ P) ↔ n ≤ quoM P c := by
  have : n ≤ P / c ↔ n * c ≤ P := Int.le_ediv_iff_mul_le hc
  rw [← this]
  unfold quoM
  omega
end Go.Proofs.Ytcgkfgklggjmaaa.Par
end
section
namespace Go.Proofs.Ytcgkfgklggjmaaa.Par
set_option linter.unusedVariables false
set_option linter.unusedSimpArgs false
open Go.RowKit
theorem absI_prod {n c : Int} (n0 : -9223372036854775808 ≤ n) (n1 : n ≤ 9223372036854775808) (c0 : 0 ≤ c) (c1 : c ≤ 1000000) : absI (n * c) ≤ 9223372036854775808000000 := by
  unfold absI
  have h1 : n * c ≤ 9223372036854775808 * c := Int.mul_le_mul_of_nonneg_right n1 c0
  have h2 : -9223372036854775808 * c ≤ n * c := Int.mul_le_mul_of_nonneg_right n0 c0
  split <;> omega
set_option maxHeartbeats 16000000 in
set_option maxRecDepth 100000 in
theorem under9_any (n c P : Int) (pb : Bool) (ph pl : Int) (w : World) (hP : WV P pb ph pl) (n0 : -9223372036854775808 ≤ n) (n1 : n < 9223372036854775808) (c0 : 0 < c) (c1 : c ≤ 1000000) (P0 : 0 ≤ P) (P1 : P < 85070591730234615865843651857942052864) :
    Calls Try.prog 84 #[.int .i64 n, .int .i64 c, .agg #[.bool pb, .int .u64 ph, .int .u64 pl]] w fun e w' => e = .returned (.bool (decide (n * c ≤ P))) ∧ Below w.heap.size w w' := by
  have hab := absI_prod n0 (by omega) (by omega) c1
  obtain ⟨mb, mh, ml, hM, cM⟩ := wmul9_all n c n0 n1 (by omega) (by omega)
  obtain ⟨ob_, hO, cO⟩ := wopp9_all (n * c) mb mh ml hM
  have hsm : absI P + absI (-(n * c)) < 170141183460469231731687303715884105728 := by
    have e1 : absI (-(n * c)) = absI (n * c) := by unfold absI; split <;> split <;> omega
    have e2 : absI P = P := by unfold absI; rw [if_neg (by omega)]
    rw [e1, e2]; omega
  obtain ⟨db, dh, dl, hD, cD⟩ := wadd9_all P (-(n * c)) pb ob_ ph pl mh ml hP hO hsm
  have cL := fun W => wless9_any pb mb ob_ db ph pl mh ml dh dl W cO cD
  have e : decide (n * c ≤ P) = !db := by
    rw [hD.neg, ← decide_not]
    exact decide_eq_decide.2 (by omega)
  rw [e]
  clear e hD hM hO hsm hab cO cD hP
  replace cM := Lib.hid cM
  replace cL := Lib.hid cL
  have kx := (Blk.new w 108 #[.bool pb, .int .u64 ph, .int .u64 pl]).drew
  have b0 := bl_drew (bl_alloc (bl_refl w) (.cells #[.bool pb, .int .u64 ph, .int .u64 pl] 108))
  have kL : LB w (w.alloc (.cells #[.bool pb, .int .u64 ph, .int .u64 pl] 108)).drew := LB.mk b0
  obtain ⟨x0, x1, x2, _, _, _⟩ := kx.c3
  go_enter Try.func84, Try.ntmps84
  go_upto_region 1 with fail
  go_region_held3 (fun w' => w'.cell? ⟨w.heap.size, 0, none⟩ = some (.bool pb) ∧ w'.cell? ⟨w.heap.size, 1, none⟩ = some (.int .u64 ph) ∧ w'.cell? ⟨w.heap.size, 2, none⟩ = some (.int .u64 pl))
    (refine ⟨?_, ?_, ?_⟩ <;> first | with_reducible assumption | (go_keep; done))
    ((first | (go_at_call 73; (with_reducible refine (cM.out _).mono ?_); rintro e' w5 ⟨rfl, hb5⟩; (have j1 := kx.call hb5); (have jL := kL.call hb5); obtain ⟨y0, y1, y2, _, _, _⟩ := j1.c3) | (go_at_call 86; (with_reducible refine (cL.out _).mono ?_); rintro e' w6 ⟨rfl, hb6⟩; (have i1 := j1.call hb6); (have iL := jL.call hb6); obtain ⟨v0, v1, v2, _, _, _⟩ := i1.c3)))
  all_goals go_wp2_with fail
  all_goals go_ret
  all_goals exact ⟨rfl, iL.out⟩
end Go.Proofs.Ytcgkfgklggjmaaa.Par
end
section
namespace Go.Proofs.Ytcgkfgklggjmaaa.Par
set_option linter.unusedVariables false
set_option linter.unusedSimpArgs false
open Go.RowKit
def lowA (M : Int) (j : Nat) : Int := if j = 64 then -9223372036854775808 else floA M j
set_option maxHeartbeats 16000000 in
set_option maxRecDepth 100000 in
theorem floor9_any (P c : Int) (pb : Bool) (ph pl : Int) (w : World) (hP : WV P pb ph pl) (c0 : 0 < c) (c1 : c ≤ 1000000) (P0 : 0 ≤ P) (P1 : P < 85070591730234615865843651857942052864) :
    Calls Try.prog 74 #[.agg #[.bool pb, .int .u64 ph, .int .u64 pl], .int .i64 c] w fun e w' => e = .returned (.tuple #[.int .i64 (quoM P c), .bool true]) ∧ Below w.heap.size w w' := by
  have hU := Lib.hid (fun n (n0 : -9223372036854775808 ≤ n) (n1 : n < 9223372036854775808) W => under9_any n c P pb ph pl W hP n0 n1 c0 c1 P0 P1)
  have hQ := Lib.hid (fun n (hn : n < 9223372036854775808) => (quoM_le (P := P) c0 hn))
  obtain ⟨M0, M1⟩ := quoM_bd (P := P) (c := c) P0 c0
  generalize quoM P c = M at *
  have h1 : decide (-9223372036854775808 * c ≤ P) = true := decide_eq_true (by omega)
  have hU1 := Lib.hid (fun W => hU.out (-9223372036854775808) (by decide) (by decide) W)
  rw [h1] at hU1
  clear h1
  have kx := Blk.new w 108 #[.bool pb, .int .u64 ph, .int .u64 pl]
  have b0 := bl_alloc (bl_refl w) (.cells #[.bool pb, .int .u64 ph, .int .u64 pl] 108)
  obtain ⟨x0, x1, x2, _, _, _⟩ := kx.c3
  go_enter Try.func74, Try.ntmps74
  go_wp2_with fail
  refine (hU1.out _).mono ?_
  rintro e w1 ⟨rfl, hb1⟩
  have kx1 := kx.call hb1
  have b1 := bl_call b0 hb1
  clear x0 x1 x2 hU1
  go_wp2_with fail
  go_loopw [6, 7] (fun v6 v7 wr => ∃ j : Nat, j ≤ 64 ∧ v7 = .int .i64 ((j : Int) - 1) ∧ v6 = .int .i64 (lowA M j) ∧ Below w.heap.size w wr ∧ Below w1.heap.size w1 wr) (fun _ v7 _ => (intOf v7 + 1).toNat)
  case atStart => exact ⟨64, by omega, rfl, rfl, b1, bl_refl w1⟩
  case round =>
    obtain ⟨j, hj, rfl, rfl, hbw, hb1r⟩ := hrel
    have kxr := kx1.call hb1r
    obtain ⟨x0, x1, x2, _, _, _⟩ := kxr.c3
    rcases Nat.eq_zero_or_pos j with h0 | h0
    · subst h0
      have e0 : lowA M 0 = M := by unfold lowA; rw [if_neg (by decide), floA_zero]
      rw [e0]
      go_wp2_with fail
      go_ret2
      exact ⟨rfl, hbw⟩
    · obtain ⟨i, rfl⟩ : ∃ i, j = i + 1 := ⟨j - 1, by omega⟩
      by_cases h64 : i = 63
      · subst h64
        have e1 : lowA M 64 = -9223372036854775808 := rfl
        have e2 : Hid (lowA M 63 = 0) := Lib.hid (by unfold lowA; rw [if_neg (by decide), floA_top M0 M1])
        rw [e1]
        clear e1
        have hd : decide (0 * c ≤ P) = true := decide_eq_true (by omega)
        have hU2 := Lib.hid (fun W => hU.out 0 (by decide) (by decide) W)
        rw [hd] at hU2
        have hw1 : IntKind.u64.wrap (-9223372036854775808) = 9223372036854775808 := by decide
        have hw2 : IntKind.u64.wrap (9223372036854775808 + 9223372036854775808) = 0 := by decide
        have hw2' : IntKind.u64.wrap 18446744073709551616 = 0 := by decide
        clear hd hU hQ hP
        go_wp2_with fail
        refine (hU2.out _).mono ?_
        rintro e w2 ⟨rfl, hb2⟩
        go_wp2_with fail
        go_roundw
        case rel => exact ⟨63, by omega, by go_num, by rw [e2.out], bl_call hbw hb2, bl_call hb1r hb2⟩
        case measure => simp [intOf]
      · have hi : i ≤ 62 := by omega
        have e1 : lowA M (i + 1) = floA M (i + 1) := by unfold lowA; rw [if_neg (by omega)]
        have e2 : Hid (lowA M i = floA M i) := Lib.hid (by unfold lowA; rw [if_neg (by omega)])
        obtain ⟨f0, f1⟩ := floA_bd i hi M0 M1
        have fs := floA_step (M := M) i
        have hp := pow_pos2 i
        rw [e1]
        generalize floA M (i + 1) = L at *
        generalize hL2 : floA M i = L2 at *
        have hS : IntKind.u64.wrap (2 ^ i) = 2 ^ i := by rw [IntKind.wrap_u64]; omega
        have hqq := hQ.out (L + 2 ^ i) f1
        have hw1 : IntKind.u64.wrap L = L := by rw [IntKind.wrap_u64]; omega
        have hw2 : IntKind.u64.wrap (L + 2 ^ i) = L + 2 ^ i := by rw [IntKind.wrap_u64]; omega
        have hw3 : IntKind.i64.wrap (L + 2 ^ i) = L + 2 ^ i := by rw [IntKind.wrap_i64]; omega
        have hw4 : wrap64 (L + 2 ^ i) = L + 2 ^ i := by first | exact hw3 | (unfold wrap64; omega)
        have hgt : L < L + 2 ^ i := by omega
        have hU2 := Lib.hid (fun W => hU.out (L + 2 ^ i) (by omega) f1 W)
        by_cases hle : L + 2 ^ i ≤ M
        · rw [decide_eq_true (hqq.2 hle)] at hU2
          have hfs : Hid (L2 = L + 2 ^ i) := Lib.hid (by rw [fs, if_pos hle])
          clear hU hQ hP fs e1 hL2 hqq hle
          go_wp2_with fail
          refine (hU2.out _).mono ?_
          rintro e w2 ⟨rfl, hb2⟩
          go_wp2_with fail
          go_roundw
          case rel => exact ⟨i, by omega, by go_num, by rw [e2.out, hfs.out], bl_call hbw hb2, bl_call hb1r hb2⟩
          case measure => simp [intOf]
        · rw [decide_eq_false (fun h => hle (hqq.1 h))] at hU2
          have hfs : Hid (L2 = L) := Lib.hid (by rw [fs, if_neg hle])
          clear hU hQ hP fs e1 hL2 hqq hle
          go_wp2_with fail
          refine (hU2.out _).mono ?_
          rintro e w2 ⟨rfl, hb2⟩
          go_wp2_with fail
          go_roundw
          case rel => exact ⟨i, by omega, by go_num, by rw [e2.out, hfs.out], bl_call hbw hb2, bl_call hb1r hb2⟩
          case measure => simp [intOf]
end Go.Proofs.Ytcgkfgklggjmaaa.Par
end
section
namespace Go.Proofs.Ytcgkfgklggjmaaa.Par
set_option linter.unusedVariables false
set_option linter.unusedSimpArgs false
open Go.RowKit
theorem quo_cases {P c : Int} (P0 : 0 ≤ P) (c0 : 0 < c) :
    (c ≤ P - quoM P c * c ∧ upB P c = (0, false)) ∨ (P - quoM P c * c = 0 ∧ upB P c = (quoM P c, true)) ∨
    (0 < P - quoM P c * c ∧ P - quoM P c * c < c ∧ quoM P c = 9223372036854775807 ∧ upB P c = (0, false)) ∨
    (0 < P - quoM P c * c ∧ P - quoM P c * c < c ∧ quoM P c < 9223372036854775807 ∧ upB P c = (quoM P c + 1, true)) := by
  have h1 := Int.mul_ediv_add_emod P c
  have h2 := Int.emod_nonneg P (show c ≠ 0 by omega)
  have h3 := Int.emod_lt_of_pos P c0
  have h4 : 0 ≤ P / c := Int.ediv_nonneg P0 (by omega)
  have h5 : P / c * c = c * (P / c) := Int.mul_comm _ _
  have hc : ∀ x, x ≤ cdiv P c ↔ x * c ≤ P + c - 1 := fun x => by unfold cdiv; exact Int.le_ediv_iff_mul_le c0
  unfold upB quoM
  generalize hq : P / c = q at *
  generalize hr : P % c = r at *
  generalize hd : cdiv P c = d at *
  have e1 : (q + 1) * c = q * c + c := by rw [Int.add_mul, Int.one_mul]
  have e2 : (q + 1 + 1) * c = q * c + c + c := by rw [Int.add_mul, e1, Int.one_mul]
  have d1 : q ≤ d := (hc q).2 (by omega)
  have d2 : ¬ q + 1 + 1 ≤ d := fun h => by have := (hc _).1 h; rw [e2] at this; omega
  by_cases hbig : 9223372036854775807 < q
  · left
    have hm : min q 9223372036854775807 = 9223372036854775807 := by omega
    rw [hm, if_neg (by omega)]
    refine ⟨?_, rfl⟩
    have : (9223372036854775807 + 1) * c ≤ q * c := Int.mul_le_mul_of_nonneg_right (by omega) (by omega)
    rw [Int.add_mul, Int.one_mul] at this
    omega
  · right
    have hm : min q 9223372036854775807 = q := by omega
    rw [hm]
    by_cases hz : r = 0
    · left
      have d3 : ¬ q + 1 ≤ d := fun h => by have := (hc _).1 h; rw [e1] at this; omega
      obtain rfl : d = q := by omega
      exact ⟨by omega, by rw [if_pos (by omega)]⟩
    · right
      have d3 : q + 1 ≤ d := (hc _).2 (by rw [e1]; omega)
      obtain rfl : d = q + 1 := by omega
      by_cases ht : q = 9223372036854775807
      · left
        exact ⟨by omega, by omega, ht, by rw [if_neg (by omega)]⟩
      · right
        exact ⟨by omega, by omega, by omega, by rw [if_pos (by omega)]⟩
set_option maxHeartbeats 16000000 in
set_option maxRecDepth 100000 in
theorem rmd9_any (a b c : Int) (w : World) (a0 : 0 ≤ a) (a1 : a < 9223372036854775808) (b0 : 0 ≤ b) (b1 : b < 9223372036854775808) (c0 : 0 < c) (c1 : c ≤ 1000000) :
    Calls Try.prog 55 #[.int .i64 a, .int .i64 b, .int .i64 c, .int .i64 1] w fun e w' => e = .returned (.tuple #[.int .i64 (upB (a * b) c).1, .bool (upB (a * b) c).2]) ∧ Below w.heap.size w w' := by
  obtain ⟨p0, p1⟩ := prod_bd (x := a) (y := b) (M := 9223372036854775807) (N := 9223372036854775807) a0 (by omega) b0 (by omega) (by decide)
  obtain ⟨pb, ph, pl, hP, cM⟩ := wmul9_all a b (by omega) a1 b0 b1
  generalize a * b = P at *
  have cF := fun W => floor9_any P c pb ph pl W hP c0 c1 p0 (by omega)
  obtain ⟨M0, M1⟩ := quoM_bd (P := P) (c := c) p0 c0
  have hq := quo_cases (P := P) (c := c) p0 c0
  have hle := (quoM_le (P := P) (c := c) c0 M1).2 (Int.le_refl _)
  have hnc := absI_prod (n := quoM P c) (c := c) (by omega) (by omega) (by omega) c1
  generalize quoM P c = n at *
  obtain ⟨mb, mh, ml, hM, cM2⟩ := wmul9_all n c (by omega) M1 (by omega) (by omega)
  obtain ⟨ob_, hO, cO⟩ := wopp9_all (n * c) mb mh ml hM
  have hsm : absI P + absI (-(n * c)) < 170141183460469231731687303715884105728 := by
    have e1 : absI (-(n * c)) = absI (n * c) := by unfold absI; split <;> split <;> omega
    have e2 : absI P = P := by unfold absI; rw [if_neg (by omega)]
    rw [e1, e2]; omega
  obtain ⟨rb, rh, rl, hR, cA⟩ := wadd9_all P (-(n * c)) pb ob_ ph pl mh ml hP hO hsm
  obtain ⟨r1, r2, hr⟩ : ∃ r1 r2, upB P c = (r1, r2) := ⟨_, _, rfl⟩
  rw [hr] at hq ⊢
  have hRa := hR.abs
  rw [if_neg (by omega)] at hRa
  have rh0 := hR.h0
  have rl0 := hR.l0
  have rl1 := hR.l1
  have hout : (0 < rh ∧ r1 = 0 ∧ r2 = false) ∨ (rh = 0 ∧ c ≤ rl ∧ r1 = 0 ∧ r2 = false) ∨ (rh = 0 ∧ rl = 0 ∧ r1 = n ∧ r2 = true) ∨ (rh = 0 ∧ 0 < rl ∧ rl < c ∧ n = 9223372036854775807 ∧ r1 = 0 ∧ r2 = false) ∨ (rh = 0 ∧ 0 < rl ∧ rl < c ∧ n < 9223372036854775807 ∧ r1 = n + 1 ∧ r2 = true) := by
    simp only [Prod.mk.injEq] at hq
    rcases hq with ⟨h1, h2, h3⟩ | ⟨h1, h2, h3⟩ | ⟨h1, h2, h3, h4, h5⟩ | ⟨h1, h2, h3, h4, h5⟩
    · by_cases hz : 0 < rh
      · exact .inl ⟨hz, h2, h3⟩
      · exact .inr (.inl ⟨by omega, by omega, h2, h3⟩)
    · exact .inr (.inr (.inl ⟨by omega, by omega, h2, h3⟩))
    · exact .inr (.inr (.inr (.inl ⟨by omega, by omega, by omega, h3, h4, h5⟩)))
    · exact .inr (.inr (.inr (.inr ⟨by omega, by omega, by omega, h3, h4, h5⟩)))
  clear hq hr hRa hsm hO hM hR hP hnc hle p0 p1
  replace hout := Lib.hid hout
  replace cM := Lib.hid cM
  replace cF := Lib.hid cF
  replace cM2 := Lib.hid cM2
  replace cO := Lib.hid cO
  replace cA := Lib.hid cA
  have hwc : IntKind.u64.wrap c = c := by rw [IntKind.wrap_u64]; omega
  go_enter Try.func55, Try.ntmps55
  go_wp2_with fail
  refine (cM.out _).mono ?_
  rintro e w1 ⟨rfl, hb1⟩
  have k1 := Blk.new w1 108 #[.bool pb, .int .u64 ph, .int .u64 pl]
  have l1 := bl_alloc hb1 (.cells #[.bool pb, .int .u64 ph, .int .u64 pl] 108)
  obtain ⟨x0, x1, x2, _, _, _⟩ := k1.c3
  go_upto_region 4 with fail
  generalize w1.alloc (.cells #[.bool pb, .int .u64 ph, .int .u64 pl] 108) = u1 at *
  generalize w1.heap.size = g1 at *
  go_wp2_with fail
  refine (cF.out _).mono ?_
  rintro e w2 ⟨rfl, hb2⟩
  have k2 := k1.call hb2
  have l2 := bl_call l1 hb2
  clear x0 x1 x2 k1 hb1 hb2 l1 cM cF
  go_upto_region 5 with fail
  have kp4 := k2.drew
  have hL4 : LB w w2.drew := LB.mk (bl_drew l2)
  have kpZ : Blk ((w2.alloc (.cells #[.bool false, .int .u64 0, .int .u64 0] 108)).drew) g1 108 #[.bool pb, .int .u64 ph, .int .u64 pl] := (k2.alloc (.cells #[.bool false, .int .u64 0, .int .u64 0] 108)).drew
  have hLZ : LB w ((w2.alloc (.cells #[.bool false, .int .u64 0, .int .u64 0] 108)).drew) := LB.mk (bl_drew (bl_alloc l2 (.cells #[.bool false, .int .u64 0, .int .u64 0] 108)))
  have kdZ : Blk ((w2.alloc (.cells #[.bool false, .int .u64 0, .int .u64 0] 108)).drew) w2.heap.size 108 #[.bool false, .int .u64 0, .int .u64 0] := (Blk.new w2 108 #[.bool false, .int .u64 0, .int .u64 0]).drew
  have lp4 := k2.lt
  obtain ⟨x0, x1, x2, _, _, _⟩ := kp4.c3
  obtain ⟨z0, z1, z2, _, _, _⟩ := kpZ.c3
  go_region_held3 (fun w' => w'.cell? ⟨g1, 0, none⟩ = some (.bool pb) ∧ w'.cell? ⟨g1, 1, none⟩ = some (.int .u64 ph) ∧ w'.cell? ⟨g1, 2, none⟩ = some (.int .u64 pl))
    (refine ⟨?_, ?_, ?_⟩ <;> (first | with_reducible assumption | ((repeat (first | with_reducible refine cell_al ?_ | with_reducible refine cell_set_ne ?_ (by dsimp only; omega))); with_reducible assumption)))
    ((first | (go_at_call 73; (try go_split_ands); (with_reducible refine (cM2.out _).mono ?_); rintro e' w5 ⟨rfl, hb5⟩; (first | (have kp5 := kp4.call hb5; have hL5 := hL4.call hb5) | (have kp5 := kpZ.call hb5; have hL5 := hLZ.call hb5; have kd5 := kdZ.call hb5; obtain ⟨d_0, d_1, d_2, _, _, _⟩ := kd5.c3; have ld5 := kd5.lt)); obtain ⟨p_0, p_1, p_2, _, _, _⟩ := kp5.c3; (have lp5 := kp5.lt)) | (go_at_call 75; (try go_split_ands); (with_reducible refine (cO.out _).mono ?_); rintro e' w6 ⟨rfl, hb6⟩; (first | (have kd6 := kd5.call hb6; have kp6 := kp5.call hb6; have hL6 := hL5.call hb6; obtain ⟨d_0, d_1, d_2, _, _, _⟩ := kd6.c3; have ld6 := kd6.lt) | (have kp6 := (kp5.alloc (.cells #[.bool false, .int .u64 0, .int .u64 0] 108)).call hb6; have hL6 := (hL5.alloc (.cells #[.bool false, .int .u64 0, .int .u64 0] 108)).call hb6; have kd6 := Blk.call (Blk.new _ 108 #[.bool false, .int .u64 0, .int .u64 0]) hb6; obtain ⟨d_0, d_1, d_2, _, _, _⟩ := kd6.c3; have ld6 := kd6.lt) | (have kp6 := kp5.call hb6; have hL6 := hL5.call hb6)); obtain ⟨q_0, q_1, q_2, _, _, _⟩ := kp6.c3; (have lp6 := kp6.lt)) | (go_at_call 57; (try go_split_ands); (with_reducible refine (cA.out _).mono ?_); rintro e' w7 ⟨rfl, hb7⟩; (first | (have kd7 := kd6.call hb7; have kp7 := kp6.call hb7; have hL7 := hL6.call hb7; obtain ⟨d_0, d_1, d_2, _, _, _⟩ := kd7.c3; have ld7 := kd7.lt) | (have kp7 := (kp6.alloc (.cells #[.bool false, .int .u64 0, .int .u64 0] 108)).call hb7; have hL7 := (hL6.alloc (.cells #[.bool false, .int .u64 0, .int .u64 0] 108)).call hb7; have kd7 := Blk.call (Blk.new _ 108 #[.bool false, .int .u64 0, .int .u64 0]) hb7; obtain ⟨d_0, d_1, d_2, _, _, _⟩ := kd7.c3; have ld7 := kd7.lt) | (have kp7 := kp6.call hb7; have hL7 := hL6.call hb7)); obtain ⟨s_0, s_1, s_2, _, _, _⟩ := kp7.c3; (have lp7 := kp7.lt))))
  all_goals clear kpZ hLZ kdZ hL4 kp4
  all_goals (have s2 := l2.size)
  all_goals (have s5 := hL5.out.size)
  all_goals (have s6 := hL6.out.size)
  all_goals rcases hout.out with ⟨h1, rfl, rfl⟩ | ⟨rfl, h1, rfl, rfl⟩ | ⟨rfl, rfl, rfl, rfl⟩ | ⟨rfl, h1, h2, rfl, rfl, rfl⟩ | ⟨rfl, h1, h2, h3, rfl, rfl⟩
  all_goals clear hout
  all_goals (try have hwn : IntKind.i64.wrap (n + 1) = n + 1 := by rw [IntKind.wrap_i64]; omega)
  all_goals (try have hcl : ¬ (c ≤ rl) := by omega)
  all_goals (try have hcz : ¬ (c ≤ 0) := by omega)
  all_goals (try have hnn : (n == 9223372036854775807) = false := by rw [beq_eq_false_iff_ne]; omega)
  all_goals go_wp2_with fail
  all_goals go_ret2
  all_goals refine ⟨rfl, ?_⟩
  all_goals (repeat (with_reducible refine bl_set ?_ (by dsimp only; omega) _))
  all_goals first | (with_reducible exact hL7.out) | (with_reducible exact bl_alloc hL7.out _)
end Go.Proofs.Ytcgkfgklggjmaaa.Par
end
section
namespace Go.Proofs.Ytcgkfgklggjmaaa.Par
set_option linter.unusedVariables false
set_option linter.unusedSimpArgs false
open Go.RowKit
theorem div_parts (hi lo U u1 u0 q1 u2 q0 : Int) (h0 : 0 ≤ hi) (h1 : hi < 100000) (l0 : 0 ≤ lo) (l1 : lo < 18446744073709551616) (hU : U = hi * 140737488355328 + lo / 131072) (hu1 : u1 = lo * 140737488355328 % 18446744073709551616 / 4294967296) (hu0 : u0 = lo * 140737488355328 % 18446744073709551616 % 4294967296)
    (hq1 : q1 = U / 3276800000) (hu2 : u2 = (U - q1 * 3276800000) * 4294967296 + u1) (hq0 : q0 = u2 / 3276800000) :
    0 ≤ U ∧ U < 14073748835532800000 ∧ 0 ≤ u1 ∧ u1 < 4294967296 ∧ 0 ≤ u0 ∧ u0 < 4294967296 ∧ 0 ≤ q1 ∧ q1 < 4294967296 ∧ 0 ≤ u2 ∧ u2 < 14073748835532800000 ∧ 0 ≤ q0 ∧ q0 < 4294967296 ∧
    q1 * 4294967296 + q0 = (hi * 18446744073709551616 + lo) / 100000 ∧ ((u2 - q0 * 3276800000) * 4294967296 + u0) / 140737488355328 = (hi * 18446744073709551616 + lo) % 100000 ∧ U - q1 * 3276800000 < 3276800000 ∧ 0 ≤ U - q1 * 3276800000 ∧ 0 ≤ u2 - q0 * 3276800000 ∧ u2 - q0 * 3276800000 < 3276800000 := by
  have e1 : lo * 140737488355328 % 18446744073709551616 = (lo % 131072) * 140737488355328 := by omega
  rw [e1] at hu1 hu0
  have e2 := Int.mul_ediv_add_emod lo 131072
  have e3 := Int.emod_nonneg lo (show (131072 : Int) ≠ 0 by decide)
  have e4 := Int.emod_lt_of_pos lo (show (0 : Int) < 131072 by decide)
  generalize lo / 131072 = lh at *
  generalize lo % 131072 = ll at *
  subst e2
  have e5 : ll * 140737488355328 / 4294967296 = ll * 32768 := by omega
  have e6 : ll * 140737488355328 % 4294967296 = 0 := by omega
  rw [e5] at hu1
  rw [e6] at hu0
  subst hu1 hu0
  have e7 := Int.mul_ediv_add_emod U 3276800000
  have e8 := Int.emod_nonneg U (show (3276800000 : Int) ≠ 0 by decide)
  have e9 := Int.emod_lt_of_pos U (show (0 : Int) < 3276800000 by decide)
  rw [← hq1] at e7
  generalize U % 3276800000 = r1 at *
  have f7 := Int.mul_ediv_add_emod u2 3276800000
  have f8 := Int.emod_nonneg u2 (show (3276800000 : Int) ≠ 0 by decide)
  have f9 := Int.emod_lt_of_pos u2 (show (0 : Int) < 3276800000 by decide)
  rw [← hq0] at f7
  generalize u2 % 3276800000 = r0 at *
  clear hq1 hq0
  have g1 : U - q1 * 3276800000 = r1 := by omega
  have g2 : u2 - q0 * 3276800000 = r0 := by omega
  rw [g1] at hu2
  -- 3276800000 is 100000 times 32768
  have hr : ∃ t, r0 = t * 32768 := ⟨(r1 * 131072 + ll) - q0 * 100000, by omega⟩
  obtain ⟨t, rfl⟩ := hr
  have hN : (hi * 18446744073709551616 + (131072 * lh + ll)) = 100000 * (q1 * 4294967296 + q0) + t := by omega
  have t0 : 0 ≤ t := by omega
  have t1 : t < 100000 := by omega
  rw [g1, g2, hN]
  have d1 : (100000 * (q1 * 4294967296 + q0) + t) / 100000 = q1 * 4294967296 + q0 := by omega
  have d2 : (100000 * (q1 * 4294967296 + q0) + t) % 100000 = t := by omega
  have d3 : (t * 32768 * 4294967296 + 0) / 140737488355328 = t := by omega
  rw [d1, d2, d3]
  refine ⟨?_, ?_, ?_, ?_, ?_, ?_, ?_, ?_, ?_, ?_, ?_, ?_, rfl, rfl, ?_, ?_, ?_, ?_⟩ <;> omega
theorem or_parts (hi lo : Int) (h0 : 0 ≤ hi) (h1 : hi < 100000) (l0 : 0 ≤ lo) (l1 : lo < 18446744073709551616) :
    bits .or .u64 (hi * 140737488355328) (lo / 131072) = hi * 140737488355328 + lo / 131072 := by
  obtain ⟨a, rfl⟩ := Int.eq_ofNat_of_zero_le h0
  obtain ⟨b, rfl⟩ := Int.eq_ofNat_of_zero_le l0
  have e1 : ((a : Int) * 140737488355328) = ((a * 140737488355328 : Nat) : Int) := by omega
  have e2 : ((b : Int) / 131072) = ((b / 131072 : Nat) : Int) := by omega
  rw [e1, e2, bits_or_u64_nat _ _ (by omega) (by omega)]
  have h := Nat.shiftLeft_add_eq_or_of_lt (b := b / 131072) (i := 47) (by omega) a
  rw [Nat.shiftLeft_eq] at h
  rw [show a * 140737488355328 = a * 2 ^ 47 by rfl, ← h]
  omega
theorem len_100000 : (64 - (Lib.bitLen (100000 : Int).toNat : Int)) = 47 := by decide
set_option maxHeartbeats 16000000 in
set_option maxRecDepth 100000 in
theorem div64_k (hi lo : Int) (w : World) (h0 : 0 < hi) (h1 : hi < 100000) (l0 : 0 ≤ lo) (l1 : lo < 18446744073709551616) :
    Calls Try.prog 64 #[.int .u64 hi, .int .u64 lo, .int .u64 100000] w fun e w' => e = .returned (.tuple #[.int .u64 ((hi * 18446744073709551616 + lo) / 100000), .int .u64 ((hi * 18446744073709551616 + lo) % 100000)]) ∧ w = w' := by
  obtain ⟨U, hU⟩ : ∃ U, U = hi * 140737488355328 + lo / 131072 := ⟨_, rfl⟩
  obtain ⟨u1, hu1⟩ : ∃ U, U = lo * 140737488355328 % 18446744073709551616 / 4294967296 := ⟨_, rfl⟩
  obtain ⟨u0, hu0⟩ : ∃ U, U = lo * 140737488355328 % 18446744073709551616 % 4294967296 := ⟨_, rfl⟩
  obtain ⟨q1, hq1⟩ : ∃ q, q = U / 3276800000 := ⟨_, rfl⟩
  obtain ⟨u2, hu2⟩ : ∃ q, q = (U - q1 * 3276800000) * 4294967296 + u1 := ⟨_, rfl⟩
  obtain ⟨q0, hq0⟩ : ∃ q, q = u2 / 3276800000 := ⟨_, rfl⟩
  obtain ⟨b1, b2, b3, b4, b5, b6, b7, b8, b9, b10, b11, b12, hq, hr, b13, b14, b15, b16⟩ := div_parts hi lo U u1 u0 q1 u2 q0 (by omega) h1 l0 l1 hU hu1 hu0 hq1 hu2 hq0
  rw [← hq, ← hr]
  have hor := or_parts hi lo (by omega) h1 l0 l1
  rw [← hU] at hor
  have hw0 : IntKind.u64.wrap (hi * 140737488355328) = hi * 140737488355328 := by rw [IntKind.wrap_u64]; omega
  obtain ⟨V, hV⟩ : ∃ V, IntKind.u64.wrap (lo * 140737488355328) = V := ⟨_, rfl⟩
  have hV' : V = lo * 140737488355328 % 18446744073709551616 := by rw [← hV, IntKind.wrap_u64]
  rw [← hV'] at hu1 hu0
  have V0 : 0 ≤ V ∧ V < 18446744073709551616 := by omega
  obtain ⟨v, rfl⟩ := Int.eq_ofNat_of_zero_le V0.1
  have hand0 : bits .and .u64 (v : Int) 4294967295 = u0 := by
    have h := bits_and_u64_nat v 4294967295 (by omega) (by omega)
    have e : v &&& 4294967295 = v % 4294967296 := Nat.and_two_pow_sub_one_eq_mod v 32
    rw [e] at h
    rw [hu0]
    exact h.trans (by omega)
  have hand1 : bits .and .u64 14073748835532800000 4294967295 = 0 := by decide
  have hu1' : (v : Int) / 4294967296 = u1 := hu1.symm
  have hq1' : U / 3276800000 = q1 := hq1.symm
  have hm1 : IntKind.u64.wrap (q1 * 3276800000) = q1 * 3276800000 := by rw [IntKind.wrap_u64]; omega
  obtain ⟨R1, hR1⟩ : ∃ R, U - q1 * 3276800000 = R := ⟨_, rfl⟩
  have hs1 : IntKind.u64.wrap (U - q1 * 3276800000) = R1 := by rw [IntKind.wrap_u64]; omega
  have hz1 : IntKind.u64.wrap (q1 * 0) = 0 := by rw [Int.mul_zero]; decide
  have hz1' : IntKind.u64.wrap 0 = 0 := by decide
  have ht1 : IntKind.u64.wrap (4294967296 * R1) = 4294967296 * R1 := by rw [IntKind.wrap_u64]; omega
  have ht1' : IntKind.u64.wrap (4294967296 * R1 + u1) = 4294967296 * R1 + u1 := by rw [IntKind.wrap_u64]; omega
  obtain ⟨A1, hA1⟩ : ∃ A, IntKind.u64.wrap (U * 4294967296) = A := ⟨_, rfl⟩
  obtain ⟨A2, hA2⟩ : ∃ A, IntKind.u64.wrap (A1 + u1) = A := ⟨_, rfl⟩
  obtain ⟨A3, hA3⟩ : ∃ A, IntKind.u64.wrap (q1 * 14073748835532800000) = A := ⟨_, rfl⟩
  have hA4 : IntKind.u64.wrap (A2 - A3) = u2 := by
    rw [← hA2, ← hA3, ← hA1]
    simp only [IntKind.wrap_u64]
    omega
  have hq0' : u2 / 3276800000 = q0 := hq0.symm
  have hm0 : IntKind.u64.wrap (q0 * 3276800000) = q0 * 3276800000 := by rw [IntKind.wrap_u64]; omega
  obtain ⟨R0, hR0⟩ : ∃ R, u2 - q0 * 3276800000 = R := ⟨_, rfl⟩
  have hs0 : IntKind.u64.wrap (u2 - q0 * 3276800000) = R0 := by rw [IntKind.wrap_u64]; omega
  have hz0 : IntKind.u64.wrap (q0 * 0) = 0 := by rw [Int.mul_zero]; decide
  have ht0 : IntKind.u64.wrap (4294967296 * R0) = 4294967296 * R0 := by rw [IntKind.wrap_u64]; omega
  have ht0' : IntKind.u64.wrap (4294967296 * R0 + u0) = 4294967296 * R0 + u0 := by rw [IntKind.wrap_u64]; omega
  obtain ⟨Q, hQ⟩ : ∃ A, q1 * 4294967296 + q0 = A := ⟨_, rfl⟩
  have hQ1 : IntKind.u64.wrap (q1 * 4294967296) = q1 * 4294967296 := by rw [IntKind.wrap_u64]; omega
  have hQ2 : IntKind.u64.wrap (q1 * 4294967296 + q0) = Q := by rw [IntKind.wrap_u64]; omega
  obtain ⟨C1, hC1⟩ : ∃ A, IntKind.u64.wrap (u2 * 4294967296) = A := ⟨_, rfl⟩
  obtain ⟨C2, hC2⟩ : ∃ A, IntKind.u64.wrap (C1 + u0) = A := ⟨_, rfl⟩
  obtain ⟨C3, hC3⟩ : ∃ A, IntKind.u64.wrap (q0 * 14073748835532800000) = A := ⟨_, rfl⟩
  obtain ⟨C4, hC4⟩ : ∃ A, R0 * 4294967296 + u0 = A := ⟨_, rfl⟩
  have hC4' : IntKind.u64.wrap (C2 - C3) = C4 := by
    rw [← hC2, ← hC3, ← hC1]
    simp only [IntKind.wrap_u64]
    omega
  obtain ⟨RR, hRR⟩ : ∃ A, C4 / 140737488355328 = A := ⟨_, rfl⟩
  rw [hR0, hC4, hRR, hQ]
  have r10 : 0 ≤ R1 ∧ R1 < 3276800000 := by omega
  have r00 : 0 ≤ R0 ∧ R0 < 3276800000 := by omega
  obtain ⟨r10, r11⟩ := r10
  obtain ⟨r00, r01⟩ := r00
  have n1 : ¬ (4294967296 * R1 + u1 < 0) := by omega
  have n0 : ¬ (4294967296 * R0 + u0 < 0) := by omega
  clear hq hr hU hu1 hu0 hq1 hu2 hq0 hV' hR1 hR0 hQ hC4 b13 b14 b15 b16
  have hLZ := fun W => Try.bits_LeadingZeros64 100000 W (by decide) (by decide)
  rw [len_100000] at hLZ
  go_enter Try.func64, Try.ntmps64
  go_wp2_with fail
  refine (hLZ _).mono ?_
  rintro e w1 ⟨rfl, rfl⟩
  go_wp2_with fail
  go_loop [15, 16] (fun x y => x = .int .u64 q1 ∧ y = .int .u64 R1) (fun _ _ => 0)
  case atStart => constructor <;> simp only [hq1', hm1, hs1]
  case round =>
    obtain ⟨rfl, rfl⟩ := hrel
    go_wp2_with fail
    go_loop [18, 16] (fun x y => x = .int .u64 q0 ∧ y = .int .u64 R0) (fun _ _ => 0)
    case atStart => constructor <;> simp only [hA1, hA2, hA3, hA4, hq0', hm0, hs0]
    case round =>
      obtain ⟨rfl, rfl⟩ := hrel
      go_wp2_with fail
      go_ret2
      exact ⟨by simp only [hQ1, hQ2, hC1, hC2, hC3, hC4', hRR]; rfl, rfl⟩
set_option maxHeartbeats 16000000 in
set_option maxRecDepth 100000 in
theorem div64_0 (lo y : Int) (w : World) (l0 : 0 ≤ lo) (l1 : lo < 18446744073709551616) (h0 : 0 < y) (h1 : y < 18446744073709551616) :
    Calls Try.prog 64 #[.int .u64 0, .int .u64 lo, .int .u64 y] w fun e w' => e = .returned (.tuple #[.int .u64 (lo / y), .int .u64 (lo % y)]) ∧ Below w.heap.size w w' := by
  have hne : (y == 0) = false := by rw [beq_eq_false_iff_ne]; omega
  have hny : y ≠ 0 := by omega
  go_enter Try.func64, Try.ntmps64
  go_wp2_with fail
  go_quiet (fail)
  go_wp2_with fail
  go_ret2
  exact ⟨rfl, bl_drewN (bl_refl w) _⟩
end Go.Proofs.Ytcgkfgklggjmaaa.Par
end
section
namespace Go.Proofs.Ytcgkfgklggjmaaa.Par
set_option linter.unusedVariables false
set_option linter.unusedSimpArgs false
open Go.RowKit
theorem cdiv_eq {P c : Int} (hc : 0 < c) : cdiv P c = if P % c = 0 then P / c else P / c + 1 := by
  have h1 := Int.mul_ediv_add_emod P c
  have h2 := Int.emod_nonneg P (show c ≠ 0 by omega)
  have h3 := Int.emod_lt_of_pos P hc
  unfold cdiv
  split
  · exact ((Int.ediv_emod_unique hc).2 ⟨by omega, by omega, by omega⟩ : _ ∧ (P + c - 1) % c = c - 1).1
  · refine ((Int.ediv_emod_unique hc).2 ⟨?_, by omega, by omega⟩ : _ ∧ (P + c - 1) % c = P % c - 1).1
    rw [Int.mul_add]
    omega
theorem upB_eq {P c : Int} (hc : 0 < c) : upB P c = if P % c = 0 then (if P / c < 9223372036854775808 then (P / c, true) else (0, false)) else (if P / c + 1 < 9223372036854775808 then (P / c + 1, true) else (0, false)) := by
  unfold upB
  rw [cdiv_eq hc]
  split <;> rfl
set_option maxHeartbeats 16000000 in
set_option maxRecDepth 100000 in
theorem rgood_any (m : Int) (w : World) (h0 : 0 ≤ m) (h3 : m ≤ 3) : Calls Try.prog 61 #[.int .i64 m] w fun e w' => e = .returned (.bool true) ∧ w = w' := by
  go_enter Try.func61, Try.ntmps61
  go_wp2_with fail
  go_ret
  exact ⟨rfl, rfl⟩
set_option maxHeartbeats 16000000 in
set_option maxRecDepth 100000 in
theorem rabs_any (a : Int) (w : World) (h0 : 0 ≤ a) (h1 : a < 9223372036854775808) : Calls Try.prog 63 #[.int .i64 a] w fun e w' => e = .returned (.int .u64 a) ∧ w = w' := by
  have hu : IntKind.u64.wrap a = a := by rw [IntKind.wrap_u64]; omega
  go_enter Try.func63, Try.ntmps63
  go_wp2_with fail
  go_ret
  exact ⟨rfl, rfl⟩
set_option maxHeartbeats 16000000 in
set_option maxRecDepth 100000 in
theorem rsigned_yes (n : Int) (w : World) (h0 : 0 ≤ n) (h1 : n < 9223372036854775808) : Calls Try.prog 66 #[.bool false, .int .u64 n] w fun e w' => e = .returned (.tuple #[.int .i64 n, .bool true]) ∧ w = w' := by
  have hu : IntKind.i64.wrap n = n := by rw [IntKind.wrap_i64]; omega
  go_enter Try.func66, Try.ntmps66
  go_wp2_with fail
  go_ret2
  exact ⟨rfl, rfl⟩
set_option maxHeartbeats 16000000 in
set_option maxRecDepth 100000 in
theorem rsigned_no (n : Int) (w : World) (h1 : 9223372036854775808 ≤ n) : Calls Try.prog 66 #[.bool false, .int .u64 n] w fun e w' => e = .returned (.tuple #[.int .i64 0, .bool false]) ∧ w = w' := by
  go_enter Try.func66, Try.ntmps66
  go_wp2_with fail
  go_ret2
  exact ⟨rfl, rfl⟩
set_option maxHeartbeats 16000000 in
set_option maxRecDepth 100000 in
theorem raway_zero (m : Int) (q d : Int) (w : World) : Calls Try.prog 65 #[.int .i64 m, .bool false, .int .u64 q, .int .u64 0, .int .u64 d] w fun e w' => e = .returned (.bool false) ∧ w = w' := by
  go_enter Try.func65, Try.ntmps65
  go_wp2_with fail
  go_ret
  exact ⟨rfl, rfl⟩
set_option maxHeartbeats 16000000 in
set_option maxRecDepth 100000 in
theorem raway_ceil (q r d : Int) (w : World) (h : r ≠ 0) : Calls Try.prog 65 #[.int .i64 1, .bool false, .int .u64 q, .int .u64 r, .int .u64 d] w fun e w' => e = .returned (.bool true) ∧ w = w' := by
  have hr : (r == 0) = false := by rw [beq_eq_false_iff_ne]; exact h
  go_enter Try.func65, Try.ntmps65
  go_wp2_with fail
  go_ret
  exact ⟨rfl, rfl⟩
/-- a quotient by what there is -/
theorem div64_any (hi lo y : Int) (w : World) (l0 : 0 ≤ lo) (l1 : lo < 18446744073709551616) (h0 : 0 ≤ hi) (h1 : hi < y) (hy : y < 18446744073709551616) (h : hi = 0 ∨ y = 100000) :
    Calls Try.prog 64 #[.int .u64 hi, .int .u64 lo, .int .u64 y] w fun e w' => e = .returned (.tuple #[.int .u64 ((hi * 18446744073709551616 + lo) / y), .int .u64 ((hi * 18446744073709551616 + lo) % y)]) ∧ Below w.heap.size w w' := by
  by_cases hz : hi = 0
  · subst hz
    rw [Int.zero_mul, Int.zero_add]
    exact div64_0 lo y w l0 l1 (by omega) hy
  · obtain rfl : y = 100000 := by omega
    exact (div64_k hi lo w (by omega) h1 l0 l1).mono fun e w' ⟨he, hw⟩ => ⟨he, hw ▸ bl_refl w⟩
theorem mul64_any (a b : Int) (a0 : 0 ≤ a) (a1 : a < 9223372036854775808) (b0 : 0 ≤ b) (b1 : b < 9223372036854775808) :
    ∃ hi lo : Int, hi * 18446744073709551616 + lo = a * b ∧ 0 ≤ a * b ∧ (0 ≤ hi ∧ hi < 9223372036854775808 ∧ 0 ≤ lo ∧ lo < 18446744073709551616) ∧ ∀ W, Calls Try.prog 62 #[.int .u64 a, .int .u64 b] W fun e w' => e = .returned (.tuple #[.int .u64 hi, .int .u64 lo]) ∧ w' = W := by
  obtain ⟨x, rfl⟩ := Int.eq_ofNat_of_zero_le a0
  obtain ⟨y, rfl⟩ := Int.eq_ofNat_of_zero_le b0
  have hM := fun W => Try.bits_Mul64 x y (by omega) (by omega) W
  have hP : ((x : Int) * (y : Int)) = ((x * y : Nat) : Int) := (Int.natCast_mul x y).symm
  rw [hP]
  have hbd : x * y < 9223372036854775808 * 18446744073709551616 := by
    have h1 : x * y ≤ 9223372036854775808 * y := Nat.mul_le_mul_right _ (by omega)
    have h2 : 9223372036854775808 * y < 9223372036854775808 * 18446744073709551616 := Nat.mul_lt_mul_of_pos_left (by omega) (by omega)
    omega
  generalize x * y = P at *
  exact ⟨_, _, by omega, by omega, by omega, hM⟩
set_option maxHeartbeats 16000000 in
set_option maxRecDepth 100000 in
theorem rmuldiv_any (a b c : Int) (w : World) (a0 : 0 ≤ a) (a1 : a < 9223372036854775808) (b0 : 0 ≤ b) (b1 : b < 9223372036854775808) (c0 : 0 < c) (c1 : c < 9223372036854775808) (h : a * b < 18446744073709551616 ∨ c = 100000) :
    Calls Try.prog 47 #[.int .i64 a, .int .i64 b, .int .i64 c, .int .i64 1] w fun e w' => e = .returned (.tuple #[.int .i64 (upB (a * b) c).1, .bool (upB (a * b) c).2]) ∧ Below w.heap.size w w' := by
  have hA := fun W => rabs_any a W a0 a1
  have hB := fun W => rabs_any b W b0 b1
  obtain ⟨hi, lo, e0, hP0, e1, hM⟩ := mul64_any a b a0 a1 b0 b1
  have hna : decide (a < 0) = false := decide_eq_false (by omega)
  have hnb : decide (b < 0) = false := decide_eq_false (by omega)
  generalize a * b = P at *
  have e2 : hi = 0 ∨ c = 100000 := by omega
  clear h
  obtain ⟨e11, e12, e13, e14⟩ := e1
  have hdiv := fun W (hc : hi < c) => div64_any hi lo c W e13 e14 e11 hc (by omega) e2
  rw [e0] at hdiv
  rw [upB_eq c0]
  have hq1 := Int.mul_ediv_add_emod P c
  have hq2 := Int.emod_nonneg P (show c ≠ 0 by omega)
  have hq3 := Int.emod_lt_of_pos P c0
  have hq4 : hi < c → 0 ≤ P / c ∧ P / c < 18446744073709551616 := fun hc => ⟨Int.ediv_nonneg (by omega) (by omega), Int.ediv_lt_of_lt_mul c0 (by
    have : (hi + 1) * 18446744073709551616 ≤ c * 18446744073709551616 := Int.mul_le_mul_of_nonneg_right (by omega) (by decide)
    omega)⟩
  have hq5 : c ≤ hi → 18446744073709551616 ≤ P / c := fun hc => Int.le_ediv_of_mul_le c0 (by
    have : c * 18446744073709551616 ≤ hi * 18446744073709551616 := Int.mul_le_mul_of_nonneg_right hc (by decide)
    rw [Int.mul_comm]
    omega)
  generalize P / c = q at *
  generalize P % c = r at *
  have hwc : IntKind.u64.wrap c = c := by rw [IntKind.wrap_u64]; omega
  clear e0 hq1 e2
  have hG := fun W => rgood_any 1 W (by decide) (by decide)
  have hS1 := fun n W (h0 : 0 ≤ n) (h1 : n < 9223372036854775808) => rsigned_yes n W h0 h1
  have hS2 := fun n W (h1 : 9223372036854775808 ≤ n) => rsigned_no n W h1
  replace hG := Lib.hid hG
  replace hA := Lib.hid hA
  replace hB := Lib.hid hB
  replace hM := Lib.hid hM
  by_cases hc : c ≤ hi
  · have hbig := hq5 hc
    have er : (if r = 0 then (if q < 9223372036854775808 then (q, true) else ((0 : Int), false)) else (if q + 1 < 9223372036854775808 then (q + 1, true) else (0, false))) = (0, false) := by
      split
      · rw [if_neg (by omega)]
      · rw [if_neg (by omega)]
    rw [er]
    clear hdiv hq4 hq5 er hbig hS1 hS2
    go_enter Try.func47, Try.ntmps47
    go_wp2_with fail
    refine (hG.out _).mono ?_
    rintro e w1 ⟨rfl, rfl⟩
    go_wp2_with fail
    refine (hA.out _).mono ?_
    rintro e w1 ⟨rfl, rfl⟩
    go_wp2_with fail
    refine (hB.out _).mono ?_
    rintro e w1 ⟨rfl, rfl⟩
    go_wp2_with fail
    refine (hM.out _).mono ?_
    rintro e w1 ⟨rfl, rfl⟩
    go_wp2_with fail
    go_ret2
    exact ⟨rfl, bl_refl _⟩
  · have hlt : hi < c := by omega
    obtain ⟨q0, q1⟩ := hq4 hlt
    have hD := Lib.hid (fun W => hdiv W hlt)
    clear hdiv hq4 hq5
    replace hS1 := Lib.hid hS1
    replace hS2 := Lib.hid hS2
    by_cases hr : r = 0
    · subst hr
      rw [if_pos rfl]
      have hZ := Lib.hid (fun W => raway_zero 1 q c W)
      by_cases hs : q < 9223372036854775808
      · rw [if_pos hs]
        have hS := Lib.hid (fun W => hS1.out q W q0 hs)
        clear hS1 hS2
        go_enter Try.func47, Try.ntmps47
        go_wp2_with fail
        refine (hG.out _).mono ?_
        rintro e w1 ⟨rfl, rfl⟩
        go_wp2_with fail
        refine (hA.out _).mono ?_
        rintro e w1 ⟨rfl, rfl⟩
        go_wp2_with fail
        refine (hB.out _).mono ?_
        rintro e w1 ⟨rfl, rfl⟩
        go_wp2_with fail
        refine (hM.out _).mono ?_
        rintro e w1 ⟨rfl, rfl⟩
        go_wp2_with fail
        refine (hD.out _).mono ?_
        rintro e w2 ⟨rfl, hb2⟩
        go_wp2_with fail
        refine (hZ.out _).mono ?_
        rintro e w1 ⟨rfl, rfl⟩
        go_wp2_with fail
        refine (hS.out _).mono ?_
        rintro e w1 ⟨rfl, rfl⟩
        go_wp2_with fail
        go_ret2
        exact ⟨rfl, hb2⟩
      · rw [if_neg hs]
        have hS := Lib.hid (fun W => hS2.out q W (by omega))
        clear hS1 hS2
        go_enter Try.func47, Try.ntmps47
        go_wp2_with fail
        refine (hG.out _).mono ?_
        rintro e w1 ⟨rfl, rfl⟩
        go_wp2_with fail
        refine (hA.out _).mono ?_
        rintro e w1 ⟨rfl, rfl⟩
        go_wp2_with fail
        refine (hB.out _).mono ?_
        rintro e w1 ⟨rfl, rfl⟩
        go_wp2_with fail
        refine (hM.out _).mono ?_
        rintro e w1 ⟨rfl, rfl⟩
        go_wp2_with fail
        refine (hD.out _).mono ?_
        rintro e w2 ⟨rfl, hb2⟩
        go_wp2_with fail
        refine (hZ.out _).mono ?_
        rintro e w1 ⟨rfl, rfl⟩
        go_wp2_with fail
        refine (hS.out _).mono ?_
        rintro e w1 ⟨rfl, rfl⟩
        go_wp2_with fail
        go_ret2
        exact ⟨rfl, hb2⟩
    · rw [if_neg hr]
      have hZ := Lib.hid (fun W => raway_ceil q r c W hr)
      by_cases hw : q + 1 = 18446744073709551616
      · rw [if_neg (by omega)]
        have hww : IntKind.u64.wrap (q + 1) = 0 := by rw [IntKind.wrap_u64]; omega
        clear hw
        clear hS1 hS2
        go_enter Try.func47, Try.ntmps47
        go_wp2_with fail
        refine (hG.out _).mono ?_
        rintro e w1 ⟨rfl, rfl⟩
        go_wp2_with fail
        refine (hA.out _).mono ?_
        rintro e w1 ⟨rfl, rfl⟩
        go_wp2_with fail
        refine (hB.out _).mono ?_
        rintro e w1 ⟨rfl, rfl⟩
        go_wp2_with fail
        refine (hM.out _).mono ?_
        rintro e w1 ⟨rfl, rfl⟩
        go_wp2_with fail
        refine (hD.out _).mono ?_
        rintro e w2 ⟨rfl, hb2⟩
        go_wp2_with fail
        refine (hZ.out _).mono ?_
        rintro e w1 ⟨rfl, rfl⟩
        go_wp2_with fail
        go_ret2
        exact ⟨rfl, hb2⟩
      · have hww : IntKind.u64.wrap (q + 1) = q + 1 := by rw [IntKind.wrap_u64]; omega
        have hne : (q + 1 == 0) = false := by rw [beq_eq_false_iff_ne]; omega
        by_cases hs : q + 1 < 9223372036854775808
        · rw [if_pos hs]
          have hS := Lib.hid (fun W => hS1.out (q + 1) W (by omega) hs)
          clear hS1 hS2
          go_enter Try.func47, Try.ntmps47
          go_wp2_with fail
          refine (hG.out _).mono ?_
          rintro e w1 ⟨rfl, rfl⟩
          go_wp2_with fail
          refine (hA.out _).mono ?_
          rintro e w1 ⟨rfl, rfl⟩
          go_wp2_with fail
          refine (hB.out _).mono ?_
          rintro e w1 ⟨rfl, rfl⟩
          go_wp2_with fail
          refine (hM.out _).mono ?_
          rintro e w1 ⟨rfl, rfl⟩
          go_wp2_with fail
          refine (hD.out _).mono ?_
          rintro e w2 ⟨rfl, hb2⟩
          go_wp2_with fail
          refine (hZ.out _).mono ?_
          rintro e w1 ⟨rfl, rfl⟩
          go_wp2_with fail
          refine (hS.out _).mono ?_
          rintro e w1 ⟨rfl, rfl⟩
          go_wp2_with fail
          go_ret2
          exact ⟨rfl, hb2⟩
        · rw [if_neg hs]
          have hS := Lib.hid (fun W => hS2.out (q + 1) W (by omega))
          clear hS1 hS2
          go_enter Try.func47, Try.ntmps47
          go_wp2_with fail
          refine (hG.out _).mono ?_
          rintro e w1 ⟨rfl, rfl⟩
          go_wp2_with fail
          refine (hA.out _).mono ?_
          rintro e w1 ⟨rfl, rfl⟩
          go_wp2_with fail
          refine (hB.out _).mono ?_
          rintro e w1 ⟨rfl, rfl⟩
          go_wp2_with fail
          refine (hM.out _).mono ?_
          rintro e w1 ⟨rfl, rfl⟩
          go_wp2_with fail
          refine (hD.out _).mono ?_
          rintro e w2 ⟨rfl, hb2⟩
          go_wp2_with fail
          refine (hZ.out _).mono ?_
          rintro e w1 ⟨rfl, rfl⟩
          go_wp2_with fail
          refine (hS.out _).mono ?_
          rintro e w1 ⟨rfl, rfl⟩
          go_wp2_with fail
          go_ret2
          exact ⟨rfl, hb2⟩
end Go.Proofs.Ytcgkfgklggjmaaa.Par
end
section
namespace Go.Proofs.Ytcgkfgklggjmaaa.Par
set_option linter.unusedVariables false
set_option linter.unusedSimpArgs false
open Go.RowKit
set_option maxHeartbeats 16000000 in
set_option maxRecDepth 100000 in
theorem eadd_yes (a b : Int) (w : World) (a0 : 0 ≤ a) (b0 : 0 ≤ b) (h : a + b < 9223372036854775808) : Calls Try.prog 27 #[.int .i64 a, .int .i64 b] w fun e w' => e = .returned (.tuple #[.int .i64 (a + b), .bool true]) ∧ w = w' := by
  have hu : IntKind.i64.wrap (a + b) = a + b := by rw [IntKind.wrap_i64]; omega
  have hu2 : IntKind.i64.wrap (9223372036854775807 - b) = 9223372036854775807 - b := by rw [IntKind.wrap_i64]; omega
  have hn : ¬ (b < 0) := by omega
  by_cases hb : 0 < b
  · have hn2 : ¬ (9223372036854775807 - b < a) := by omega
    go_enter Try.func27, Try.ntmps27
    go_wp2_with fail
    go_ret2
    exact ⟨rfl, rfl⟩
  · go_enter Try.func27, Try.ntmps27
    go_wp2_with fail
    go_ret2
    exact ⟨rfl, rfl⟩
set_option maxHeartbeats 16000000 in
set_option maxRecDepth 100000 in
theorem eadd_no (a b : Int) (w : World) (a0 : 0 ≤ a) (a1 : a < 9223372036854775808) (b0 : 0 ≤ b) (b1 : b < 9223372036854775808) (h : ¬ a + b < 9223372036854775808) : Calls Try.prog 27 #[.int .i64 a, .int .i64 b] w fun e w' => e = .returned (.tuple #[.int .i64 0, .bool false]) ∧ w = w' := by
  have hu2 : IntKind.i64.wrap (9223372036854775807 - b) = 9223372036854775807 - b := by rw [IntKind.wrap_i64]; omega
  have hb : 0 < b := by omega
  have hn2 : 9223372036854775807 - b < a := by omega
  go_enter Try.func27, Try.ntmps27
  go_wp2_with fail
  go_ret2
  exact ⟨rfl, rfl⟩
set_option maxHeartbeats 16000000 in
set_option maxRecDepth 100000 in
theorem rdiv_any (a c : Int) (w : World) (a0 : 0 ≤ a) (a1 : a < 9223372036854775808) (c0 : 0 < c) (c1 : c < 9223372036854775808) :
    Calls Try.prog 60 #[.int .i64 a, .int .i64 c, .int .i64 1] w fun e w' => e = .returned (.tuple #[.int .i64 (upB a c).1, .bool (upB a c).2]) ∧ Below w.heap.size w w' := by
  have hM := fun W => rmuldiv_any a 1 c W a0 a1 (by decide) (by decide) c0 c1 (.inl (by omega))
  rw [Int.mul_one] at hM
  generalize (upB a c).1 = x at *
  generalize (upB a c).2 = y at *
  go_enter Try.func60, Try.ntmps60
  go_wp2_with fail
  refine (hM _).mono ?_
  rintro e w1 ⟨rfl, hb1⟩
  go_wp2_with fail
  go_ret2
  exact ⟨rfl, hb1⟩
set_option maxHeartbeats 16000000 in
set_option maxRecDepth 100000 in
theorem rmul_any (a b : Int) (w : World) (a0 : 0 ≤ a) (a1 : a < 9223372036854775808) (b0 : 0 ≤ b) (b1 : b < 9223372036854775808) (h : a * b < 9223372036854775808) :
    Calls Try.prog 47 #[.int .i64 a, .int .i64 b, .int .i64 1, .int .i64 0] w fun e w' => e = .returned (.tuple #[.int .i64 (a * b), .bool true]) ∧ Below w.heap.size w w' := by
  have hA := Lib.hid (fun W => rabs_any a W a0 a1)
  have hB := Lib.hid (fun W => rabs_any b W b0 b1)
  obtain ⟨hi, lo, e0, hP0, e1, hM⟩ := mul64_any a b a0 a1 b0 b1
  have hna : decide (a < 0) = false := decide_eq_false (by omega)
  have hnb : decide (b < 0) = false := decide_eq_false (by omega)
  generalize a * b = P at *
  obtain rfl : hi = 0 := by omega
  obtain rfl : lo = P := by omega
  have hD := Lib.hid (fun W => div64_0 lo 1 W (by omega) (by omega) (by decide) (by decide))
  rw [Int.ediv_one, Int.emod_one] at hD
  have hG := Lib.hid (fun W => rgood_any 0 W (by decide) (by decide))
  have hZ := Lib.hid (fun W => raway_zero 0 lo 1 W)
  have hS := Lib.hid (fun W => rsigned_yes lo W (by omega) h)
  replace hM := Lib.hid hM
  clear e0 e1
  go_enter Try.func47, Try.ntmps47
  go_wp2_with fail
  refine (hG.out _).mono ?_
  rintro e w1 ⟨rfl, rfl⟩
  go_wp2_with fail
  refine (hA.out _).mono ?_
  rintro e w1 ⟨rfl, rfl⟩
  go_wp2_with fail
  refine (hB.out _).mono ?_
  rintro e w1 ⟨rfl, rfl⟩
  go_wp2_with fail
  refine (hM.out _).mono ?_
  rintro e w1 ⟨rfl, rfl⟩
  go_wp2_with fail
  refine (hD.out _).mono ?_
  rintro e w2 ⟨rfl, hb2⟩
  go_wp2_with fail
  refine (hZ.out _).mono ?_
  rintro e w1 ⟨rfl, rfl⟩
  go_wp2_with fail
  refine (hS.out _).mono ?_
  rintro e w1 ⟨rfl, rfl⟩
  go_wp2_with fail
  go_ret2
  exact ⟨rfl, hb2⟩
set_option maxHeartbeats 16000000 in
set_option maxRecDepth 100000 in
theorem rup_any (a c : Int) (w : World) (a0 : 0 ≤ a) (a1 : a < 4611686018427387904) (c0 : 0 < c) (c1 : c ≤ 4611686018427387904) :
    Calls Try.prog 46 #[.int .i64 a, .int .i64 c] w fun e w' => e = .returned (.tuple #[.int .i64 (cdiv a c * c), .bool true]) ∧ Below w.heap.size w w' := by
  obtain ⟨h1, h2, h3⟩ := cdiv_le (a := a) c0 a0
  have hq : cdiv a c ≤ cdiv a c * c := by
    have := Int.mul_le_mul_of_nonneg_left (show (1 : Int) ≤ c by omega) h1
    omega
  have hu : upB a c = (cdiv a c, true) := by unfold upB; rw [if_pos (by omega)]
  have hD := Lib.hid (fun W => rdiv_any a c W a0 (by omega) c0 (by omega))
  rw [hu] at hD
  have hM := Lib.hid (fun W => rmul_any (cdiv a c) c W h1 (by omega) (by omega) (by omega) (by omega))
  generalize cdiv a c * c = R at *
  generalize cdiv a c = q at *
  clear hu
  go_enter Try.func46, Try.ntmps46
  go_wp2_with fail
  refine (hD.out _).mono ?_
  rintro e w1 ⟨rfl, hb1⟩
  go_wp2_with fail
  refine (hM.out _).mono ?_
  rintro e w2 ⟨rfl, hb2⟩
  go_wp2_with fail
  go_ret2
  exact ⟨rfl, bl_call hb1 hb2⟩
end Go.Proofs.Ytcgkfgklggjmaaa.Par
end
section
namespace Go.Proofs.Ytcgkfgklggjmaaa.Par
set_option linter.unusedVariables false
set_option linter.unusedSimpArgs false
/-! check and what is left out; check and places: plain -/
theorem metI_map (n : ByteArray) : ∀ l : List Met, metI n (l.map sM) = metI n l
  | [] => rfl
  | m :: l => by
    rw [List.map_cons]
    unfold metI
    rw [metI_map n l]
    rfl
theorem first_zero {α : Type} {e : Nat → α → Int} {pl : α → Int × Int} : ∀ {l : List α} {i : Nat}, (firstE e pl i l).1 = 0 ↔ ∀ (j : Nat) (x : α), l[j]? = some x → e (i + j) x = 0
  | [], i => by simp [firstE]
  | x :: l, i => by
    unfold firstE
    by_cases h : e i x = 0
    · rw [if_neg (by simpa using h), first_zero]
      constructor
      · intro hh j y hy
        cases j with
        | zero => simp at hy; subst hy; exact h
        | succ j => have := hh j y (by simpa using hy); rwa [show i + (j + 1) = i + 1 + j by omega]
      · intro hh j y hy
        have := hh (j + 1) y (by simpa using hy)
        rwa [show i + 1 + j = i + (j + 1) by omega]
    · rw [if_pos h]
      exact ⟨fun hh => absurd hh h, fun hh => absurd (hh 0 x rfl) h⟩
theorem first_map {α : Type} {e e' : Nat → α → Int} {pl pl' : α → Int × Int} (f : α → α) (h : ∀ i x, e' i (f x) = e i x) : ∀ (l : List α) (i : Nat), (firstE e' pl' i (l.map f)).1 = (firstE e pl i l).1
  | [], i => rfl
  | x :: l, i => by
    rw [List.map_cons]
    unfold firstE
    rw [h i x]
    split
    · rfl
    · exact first_map f h l (i + 1)
theorem winB_strip (p : Plan) (w : Win) : winB (strip p) w = winB p w := rfl
theorem metE_strip (p : Plan) (i : Nat) (m : Met) : metE (strip p) i (sM m) = metE p i m := by
  unfold metE
  rw [show (strip p).mets = p.mets.map sM from rfl, metI_map]
  rfl
theorem feeE_strip (p : Plan) (i : Nat) (m : Fee) : feeE (strip p) i (sF m) = feeE p i m := rfl
theorem chgE_strip (p : Plan) (i : Nat) (m : Chg) : chgE (strip p) i (sC m) = chgE p i m := by
  unfold chgE
  rw [show (strip p).mets = p.mets.map sM from rfl, metI_map]
  rfl
theorem chgMost_strip (p : Plan) (c : Chg) : chgMost (strip p) (sC c) = chgMost p c := by
  unfold chgMost
  rw [show (strip p).mets = p.mets.map sM from rfl, metI_map, show (sC c).meter = c.meter from rfl, List.getElem?_map]
  cases p.mets[(metI c.meter p.mets).toNat]? <;> rfl
theorem bound_strip (p : Plan) : boundO (strip p) = boundO p := by
  unfold boundO sumList
  rw [show (strip p).fees = p.fees.map sF from rfl, show (strip p).chgs = p.chgs.map sC from rfl, List.map_map, List.filterMap_map]
  have h : (chgMost (strip p) ∘ sC) = chgMost p := funext fun c => chgMost_strip p c
  rw [h]
  rfl
def chkE (p : Plan) : Int := (chkL p).1
theorem chkE_eq (p : Plan) : chkE p = if numT p.to_ < numT p.from_ then 5 else if 4000 ≤ numT p.to_ - numT p.from_ then 6
    else if (firstE (metE p) (fun m => (m.line, m.col)) 0 p.mets).1 ≠ 0 then (firstE (metE p) (fun m => (m.line, m.col)) 0 p.mets).1
    else if (firstE (feeE p) (fun m => (m.line, m.col)) 0 p.fees).1 ≠ 0 then (firstE (feeE p) (fun m => (m.line, m.col)) 0 p.fees).1
    else if (firstE (chgE p) (fun m => (m.line, m.col)) 0 p.chgs).1 ≠ 0 then (firstE (chgE p) (fun m => (m.line, m.col)) 0 p.chgs).1
    else if boundO p = none then 6 else 0 := by
  unfold chkE chkL
  repeat' split
  all_goals rfl
/-- what is wrong hangs on no place -/
theorem chk_strip (p : Plan) : chkE (strip p) = chkE p := by
  rw [chkE_eq, chkE_eq]
  rw [show (strip p).mets = p.mets.map sM from rfl, show (strip p).fees = p.fees.map sF from rfl, show (strip p).chgs = p.chgs.map sC from rfl, bound_strip,
    first_map (e := metE p) (e' := metE (strip p)) (pl := fun m => (m.line, m.col)) sM (metE_strip p), first_map (e := feeE p) (e' := feeE (strip p)) (pl := fun m => (m.line, m.col)) sF (feeE_strip p), first_map (e := chgE p) (e' := chgE (strip p)) (pl := fun m => (m.line, m.col)) sC (chgE_strip p)]
  rfl
theorem chk_same {p q : Plan} (h : strip p = strip q) : chkE p = chkE q ∧ boundO p = boundO q := by
  rw [← chk_strip p, ← bound_strip p, h, chk_strip, bound_strip]
  exact ⟨rfl, rfl⟩
/-- nothing is wrong -/
structure Fine (p : Plan) : Prop where
  days : numT p.from_ ≤ numT p.to_ ∧ numT p.to_ - numT p.from_ < 4000
  mets : ∀ (j : Nat) (x : Met), p.mets[j]? = some x → metE p j x = 0
  fees : ∀ (j : Nat) (x : Fee), p.fees[j]? = some x → feeE p j x = 0
  chgs : ∀ (j : Nat) (x : Chg), p.chgs[j]? = some x → chgE p j x = 0
  bound : boundO p ≠ none
theorem fine_iff (p : Plan) : chkE p = 0 ↔ Fine p := by
  rw [chkE_eq]
  constructor
  · intro h
    split at h
    · cases h
    split at h
    · cases h
    split at h
    · rename_i h1; exact absurd h h1
    split at h
    · rename_i h1; exact absurd h h1
    split at h
    · rename_i h1; exact absurd h h1
    split at h
    · cases h
    rename_i h1 h2 h3 h4 h5 h6
    refine ⟨by omega, ?_, ?_, ?_, h6⟩
    · intro j x hx; simpa using first_zero.1 (by omega : (firstE (metE p) (fun m => (m.line, m.col)) 0 p.mets).1 = 0) j x hx
    · intro j x hx; simpa using first_zero.1 (by omega : (firstE (feeE p) (fun m => (m.line, m.col)) 0 p.fees).1 = 0) j x hx
    · intro j x hx; simpa using first_zero.1 (by omega : (firstE (chgE p) (fun m => (m.line, m.col)) 0 p.chgs).1 = 0) j x hx
  · intro h
    obtain ⟨⟨h1, h2⟩, h3, h4, h5, h6⟩ := h
    have k3 : (firstE (metE p) (fun m => (m.line, m.col)) 0 p.mets).1 = 0 := first_zero.2 fun j x hx => by rw [Nat.zero_add]; exact h3 j x hx
    have k4 : (firstE (feeE p) (fun m => (m.line, m.col)) 0 p.fees).1 = 0 := first_zero.2 fun j x hx => by rw [Nat.zero_add]; exact h4 j x hx
    have k5 : (firstE (chgE p) (fun m => (m.line, m.col)) 0 p.chgs).1 = 0 := first_zero.2 fun j x hx => by rw [Nat.zero_add]; exact h5 j x hx
    rw [if_neg (by omega), if_neg (by omega), if_neg (by omega), if_neg (by omega), if_neg (by omega), if_neg h6]
theorem chk_zero {p : Plan} (h : (chkL p).1 = 0) : chkL p = (0, 0, 0) := by
  have hf := (fine_iff p).1 h
  obtain ⟨⟨h1, h2⟩, h3, h4, h5, h6⟩ := hf
  have k3 : (firstE (metE p) (fun m => (m.line, m.col)) 0 p.mets).1 = 0 := first_zero.2 fun j x hx => by rw [Nat.zero_add]; exact h3 j x hx
  have k4 : (firstE (feeE p) (fun m => (m.line, m.col)) 0 p.fees).1 = 0 := first_zero.2 fun j x hx => by rw [Nat.zero_add]; exact h4 j x hx
  have k5 : (firstE (chgE p) (fun m => (m.line, m.col)) 0 p.chgs).1 = 0 := first_zero.2 fun j x hx => by rw [Nat.zero_add]; exact h5 j x hx
  unfold chkL
  rw [if_neg (by omega), if_neg (by omega), if_neg (by omega), if_neg (by omega), if_neg (by omega), if_neg h6]
/-! numbers that are not below 0 -/
theorem upB_ge {P c : Int} (hc : 0 < c) (hP : 0 ≤ P) : 0 ≤ (upB P c).1 := by
  unfold upB
  split
  · exact (cdiv_le hc hP).1
  · decide
theorem step_ge {a : Adj} {n : Int} (h : AOk a) (hn : 0 ≤ n) : 0 ≤ (adjStep a n).1 := by
  have han : 0 ≤ a.n := by rcases h with ⟨_, h, _⟩ | ⟨_, h, _⟩ <;> omega
  unfold adjStep
  split
  · exact upB_ge (by decide) (Int.mul_nonneg hn han)
  split
  · dsimp only; omega
  split
  · dsimp only; omega
  split
  · split
    · dsimp only; omega
    · decide
  · exact hn
theorem adjO_ge : ∀ {l : List Adj} {n m : Int}, (∀ a ∈ l, AOk a) → 0 ≤ n → adjO l n = some m → 0 ≤ m
  | [], n, m, _, hn, h => by simp [adjO] at h; omega
  | a :: l, n, m, ha, hn, h => by
    unfold adjO at h
    split at h
    · exact adjO_ge (fun x hx => ha x (List.mem_cons_of_mem _ hx)) (step_ge (ha a List.mem_cons_self) hn) h
    · cases h
theorem rate_ge : ∀ (l : List Tier) (r : Int), r ≤ l.foldl (fun r t => max r t.rate) r
  | [], r => Int.le_refl _
  | t :: l, r => by
    rw [List.foldl_cons]
    exact Int.le_trans (by omega) (rate_ge l _)
theorem start_ge {c : Chg} {mx : Int} (hb : 1 ≤ c.block) : 0 ≤ startM c mx := by
  unfold startM
  have h1 : 0 ≤ rateM c.tiers := rate_ge c.tiers 0
  have h2 := (cdiv_le (a := max (mx - c.allow) 0) (c := c.block) (by omega) (by omega)).1
  have h3 : 0 ≤ qtyM c mx := Int.mul_nonneg h2 (by omega)
  exact (cdiv_le (by decide) (Int.mul_nonneg h1 h3)).1
theorem addO_mono : ∀ {l : List (Option Int)} {n n' a : Int}, n' ≤ n → l.foldl addO (some n) = some a → ∃ b, l.foldl addO (some n') = some b ∧ b ≤ a
  | [], n, n', a, h, hl => by simp at hl; exact ⟨n', rfl, by omega⟩
  | none :: l, n, n', a, h, hl => by
    rw [List.foldl_cons, show addO (some n) none = none from rfl, addO_none] at hl; cases hl
  | some x :: l, n, n', a, h, hl => by
    rw [List.foldl_cons] at hl ⊢
    have e : addO (some n) (some x) = if n + x < 1152921504606846976 then some (n + x) else none := rfl
    have e' : addO (some n') (some x) = if n' + x < 1152921504606846976 then some (n' + x) else none := rfl
    rw [e] at hl
    rw [e']
    by_cases hx : n + x < 1152921504606846976
    · rw [if_pos hx] at hl
      rw [if_pos (by omega)]
      exact addO_mono (by omega) hl
    · rw [if_neg hx, addO_none] at hl; cases hl
theorem fold_less {l1 l2 : List (Option Int)} {x : Option Int} {n a : Int} (hx : ∀ v, x = some v → 0 ≤ v) (h : (l1 ++ x :: l2).foldl addO (some n) = some a) : ∃ b, (l1 ++ l2).foldl addO (some n) = some b ∧ b ≤ a := by
  rw [List.foldl_append, List.foldl_cons] at h
  rw [List.foldl_append]
  cases hs : l1.foldl addO (some n) with
  | none => rw [hs, show addO none x = none by cases x <;> rfl, addO_none] at h; cases h
  | some m =>
    rw [hs] at h
    cases x with
    | none => rw [show addO (some m) none = none from rfl, addO_none] at h; cases h
    | some v =>
      have hv := hx v rfl
      have e : addO (some m) (some v) = if m + v < 1152921504606846976 then some (m + v) else none := rfl
      rw [e] at h
      split at h
      · exact addO_mono (by omega) h
      · rw [addO_none] at h; cases h
/-! what is left out -/
def noFee (p : Plan) (k : Nat) : Plan := { p with fees := p.fees.take k ++ p.fees.drop (k + 1) }
def noChg (p : Plan) (k : Nat) : Plan := { p with chgs := p.chgs.take k ++ p.chgs.drop (k + 1) }
theorem cut_at {α : Type} {l : List α} {k : Nat} (hk : k < l.length) (j : Nat) (x : α) (h : (l.take k ++ l.drop (k + 1))[j]? = some x) : l[j]? = some x ∨ l[j + 1]? = some x := by
  rw [List.getElem?_append] at h
  split at h
  · left
    rename_i hj
    rw [List.length_take] at hj
    rw [List.getElem?_take] at h
    split at h
    · exact h
    · cases h
  · right
    rename_i hj
    rw [List.length_take] at hj h
    rw [List.getElem?_drop] at h
    rwa [show k + 1 + (j - min k l.length) = j + 1 by omega] at h
theorem cut_mem {α : Type} {l : List α} {k : Nat} {x : α} (h : x ∈ l.take k ++ l.drop (k + 1)) : x ∈ l := by
  rcases List.mem_append.1 h with h | h
  · exact List.mem_of_mem_take h
  · exact List.mem_of_mem_drop h
theorem split_at {α : Type} {l : List α} {k : Nat} (hk : k < l.length) : l = l.take k ++ l[k] :: l.drop (k + 1) := by
  rw [← List.drop_eq_getElem_cons hk, List.take_append_drop]
theorem map_split {α β : Type} (f : α → β) {l : List α} {k : Nat} (hk : k < l.length) : l.map f = (l.take k).map f ++ f l[k] :: (l.drop (k + 1)).map f := by
  have h := congrArg (List.map f) (split_at hk)
  rw [List.map_append, List.map_cons] at h
  exact h
theorem filter_split {α β : Type} (f : α → Option β) {l : List α} {k : Nat} (hk : k < l.length) : l.filterMap f = (l.take k).filterMap f ++ ([l[k]].filterMap f ++ (l.drop (k + 1)).filterMap f) := by
  have h := congrArg (List.filterMap f) (split_at hk)
  rw [List.filterMap_append, ← List.singleton_append, List.filterMap_append] at h
  exact h
theorem flat_split {α β : Type} (f : α → List β) {l : List α} {k : Nat} (hk : k < l.length) : l.flatMap f = (l.take k).flatMap f ++ (f l[k] ++ (l.drop (k + 1)).flatMap f) := by
  have h := congrArg (List.flatMap f) (split_at hk)
  rw [List.flatMap_append, List.flatMap_cons] at h
  exact h
theorem feeE_mono {p : Plan} {j : Nat} {x : Fee} (h : feeE p (j + 1) x = 0) : feeE p j x = 0 := by
  unfold feeE at h ⊢
  split at h
  · cases h
  · rw [if_neg (by omega)]; exact h
theorem chgE_mono {p : Plan} {j : Nat} {x : Chg} (h : chgE p (j + 1) x = 0) : chgE p j x = 0 := by
  unfold chgE at h ⊢
  split at h
  · cases h
  · rw [if_neg (by omega)]; exact h
theorem most_ge {p : Plan} (hp : POk p) (h : Fine p) {k : Nat} (hk : k < p.chgs.length) (o : Option Int) (ho : chgMost p p.chgs[k] = some o) (v : Int) (hv : o = some v) : 0 ≤ v := by
  subst hv
  have hc := hp.chgs _ (List.getElem_mem hk)
  have he := h.chgs k _ (List.getElem?_eq_getElem hk)
  unfold chgE at he
  unfold chgMost at ho
  split at ho
  · cases ho
  · injection ho with ho
    have hb : 1 ≤ p.chgs[k].block := by
      split at he
      · cases he
      split at he
      · cases he
      split at he
      · cases he
      split at he
      · cases he
      · omega
    exact adjO_ge hc.adjs (start_ge hb) ho
theorem fine_noFee {p : Plan} (hp : POk p) (h : Fine p) {k : Nat} (hk : k < p.fees.length) : ∃ a b, boundO p = some a ∧ boundO (noFee p k) = some b ∧ b ≤ a ∧ Fine (noFee p k) := by
  obtain ⟨a, ha⟩ : ∃ a, boundO p = some a := by
    cases hb : boundO p with
    | none => exact absurd hb h.bound
    | some a => exact ⟨a, rfl⟩
  have hl : sumList p = (p.fees.take k).map (fun f => some f.amount) ++ some p.fees[k].amount :: ((p.fees.drop (k + 1)).map (fun f => some f.amount) ++ p.chgs.filterMap (chgMost p)) := by
    unfold sumList
    rw [map_split _ hk]
    simp
  have hl' : sumList (noFee p k) = (p.fees.take k).map (fun f => some f.amount) ++ ((p.fees.drop (k + 1)).map (fun f => some f.amount) ++ p.chgs.filterMap (chgMost p)) := by
    unfold sumList
    show (p.fees.take k ++ p.fees.drop (k + 1)).map _ ++ p.chgs.filterMap (chgMost (noFee p k)) = _
    rw [show chgMost (noFee p k) = chgMost p from rfl]
    simp
  have ha' := ha
  unfold boundO at ha'
  rw [hl] at ha'
  obtain ⟨b, hb, hba⟩ := fold_less (fun v hv => by injection hv with hv; have := (hp.fees _ (List.getElem_mem hk)).1; omega) ha'
  rw [← hl'] at hb
  have hb2 : boundO (noFee p k) = some b := hb
  refine ⟨a, b, ha, hb2, hba, ⟨h.days, h.mets, ?_, h.chgs, by rw [hb2]; simp⟩⟩
  intro j x hx
  rcases cut_at hk j x hx with hx | hx
  · exact h.fees j x hx
  · exact feeE_mono (h.fees (j + 1) x hx)
theorem fine_noChg {p : Plan} (hp : POk p) (h : Fine p) {k : Nat} (hk : k < p.chgs.length) : ∃ a b, boundO p = some a ∧ boundO (noChg p k) = some b ∧ b ≤ a ∧ Fine (noChg p k) := by
  obtain ⟨a, ha⟩ : ∃ a, boundO p = some a := by
    cases hb : boundO p with
    | none => exact absurd hb h.bound
    | some a => exact ⟨a, rfl⟩
  have hx : ∃ b, boundO (noChg p k) = some b ∧ b ≤ a := by
    have hl' : sumList (noChg p k) = p.fees.map (fun f => some f.amount) ++ ((p.chgs.take k).filterMap (chgMost p) ++ (p.chgs.drop (k + 1)).filterMap (chgMost p)) := by
      unfold sumList
      show p.fees.map _ ++ (p.chgs.take k ++ p.chgs.drop (k + 1)).filterMap (chgMost (noChg p k)) = _
      rw [show chgMost (noChg p k) = chgMost p from rfl, List.filterMap_append]
    cases hm : chgMost p p.chgs[k] with
    | none =>
      have hl : sumList p = p.fees.map (fun f => some f.amount) ++ ((p.chgs.take k).filterMap (chgMost p) ++ (p.chgs.drop (k + 1)).filterMap (chgMost p)) := by
        unfold sumList
        rw [filter_split _ hk, List.filterMap_cons_none hm]
        rfl
      refine ⟨a, ?_, Int.le_refl _⟩
      unfold boundO at ha ⊢
      rw [hl'.trans hl.symm]
      exact ha
    | some o =>
      have hl : sumList p = (p.fees.map (fun f => some f.amount) ++ (p.chgs.take k).filterMap (chgMost p)) ++ o :: (p.chgs.drop (k + 1)).filterMap (chgMost p) := by
        unfold sumList
        rw [filter_split _ hk, List.filterMap_cons_some hm]
        simp
      have ha' := ha
      unfold boundO at ha'
      rw [hl] at ha'
      obtain ⟨b, hb, hba⟩ := fold_less (fun v hv => most_ge hp h hk o hm v hv) ha'
      rw [List.append_assoc, ← hl'] at hb
      exact ⟨b, hb, hba⟩
  obtain ⟨b, hb, hba⟩ := hx
  refine ⟨a, b, ha, hb, hba, ⟨h.days, h.mets, h.fees, ?_, by rw [hb]; simp⟩⟩
  intro j x hx
  rcases cut_at hk j x hx with hx | hx
  · exact h.chgs j x hx
  · exact chgE_mono (h.chgs (j + 1) x hx)
theorem pok_noFee {p : Plan} (h : POk p) (k : Nat) : POk (noFee p k) := ⟨h.name, h.cur, h.from_, h.to_, h.mets, fun f hf => h.fees f (cut_mem hf), h.chgs⟩
theorem pok_noChg {p : Plan} (h : POk p) (k : Nat) : POk (noChg p k) := ⟨h.name, h.cur, h.from_, h.to_, h.mets, h.fees, fun c hc => h.chgs c (cut_mem hc)⟩
theorem cut_len {α : Type} (l : List α) (k : Nat) : (l.take k ++ l.drop (k + 1)).length ≤ l.length := by
  rw [List.length_append, List.length_take, List.length_drop]; omega
theorem told_noFee {p : Plan} (h : Told p) (k : Nat) : Told (noFee p k) :=
  ⟨⟨h.num.mets, fun f hf => h.num.fees f (cut_mem hf), h.num.chgs⟩, ⟨h.small.mets, Nat.le_trans (cut_len _ _) h.small.fees, h.small.chgs, h.small.tiers, h.small.adjs⟩, h.name, h.cur, h.mets, h.chgs⟩
theorem told_noChg {p : Plan} (h : Told p) (k : Nat) : Told (noChg p k) :=
  ⟨⟨h.num.mets, h.num.fees, fun c hc => h.num.chgs c (cut_mem hc)⟩, ⟨h.small.mets, h.small.fees, Nat.le_trans (cut_len _ _) h.small.chgs, fun c hc => h.small.tiers c (cut_mem hc), fun c hc => h.small.adjs c (cut_mem hc)⟩, h.name, h.cur, h.mets, fun c hc => h.chgs c (cut_mem hc)⟩
theorem flat_cut {α : Type} (g : α → List UInt8) (l : List α) (k : Nat) : ((l.take k ++ l.drop (k + 1)).flatMap g).length ≤ (l.flatMap g).length := by
  by_cases hk : k < l.length
  · rw [flat_split g hk]
    simp only [List.flatMap_append, List.length_append]
    omega
  · rw [List.take_of_length_le (by omega), List.drop_eq_nil_of_le (by omega), List.append_nil]
    exact Nat.le_refl _
theorem text_noFee (p : Plan) (k : Nat) : (planL (noFee p k)).length ≤ (planL p).length := by
  have := flat_cut feeL p.fees k
  unfold planL
  simp only [List.length_append]
  show (headL p).length + (p.mets.flatMap metL).length + ((p.fees.take k ++ p.fees.drop (k + 1)).flatMap feeL).length + (p.chgs.flatMap chgL).length ≤ _
  omega
theorem text_noChg (p : Plan) (k : Nat) : (planL (noChg p k)).length ≤ (planL p).length := by
  have := flat_cut chgL p.chgs k
  unfold planL
  simp only [List.length_append]
  show (headL p).length + (p.mets.flatMap metL).length + (p.fees.flatMap feeL).length + ((p.chgs.take k ++ p.chgs.drop (k + 1)).flatMap chgL).length ≤ _
  omega
end Go.Proofs.Ytcgkfgklggjmaaa.Par
end
