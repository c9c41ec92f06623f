import Derived.Test.YtmhimnmiclnbjaaDoorDecI
namespace Go.Proofs.YtmhimnmiclnbjaaDoor
set_option linter.unusedVariables false
set_option linter.unusedSimpArgs false
open Go.RowKit
theorem mul_parts (a p q : Int) (h : a = 4294967296 * q + p) (p0 : 0 ≤ p) (p1 : p < 4294967296) (q0 : 0 ≤ q) :
    10 * a / 18446744073709551616 = 0 + q * 10 / 4294967296 + (p * 10 + q * 10 * 4294967296 % 18446744073709551616) / 18446744073709551616 ∧ 10 * a % 18446744073709551616 = (p * 10 + q * 10 * 4294967296 % 18446744073709551616) % 18446744073709551616 := by
  have hr : q * 10 * 4294967296 % 18446744073709551616 = 4294967296 * (q * 10 % 4294967296) := by omega
  rw [hr]
  have hd := Int.mul_ediv_add_emod (q * 10) 4294967296
  have h1 := Int.emod_nonneg (q * 10) (show (4294967296 : Int) ≠ 0 by decide)
  have h2 := Int.emod_lt_of_pos (q * 10) (show (0 : Int) < 4294967296 by decide)
  generalize q * 10 / 4294967296 = i at *
  generalize q * 10 % 4294967296 = r at *
  have e : 10 * a = 18446744073709551616 * i + (p * 10 + 4294967296 * r) := by omega
  rw [e]
  generalize p * 10 + 4294967296 * r = z
  omega
theorem Blk.new_at (w : World) (t : TypeId) (cs : Array Value) (g : Nat) (h : w.heap.size = g) : Blk (w.alloc (.cells cs t)) g t cs := h ▸ Blk.new w t cs
set_option maxHeartbeats 4000000 in
set_option maxRecDepth 100000 in
theorem wmul_any (a : Int) (w : World) (h0 : 0 ≤ a) (h1 : a < 9223372036854775808) :
    Calls Tryd.prog 34 #[.int .i64 a, .int .i64 10] w fun e w' => e = .returned (.agg #[.bool false, .int .u64 (10 * a / 18446744073709551616), .int .u64 (10 * a % 18446744073709551616)]) ∧ Below w.heap.size w w' := by
  obtain ⟨H, hH⟩ : ∃ H, 10 * a / 18446744073709551616 = H := ⟨_, rfl⟩
  obtain ⟨L, hL⟩ : ∃ L, 10 * a % 18446744073709551616 = L := ⟨_, rfl⟩
  rw [hH, hL]
  have HH := Lib.hid hH
  have HL := Lib.hid hL
  clear hH hL
  go_enter Tryd.func34, Tryd.ntmps34
  go_wp2_with fail
  refine (wof_any a _ h0 h1).mono ?_
  rintro e w1 ⟨rfl, hb1⟩
  go_wp2_with fail
  refine (wof_any 10 _ (by omega) (by omega)).mono ?_
  rintro e w2 ⟨rfl, hb2⟩
  have kr := ((Blk.new w 65 #[.bool false, .int .u64 0, .int .u64 0]).call hb1).call hb2
  have hbb2 := bl_call (bl_call (bl_alloc (bl_refl w) (.cells #[.bool false, .int .u64 0, .int .u64 0] 65)) hb1) hb2
  have hl0 := kr.lt
  have kx := (Blk.new w2 65 #[.bool false, .int .u64 0, .int .u64 a]).alloc (.cells #[.bool false, .int .u64 0, .int .u64 10] 65)
  have ky := Blk.new2 w2 (.cells #[.bool false, .int .u64 0, .int .u64 a] 65) 65 #[.bool false, .int .u64 0, .int .u64 10]
  obtain ⟨x0, x1, x2, _, _, _⟩ := kx.c3
  obtain ⟨y0, y1, y2, _, _, _⟩ := ky.c3
  go_wp2_with fail
  go_quiet (fail)
  obtain ⟨p, hp⟩ : ∃ p, a % 4294967296 = p := ⟨_, rfl⟩
  obtain ⟨q, hq⟩ : ∃ q, a / 4294967296 = q := ⟨_, rfl⟩
  rw [hp, hq]
  have hpq : a = 4294967296 * q + p ∧ 0 ≤ p ∧ p < 4294967296 ∧ 0 ≤ q ∧ q < 2147483648 := by omega
  obtain ⟨ha, p0, p1, q0, q1⟩ := hpq
  have HA := Lib.hid ha
  clear ha
  clear hp hq
  have hw1 : IntKind.u64.wrap (p * 10) = p * 10 := by rw [IntKind.wrap_u64]; omega
  have hw2 : IntKind.u64.wrap (q * 10) = q * 10 := by rw [IntKind.wrap_u64]; omega
  have kx1 := kx.drewN nq
  have ky1 := ky.drewN nq
  obtain ⟨x0, x1, x2, _, _, _⟩ := kx1.c3
  obtain ⟨y0, y1, y2, _, _, _⟩ := ky1.c3
  go_wp2_with fail
  go_quiet (fail)
  go_wp2_with fail
  clear x0 x1 x2 y0 y1 y2
  go_loopw [45] (fun v wr => ∃ (i hi lo : Int), v = .int .i64 i ∧ ((i = 0 ∧ hi = 0 ∧ lo = p * 10) ∨ (i = 1 ∧ hi = 0 ∧ lo = p * 10) ∨ (i = 2 ∧ hi = H ∧ lo = L)) ∧
      Blk wr w.heap.size 65 #[.bool false, .int .u64 0, .int .u64 0] ∧ Blk wr (w2.heap.size) 65 #[.bool false, .int .u64 0, .int .u64 a] ∧ Blk wr (w2.heap.size + 1) 65 #[.bool false, .int .u64 0, .int .u64 10] ∧
      Blk wr (w2.heap.size + 1 + 1) 65 #[.bool false, .int .u64 hi, .int .u64 lo] ∧ Blk wr (w2.heap.size + 1 + 1 + 1) 63 #[.int .u64 0, .int .u64 (q * 10)] ∧ Below w.heap.size w wr) (fun v _ => (2 - intOf v).toNat)
  case atStart =>
    refine ⟨0, 0, p * 10, rfl, .inl ⟨rfl, rfl, rfl⟩, ?_, ?_, ?_, ?_, ?_, ?_⟩
    · exact (((((kr.alloc _).alloc _).drewN _).alloc _).alloc _)
    · exact ((kx.drewN _).alloc _).alloc _
    · exact ((ky.drewN _).alloc _).alloc _
    · exact (Blk.new_at _ _ _ _ (by show ((w2.alloc _).alloc _).heap.size = _; rw [size_alloc, size_alloc])).alloc _
    · exact Blk.new_at _ _ _ _ (by rw [size_alloc]; show ((w2.alloc _).alloc _).heap.size + 1 = _; rw [size_alloc, size_alloc])
    · exact bl_alloc (bl_alloc (bl_drewN (bl_alloc (bl_alloc hbb2 _) _) _) _) _
  case round =>
    obtain ⟨i, hi, lo, rfl, hcase, kr', kx', ky', ko', ks', hbw⟩ := hrel
    have ho := ko'.lt
    have hs := ks'.lt
    obtain ⟨o0, o1, o2, _, _, _⟩ := ko'.c3
    obtain ⟨s0, s1, _, _⟩ := ks'.c2
    rcases hcase with ⟨rfl, rfl, rfl⟩ | ⟨rfl, rfl, rfl⟩ | ⟨rfl, rfl, rfl⟩
    · go_wp2_with fail
      refine (wplus_any false false 0 (p * 10) 0 0 0 (p * 10) _ (by omega) (by omega) (by omega) (by omega) (by omega) (by omega) (by omega) (by omega) (by omega)).mono ?_
      rintro e w3 ⟨rfl, hb3⟩
      have ko3 := ko'.call hb3
      have ks3 := ks'.call hb3
      have kx3 := kx'.call hb3
      have ky3 := ky'.call hb3
      have kr3 := kr'.call hb3
      have hbw3 := bl_call hbw hb3
      have ho3 := ko3.lt
      clear o0 o1 o2 s0 s1
      obtain ⟨o0, o1, o2, f0, f1, f2⟩ := ko3.c3
      go_wp2
      go_roundw
      case rel =>
        refine ⟨_, 0, p * 10, rfl, .inr (.inl ⟨by go_num, rfl, rfl⟩), ?_, ?_, ?_, ?_, ?_, ?_⟩
        · exact ((kr3.far (by (try dsimp only); omega) _).far (by (try dsimp only); omega) _).far (by (try dsimp only); omega) _
        · exact ((kx3.far (by (try dsimp only); omega) _).far (by (try dsimp only); omega) _).far (by (try dsimp only); omega) _
        · exact ((ky3.far (by (try dsimp only); omega) _).far (by (try dsimp only); omega) _).far (by (try dsimp only); omega) _
        · exact ((ko3.set_ 0 (.bool false)).set_ 1 (.int .u64 0)).set_ 2 (.int .u64 (p * 10))
        · exact ((ks3.far (by (try dsimp only); omega) _).far (by (try dsimp only); omega) _).far (by (try dsimp only); omega) _
        · exact bl_set (bl_set (bl_set hbw3 (by (try dsimp only); omega) _) (by (try dsimp only); omega) _) (by (try dsimp only); omega) _
      case measure => simp [intOf]
    · have hw9 : IntKind.u64.wrap (q * 10 * 4294967296) = q * 10 * 4294967296 % 18446744073709551616 := by rw [IntKind.wrap_u64]
      have hai := HA.out
      obtain ⟨e1, e2⟩ := mul_parts a p q hai p0 p1 q0
      rw [HH.out] at e1
      rw [HL.out] at e2
      have E1 := Lib.hid e1
      have E2 := Lib.hid e2
      clear e1 e2 hai
      go_wp2_with fail
      refine (wplus_any false false 0 (p * 10) (q * 10 / 4294967296) (q * 10 * 4294967296 % 18446744073709551616) H L _ (by omega) (by omega) (by omega) (by omega) (by omega) (by omega) (by omega) E1.out E2.out).mono ?_
      rintro e w3 ⟨rfl, hb3⟩
      have ko3 := ko'.call hb3
      have ks3 := ks'.call hb3
      have kx3 := kx'.call hb3
      have ky3 := ky'.call hb3
      have kr3 := kr'.call hb3
      have hbw3 := bl_call hbw hb3
      have ho3 := ko3.lt
      clear o0 o1 o2 s0 s1
      obtain ⟨o0, o1, o2, f0, f1, f2⟩ := ko3.c3
      go_wp2
      go_roundw
      case rel =>
        refine ⟨_, H, L, rfl, .inr (.inr ⟨by go_num, rfl, rfl⟩), ?_, ?_, ?_, ?_, ?_, ?_⟩
        · exact ((kr3.far (by (try dsimp only); omega) _).far (by (try dsimp only); omega) _).far (by (try dsimp only); omega) _
        · exact ((kx3.far (by (try dsimp only); omega) _).far (by (try dsimp only); omega) _).far (by (try dsimp only); omega) _
        · exact ((ky3.far (by (try dsimp only); omega) _).far (by (try dsimp only); omega) _).far (by (try dsimp only); omega) _
        · exact ((ko3.set_ 0 (.bool false)).set_ 1 (.int .u64 H)).set_ 2 (.int .u64 L)
        · exact ((ks3.far (by (try dsimp only); omega) _).far (by (try dsimp only); omega) _).far (by (try dsimp only); omega) _
        · exact bl_set (bl_set (bl_set hbw3 (by (try dsimp only); omega) _) (by (try dsimp only); omega) _) (by (try dsimp only); omega) _
      case measure => simp [intOf]
    · obtain ⟨z0, z1, z2, _, _, _⟩ := kx'.c3
      obtain ⟨t0, t1, t2, _, _, _⟩ := ky'.c3
      obtain ⟨v0, v1, v2, _, _, _⟩ := kr'.c3
      go_wp2_with fail
      exact bodyPost_ret (results_cell_row rfl _ _ w.heap.size _ #[.bool false, .int .u64 hi, .int .u64 lo] (0, 0) _ rfl ((((kr'.far (by (try dsimp only); omega) _).set_ 0 (.bool false)).set_ 1 (.int .u64 hi)).set_ 2 (.int .u64 lo)) Tryd.underlying65 rfl (by kernel_rfl)) rfl
        ⟨rfl, bl_set (bl_set (bl_set (bl_set hbw (by (try dsimp only); omega) _) (Nat.le_refl _) _) (Nat.le_refl _) _) (Nat.le_refl _) _⟩
end Go.Proofs.YtmhimnmiclnbjaaDoor
