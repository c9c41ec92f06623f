import Derived.Test.YtaccanfjplgfnaaDoorDateK
import Derived.Test.YtaccanfjplgfnaaDoorDateO
namespace Go.Proofs.YtaccanfjplgfnaaDoor
set_option linter.unusedVariables false
set_option linter.unusedSimpArgs false
open Go.RowKit
theorem date_eq (d : Nat) (a b c a' b' c' : Int) (w : World) :
    (Op.equalIn (d + 2) 23 (.agg #[.int .i64 a, .int .i64 b, .int .i64 c]) (.agg #[.int .i64 a', .int .i64 b', .int .i64 c'])).run Tryd.prog w = .ok (a == a' && (b == b' && (c == c' && true))) w := by
  refine eqS_of _ _ _ _ _ _ Tryd.underlying23 (by kernel_rfl) ?_
  refine eqF_cons _ _ _ _ _ (.int .i64 a) (.int .i64 a') _ _ rfl (by go_simp) (by go_simp) (by go_simp) ?_
  refine eqF_cons _ _ _ _ _ (.int .i64 b) (.int .i64 b') _ _ rfl (by go_simp) (by go_simp) (by go_simp) ?_
  refine eqF_cons _ _ _ _ _ (.int .i64 c) (.int .i64 c') _ _ rfl (by go_simp) (by go_simp) (by go_simp) ?_
  exact eqF_nil _ _ _
theorem date_eql (a b c a' b' c' : Int) (w : World) : (binOp .eql 23 (.agg #[.int .i64 a, .int .i64 b, .int .i64 c]) (.agg #[.int .i64 a', .int .i64 b', .int .i64 c'])).run Tryd.prog w = .ok (.bool (a == a' && (b == b' && (c == c' && true)))) w :=
  eql_S (fun d => date_eq (d + 1) a b c a' b' c' w)
theorem date_same (a b c : Int) (w : World) : (binOp .eql 23 (.agg #[.int .i64 a, .int .i64 b, .int .i64 c]) (.agg #[.int .i64 a, .int .i64 b, .int .i64 c])).run Tryd.prog w = .ok (.bool true) w := by
  have h := date_eql a b c a b c w
  simpa using h
structure OfIs (n y m d : Int) (ok : Bool) : Prop where
  prog : ∀ w, Calls Tryd.prog 20 #[.int .i64 n] w fun e w' => e = .returned (.tuple #[.agg #[.int .i64 y, .int .i64 m, .int .i64 d], .bool ok]) ∧ Below w.heap.size w w'
  ref : ∀ w, Calls Tryd.prog 21 #[.int .i64 n] w fun e w' => e = .returned (.tuple #[.agg #[.int .i64 y, .int .i64 m, .int .i64 d], .bool ok]) ∧ Below w.heap.size w w'
  yes : ok = true → goodB y m d = true ∧ numD y m d = n
  no : ok = false → n < 0 ∨ 3652059 ≤ n
theorem of_is (n : Int) : ∃ y m d ok, OfIs n y m d ok := by
  by_cases h : 0 ≤ n ∧ n < 3652059
  · obtain ⟨y, m, d, hg, hn⟩ := of_ex n h.1 h.2
    subst hn
    exact ⟨y, m, d, true, fun w => of_yes y m d w hg, fun w => rof_yes y m d w hg, fun _ => ⟨hg, rfl⟩, (fun h => nomatch h)⟩
  · exact ⟨0, 0, 0, false, fun w => of_no n w (by omega), fun w => rof_no n w (by omega), (fun h => nomatch h), fun _ => by omega⟩
set_option maxHeartbeats 4000000 in
set_option maxRecDepth 100000 in
theorem dateReads_any (n : Int) (s : ByteArray) (w : World) (hT : GT w) :
    Calls Tryd.prog 6 #[.int .i64 n, .string s] w fun e w' => e = .returned (.bool true) ∧ Below w.heap.size w w' := by
  obtain ⟨y, m, d, ok, hO⟩ := of_is n
  have q1 := date_same y m d
  have q2 := date_same (pY s) (pM s) (pD s)
  go_enter Tryd.func6, Tryd.ntmps6
  go_wp2_with fail
  refine (alive_any _ hT).mono ?_
  rintro e w1 ⟨rfl, hb1⟩
  by_cases hbig : 100 < s.size
  · have hb : 100 < (s.size : Int) := by omega
    go_wp2_with fail
    go_ret
    exact ⟨rfl, hb1⟩
  · have hb : (s.size : Int) ≤ 100 := by omega
    go_wp2_with fail
    refine (hO.prog _).mono ?_
    rintro e w2 ⟨rfl, hb2⟩
    have hbb2 := bl_call hb1 hb2
    go_wp2_with fail
    have kx := Blk.new w2 23 #[.int .i64 y, .int .i64 m, .int .i64 d]
    refine (hO.ref _).mono ?_
    rintro e w3 ⟨rfl, hb3⟩
    have hbb3 := bl_call (bl_alloc hbb2 _) hb3
    have kx3 := kx.call hb3
    have ky := Blk.new w3 23 #[.int .i64 y, .int .i64 m, .int .i64 d]
    go_wp2_with fail
    refine (dparse_any s _).mono ?_
    rintro e w4 ⟨rfl, hb4⟩
    have hbb4 := bl_call (bl_alloc hbb3 _) hb4
    have kx4 := (kx3.alloc _).call hb4
    have ky4 := ky.call hb4
    have kz := Blk.new w4 23 #[.int .i64 (pY s), .int .i64 (pM s), .int .i64 (pD s)]
    go_wp2_with fail
    refine (rparse_any s _).mono ?_
    rintro e w5 ⟨rfl, hb5⟩
    have hbb5 := bl_call (bl_alloc hbb4 _) hb5
    have kx5 := (kx4.alloc _).call hb5
    have ky5 := (ky4.alloc _).call hb5
    have kz5 := kz.call hb5
    obtain ⟨x0, x1, x2, _, _, _⟩ := kx5.c3
    obtain ⟨y0, y1, y2, _, _, _⟩ := ky5.c3
    obtain ⟨z0, z1, z2, _, _, _⟩ := kz5.c3
    have l1 := kx5.lt
    have l2 := ky5.lt
    have l3 := kz5.lt
    go_wp2_with fail
    go_ret
    exact ⟨by simp, bl_alloc hbb5 _⟩
end Go.Proofs.YtaccanfjplgfnaaDoor
