import Derived.Test.YtmhimnmiclnbjaaDoorDecJ
namespace Go.Proofs.YtmhimnmiclnbjaaDoor
set_option linter.unusedVariables false
set_option linter.unusedSimpArgs false
open Go.RowKit
/-- a number that is kept as long as it fits -/
def satV (v : Nat) : Int := if v < 9223372036854775808 then (v : Int) else 0
def satB (v : Nat) : Bool := decide (v < 9223372036854775808)
theorem sat_yes {v : Nat} (h : v < 9223372036854775808) : satV v = (v : Int) ∧ satB v = true := by simp [satV, satB, h]
theorem sat_no {v : Nat} (h : ¬ v < 9223372036854775808) : satV v = 0 ∧ satB v = false := by simp [satV, satB, h]
theorem sat_bd (v : Nat) : 0 ≤ satV v ∧ satV v < 9223372036854775808 := by unfold satV; split <;> omega
set_option maxHeartbeats 4000000 in
set_option maxRecDepth 100000 in
theorem more_any (v d : Nat) (w : World) (hd : d ≤ 9) :
    Calls Tryd.prog 17 #[.int .i64 (satV v), .int .i64 d, .bool (satB v)] w fun e w' => e = .returned (.tuple #[.int .i64 (satV (10 * v + d)), .bool (satB (10 * v + d))]) ∧ Below w.heap.size w w' := by
  obtain ⟨b0, b1⟩ := sat_bd v
  obtain ⟨x, hx⟩ : ∃ x, satV v = x := ⟨_, rfl⟩
  rw [hx] at b0 b1 ⊢
  have hmul := fun u => wmul_any x u b0 b1
  have hof := fun u => wof_any (d : Int) u (by omega) (by omega)
  obtain ⟨H, hH⟩ : ∃ H, 10 * x / 18446744073709551616 = H := ⟨_, rfl⟩
  obtain ⟨L, hL⟩ : ∃ L, 10 * x % 18446744073709551616 = L := ⟨_, rfl⟩
  rw [hH, hL] at hmul
  have hadd := fun u => wadd_any H L 0 d (H + (L + d) / 18446744073709551616) ((L + d) % 18446744073709551616) u (by omega) (by omega) (by omega) (by omega) (by omega) (by omega) (by omega) (by omega) rfl
  have hfit : (10 * x + d < 9223372036854775808 ∧ H + (L + d) / 18446744073709551616 = 0 ∧ (L + d) % 18446744073709551616 = 10 * x + d) ∨ (9223372036854775808 ≤ 10 * x + d ∧ (H + (L + d) / 18446744073709551616 ≠ 0 ∨ (H + (L + d) / 18446744073709551616 = 0 ∧ 9223372036854775808 ≤ (L + d) % 18446744073709551616))) := by omega
  generalize H + (L + d) / 18446744073709551616 = H2 at *
  generalize (L + d) % 18446744073709551616 = L2 at *
  have hres : (satB v = true ∧ 10 * x + d < 9223372036854775808 ∧ H2 = 0 ∧ L2 = 10 * x + d ∧ satV (10 * v + d) = 10 * x + d ∧ satB (10 * v + d) = true) ∨ ((satB v = false ∨ satB v = true) ∧ ((10 * x + d < 9223372036854775808 ∧ satB v = false ∧ H2 = 0 ∧ L2 = 10 * x + d) ∨ (9223372036854775808 ≤ 10 * x + d ∧ (H2 ≠ 0 ∨ (H2 = 0 ∧ 9223372036854775808 ≤ L2)))) ∧ satV (10 * v + d) = 0 ∧ satB (10 * v + d) = false) := by
    by_cases hv : v < 9223372036854775808
    · obtain ⟨s1, s2⟩ := sat_yes hv
      have hxv : x = (v : Int) := by rw [← hx, s1]
      by_cases h2 : 10 * v + d < 9223372036854775808
      · obtain ⟨t1, t2⟩ := sat_yes h2
        left
        refine ⟨s2, by omega, ?_, ?_, by rw [t1, hxv]; push_cast; rfl, t2⟩
        · rcases hfit with h | h
          · exact h.2.1
          · omega
        · rcases hfit with h | h
          · exact h.2.2
          · omega
      · obtain ⟨t1, t2⟩ := sat_no h2
        right
        refine ⟨.inr s2, .inr ?_, t1, t2⟩
        rcases hfit with h | h
        · omega
        · exact h
    · obtain ⟨s1, s2⟩ := sat_no hv
      have hxv : x = 0 := by rw [← hx, s1]
      obtain ⟨t1, t2⟩ := sat_no (v := 10 * v + d) (by omega)
      right
      refine ⟨.inl s2, .inl ?_, t1, t2⟩
      rcases hfit with h | h
      · exact ⟨h.1, s2, h.2⟩
      · omega
  clear hfit
  generalize satB v = bb at *
  generalize satV (10 * v + d) = rv at *
  generalize satB (10 * v + d) = rb at *
  clear hx hH hL b1
  rcases hres with ⟨rfl, h1, rfl, rfl, rfl, rfl⟩ | ⟨hbb, hin, rfl, rfl⟩
  · have hint := fun u => wint_ok (10 * x + d) u (by omega) h1
    go_enter Tryd.func17, Tryd.ntmps17
    go_wp2_with fail
    refine (hmul _).mono ?_
    rintro e w1 ⟨rfl, hb1⟩
    go_wp2_with fail
    refine (hof _).mono ?_
    rintro e w2 ⟨rfl, hb2⟩
    have hbb2 := bl_call hb1 hb2
    go_wp2_with fail
    refine (hadd _).mono ?_
    rintro e w3 ⟨rfl, hb3⟩
    have hbb3 := bl_call hbb2 hb3
    go_wp2_with fail
    refine (hint _).mono ?_
    rintro e w4 ⟨rfl, hb4⟩
    have hbb4 := bl_call hbb3 hb4
    go_wp2_with fail
    go_ret2
    exact ⟨rfl, hbb4⟩
  · rcases hin with ⟨h1, rfl, rfl, rfl⟩ | ⟨h1, h2⟩
    · have hint := fun u => wint_ok (10 * x + d) u (by omega) h1
      go_enter Tryd.func17, Tryd.ntmps17
      go_wp2_with fail
      refine (hmul _).mono ?_
      rintro e w1 ⟨rfl, hb1⟩
      go_wp2_with fail
      refine (hof _).mono ?_
      rintro e w2 ⟨rfl, hb2⟩
      have hbb2 := bl_call hb1 hb2
      go_wp2_with fail
      refine (hadd _).mono ?_
      rintro e w3 ⟨rfl, hb3⟩
      have hbb3 := bl_call hbb2 hb3
      go_wp2_with fail
      refine (hint _).mono ?_
      rintro e w4 ⟨rfl, hb4⟩
      have hbb4 := bl_call hbb3 hb4
      go_wp2_with fail
      go_ret2
      exact ⟨rfl, hbb4⟩
    · have hint := fun u => wint_no H2 L2 u h2
      rcases hbb with rfl | rfl
      all_goals
        go_enter Tryd.func17, Tryd.ntmps17
        go_wp2_with fail
        refine (hmul _).mono ?_
        rintro e w1 ⟨rfl, hb1⟩
        go_wp2_with fail
        refine (hof _).mono ?_
        rintro e w2 ⟨rfl, hb2⟩
        have hbb2 := bl_call hb1 hb2
        go_wp2_with fail
        refine (hadd _).mono ?_
        rintro e w3 ⟨rfl, hb3⟩
        have hbb3 := bl_call hbb2 hb3
        go_wp2_with fail
        refine (hint _).mono ?_
        rintro e w4 ⟨rfl, hb4⟩
        have hbb4 := bl_call hbb3 hb4
        go_wp2_with fail
        go_ret2
        exact ⟨rfl, hbb4⟩
set_option maxHeartbeats 4000000 in
/-- a byte is a digit -/
theorem rdigit_any (c : UInt8) (w : World) :
    Calls Tryd.prog 19 #[.int .u8 c.toNat] w fun e w' => e = .returned (.bool (isDig c)) ∧ w = w' := by
  by_cases h1 : c.toNat < 48
  · have hd : isDig c = false := by simp [isDig]; omega
    rw [hd]
    go_enter Tryd.func19, Tryd.ntmps19
    go_wp2_with fail
    go_ret
    exact ⟨by simp; try omega, rfl⟩
  · by_cases h2 : c.toNat ≤ 57
    · have hd : isDig c = true := by simp [isDig]; omega
      rw [hd]
      go_enter Tryd.func19, Tryd.ntmps19
      go_wp2_with fail
      go_ret
      exact ⟨by simp; try omega, rfl⟩
    · have hd : isDig c = false := by simp [isDig]; omega
      rw [hd]
      go_enter Tryd.func19, Tryd.ntmps19
      go_wp2_with fail
      go_ret
      exact ⟨by simp; try omega, rfl⟩
end Go.Proofs.YtmhimnmiclnbjaaDoor
