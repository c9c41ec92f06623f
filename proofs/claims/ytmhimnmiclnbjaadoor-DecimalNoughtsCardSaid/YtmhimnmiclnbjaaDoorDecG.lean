import Derived.Test.YtmhimnmiclnbjaaDoorDecF
namespace Go.Proofs.YtmhimnmiclnbjaaDoor
set_option linter.unusedVariables false
set_option linter.unusedSimpArgs false
open Go.RowKit
theorem mul_wrap (n : Int) (h0 : 0 ≤ n) (h1 : 10 * n ≤ 4611686018427387904) : IntKind.i64.wrap (10 * n) = 10 * n := by rw [IntKind.wrap_i64]; omega
set_option maxHeartbeats 4000000 in
set_option maxRecDepth 100000 in
theorem decimalPlaces_any (s : ByteArray) (places : Int) (w : World) (hT : DT w) :
    Calls Tryd.prog 6 #[.string s, .int .i64 places] w fun e w' => e = .returned (.bool true) ∧ Below w.heap.size w w' := by
  by_cases hbad : 30 < s.size ∨ places < 0 ∨ 8 < places
  · have hcc : (30 < (s.size : Int)) ∨ ((s.size : Int) ≤ 30 ∧ places < 0) ∨ ((s.size : Int) ≤ 30 ∧ 0 ≤ places ∧ 8 < places) := by omega
    clear hbad
    rcases hcc with h | ⟨h0, h⟩ | ⟨h0, h1, h⟩
    all_goals
      go_enter Tryd.func6, Tryd.ntmps6
      go_wp2_with fail
      refine (alive_any _ hT).mono ?_
      rintro e w1 ⟨rfl, hb1⟩
      go_wp2_with fail
      go_ret
      exact ⟨by rfl, hb1⟩
  · obtain ⟨k, hk⟩ : ∃ k : Nat, places = (k : Int) := ⟨places.toNat, by omega⟩
    subst hk
    have hk8 : k ≤ 8 := by omega
    have hs : (s.size : Int) ≤ 30 := by omega
    have hp1 := fun v hb => dparse_any s (k : Int) 4611686018427387904 v (hT.below hb) (by omega)
    have hp2 := fun v hb => dparse_any s ((k : Int) + 1) 4611686018427387904 v (hT.below hb) (by omega)
    have hm := places_more s.data.toList k hk8 4611686018427387904
    have hw : IntKind.i64.wrap ((k : Int) + 1) = (k : Int) + 1 := by rw [IntKind.wrap_i64]; omega
    have hcase : (parseL s.data.toList k 4611686018427387904 = (0, 1) ∧ True) ∨ (parseL s.data.toList k 4611686018427387904 = (0, 2) ∧ parseL s.data.toList (k + 1) 4611686018427387904 = (0, 2)) ∨ (∃ v : Nat, (v : Int) ≤ 461168601842738790 ∧ parseL s.data.toList k 4611686018427387904 = ((v : Int), 0) ∧ parseL s.data.toList (k + 1) 4611686018427387904 = (10 * (v : Int), 0)) ∨ (∃ v : Nat, 461168601842738790 < (v : Int) ∧ (v : Int) ≤ 4611686018427387904 ∧ parseL s.data.toList k 4611686018427387904 = ((v : Int), 0) ∧ parseL s.data.toList (k + 1) 4611686018427387904 = (0, 2)) := by
      rcases hm with h | ⟨h, h'⟩ | ⟨v, h1, h2, h3, h4⟩
      · exact .inl ⟨h, trivial⟩
      · exact .inr (.inl ⟨h, h' (by omega)⟩)
      · by_cases hv : (v : Int) ≤ 461168601842738790
        · exact .inr (.inr (.inl ⟨v, hv, h3, by rw [h4, if_neg (by omega)]⟩))
        · exact .inr (.inr (.inr ⟨v, by omega, h2, h3, by rw [h4, if_pos (by omega)]⟩))
    clear hm
    have hk0 : ¬ (8 < (k : Int)) := by omega
    rcases hcase with ⟨e1, _⟩ | ⟨e1, e2⟩ | ⟨v, hv, e1, e2⟩ | ⟨v, hv, hv', e1, e2⟩
    · rw [e1] at hp1
      obtain ⟨m, hm⟩ : ∃ m, parseL s.data.toList (k + 1) 4611686018427387904 = m := ⟨_, rfl⟩
      rw [hm] at hp2
      clear e1 hm
      go_enter Tryd.func6, Tryd.ntmps6
      go_wp2_with fail
      refine (alive_any _ hT).mono ?_
      rintro e w1 ⟨rfl, hb1⟩
      go_wp2_with fail
      refine (hp1 _ hb1).mono ?_
      rintro e w2 ⟨rfl, hb2⟩
      have hbb2 := bl_call hb1 hb2
      go_wp2_with fail
      refine (hp2 _ hbb2).mono ?_
      rintro e w3 ⟨rfl, hb3⟩
      have hbb3 := bl_call hbb2 hb3
      go_wp2_with fail
      go_ret
      exact ⟨by rfl, hbb3⟩
    · rw [e1] at hp1
      rw [e2] at hp2
      clear e1 e2
      go_enter Tryd.func6, Tryd.ntmps6
      go_wp2_with fail
      refine (alive_any _ hT).mono ?_
      rintro e w1 ⟨rfl, hb1⟩
      go_wp2_with fail
      refine (hp1 _ hb1).mono ?_
      rintro e w2 ⟨rfl, hb2⟩
      have hbb2 := bl_call hb1 hb2
      go_wp2_with fail
      refine (hp2 _ hbb2).mono ?_
      rintro e w3 ⟨rfl, hb3⟩
      have hbb3 := bl_call hbb2 hb3
      go_wp2_with fail
      go_ret
      exact ⟨by rfl, hbb3⟩
    · rw [e1] at hp1
      rw [e2] at hp2
      clear e1 e2
      have hmw := mul_wrap (v : Int) (by omega) (by omega)
      go_enter Tryd.func6, Tryd.ntmps6
      go_wp2_with fail
      refine (alive_any _ hT).mono ?_
      rintro e w1 ⟨rfl, hb1⟩
      go_wp2_with fail
      refine (hp1 _ hb1).mono ?_
      rintro e w2 ⟨rfl, hb2⟩
      have hbb2 := bl_call hb1 hb2
      go_wp2_with fail
      refine (hp2 _ hbb2).mono ?_
      rintro e w3 ⟨rfl, hb3⟩
      have hbb3 := bl_call hbb2 hb3
      go_wp2_with fail
      go_ret
      exact ⟨by simp, hbb3⟩
    · rw [e1] at hp1
      rw [e2] at hp2
      clear e1 e2
      go_enter Tryd.func6, Tryd.ntmps6
      go_wp2_with fail
      refine (alive_any _ hT).mono ?_
      rintro e w1 ⟨rfl, hb1⟩
      go_wp2_with fail
      refine (hp1 _ hb1).mono ?_
      rintro e w2 ⟨rfl, hb2⟩
      have hbb2 := bl_call hb1 hb2
      go_wp2_with fail
      refine (hp2 _ hbb2).mono ?_
      rintro e w3 ⟨rfl, hb3⟩
      have hbb3 := bl_call hbb2 hb3
      go_wp2_with fail
      go_ret
      exact ⟨by simp [hv], hbb3⟩
end Go.Proofs.YtmhimnmiclnbjaaDoor
