import Derived.Test.YtmhimnmiclnbjaaDoorDecE
namespace Go.Proofs.YtmhimnmiclnbjaaDoor
set_option linter.unusedVariables false
set_option linter.unusedSimpArgs false
open Go.RowKit
theorem last_index (T : List UInt8) (hne : T ≠ []) (h : T.getLast hne ≠ 48) : ∃ c : Int, (c != 48) = true ∧ ∀ w, (Instr.index 9 (.string ⟨T.toArray⟩) (.int .i64 ((T.length : Int) - 1))).run Tryd.prog w = .ok (.int .u8 c) w := by
  have hl : 0 < T.length := List.length_pos_iff.2 hne
  have hs : (ByteArray.mk T.toArray).size = T.length := by simp [ByteArray.size]
  have hlt : T.length - 1 < (ByteArray.mk T.toArray).size := by omega
  refine ⟨(((ByteArray.mk T.toArray)[T.length - 1]'hlt).toNat : Int), ?_, fun w => ?_⟩
  rotate_left
  · have := str_index ⟨T.toArray⟩ (T.length - 1) hlt w
    rw [show ((T.length - 1 : Nat) : Int) = (T.length : Int) - 1 by omega] at this
    exact this
  · rw [bne_iff_ne]
    intro e
    apply h
    have e2 : (ByteArray.mk T.toArray)[T.length - 1]'hlt = T.getLast hne := by
      rw [List.getLast_eq_getElem]
      rfl
    rw [e2] at e
    exact UInt8.toNat.inj (by show _ = 48; omega)
theorem text_len (N k : Nat) (h : N < 9223372036854775808) (hk : k ≤ 9) : (textN N k).length ≤ 30 := by
  have h1 := frac_len N k
  have h2 : (Lib.decDigits (N / 10 ^ k)).length ≤ 20 := by
    rw [Lib.decDigits_length]
    exact Lib.nDigits_le20 _ (Nat.lt_of_le_of_lt (Nat.div_le_self _ _) (by omega))
  unfold textN tailL
  rw [List.length_append]
  split
  · simp; omega
  · simp; omega
theorem text_bad {n places : Int} (h : n < 0 ∨ places < 0 ∨ 9 < places) : textL n places = [] := by unfold textL; rw [if_pos h]
theorem text_good (N k : Nat) (hk : k ≤ 9) : textL (N : Int) (k : Int) = textN N k := by
  unfold textL; rw [if_neg (by omega), Int.toNat_natCast, Int.toNat_natCast]
set_option maxHeartbeats 4000000 in
set_option maxRecDepth 100000 in
theorem decimalBack_any (n places : Int) (w : World) (hT : DT w) (hn : n ≤ 9223372036854775807) :
    Calls Tryd.prog 4 #[.int .i64 n, .int .i64 places] w fun e w' => e = .returned (.bool true) ∧ Below w.heap.size w w' := by
  by_cases hbad : n < 0 ∨ places < 0 ∨ 9 < places
  · have e1 := text_bad hbad
    have hcc : n < 0 ∨ (0 ≤ n ∧ places < 0) ∨ (0 ≤ n ∧ 0 ≤ places ∧ 9 < places) := by omega
    clear hbad
    rcases hcc with h | ⟨h0, h⟩ | ⟨h0, h1, h⟩
    all_goals
      go_enter Tryd.func4, Tryd.ntmps4
      go_wp2_with fail
      refine (alive_any _ hT).mono ?_
      rintro e w1 ⟨rfl, hb1⟩
      go_wp2_with fail
      refine (dtext_any _ _ _ (hT.below hb1) hn).mono ?_
      rintro e w2 ⟨rfl, hb2⟩
      rw [e1]
      go_wp2_with fail
      go_ret
      exact ⟨by rfl, bl_call hb1 hb2⟩
  · obtain ⟨k, hk⟩ : ∃ k : Nat, places = (k : Int) := ⟨places.toNat, by omega⟩
    obtain ⟨N, hN⟩ : ∃ N : Nat, n = (N : Int) := ⟨n.toNat, by omega⟩
    subst hk hN
    have hk9 : k ≤ 9 := by omega
    have hN' : N < 9223372036854775808 := by omega
    have ht := text_good N k hk9
    have htl := text_len N k hN' hk9
    have hp := parse_back N k hN' hk9
    have hf := form_textN N k
    have hlast := text_last N k
    have hne : textN N k ≠ [] := by unfold textN; simp [dec_ne]
    have htx := fun v hb => dtext_any (N : Int) (k : Int) v (hT.below hb) hn
    rw [ht] at htx
    generalize textN N k = T at *
    have es : (ByteArray.mk T.toArray).size = T.length := by simp [ByteArray.size]
    have hT0 : 0 < T.length := List.length_pos_iff.2 hne
    have hpa := fun v hb => dparse_any ⟨T.toArray⟩ (k : Int) 9223372036854775807 v (hT.below hb) (by omega)
    have hof := fun v hb => dof_any ⟨T.toArray⟩ v (hT.below hb) (by omega)
    rw [show (ByteArray.mk T.toArray).data.toList = T from rfl] at hpa hof
    rw [hp] at hpa
    rw [hf] at hof
    have hcase : (formL T = 1 ∧ (if fracL N k = [] then 1 else 2 : Int) = 1) ∨ ((if fracL N k = [] then 1 else 2 : Int) = 2 ∧ ∃ c : Int, (c != 48) = true ∧ ∀ w, (Instr.index 9 (.string ⟨T.toArray⟩) (.int .i64 ((T.length : Int) - 1))).run Tryd.prog w = .ok (.int .u8 c) w) := by
      by_cases h : fracL N k = []
      · exact .inl ⟨by rw [hf, if_pos h], by rw [if_pos h]⟩
      · obtain ⟨h1, h2⟩ := hlast h
        exact .inr ⟨by rw [if_neg h], last_index T h1 h2⟩
    generalize (if fracL N k = [] then 1 else 2 : Int) = f at *
    clear hlast hf hp ht
    have hb0 : ¬ ((N : Int) < 0) := by omega
    have hkb : ¬ (9 < (k : Int)) := by omega
    rcases hcase with ⟨_, rfl⟩ | ⟨rfl, c, hc, hidx⟩
    all_goals
      go_enter Tryd.func4, Tryd.ntmps4
      go_wp2_with fail
      refine (alive_any _ hT).mono ?_
      rintro e w1 ⟨rfl, hb1⟩
      go_wp2_with fail
      refine (htx _ hb1).mono ?_
      rintro e w2 ⟨rfl, hb2⟩
      have hbb2 := bl_call hb1 hb2
      go_wp2_with fail
      refine (hpa _ hbb2).mono ?_
      rintro e w3 ⟨rfl, hb3⟩
      have hbb3 := bl_call hbb2 hb3
      go_wp2_with fail
      refine (hof _ hbb3).mono ?_
      rintro e w4 ⟨rfl, hb4⟩
      have hbb4 := bl_call hbb3 hb4
      go_wp2_with fail
      go_ret
      exact ⟨by first | rfl | exact ret_bool hc, hbb4⟩
end Go.Proofs.YtmhimnmiclnbjaaDoor
