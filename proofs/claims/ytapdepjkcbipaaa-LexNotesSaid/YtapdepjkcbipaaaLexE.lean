import Derived.Test.YtapdepjkcbipaaaLexD
namespace Go.Proofs.Ytapdepjkcbipaaa
set_option linter.unusedVariables false
set_option linter.unusedSimpArgs false
open Go.RowKit
/-! the program's Of -/
theorem spaced_list (s : ByteArray) : ((⟨#[32]⟩ : ByteArray) ++ s ++ ⟨#[32]⟩).data.toList = 32 :: (s.data.toList ++ [32]) := by
  simp only [ByteArray.data_append, Array.toList_append]; rfl
section
variable {l : List UInt8}
theorem kt_name (h : l ≠ []) : nameB l = true ↔ plainB l = true ∧ digFirst l = false := by
  have : l.isEmpty = false := by cases l with
    | nil => exact absurd rfl h
    | cons x l => rfl
  simp [nameB, this]
theorem kt2 (h : isWord l = true) : (if isWord l then (2 : Int) else if plainB l ∧ digFirst l = false then 1 else if numForm l ≠ 0 then 3 else if parseOk l then 4 else 0) = 2 := if_pos h
theorem kt1 (h0 : l ≠ []) (h : isWord l = false) (h1 : nameB l = true) : (if isWord l then (2 : Int) else if plainB l ∧ digFirst l = false then 1 else if numForm l ≠ 0 then 3 else if parseOk l then 4 else 0) = 1 := by
  rw [if_neg (by simp [h]), if_pos ((kt_name h0).1 h1)]
theorem kt3 (h0 : l ≠ []) (h : isWord l = false) (h1 : nameB l = false) (h2 : (numForm l != 0) = true) : (if isWord l then (2 : Int) else if plainB l ∧ digFirst l = false then 1 else if numForm l ≠ 0 then 3 else if parseOk l then 4 else 0) = 3 := by
  rw [if_neg (by simp [h]), if_neg (fun hc => by rw [(kt_name h0).2 hc] at h1; cases h1), if_pos (by simpa using h2)]
theorem kt4 (h0 : l ≠ []) (h : isWord l = false) (h1 : nameB l = false) (h2 : (numForm l != 0) = false) {b : Bool} (h3 : parseOk l = b) : (if isWord l then (2 : Int) else if plainB l ∧ digFirst l = false then 1 else if numForm l ≠ 0 then 3 else if parseOk l then 4 else 0) = if b then 4 else 0 := by
  rw [if_neg (by simp [h]), if_neg (fun hc => by rw [(kt_name h0).2 hc] at h1; cases h1), if_neg (by simpa using h2), h3]
end
theorem word_call (T S : ByteArray) (l : List UInt8) (w : World) (hG : GL w) (hT : T.data.toList = textW) (hS : S.data.toList = 32 :: (l ++ [32])) (hl : l.all isLet = true) :
    Calls Try.prog 16 #[.string T, .string S] w fun e w' => e = .returned (.bool (isWord l)) ∧ w = w' := by
  obtain ⟨m, hm⟩ := hG
  have hsz : T.size < 4294967281 := by
    have : T.size = T.data.toList.length := by simp
    have hl : textW.length ≤ 1000 := by decide +kernel
    rw [this, hT]; omega
  refine (Try.strings_Contains T S m w hsz hm).mono ?_
  rintro e w' ⟨rfl, rfl⟩
  exact ⟨by rw [hT, hS, contains_words l hl], rfl⟩
theorem sign_call (T S : ByteArray) (c : UInt8) (w : World) (hG : GL w) (hT : T.data.toList = [123, 125, 59]) (hS : S.data.toList = [c]) :
    Calls Try.prog 16 #[.string T, .string S] w fun e w' => e = .returned (.bool (c == 123 || c == 125 || c == 59)) ∧ w = w' := by
  obtain ⟨m, hm⟩ := hG
  have hsz : T.size < 4294967281 := by
    have : T.size = T.data.toList.length := by simp
    rw [this, hT]; decide
  refine (Try.strings_Contains T S m w hsz hm).mono ?_
  rintro e w' ⟨rfl, rfl⟩
  exact ⟨by rw [hT, hS, contains_sign c], rfl⟩
theorem GL.alloc {w : World} (h : GL w) (o : Obj) : GL (w.alloc o) := let ⟨m, hm⟩ := h; ⟨m, (World.cell?_alloc_lt _ _ _ (World.block_lt_of_cell? _ _ hm)).trans hm⟩
theorem one_list (s : ByteArray) (h : s.size = 1) : s.data.toList = [s[0]'(by omega)] := by
  have h1 := take_snoc s 0 (by omega)
  have h2 := take_end s
  rw [h] at h2
  rw [← h2]; simpa using h1
set_option maxHeartbeats 4000000 in
theorem lexOf_any (s : ByteArray) (w : World) (hG : GL w) (hs : s.size < 4294967281) :
    Calls Try.prog 9 #[.string s] w fun e w' => e = .returned (.int .i64 (kindOf s.data.toList)) ∧ Below w.heap.size w w' := by
  have HE := Lib.hid (ByteArray.toList_eq s)
  have HGL := Lib.hid hG
  clear hG
  go_enter Try.func9, Try.ntmps9
  go_wp2_with fail
  go_loop [8] (fun v => ∃ k : Nat, k ≤ s.size ∧ v = .int .i64 k ∧ Hid ((s.data.toList.take k).all isLet = true)) (fun v => s.size - (intOf v).toNat)
  case atStart => exact ⟨0, Nat.zero_le _, rfl, by simp [Hid]⟩
  case round =>
    obtain ⟨k, hk, rfl, HA⟩ := hrel
    by_cases hlt : k < s.size
    · have hu := all_upto s isLet k hlt
      have hbad := all_false s isLet k hlt
      have HU := Lib.hid hu
      clear hu
      cases hi : isLet (s[k]'hlt) with
      | false =>
        have HBad := Lib.hid (hbad hi)
        clear hbad
        by_cases h1 : s.size = 1
        · have hk0 : k = 0 := by omega
          subst hk0
          have hl1 := one_list s h1
          generalize hcc : s[0]'hlt = c at *
          have HL1 := Lib.hid hl1
          have hb1 : ((s.size : Int) == 1) = true := by rw [beq_iff_eq]; omega
          have hlt0 : 0 < s.size := hlt
          clear hl1 h1
          cases hsg : (c == 123 || c == 125 || c == 59) with
          | true =>
            have HK := Lib.hid (kind_sign (l := s.data.toList) (by rw [HL1.out]; simp only [Bool.or_eq_true, beq_iff_eq] at hsg; rcases hsg with (h | h) | h <;> simp [h]))
            have HSG := Lib.hid hsg
            clear hsg
            rw [← hcc] at hi
            clear hcc
            go_wp2_with (first
              | (go_at_call 15; refine (letter_any _ _).mono ?_; rintro e w' ⟨rfl, rfl⟩)
              | (go_at_call 16; refine (sign_call _ _ c _ HGL.out (by rfl) HL1.out).mono ?_; rw [HSG.out]; rintro e w' ⟨rfl, rfl⟩))
            go_ret
            exact ⟨ret_int (by rw [HK.out]), bl_refl _⟩
          | false =>
            have HK := Lib.hid (kind_no (l := s.data.toList) (by rw [HL1.out]; simp only [Bool.or_eq_false_iff, beq_eq_false_iff_ne] at hsg; simp [hsg.1.1, hsg.1.2, hsg.2]) (.inr HBad.out))
            have HSG := Lib.hid hsg
            clear hsg
            rw [← hcc] at hi
            clear hcc
            go_wp2_with (first
              | (go_at_call 15; refine (letter_any _ _).mono ?_; rintro e w' ⟨rfl, rfl⟩)
              | (go_at_call 16; refine (sign_call _ _ c _ HGL.out (by rfl) HL1.out).mono ?_; rw [HSG.out]; rintro e w' ⟨rfl, rfl⟩))
            go_ret
            exact ⟨ret_int (by rw [HK.out]), bl_refl _⟩
        · have HK := Lib.hid (kind_no (l := s.data.toList) (fun h => by
            have := h1; rw [show s.size = s.data.toList.length by simp] at this
            rcases h with h | h | h <;> rw [h] at this <;> simp at this) (.inr HBad.out))
          have hb1 : ((s.size : Int) == 1) = false := by rw [beq_eq_false_iff_ne]; omega
          clear h1
          go_wp2_with (go_at_call 15; refine (letter_any _ _).mono ?_; rintro e w' ⟨rfl, rfl⟩)
          go_ret
          exact ⟨ret_int (by rw [HK.out]), bl_refl _⟩
      | true =>
        have HX : Hid ((s.data.toList.take (k + 1)).all isLet = true) := by
          show _ = _
          rw [HU.out, HA.out, hi]; rfl
        clear hbad
        go_wp2_with (go_at_call 15; refine (letter_any _ _).mono ?_; rintro e w' ⟨rfl, rfl⟩)
        go_round
        case rel => exact ⟨k + 1, by omega, by go_num, HX⟩
        case measure => simp [intOf]; omega
    · obtain rfl : k = s.size := by omega
      have hA := HA.out
      rw [take_end] at hA
      have HAL := Lib.hid hA
      clear hA HA hlt
      by_cases hz : s.size = 0
      · have hl := (size_pos s).2 hz
        have h1 : s.toList.isEmpty = true := by rw [HE.out, hl]; rfl
        have HK := Lib.hid (kind_no (l := s.data.toList) (by rw [hl]; simp) (.inl hl))
        clear hl hz
        go_wp2_with (go_at_call 17; refine (dparse_any _ _).mono ?_; rintro e w1 ⟨rfl, hb1⟩)
        go_ret
        exact ⟨ret_int (by rw [HK.out]), bl_alloc hb1 _⟩
      · have hl : s.data.toList ≠ [] := fun h => hz ((size_pos s).1 h)
        have h1 : s.toList.isEmpty = false := by rw [HE.out]; simpa using hl
        have HK := Lib.hid (kind_let HAL.out hl)
        have HL := Lib.hid hl
        clear hl hz
        have hsum : s.size + 2 ≤ 9223372036854775807 := by omega
        go_wp2_with (first
          | (go_at_call 17; refine (dparse_any _ _).mono ?_; rintro e w1 ⟨rfl, hb1⟩)
          | (go_at_call 16; refine (word_call _ _ s.data.toList _ ((HGL.out.below hb1).alloc _) (by rfl) (spaced_list s) HAL.out).mono ?_; rintro e w' ⟨rfl, rfl⟩)
          | (go_at_call 18; refine (name_any _ _ (by omega)).mono ?_; rintro e w' ⟨rfl, rfl⟩)
          | (go_at_call 19; refine (decOf_any _ _ ((HGL.out.below hb1).alloc _) hs).mono ?_; rintro e w2 ⟨rfl, hb2⟩))
        all_goals
          go_ret
          refine ⟨ret_int ?_, ?_⟩
          · rw [HK.out]
            first
            | exact (kt2 (by assumption)).symm
            | exact (kt1 HL.out (by assumption) (by assumption)).symm
            | exact (kt3 HL.out (by assumption) (by assumption) (by assumption)).symm
            | exact (kt4 HL.out (by assumption) (by assumption) (by assumption) (b := true) (by assumption)).symm
            | exact (kt4 HL.out (by assumption) (by assumption) (by assumption) (b := false) (by assumption)).symm
          · repeat (first | exact hb1 | apply bl_alloc | refine bl_call ?_ (by assumption))
end Go.Proofs.Ytapdepjkcbipaaa
