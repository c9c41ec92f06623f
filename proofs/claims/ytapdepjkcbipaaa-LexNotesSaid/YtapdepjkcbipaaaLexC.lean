import Derived.Test.YtapdepjkcbipaaaLexB
namespace Go.Proofs.Ytapdepjkcbipaaa
set_option linter.unusedVariables false
set_option linter.unusedSimpArgs false
open Go.RowKit
theorem drop_at (s : ByteArray) (k : Nat) (h : k < s.size) : s.data.toList.drop k = s[k] :: s.data.toList.drop (k + 1) := by
  rw [List.drop_eq_getElem_cons (by simpa using h)]; rfl
theorem drop_end (s : ByteArray) : s.data.toList.drop s.size = [] := List.drop_of_length_le (by simp)
def fmt4 (l : List UInt8) (o : Option Nat) : Int := match o with
  | none => 0
  | some p => if l.getD 0 0 = 48 ∧ 1 < l.length ∧ l.getD 1 0 ≠ 46 then 0 else 1 + (p : Int)
theorem numForm_scan (l : List UInt8) (h0 : l ≠ []) (h1 : isDig (l.getD 0 0) = true) : numForm l = fmt4 l (rform l 0) := by
  rw [← rform_is l, if_neg (by simp only [h0, h1, false_or]; simp)]; rfl
theorem numForm_zero (l : List UInt8) (h : l = [] ∨ isDig (l.getD 0 0) = false) : numForm l = 0 := by
  rw [← rform_is l, if_pos h]
theorem size_pos (s : ByteArray) : s.data.toList = [] ↔ s.size = 0 := by
  rw [← List.length_eq_zero_iff]; simp
theorem u8_nb {c d : UInt8} {n : Int} (hd : (d.toNat : Int) = n) (h : c ≠ d) : ((c.toNat : Int) == n) = false :=
  beq_eq_false_iff_ne.2 fun he => h (UInt8.toNat.inj (by omega))
set_option maxHeartbeats 2000000 in
theorem rOf4_any (s : ByteArray) (w : World) (hs : s.size ≤ 9223372036854775807) :
    Calls Try.prog 21 #[.string s] w fun e w' => e = .returned (.int .i64 (numForm s.data.toList)) ∧ w = w' := by
  have hem : s.toList.isEmpty = s.data.toList.isEmpty := by rw [ByteArray.toList_eq]
  by_cases hz : s.size = 0
  · have hl := (size_pos s).2 hz
    have h1 : s.toList.isEmpty = true := by rw [hem, hl]; rfl
    have hl2 : s.toList = [] := by simpa using h1
    have HN := Lib.hid (numForm_zero s.data.toList (.inl hl))
    clear hem hl h1
    go_enter Try.func21, Try.ntmps21
    go_wp2
    go_ret
    exact ⟨ret_int (by rw [HN.out]), rfl⟩
  · have hp : 0 < s.size := by omega
    have hl : s.data.toList ≠ [] := fun h => hz ((size_pos s).1 h)
    have h1 : s.toList.isEmpty = false := by rw [hem]; simpa using hl
    have hl2 : ¬ s.toList = [] := by simpa using h1
    have hg0 := getD_at s 0 hp
    clear hem hz
    cases hd : isDig (s[0]'hp) with
    | false =>
      have HN := Lib.hid (numForm_zero s.data.toList (.inr (by rw [hg0]; exact hd)))
      clear hg0 hl
      go_enter Try.func21, Try.ntmps21
      go_wp2_with (go_at_call 28; refine (rdigit_any _ _).mono ?_; rintro e w' ⟨rfl, rfl⟩)
      go_ret
      exact ⟨ret_int (by rw [HN.out]), rfl⟩
    | true =>
      have HN := Lib.hid (numForm_scan s.data.toList hl (by rw [hg0]; exact hd))
      have HG0 := Lib.hid hg0
      clear hg0 hl
      go_enter Try.func21, Try.ntmps21
      go_wp2_with (go_at_call 28; refine (rdigit_any _ _).mono ?_; rintro e w' ⟨rfl, rfl⟩)
      go_loop [3, 4] (fun pv v => ∃ k p : Nat, k ≤ s.size ∧ p ≤ 1 ∧ v = .int .i64 k ∧ pv = .int .i64 p ∧ Hid (rform (s.data.toList.drop k) p = rform s.data.toList 0)) (fun _ v => s.size - (intOf v).toNat)
      case atStart => exact ⟨0, 0, Nat.zero_le _, Nat.zero_le _, rfl, rfl, rfl⟩
      case round =>
        obtain ⟨k, p, hk, hp1, rfl, rfl, HA⟩ := hrel
        clear hl2 h1 hd
        by_cases hlt : k < s.size
        · have hdr := drop_at s k hlt
          have hcl := (s[k]'hlt).toNat_lt
          have hA2 := HA.out
          rw [hdr] at hA2
          have HA2 := Lib.hid hA2
          clear hA2
          by_cases hc : s[k]'hlt = 46
          · have hb : (((s[k]'hlt).toNat : Int) == 46) = true := by rw [hc]; rfl
            rw [hc] at HA2
            by_cases hlast : s.size = k + 1
            · have HX : Hid (rform s.data.toList 0 = none) := by
                show _ = _
                rw [← HA2.out, ← hlast, drop_end]; simp [rform]
              have hlb : ((k : Int) == (s.size : Int) - 1) = true := by rw [beq_iff_eq]; omega
              have hl3 : s.size ≤ k + 1 := by omega
              clear hc hdr  hlast HA HA2
              go_wp2
              all_goals
                go_ret
                exact ⟨ret_int (by rw [HN.out, HX.out]; rfl), rfl⟩
            · have hlb : ((k : Int) == (s.size : Int) - 1) = false := by rw [beq_eq_false_iff_ne]; omega
              have hnl : s.data.toList.drop (k + 1) ≠ [] := by
                intro h
                have := congrArg List.length h
                simp at this; omega
              by_cases hp0 : p = 0
              · subst hp0
                have HX : Hid (rform (s.data.toList.drop (k + 1)) 1 = rform s.data.toList 0) := by
                  show _ = _
                  rw [← HA2.out, rform, if_pos rfl, if_neg (by simp [hnl])]
                clear hc hdr  hlast HA HA2 hnl
                go_wp2
                go_round
                case rel => exact ⟨k + 1, 1, by omega, by omega, by go_num, by first | rfl | go_num, HX⟩
                case measure => simp [intOf]; omega
              · obtain rfl : p = 1 := by omega
                have HX : Hid (rform s.data.toList 0 = none) := by
                  show _ = _
                  rw [← HA2.out, rform, if_pos rfl, if_pos (.inl (by omega))]
                clear hc hdr  hlast HA HA2 hnl hp0
                go_wp2
                go_ret
                exact ⟨ret_int (by rw [HN.out, HX.out]; rfl), rfl⟩
          · have hb : (((s[k]'hlt).toNat : Int) == 46) = false := u8_nb rfl hc
            cases hd : isDig (s[k]'hlt) with
            | true =>
              have HX : Hid (rform (s.data.toList.drop (k + 1)) p = rform s.data.toList 0) := by
                show _ = _
                rw [← HA2.out, rform, if_neg hc, if_pos hd]
              clear hc hdr  HA HA2
              go_wp2_with (go_at_call 28; refine (rdigit_any _ _).mono ?_; rintro e w' ⟨rfl, rfl⟩)
              go_round
              case rel => exact ⟨k + 1, p, by omega, by omega, by go_num, rfl, HX⟩
              case measure => simp [intOf]; omega
            | false =>
              have HX : Hid (rform s.data.toList 0 = none) := by
                show _ = _
                rw [← HA2.out, rform, if_neg hc, if_neg (by rw [hd]; simp)]
              clear hc hdr  HA HA2
              go_wp2_with (go_at_call 28; refine (rdigit_any _ _).mono ?_; rintro e w' ⟨rfl, rfl⟩)
              go_ret
              exact ⟨ret_int (by rw [HN.out, HX.out]; rfl), rfl⟩
        · obtain rfl : k = s.size := by omega
          have HX : Hid (rform s.data.toList 0 = some p) := by
            show _ = _
            rw [← HA.out, drop_end]; rfl
          clear HA
          have hsz : s.data.toList.length = s.size := by simp
          by_cases h0 : s[0]'hp = 48
          · have hb0 : (((s[0]'hp).toNat : Int) == 48) = true := by rw [h0]; rfl
            by_cases h1 : 1 < s.size
            · have hg1 := getD_at s 1 h1
              by_cases h2 : s[1]'h1 = 46
              · have hb2 : (((s[1]'h1).toNat : Int) != 46) = false := by rw [h2]; rfl
                have HF : Hid (numForm s.data.toList = 1 + (p : Int)) := by
                  show _ = _
                  rw [HN.out, HX.out, fmt4, if_neg (by rw [hg1, h2]; simp)]
                clear hg1   h0 h2 hsz
                go_wp2
                go_ret
                exact ⟨ret_int (by rw [HF.out]), rfl⟩
              · have hb2 : (((s[1]'h1).toNat : Int) != 46) = true := by simp [bne, u8_nb (d := 46) (n := 46) rfl h2]
                have HF : Hid (numForm s.data.toList = 0) := by
                  show _ = _
                  rw [HN.out, HX.out, fmt4, if_pos ⟨by rw [HG0.out]; exact h0, by omega, by rw [hg1]; exact h2⟩]
                clear hg1   h0 h2 hsz
                go_wp2
                go_ret
                exact ⟨ret_int (by rw [HF.out]), rfl⟩
            · have HF : Hid (numForm s.data.toList = 1 + (p : Int)) := by
                show _ = _
                rw [HN.out, HX.out, fmt4, if_neg (by omega)]
              clear  h0 hsz
              go_wp2
              go_ret
              exact ⟨ret_int (by rw [HF.out]), rfl⟩
          · have hb0 : (((s[0]'hp).toNat : Int) == 48) = false := u8_nb rfl h0
            have HF : Hid (numForm s.data.toList = 1 + (p : Int)) := by
              show _ = _
              rw [HN.out, HX.out, fmt4, if_neg (by rw [HG0.out]; exact fun h => h0 h.1)]
            clear  h0 hsz
            go_wp2
            go_ret
            exact ⟨ret_int (by rw [HF.out]), rfl⟩
end Go.Proofs.Ytapdepjkcbipaaa
