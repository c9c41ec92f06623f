import Derived.Test.YtapdepjkcbipaaaLexC
import Derived.Test.YtapdepjkcbipaaaLexW
namespace Go.Proofs.Ytapdepjkcbipaaa
set_option linter.unusedVariables false
set_option linter.unusedSimpArgs false
open Go.RowKit
def wordsV : Array Value := (wordsL.map fun l => Value.string ⟨l.toArray⟩).toArray
theorem words_any (w : World) : Calls Try.prog 20 #[] w fun e w' => e = .returned (.slice (some ⟨w.heap.size, 0, none⟩) 26 26) ∧ Blk w' w.heap.size 9 wordsV ∧ Below w.heap.size w w' := by
  go_enter Try.func20, Try.ntmps20
  go_wp2
  go_ret
  exact ⟨rfl, Blk.new _ _ _, bl_alloc (bl_refl _) _⟩
theorem wordsV_at (k : Nat) (h : k < 26) : wordsV[k]? = some (.string ⟨(wordsL.getD k []).toArray⟩) := by
  have hl : k < wordsL.length := h
  simp only [wordsV, List.getElem?_toArray, List.getElem?_map, List.getElem?_eq_getElem hl, Option.map_some, List.getD, Option.getD_some]
theorem isWord_at {l : List UInt8} {k : Nat} (h : k < 26) (he : wordsL.getD k [] = l) : isWord l = true := by
  have hl : k < wordsL.length := h
  rw [List.getD, List.getElem?_eq_getElem hl] at he
  simp only [isWord, List.contains_iff_mem]
  rw [← he]; exact List.getElem_mem hl
theorem isWord_none {l : List UInt8} (h : ∀ j, j < 26 → wordsL.getD j [] ≠ l) : isWord l = false := by
  cases hw : isWord l with
  | false => rfl
  | true =>
    exfalso
    have hm : l ∈ wordsL := by simpa [isWord] using hw
    obtain ⟨j, hj, he⟩ := List.getElem_of_mem hm
    refine h j hj ?_
    rw [List.getD, List.getElem?_eq_getElem hj]; exact he
def noneTo (l : List UInt8) (k : Nat) : Prop := ∀ j, j < k → wordsL.getD j [] ≠ l
theorem noneTo_succ {l : List UInt8} {k : Nat} (h : noneTo l k) (hk : wordsL.getD k [] ≠ l) : noneTo l (k + 1) := fun j hj => by
  rcases Nat.lt_or_eq_of_le (Nat.le_of_lt_succ hj) with h1 | h1
  · exact h j h1
  · rw [h1]; exact hk
theorem str_eq (a b : ByteArray) : (a.toList == b.toList) = decide (a.data.toList = b.data.toList) := by
  rw [ByteArray.toList_eq, ByteArray.toList_eq, Bool.eq_iff_iff, beq_iff_eq, decide_eq_true_eq]
set_option maxHeartbeats 4000000 in
theorem rOf5_any (s : ByteArray) (w : World) (hs : s.size ≤ 9223372036854775807) :
    Calls Try.prog 10 #[.string s] w fun e w' => e = .returned (.int .i64 (kindOf s.data.toList)) ∧ Below w.heap.size w w' := by
  have hem : s.toList = s.data.toList := ByteArray.toList_eq s
  by_cases h5 : s.data.toList = [123] ∨ s.data.toList = [125] ∨ s.data.toList = [59]
  · have HK := Lib.hid (kind_sign h5)
    rw [← hem] at h5
    clear hem
    rcases h5 with h5 | h5 | h5
    all_goals
      go_enter Try.func10, Try.ntmps10
      go_wp2
      go_ret
      exact ⟨ret_int (by rw [HK.out]), bl_refl _⟩
  · have h5n := h5
    have q1 : (s.toList == [123]) = false := beq_eq_false_iff_ne.2 fun h => h5 (.inl (hem ▸ h))
    have q2 : (s.toList == [125]) = false := beq_eq_false_iff_ne.2 fun h => h5 (.inr (.inl (hem ▸ h)))
    have q3 : (s.toList == [59]) = false := beq_eq_false_iff_ne.2 fun h => h5 (.inr (.inr (hem ▸ h)))
    have H5 := Lib.hid h5
    clear h5 h5n
    by_cases hz : s.size = 0
    · have hl := (size_pos s).2 hz
      have h1 : s.toList.isEmpty = true := by rw [hem, hl]; rfl
      have HK := Lib.hid (kind_no H5.out (.inl hl))
      clear hl hem hz
      go_enter Try.func10, Try.ntmps10
      go_wp2
      go_ret
      exact ⟨ret_int (by rw [HK.out]), bl_refl _⟩
    · have hp : 0 < s.size := by omega
      have hl : s.data.toList ≠ [] := fun h => hz ((size_pos s).1 h)
      have h1 : s.toList.isEmpty = false := by rw [hem]; simpa using hl
      have HL := Lib.hid hl
      have HE := Lib.hid hem
      clear hz hl hem
      go_enter Try.func10, Try.ntmps10
      go_wp2_with fail
      clear q1 q2 q3 h1
      go_loop [3, 4] (fun pv v => ∃ (k : Nat) (b : Bool), k ≤ s.size ∧ v = .int .i64 k ∧ pv = .bool b ∧ Hid (b = plainB (s.data.toList.take k)) ∧ Hid ((s.data.toList.take k).all isLet = true)) (fun _ v => s.size - (intOf v).toNat)
      case atStart => exact ⟨0, true, Nat.zero_le _, rfl, rfl, by simp [Hid, plainB], by simp [Hid]⟩
      case round =>
        obtain ⟨k, b, hk, rfl, rfl, HB, HA⟩ := hrel
        by_cases hlt : k < s.size
        · have hu := all_upto s isLet k hlt
          have hv := all_upto s (fun c => c != 46 && c != 45) k hlt
          have hbad := all_false s isLet k hlt
          have HU := Lib.hid hu
          have HV := Lib.hid hv
          clear hu hv
          cases hi : isLet (s[k]'hlt) with
          | false =>
            have HK := Lib.hid (kind_no H5.out (.inr (hbad hi)))
            clear hbad
            go_wp2_with (go_at_call 14; refine (rletter_any _ _).mono ?_; rintro e w' ⟨rfl, rfl⟩)
            go_ret
            exact ⟨ret_int (by rw [HK.out]), bl_refl _⟩
          | true =>
            clear hbad
            have HI := Lib.hid hi
            have HX : Hid ((s.data.toList.take (k + 1)).all isLet = true) := by
              show _ = _
              rw [HU.out, HA.out, hi]; rfl
            have h46 : (((s[k]'hlt).toNat : Int) != 46) = (s[k]'hlt != 46) := by
              by_cases h : s[k]'hlt = 46
              · rw [h]; rfl
              · simp [bne, u8_nb (d := 46) (n := 46) rfl h, h]
            have h45 : (((s[k]'hlt).toNat : Int) != 45) = (s[k]'hlt != 45) := by
              by_cases h : s[k]'hlt = 45
              · rw [h]; rfl
              · simp [bne, u8_nb (d := 45) (n := 45) rfl h, h]
            have HP : Hid (plainB (s.data.toList.take (k + 1)) = (b && (((s[k]'hlt).toNat : Int) != 46 && ((s[k]'hlt).toNat : Int) != 45))) := by
              show _ = _
              rw [plainB, HV.out, h46, h45, HB.out]; rfl
            clear h46 h45
            cases b with
            | false =>
              go_wp2_with (go_at_call 14; refine (rletter_any _ _).mono ?_; rintro e w' ⟨rfl, rfl⟩)
              go_round
              case rel => exact ⟨k + 1, false, by omega, by go_num, rfl, (show _ = _ by rw [HP.out]; rfl), HX⟩
              case measure => simp [intOf]; omega
            | true =>
              have hbq : ∀ n : Int, (((s[k]'hlt).toNat : Int) != n) = true ∨ (((s[k]'hlt).toNat : Int) != n) = false := fun n => by cases (((s[k]'hlt).toNat : Int) != n) <;> simp
              rcases hbq 46 with g1 | g1
              · rcases hbq 45 with g2 | g2
                all_goals
                  have HPP := Lib.hid (HP.out.trans (by rw [g1, g2]))
                  clear hbq
                  go_wp2_with (go_at_call 14; refine (rletter_any _ _).mono ?_; rintro e w' ⟨rfl, rfl⟩)
                  go_round
                  case rel => exact ⟨k + 1, _, by omega, by go_num, rfl, (show _ = _ by rw [HPP.out]; simp), HX⟩
                  case measure => simp [intOf]; omega
              · have HPP := Lib.hid (HP.out.trans (by rw [g1]))
                clear hbq
                go_wp2_with (go_at_call 14; refine (rletter_any _ _).mono ?_; rintro e w' ⟨rfl, rfl⟩)
                go_round
                case rel => exact ⟨k + 1, _, by omega, by go_num, rfl, (show _ = _ by rw [HPP.out]; simp), HX⟩
                case measure => simp [intOf]; omega
        · obtain rfl : k = s.size := by omega
          have hA := HA.out
          have hB := HB.out
          rw [take_end] at hA hB
          have HK := Lib.hid (kind_let hA HL.out)
          have HBB := Lib.hid hB
          clear hA hB HA HB
          go_wp2_with (go_at_call 20; refine (words_any _).mono ?_; rintro e w1 ⟨rfl, hw1, hb1⟩)
          have hz1 := hw1.lt
          go_loop [47] (fun v => ∃ k : Nat, k ≤ 26 ∧ v = .int .i64 k ∧ Hid (noneTo s.data.toList k)) (fun v => 26 - (intOf v).toNat)
          case atStart => exact ⟨0, by omega, rfl, fun j hj => absurd hj (by omega)⟩
          case round =>
            obtain ⟨k, hk, rfl, HN⟩ := hrel
            by_cases hlt : k < 26
            · have hc := (hw1.cell k).trans (wordsV_at k hlt)
              by_cases hq : wordsL.getD k [] = s.data.toList
              · have hb := str_eq ⟨(wordsL.getD k []).toArray⟩ s
                rw [decide_eq_true (by simpa using hq)] at hb
                have HF : Hid (kindOf s.data.toList = 2) := by
                  show _ = _
                  rw [HK.out, if_pos (isWord_at hlt hq)]
                clear hq
                generalize (⟨(wordsL.getD k []).toArray⟩ : ByteArray) = x at *
                go_wp2
                go_ret
                exact ⟨ret_int (by rw [HF.out]), hb1⟩
              · have hb := str_eq ⟨(wordsL.getD k []).toArray⟩ s
                rw [decide_eq_false (by simpa using hq)] at hb
                have HX : Hid (noneTo s.data.toList (k + 1)) := noneTo_succ HN.out hq
                clear hq
                generalize (⟨(wordsL.getD k []).toArray⟩ : ByteArray) = x at *
                go_wp2
                go_round
                case rel => exact ⟨k + 1, by omega, by go_num, HX⟩
                case measure => simp [intOf]; omega
            · obtain rfl : k = 26 := by omega
              have HW := Lib.hid (HK.out.trans (by rw [if_neg (by rw [isWord_none HN.out]; simp)]))
              clear hlt HN
              have hg0 := getD_at s 0 hp
              have hcl := (s[0]'hp).toNat_lt
              have hnn := numForm_nonneg s.data.toList
              have HDF : Hid (digFirst s.data.toList = (decide (48 ≤ ((s[0]'hp).toNat : Int)) && decide (((s[0]'hp).toNat : Int) ≤ 57))) := by
                show _ = _
                rw [digFirst, hg0, Bool.eq_iff_iff]; simp [isDig]; omega
              clear hg0
              by_cases hA : b = true ∧ (((s[0]'hp).toNat : Int) < 48 ∨ 57 < ((s[0]'hp).toNat : Int))
              · obtain ⟨rfl, hA⟩ := hA
                have HF := Lib.hid (HW.out.trans (if_pos ⟨HBB.out.symm, HDF.out.trans (by simp; omega)⟩))
                rcases hA with hA | hA
                · go_wp2
                  go_ret
                  exact ⟨ret_int (by rw [HF.out]), hb1⟩
                · go_wp2
                  go_ret
                  exact ⟨ret_int (by rw [HF.out]), hb1⟩
              · have HF := Lib.hid (HW.out.trans (if_neg (fun h => hA ⟨HBB.out.trans h.1, by have := HDF.out.symm.trans h.2; simp at this; omega⟩)))
                clear HW
                by_cases hn : 0 < numForm s.data.toList
                · have HF3 := Lib.hid (HF.out.trans (if_pos (by omega)))
                  clear HF
                  cases b with
                  | false =>
                    go_wp2_with (go_at_call 21; refine (rOf4_any _ _ hs).mono ?_; rintro e w' ⟨rfl, rfl⟩)
                    go_ret
                    exact ⟨ret_int (by rw [HF3.out]), hb1⟩
                  | true =>
                    have hA2 : ¬ (((s[0]'hp).toNat : Int) < 48 ∨ 57 < ((s[0]'hp).toNat : Int)) := fun h => hA ⟨rfl, h⟩
                    have g1 : 48 ≤ ((s[0]'hp).toNat : Int) := by omega
                    have g2 : ((s[0]'hp).toNat : Int) ≤ 57 := by omega
                    clear hA hA2
                    go_wp2_with (go_at_call 21; refine (rOf4_any _ _ hs).mono ?_; rintro e w' ⟨rfl, rfl⟩)
                    go_ret
                    exact ⟨ret_int (by rw [HF3.out]), hb1⟩
                · have HF4 := Lib.hid (HF.out.trans (if_neg (by omega)))
                  clear HF
                  cases hpk : pOk s
                  all_goals
                    have HPK := Lib.hid hpk
                    cases b with
                    | false =>
                      go_wp2_with (first | (go_at_call 21; refine (rOf4_any _ _ hs).mono ?_; rintro e w' ⟨rfl, rfl⟩) | (go_at_call 22; refine (rparse_any _ _).mono ?_; rintro e w2 ⟨rfl, hb2⟩))
                      go_ret
                      refine ⟨ret_int (by rw [HF4.out]; have h := HPK.out; simp only [pOk] at h; rw [h]; rfl), ?_⟩
                      exact bl_alloc (bl_call hb1 hb2) _
                    | true =>
                      have hA2 : ¬ (((s[0]'hp).toNat : Int) < 48 ∨ 57 < ((s[0]'hp).toNat : Int)) := fun h => hA ⟨rfl, h⟩
                      have g1 : 48 ≤ ((s[0]'hp).toNat : Int) := by omega
                      have g2 : ((s[0]'hp).toNat : Int) ≤ 57 := by omega
                      clear hA hA2
                      go_wp2_with (first | (go_at_call 21; refine (rOf4_any _ _ hs).mono ?_; rintro e w' ⟨rfl, rfl⟩) | (go_at_call 22; refine (rparse_any _ _).mono ?_; rintro e w2 ⟨rfl, hb2⟩))
                      go_ret
                      refine ⟨ret_int (by rw [HF4.out]; have h := HPK.out; simp only [pOk] at h; rw [h]; rfl), ?_⟩
                      exact bl_alloc (bl_call hb1 hb2) _
end Go.Proofs.Ytapdepjkcbipaaa
