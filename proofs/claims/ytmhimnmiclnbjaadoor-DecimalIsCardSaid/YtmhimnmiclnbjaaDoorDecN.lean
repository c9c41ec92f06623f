import Derived.Test.YtmhimnmiclnbjaaDoorDecM
namespace Go.Proofs.YtmhimnmiclnbjaaDoor
set_option linter.unusedVariables false
set_option linter.unusedSimpArgs false
open Go.RowKit
theorem one_byte (w : World) (N : Nat) (h : (48 + (N : Int) % 10) = ((UInt8.ofNat (48 + N % 10)).toNat : Int)) :
    (convert 50 9 (.slice (some ⟨w.heap.size, 0, none⟩) 1 1)).run Tryd.prog (w.alloc (.cells #[.int .u8 (48 + (N : Int) % 10)] 5)) = .ok (.string ⟨#[UInt8.ofNat (48 + N % 10)]⟩) (w.alloc (.cells #[.int .u8 (48 + (N : Int) % 10)] 5)) := by
  refine run_convert_bytes_back _ _ _ 5 ⟨w.heap.size, 0, none⟩ 1 [UInt8.ofNat (48 + N % 10)] Tryd.underlying50 Tryd.underlying5 Tryd.underlying9 fun j hj => ?_
  obtain rfl : j = 0 := by simpa using hj
  have hb := (Blk.new w 5 #[.int .u8 (48 + (N : Int) % 10)]).cell 0
  simp only [List.getElem_cons_zero, ← h]
  exact hb
set_option maxHeartbeats 4000000 in
set_option maxRecDepth 100000 in
theorem rtext_any (n places : Int) (w : World) (hn : n ≤ 9223372036854775807) :
    Calls Tryd.prog 13 #[.int .i64 n, .int .i64 places] w fun e w' => e = .returned (.string ⟨(textL n places).toArray⟩) ∧ Below w.heap.size w w' := by
  by_cases hbad : n < 0 ∨ places < 0 ∨ 9 < places
  · have e1 := text_bad hbad
    rw [e1]
    have hcc : n < 0 ∨ (0 ≤ n ∧ places < 0) ∨ (0 ≤ n ∧ 0 ≤ places ∧ 9 < places) := by omega
    clear hbad e1
    rcases hcc with h | ⟨h0, h⟩ | ⟨h0, h1, h⟩
    all_goals
      go_enter Tryd.func13, Tryd.ntmps13
      go_wp2_with fail
      go_ret
      exact ⟨rfl, bl_refl w⟩
  · obtain ⟨k, hk⟩ : ∃ k : Nat, places = (k : Int) := ⟨places.toNat, by omega⟩
    obtain ⟨N, hN⟩ : ∃ N : Nat, n = (N : Int) := ⟨n.toNat, by omega⟩
    subst hk hN
    rw [text_good N k (by omega)]
    obtain ⟨T, hT⟩ : ∃ T, textN N k = T := ⟨_, rfl⟩
    rw [hT]
    have HT := Lib.hid hT
    clear hT
    have hk9 : ¬ 9 < (k : Int) := by omega
    go_enter Tryd.func13, Tryd.ntmps13
    go_wp2_with fail
    go_loopw [0, 5, 6] (fun v0 v5 v6 wr => ∃ i : Nat, i ≤ k ∧ v6 = .int .i64 i ∧ v0 = .int .i64 ((N / 10 ^ i : Nat) : Int) ∧ v5 = .string ⟨(fracL N i).toArray⟩ ∧ Below w.heap.size w wr) (fun _ _ v6 _ => k - (intOf v6).toNat)
    case atStart => exact ⟨0, Nat.zero_le _, rfl, by simp, rfl, bl_refl w⟩
    case round =>
      obtain ⟨i, hi, rfl, rfl, rfl, hbw⟩ := hrel
      by_cases hlt : i < k
      · have hfs := frac_succ N i
        have hdv : N / 10 ^ (i + 1) = N / 10 ^ i / 10 := by rw [Nat.pow_succ, Nat.div_div_eq_div_mul]
        have hMb : N / 10 ^ i < 9223372036854775808 := Nat.lt_of_le_of_lt (Nat.div_le_self _ _) (by omega)
        have hfl := frac_len N i
        generalize N / 10 ^ i = M at *
        have HDV := Lib.hid hdv
        clear hdv
        by_cases hz : fracL N i = [] ∧ M % 10 = 0
        · rw [if_pos hz] at hfs
          have HFS := Lib.hid hfs
          rw [hz.1]
          have hm0 : ((M : Int) % 10) = 0 := by omega
          clear hfs hz hfl
          go_wp2_with fail
          go_roundw
          case rel => exact ⟨i + 1, by omega, by go_num, by rw [HDV.out]; go_num, by rw [HFS.out], hbw⟩
          case measure => simp [intOf]; omega
        · rw [if_neg hz] at hfs
          have HFS := Lib.hid hfs
          have hu : (48 + (M : Int) % 10) = ((UInt8.ofNat (48 + M % 10)).toNat : Int) := by
            rw [UInt8.toNat_ofNat_of_lt' (show 48 + M % 10 < 256 by omega)]; omega
          have hcv := one_byte wr M hu
          clear hu hfs
          have hcase : (fracL N i = [] ∧ ((M : Int) % 10 != 0) = true) ∨ ∃ c r, fracL N i = c :: r ∧ r.length ≤ 9 := by
            cases hF : fracL N i with
            | nil => exact .inl ⟨rfl, by rw [bne_iff_ne]; intro e; exact hz ⟨hF, by omega⟩⟩
            | cons c r => exact .inr ⟨c, r, rfl, by rw [hF] at hfl; simp at hfl; omega⟩
          clear hz hfl
          rcases hcase with ⟨hF, hm⟩ | ⟨c, r, hF, hrl⟩
          · rw [hF] at HFS ⊢
            go_wp2_with fail
            go_roundw
            case rel =>
              refine ⟨i + 1, by omega, by go_num, by rw [HDV.out]; go_num, ?_, bl_alloc hbw _⟩
              rw [HFS.out]
              refine congrArg Value.string ?_
              apply ByteArray.ext; simp
            case measure => simp [intOf]; omega
          · rw [hF] at HFS ⊢
            have hov : ¬ 9223372036854775807 < 1 + (r.length + 1) := by omega
            go_wp2_with fail
            go_roundw
            case rel =>
              refine ⟨i + 1, by omega, by go_num, by rw [HDV.out]; go_num, ?_, bl_alloc hbw _⟩
              rw [HFS.out]
              refine congrArg Value.string ?_
              apply ByteArray.ext; simp
            case measure => simp [intOf]; omega
      · obtain rfl : i = k := by omega
        have hT := HT.out
        unfold textN at hT
        have hMb : N / 10 ^ i < 9223372036854775808 := Nat.lt_of_le_of_lt (Nat.div_le_self _ _) (by omega)
        have hfl := frac_len N i
        generalize N / 10 ^ i = M at *
        have hcase : (fracL N i = [] ∧ tailL (fracL N i) = []) ∨ ∃ c r, fracL N i = c :: r ∧ r.length ≤ 9 ∧ tailL (fracL N i) = 46 :: c :: r := by
          cases hF : fracL N i with
          | nil => exact .inl ⟨rfl, rfl⟩
          | cons c r => exact .inr ⟨c, r, rfl, by rw [hF] at hfl; simp at hfl; omega, by unfold tailL; rw [if_neg (by simp)]⟩
        have hTl : T.length ≤ 40 := by
          rw [← hT, List.length_append]
          have h1 : (Lib.decDigits M).length ≤ 20 := by rw [Lib.decDigits_length]; exact Lib.nDigits_le20 _ (by omega)
          have h2 : (tailL (fracL N i)).length ≤ 11 := by
            rcases hcase with ⟨_, h⟩ | ⟨c, r, _, h1, h⟩
            · rw [h]; simp
            · rw [h]; simp; omega
          omega
        clear HT hfl
        rcases hcase with ⟨hF, hL⟩ | ⟨c, r, hF, hrl, hL⟩
        · rw [hL] at hT
          rw [hF]
          have HT := Lib.hid hT
          clear hT hL hF
          go_wp2_with fail
          go_loopw [0, 5] (fun v0 v5 wq => ∃ (m : Nat) (R : List UInt8), m < 9223372036854775808 ∧ R.length ≤ 40 ∧ v0 = .int .i64 m ∧ v5 = .string ⟨R.toArray⟩ ∧ Hid (Lib.decDigits m ++ R = T) ∧ Below w.heap.size w wq) (fun v0 _ _ => (intOf v0).toNat)
          case atStart => exact ⟨M, [], hMb, by simp; try omega, rfl, rfl, HT, hbw⟩
          case round =>
            obtain ⟨m, R, hm, hRl, rfl, rfl, HR, hbq⟩ := hrel
            have hu : (48 + (m : Int) % 10) = ((UInt8.ofNat (48 + m % 10)).toNat : Int) := by
              rw [UInt8.toNat_ofNat_of_lt' (show 48 + m % 10 < 256 by omega)]; omega
            have hcv := one_byte wr m hu
            clear hu
            have hov : ¬ 9223372036854775807 < 1 + R.length := by omega
            by_cases hm10 : m < 10
            · have hr := HR.out
              rw [Lib.decDigits_one hm10] at hr
              have hmm : m % 10 = m := Nat.mod_eq_of_lt hm10
              have hfin : (ByteArray.mk #[UInt8.ofNat (48 + m % 10)]) ++ (ByteArray.mk R.toArray) = ⟨T.toArray⟩ := by
                rw [← hr, hmm]; apply ByteArray.ext; simp
              have HFIN := Lib.hid hfin
              have hmd : (m : Int) / 10 = 0 := by omega
              clear hr hmm hfin HR
              go_wp2_with fail
              go_ret
              refine ⟨?_, bl_alloc hbq _⟩
              refine congrArg (fun b => Ending.returned (.string b)) ?_
              have h := HFIN.out
              rw [UInt8.ofNat_add] at h
              exact h
            · have hr := HR.out
              rw [Lib.decDigits, dif_neg hm10, List.append_assoc] at hr
              have HR2 := Lib.hid hr
              have hlen2 : R.length + 1 ≤ 40 := by
                have := congrArg List.length hr
                simp only [List.length_append, List.length_cons, List.length_nil] at this
                have h1 : 1 ≤ (Lib.decDigits (m / 10)).length := List.length_pos_iff.2 (dec_ne _)
                omega
              have hmd : (((m : Int) / 10) == 0) = false := by rw [beq_eq_false_iff_ne]; omega
              clear hr HR
              go_wp2_with fail
              go_roundw
              case rel =>
                refine ⟨m / 10, UInt8.ofNat (48 + m % 10) :: R, by omega, by simp; omega, by go_num, ?_, HR2, bl_alloc hbq _⟩
                refine congrArg Value.string ?_
                apply ByteArray.ext; simp
              case measure => simp [intOf]; omega
        · rw [hL] at hT
          rw [hF]
          have HT := Lib.hid hT
          clear hT hL hF
          have hov0 : ¬ 9223372036854775807 < 1 + (r.length + 1) := by omega
          go_wp2_with fail
          go_loopw [0, 5] (fun v0 v5 wq => ∃ (m : Nat) (R : List UInt8), m < 9223372036854775808 ∧ R.length ≤ 40 ∧ v0 = .int .i64 m ∧ v5 = .string ⟨R.toArray⟩ ∧ Hid (Lib.decDigits m ++ R = T) ∧ Below w.heap.size w wq) (fun v0 _ _ => (intOf v0).toNat)
          case atStart => exact ⟨M, 46 :: c :: r, hMb, by simp; try omega, rfl, by refine congrArg Value.string ?_; apply ByteArray.ext; simp, HT, hbw⟩
          case round =>
            obtain ⟨m, R, hm, hRl, rfl, rfl, HR, hbq⟩ := hrel
            have hu : (48 + (m : Int) % 10) = ((UInt8.ofNat (48 + m % 10)).toNat : Int) := by
              rw [UInt8.toNat_ofNat_of_lt' (show 48 + m % 10 < 256 by omega)]; omega
            have hcv := one_byte wr m hu
            clear hu
            have hov : ¬ 9223372036854775807 < 1 + R.length := by omega
            by_cases hm10 : m < 10
            · have hr := HR.out
              rw [Lib.decDigits_one hm10] at hr
              have hmm : m % 10 = m := Nat.mod_eq_of_lt hm10
              have hfin : (ByteArray.mk #[UInt8.ofNat (48 + m % 10)]) ++ (ByteArray.mk R.toArray) = ⟨T.toArray⟩ := by
                rw [← hr, hmm]; apply ByteArray.ext; simp
              have HFIN := Lib.hid hfin
              have hmd : (m : Int) / 10 = 0 := by omega
              clear hr hmm hfin HR
              go_wp2_with fail
              go_ret
              refine ⟨?_, bl_alloc hbq _⟩
              refine congrArg (fun b => Ending.returned (.string b)) ?_
              have h := HFIN.out
              rw [UInt8.ofNat_add] at h
              exact h
            · have hr := HR.out
              rw [Lib.decDigits, dif_neg hm10, List.append_assoc] at hr
              have HR2 := Lib.hid hr
              have hlen2 : R.length + 1 ≤ 40 := by
                have := congrArg List.length hr
                simp only [List.length_append, List.length_cons, List.length_nil] at this
                have h1 : 1 ≤ (Lib.decDigits (m / 10)).length := List.length_pos_iff.2 (dec_ne _)
                omega
              have hmd : (((m : Int) / 10) == 0) = false := by rw [beq_eq_false_iff_ne]; omega
              clear hr HR
              go_wp2_with fail
              go_roundw
              case rel =>
                refine ⟨m / 10, UInt8.ofNat (48 + m % 10) :: R, by omega, by simp; omega, by go_num, ?_, HR2, bl_alloc hbq _⟩
                refine congrArg Value.string ?_
                apply ByteArray.ext; simp
              case measure => simp [intOf]; omega
end Go.Proofs.YtmhimnmiclnbjaaDoor
