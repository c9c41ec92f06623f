import Derived.Test.YtmhimnmiclnbjaaDoorDecG
namespace Go.Proofs.YtmhimnmiclnbjaaDoor
set_option linter.unusedVariables false
set_option linter.unusedSimpArgs false
open Go.RowKit
theorem byte_at (a b : List UInt8) (ha : a.all isDig = true) (hb : b.all isDig = true) (i : Nat) (h : i < (ByteArray.mk (a ++ 46 :: b).toArray).size) :
    (i = a.length ∧ (((ByteArray.mk (a ++ 46 :: b).toArray)[i]'h).toNat : Int) = 46) ∨ (i ≠ a.length ∧ ((((ByteArray.mk (a ++ 46 :: b).toArray)[i]'h).toNat : Int) == 46) = false) := by
  have e : (ByteArray.mk (a ++ 46 :: b).toArray)[i]'h = (a ++ 46 :: b)[i]'(by simpa [ByteArray.size] using h) := rfl
  rw [e]
  have hdig : ∀ (c : UInt8), isDig c = true → ((c.toNat : Int) == 46) = false := fun c hc => by
    have := dig_of hc
    rw [beq_eq_false_iff_ne]; omega
  rcases Nat.lt_trichotomy i a.length with h1 | h1 | h1
  · right
    refine ⟨by omega, ?_⟩
    rw [List.getElem_append_left h1]
    exact hdig _ (List.all_eq_true.1 ha _ (List.getElem_mem _))
  · left
    refine ⟨h1, ?_⟩
    subst h1
    simp
  · right
    refine ⟨by omega, ?_⟩
    rw [List.getElem_append_right (by omega)]
    obtain ⟨j, hj⟩ : ∃ j, i - a.length = j + 1 := ⟨i - a.length - 1, by omega⟩
    simp only [hj, List.getElem_cons_succ]
    exact hdig _ (List.all_eq_true.1 hb _ (List.getElem_mem _))
set_option maxHeartbeats 4000000 in
set_option maxRecDepth 100000 in
theorem noughts_bad (n places more : Int) (w : World) (hT : DT w) (hbad : n < 0 ∨ places < 1 ∨ 9 < places ∨ more < 0 ∨ 12 < more) :
    Calls Tryd.prog 5 #[.int .i64 n, .int .i64 places, .int .i64 more] w fun e w' => e = .returned (.bool true) ∧ Below w.heap.size w w' := by
  have hcc : n < 0 ∨ (0 ≤ n ∧ places < 1) ∨ (0 ≤ n ∧ 1 ≤ places ∧ 9 < places) ∨ (0 ≤ n ∧ 1 ≤ places ∧ places ≤ 9 ∧ more < 0) ∨ (0 ≤ n ∧ 1 ≤ places ∧ places ≤ 9 ∧ 0 ≤ more ∧ 12 < more) := by omega
  clear hbad
  rcases hcc with h | ⟨h0, h⟩ | ⟨h0, h1, h⟩ | ⟨h0, h1, h2, h⟩ | ⟨h0, h1, h2, h3, h⟩
  all_goals
    go_enter Tryd.func5, Tryd.ntmps5
    go_wp2_with fail
    refine (alive_any _ hT).mono ?_
    rintro e w1 ⟨rfl, hb1⟩
    go_wp2_with fail
    go_ret
    exact ⟨by rfl, hb1⟩
set_option maxHeartbeats 4000000 in
set_option maxRecDepth 100000 in
theorem noughts_good (N k m : Nat) (w : World) (hT : DT w) (hN : N < 9223372036854775808) (k1 : 1 ≤ k) (k9 : k ≤ 9) (hm : m ≤ 12) :
    Calls Tryd.prog 5 #[.int .i64 N, .int .i64 k, .int .i64 m] w fun e w' => e = .returned (.bool true) ∧ Below w.heap.size w w' := by
  have htx := fun v hb => dtext_any (N : Int) (k : Int) v (hT.below hb) (by omega)
  rw [text_good N k k9] at htx
  have htl := text_len N k hN k9
  have hf := form_textN N k
  have hfl := frac_len N k
  have hfa := frac_all N k
  have hqa := dec_all (N / 10 ^ k)
  have ht : textN N k = Lib.decDigits (N / 10 ^ k) ++ tailL (fracL N k) := rfl
  have hcase : ∃ b : List UInt8, b.all isDig = true ∧ b.length ≤ 9 ∧ ((formL (textN N k) = 1 ∧ textN N k ++ [46, 48] = Lib.decDigits (N / 10 ^ k) ++ 46 :: b) ∨ (formL (textN N k) = 2 ∧ textN N k = Lib.decDigits (N / 10 ^ k) ++ 46 :: b)) ∧
      parseL ((Lib.decDigits (N / 10 ^ k) ++ 46 :: b) ++ List.replicate m 48) k 9223372036854775807 = if k < b.length + m then (0, 1) else ((N : Int), 0) := by
    by_cases h : fracL N k = []
    · refine ⟨[48], by decide, by decide, .inl ⟨by rw [hf, if_pos h], by rw [ht, h]; simp [tailL]⟩, ?_⟩
      have := noughts N k m [48] hN k1 k9 (.inl ⟨h, rfl⟩)
      rw [List.append_assoc, List.cons_append]
      exact this
    · refine ⟨fracL N k, hfa, by omega, .inr ⟨by rw [hf, if_neg h], by rw [ht, tailL, if_neg h]⟩, ?_⟩
      have := noughts N k m (fracL N k) hN k1 k9 (.inr ⟨h, rfl⟩)
      rw [List.append_assoc, List.cons_append]
      exact this
  obtain ⟨b, hb, hbl, hform, hpz⟩ := hcase
  clear hf hfl hfa ht
  generalize Lib.decDigits (N / 10 ^ k) = a at *
  generalize textN N k = T at *
  have es : (ByteArray.mk T.toArray).size = T.length := by simp [ByteArray.size]
  have hof := fun v hb => dof_any ⟨T.toArray⟩ v (hT.below hb) (by omega)
  rw [show (ByteArray.mk T.toArray).data.toList = T from rfl] at hof
  obtain ⟨U, hU⟩ : ∃ U, a ++ 46 :: b = U := ⟨_, rfl⟩
  have hal : a.length ≤ 31 := by
    rcases hform with ⟨_, h⟩ | ⟨_, h⟩
    · have h := congrArg List.length h
      simp only [List.length_append, List.length_cons, List.length_nil] at h
      omega
    · have h := congrArg List.length h
      simp only [List.length_append, List.length_cons] at h
      omega
  have hUl : U.length = a.length + 1 + b.length := by rw [← hU]; simp; omega
  have hbyte := byte_at a b hqa hb
  rw [hU] at hform hpz hbyte
  have HU := Lib.hid hU
  clear hU hb hqa
  have eU : (ByteArray.mk U.toArray).size = U.length := by simp [ByteArray.size]
  have hTcat : (formL T = 1 ∧ (ByteArray.mk T.toArray) ++ (ByteArray.mk #[46, 48]) = ⟨U.toArray⟩) ∨ (formL T = 2 ∧ T = U) := by
    rcases hform with ⟨h, h'⟩ | h
    · left
      refine ⟨h, ?_⟩
      rw [← h']
      apply ByteArray.ext; simp
    · exact .inr h
  clear hform
  have hpa := fun v hb => dparse_any ⟨(U ++ List.replicate m 48).toArray⟩ (k : Int) 9223372036854775807 v (hT.below hb) (by simp [ByteArray.size]; omega)
  have hdl : (ByteArray.mk (U ++ List.replicate m (48 : UInt8)).toArray).data.toList = U ++ List.replicate m 48 := rfl
  rw [hdl, hpz] at hpa
  clear hpz
  obtain ⟨al, hal'⟩ : ∃ al, a.length = al := ⟨_, rfl⟩
  obtain ⟨bl, hbl'⟩ : ∃ bl, b.length = bl := ⟨_, rfl⟩
  rw [hal', hbl'] at hUl
  rw [hbl'] at hpa hbl
  rw [hal'] at hal hbyte
  clear hal' hbl' HU
  rcases hTcat with ⟨hf, hTU⟩ | ⟨hf, hTU⟩
  · rw [hf] at hof
    clear hf
    have HTU := Lib.hid hTU
    clear hTU
    go_enter Tryd.func5, Tryd.ntmps5
    go_wp2_with fail
    refine (alive_any _ hT).mono ?_
    rintro e w1 ⟨rfl, hb1⟩
    go_wp2_with fail
    refine (htx _ hb1).mono ?_
    rintro e w2 ⟨rfl, hb2⟩
    have hbb2 := bl_call hb1 hb2
    go_wp2_with fail
    refine (hof _ hbb2).mono ?_
    rintro e w3 ⟨rfl, hb3⟩
    have hbb3 := bl_call hbb2 hb3
    go_wp2_with fail
    rw [HTU.out]
    go_loop [8, 9] (fun v8 v9 => ∃ i : Nat, i ≤ U.length ∧ v9 = .int .i64 i ∧ v8 = .int .i64 (if al < i then (bl : Int) else 0)) (fun _ v9 => U.length - (intOf v9).toNat)
    case atStart => exact ⟨0, Nat.zero_le _, rfl, by simp⟩
    case round =>
      obtain ⟨i, hi, rfl, rfl⟩ := hrel
      obtain ⟨bv, hbv⟩ : ∃ bv : Int, (if al < i then (bl : Int) else 0) = bv := ⟨_, rfl⟩
      rw [hbv]
      have HBV := Lib.hid hbv
      clear hbv
      by_cases hlt : i < U.length
      · have hil : i < (ByteArray.mk U.toArray).size := by omega
        have hby := hbyte i hil
        clear hbyte
        rcases hby with ⟨hia, hc⟩ | ⟨hia, hc⟩
        · subst hia
          go_wp2
          go_round
          case rel => exact ⟨i + 1, by omega, by go_num, by rw [if_pos (by omega)]; go_num⟩
          case measure => simp [intOf]; omega
        · go_wp2
          go_round
          case rel =>
            refine ⟨i + 1, by omega, by go_num, ?_⟩
            rw [← HBV.out]
            by_cases h : al < i
            · rw [if_pos h, if_pos (by omega)]
            · rw [if_neg h, if_neg (by omega)]
          case measure => simp [intOf]; omega
      · obtain rfl : i = U.length := by omega
        have hbe : bv = bl := by rw [← HBV.out, if_pos (by omega)]
        subst hbe
        clear hbyte HBV
        go_wp2_with fail
        go_loop [7, 10] (fun v7 v10 => ∃ j : Nat, j ≤ m ∧ v10 = .int .i64 j ∧ v7 = .string ⟨(U ++ List.replicate j 48).toArray⟩) (fun _ v10 => m - (intOf v10).toNat)
        case atStart => exact ⟨0, Nat.zero_le _, rfl, by simp⟩
        case round =>
          obtain ⟨j, hj, rfl, rfl⟩ := hrel
          have eUj : (ByteArray.mk (U ++ List.replicate j 48).toArray).size = U.length + j := by simp [ByteArray.size]
          by_cases hjm : j < m
          · have hov : ¬ 9223372036854775807 < U.length + j + 1 := by omega
            have hcat : (ByteArray.mk (U ++ List.replicate j 48).toArray) ++ (ByteArray.mk #[48]) = ⟨(U ++ List.replicate (j + 1) 48).toArray⟩ := by
              apply ByteArray.ext; simp [List.replicate_succ']
            have HC := Lib.hid hcat
            clear hcat
            generalize (ByteArray.mk (U ++ List.replicate j 48).toArray) = sj at *
            go_wp2
            go_round
            case rel => exact ⟨j + 1, by omega, by go_num, by rw [HC.out]⟩
            case measure => simp [intOf]; omega
          · obtain rfl : j = m := by omega
            clear eUj
            by_cases hkm : k < bl + j
            · rw [if_pos hkm] at hpa
              go_wp2_with fail
              refine (hpa _ hbb3).mono ?_
              rintro e w4 ⟨rfl, hb4⟩
              have hbb4 := bl_call hbb3 hb4
              go_wp2_with fail
              go_ret
              exact ⟨by rfl, hbb4⟩
            · rw [if_neg hkm] at hpa
              have hkm' : ¬ (k : Int) < (bl : Int) + (j : Int) := by omega
              go_wp2_with fail
              refine (hpa _ hbb3).mono ?_
              rintro e w4 ⟨rfl, hb4⟩
              have hbb4 := bl_call hbb3 hb4
              go_wp2_with fail
              go_ret
              exact ⟨by rfl, hbb4⟩
  · rw [hf] at hof
    clear hf
    have h2 := hTU.symm
    subst h2
    clear htl es
    go_enter Tryd.func5, Tryd.ntmps5
    go_wp2_with fail
    refine (alive_any _ hT).mono ?_
    rintro e w1 ⟨rfl, hb1⟩
    go_wp2_with fail
    refine (htx _ hb1).mono ?_
    rintro e w2 ⟨rfl, hb2⟩
    have hbb2 := bl_call hb1 hb2
    go_wp2_with fail
    refine (hof _ hbb2).mono ?_
    rintro e w3 ⟨rfl, hb3⟩
    have hbb3 := bl_call hbb2 hb3
    go_wp2_with fail
    go_loop [8, 9] (fun v8 v9 => ∃ i : Nat, i ≤ U.length ∧ v9 = .int .i64 i ∧ v8 = .int .i64 (if al < i then (bl : Int) else 0)) (fun _ v9 => U.length - (intOf v9).toNat)
    case atStart => exact ⟨0, Nat.zero_le _, rfl, by simp⟩
    case round =>
      obtain ⟨i, hi, rfl, rfl⟩ := hrel
      obtain ⟨bv, hbv⟩ : ∃ bv : Int, (if al < i then (bl : Int) else 0) = bv := ⟨_, rfl⟩
      rw [hbv]
      have HBV := Lib.hid hbv
      clear hbv
      by_cases hlt : i < U.length
      · have hil : i < (ByteArray.mk U.toArray).size := by omega
        have hby := hbyte i hil
        clear hbyte
        rcases hby with ⟨hia, hc⟩ | ⟨hia, hc⟩
        · subst hia
          go_wp2
          go_round
          case rel => exact ⟨i + 1, by omega, by go_num, by rw [if_pos (by omega)]; go_num⟩
          case measure => simp [intOf]; omega
        · go_wp2
          go_round
          case rel =>
            refine ⟨i + 1, by omega, by go_num, ?_⟩
            rw [← HBV.out]
            by_cases h : al < i
            · rw [if_pos h, if_pos (by omega)]
            · rw [if_neg h, if_neg (by omega)]
          case measure => simp [intOf]; omega
      · obtain rfl : i = U.length := by omega
        have hbe : bv = bl := by rw [← HBV.out, if_pos (by omega)]
        subst hbe
        clear hbyte HBV
        go_wp2_with fail
        go_loop [7, 10] (fun v7 v10 => ∃ j : Nat, j ≤ m ∧ v10 = .int .i64 j ∧ v7 = .string ⟨(U ++ List.replicate j 48).toArray⟩) (fun _ v10 => m - (intOf v10).toNat)
        case atStart => exact ⟨0, Nat.zero_le _, rfl, by simp⟩
        case round =>
          obtain ⟨j, hj, rfl, rfl⟩ := hrel
          have eUj : (ByteArray.mk (U ++ List.replicate j 48).toArray).size = U.length + j := by simp [ByteArray.size]
          by_cases hjm : j < m
          · have hov : ¬ 9223372036854775807 < U.length + j + 1 := by omega
            have hcat : (ByteArray.mk (U ++ List.replicate j 48).toArray) ++ (ByteArray.mk #[48]) = ⟨(U ++ List.replicate (j + 1) 48).toArray⟩ := by
              apply ByteArray.ext; simp [List.replicate_succ']
            have HC := Lib.hid hcat
            clear hcat
            generalize (ByteArray.mk (U ++ List.replicate j 48).toArray) = sj at *
            go_wp2
            go_round
            case rel => exact ⟨j + 1, by omega, by go_num, by rw [HC.out]⟩
            case measure => simp [intOf]; omega
          · obtain rfl : j = m := by omega
            clear eUj
            by_cases hkm : k < bl + j
            · rw [if_pos hkm] at hpa
              go_wp2_with fail
              refine (hpa _ hbb3).mono ?_
              rintro e w4 ⟨rfl, hb4⟩
              have hbb4 := bl_call hbb3 hb4
              go_wp2_with fail
              go_ret
              exact ⟨by rfl, hbb4⟩
            · rw [if_neg hkm] at hpa
              have hkm' : ¬ (k : Int) < (bl : Int) + (j : Int) := by omega
              go_wp2_with fail
              refine (hpa _ hbb3).mono ?_
              rintro e w4 ⟨rfl, hb4⟩
              have hbb4 := bl_call hbb3 hb4
              go_wp2_with fail
              go_ret
              exact ⟨by rfl, hbb4⟩
set_option maxHeartbeats 4000000 in
theorem decimalNoughts_any (n places more : Int) (w : World) (hT : DT w) (hn : n ≤ 9223372036854775807) :
    Calls Tryd.prog 5 #[.int .i64 n, .int .i64 places, .int .i64 more] w fun e w' => e = .returned (.bool true) ∧ Below w.heap.size w w' := by
  by_cases hbad : n < 0 ∨ places < 1 ∨ 9 < places ∨ more < 0 ∨ 12 < more
  · exact noughts_bad n places more w hT hbad
  · have h := noughts_good n.toNat places.toNat more.toNat w hT (by omega) (by omega) (by omega) (by omega)
    rwa [Int.toNat_of_nonneg (by omega), Int.toNat_of_nonneg (by omega), Int.toNat_of_nonneg (by omega)] at h
end Go.Proofs.YtmhimnmiclnbjaaDoor
