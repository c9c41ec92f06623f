import Derived.Test.YtmhimnmiclnbjaaDoorDecB
namespace Go.Proofs.YtmhimnmiclnbjaaDoor
set_option linter.unusedVariables false
set_option linter.unusedSimpArgs false
open Go.RowKit
theorem form_three (l : List UInt8) : formL l = 0 ∨ formL l = 1 ∨ formL l = 2 := by
  unfold formL formW
  split
  · exact .inl rfl
  · split
    · exact .inr (.inl rfl)
    · split
      · exact .inr (.inr rfl)
      · exact .inl rfl
theorem form_digits {l : List UInt8} (h : formL l ≠ 0) : (Lib.cut l [46]).1.all isDig = true ∧ (Lib.cut l [46]).1 ≠ [] ∧ (Lib.cut l [46]).2.1.all isDig = true := by
  have h0 := h
  unfold formL formW at h
  have hd : digitsB (Lib.cut l [46]).1 = true := by
    cases hh : digitsB (Lib.cut l [46]).1 with
    | true => rfl
    | false => rw [hh] at h; exact absurd rfl h
  have h1 : (Lib.cut l [46]).1.all isDig = true ∧ (Lib.cut l [46]).1 ≠ [] := by
    unfold digitsB at hd
    rw [Bool.and_eq_true] at hd
    refine ⟨hd.1, fun e => ?_⟩
    rw [e] at hd
    exact absurd hd.2 (by decide)
  refine ⟨h1.1, h1.2, ?_⟩
  rcases cut_spec l with ⟨e, _⟩ | ⟨a, b, e', ha, e⟩
  · rw [e]; rfl
  · rw [e] at h ⊢
    cases hh : digitsB b with
    | true => unfold digitsB at hh; rw [Bool.and_eq_true] at hh; exact hh.1
    | false =>
      rw [hh] at h
      exact absurd (by split <;> rfl) h
theorem cut_len (l : List UInt8) : (Lib.cut l [46]).1.length + (Lib.cut l [46]).2.1.length ≤ l.length := by
  rcases cut_spec l with ⟨e, _⟩ | ⟨a, b, e', ha, e⟩
  · rw [e]; simp
  · rw [e, e']; simp
theorem repeat_char (c : Nat) : Lib.repeatL (ByteArray.mk #[48]).data.toList c = List.replicate c 48 := by
  have := Lib.repeatL_replicate 48 1 c
  rw [Nat.mul_one] at this
  exact this
/-- Atoi of digits -/
theorem atoi_any (l : List UInt8) (w : World) (hT : DT w) (h : l.all isDig = true) (hne : l ≠ []) (hl : l.length ≤ 200) :
    Calls Tryd.prog 15 #[.string ⟨l.toArray⟩] w fun e w' => ((valN 0 l < 9223372036854775808 ∧ e = .returned (.tuple #[.int .i64 (valN 0 l : Int), .nilIface])) ∨ (9223372036854775808 ≤ valN 0 l ∧ ∃ n N, e = .returned (.tuple #[.int .i64 n, .iface 80 (.pointer (some ⟨N, 0, none⟩))]))) ∧ Below w.heap.size w w' := by
  have ha := atoi_val h hne
  have hs : (ByteArray.mk l.toArray).size = l.length := by simp [ByteArray.size]
  by_cases hv : valN 0 l < 9223372036854775808
  · rw [if_pos hv] at ha
    refine (Tryd.strconv_Atoi_ok ⟨l.toArray⟩ (by omega) _ ha w).mono ?_
    rintro e w' ⟨rfl, hw⟩
    refine ⟨.inl ⟨hv, rfl⟩, ?_⟩
    rcases hw with rfl | ⟨t, rfl⟩
    · exact bl_refl _
    · exact Lib.bytesWorld_below w _ t
  · rw [if_neg hv] at ha
    obtain ⟨ev, h1, h2⟩ := hT.er
    refine (Tryd.strconv_Atoi_range ⟨l.toArray⟩ (by omega) ha ev w h1 h2).mono ?_
    rintro e w' ⟨N, rfl, _, _, hb⟩
    exact ⟨.inr ⟨by omega, _, N, rfl⟩, hb⟩
set_option maxHeartbeats 4000000 in
theorem dparse_any (s : ByteArray) (places most : Int) (w : World) (hT : DT w) (hs : s.size ≤ 100) :
    Calls Tryd.prog 8 #[.string s, .int .i64 places, .int .i64 most] w fun e w' => e = .returned (.tuple #[.int .i64 (parseL s.data.toList places most).1, .int .i64 (parseL s.data.toList places most).2]) ∧ Below w.heap.size w w' := by
  have hform := dof_any s w hT (by omega)
  have h3 := form_three s.data.toList
  have hd := @form_digits s.data.toList
  have hcl := cut_len s.data.toList
  have hsl : s.data.toList.length = s.size := (Lib.size_eq s).symm
  rw [hsl] at hcl
  unfold parseL
  have hcut := fun v hb => cut_any s v (hT.below hb) (by omega)
  generalize (Lib.cut s.data.toList [46]).1 = a at *
  generalize (Lib.cut s.data.toList [46]).2.1 = b at *
  generalize (Lib.cut s.data.toList [46]).2.2 = p at *
  generalize formL s.data.toList = f at *
  have eb : (⟨b.toArray⟩ : ByteArray).size = b.length := by simp [ByteArray.size]
  have hcase : ((f = 0 ∨ f = 1 ∨ f = 2) ∧ (f = 0 ∨ places < 0 ∨ 9 < places ∨ (f = 2 ∧ places = 0))) ∨ ((f = 1 ∨ f = 2) ∧ 0 ≤ places ∧ places ≤ 9 ∧ (f = 1 ∨ places ≠ 0)) := by omega
  rcases hcase with ⟨hf, hbad⟩ | ⟨hf, p0, p9, hp⟩
  · have e1 : parseW f a b places most = (0, 1) := by unfold parseW; rw [if_pos hbad]
    rw [e1]
    have hcc : f = 0 ∨ ((f = 1 ∨ f = 2) ∧ places < 0) ∨ ((f = 1 ∨ f = 2) ∧ 0 ≤ places ∧ 9 < places) ∨ (f = 2 ∧ places = 0) := by omega
    clear hd hcut e1 hbad hf h3
    rcases hcc with rfl | ⟨rfl | rfl, h⟩ | ⟨rfl | rfl, h, h'⟩ | ⟨rfl, rfl⟩
    all_goals
      go_enter Tryd.func8, Tryd.ntmps8
      go_wp2_with fail
      refine hform.mono ?_
      rintro e w1 ⟨rfl, hb1⟩
      go_wp2_with fail
      go_ret2
      exact ⟨rfl, hb1⟩
  · obtain ⟨d1, d2, d3⟩ := hd (by omega)
    have hn0 : ¬ (f = 0 ∨ places < 0 ∨ 9 < places ∨ (f = 2 ∧ places = 0)) := by omega
    by_cases hlong : places < (b.length : Int)
    · have e1 : parseW f a b places most = (0, 1) := by unfold parseW; rw [if_neg hn0, if_pos hlong]
      rw [e1]
      clear hd h3 e1 hn0 d1 d2 d3
      rcases hf with rfl | rfl
      · go_enter Tryd.func8, Tryd.ntmps8
        go_wp2_with fail
        refine hform.mono ?_
        rintro e w1 ⟨rfl, hb1⟩
        go_wp2_with fail
        refine (hcut _ hb1).mono ?_
        rintro e w2 ⟨rfl, hb2⟩
        go_wp2_with fail
        go_ret2
        exact ⟨rfl, bl_call hb1 hb2⟩
      · have hp' : (places == 0) = false := by rw [beq_eq_false_iff_ne]; omega
        clear hp
        go_enter Tryd.func8, Tryd.ntmps8
        go_wp2_with fail
        refine hform.mono ?_
        rintro e w1 ⟨rfl, hb1⟩
        go_wp2_with fail
        refine (hcut _ hb1).mono ?_
        rintro e w2 ⟨rfl, hb2⟩
        go_wp2_with fail
        go_ret2
        exact ⟨rfl, bl_call hb1 hb2⟩
    · obtain ⟨k, hk⟩ : ∃ k : Nat, places = (k : Int) := ⟨places.toNat, by omega⟩
      subst hk
      have hkb : b.length ≤ k := by omega
      have hrep : (k : Int) - (b.length : Int) = ((k - b.length : Nat) : Int) := by omega
      obtain ⟨L, hL⟩ : ∃ L, a ++ fillL b k = L := ⟨_, rfl⟩
      have hz : (List.replicate (k - b.length) (48 : UInt8)).all isDig = true := by simp [isDig]
      have la : L.all isDig = true := by rw [← hL, fillL, List.all_append, List.all_append, d1, d3, hz]; rfl
      have ln : L ≠ [] := by rw [← hL]; simp [d2]
      have ll : L.length ≤ 200 := by rw [← hL, fillL, List.length_append, List.length_append, List.length_replicate]; omega
      have hat := fun v hb => atoi_any L v (hT.below hb) la ln ll
      have hres : (9223372036854775808 ≤ valN 0 L ∧ parseW f a b k most = (0, 2)) ∨ (valN 0 L < 9223372036854775808 ∧ most < (valN 0 L : Int) ∧ parseW f a b k most = (0, 2)) ∨ (valN 0 L < 9223372036854775808 ∧ (valN 0 L : Int) ≤ most ∧ parseW f a b k most = ((valN 0 L : Int), 0)) := by
        unfold parseW
        rw [if_neg hn0, if_neg hlong, Int.toNat_natCast, hL]
        by_cases c1 : 9223372036854775808 ≤ valN 0 L
        · exact .inl ⟨c1, by rw [if_pos (.inl c1)]⟩
        · by_cases c2 : most < (valN 0 L : Int)
          · exact .inr (.inl ⟨by omega, c2, by rw [if_pos (.inr c2)]⟩)
          · exact .inr (.inr ⟨by omega, by omega, by rw [if_neg (by omega)]⟩)
      have HL := Lib.hid hL
      generalize valN 0 L = V at *
      have hcat : (ByteArray.mk a.toArray) ++ (ByteArray.mk b.toArray) ++ (ByteArray.mk (Array.replicate (k - b.length) 48)) = ⟨L.toArray⟩ := by
        rw [← HL.out, fillL]
        apply ByteArray.ext; simp
      have HC := Lib.hid hcat
      clear hcat hL la ln ll hz d1 d2 d3 hd h3 hn0
      have hbig : b.length ≤ 100 := by omega
      have hbig2 : a.length ≤ 100 := by omega
      have ea : (⟨a.toArray⟩ : ByteArray).size = a.length := by simp [ByteArray.size]
      have er : (ByteArray.mk (List.replicate (k - b.length) (48 : UInt8)).toArray).size = k - b.length := by simp [ByteArray.size]
      have hv1 : ¬ 9223372036854775807 < a.length + b.length := by omega
      have hv2 : ¬ 9223372036854775807 < a.length + b.length + (k - b.length) := by omega
      have hp' : f = 1 ∨ (f = 2 ∧ ((k : Int) == 0) = false) := by
        rcases hf with h | h
        · exact .inl h
        · exact .inr ⟨h, by rw [beq_eq_false_iff_ne]; omega⟩
      clear hp hf
      rcases hres with ⟨c1, e1⟩ | ⟨c1, c2, e1⟩ | ⟨c1, c2, e1⟩
      all_goals
        rw [e1]
        clear e1
        rcases hp' with rfl | ⟨rfl, hp'⟩
      all_goals
        go_enter Tryd.func8, Tryd.ntmps8
        go_wp2_with fail
        refine hform.mono ?_
        rintro e w1 ⟨rfl, hb1⟩
        go_wp2_with fail
        refine (hcut _ hb1).mono ?_
        rintro e w2 ⟨rfl, hb2⟩
        have hb12 := bl_call hb1 hb2
        go_wp2_with fail
        refine (Tryd.strings_Repeat _ (k - b.length) _ (by omega) ?_).mono ?_
        · show 1 * (k - b.length) ≤ _; omega
        rintro e w3 ⟨rfl, hb3⟩
        rw [repeat_char]
        have hb123 := bl_call hb12 hb3
        go_wp2_with fail
        rw [HC.out]
        refine (hat _ hb123).mono ?_
        rintro e w4 ⟨h, hb4⟩
        have hb1234 := bl_call hb123 hb4
      all_goals
        rcases h with ⟨hv, rfl⟩ | ⟨hv, n, N, rfl⟩
      all_goals first
        | (exfalso; omega)
        | (go_wp2_with fail; go_ret2; exact ⟨rfl, hb1234⟩)
end Go.Proofs.YtmhimnmiclnbjaaDoor
