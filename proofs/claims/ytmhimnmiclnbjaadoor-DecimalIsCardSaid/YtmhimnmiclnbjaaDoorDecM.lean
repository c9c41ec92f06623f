import Derived.Test.YtmhimnmiclnbjaaDoorDecL
namespace Go.Proofs.YtmhimnmiclnbjaaDoor
set_option linter.unusedVariables false
set_option linter.unusedSimpArgs false
open Go.RowKit
theorem form_struct {l : List UInt8} (h : formL l ≠ 0) : ∃ a b, (Lib.cut l [46]).1 = a ∧ (Lib.cut l [46]).2.1 = b ∧ a.all isDig = true ∧ b.all isDig = true ∧ ((l = a ∧ b = [] ∧ formL l = 1) ∨ (l = a ++ 46 :: b ∧ b ≠ [])) := by
  obtain ⟨d1, d2, d3⟩ := form_digits h
  refine ⟨_, _, rfl, rfl, d1, d3, ?_⟩
  rcases cut_spec l with ⟨e, _⟩ | ⟨a, b, e', ha, e⟩
  · left
    rw [e]
    refine ⟨rfl, rfl, ?_⟩
    rcases form_three l with h0 | h1 | h2
    · exact absurd h0 h
    · exact h1
    · rw [e] at d1 d2
      have := form_whole d1 d2
      rw [h2] at this
      split at this <;> omega
  · right
    rw [e] at d3 ⊢
    refine ⟨e', fun hb => h ?_⟩
    have hb : b = [] := hb
    rw [e', hb]
    exact form_two (.inr rfl)
theorem parse_form {l : List UInt8} (h : formL l ≠ 0) (k : Nat) (hk : k ≤ 9) (most : Int) {a b : List UInt8} (ha : (Lib.cut l [46]).1 = a) (hb : (Lib.cut l [46]).2.1 = b) (hs : (l = a ∧ b = [] ∧ formL l = 1) ∨ (l = a ++ 46 :: b ∧ b ≠ [])) :
    parseL l k most = if k < b.length then (0, 1) else if 9223372036854775808 ≤ valN 0 (a ++ fillL b k) ∨ most < (valN 0 (a ++ fillL b k) : Int) then (0, 2) else ((valN 0 (a ++ fillL b k) : Int), 0) := by
  unfold parseL parseW
  rw [ha, hb, Int.toNat_natCast]
  by_cases hk0 : k < b.length
  · rw [if_pos hk0]
    by_cases c : formL l = 0 ∨ (k : Int) < 0 ∨ 9 < (k : Int) ∨ formL l = 2 ∧ (k : Int) = 0
    · rw [if_pos c]
    · rw [if_neg c, if_pos (by exact_mod_cast hk0)]
  · rw [if_neg hk0, if_neg, if_neg (by exact_mod_cast hk0)]
    intro c
    rcases c with c | c | c | ⟨c1, c2⟩
    · exact h c
    · omega
    · omega
    · rcases hs with ⟨_, _, h1⟩ | ⟨_, h2⟩
      · omega
      · have : 0 < b.length := List.length_pos_iff.2 h2
        omega
def digs (l : List UInt8) (i : Nat) : List UInt8 := (l.take i).filter (· != 46)
theorem digs_snoc {l : List UInt8} {i : Nat} {c : UInt8} (ht : l.take (i + 1) = l.take i ++ [c]) (hc : c ≠ 46) : digs l (i + 1) = digs l i ++ [c] := by
  unfold digs; rw [ht, List.filter_append]; simp [hc]
theorem digs_point {l : List UInt8} {i : Nat} (ht : l.take (i + 1) = l.take i ++ [46]) : digs l (i + 1) = digs l i := by
  unfold digs; rw [ht, List.filter_append]; simp
theorem filter_digs {a : List UInt8} (h : a.all isDig = true) : a.filter (· != 46) = a := by
  rw [List.filter_eq_self]
  intro c hc
  have := List.all_eq_true.1 h c hc
  rw [bne_iff_ne]
  intro e
  rw [e] at this
  exact absurd this (by decide)
theorem digs_end {l a b : List UInt8} (ha : a.all isDig = true) (hb : b.all isDig = true) (h : (l = a ∧ b = []) ∨ l = a ++ 46 :: b) : digs l l.length = a ++ b := by
  unfold digs
  rw [List.take_length]
  rcases h with ⟨rfl, rfl⟩ | rfl
  · rw [filter_digs ha, List.append_nil]
  · rw [List.filter_append, filter_digs ha]
    simp [filter_digs hb]
/-- each byte: the point, or a digit -/
theorem byte_of {l a b : List UInt8} (ha : a.all isDig = true) (hb : b.all isDig = true) (h : (l = a ∧ b = []) ∨ l = a ++ 46 :: b) (i : Nat) (hi : i < l.length) :
    (i = a.length ∧ l[i] = 46 ∧ l = a ++ 46 :: b) ∨ (i ≠ a.length ∧ isDig l[i] = true) := by
  rcases h with ⟨rfl, rfl⟩ | rfl
  · exact .inr ⟨by omega, List.all_eq_true.1 ha _ (List.getElem_mem _)⟩
  · rcases Nat.lt_trichotomy i a.length with h1 | h1 | h1
    · right
      refine ⟨by omega, ?_⟩
      rw [List.getElem_append_left h1]
      exact List.all_eq_true.1 ha _ (List.getElem_mem _)
    · left
      subst h1
      simp
    · right
      refine ⟨by omega, ?_⟩
      rw [List.getElem_append_right (by omega)]
      obtain ⟨j, hj⟩ : ∃ j, i - a.length = j + 1 := ⟨i - a.length - 1, by omega⟩
      simp only [hj, List.getElem_cons_succ]
      exact List.all_eq_true.1 hb _ (List.getElem_mem _)
theorem val_snoc (l : List UInt8) (c : UInt8) : valN 0 (l ++ [c]) = 10 * valN 0 l + (c.toNat - 48) := by
  rw [valN_append]; simp only [valN, List.foldl_cons, List.foldl_nil]; omega
/-- how many stand behind the point -/
def beh (al i : Nat) : Int := if i ≤ al then -1 else (i : Int) - al - 1
set_option maxHeartbeats 4000000 in
set_option maxRecDepth 100000 in
theorem rparse_any (s : ByteArray) (places most : Int) (w : World) (hs : s.size ≤ 100) :
    Calls Tryd.prog 9 #[.string s, .int .i64 places, .int .i64 most] w fun e w' => e = .returned (.tuple #[.int .i64 (parseL s.data.toList places most).1, .int .i64 (parseL s.data.toList places most).2]) ∧ Below w.heap.size w w' := by
  have hof := fun u => rof_any s u hs
  by_cases hbad : formL s.data.toList = 0 ∨ places < 0 ∨ 9 < places
  · have e1 : parseL s.data.toList places most = (0, 1) := by
      unfold parseL parseW; rw [if_pos (by rcases hbad with h | h | h; exact .inl h; exact .inr (.inl h); exact .inr (.inr (.inl h)))]
    rw [e1]
    clear e1
    have hb0 : ((formL s.data.toList == 0) = true) ∨ (((formL s.data.toList == 0) = false) ∧ places < 0) ∨ (((formL s.data.toList == 0) = false) ∧ 0 ≤ places ∧ 9 < places) := by
      by_cases h : formL s.data.toList = 0
      · exact .inl (beq_iff_eq.2 h)
      · have h' := beq_eq_false_iff_ne.2 h
        rcases (by omega : places < 0 ∨ (0 ≤ places ∧ 9 < places)) with h2 | h2
        · exact .inr (.inl ⟨h', h2⟩)
        · exact .inr (.inr ⟨h', h2⟩)
    generalize formL s.data.toList = f at *
    clear hbad
    rcases hb0 with h | ⟨h, h1⟩ | ⟨h, h1, h2⟩
    all_goals
      go_enter Tryd.func9, Tryd.ntmps9
      go_wp2_with fail
      refine (hof _).mono ?_
      rintro e w1 ⟨rfl, hb1⟩
      go_wp2_with fail
      go_ret2
      exact ⟨rfl, hb1⟩
  · obtain ⟨k, hk⟩ : ∃ k : Nat, places = (k : Int) := ⟨places.toNat, by omega⟩
    subst hk
    have hfn : formL s.data.toList ≠ 0 := by omega
    obtain ⟨a, b, ea, eb, da, db, hst⟩ := form_struct hfn
    have hpf := parse_form hfn k (by omega) most ea eb hst
    have hst' : (s.data.toList = a ∧ b = []) ∨ s.data.toList = a ++ 46 :: b := by
      rcases hst with ⟨h1, h2, _⟩ | ⟨h1, _⟩
      · exact .inl ⟨h1, h2⟩
      · exact .inr h1
    have hf0 : (formL s.data.toList == 0) = false := beq_eq_false_iff_ne.2 hfn
    generalize formL s.data.toList = f at *
    obtain ⟨r1, hr1⟩ : ∃ r, (parseL s.data.toList k most).1 = r := ⟨_, rfl⟩
    obtain ⟨r2, hr2⟩ : ∃ r, (parseL s.data.toList k most).2 = r := ⟨_, rfl⟩
    rw [hr1, hr2]
    have HR := Lib.hid (And.intro hpf (And.intro hr1 hr2))
    clear hpf hr1 hr2 hst ea eb hfn
    have hk9 : ¬ (9 < (k : Int)) := by omega
    go_enter Tryd.func9, Tryd.ntmps9
    go_wp2_with fail
    refine (hof _).mono ?_
    rintro e w1 ⟨rfl, hb1⟩
    go_wp2_with fail
    have hsz := (Lib.size_eq s).symm
    obtain ⟨al, hal⟩ : ∃ al, a.length = al := ⟨_, rfl⟩
    go_loopw [8, 9, 10, 11] (fun v8 v9 v10 v11 wr => ∃ i : Nat, i ≤ s.size ∧ v11 = .int .i64 i ∧ v8 = .int .i64 (beh al i) ∧ v9 = .int .i64 (satV (valN 0 (digs s.data.toList i))) ∧ v10 = .bool (satB (valN 0 (digs s.data.toList i))) ∧ Below w.heap.size w wr) (fun _ _ _ v11 _ => s.size - (intOf v11).toNat)
    case atStart => exact ⟨0, Nat.zero_le _, rfl, by unfold beh; rw [if_pos (Nat.zero_le _)], rfl, rfl, hb1⟩
    case round =>
      obtain ⟨i, hi, rfl, rfl, rfl, rfl, hbw⟩ := hrel
      by_cases hlt : i < s.size
      · have hil : i < s.data.toList.length := by omega
        have hby := byte_of da db hst' i hil
        have hsn := take_snoc s i hlt
        have hse : s.data.toList[i]'hil = s[i]'hlt := rfl
        rw [hse, hal] at hby
        obtain ⟨x, hx⟩ : ∃ x, satV (valN 0 (digs s.data.toList i)) = x := ⟨_, rfl⟩
        obtain ⟨y, hy⟩ : ∃ y, satB (valN 0 (digs s.data.toList i)) = y := ⟨_, rfl⟩
        rw [hx, hy]
        rcases hby with ⟨hia, hc, _⟩ | ⟨hia, hc⟩
        · subst hia
          rw [hc] at hsn
          have hd := digs_point hsn
          rw [← hd] at hx hy
          have hc' : (((s[i]'hlt).toNat : Nat) : Int) = 46 := by rw [hc]; rfl
          have hb' : beh i (i + 1) = 0 := by unfold beh; rw [if_neg (by omega)]; omega
          have HB := Lib.hid hb'
          have VX := Lib.hid (And.intro hx hy)
          clear hb' hx hy hd hsn hc hse hst' da db
          generalize beh i i = bh at *
          go_wp2
          go_roundw
          case rel => exact ⟨i + 1, by omega, by go_num, by rw [HB.out], by rw [VX.out.1], by rw [VX.out.2], hbw⟩
          case measure => simp [intOf]; omega
        · have hg := dig_of hc
          have hne : s[i]'hlt ≠ 46 := fun e => by rw [e] at hc; exact absurd hc (by decide)
          have hd := digs_snoc hsn hne
          have hv := val_snoc (digs s.data.toList i) (s[i]'hlt)
          rw [← hd] at hv
          have hm := fun u => more_any (valN 0 (digs s.data.toList i)) ((s[i]'hlt).toNat - 48) u (by omega)
          rw [← hv, hx, hy] at hm
          obtain ⟨x', hx'⟩ : ∃ x, satV (valN 0 (digs s.data.toList (i + 1))) = x := ⟨_, rfl⟩
          obtain ⟨y', hy'⟩ : ∃ y, satB (valN 0 (digs s.data.toList (i + 1))) = y := ⟨_, rfl⟩
          rw [hx', hy'] at hm
          have VX := Lib.hid (And.intro hx' hy')
          have hc' : ((((s[i]'hlt).toNat : Nat) : Int) == 46) = false := by rw [beq_eq_false_iff_ne]; omega
          have hw8 : IntKind.u8.wrap (((s[i]'hlt).toNat : Int) - 48) = (((s[i]'hlt).toNat - 48 : Nat) : Int) := by rw [IntKind.wrap_u8]; omega
          have hw64 : IntKind.i64.wrap (((s[i]'hlt).toNat - 48 : Nat) : Int) = (((s[i]'hlt).toNat - 48 : Nat) : Int) := by rw [IntKind.wrap_i64]; omega
          clear hx hy hx' hy' hd hv hsn hse hst' da db hc
          by_cases hlo : i < al
          · have hb0 : beh al i = -1 := by unfold beh; rw [if_pos (by omega)]
            have hb1' : beh al (i + 1) = -1 := by unfold beh; rw [if_pos (by omega)]
            have HB := Lib.hid hb1'
            rw [hb0]
            clear hb0 hb1'
            go_wp2_with fail
            refine (hm _).mono ?_
            rintro e w2 ⟨rfl, hb2⟩
            go_wp2_with fail
            go_roundw
            case rel => exact ⟨i + 1, by omega, by go_num, by rw [HB.out], by rw [VX.out.1], by rw [VX.out.2], bl_call hbw hb2⟩
            case measure => simp [intOf]; omega
          · have hb0 : beh al i = (i : Int) - al - 1 := by unfold beh; rw [if_neg (by omega)]
            have hb1' : beh al (i + 1) = (i : Int) - al - 1 + 1 := by unfold beh; rw [if_neg (by omega)]; omega
            have HB := Lib.hid hb1'
            obtain ⟨bh, hbh⟩ : ∃ bh, (i : Int) - al - 1 = bh := ⟨_, rfl⟩
            rw [hb0, hbh]
            rw [hbh] at HB
            have hbh0 : 0 ≤ bh := by omega
            have hbh1 : bh ≤ 100 := by omega
            clear hb0 hb1' hbh
            go_wp2_with fail
            refine (hm _).mono ?_
            rintro e w2 ⟨rfl, hb2⟩
            go_wp2_with fail
            go_roundw
            case rel => exact ⟨i + 1, by omega, by go_num, by rw [HB.out], by rw [VX.out.1], by rw [VX.out.2], bl_call hbw hb2⟩
            case measure => simp [intOf]; omega
      · obtain rfl : i = s.size := by omega
        have hde := digs_end da db hst'
        rw [hsz] at hde
        rw [hde]
        have hbe : beh al s.size = -1 ∧ b = [] ∨ beh al s.size = (b.length : Int) := by
          rcases hst' with ⟨h1, h2⟩ | h1
          · left
            refine ⟨?_, h2⟩
            unfold beh
            rw [if_pos]
            rw [← hsz, h1]; omega
          · right
            have hl := congrArg List.length h1
            simp only [List.length_append, List.length_cons] at hl
            unfold beh
            rw [if_neg (by omega)]
            omega
        clear hst' hde da db hal
        by_cases hkb : k < b.length
        · have hbb : beh al s.size = (b.length : Int) := by
            rcases hbe with ⟨_, h⟩ | h
            · rw [h] at hkb; simp at hkb
            · exact h
          have hr := HR.out
          rw [if_pos hkb] at hr
          obtain ⟨g0, g1, g2⟩ := hr
          rw [g0] at g1 g2
          obtain rfl : r1 = 0 := g1.symm
          obtain rfl : r2 = 1 := g2.symm
          rw [hbb]
          clear hbe HR g0 g1 g2
          have hkb' : (k : Int) < (b.length : Int) := by omega
          go_wp2_with fail
          go_ret2
          exact ⟨rfl, hbw⟩
        · have hr := HR.out
          rw [if_neg hkb] at hr
          obtain ⟨bh, hbh⟩ : ∃ bh, beh al s.size = bh := ⟨_, rfl⟩
          rw [hbh] at hbe ⊢
          have hbm : max bh 0 = (b.length : Int) := by
            rcases hbe with ⟨h1, h2⟩ | h
            · rw [h1, h2]; rfl
            · rw [h]; omega
          have hbk : ¬ (k : Int) < bh := by
            rcases hbe with ⟨h1, h2⟩ | h <;> omega
          clear hbe hbh
          have HR2 := Lib.hid hr
          clear HR hr
          go_wp2_with fail
          go_loopw [9, 10, 12] (fun v9 v10 v12 wr => ∃ j : Nat, b.length ≤ j ∧ j ≤ k ∧ v12 = .int .i64 j ∧ v9 = .int .i64 (satV (valN 0 (a ++ fillL b j))) ∧ v10 = .bool (satB (valN 0 (a ++ fillL b j))) ∧ Below w.heap.size w wr) (fun _ _ v12 _ => k - (intOf v12).toNat)
          case atStart => exact ⟨b.length, Nat.le_refl _, by omega, rfl, by simp [fillL], by simp [fillL], hbw⟩
          case round =>
            obtain ⟨j, hj0, hj1, rfl, rfl, rfl, hbw'⟩ := hrel
            by_cases hjk : j < k
            · have hfl : a ++ fillL b (j + 1) = (a ++ fillL b j) ++ [48] := by
                unfold fillL
                rw [show j + 1 - b.length = (j - b.length) + 1 by omega, List.replicate_succ', List.append_assoc, List.append_assoc]
              have hv : valN 0 (a ++ fillL b (j + 1)) = 10 * valN 0 (a ++ fillL b j) + 0 := by
                rw [hfl, val_snoc]; rfl
              have hm := fun u => more_any (valN 0 (a ++ fillL b j)) 0 u (by omega)
              rw [← hv] at hm
              obtain ⟨x', hx'⟩ : ∃ x, satV (valN 0 (a ++ fillL b (j + 1))) = x := ⟨_, rfl⟩
              obtain ⟨y', hy'⟩ : ∃ y, satB (valN 0 (a ++ fillL b (j + 1))) = y := ⟨_, rfl⟩
              rw [hx', hy'] at hm
              have VX := Lib.hid (And.intro hx' hy')
              clear hx' hy' hv hfl
              generalize satV (valN 0 (a ++ fillL b j)) = x at *
              generalize satB (valN 0 (a ++ fillL b j)) = y at *
              go_wp2_with fail
              refine (hm _).mono ?_
              rintro e w2 ⟨rfl, hb2⟩
              go_wp2_with fail
              go_roundw
              case rel => exact ⟨j + 1, by omega, by omega, by go_num, by rw [VX.out.1], by rw [VX.out.2], bl_call hbw' hb2⟩
              case measure => simp [intOf]; omega
            · obtain rfl : j = k := by omega
              obtain ⟨g0, g1, g2⟩ := HR2.out
              generalize valN 0 (a ++ fillL b j) = V at *
              have hcase : (satB V = false ∧ r1 = 0 ∧ r2 = 2) ∨ (satB V = true ∧ satV V = (V : Int) ∧ most < (V : Int) ∧ r1 = 0 ∧ r2 = 2) ∨ (satB V = true ∧ satV V = (V : Int) ∧ (V : Int) ≤ most ∧ r1 = (V : Int) ∧ r2 = 0) := by
                by_cases hv : V < 9223372036854775808
                · obtain ⟨s1, s2⟩ := sat_yes hv
                  by_cases hm : most < (V : Int)
                  · rw [if_pos (.inr hm)] at g0
                    rw [g0] at g1 g2
                    exact .inr (.inl ⟨s2, s1, hm, g1.symm, g2.symm⟩)
                  · rw [if_neg (by omega)] at g0
                    rw [g0] at g1 g2
                    exact .inr (.inr ⟨s2, s1, by omega, g1.symm, g2.symm⟩)
                · obtain ⟨s1, s2⟩ := sat_no hv
                  rw [if_pos (.inl (by omega))] at g0
                  rw [g0] at g1 g2
                  exact .inl ⟨s2, g1.symm, g2.symm⟩
              clear g0 g1 g2 HR2
              rcases hcase with ⟨s2, rfl, rfl⟩ | ⟨s2, s1, hm, rfl, rfl⟩ | ⟨s2, s1, hm, rfl, rfl⟩
              · rw [s2]
                go_wp2_with fail
                go_ret2
                exact ⟨rfl, hbw'⟩
              · rw [s2, s1]
                go_wp2_with fail
                go_ret2
                exact ⟨rfl, hbw'⟩
              · rw [s2, s1]
                go_wp2_with fail
                go_ret2
                exact ⟨rfl, hbw'⟩
end Go.Proofs.YtmhimnmiclnbjaaDoor
