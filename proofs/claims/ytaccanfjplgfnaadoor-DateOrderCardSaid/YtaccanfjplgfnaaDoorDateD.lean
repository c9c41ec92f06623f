import Derived.Test.YtaccanfjplgfnaaDoorDateC
namespace Go.Proofs.YtaccanfjplgfnaaDoor
set_option linter.unusedVariables false
set_option linter.unusedSimpArgs false
open Go.RowKit
def rN (l : List UInt8) : Nat → Int
  | 0 => 0
  | k + 1 => if k = 4 ∨ k = 7 then rN l k else 10 * rN l k + digI (l.getD k 0)
def rOkAt (l : List UInt8) (k : Nat) : Bool := if k = 4 ∨ k = 7 then l.getD k 0 == 45 else isDig (l.getD k 0)
theorem rN_skip (l : List UInt8) (k : Nat) (h : k = 4 ∨ k = 7) : rN l (k + 1) = rN l k := by simp [rN, h]
theorem rN_more (l : List UInt8) (k : Nat) (h : ¬ (k = 4 ∨ k = 7)) : rN l (k + 1) = 10 * rN l k + digI (l.getD k 0) := by simp only [rN, h, if_false]
theorem rOk_dig (l : List UInt8) (k : Nat) (h : ¬ (k = 4 ∨ k = 7)) : rOkAt l k = isDig (l.getD k 0) := by simp only [rOkAt, h, if_false]
theorem rOk_str (l : List UInt8) (k : Nat) (h : k = 4 ∨ k = 7) : rOkAt l k = (l.getD k 0 == 45) := by simp only [rOkAt, h, if_true]
theorem rN_bd (l : List UInt8) : ∀ k, (∀ j, j < k → rOkAt l j = true) → 0 ≤ rN l k ∧ rN l k < 10 ^ k
  | 0, _ => by simp [rN]
  | k + 1, h => by
    have ih := rN_bd l k fun j hj => h j (by omega)
    have hk := h k (by omega)
    rw [Int.pow_succ]
    by_cases hc : k = 4 ∨ k = 7
    · rw [rN_skip l k hc]; omega
    · rw [rN_more l k hc]
      rw [rOk_dig l k hc] at hk
      have := digI_bd hk
      omega
theorem rN_lt (l : List UInt8) (k : Nat) (hk : k ≤ 10) (h : ∀ j, j < k → rOkAt l j = true) : 0 ≤ rN l k ∧ rN l k < 10000000000 := by
  have h1 := rN_bd l k h
  rcases (by omega : k = 0 ∨ k = 1 ∨ k = 2 ∨ k = 3 ∨ k = 4 ∨ k = 5 ∨ k = 6 ∨ k = 7 ∨ k = 8 ∨ k = 9 ∨ k = 10) with h | h | h | h | h | h | h | h | h | h | h
  all_goals
    rw [h] at h1
    rw [h]
    omega
theorem ten (l : List UInt8) (h : l.length = 10) : ∃ a b c d e f g i j k, l = [a, b, c, d, e, f, g, i, j, k] := by
  match l, h with
  | [a, b, c, d, e, f, g, i, j, k], _ => exact ⟨a, b, c, d, e, f, g, i, j, k, rfl⟩
theorem shape_iff (l : List UInt8) (h : l.length = 10) : dateShape l = true ↔ ∀ j, j < 10 → rOkAt l j = true := by
  obtain ⟨a, b, c, d, e, f, g, i, j, k, rfl⟩ := ten l h
  constructor
  · intro hs n hn
    simp [dateShape] at hs
    rcases (by omega : n = 0 ∨ n = 1 ∨ n = 2 ∨ n = 3 ∨ n = 4 ∨ n = 5 ∨ n = 6 ∨ n = 7 ∨ n = 8 ∨ n = 9) with rfl | rfl | rfl | rfl | rfl | rfl | rfl | rfl | rfl | rfl <;> simp [rOkAt, hs]
  · intro hs
    have h0 := hs 0 (by omega); have h1 := hs 1 (by omega); have h2 := hs 2 (by omega); have h3 := hs 3 (by omega); have h4 := hs 4 (by omega)
    have h5 := hs 5 (by omega); have h6 := hs 6 (by omega); have h7 := hs 7 (by omega); have h8 := hs 8 (by omega); have h9 := hs 9 (by omega)
    simp [rOkAt] at h0 h1 h2 h3 h4 h5 h6 h7 h8 h9
    simp [dateShape, *]
theorem rok_no {l : List UInt8} (h : l.length = 10) {k : Nat} (hk : k < 10) (hn : rOkAt l k = false) : parseOk l = false := shape_no (by
  cases hs : dateShape l with
  | false => rfl
  | true => have := (shape_iff l h).1 hs k hk; rw [hn] at this; cases this)
theorem rN_end (l : List UInt8) (h : l.length = 10) (ho : ∀ j, j < 10 → rOkAt l j = true) :
    rN l 10 / 10000 = parseY l ∧ rN l 10 / 100 % 100 = parseM l ∧ rN l 10 % 100 = parseD l := by
  obtain ⟨a, b, c, d, e, f, g, i, j, k, rfl⟩ := ten l h
  have h0 := digI_bd (ho 0 (by omega)); have h1 := digI_bd (ho 1 (by omega)); have h2 := digI_bd (ho 2 (by omega)); have h3 := digI_bd (ho 3 (by omega))
  have h5 := digI_bd (ho 5 (by omega)); have h6 := digI_bd (ho 6 (by omega)); have h8 := digI_bd (ho 8 (by omega)); have h9 := digI_bd (ho 9 (by omega))
  simp at h0 h1 h2 h3 h5 h6 h8 h9
  simp [rN, parseY, parseM, parseD, numL]
  omega
def allTo (l : List UInt8) (k : Nat) : Prop := ∀ j, j < k → rOkAt l j = true
theorem allTo_succ {l : List UInt8} {k : Nat} (h : allTo l k) (hk : rOkAt l k = true) : allTo l (k + 1) := fun j hj => by
  rcases Nat.lt_or_eq_of_le (Nat.le_of_lt_succ hj) with h1 | h1
  · exact h j h1
  · rw [h1]; exact hk
theorem getD_at (s : ByteArray) (k : Nat) (h : k < s.size) : s.data.toList.getD k 0 = s[k] := by
  have hl : k < s.data.toList.length := by simpa using h
  rw [List.getD, List.getElem?_eq_getElem hl]; rfl
set_option maxHeartbeats 4000000 in
theorem rparse_any (s : ByteArray) (w : World) :
    Calls Tryd.prog 23 #[.string s] w fun e w' => e = .returned (.tuple #[.agg #[.int .i64 (pY s), .int .i64 (pM s), .int .i64 (pD s)], .bool (pOk s)]) ∧ Below w.heap.size w w' := by
  by_cases hz : s.size = 10
  · have hz1 := Lib.hid hz
    have hz2 : 10 ≤ s.size := by omega
    have hz3 : ((s.size : Int) != 10) = false := by simp [hz]
    clear hz
    go_enter Tryd.func23, Tryd.ntmps23
    go_wp2_with fail
    go_loopw [4, 5] (fun n v wr => ∃ k : Nat, k ≤ 10 ∧ v = .int .i64 k ∧ n = .int .i64 (rN s.data.toList k) ∧ wr = w.alloc (.cells #[.int .i64 0, .int .i64 0, .int .i64 0] 23) ∧ Hid (allTo s.data.toList k)) (fun _ v _ => (10 - intOf v).toNat)
    case atStart => exact ⟨0, by omega, rfl, rfl, rfl, fun j hj => absurd hj (by omega)⟩
    case round =>
      obtain ⟨k, hk, rfl, rfl, rfl, HA⟩ := hrel
      obtain ⟨hb1, hb2⟩ := rN_lt s.data.toList k hk HA
      by_cases hlt : k < 10
      · have hks : k < s.size := by omega
        have hgd := getD_at s k hks
        have hcl := (s[k]'hks).toNat_lt
        have HG := Lib.hid hgd
        clear hgd
        by_cases hc : k = 4 ∨ k = 7
        · by_cases h45 : ((s[k]'hks).toNat : Int) = 45
          · have HX := Lib.hid (rN_skip s.data.toList k hc)
            have HY : Hid (rOkAt s.data.toList k = true) := by
              show _ = _
              rw [rOk_str _ _ hc, HG.out]; simp; exact UInt8.toNat.inj (by show _ = 45; omega)
            have h45b : (((s[k]'hks).toNat : Int) != 45) = false := by simp [h45]
            clear h45
            rcases hc with rfl | rfl
            all_goals
              go_wp2
              go_roundw
              case rel => first | exact ⟨4 + 1, by omega, by go_num, by rw [HX.out], trivial, allTo_succ HA.out HY.out⟩ | exact ⟨7 + 1, by omega, by go_num, by rw [HX.out], trivial, allTo_succ HA.out HY.out⟩
              case measure => simp [intOf]
          · have hno := rok_no (l := s.data.toList) (by simpa using hz1.out) hlt (by
              rw [rOk_str _ _ hc, HG.out]
              exact beq_eq_false_iff_ne.2 fun he => h45 (by rw [he]; rfl))
            obtain ⟨e1, e2, e3, e4⟩ := p_no hno
            have EH := Lib.hid (And.intro e1 (And.intro e2 (And.intro e3 e4)))
            clear e1 e2 e3 e4 hno
            have h45b : (((s[k]'hks).toNat : Int) != 45) = true := by simp [h45]
            clear h45
            rcases hc with rfl | rfl
            all_goals
              go_wp2
              rw [EH.out.1, EH.out.2.1, EH.out.2.2.1, EH.out.2.2.2]
              exact bodyPost_ret (v := .tuple #[.agg #[.int .i64 0, .int .i64 0, .int .i64 0], .bool false]) (by simp [results, Tryd.results23, go_sem]) rfl ⟨rfl, bl_alloc (bl_refl _) _⟩
        · have hc4 : ((k : Int) == 4) = false := by simp; omega
          have hc7 : ((k : Int) == 7) = false := by simp; omega
          by_cases hd : 48 ≤ ((s[k]'hks).toNat : Int) ∧ ((s[k]'hks).toNat : Int) ≤ 57
          · obtain ⟨hd1, hd2⟩ := hd
            have HX := Lib.hid (rN_more s.data.toList k hc)
            have HY : Hid (rOkAt s.data.toList k = true) := by
              show _ = _
              rw [rOk_dig _ _ hc, HG.out]; simp [isDig]; omega
            clear hc
            go_wp2
            go_roundw
            case rel => exact ⟨k + 1, by omega, by go_num, by rw [HX.out, HG.out]; simp [digI], trivial, allTo_succ HA.out HY.out⟩
            case measure => simp [intOf]; omega
          · have hno := rok_no (l := s.data.toList) (by simpa using hz1.out) hlt (by
              rw [rOk_dig _ _ hc, HG.out]
              simp [isDig]; omega)
            obtain ⟨e1, e2, e3, e4⟩ := p_no hno
            have EH := Lib.hid (And.intro e1 (And.intro e2 (And.intro e3 e4)))
            clear e1 e2 e3 e4 hno hc
            by_cases hd1 : 48 ≤ ((s[k]'hks).toNat : Int)
            all_goals
              go_wp2
              rw [EH.out.1, EH.out.2.1, EH.out.2.2.1, EH.out.2.2.2]
              exact bodyPost_ret (v := .tuple #[.agg #[.int .i64 0, .int .i64 0, .int .i64 0], .bool false]) (by simp [results, Tryd.results23, go_sem]) rfl ⟨rfl, bl_alloc (bl_refl _) _⟩
      · obtain rfl : k = 10 := by omega
        have hl : s.data.toList.length = 10 := by simpa using hz1.out
        obtain ⟨f1, f2, f3⟩ := rN_end _ hl HA.out
        have hpo : parseOk s.data.toList = goodB (rN s.data.toList 10 / 10000) (rN s.data.toList 10 / 100 % 100) (rN s.data.toList 10 % 100) := by
          rw [f1, f2, f3]; simp [parseOk, (shape_iff _ hl).2 HA.out]
        have HP := Lib.hid hpo
        have HK := Lib.hid (And.intro f1 (And.intro f2 f3))
        clear f1 f2 f3 hpo hl
        cases hgd : goodB (rN s.data.toList 10 / 10000) (rN s.data.toList 10 / 100 % 100) (rN s.data.toList 10 % 100) with
        | true =>
          have HY := Lib.hid (p_yes (HP.out.trans hgd))
          go_wp2_with (go_at_call 15; refine (rgood_any _ _ _ _).mono ?_; rintro e w' ⟨rfl, hgb⟩; (have k0 := ((Blk.new w 23 _).alloc _).call hgb); (have kd := (Blk.new _ _ _).call hgb); (have hgz := hgb.size); simp only [World.size_alloc] at kd hgz; obtain ⟨_, _, _, _, _, _⟩ := k0.c3; obtain ⟨_, _, _, _, _, _⟩ := kd.c3)
          rw [HY.out.1, HY.out.2.1, HY.out.2.2.1, HY.out.2.2.2, ← HK.out.1, ← HK.out.2.1, ← HK.out.2.2]
          exact bodyPost_ret (results_cell_tmp_row rfl _ _ w.heap.size _ #[_, _, _] _ rfl (((k0.set_ 0 _).set_ 1 _).set_ 2 _) Tryd.underlying23 rfl (by kernel_rfl)) rfl ⟨rfl, bl_set (bl_set (bl_set (bl_call (bl_alloc (bl_alloc (bl_refl _) _) _) hgb) (Nat.le_refl _) _) (Nat.le_refl _) _) (Nat.le_refl _) _⟩
        | false =>
          have HY := Lib.hid (p_no (HP.out.trans hgd))
          go_wp2_with (go_at_call 15; refine (rgood_any _ _ _ _).mono ?_; rintro e w' ⟨rfl, hgb⟩; (have k0 := ((Blk.new w 23 _).alloc _).call hgb); (have kd := (Blk.new _ _ _).call hgb); (have hgz := hgb.size); simp only [World.size_alloc] at kd hgz; obtain ⟨_, _, _, _, _, _⟩ := k0.c3; obtain ⟨_, _, _, _, _, _⟩ := kd.c3)
          rw [HY.out.1, HY.out.2.1, HY.out.2.2.1, HY.out.2.2.2]
          exact bodyPost_ret (results_cell_tmp_row rfl _ _ w.heap.size _ #[.int .i64 0, .int .i64 0, .int .i64 0] _ rfl (((k0.set_ 0 _).set_ 1 _).set_ 2 _) Tryd.underlying23 rfl (by kernel_rfl)) rfl ⟨rfl, bl_set (bl_set (bl_set (bl_call (bl_alloc (bl_alloc (bl_refl _) _) _) hgb) (Nat.le_refl _) _) (Nat.le_refl _) _) (Nat.le_refl _) _⟩
  · have hn : parseOk s.data.toList = false := shape_no (by
      have he : (s.data.toList.length == 10) = false := beq_eq_false_iff_ne.2 (by simpa using hz)
      simp only [dateShape, he, Bool.false_and])
    obtain ⟨e1, e2, e3, e4⟩ := p_no hn
    rw [e1, e2, e3, e4]
    clear e1 e2 e3 e4 hn
    have h1 : ((s.size : Int) != 10) = true := by simp; omega
    go_enter Tryd.func23, Tryd.ntmps23
    go_wp2
    exact bodyPost_ret (v := .tuple #[.agg #[.int .i64 0, .int .i64 0, .int .i64 0], .bool false]) (by simp [results, Tryd.results23, go_sem]) rfl ⟨rfl, bl_alloc (bl_refl _) _⟩
end Go.Proofs.YtaccanfjplgfnaaDoor
