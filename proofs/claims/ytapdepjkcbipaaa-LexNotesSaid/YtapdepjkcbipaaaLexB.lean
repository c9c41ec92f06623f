import Derived.Test.YtapdepjkcbipaaaLexA
namespace Go.Proofs.Ytapdepjkcbipaaa
set_option linter.unusedVariables false
set_option linter.unusedSimpArgs false
open Go.RowKit
theorem all_upto (s : ByteArray) (p : UInt8 → Bool) (pos : Nat) (hp : pos < s.size) : (s.data.toList.take (pos + 1)).all p = ((s.data.toList.take pos).all p && p s[pos]) := by
  rw [take_snoc s pos hp]; simp
theorem take_end (s : ByteArray) : s.data.toList.take s.size = s.data.toList := List.take_of_length_le (by simp)
theorem all_false (s : ByteArray) (p : UInt8 → Bool) (pos : Nat) (hp : pos < s.size) (h : p s[pos] = false) : s.data.toList.all p = false := by
  rw [List.all_eq_false]
  refine ⟨s[pos], ?_, by simp [h]⟩
  have : s[pos] = s.data.toList[pos]'(by simpa using hp) := rfl
  rw [this]
  exact List.getElem_mem _
theorem digits_no (s : ByteArray) (pos : Nat) (hp : pos < s.size) (h : isDig s[pos] = false) : digitsB s.data.toList = false := by simp [digitsB, all_false s isDig pos hp h]
set_option maxHeartbeats 1000000 in
theorem digits_any (s : ByteArray) (w : World) :
    Calls Try.prog 27 #[.string s] w fun e w' => e = .returned (.bool (digitsB s.data.toList)) ∧ Below w.heap.size w w' := by
  go_enter Try.func27, Try.ntmps27
  go_wp2
  go_loopw [4] (fun _ wi => ∃ pos : Nat, wi.heap[w.heap.size]? = some (.stringIter s pos) ∧ Below w.heap.size w wi ∧ Hid ((s.data.toList.take pos).all isDig = true) ∧ pos ≤ s.size) (fun _ wi => s.size - wi.iterPos w.heap.size)
  case atStart => exact ⟨0, World.iter_heap w s 0, bl_alloc (bl_refl _) _, by simp [Hid], Nat.zero_le _⟩
  case round =>
    obtain ⟨pos, hit, hbi, HA, hpl⟩ := hrel
    have hpos0 := iterPos_of hit
    by_cases hp : pos < s.size
    · have hnx : ∀ ty, (Instr.next (.pointer (some ⟨w.heap.size, 0, none⟩)) true ty).run Try.prog wr = _ := fun ty => Lib.run_next_any_at wr w.heap.size s pos ty hit hp
      have hit2 := Lib.iterAt_heap wr w.heap.size s pos (pos + (Utf8.decode s pos).2) hit
      have hbw2 := Lib.below_iterAt hbi (k := w.heap.size) (Nat.le_refl _) s (pos + (Utf8.decode s pos).2)
      have hsn := all_upto s isDig pos hp
      obtain ⟨W1, hW1⟩ : ∃ W1, W1 = wr.iterAt w.heap.size s (pos + (Utf8.decode s pos).2) := ⟨_, rfl⟩
      rw [← hW1] at hnx hit2 hbw2
      clear hW1 hit hbi
      rcases width_one s pos hp with ⟨ha, hde⟩ | ⟨ha, hde, hde2⟩
      · rw [hde] at hnx hit2
        simp only at hnx hit2
        clear hde
        have hbad := digits_no s pos hp
        have HS := Lib.hid hsn
        clear hsn
        generalize (s[pos]'hp) = c at *
        by_cases hg : 48 ≤ c.toNat ∧ c.toNat ≤ 57
        · obtain ⟨hg1, hg2⟩ := hg
          have HG := Lib.hid (show isDig c = true by simp [isDig, hg1, hg2])
          clear hbad
          go_wp2
          go_roundw
          case rel => exact ⟨pos + 1, hit2, hbw2, (by show _ = _; rw [HS.out, HG.out, HA.out]; rfl), by omega⟩
          case measure => rw [iterPos_of hit2, hpos0]; omega
        · have HD := Lib.hid (hbad (show isDig c = false by simp [isDig]; omega))
          clear hbad
          by_cases hg1 : 48 ≤ c.toNat
          all_goals
            go_wp2
            go_ret
            exact ⟨ret_bool (by rw [HD.out]), hbw2⟩
      · have HD := Lib.hid (digits_no s pos hp (show isDig s[pos] = false by simp [isDig]; omega))
        clear hsn
        generalize (Utf8.decode s pos).1 = rr at *
        go_wp2
        go_ret
        exact ⟨ret_bool (by rw [HD.out]), hbw2⟩
    · obtain rfl : pos = s.size := by omega
      have hnx : ∀ ty, (Instr.next (.pointer (some ⟨w.heap.size, 0, none⟩)) true ty).run Try.prog wr = _ := fun ty => Lib.run_next_end_at wr w.heap.size s s.size ty hit hp
      have HD : Hid (digitsB s.data.toList = !s.data.toList.isEmpty) := by
        have := HA.out
        rw [take_end] at this
        show _ = _
        simp only [digitsB, this, Bool.and_true]
      go_wp2
      go_ret
      exact ⟨ret_bool (by rw [HD.out, ByteArray.toList_eq]), hbi⟩
def cutW (s : ByteArray) : ByteArray := ⟨(Lib.cut s.data.toList [46]).1.toArray⟩
def cutP (s : ByteArray) : ByteArray := ⟨(Lib.cut s.data.toList [46]).2.1.toArray⟩
def cutB (s : ByteArray) : Bool := (Lib.cut s.data.toList [46]).2.2
theorem numForm_cut (s : ByteArray) : numForm s.data.toList = if digitsB (cutW s).data.toList = false ∨ (1 < (cutW s).size ∧ (cutW s).data.toList.getD 0 0 = 48) then 0 else if cutB s = false then 1 else if digitsB (cutP s).data.toList then 2 else 0 := by
  rfl
set_option maxHeartbeats 1000000 in
theorem decOf_any (s : ByteArray) (w : World) (hG : GL w) (hs : s.size < 4294967281) :
    Calls Try.prog 19 #[.string s] w fun e w' => e = .returned (.int .i64 (numForm s.data.toList)) ∧ Below w.heap.size w w' := by
  obtain ⟨m, hm⟩ := hG
  have hN := numForm_cut s
  have HC := Lib.hid (Try.strings_Cut s ⟨#[46]⟩ m w hs hm)
  have e1 : (⟨(Lib.cut s.data.toList (⟨#[46]⟩ : ByteArray).data.toList).1.toArray⟩ : ByteArray) = cutW s := rfl
  have e2 : (⟨(Lib.cut s.data.toList (⟨#[46]⟩ : ByteArray).data.toList).2.1.toArray⟩ : ByteArray) = cutP s := rfl
  have e3 : (Lib.cut s.data.toList (⟨#[46]⟩ : ByteArray).data.toList).2.2 = cutB s := rfl
  rw [e1, e2, e3] at HC
  clear e1 e2 e3 hm
  generalize cutW s = a at *
  generalize cutP s = b at *
  generalize cutB s = c at *
  cases hd : digitsB a.data.toList with
  | false =>
    have HN := Lib.hid (hN.trans (by rw [if_pos (.inl hd)]))
    clear hN
    go_enter Try.func19, Try.ntmps19
    go_wp2_with (first
      | (go_at_call 26; refine HC.out.mono ?_; rintro e w' ⟨rfl, n, rfl⟩)
      | (go_at_call 27; refine (digits_any _ _).mono ?_; rintro e w' ⟨rfl, hb1⟩))
    go_ret
    exact ⟨ret_int (by rw [HN.out]), bl_call (bl_drewN (bl_refl _) _) hb1⟩
  | true =>
    have HN := Lib.hid hN
    clear hN
    have fin : ∀ x : Int, (if a.data.toList.getD 0 0 = 48 ∧ 1 < a.size then (0 : Int) else if c = false then 1 else if digitsB b.data.toList then 2 else 0) = x → numForm s.data.toList = x := by
      rintro x rfl
      rw [HN.out]
      simp only [hd, Bool.true_eq_false, false_or, And.comm]
    have FIN := Lib.hid fin
    clear fin
    have key : ∀ h : 0 < a.size, (a.data.toList.getD 0 0 = 48) ↔ ((a[0]'h).toNat : Int) = 48 := fun h => by
      rw [getD_at a 0 h]
      exact ⟨fun e => by rw [e]; rfl, fun e => UInt8.toNat.inj (by show _ = 48; omega)⟩
    have KEY := Lib.hid key
    clear key
    by_cases h1 : 1 < a.size
    · have h1p : 0 < a.size := by omega
      have hbb : (((a[0]'h1p).toNat : Int) == 48) = true ∨ (((a[0]'h1p).toNat : Int) == 48) = false := by cases (((a[0]'h1p).toNat : Int) == 48) <;> simp
      rcases hbb with hbb | hbb
      · have HX := Lib.hid (FIN.out 0 (if_pos ⟨(KEY.out h1p).2 (beq_iff_eq.1 hbb), h1⟩))
        go_enter Try.func19, Try.ntmps19
        go_wp2_with (first
          | (go_at_call 26; refine HC.out.mono ?_; rintro e w' ⟨rfl, n, rfl⟩)
          | (go_at_call 27; refine (digits_any _ _).mono ?_; rintro e w' ⟨rfl, hb1⟩))
        go_ret
        exact ⟨ret_int (by rw [HX.out]), bl_call (bl_drewN (bl_refl _) _) hb1⟩
      · have HX := Lib.hid (fun x hx => FIN.out x ((if_neg (fun h => by have := (KEY.out h1p).1 h.1; simp [this] at hbb)).trans hx))
        cases c with
        | false =>
          go_enter Try.func19, Try.ntmps19
          go_wp2_with (first
            | (go_at_call 26; refine HC.out.mono ?_; rintro e w' ⟨rfl, n, rfl⟩)
            | (go_at_call 27; refine (digits_any _ _).mono ?_; rintro e w' ⟨rfl, hb1⟩))
          go_ret
          exact ⟨ret_int (by rw [HX.out _ rfl]; simp), bl_call (bl_drewN (bl_refl _) _) hb1⟩
        | true =>
          cases hdb : digitsB b.data.toList <;>
          · go_enter Try.func19, Try.ntmps19
            go_wp2_with (first
              | (go_at_call 26; refine HC.out.mono ?_; rintro e w' ⟨rfl, n, rfl⟩)
              | (go_at_call 27; refine (digits_any _ _).mono ?_; rintro _ _ ⟨rfl, _⟩))
            go_ret
            exact ⟨ret_int (by rw [HX.out _ rfl]; simp [hdb]), by repeat (first | exact bl_refl _ | apply bl_drewN | refine bl_call ?_ (by assumption))⟩
    · have HX := Lib.hid (fun x hx => FIN.out x ((if_neg (fun h => h1 h.2)).trans hx))
      cases c with
      | false =>
        go_enter Try.func19, Try.ntmps19
        go_wp2_with (first
          | (go_at_call 26; refine HC.out.mono ?_; rintro e w' ⟨rfl, n, rfl⟩)
          | (go_at_call 27; refine (digits_any _ _).mono ?_; rintro e w' ⟨rfl, hb1⟩))
        go_ret
        exact ⟨ret_int (by rw [HX.out _ rfl]; simp), bl_call (bl_drewN (bl_refl _) _) hb1⟩
      | true =>
        cases hdb : digitsB b.data.toList <;>
        · go_enter Try.func19, Try.ntmps19
          go_wp2_with (first
            | (go_at_call 26; refine HC.out.mono ?_; rintro e w' ⟨rfl, n, rfl⟩)
            | (go_at_call 27; refine (digits_any _ _).mono ?_; rintro _ _ ⟨rfl, _⟩))
          go_ret
          exact ⟨ret_int (by rw [HX.out _ rfl]; simp [hdb]), by repeat (first | exact bl_refl _ | apply bl_drewN | refine bl_call ?_ (by assumption))⟩
/-! names -/
def nameB (l : List UInt8) : Bool := !l.isEmpty && plainB l && !digFirst l
def nameAt (l : List UInt8) (k : Nat) : Bool := l.getD k 0 != 46 && l.getD k 0 != 45 && !(k == 0 && isDig (l.getD k 0))
theorem nameB_is (l : List UInt8) : nameB l = true ↔ l ≠ [] ∧ ∀ j, j < l.length → nameAt l j = true := by
  cases l with
  | nil => simp [nameB]
  | cons x l =>
    simp only [nameB, plainB, digFirst, List.isEmpty_cons, Bool.not_false, Bool.true_and, Bool.and_eq_true, List.all_eq_true, Bool.not_eq_true', List.getD_cons_zero]
    constructor
    · rintro ⟨h1, h2⟩
      refine ⟨by simp, fun j hj => ?_⟩
      have hm : (x :: l).getD j 0 ∈ x :: l := by
        rw [List.getD, List.getElem?_eq_getElem hj]; exact List.getElem_mem hj
      have := h1 _ hm
      simp only [nameAt]
      rw [this.1, this.2]
      cases j with
      | zero => simp [h2]
      | succ j => simp
    · rintro ⟨_, h⟩
      constructor
      · intro y hy
        obtain ⟨j, hj, rfl⟩ := List.getElem_of_mem hy
        have := h j hj
        simp only [nameAt, List.getD, List.getElem?_eq_getElem hj, Option.getD_some, Bool.and_eq_true] at this
        exact ⟨this.1.1, this.1.2⟩
      · have := h 0 (by simp)
        simp [nameAt] at this
        exact this.2
theorem nameB_no {l : List UInt8} {k : Nat} (hk : k < l.length) (h : nameAt l k = false) : nameB l = false := by
  cases hn : nameB l with
  | false => rfl
  | true => have := ((nameB_is l).1 hn).2 k hk; rw [h] at this; cases this
def nameTo (l : List UInt8) (k : Nat) : Prop := ∀ j, j < k → nameAt l j = true
theorem nameTo_succ {l : List UInt8} {k : Nat} (h : nameTo l k) (hk : nameAt l k = true) : nameTo l (k + 1) := fun j hj => by
  rcases Nat.lt_or_eq_of_le (Nat.le_of_lt_succ hj) with h1 | h1
  · exact h j h1
  · rw [h1]; exact hk
theorem nameB_end {l : List UInt8} (h : nameTo l l.length) : nameB l = !l.isEmpty := by
  cases l with
  | nil => rfl
  | cons x l => simpa using (nameB_is (x :: l)).2 ⟨by simp, h⟩
set_option maxHeartbeats 1000000 in
theorem name_any (s : ByteArray) (w : World) (hs : s.size ≤ 9223372036854775807) :
    Calls Try.prog 18 #[.string s] w fun e w' => e = .returned (.bool (nameB s.data.toList)) ∧ w = w' := by
  go_enter Try.func18, Try.ntmps18
  go_wp2
  go_loop [7] (fun v => ∃ k : Nat, k ≤ s.size ∧ v = .int .i64 k ∧ Hid (nameTo s.data.toList k)) (fun v => s.size - (intOf v).toNat)
  case atStart => exact ⟨0, Nat.zero_le _, rfl, fun j hj => absurd hj (by omega)⟩
  case round =>
    obtain ⟨k, hk, rfl, HA⟩ := hrel
    by_cases hlt : k < s.size
    · have hgd := getD_at s k hlt
      have hcl := (s[k]'hlt).toNat_lt
      have hat : nameAt s.data.toList k = (decide (((s[k]'hlt).toNat : Int) ≠ 46) && decide (((s[k]'hlt).toNat : Int) ≠ 45) && !(decide (k = 0) && decide (48 ≤ ((s[k]'hlt).toNat : Int)) && decide (((s[k]'hlt).toNat : Int) ≤ 57))) := by
        simp only [nameAt, hgd, bne]
        rw [show (46 : UInt8) = UInt8.ofNat 46 from rfl, show (45 : UInt8) = UInt8.ofNat 45 from rfl, u8_eq _ 46 (by omega), u8_eq _ 45 (by omega)]
        rw [Bool.eq_iff_iff]; simp [isDig]; omega
      have hl : k < s.data.toList.length := by simpa using hlt
      have HT := Lib.hid hat
      have HL := Lib.hid hl
      clear hgd hat hl
      have hbq : ∀ n : Int, ((((s[k]'hlt).toNat : Int) == n) = true ∧ ((s[k]'hlt).toNat : Int) = n) ∨ ((((s[k]'hlt).toNat : Int) == n) = false ∧ ¬ ((s[k]'hlt).toNat : Int) = n) := fun n => by
        by_cases h : ((s[k]'hlt).toNat : Int) = n
        · exact .inl ⟨beq_iff_eq.2 h, h⟩
        · exact .inr ⟨beq_eq_false_iff_ne.2 h, h⟩
      rcases hbq 46 with ⟨q1, r1⟩ | ⟨q1, r1⟩
      · have NO := Lib.hid (nameB_no HL.out (HT.out.trans (show _ = false by simp [r1])))
        clear r1 hbq
        go_wp2
        go_ret
        exact ⟨ret_bool (by rw [NO.out]), rfl⟩
      rcases hbq 45 with ⟨q2, r2⟩ | ⟨q2, r2⟩
      · have NO := Lib.hid (nameB_no HL.out (HT.out.trans (show _ = false by simp [r2])))
        clear r1 r2 hbq
        go_wp2
        go_ret
        exact ⟨ret_bool (by rw [NO.out]), rfl⟩
      by_cases hk0 : k = 0
      · by_cases h48 : 48 ≤ ((s[k]'hlt).toNat : Int)
        · by_cases h57 : ((s[k]'hlt).toNat : Int) ≤ 57
          · have NO := Lib.hid (nameB_no HL.out (HT.out.trans (show _ = false by simp [hk0]; subst hk0; omega)))
            clear r1 r2 hbq
            subst hk0
            go_wp2
            go_ret
            exact ⟨ret_bool (by rw [NO.out]), rfl⟩
          · have YES := Lib.hid (HT.out.trans (show _ = true by simp [r1, r2]; omega))
            clear r1 r2 hbq
            subst hk0
            go_wp2
            go_round
            case rel => exact ⟨0 + 1, by omega, by go_num, nameTo_succ HA.out YES.out⟩
            case measure => simp [intOf]; omega
        · have YES := Lib.hid (HT.out.trans (show _ = true by simp [r1, r2]; omega))
          clear r1 r2 hbq
          subst hk0
          go_wp2
          go_round
          case rel => exact ⟨0 + 1, by omega, by go_num, nameTo_succ HA.out YES.out⟩
          case measure => simp [intOf]; omega
      · have YES := Lib.hid (HT.out.trans (show _ = true by simp [r1, r2, hk0]))
        have hkb : ((k : Int) == 0) = false := by simp; omega
        clear r1 r2 hbq hk0
        go_wp2
        go_round
        case rel => exact ⟨k + 1, by omega, by go_num, nameTo_succ HA.out YES.out⟩
        case measure => simp [intOf]; omega
    · obtain rfl : k = s.size := by omega
      have HE : Hid (nameB s.data.toList = !s.data.toList.isEmpty) := nameB_end (by have := HA.out; simpa using this)
      go_wp2
      go_ret
      exact ⟨ret_bool (by rw [HE.out, ByteArray.toList_eq]), rfl⟩
end Go.Proofs.Ytapdepjkcbipaaa
