import Derived.Test.YtcgkfgklggjmaaaDoorGa
import Derived.Test.YtcgkfgklggjmaaaDoorShelf
import Derived.Lib.SmallJoins
section
namespace Go.Proofs.YtcgkfgklggjmaaaDoor
set_option linter.unusedVariables false
set_option linter.unusedSimpArgs false
open Go.RowKit
theorem leap_any (y : Int) (w : World) :
    Calls Tryd.prog 144 #[.int .i64 y] w fun e w' => e = .returned (.bool (leapB y)) ∧ w = w' := by
  go_enter Tryd.func144, Tryd.ntmps144
  go_wp2
  all_goals
    go_ret
    refine ⟨ret_bool ?_, rfl⟩
    simp only [leapB]
    simp only [tmod_beq, tmod_bne, bne_iff_ne, ne_eq, beq_iff_eq, tmod_zero] at *
    simp [*]
theorem rleap_any (y : Int) (w : World) :
    Calls Tryd.prog 134 #[.int .i64 y] w fun e w' => e = .returned (.bool (leapB y)) ∧ w = w' := by
  go_enter Tryd.func134, Tryd.ntmps134
  go_wp2
  all_goals
    go_ret
    refine ⟨ret_bool ?_, rfl⟩
    simp only [beq_iff_eq, beq_eq_false_iff_ne, ne_eq, tmod_zero, tmod_beq] at *
    first | (rw [leap_400 _ (by assumption)]; done) | (rw [leap_100 _ (by assumption) (by assumption)]; done) | (rw [leap_ref _ (by assumption) (by assumption)]; done)
theorem days_any (y m : Int) (w : World) :
    Calls Tryd.prog 116 #[.int .i64 y, .int .i64 m] w fun e w' => e = .returned (.int .i64 (daysI y m)) ∧ w = w' := by
  go_enter Tryd.func116, Tryd.ntmps116
  go_wp2_with (go_at_call 144; refine (leap_any _ _).mono ?_; rintro e w' ⟨rfl, rfl⟩)
  all_goals
    go_ret
    refine ⟨ret_int ?_, rfl⟩
    simp only [beq_iff_eq, beq_eq_false_iff_ne, ne_eq] at *
    first
    | (rw [days_30 _ _ (by omega)]; done)
    | (rw [days_31 _ _ (by omega)]; done)
    | (rw [days_none _ _ (by omega)]; done)
    | (subst m; first | rw [days_2t _ (by assumption)] | rw [days_2f _ (by assumption)])
set_option maxHeartbeats 4000000 in
theorem rdays_any (y m : Int) (w : World) :
    Calls Tryd.prog 100 #[.int .i64 y, .int .i64 m] w fun e w' => e = .returned (.int .i64 (daysI y m)) ∧ Below w.heap.size w w' := by
  by_cases h1 : m < 1
  · go_enter Tryd.func100, Tryd.ntmps100
    go_wp2
    go_ret
    exact ⟨ret_int (days_none _ _ (by omega)).symm, Below.refl _ _⟩
  by_cases h2 : 12 < m
  · go_enter Tryd.func100, Tryd.ntmps100
    go_wp2
    go_ret
    exact ⟨ret_int (days_none _ _ (by omega)).symm, Below.refl _ _⟩
  rcases (by omega : m = 1 ∨ m = 2 ∨ m = 3 ∨ m = 4 ∨ m = 5 ∨ m = 6 ∨ m = 7 ∨ m = 8 ∨ m = 9 ∨ m = 10 ∨ m = 11 ∨ m = 12) with rfl | rfl | rfl | rfl | rfl | rfl | rfl | rfl | rfl | rfl | rfl | rfl
  all_goals
    clear h1 h2
    go_enter Tryd.func100, Tryd.ntmps100
    go_wp2_with (go_at_call 134; refine (rleap_any _ _).mono ?_; rintro e w' ⟨rfl, rfl⟩)
  all_goals
    go_ret
    refine ⟨ret_int ?_, ?_⟩
    · first | rfl | exact (days_2t _ (by assumption)).symm | exact (days_2f _ (by assumption)).symm
    · first | exact Below.refl _ _ | exact (Below.refl _ _).alloc (Nat.le_refl _) _
theorem good_any (y m d : Int) (w : World) :
    Calls Tryd.prog 77 #[.agg #[.int .i64 y, .int .i64 m, .int .i64 d]] w fun e w' => e = .returned (.bool (goodB y m d)) ∧ Below w.heap.size w w' := by
  by_cases h1 : 1 ≤ y
  · by_cases h2 : y ≤ 9999
    · by_cases h3 : 1 ≤ d
      · go_enter Tryd.func77, Tryd.ntmps77
        go_wp2
        go_quiet ((go_at_call 116; exact quiet_left (days_any _ _ _)))
        go_wp2
        go_ret
        refine ⟨ret_bool (by simp [goodB, h1, h2, h3] <;> omega), below_drewN ((Below.refl _ _).alloc (Nat.le_refl _) _) _⟩
      · have hd : decide (1 ≤ d) = false := by simpa using h3
        go_enter Tryd.func77, Tryd.ntmps77
        go_wp2
        go_quiet (fail)
        go_wp2
        go_ret
        refine ⟨ret_bool (by simp [goodB, h1, h2, h3] <;> omega), below_drewN ((Below.refl _ _).alloc (Nat.le_refl _) _) _⟩
    · have hd : decide (y ≤ 9999) = false := by simpa using h2
      go_enter Tryd.func77, Tryd.ntmps77
      go_wp2
      go_quiet (fail)
      go_wp2
      go_ret
      refine ⟨ret_bool (by simp [goodB, h1, h2] <;> omega), below_drewN ((Below.refl _ _).alloc (Nat.le_refl _) _) _⟩
  · have hd : decide (1 ≤ y) = false := by simpa using h1
    go_enter Tryd.func77, Tryd.ntmps77
    go_wp2
    go_quiet (fail)
    go_wp2
    go_ret
    refine ⟨ret_bool (by simp [goodB, h1] <;> omega), below_drewN ((Below.refl _ _).alloc (Nat.le_refl _) _) _⟩
theorem rgood_of (y m d : Int) (h : 1 ≤ y ∧ y ≤ 9999 ∧ 1 ≤ m ∧ m ≤ 12 ∧ 1 ≤ d) : decide (d ≤ daysI y m) = goodB y m d := by
  simp [goodB, h.1, h.2.1, h.2.2.2.2]
theorem rgood_no (y m d : Int) (h : y < 1 ∨ 9999 < y ∨ m < 1 ∨ 12 < m ∨ d < 1) : goodB y m d = false := by
  refine Bool.eq_false_iff.2 fun hc => ?_
  have := good_of hc
  omega
end Go.Proofs.YtcgkfgklggjmaaaDoor
end
section
namespace Go.Proofs.YtcgkfgklggjmaaaDoor
set_option linter.unusedVariables false
set_option linter.unusedSimpArgs false
open Go.RowKit
set_option maxHeartbeats 4000000 in
theorem rgood_any (y m d : Int) (w : World) :
    Calls Tryd.prog 62 #[.agg #[.int .i64 y, .int .i64 m, .int .i64 d]] w fun e w' => e = .returned (.bool (goodB y m d)) ∧ Below w.heap.size w w' := by
  by_cases hh : 1 ≤ y ∧ y ≤ 9999 ∧ 1 ≤ m ∧ m ≤ 12 ∧ 1 ≤ d
  · have hg := rgood_of y m d hh
    obtain ⟨h1, h2, h4, h5, h3⟩ := hh
    have HG := Lib.hid hg
    clear hg
    go_enter Tryd.func62, Tryd.ntmps62
    go_wp2
    go_region_held3 (fun w' => w'.cell? ⟨w.heap.size, 0, none⟩ = some (.int .i64 y) ∧ w'.cell? ⟨w.heap.size, 1, none⟩ = some (.int .i64 m) ∧ w'.cell? ⟨w.heap.size, 2, none⟩ = some (.int .i64 d))
      (first
        | go_keep
        | (refine ⟨?_, ?_, ?_⟩ <;> (rw [hb1.cell (by simp)]; simp [go_sem])))
      ((go_at_call 100; refine (rdays_any _ _ _).mono ?_; rintro e w' ⟨rfl, hb1⟩))
    go_wp2
    go_ret
    refine ⟨ret_bool (by rw [HG.out]), ?_⟩
    exact bl_call (bl_drew (bl_alloc (bl_refl _) _)) hb1
  · have hg := rgood_no y m d (by omega)
    have HG := Lib.hid hg
    clear hg
    by_cases h1 : 1 ≤ y
    · by_cases h2 : y ≤ 9999
      · by_cases h4 : 1 ≤ m
        · by_cases h5 : m ≤ 12
          · have h3 : decide (1 ≤ d) = false := by rw [decide_eq_false_iff_not]; omega
            go_enter Tryd.func62, Tryd.ntmps62
            go_wp2
            go_quiet (fail)
            go_wp2
            go_ret
            exact ⟨ret_bool (by rw [HG.out]), below_drewN ((Below.refl _ _).alloc (Nat.le_refl _) _) _⟩
          · have h3 : decide (m ≤ 12) = false := by rw [decide_eq_false_iff_not]; omega
            go_enter Tryd.func62, Tryd.ntmps62
            go_wp2
            go_quiet (fail)
            go_wp2
            go_ret
            exact ⟨ret_bool (by rw [HG.out]), below_drewN ((Below.refl _ _).alloc (Nat.le_refl _) _) _⟩
        · have h3 : decide (1 ≤ m) = false := by rw [decide_eq_false_iff_not]; omega
          go_enter Tryd.func62, Tryd.ntmps62
          go_wp2
          go_quiet (fail)
          go_wp2
          go_ret
          exact ⟨ret_bool (by rw [HG.out]), below_drewN ((Below.refl _ _).alloc (Nat.le_refl _) _) _⟩
      · have h3 : decide (y ≤ 9999) = false := by rw [decide_eq_false_iff_not]; omega
        go_enter Tryd.func62, Tryd.ntmps62
        go_wp2
        go_quiet (fail)
        go_wp2
        go_ret
        exact ⟨ret_bool (by rw [HG.out]), below_drewN ((Below.refl _ _).alloc (Nat.le_refl _) _) _⟩
    · have h3 : decide (1 ≤ y) = false := by rw [decide_eq_false_iff_not]; omega
      go_enter Tryd.func62, Tryd.ntmps62
      go_wp2
      go_quiet (fail)
      go_wp2
      go_ret
      exact ⟨ret_bool (by rw [HG.out]), below_drewN ((Below.refl _ _).alloc (Nat.le_refl _) _) _⟩
end Go.Proofs.YtcgkfgklggjmaaaDoor
end
section
namespace Go.Proofs.YtcgkfgklggjmaaaDoor
set_option linter.unusedVariables false
set_option linter.unusedSimpArgs false
open Go.RowKit
theorem width_one (s : ByteArray) (pos : Nat) (h : pos < s.size) : ((s[pos]'h).toNat < 128 ∧ Utf8.decode s pos = ((s[pos]'h).toNat, 1)) ∨ (128 ≤ (s[pos]'h).toNat ∧ 128 ≤ (Utf8.decode s pos).1 ∧ (Utf8.decode s pos).1 ≤ 2147483647) := by
  by_cases ha : (s[pos]'h).toNat < 128
  · exact .inl ⟨ha, decode_ascii s pos h ha⟩
  · exact .inr ⟨by omega, (decode_high s pos h (by omega)).1, decode_le s pos⟩
def pOk (s : ByteArray) : Bool := parseOk s.data.toList
def pY (s : ByteArray) : Int := if parseOk s.data.toList then parseY s.data.toList else 0
def pM (s : ByteArray) : Int := if parseOk s.data.toList then parseM s.data.toList else 0
def pD (s : ByteArray) : Int := if parseOk s.data.toList then parseD s.data.toList else 0
theorem p_no {s : ByteArray} (h : parseOk s.data.toList = false) : pY s = 0 ∧ pM s = 0 ∧ pD s = 0 ∧ pOk s = false := by simp [pY, pM, pD, pOk, h]
theorem p_yes {s : ByteArray} (h : parseOk s.data.toList = true) : pY s = parseY s.data.toList ∧ pM s = parseM s.data.toList ∧ pD s = parseD s.data.toList ∧ pOk s = true := by simp [pY, pM, pD, pOk, h]
theorem shape_no {l : List UInt8} (h : dateShape l = false) : parseOk l = false := by simp [parseOk, h]
theorem shape_n0 {l t : List UInt8} (e : t = l.take 4) (h : t.all isDig = false) : dateShape l = false := by subst e; simp only [dateShape, h, Bool.and_false, Bool.false_and]
theorem shape_n1 {l t : List UInt8} (e : t = (l.drop 5).take 2) (h : t.all isDig = false) : dateShape l = false := by subst e; simp only [dateShape, h, Bool.and_false, Bool.false_and]
theorem shape_n2 {l t : List UInt8} (e : t = l.drop 8) (h : t.all isDig = false) : dateShape l = false := by subst e; simp only [dateShape, h, Bool.and_false]
theorem all_no (t : ByteArray) (pos : Nat) (hp : pos < t.size) (h : isDig (t[pos]'hp) = false) : t.data.toList.all isDig = false := by
  rw [List.all_eq_false]
  refine ⟨t[pos], ?_, by simp [h]⟩
  have : t[pos] = t.data.toList[pos]'(by simpa using hp) := rfl
  rw [this]
  exact List.getElem_mem _
theorem shape_yes {l : List UInt8} (h0 : l.length = 10) (h4 : ((l.getD 4 0).toNat : Int) = 45) (h7 : ((l.getD 7 0).toNat : Int) = 45) (a0 : (l.take 4).all isDig = true) (a1 : ((l.drop 5).take 2).all isDig = true) (a2 : (l.drop 8).all isDig = true) : dateShape l = true := by
  have e4 : l.getD 4 0 = 45 := UInt8.toNat.inj (by show _ = 45; omega)
  have e7 : l.getD 7 0 = 45 := UInt8.toNat.inj (by show _ = 45; omega)
  simp only [dateShape, h0, e4, e7, a0, a1, a2]; rfl
def DigN (t : ByteArray) (n : Int) : Prop := t.data.toList.all isDig = true ∧ n = numL t.data.toList
def OutRel (t0 t1 t2 : ByteArray) (i n0 n1 n2 : Int) : Prop :=
  (i = 0 ∧ n0 = 0 ∧ n1 = 0 ∧ n2 = 0) ∨ (i = 1 ∧ DigN t0 n0 ∧ n1 = 0 ∧ n2 = 0) ∨ (i = 2 ∧ DigN t0 n0 ∧ DigN t1 n1 ∧ n2 = 0) ∨ (i = 3 ∧ DigN t0 n0 ∧ DigN t1 n1 ∧ DigN t2 n2)
theorem numL_lt4 (t : ByteArray) (pos : Nat) (h : (t.data.toList.take pos).all isDig = true) (hp : pos ≤ 4) : 0 ≤ numL (t.data.toList.take pos) ∧ numL (t.data.toList.take pos) < 10000 := by
  have := numL_bd _ h
  have hl : (t.data.toList.take pos).length ≤ 4 := Nat.le_trans (List.length_take_le _ _) hp
  rcases (by omega : (t.data.toList.take pos).length = 0 ∨ (t.data.toList.take pos).length = 1 ∨ (t.data.toList.take pos).length = 2 ∨ (t.data.toList.take pos).length = 3 ∨ (t.data.toList.take pos).length = 4) with h | h | h | h | h
  all_goals
    rw [h] at this
    omega
set_option maxHeartbeats 4000000 in
theorem dparse_any (s : ByteArray) (w : World) :
    Calls Tryd.prog 90 #[.string s] w fun e w' => e = .returned (.tuple #[.agg #[.int .i64 (pY s), .int .i64 (pM s), .int .i64 (pD s)], .bool (pOk s)]) ∧ Below w.heap.size w w' := by
  by_cases hz : s.size = 10
  · have b4 : 4 < s.size := by omega
    have b7 : 7 < s.size := by omega
    have h4 : ∃ x : Int, ((s[4]'b4).toNat : Int) = x ∧ (s.data.toList.getD 4 0).toNat = x := ⟨_, rfl, by simp [List.getD, hz]; rfl⟩
    have h7 : ∃ x : Int, ((s[7]'b7).toNat : Int) = x ∧ (s.data.toList.getD 7 0).toNat = x := ⟨_, rfl, by simp [List.getD, hz]; rfl⟩
    obtain ⟨x4, hx4, hy4⟩ := h4
    obtain ⟨x7, hx7, hy7⟩ := h7
    have HY4 := Lib.hid hy4
    have HY7 := Lib.hid hy7
    clear hy4 hy7
    by_cases c4 : x4 = 45
    · by_cases c7 : x7 = 45
      · subst c4 c7
        go_enter Tryd.func90, Tryd.ntmps90
        go_wp2_with fail
        go_quiet (fail)
        go_wp2_with fail
        have z0 : (s.extract 0 4).size = 4 := by simp; omega
        have z1 : (s.extract 5 7).size = 2 := by simp; omega
        have z2 : (s.extract 8 10).size = 2 := by simp; omega
        have l0 : (s.extract 0 4).data.toList = s.data.toList.take 4 := by simp [Lib.extract_data]
        have l1 : (s.extract 5 7).data.toList = (s.data.toList.drop 5).take 2 := by simp [Lib.extract_data]
        have l2 : (s.extract 8 10).data.toList = s.data.toList.drop 8 := by
          simp [Lib.extract_data]
          exact List.take_of_length_le (by simp [hz])
        generalize s.extract 0 4 = t0 at *
        generalize s.extract 5 7 = t1 at *
        generalize s.extract 8 10 = t2 at *
        have L0 := Lib.hid l0
        have L1 := Lib.hid l1
        have L2 := Lib.hid l2
        have Z0 := Lib.hid z0
        have Z1 := Lib.hid z1
        have Z2 := Lib.hid z2
        clear l0 l1 l2 z0 z1 z2
        go_loopw [31] (fun v wr => ∃ i n0 n1 n2 : Int, v = .int .i64 i ∧ Blk wr w.heap.size 24 #[.int .i64 0, .int .i64 0, .int .i64 0] ∧ Blk wr (w.heap.size + 1) 165 #[.int .i64 n0, .int .i64 n1, .int .i64 n2] ∧ Below w.heap.size w wr ∧ OutRel t0 t1 t2 i n0 n1 n2) (fun v _ => (3 - intOf v).toNat)
        case atStart => exact ⟨0, 0, 0, 0, rfl, ((Blk.new _ _ _).alloc _).drewN _, Blk.drewN (by have := Blk.new (w.alloc (Obj.cells #[.int .i64 0, .int .i64 0, .int .i64 0] 24)) 165 #[.int .i64 0, .int .i64 0, .int .i64 0]; simpa using this) _, bl_drewN (bl_alloc (bl_alloc (bl_refl _) _) _) _, .inl ⟨rfl, rfl, rfl, rfl⟩⟩
        case round =>
          obtain ⟨i, n0, n1, n2, rfl, hb0, hb1, hbw, hor⟩ := hrel
          have i0 : ∀ w, (Instr.index 166 (.agg #[.string t0, .string t1, .string t2]) (.int .i64 0)).run Tryd.prog w = .ok (.string t0) w := fun _ => by kernel_rfl
          have i1 : ∀ w, (Instr.index 166 (.agg #[.string t0, .string t1, .string t2]) (.int .i64 1)).run Tryd.prog w = .ok (.string t1) w := fun _ => by kernel_rfl
          have i2 : ∀ w, (Instr.index 166 (.agg #[.string t0, .string t1, .string t2]) (.int .i64 2)).run Tryd.prog w = .ok (.string t2) w := fun _ => by kernel_rfl
          rcases hor with ⟨rfl, rfl, rfl, rfl⟩ | ⟨rfl, hd0, rfl, rfl⟩ | ⟨rfl, hd0, hd1, rfl⟩ | ⟨rfl, hd0, hd1, hd2⟩
          · obtain ⟨wo, rfl⟩ : ∃ wo : World, wo = wr := ⟨_, rfl⟩
            have hlt0 := hb0.lt
            have hlt1 := hb1.lt
            have hbo := hbw.size
            go_wp2_with fail
            go_loopw [8] (fun _ wi => ∃ pos : Nat, wi.heap[wo.heap.size]? = some (.stringIter t0 pos) ∧ Blk wi w.heap.size 24 #[.int .i64 0, .int .i64 0, .int .i64 0] ∧ Blk wi (w.heap.size + 1) 165 #[.int .i64 (numL (t0.data.toList.take pos)), .int .i64 0, .int .i64 0] ∧ Below w.heap.size w wi ∧ Hid ((t0.data.toList.take pos).all isDig = true) ∧ pos ≤ t0.size) (fun _ wi => t0.size - wi.iterPos wo.heap.size)
            case atStart => exact ⟨0, World.iter_heap wo t0 0, hb0.alloc _, (hb1.alloc _), bl_alloc hbw _, by simp [Hid], Nat.zero_le _⟩
            case round =>
              obtain ⟨pos, hit, hi0, hi1, hbi, HA, hpl⟩ := hrel
              have hpos0 := iterPos_of hit
              clear hb0 hb1 hbw
              by_cases hp : pos < t0.size
              · have hnx : ∀ ty, (Instr.next (.pointer (some ⟨wo.heap.size, 0, none⟩)) true ty).run Tryd.prog wr = _ := fun ty => Lib.run_next_any_at wr wo.heap.size t0 pos ty hit hp
                have hit2 := Lib.iterAt_heap wr wo.heap.size t0 pos (pos + (Utf8.decode t0 pos).2) hit
                have hbw2 := Lib.below_iterAt hbi (k := wo.heap.size) hbo t0 (pos + (Utf8.decode t0 pos).2)
                have hj0 := hi0.iterAt (k := wo.heap.size) (by omega) t0 (pos + (Utf8.decode t0 pos).2)
                have hj1 := hi1.iterAt (k := wo.heap.size) (by omega) t0 (pos + (Utf8.decode t0 pos).2)
                have hsn := take_snoc t0 pos hp
                obtain ⟨W1, hW1⟩ : ∃ W1, W1 = wr.iterAt wo.heap.size t0 (pos + (Utf8.decode t0 pos).2) := ⟨_, rfl⟩
                rw [← hW1] at hnx hit2 hbw2 hj0 hj1
                clear hW1 hit hi0 hi1 hbi
                have HS := Lib.hid hsn
                clear hsn
                have hlj1 := hj1.lt
                rcases width_one t0 pos hp with ⟨ha, hde⟩ | ⟨ha, hde, hde2⟩
                · rw [hde] at hnx hit2
                  simp only at hnx hit2
                  clear hde
                  have hc1 : W1.cell? ⟨w.heap.size + 1, 0, none⟩ = some (.int .i64 (numL (t0.data.toList.take pos))) := hj1.cell 0
                  have hf1 : W1.frozen? ⟨w.heap.size + 1, 0, none⟩ = false := hj1.frozen 0
                  have hnb := numL_lt4 t0 pos HA.out (by have := Z0.out; omega)
                  obtain ⟨hnb1, hnb2⟩ := hnb
                  have hbad := all_no t0 pos hp
                  generalize hby : (t0[pos]'hp) = by_ at *
                  have hbl := by_.toNat_lt
                  by_cases hg : 48 ≤ by_.toNat ∧ by_.toNat ≤ 57
                  · obtain ⟨hg1, hg2⟩ := hg
                    have hgi : isDig by_ = true := by simp [isDig, hg1, hg2]
                    have HG := Lib.hid hgi
                    clear hgi hby hbad
                    go_wp2
                    go_roundw
                    case rel =>
                      refine ⟨pos + 1, ?_, ?_, ?_, ?_, ?_, by omega⟩
                      · exact (Below.heap_setCell _ _ _ _ (by simp; omega)).trans hit2
                      · exact hj0.far (by simp) _
                      · rw [HS.out, numL_snoc]
                        have hz := hj1.set_ 0 (.int .i64 (10 * numL (t0.data.toList.take pos) + digI by_))
                        simpa [digI] using hz
                      · exact bl_set hbw2 (by simp) _
                      · show _ = _
                        rw [HS.out]
                        simp [HG.out, HA.out]
                    case measure =>
                      rw [iterPos_of ((Below.heap_setCell _ _ _ _ (by simp; omega)).trans hit2), hpos0]
                      omega
                  · have hnd : isDig by_ = false := by simp [isDig]; omega
                    have hno : parseOk s.data.toList = false := shape_no (shape_n0 L0.out (hbad hnd))
                    obtain ⟨e1, e2, e3, e4⟩ := p_no hno
                    have EH := Lib.hid (And.intro e1 (And.intro e2 (And.intro e3 e4)))
                    clear e1 e2 e3 e4 hno hbad hnd
                    have hcc0 := hj0.cell 0
                    have hcc1 := hj0.cell 1
                    have hcc2 := hj0.cell 2
                    have hff0 := hj0.frozen
                    have hl0 := hj0.lt
                    by_cases hg1 : 48 ≤ by_.toNat
                    all_goals
                      go_wp2
                      rw [EH.out.1, EH.out.2.1, EH.out.2.2.1, EH.out.2.2.2]
                      exact bodyPost_ret (results_cell_tmp_row rfl _ _ w.heap.size _ #[.int .i64 0, .int .i64 0, .int .i64 0] _ rfl (((hj0.set_ 0 _).set_ 1 _).set_ 2 _) Tryd.underlying24 rfl (by kernel_rfl)) rfl ⟨rfl, bl_set (bl_set (bl_set hbw2 (Nat.le_refl _) _) (Nat.le_refl _) _) (Nat.le_refl _) _⟩
                · have hnd : isDig (t0[pos]'hp) = false := by simp [isDig]; omega
                  have hno : parseOk s.data.toList = false := shape_no (shape_n0 L0.out (all_no t0 pos hp hnd))
                  obtain ⟨e1, e2, e3, e4⟩ := p_no hno
                  have EH := Lib.hid (And.intro e1 (And.intro e2 (And.intro e3 e4)))
                  clear e1 e2 e3 e4 hno hnd
                  have hcc0 := hj0.cell 0
                  have hcc1 := hj0.cell 1
                  have hcc2 := hj0.cell 2
                  have hff0 := hj0.frozen
                  have hl0 := hj0.lt
                  generalize (Utf8.decode t0 pos).1 = rr at *
                  go_wp2
                  rw [EH.out.1, EH.out.2.1, EH.out.2.2.1, EH.out.2.2.2]
                  exact bodyPost_ret (results_cell_tmp_row rfl _ _ w.heap.size _ #[.int .i64 0, .int .i64 0, .int .i64 0] _ rfl (((hj0.set_ 0 _).set_ 1 _).set_ 2 _) Tryd.underlying24 rfl (by kernel_rfl)) rfl ⟨rfl, bl_set (bl_set (bl_set hbw2 (Nat.le_refl _) _) (Nat.le_refl _) _) (Nat.le_refl _) _⟩
              · have hpe : pos = t0.size := by omega
                have hnx : ∀ ty, (Instr.next (.pointer (some ⟨wo.heap.size, 0, none⟩)) true ty).run Tryd.prog wr = _ := fun ty => Lib.run_next_end_at wr wo.heap.size t0 pos ty hit hp
                subst hpe
                go_wp2
                go_roundw
                case rel =>
                  have hN : numL (t0.data.toList.take t0.size) = numL t0.data.toList := by rw [List.take_of_length_le (by simp)]
                  have hA : t0.data.toList.all isDig = true := by have := HA.out; rwa [List.take_of_length_le (by simp)] at this
                  exact ⟨0 + 1, _, _, _, by go_num, hi0, hi1, hbi, .inr (.inl ⟨rfl, ⟨hA, hN⟩, rfl, rfl⟩)⟩
                case measure => simp [intOf]
          · obtain ⟨wo, rfl⟩ : ∃ wo : World, wo = wr := ⟨_, rfl⟩
            have hlt0 := hb0.lt
            have hlt1 := hb1.lt
            have hbo := hbw.size
            go_wp2_with fail
            go_loopw [8] (fun _ wi => ∃ pos : Nat, wi.heap[wo.heap.size]? = some (.stringIter t1 pos) ∧ Blk wi w.heap.size 24 #[.int .i64 0, .int .i64 0, .int .i64 0] ∧ Blk wi (w.heap.size + 1) 165 #[.int .i64 n0, .int .i64 (numL (t1.data.toList.take pos)), .int .i64 0] ∧ Below w.heap.size w wi ∧ Hid ((t1.data.toList.take pos).all isDig = true) ∧ pos ≤ t1.size) (fun _ wi => t1.size - wi.iterPos wo.heap.size)
            case atStart => exact ⟨0, World.iter_heap wo t1 0, hb0.alloc _, (hb1.alloc _), bl_alloc hbw _, by simp [Hid], Nat.zero_le _⟩
            case round =>
              obtain ⟨pos, hit, hi0, hi1, hbi, HA, hpl⟩ := hrel
              have hpos0 := iterPos_of hit
              clear hb0 hb1 hbw
              by_cases hp : pos < t1.size
              · have hnx : ∀ ty, (Instr.next (.pointer (some ⟨wo.heap.size, 0, none⟩)) true ty).run Tryd.prog wr = _ := fun ty => Lib.run_next_any_at wr wo.heap.size t1 pos ty hit hp
                have hit2 := Lib.iterAt_heap wr wo.heap.size t1 pos (pos + (Utf8.decode t1 pos).2) hit
                have hbw2 := Lib.below_iterAt hbi (k := wo.heap.size) hbo t1 (pos + (Utf8.decode t1 pos).2)
                have hj0 := hi0.iterAt (k := wo.heap.size) (by omega) t1 (pos + (Utf8.decode t1 pos).2)
                have hj1 := hi1.iterAt (k := wo.heap.size) (by omega) t1 (pos + (Utf8.decode t1 pos).2)
                have hsn := take_snoc t1 pos hp
                obtain ⟨W1, hW1⟩ : ∃ W1, W1 = wr.iterAt wo.heap.size t1 (pos + (Utf8.decode t1 pos).2) := ⟨_, rfl⟩
                rw [← hW1] at hnx hit2 hbw2 hj0 hj1
                clear hW1 hit hi0 hi1 hbi
                have HS := Lib.hid hsn
                clear hsn
                have hlj1 := hj1.lt
                rcases width_one t1 pos hp with ⟨ha, hde⟩ | ⟨ha, hde, hde2⟩
                · rw [hde] at hnx hit2
                  simp only at hnx hit2
                  clear hde
                  have hc1 : W1.cell? ⟨w.heap.size + 1, 1, none⟩ = some (.int .i64 (numL (t1.data.toList.take pos))) := hj1.cell 1
                  have hf1 : W1.frozen? ⟨w.heap.size + 1, 1, none⟩ = false := hj1.frozen 1
                  have hnb := numL_lt4 t1 pos HA.out (by have := Z1.out; omega)
                  obtain ⟨hnb1, hnb2⟩ := hnb
                  have hbad := all_no t1 pos hp
                  generalize hby : (t1[pos]'hp) = by_ at *
                  have hbl := by_.toNat_lt
                  by_cases hg : 48 ≤ by_.toNat ∧ by_.toNat ≤ 57
                  · obtain ⟨hg1, hg2⟩ := hg
                    have hgi : isDig by_ = true := by simp [isDig, hg1, hg2]
                    have HG := Lib.hid hgi
                    clear hgi hby hbad
                    go_wp2
                    go_roundw
                    case rel =>
                      refine ⟨pos + 1, ?_, ?_, ?_, ?_, ?_, by omega⟩
                      · exact (Below.heap_setCell _ _ _ _ (by simp; omega)).trans hit2
                      · exact hj0.far (by simp) _
                      · rw [HS.out, numL_snoc]
                        have hz := hj1.set_ 1 (.int .i64 (10 * numL (t1.data.toList.take pos) + digI by_))
                        simpa [digI] using hz
                      · exact bl_set hbw2 (by simp) _
                      · show _ = _
                        rw [HS.out]
                        simp [HG.out, HA.out]
                    case measure =>
                      rw [iterPos_of ((Below.heap_setCell _ _ _ _ (by simp; omega)).trans hit2), hpos0]
                      omega
                  · have hnd : isDig by_ = false := by simp [isDig]; omega
                    have hno : parseOk s.data.toList = false := shape_no (shape_n1 L1.out (hbad hnd))
                    obtain ⟨e1, e2, e3, e4⟩ := p_no hno
                    have EH := Lib.hid (And.intro e1 (And.intro e2 (And.intro e3 e4)))
                    clear e1 e2 e3 e4 hno hbad hnd
                    have hcc0 := hj0.cell 0
                    have hcc1 := hj0.cell 1
                    have hcc2 := hj0.cell 2
                    have hff0 := hj0.frozen
                    have hl0 := hj0.lt
                    by_cases hg1 : 48 ≤ by_.toNat
                    all_goals
                      go_wp2
                      rw [EH.out.1, EH.out.2.1, EH.out.2.2.1, EH.out.2.2.2]
                      exact bodyPost_ret (results_cell_tmp_row rfl _ _ w.heap.size _ #[.int .i64 0, .int .i64 0, .int .i64 0] _ rfl (((hj0.set_ 0 _).set_ 1 _).set_ 2 _) Tryd.underlying24 rfl (by kernel_rfl)) rfl ⟨rfl, bl_set (bl_set (bl_set hbw2 (Nat.le_refl _) _) (Nat.le_refl _) _) (Nat.le_refl _) _⟩
                · have hnd : isDig (t1[pos]'hp) = false := by simp [isDig]; omega
                  have hno : parseOk s.data.toList = false := shape_no (shape_n1 L1.out (all_no t1 pos hp hnd))
                  obtain ⟨e1, e2, e3, e4⟩ := p_no hno
                  have EH := Lib.hid (And.intro e1 (And.intro e2 (And.intro e3 e4)))
                  clear e1 e2 e3 e4 hno hnd
                  have hcc0 := hj0.cell 0
                  have hcc1 := hj0.cell 1
                  have hcc2 := hj0.cell 2
                  have hff0 := hj0.frozen
                  have hl0 := hj0.lt
                  generalize (Utf8.decode t1 pos).1 = rr at *
                  go_wp2
                  rw [EH.out.1, EH.out.2.1, EH.out.2.2.1, EH.out.2.2.2]
                  exact bodyPost_ret (results_cell_tmp_row rfl _ _ w.heap.size _ #[.int .i64 0, .int .i64 0, .int .i64 0] _ rfl (((hj0.set_ 0 _).set_ 1 _).set_ 2 _) Tryd.underlying24 rfl (by kernel_rfl)) rfl ⟨rfl, bl_set (bl_set (bl_set hbw2 (Nat.le_refl _) _) (Nat.le_refl _) _) (Nat.le_refl _) _⟩
              · have hpe : pos = t1.size := by omega
                have hnx : ∀ ty, (Instr.next (.pointer (some ⟨wo.heap.size, 0, none⟩)) true ty).run Tryd.prog wr = _ := fun ty => Lib.run_next_end_at wr wo.heap.size t1 pos ty hit hp
                subst hpe
                go_wp2
                go_roundw
                case rel =>
                  have hN : numL (t1.data.toList.take t1.size) = numL t1.data.toList := by rw [List.take_of_length_le (by simp)]
                  have hA : t1.data.toList.all isDig = true := by have := HA.out; rwa [List.take_of_length_le (by simp)] at this
                  exact ⟨1 + 1, _, _, _, by go_num, hi0, hi1, hbi, .inr (.inr (.inl ⟨rfl, hd0, ⟨hA, hN⟩, rfl⟩))⟩
                case measure => simp [intOf]
          · obtain ⟨wo, rfl⟩ : ∃ wo : World, wo = wr := ⟨_, rfl⟩
            have hlt0 := hb0.lt
            have hlt1 := hb1.lt
            have hbo := hbw.size
            go_wp2_with fail
            go_loopw [8] (fun _ wi => ∃ pos : Nat, wi.heap[wo.heap.size]? = some (.stringIter t2 pos) ∧ Blk wi w.heap.size 24 #[.int .i64 0, .int .i64 0, .int .i64 0] ∧ Blk wi (w.heap.size + 1) 165 #[.int .i64 n0, .int .i64 n1, .int .i64 (numL (t2.data.toList.take pos))] ∧ Below w.heap.size w wi ∧ Hid ((t2.data.toList.take pos).all isDig = true) ∧ pos ≤ t2.size) (fun _ wi => t2.size - wi.iterPos wo.heap.size)
            case atStart => exact ⟨0, World.iter_heap wo t2 0, hb0.alloc _, (hb1.alloc _), bl_alloc hbw _, by simp [Hid], Nat.zero_le _⟩
            case round =>
              obtain ⟨pos, hit, hi0, hi1, hbi, HA, hpl⟩ := hrel
              have hpos0 := iterPos_of hit
              clear hb0 hb1 hbw
              by_cases hp : pos < t2.size
              · have hnx : ∀ ty, (Instr.next (.pointer (some ⟨wo.heap.size, 0, none⟩)) true ty).run Tryd.prog wr = _ := fun ty => Lib.run_next_any_at wr wo.heap.size t2 pos ty hit hp
                have hit2 := Lib.iterAt_heap wr wo.heap.size t2 pos (pos + (Utf8.decode t2 pos).2) hit
                have hbw2 := Lib.below_iterAt hbi (k := wo.heap.size) hbo t2 (pos + (Utf8.decode t2 pos).2)
                have hj0 := hi0.iterAt (k := wo.heap.size) (by omega) t2 (pos + (Utf8.decode t2 pos).2)
                have hj1 := hi1.iterAt (k := wo.heap.size) (by omega) t2 (pos + (Utf8.decode t2 pos).2)
                have hsn := take_snoc t2 pos hp
                obtain ⟨W1, hW1⟩ : ∃ W1, W1 = wr.iterAt wo.heap.size t2 (pos + (Utf8.decode t2 pos).2) := ⟨_, rfl⟩
                rw [← hW1] at hnx hit2 hbw2 hj0 hj1
                clear hW1 hit hi0 hi1 hbi
                have HS := Lib.hid hsn
                clear hsn
                have hlj1 := hj1.lt
                rcases width_one t2 pos hp with ⟨ha, hde⟩ | ⟨ha, hde, hde2⟩
                · rw [hde] at hnx hit2
                  simp only at hnx hit2
                  clear hde
                  have hc1 : W1.cell? ⟨w.heap.size + 1, 2, none⟩ = some (.int .i64 (numL (t2.data.toList.take pos))) := hj1.cell 2
                  have hf1 : W1.frozen? ⟨w.heap.size + 1, 2, none⟩ = false := hj1.frozen 2
                  have hnb := numL_lt4 t2 pos HA.out (by have := Z2.out; omega)
                  obtain ⟨hnb1, hnb2⟩ := hnb
                  have hbad := all_no t2 pos hp
                  generalize hby : (t2[pos]'hp) = by_ at *
                  have hbl := by_.toNat_lt
                  by_cases hg : 48 ≤ by_.toNat ∧ by_.toNat ≤ 57
                  · obtain ⟨hg1, hg2⟩ := hg
                    have hgi : isDig by_ = true := by simp [isDig, hg1, hg2]
                    have HG := Lib.hid hgi
                    clear hgi hby hbad
                    go_wp2
                    go_roundw
                    case rel =>
                      refine ⟨pos + 1, ?_, ?_, ?_, ?_, ?_, by omega⟩
                      · exact (Below.heap_setCell _ _ _ _ (by simp; omega)).trans hit2
                      · exact hj0.far (by simp) _
                      · rw [HS.out, numL_snoc]
                        have hz := hj1.set_ 2 (.int .i64 (10 * numL (t2.data.toList.take pos) + digI by_))
                        simpa [digI] using hz
                      · exact bl_set hbw2 (by simp) _
                      · show _ = _
                        rw [HS.out]
                        simp [HG.out, HA.out]
                    case measure =>
                      rw [iterPos_of ((Below.heap_setCell _ _ _ _ (by simp; omega)).trans hit2), hpos0]
                      omega
                  · have hnd : isDig by_ = false := by simp [isDig]; omega
                    have hno : parseOk s.data.toList = false := shape_no (shape_n2 L2.out (hbad hnd))
                    obtain ⟨e1, e2, e3, e4⟩ := p_no hno
                    have EH := Lib.hid (And.intro e1 (And.intro e2 (And.intro e3 e4)))
                    clear e1 e2 e3 e4 hno hbad hnd
                    have hcc0 := hj0.cell 0
                    have hcc1 := hj0.cell 1
                    have hcc2 := hj0.cell 2
                    have hff0 := hj0.frozen
                    have hl0 := hj0.lt
                    by_cases hg1 : 48 ≤ by_.toNat
                    all_goals
                      go_wp2
                      rw [EH.out.1, EH.out.2.1, EH.out.2.2.1, EH.out.2.2.2]
                      exact bodyPost_ret (results_cell_tmp_row rfl _ _ w.heap.size _ #[.int .i64 0, .int .i64 0, .int .i64 0] _ rfl (((hj0.set_ 0 _).set_ 1 _).set_ 2 _) Tryd.underlying24 rfl (by kernel_rfl)) rfl ⟨rfl, bl_set (bl_set (bl_set hbw2 (Nat.le_refl _) _) (Nat.le_refl _) _) (Nat.le_refl _) _⟩
                · have hnd : isDig (t2[pos]'hp) = false := by simp [isDig]; omega
                  have hno : parseOk s.data.toList = false := shape_no (shape_n2 L2.out (all_no t2 pos hp hnd))
                  obtain ⟨e1, e2, e3, e4⟩ := p_no hno
                  have EH := Lib.hid (And.intro e1 (And.intro e2 (And.intro e3 e4)))
                  clear e1 e2 e3 e4 hno hnd
                  have hcc0 := hj0.cell 0
                  have hcc1 := hj0.cell 1
                  have hcc2 := hj0.cell 2
                  have hff0 := hj0.frozen
                  have hl0 := hj0.lt
                  generalize (Utf8.decode t2 pos).1 = rr at *
                  go_wp2
                  rw [EH.out.1, EH.out.2.1, EH.out.2.2.1, EH.out.2.2.2]
                  exact bodyPost_ret (results_cell_tmp_row rfl _ _ w.heap.size _ #[.int .i64 0, .int .i64 0, .int .i64 0] _ rfl (((hj0.set_ 0 _).set_ 1 _).set_ 2 _) Tryd.underlying24 rfl (by kernel_rfl)) rfl ⟨rfl, bl_set (bl_set (bl_set hbw2 (Nat.le_refl _) _) (Nat.le_refl _) _) (Nat.le_refl _) _⟩
              · have hpe : pos = t2.size := by omega
                have hnx : ∀ ty, (Instr.next (.pointer (some ⟨wo.heap.size, 0, none⟩)) true ty).run Tryd.prog wr = _ := fun ty => Lib.run_next_end_at wr wo.heap.size t2 pos ty hit hp
                subst hpe
                go_wp2
                go_roundw
                case rel =>
                  have hN : numL (t2.data.toList.take t2.size) = numL t2.data.toList := by rw [List.take_of_length_le (by simp)]
                  have hA : t2.data.toList.all isDig = true := by have := HA.out; rwa [List.take_of_length_le (by simp)] at this
                  exact ⟨2 + 1, _, _, _, by go_num, hi0, hi1, hbi, .inr (.inr (.inr ⟨rfl, hd0, hd1, ⟨hA, hN⟩⟩))⟩
                case measure => simp [intOf]
          · have hc0 : wr.cell? ⟨w.heap.size + 1, 0, none⟩ = some (.int .i64 n0) := hb1.cell 0
            have hc1 : wr.cell? ⟨w.heap.size + 1, 1, none⟩ = some (.int .i64 n1) := hb1.cell 1
            have hc2 : wr.cell? ⟨w.heap.size + 1, 2, none⟩ = some (.int .i64 n2) := hb1.cell 2
            have hyk : parseY s.data.toList = n0 := by rw [hd0.2, L0.out]; rfl
            have hmk : parseM s.data.toList = n1 := by rw [hd1.2, L1.out]; rfl
            have hdk : parseD s.data.toList = n2 := by rw [hd2.2, L2.out]; rfl
            have hsh : dateShape s.data.toList = true := shape_yes (by simpa using hz) (by simpa using HY4.out) (by simpa using HY7.out) (by rw [← L0.out]; exact hd0.1) (by rw [← L1.out]; exact hd1.1) (by rw [← L2.out]; exact hd2.1)
            have hpo : parseOk s.data.toList = goodB n0 n1 n2 := by rw [← hyk, ← hmk, ← hdk]; simp [parseOk, hsh]
            have HP := Lib.hid hpo
            have HK := Lib.hid (And.intro hyk (And.intro hmk hdk))
            clear hyk hmk hdk hsh hpo
            cases hgd : goodB n0 n1 n2 with
            | true =>
              have HY := Lib.hid (p_yes (HP.out.trans hgd))
              go_wp2_with (go_at_call 77; refine (good_any _ _ _ _).mono ?_; rintro e w' ⟨rfl, hgb⟩; (have k0 := (hb0.alloc _).call hgb); (have kd := (Blk.new _ _ _).call hgb); obtain ⟨_, _, _, _, _, _⟩ := k0.c3; obtain ⟨_, _, _, _, _, _⟩ := kd.c3)
              rw [HY.out.1, HY.out.2.1, HY.out.2.2.1, HY.out.2.2.2, HK.out.1, HK.out.2.1, HK.out.2.2]
              exact bodyPost_ret (results_cell_tmp_row rfl _ _ w.heap.size _ #[.int .i64 n0, .int .i64 n1, .int .i64 n2] _ rfl (((k0.set_ 0 _).set_ 1 _).set_ 2 _) Tryd.underlying24 rfl (by kernel_rfl)) rfl ⟨rfl, bl_set (bl_set (bl_set (bl_call (bl_alloc hbw _) hgb) (Nat.le_refl _) _) (Nat.le_refl _) _) (Nat.le_refl _) _⟩
            | false =>
              have HY := Lib.hid (p_no (HP.out.trans hgd))
              go_wp2_with (go_at_call 77; refine (good_any _ _ _ _).mono ?_; rintro e w' ⟨rfl, hgb⟩; (have k0 := (hb0.alloc _).call hgb); (have kd := (Blk.new _ _ _).call hgb); obtain ⟨_, _, _, _, _, _⟩ := k0.c3; obtain ⟨_, _, _, _, _, _⟩ := kd.c3)
              rw [HY.out.1, HY.out.2.1, HY.out.2.2.1, HY.out.2.2.2]
              exact bodyPost_ret (results_cell_tmp_row rfl _ _ w.heap.size _ #[.int .i64 0, .int .i64 0, .int .i64 0] _ rfl (((k0.set_ 0 _).set_ 1 _).set_ 2 _) Tryd.underlying24 rfl (by kernel_rfl)) rfl ⟨rfl, bl_set (bl_set (bl_set (bl_call (bl_alloc hbw _) hgb) (Nat.le_refl _) _) (Nat.le_refl _) _) (Nat.le_refl _) _⟩
      · have hn : parseOk s.data.toList = false := shape_no (by
          have hu : ¬ s.data.toList.getD 7 0 = 45 := fun he => c7 (by rw [← HY7.out, he]; rfl)
          have he := beq_eq_false_iff_ne.2 hu
          simp only [dateShape, he, Bool.and_false, Bool.false_and])
        obtain ⟨e1, e2, e3, e4⟩ := p_no hn
        rw [e1, e2, e3, e4]
        clear e1 e2 e3 e4 hn
        have c7b : (x7 != 45) = true := by simpa using c7
        subst c4
        go_enter Tryd.func90, Tryd.ntmps90
        go_wp2
        exact bodyPost_ret (v := .tuple #[.agg #[.int .i64 0, .int .i64 0, .int .i64 0], .bool false]) (by simp [results, Tryd.results90, go_sem]) rfl ⟨rfl, bl_alloc (bl_refl _) _⟩
    · have hn : parseOk s.data.toList = false := shape_no (by
        have hu : ¬ s.data.toList.getD 4 0 = 45 := fun he => c4 (by rw [← HY4.out, he]; rfl)
        have he := beq_eq_false_iff_ne.2 hu
        simp only [dateShape, he, Bool.and_false, Bool.false_and])
      obtain ⟨e1, e2, e3, e4⟩ := p_no hn
      rw [e1, e2, e3, e4]
      clear e1 e2 e3 e4 hn
      have c4b : (x4 != 45) = true := by simpa using c4
      go_enter Tryd.func90, Tryd.ntmps90
      go_wp2
      exact bodyPost_ret (v := .tuple #[.agg #[.int .i64 0, .int .i64 0, .int .i64 0], .bool false]) (by simp [results, Tryd.results90, go_sem]) rfl ⟨rfl, bl_alloc (bl_refl _) _⟩
  · have hn : parseOk s.data.toList = false := shape_no (by
      have he : (s.data.toList.length == 10) = false := beq_eq_false_iff_ne.2 (by simpa using hz)
      simp only [dateShape, he, Bool.false_and])
    obtain ⟨e1, e2, e3, e4⟩ := p_no hn
    rw [e1, e2, e3, e4]
    clear e1 e2 e3 e4 hn
    have h1 : ((s.size : Int) != 10) = true := by simp; omega
    go_enter Tryd.func90, Tryd.ntmps90
    go_wp2
    exact bodyPost_ret (v := .tuple #[.agg #[.int .i64 0, .int .i64 0, .int .i64 0], .bool false]) (by simp [results, Tryd.results90, go_sem]) rfl ⟨rfl, bl_alloc (bl_refl _) _⟩
end Go.Proofs.YtcgkfgklggjmaaaDoor
end
section
namespace Go.Proofs.YtcgkfgklggjmaaaDoor
set_option linter.unusedVariables false
set_option linter.unusedSimpArgs false
open Go.RowKit
def rN (l : List UInt8) : Nat → Int
  | 0 => 0
  | k + 1 => if k = 4 ∨ k = 7 then rN l k else 10 * rN l k + digI (l.getD k 0)
def rOkAt (l : List UInt8) (k : Nat) : Bool := if k = 4 ∨ k = 7 then l.getD k 0 == 45 else isDig (l.getD k 0)
theorem rN_skip (l : List UInt8) (k : Nat) (h : k = 4 ∨ k = 7) : rN l (k + 1) = rN l k := by simp [rN, h]
theorem rN_more (l : List UInt8) (k : Nat) (h : ¬ (k = 4 ∨ k = 7)) : rN l (k + 1) = 10 * rN l k + digI (l.getD k 0) := by simp only [rN, h, if_false]
theorem rOk_dig (l : List UInt8) (k : Nat) (h : ¬ (k = 4 ∨ k = 7)) : rOkAt l k = isDig (l.getD k 0) := by simp only [rOkAt, h, if_false]
theorem rOk_str (l : List UInt8) (k : Nat) (h : k = 4 ∨ k = 7) : rOkAt l k = (l.getD k 0 == 45) := by simp only [rOkAt, h, if_true]
theorem rN_bd (l : List UInt8) : ∀ k, (∀ j, j < k → rOkAt l j = true) → 0 ≤ rN l k ∧ rN l k < 10 ^ k
  | 0, _ => by simp [rN]
  | k + 1, h => by
    have ih := rN_bd l k fun j hj => h j (by omega)
    have hk := h k (by omega)
    rw [Int.pow_succ]
    by_cases hc : k = 4 ∨ k = 7
    · rw [rN_skip l k hc]; omega
    · rw [rN_more l k hc]
      rw [rOk_dig l k hc] at hk
      have := digI_bd hk
      omega
theorem rN_lt (l : List UInt8) (k : Nat) (hk : k ≤ 10) (h : ∀ j, j < k → rOkAt l j = true) : 0 ≤ rN l k ∧ rN l k < 10000000000 := by
  have h1 := rN_bd l k h
  rcases (by omega : k = 0 ∨ k = 1 ∨ k = 2 ∨ k = 3 ∨ k = 4 ∨ k = 5 ∨ k = 6 ∨ k = 7 ∨ k = 8 ∨ k = 9 ∨ k = 10) with h | h | h | h | h | h | h | h | h | h | h
  all_goals
    rw [h] at h1
    rw [h]
    omega
theorem ten (l : List UInt8) (h : l.length = 10) : ∃ a b c d e f g i j k, l = [a, b, c, d, e, f, g, i, j, k] := by
  match l, h with
  | [a, b, c, d, e, f, g, i, j, k], _ => exact ⟨a, b, c, d, e, f, g, i, j, k, rfl⟩
theorem shape_iff (l : List UInt8) (h : l.length = 10) : dateShape l = true ↔ ∀ j, j < 10 → rOkAt l j = true := by
  obtain ⟨a, b, c, d, e, f, g, i, j, k, rfl⟩ := ten l h
  constructor
  · intro hs n hn
    simp [dateShape] at hs
    rcases (by omega : n = 0 ∨ n = 1 ∨ n = 2 ∨ n = 3 ∨ n = 4 ∨ n = 5 ∨ n = 6 ∨ n = 7 ∨ n = 8 ∨ n = 9) with rfl | rfl | rfl | rfl | rfl | rfl | rfl | rfl | rfl | rfl <;> simp [rOkAt, hs]
  · intro hs
    have h0 := hs 0 (by omega); have h1 := hs 1 (by omega); have h2 := hs 2 (by omega); have h3 := hs 3 (by omega); have h4 := hs 4 (by omega)
    have h5 := hs 5 (by omega); have h6 := hs 6 (by omega); have h7 := hs 7 (by omega); have h8 := hs 8 (by omega); have h9 := hs 9 (by omega)
    simp [rOkAt] at h0 h1 h2 h3 h4 h5 h6 h7 h8 h9
    simp [dateShape, *]
theorem rok_no {l : List UInt8} (h : l.length = 10) {k : Nat} (hk : k < 10) (hn : rOkAt l k = false) : parseOk l = false := shape_no (by
  cases hs : dateShape l with
  | false => rfl
  | true => have := (shape_iff l h).1 hs k hk; rw [hn] at this; cases this)
theorem rN_end (l : List UInt8) (h : l.length = 10) (ho : ∀ j, j < 10 → rOkAt l j = true) :
    rN l 10 / 10000 = parseY l ∧ rN l 10 / 100 % 100 = parseM l ∧ rN l 10 % 100 = parseD l := by
  obtain ⟨a, b, c, d, e, f, g, i, j, k, rfl⟩ := ten l h
  have h0 := digI_bd (ho 0 (by omega)); have h1 := digI_bd (ho 1 (by omega)); have h2 := digI_bd (ho 2 (by omega)); have h3 := digI_bd (ho 3 (by omega))
  have h5 := digI_bd (ho 5 (by omega)); have h6 := digI_bd (ho 6 (by omega)); have h8 := digI_bd (ho 8 (by omega)); have h9 := digI_bd (ho 9 (by omega))
  simp at h0 h1 h2 h3 h5 h6 h8 h9
  simp [rN, parseY, parseM, parseD, numL]
  omega
def allTo (l : List UInt8) (k : Nat) : Prop := ∀ j, j < k → rOkAt l j = true
theorem allTo_succ {l : List UInt8} {k : Nat} (h : allTo l k) (hk : rOkAt l k = true) : allTo l (k + 1) := fun j hj => by
  rcases Nat.lt_or_eq_of_le (Nat.le_of_lt_succ hj) with h1 | h1
  · exact h j h1
  · rw [h1]; exact hk
theorem getD_at (s : ByteArray) (k : Nat) (h : k < s.size) : s.data.toList.getD k 0 = s[k] := by
  have hl : k < s.data.toList.length := by simpa using h
  rw [List.getD, List.getElem?_eq_getElem hl]; rfl
set_option maxHeartbeats 4000000 in
theorem rparse_any (s : ByteArray) (w : World) :
    Calls Tryd.prog 71 #[.string s] w fun e w' => e = .returned (.tuple #[.agg #[.int .i64 (pY s), .int .i64 (pM s), .int .i64 (pD s)], .bool (pOk s)]) ∧ Below w.heap.size w w' := by
  by_cases hz : s.size = 10
  · have hz1 := Lib.hid hz
    have hz2 : 10 ≤ s.size := by omega
    have hz3 : ((s.size : Int) != 10) = false := by simp [hz]
    clear hz
    go_enter Tryd.func71, Tryd.ntmps71
    go_wp2_with fail
    go_loopw [4, 5] (fun n v wr => ∃ k : Nat, k ≤ 10 ∧ v = .int .i64 k ∧ n = .int .i64 (rN s.data.toList k) ∧ wr = w.alloc (.cells #[.int .i64 0, .int .i64 0, .int .i64 0] 24) ∧ Hid (allTo s.data.toList k)) (fun _ v _ => (10 - intOf v).toNat)
    case atStart => exact ⟨0, by omega, rfl, rfl, rfl, fun j hj => absurd hj (by omega)⟩
    case round =>
      obtain ⟨k, hk, rfl, rfl, rfl, HA⟩ := hrel
      obtain ⟨hb1, hb2⟩ := rN_lt s.data.toList k hk HA
      by_cases hlt : k < 10
      · have hks : k < s.size := by omega
        have hgd := getD_at s k hks
        have hcl := (s[k]'hks).toNat_lt
        have HG := Lib.hid hgd
        clear hgd
        by_cases hc : k = 4 ∨ k = 7
        · by_cases h45 : ((s[k]'hks).toNat : Int) = 45
          · have HX := Lib.hid (rN_skip s.data.toList k hc)
            have HY : Hid (rOkAt s.data.toList k = true) := by
              show _ = _
              rw [rOk_str _ _ hc, HG.out]; simp; exact UInt8.toNat.inj (by show _ = 45; omega)
            have h45b : (((s[k]'hks).toNat : Int) != 45) = false := by simp [h45]
            clear h45
            rcases hc with rfl | rfl
            all_goals
              go_wp2
              go_roundw
              case rel => first | exact ⟨4 + 1, by omega, by go_num, by rw [HX.out], trivial, allTo_succ HA.out HY.out⟩ | exact ⟨7 + 1, by omega, by go_num, by rw [HX.out], trivial, allTo_succ HA.out HY.out⟩
              case measure => simp [intOf]
          · have hno := rok_no (l := s.data.toList) (by simpa using hz1.out) hlt (by
              rw [rOk_str _ _ hc, HG.out]
              exact beq_eq_false_iff_ne.2 fun he => h45 (by rw [he]; rfl))
            obtain ⟨e1, e2, e3, e4⟩ := p_no hno
            have EH := Lib.hid (And.intro e1 (And.intro e2 (And.intro e3 e4)))
            clear e1 e2 e3 e4 hno
            have h45b : (((s[k]'hks).toNat : Int) != 45) = true := by simp [h45]
            clear h45
            rcases hc with rfl | rfl
            all_goals
              go_wp2
              rw [EH.out.1, EH.out.2.1, EH.out.2.2.1, EH.out.2.2.2]
              exact bodyPost_ret (v := .tuple #[.agg #[.int .i64 0, .int .i64 0, .int .i64 0], .bool false]) (by simp [results, Tryd.results71, go_sem]) rfl ⟨rfl, bl_alloc (bl_refl _) _⟩
        · have hc4 : ((k : Int) == 4) = false := by simp; omega
          have hc7 : ((k : Int) == 7) = false := by simp; omega
          by_cases hd : 48 ≤ ((s[k]'hks).toNat : Int) ∧ ((s[k]'hks).toNat : Int) ≤ 57
          · obtain ⟨hd1, hd2⟩ := hd
            have HX := Lib.hid (rN_more s.data.toList k hc)
            have HY : Hid (rOkAt s.data.toList k = true) := by
              show _ = _
              rw [rOk_dig _ _ hc, HG.out]; simp [isDig]; omega
            clear hc
            go_wp2
            go_roundw
            case rel => exact ⟨k + 1, by omega, by go_num, by rw [HX.out, HG.out]; simp [digI], trivial, allTo_succ HA.out HY.out⟩
            case measure => simp [intOf]; omega
          · have hno := rok_no (l := s.data.toList) (by simpa using hz1.out) hlt (by
              rw [rOk_dig _ _ hc, HG.out]
              simp [isDig]; omega)
            obtain ⟨e1, e2, e3, e4⟩ := p_no hno
            have EH := Lib.hid (And.intro e1 (And.intro e2 (And.intro e3 e4)))
            clear e1 e2 e3 e4 hno hc
            by_cases hd1 : 48 ≤ ((s[k]'hks).toNat : Int)
            all_goals
              go_wp2
              rw [EH.out.1, EH.out.2.1, EH.out.2.2.1, EH.out.2.2.2]
              exact bodyPost_ret (v := .tuple #[.agg #[.int .i64 0, .int .i64 0, .int .i64 0], .bool false]) (by simp [results, Tryd.results71, go_sem]) rfl ⟨rfl, bl_alloc (bl_refl _) _⟩
      · obtain rfl : k = 10 := by omega
        have hl : s.data.toList.length = 10 := by simpa using hz1.out
        obtain ⟨f1, f2, f3⟩ := rN_end _ hl HA.out
        have hpo : parseOk s.data.toList = goodB (rN s.data.toList 10 / 10000) (rN s.data.toList 10 / 100 % 100) (rN s.data.toList 10 % 100) := by
          rw [f1, f2, f3]; simp [parseOk, (shape_iff _ hl).2 HA.out]
        have HP := Lib.hid hpo
        have HK := Lib.hid (And.intro f1 (And.intro f2 f3))
        clear f1 f2 f3 hpo hl
        cases hgd : goodB (rN s.data.toList 10 / 10000) (rN s.data.toList 10 / 100 % 100) (rN s.data.toList 10 % 100) with
        | true =>
          have HY := Lib.hid (p_yes (HP.out.trans hgd))
          go_wp2_with (go_at_call 62; refine (rgood_any _ _ _ _).mono ?_; rintro e w' ⟨rfl, hgb⟩; (have k0 := ((Blk.new w 24 _).alloc _).call hgb); (have kd := (Blk.new _ _ _).call hgb); (have hgz := hgb.size); simp only [World.size_alloc] at kd hgz; obtain ⟨_, _, _, _, _, _⟩ := k0.c3; obtain ⟨_, _, _, _, _, _⟩ := kd.c3)
          rw [HY.out.1, HY.out.2.1, HY.out.2.2.1, HY.out.2.2.2, ← HK.out.1, ← HK.out.2.1, ← HK.out.2.2]
          exact bodyPost_ret (results_cell_tmp_row rfl _ _ w.heap.size _ #[_, _, _] _ rfl (((k0.set_ 0 _).set_ 1 _).set_ 2 _) Tryd.underlying24 rfl (by kernel_rfl)) rfl ⟨rfl, bl_set (bl_set (bl_set (bl_call (bl_alloc (bl_alloc (bl_refl _) _) _) hgb) (Nat.le_refl _) _) (Nat.le_refl _) _) (Nat.le_refl _) _⟩
        | false =>
          have HY := Lib.hid (p_no (HP.out.trans hgd))
          go_wp2_with (go_at_call 62; refine (rgood_any _ _ _ _).mono ?_; rintro e w' ⟨rfl, hgb⟩; (have k0 := ((Blk.new w 24 _).alloc _).call hgb); (have kd := (Blk.new _ _ _).call hgb); (have hgz := hgb.size); simp only [World.size_alloc] at kd hgz; obtain ⟨_, _, _, _, _, _⟩ := k0.c3; obtain ⟨_, _, _, _, _, _⟩ := kd.c3)
          rw [HY.out.1, HY.out.2.1, HY.out.2.2.1, HY.out.2.2.2]
          exact bodyPost_ret (results_cell_tmp_row rfl _ _ w.heap.size _ #[.int .i64 0, .int .i64 0, .int .i64 0] _ rfl (((k0.set_ 0 _).set_ 1 _).set_ 2 _) Tryd.underlying24 rfl (by kernel_rfl)) rfl ⟨rfl, bl_set (bl_set (bl_set (bl_call (bl_alloc (bl_alloc (bl_refl _) _) _) hgb) (Nat.le_refl _) _) (Nat.le_refl _) _) (Nat.le_refl _) _⟩
  · have hn : parseOk s.data.toList = false := shape_no (by
      have he : (s.data.toList.length == 10) = false := beq_eq_false_iff_ne.2 (by simpa using hz)
      simp only [dateShape, he, Bool.false_and])
    obtain ⟨e1, e2, e3, e4⟩ := p_no hn
    rw [e1, e2, e3, e4]
    clear e1 e2 e3 e4 hn
    have h1 : ((s.size : Int) != 10) = true := by simp; omega
    go_enter Tryd.func71, Tryd.ntmps71
    go_wp2
    exact bodyPost_ret (v := .tuple #[.agg #[.int .i64 0, .int .i64 0, .int .i64 0], .bool false]) (by simp [results, Tryd.results71, go_sem]) rfl ⟨rfl, bl_alloc (bl_refl _) _⟩
end Go.Proofs.YtcgkfgklggjmaaaDoor
end
section
namespace Go.Proofs.YtcgkfgklggjmaaaDoor
set_option linter.unusedVariables false
set_option linter.unusedSimpArgs false
open Go.RowKit
def GT (w : World) : Prop := Lib.TabIs Tryd.prog w "internal/strconv.uint64pow10" .u64 Lib.pow10Tab
theorem gT : Tryd.prog.globalNamed "internal/strconv.uint64pow10" = some 2 := by kernel_rfl
theorem GT.below {w v : World} (h : GT w) (hb : Below w.heap.size w v) : GT v := Go.Joins.tab_stays gT h hb (Nat.le_refl _)
theorem bl_growN {w v : World} (h : Below w.heap.size w v) (k : Nat) (os : Array Obj) : Below w.heap.size w (Go.Sort.grow (v.drewN k) os) :=
  bl_call h ⟨rfl, rfl, rfl, by simp [Go.Sort.grow], fun i hi => by
    show ((v.drewN k).heap ++ os)[i]? = _
    rw [Array.getElem?_append_left (by show i < v.heap.size; omega)]
    rfl⟩
structure LB (w w' : World) : Prop where
  out : Below w.heap.size w w'
theorem LB.drew {w v : World} (h : LB w v) : LB w v.drew := ⟨bl_drew h.out⟩
theorem LB.call {w v w' : World} (h : LB w v) (hb : Below v.heap.size v w') : LB w w' := ⟨bl_call h.out hb⟩
theorem LB.start (w : World) : LB w w := ⟨bl_refl w⟩
theorem LB.alloc {w v : World} (h : LB w v) (o : Obj) : LB w (v.alloc o) := ⟨bl_alloc h.out o⟩
theorem cell_keep {v w' : World} {p : Addr} {x : Value} (h : v.cell? p = some x) (hb : Below v.heap.size v w') : w'.cell? p = some x := (hb.cell (World.block_lt_of_cell? v _ h)).trans h
theorem lt_ten {n k : Nat} (hn : n < 10 ^ k) (hk : k ≤ 4) : n < 10000 := Nat.lt_of_lt_of_le hn (Nat.pow_le_pow_right (by omega) hk)
theorem repeat_char (c : Nat) : Lib.repeatL (ByteArray.mk #[48]).data.toList c = List.replicate c 48 := by
  have := Lib.repeatL_replicate 48 1 c
  rw [Nat.mul_one] at this
  exact this
theorem pad_cat (a b : List UInt8) : (ByteArray.mk a.toArray) ++ ⟨b.toArray⟩ = ⟨(a ++ b).toArray⟩ := by
  apply ByteArray.ext; simp
set_option maxHeartbeats 2000000 in
set_option maxRecDepth 100000 in
theorem pad_any (n k : Nat) (w : World) (hT : GT w) (hn : n < 10 ^ k) (hk : 1 ≤ k) (hk4 : k ≤ 4) :
    Calls Tryd.prog 78 #[.int .i64 n, .int .i64 k] w fun e w' => e = .returned (.string ⟨(digL n k).toArray⟩) ∧ Below w.heap.size w w' := by
  obtain ⟨p1, p2⟩ := pad_eq k n hn hk
  have hb := lt_ten hn hk4
  rw [← p2]
  clear p2 hn
  obtain ⟨ds, hds⟩ : ∃ ds, Lib.decDigits n = ds := ⟨_, rfl⟩
  rw [hds] at p1 ⊢
  have HDS := Lib.hid hds
  clear hds
  go_enter Tryd.func78, Tryd.ntmps78
  go_wp2_with fail
  refine (Tryd.strconv_Itoa n (by omega) (by omega) w hT).mono ?_
  rintro e w1 ⟨rfl, q, os, rfl⟩
  rw [Lib.itoa_nonneg, HDS.out]
  have hb1 := bl_growN (bl_refl w) q os
  have hsz : (ByteArray.mk ds.toArray).size = ds.length := by simp [ByteArray.size]
  generalize Go.Sort.grow (w.drewN q) os = w1 at *
  have hc : (k : Int) - (ds.length : Int) = ((k - ds.length : Nat) : Int) := by omega
  have hmx : max ((k - ds.length : Nat) : Int) 0 = ((k - ds.length : Nat) : Int) := by omega
  go_wp2_with fail
  refine (Tryd.strings_Repeat _ (k - ds.length) _ (by omega) ?_).mono ?_
  · show 1 * (k - ds.length) ≤ _; omega
  rintro e w2 ⟨rfl, hb2⟩
  have hbb := bl_call hb1 hb2
  rw [repeat_char]
  go_wp2_with fail
  go_ret
  refine ⟨?_, hbb⟩
  show Ending.returned (.string ⟨((Array.replicate (k - ds.length) 48).toList ++ ds).toArray⟩) = _
  rw [Array.toList_replicate]
structure PadOk (n k : Int) : Prop where
  h0 : 0 ≤ n
  hn : n.toNat < 10 ^ k.toNat
  hk : 1 ≤ k
  hk4 : k ≤ 4
theorem pad4 {n : Int} (h0 : 0 ≤ n) (h1 : n ≤ 9999) : PadOk n 4 := ⟨h0, by show n.toNat < 10 ^ 4; omega, by omega, by omega⟩
theorem pad2 {n : Int} (h0 : 0 ≤ n) (h1 : n ≤ 99) : PadOk n 2 := ⟨h0, by show n.toNat < 10 ^ 2; omega, by omega, by omega⟩
theorem pad_int (n k : Int) (w : World) (hT : GT w) (h : PadOk n k) :
    Calls Tryd.prog 78 #[.int .i64 n, .int .i64 k] w fun e w' => e = .returned (.string ⟨(digL n.toNat k.toNat).toArray⟩) ∧ Below w.heap.size w w' := by
  have h1 := h.hk
  have h2 := h.hk4
  have hp := pad_any n.toNat k.toNat w hT h.hn (by omega) (by omega)
  rwa [Int.toNat_of_nonneg h.h0, Int.toNat_of_nonneg (by omega)] at hp
theorem text_cat (a b c : List UInt8) : (ByteArray.mk a.toArray) ++ ⟨#[45]⟩ ++ ⟨b.toArray⟩ ++ ⟨#[45]⟩ ++ ⟨c.toArray⟩ = ⟨(a ++ 45 :: (b ++ 45 :: c)).toArray⟩ := by
  apply ByteArray.ext; simp
set_option maxHeartbeats 400000 in
set_option maxRecDepth 100000 in
theorem text_yes (y m d : Int) (w : World) (hT : GT w) (hg : goodB y m d = true) :
    Calls Tryd.prog 44 #[.agg #[.int .i64 y, .int .i64 m, .int .i64 d]] w fun e w' => e = .returned (.string ⟨(dayL y m d).toArray⟩) ∧ Below w.heap.size w w' := by
  obtain ⟨g1, g2, g3, g4, g5, g6, g7⟩ := good_of hg
  have hG0 := hT.below (bl_alloc (bl_refl w) (.cells #[.int .i64 y, .int .i64 m, .int .i64 d] 24))
  go_enter Tryd.func44, Tryd.ntmps44
  go_wp2_with (go_at_call 77; refine (good_any _ _ _ _).mono ?_; rintro e w1 ⟨rfl, hb1⟩; rw [hg]; (have kb := (Blk.new w 24 #[.int .i64 y, .int .i64 m, .int .i64 d]).call hb1); obtain ⟨c0, c1, c2, _, _, _⟩ := kb.c3)
  have hbw := LB.mk (bl_call (bl_alloc (bl_refl w) _) hb1)
  have hlen := digL_len
  have py := pad4 (n := y) (by omega) (by omega)
  have pm := pad2 (n := m) (by omega) (by omega)
  have pd := pad2 (n := d) (by omega) (by omega)
  clear kb g1 g3 g4 g5 g6 g7 hG0 hb1
  go_region_held3 (fun w' => w'.cell? ⟨w.heap.size, 0, none⟩ = some (.int .i64 y) ∧ w'.cell? ⟨w.heap.size, 1, none⟩ = some (.int .i64 m) ∧ w'.cell? ⟨w.heap.size, 2, none⟩ = some (.int .i64 d) ∧ LB w w')
    (first
      | (refine ⟨?_, ?_, ?_, ?_⟩ <;> (first | assumption | (go_keep; done) | exact LB.drew (by assumption) | (refine cell_keep ?_ hb6; assumption) | (refine LB.call ?_ hb6; assumption))))
    ((go_at_call 78; go_split_ands; refine (pad_int _ _ _ (hT.below (LB.out (by assumption))) (by assumption)).mono ?_; rintro e w6 ⟨rfl, hb6⟩))
  all_goals
    go_split_ands
    go_wp2_with fail
    go_ret
    refine ⟨?_, LB.out (by assumption)⟩
    exact congrArg (fun b => Ending.returned (.string b)) (text_cat _ _ _)
set_option maxRecDepth 100000 in
theorem text_no (y m d : Int) (w : World) (hg : goodB y m d = false) :
    Calls Tryd.prog 44 #[.agg #[.int .i64 y, .int .i64 m, .int .i64 d]] w fun e w' => e = .returned (.string ⟨#[]⟩) ∧ Below w.heap.size w w' := by
  go_enter Tryd.func44, Tryd.ntmps44
  go_wp2_with (go_at_call 77; refine (good_any _ _ _ _).mono ?_; rintro e w1 ⟨rfl, hb1⟩; rw [hg])
  go_ret
  exact ⟨rfl, bl_call (bl_alloc (bl_refl w) _) hb1⟩
theorem text_any (y m d : Int) (w : World) (hT : GT w) :
    Calls Tryd.prog 44 #[.agg #[.int .i64 y, .int .i64 m, .int .i64 d]] w fun e w' => e = .returned (.string ⟨(textL y m d).toArray⟩) ∧ Below w.heap.size w w' := by
  cases hg : goodB y m d with
  | true => simpa only [textL, hg, if_true] using text_yes y m d w hT hg
  | false =>
    have h := text_no y m d w hg
    simpa [textL, hg] using h
end Go.Proofs.YtcgkfgklggjmaaaDoor
end
section
namespace Go.Proofs.YtcgkfgklggjmaaaDoor
set_option linter.unusedVariables false
set_option linter.unusedSimpArgs false
open Go.RowKit
theorem one_byte (w : World) (N : Nat) (h : (48 + (N : Int) % 10) = ((UInt8.ofNat (48 + N % 10)).toNat : Int)) :
    (convert 86 9 (.slice (some ⟨w.heap.size, 0, none⟩) 1 1)).run Tryd.prog (w.alloc (.cells #[.int .u8 (48 + (N : Int) % 10)] 5)) = .ok (.string ⟨#[UInt8.ofNat (48 + N % 10)]⟩) (w.alloc (.cells #[.int .u8 (48 + (N : Int) % 10)] 5)) := by
  refine run_convert_bytes_back _ _ _ 5 ⟨w.heap.size, 0, none⟩ 1 [UInt8.ofNat (48 + N % 10)] Tryd.underlying86 Tryd.underlying5 Tryd.underlying9 fun j hj => ?_
  obtain rfl : j = 0 := by simpa using hj
  have hb := (Blk.new w 5 #[.int .u8 (48 + (N : Int) % 10)]).cell 0
  simp only [List.getElem_cons_zero, ← h]
  exact hb
set_option maxHeartbeats 2000000 in
set_option maxRecDepth 100000 in
theorem rdigits_any (n k : Nat) (w : World) (hn : n ≤ 9999) (hk : k ≤ 4) :
    Calls Tryd.prog 63 #[.int .i64 n, .int .i64 k] w fun e w' => e = .returned (.string ⟨(digL n k).toArray⟩) ∧ Below w.heap.size w w' := by
  obtain ⟨ds, hds⟩ : ∃ ds, digL n k = ds := ⟨_, rfl⟩
  rw [hds]
  have HD := Lib.hid hds
  clear hds
  go_enter Tryd.func63, Tryd.ntmps63
  go_wp2_with fail
  go_loopw [0, 5, 6] (fun v0 v5 v6 wr => ∃ (i N : Nat) (s : List UInt8), i ≤ k ∧ N ≤ 9999 ∧ s.length ≤ i ∧ v6 = .int .i64 i ∧ v0 = .int .i64 N ∧ v5 = .string ⟨s.toArray⟩ ∧ Hid (digL N (k - i) ++ s = ds) ∧ Below w.heap.size w wr) (fun _ _ v6 _ => k - (intOf v6).toNat)
  case atStart => exact ⟨0, n, [], Nat.zero_le _, hn, Nat.le_refl _, rfl, rfl, rfl, Lib.hid (by rw [Nat.sub_zero, List.append_nil]; exact HD.out), bl_refl w⟩
  case round =>
    obtain ⟨i, N, s, hi, hN, hsl, rfl, rfl, rfl, HI, hbw⟩ := hrel
    by_cases hlt : i < k
    · have hu : (48 + (N : Int) % 10) = ((UInt8.ofNat (48 + N % 10)).toNat : Int) := by
        rw [UInt8.toNat_ofNat_of_lt' (show 48 + N % 10 < 256 by omega)]; omega
      have hcv := one_byte wr N hu
      clear hu
      have hov : ¬ 9223372036854775807 < 1 + s.length := by omega
      go_wp2_with fail
      go_roundw
      case rel =>
        refine ⟨i + 1, N / 10, UInt8.ofNat (48 + N % 10) :: s, by omega, by omega, by simpa using hsl, by go_num, by go_num, ?_, Lib.hid ?_, bl_alloc hbw _⟩
        · refine congrArg Value.string ?_
          apply ByteArray.ext; simp
        · rw [← HI.out, show k - i = (k - (i + 1)) + 1 from by omega, digL, List.append_assoc]
          rfl
      case measure => simp [intOf]; omega
    · obtain rfl : i = k := by omega
      have hf := HI.out
      rw [Nat.sub_self, digL, List.nil_append] at hf
      subst hf
      go_wp2_with fail
      go_ret
      exact ⟨rfl, hbw⟩
theorem rdigits_int (n k : Int) (w : World) (h : PadOk n k) :
    Calls Tryd.prog 63 #[.int .i64 n, .int .i64 k] w fun e w' => e = .returned (.string ⟨(digL n.toNat k.toNat).toArray⟩) ∧ Below w.heap.size w w' := by
  have h1 := h.hk
  have h2 := h.hk4
  have h3 := lt_ten h.hn (show k.toNat ≤ 4 by omega)
  have hp := rdigits_any n.toNat k.toNat w (by omega) (by omega)
  rwa [Int.toNat_of_nonneg h.h0, Int.toNat_of_nonneg (by omega)] at hp
set_option maxHeartbeats 400000 in
set_option maxRecDepth 100000 in
theorem rtext_yes (y m d : Int) (w : World) (hg : goodB y m d = true) :
    Calls Tryd.prog 27 #[.agg #[.int .i64 y, .int .i64 m, .int .i64 d]] w fun e w' => e = .returned (.string ⟨(dayL y m d).toArray⟩) ∧ Below w.heap.size w w' := by
  obtain ⟨g1, g2, g3, g4, g5, g6, g7⟩ := good_of hg
  go_enter Tryd.func27, Tryd.ntmps27
  go_wp2_with (go_at_call 62; refine (rgood_any _ _ _ _).mono ?_; rintro e w1 ⟨rfl, hb1⟩; rw [hg]; (have kb := (Blk.new w 24 #[.int .i64 y, .int .i64 m, .int .i64 d]).call hb1); obtain ⟨c0, c1, c2, _, _, _⟩ := kb.c3)
  have hbw := LB.mk (bl_call (bl_alloc (bl_refl w) _) hb1)
  have hlen := digL_len
  have py := pad4 (n := y) (by omega) (by omega)
  have pm := pad2 (n := m) (by omega) (by omega)
  have pd := pad2 (n := d) (by omega) (by omega)
  clear kb g1 g3 g4 g5 g6 g7 hb1
  go_region_held3 (fun w' => w'.cell? ⟨w.heap.size, 0, none⟩ = some (.int .i64 y) ∧ w'.cell? ⟨w.heap.size, 1, none⟩ = some (.int .i64 m) ∧ w'.cell? ⟨w.heap.size, 2, none⟩ = some (.int .i64 d) ∧ LB w w')
    (first
      | (refine ⟨?_, ?_, ?_, ?_⟩ <;> (first | assumption | (go_keep; done) | exact LB.drew (by assumption) | (refine cell_keep ?_ hb6; assumption) | (refine LB.call ?_ hb6; assumption))))
    ((go_at_call 63; go_split_ands; refine (rdigits_int _ _ _ (by assumption)).mono ?_; rintro e w6 ⟨rfl, hb6⟩))
  all_goals
    go_split_ands
    go_wp2_with fail
    go_ret
    refine ⟨?_, LB.out (by assumption)⟩
    exact congrArg (fun b => Ending.returned (.string b)) (text_cat _ _ _)
set_option maxRecDepth 100000 in
theorem rtext_no (y m d : Int) (w : World) (hg : goodB y m d = false) :
    Calls Tryd.prog 27 #[.agg #[.int .i64 y, .int .i64 m, .int .i64 d]] w fun e w' => e = .returned (.string ⟨#[]⟩) ∧ Below w.heap.size w w' := by
  go_enter Tryd.func27, Tryd.ntmps27
  go_wp2_with (go_at_call 62; refine (rgood_any _ _ _ _).mono ?_; rintro e w1 ⟨rfl, hb1⟩; rw [hg])
  go_ret
  exact ⟨rfl, bl_call (bl_alloc (bl_refl w) _) hb1⟩
theorem rtext_any (y m d : Int) (w : World) :
    Calls Tryd.prog 27 #[.agg #[.int .i64 y, .int .i64 m, .int .i64 d]] w fun e w' => e = .returned (.string ⟨(textL y m d).toArray⟩) ∧ Below w.heap.size w w' := by
  cases hg : goodB y m d with
  | true => simpa only [textL, hg, if_true] using rtext_yes y m d w hg
  | false =>
    have h := rtext_no y m d w hg
    simpa [textL, hg] using h
end Go.Proofs.YtcgkfgklggjmaaaDoor
end
section
namespace Go.Proofs.YtcgkfgklggjmaaaDoor.Dec
set_option linter.unusedVariables false
set_option linter.unusedSimpArgs false
/-! the plain laws of a number's text -/
theorem cut_whole {l : List UInt8} (h : l.all isDig = true) : Lib.cut l [46] = (l, [], false) := by
  rcases cut_spec l with ⟨e, _⟩ | ⟨a, b, e', ha, e⟩
  · exact e
  · exact absurd (by rw [e']; simp) (all_none h)
theorem cut_point {a b : List UInt8} (h : a.all isDig = true) : Lib.cut (a ++ 46 :: b) [46] = (a, b, true) := by
  rcases cut_spec (a ++ 46 :: b) with ⟨e, hn⟩ | ⟨a', b', e', ha, e⟩
  · exact absurd (by simp) hn
  · rw [e]
    have : a = a' ∧ b = b' := by
      rcases List.append_eq_append_iff.1 e' with ⟨c, h1, h2⟩ | ⟨c, h1, h2⟩
      · cases c with
        | nil => simp at h1 h2; exact ⟨h1.symm, h2⟩
        | cons x c => simp at h2; rw [h1, ← h2.1] at ha; exact absurd (by simp) ha
      · cases c with
        | nil => simp at h1 h2; exact ⟨h1, h2.symm⟩
        | cons x c => simp at h2; rw [h1, ← h2.1] at h; exact absurd (by simp) (all_none h)
    rw [this.1, this.2]
theorem head_dec : ∀ (n : Nat), 1 ≤ n → (Lib.decDigits n).headD 0 ≠ 48
  | n, h => by
    by_cases h10 : n < 10
    · rw [Lib.decDigits_one h10]
      intro e
      have := (ofNat48 n h10).1 e
      omega
    · rw [Lib.decDigits, dif_neg h10]
      have ih := head_dec (n / 10) (by omega)
      cases hh : Lib.decDigits (n / 10) with
      | nil => exact absurd hh (dec_ne _)
      | cons c r => rw [hh] at ih; simpa using ih
theorem lead_dec (n : Nat) : leadB (Lib.decDigits n) = false := by
  unfold leadB
  by_cases h10 : n < 10
  · rw [Lib.decDigits_one h10]; rfl
  · have := head_dec n (by omega)
    simp only [Bool.and_eq_false_iff, beq_eq_false_iff_ne]
    exact .inr this
theorem trim_fill : ∀ (l : List UInt8), Lib.trimRightB l 48 ++ List.replicate (l.length - (Lib.trimRightB l 48).length) 48 = l
  | [] => rfl
  | c :: l => by
    have ih := trim_fill l
    rw [trim_cons]
    by_cases h : Lib.trimRightB l 48 = []
    · rw [h] at ih
      simp only [List.nil_append, List.length_nil, Nat.sub_zero] at ih
      by_cases hc : c = 48
      · rw [if_pos h, if_pos hc, hc]
        simp only [List.nil_append, List.length_nil, Nat.sub_zero, List.length_cons, List.replicate_succ]
        rw [ih]
      · rw [if_pos h, if_neg hc]
        simp only [List.length_cons, List.length_nil, Nat.add_sub_cancel, Nat.zero_add]
        rw [List.cons_append, List.nil_append, ih]
    · rw [if_neg h]
      simp only [List.length_cons, List.cons_append]
      rw [Nat.add_sub_add_right, ih]
theorem trim_last : ∀ (l : List UInt8) (h : Lib.trimRightB l 48 ≠ []), (Lib.trimRightB l 48).getLast h ≠ 48
  | [], h => absurd rfl h
  | c :: l, h => by
    have ih := trim_last l
    by_cases h0 : Lib.trimRightB l 48 = []
    · by_cases hc : c = 48
      · exact absurd (by rw [trim_cons, if_pos h0, if_pos hc]) h
      · have e : Lib.trimRightB (c :: l) 48 = [c] := by rw [trim_cons, if_pos h0, if_neg hc]
        simp only [e, List.getLast_singleton]
        exact hc
    · have e : Lib.trimRightB (c :: l) 48 = c :: Lib.trimRightB l 48 := by rw [trim_cons, if_neg h0]
      simp only [e, List.getLast_cons h0]
      exact ih h0
theorem frac_fill (n k : Nat) : fillL (fracL n k) k = digL n k := by
  have := trim_fill (digL n k)
  rw [digL_len] at this
  exact this
theorem frac_all (n k : Nat) : (fracL n k).all isDig = true := by
  have h := digL_all k n
  rw [← frac_fill, fillL, List.all_append, Bool.and_eq_true] at h
  exact h.1
theorem frac_len (n k : Nat) : (fracL n k).length ≤ k := by
  have h := congrArg List.length (frac_fill n k)
  rw [digL_len, fillL, List.length_append] at h
  omega
theorem val_digL : ∀ (k n acc : Nat), valN acc (digL n k) = acc * 10 ^ k + n % 10 ^ k
  | 0, n, acc => by simp [digL, valN, Nat.mod_one]
  | k + 1, n, acc => by
    rw [digL, valN_append, val_digL k]
    have hd := (dig_ofNat (n % 10) (by omega)).2
    simp only [valN, List.foldl_cons, List.foldl_nil, hd]
    have e : n % 10 ^ (k + 1) = n % 10 + 10 * (n / 10 % 10 ^ k) := by rw [Nat.pow_succ, Nat.mul_comm, Nat.mod_mul]
    rw [e, Nat.pow_succ, ← Nat.mul_assoc, Nat.add_mul]
    omega
theorem val_dec (n : Nat) : valN 0 (Lib.decDigits n) = n := by
  induction n using Nat.strongRecOn with
  | ind n ih =>
    by_cases h10 : n < 10
    · have hd := (dig_ofNat n h10).2
      rw [Lib.decDigits_one h10]
      simp only [valN, List.foldl_cons, List.foldl_nil, hd]
      omega
    · have hd := (dig_ofNat (n % 10) (by omega)).2
      rw [Lib.decDigits, dif_neg h10, valN_append, ih (n / 10) (by omega)]
      simp only [valN, List.foldl_cons, List.foldl_nil, hd]
      omega
theorem val_text (n k : Nat) : valN 0 (Lib.decDigits (n / 10 ^ k) ++ digL n k) = n := by
  rw [valN_append, val_dec, val_digL]
  have := Nat.div_add_mod n (10 ^ k)
  rw [Nat.mul_comm] at this
  exact this
theorem val_more (l : List UInt8) (k : Nat) : valN 0 (l ++ List.replicate k 48) = valN 0 l * 10 ^ k := by
  rw [valN_append]
  induction k with
  | zero => simp [valN]
  | succ k ih => rw [List.replicate_succ', valN_append, ih, Nat.pow_succ, ← Nat.mul_assoc]; simp [valN]
/-- the form of a text that begins with a number -/
theorem form_textN (n k : Nat) : formL (textN n k) = if fracL n k = [] then 1 else 2 := by
  unfold textN tailL
  by_cases h : fracL n k = []
  · rw [if_pos h, if_pos h, List.append_nil, form_whole (dec_all _) (dec_ne _), lead_dec]; rfl
  · rw [if_neg h, if_neg h, form_point (dec_all _) (dec_ne _) (frac_all n k) h, lead_dec]; rfl
/-- a number with noughts behind it -/
theorem parse_point {a b : List UInt8} (ha : a.all isDig = true) (hne : a ≠ []) (hl : leadB a = false) (hb : b.all isDig = true) (hbe : b ≠ []) (k : Nat) (most : Int) (h1 : 1 ≤ k) (h9 : k ≤ 9) :
    parseL (a ++ 46 :: b) k most = if k < b.length then (0, 1) else if 9223372036854775808 ≤ valN 0 (a ++ fillL b k) ∨ most < (valN 0 (a ++ fillL b k) : Int) then (0, 2) else ((valN 0 (a ++ fillL b k) : Int), 0) := by
  have hf : formL (a ++ 46 :: b) = 2 := by rw [form_point ha hne hb hbe, hl]; rfl
  unfold parseL parseW
  rw [cut_point ha, hf, if_neg (by omega), Int.toNat_natCast]
  by_cases h : k < b.length
  · rw [if_pos h, if_pos (by exact_mod_cast h)]
  · rw [if_neg h, if_neg (by exact_mod_cast h)]
theorem parse_back (n k : Nat) (hn : n < 9223372036854775808) (hk : k ≤ 9) : parseL (textN n k) k 9223372036854775807 = ((n : Int), 0) := by
  by_cases h : fracL n k = []
  · have ht : textN n k = Lib.decDigits (n / 10 ^ k) := by rw [textN, tailL, if_pos h, List.append_nil]
    have hf := frac_fill n k
    rw [h] at hf
    unfold parseL parseW
    rw [form_textN, if_pos h, ht, cut_whole (dec_all _), if_neg (by simp; omega), if_neg (by simp), Int.toNat_natCast]
    simp only [hf, val_text]
    rw [if_neg (by omega)]
  · rw [textN, tailL, if_neg h, parse_point (dec_all _) (dec_ne _) (lead_dec _) (frac_all n k) h k _ ?_ hk]
    · have := frac_len n k
      rw [if_neg (by omega), frac_fill, val_text, if_neg (by omega)]
    · cases k with
      | zero => exact absurd rfl h
      | succ k => omega
theorem text_last (n k : Nat) (h : fracL n k ≠ []) : ∃ hne : textN n k ≠ [], (textN n k).getLast hne ≠ 48 := by
  have e : textN n k = (Lib.decDigits (n / 10 ^ k) ++ [46]) ++ fracL n k := by rw [textN, tailL, if_neg h]; simp
  rw [e]
  refine ⟨by simp, ?_⟩
  rw [List.getLast_append_of_ne_nil _ h]
  exact trim_last _ h
/-- noughts more -/
theorem noughts (n k more : Nat) (b : List UInt8) (hn : n < 9223372036854775808) (h1 : 1 ≤ k) (h9 : k ≤ 9) (hb : (fracL n k = [] ∧ b = [48]) ∨ (fracL n k ≠ [] ∧ b = fracL n k)) :
    parseL (Lib.decDigits (n / 10 ^ k) ++ 46 :: (b ++ List.replicate more 48)) k 9223372036854775807 = if k < b.length + more then (0, 1) else ((n : Int), 0) := by
  have hball : b.all isDig = true ∧ b ≠ [] := by
    rcases hb with ⟨_, rfl⟩ | ⟨h, rfl⟩
    · exact ⟨by decide, by simp⟩
    · exact ⟨frac_all n k, h⟩
  have hz : (List.replicate more (48 : UInt8)).all isDig = true := by simp [isDig]
  rw [parse_point (dec_all _) (dec_ne _) (lead_dec _) (by rw [List.all_append, hball.1, hz]; rfl) (by simp [hball.2]) k _ h1 h9]
  rw [List.length_append, List.length_replicate]
  by_cases h : k < b.length + more
  · rw [if_pos h, if_pos h]
  · rw [if_neg h, if_neg h]
    have e : fillL (b ++ List.replicate more 48) k = digL n k := by
      rw [← frac_fill]
      unfold fillL
      rw [List.length_append, List.length_replicate, List.append_assoc, List.replicate_append_replicate, show more + (k - (b.length + more)) = k - b.length by omega]
      rcases hb with ⟨h0, rfl⟩ | ⟨h0, rfl⟩
      · rw [h0, List.nil_append, List.length_nil, Nat.sub_zero, List.length_singleton]
        rw [show ([48] : List UInt8) = List.replicate 1 48 from rfl, List.replicate_append_replicate, show 1 + (k - 1) = k by omega]
      · rfl
    rw [e, val_text, if_neg (by omega)]
/-- a place more -/
theorem places_more (l : List UInt8) (k : Nat) (hk : k ≤ 8) (most : Int) :
    ((parseL l k most) = (0, 1)) ∨ ((parseL l k most) = (0, 2) ∧ (0 ≤ most → parseL l ((k : Int) + 1) most = (0, 2))) ∨
      (∃ v : Nat, v < 9223372036854775808 ∧ (v : Int) ≤ most ∧ parseL l k most = ((v : Int), 0) ∧ parseL l ((k : Int) + 1) most = if 9223372036854775808 ≤ 10 * v ∨ most < 10 * (v : Int) then (0, 2) else (10 * (v : Int), 0)) := by
  have e : parseL l ((k : Int) + 1) most = parseL l ((k + 1 : Nat) : Int) most := by simp
  rw [e]
  unfold parseL parseW
  generalize formL l = f
  generalize (Lib.cut l [46]).1 = a
  generalize (Lib.cut l [46]).2.1 = b
  by_cases c1 : f = 0 ∨ (k : Int) < 0 ∨ 9 < (k : Int) ∨ f = 2 ∧ (k : Int) = 0
  · left; rw [if_pos c1]
  · by_cases c2 : (k : Int) < (b.length : Int)
    · left; rw [if_neg c1, if_pos c2]
    · have c1' : ¬ (f = 0 ∨ ((k + 1 : Nat) : Int) < 0 ∨ 9 < ((k + 1 : Nat) : Int) ∨ f = 2 ∧ ((k + 1 : Nat) : Int) = 0) := by omega
      have c2' : ¬ ((k + 1 : Nat) : Int) < (b.length : Int) := by omega
      right
      rw [if_neg c1, if_neg c2, if_neg c1', if_neg c2', Int.toNat_natCast, Int.toNat_natCast]
      have ev : valN 0 (a ++ fillL b (k + 1)) = 10 * valN 0 (a ++ fillL b k) := by
        unfold fillL
        rw [show k + 1 - b.length = (k - b.length) + 1 by omega, List.replicate_succ', ← List.append_assoc, ← List.append_assoc, valN_append]
        simp only [valN, List.foldl_cons, List.foldl_nil, List.append_assoc]
        have : (48 : UInt8).toNat = 48 := rfl
        omega
      rw [ev]
      generalize valN 0 (a ++ fillL b k) = v
      by_cases c3 : 9223372036854775808 ≤ v ∨ most < (v : Int)
      · left
        rw [if_pos c3]
        refine ⟨rfl, fun hm => ?_⟩
        rw [if_pos (by omega)]
      · right
        refine ⟨v, by omega, by omega, by rw [if_neg c3], ?_⟩
        push_cast
        rfl
end Go.Proofs.YtcgkfgklggjmaaaDoor.Dec
end
section
namespace Go.Proofs.YtcgkfgklggjmaaaDoor.Dec
set_option linter.unusedVariables false
set_option linter.unusedSimpArgs false
open Go.RowKit
theorem width_one (s : ByteArray) (pos : Nat) (h : pos < s.size) : ((s[pos]'h).toNat < 128 ∧ Utf8.decode s pos = ((s[pos]'h).toNat, 1)) ∨ (128 ≤ (s[pos]'h).toNat ∧ 128 ≤ (Utf8.decode s pos).1 ∧ (Utf8.decode s pos).1 ≤ 2147483647) := by
  by_cases ha : (s[pos]'h).toNat < 128
  · exact .inl ⟨ha, decode_ascii s pos h ha⟩
  · exact .inr ⟨by omega, (decode_high s pos h (by omega)).1, decode_le s pos⟩
theorem all_no (t : ByteArray) (pos : Nat) (hp : pos < t.size) (h : isDig (t[pos]'hp) = false) : t.data.toList.all isDig = false := by
  rw [List.all_eq_false]
  refine ⟨t[pos], ?_, by simp [h]⟩
  have : t[pos] = t.data.toList[pos]'(by simpa using hp) := rfl
  rw [this]
  exact List.getElem_mem _
theorem digs_no {t : ByteArray} (h : t.data.toList.all isDig = false) : digitsB t.data.toList = false := by simp only [digitsB, h, Bool.false_and]
theorem pow_bd (i : Nat) (h : i ≤ 9) : (0 : Int) ≤ ((10 ^ i : Nat) : Int) ∧ ((10 ^ i : Nat) : Int) ≤ 1000000000 := by
  have h1 : 10 ^ i ≤ 1000000000 := Nat.pow_le_pow_right (n := 10) (j := 9) (by decide) h
  exact ⟨Int.natCast_nonneg _, Int.ofNat_le.2 h1⟩
set_option maxHeartbeats 4000000 in
theorem digits_any (s : ByteArray) (w : World) :
    Calls Tryd.prog 150 #[.string s] w fun e w' => e = .returned (.bool (digitsB s.data.toList)) ∧ Below w.heap.size w w' := by
  obtain ⟨b, hb⟩ : ∃ b, digitsB s.data.toList = b := ⟨_, rfl⟩
  rw [hb]
  have HB := Lib.hid hb
  clear hb
  go_enter Tryd.func150, Tryd.ntmps150
  go_wp2_with fail
  go_loopw [7] (fun _ wi => ∃ pos : Nat, wi.heap[w.heap.size]? = some (.stringIter s pos) ∧ Below w.heap.size w wi ∧ Hid ((s.data.toList.take pos).all isDig = true) ∧ pos ≤ s.size) (fun _ wi => s.size - wi.iterPos w.heap.size)
  case atStart => exact ⟨0, World.iter_heap w s 0, bl_alloc (bl_refl w) _, by simp [Hid], Nat.zero_le _⟩
  case round =>
    obtain ⟨pos, hit, hbi, HA, hpl⟩ := hrel
    have hpos0 := iterPos_of hit
    by_cases hp : pos < s.size
    · have hnx : ∀ ty, (Instr.next (.pointer (some ⟨w.heap.size, 0, none⟩)) true ty).run Tryd.prog wr = _ := fun ty => Lib.run_next_any_at wr w.heap.size s pos ty hit hp
      have hit2 := Lib.iterAt_heap wr w.heap.size s pos (pos + (Utf8.decode s pos).2) hit
      have hbw2 := Lib.below_iterAt hbi (k := w.heap.size) (Nat.le_refl _) s (pos + (Utf8.decode s pos).2)
      have hsn := take_snoc s pos hp
      obtain ⟨W1, hW1⟩ : ∃ W1, W1 = wr.iterAt w.heap.size s (pos + (Utf8.decode s pos).2) := ⟨_, rfl⟩
      rw [← hW1] at hnx hit2 hbw2
      clear hW1 hit hbi
      have HS := Lib.hid hsn
      clear hsn
      rcases width_one s pos hp with ⟨ha, hde⟩ | ⟨ha, hde, hde2⟩
      · rw [hde] at hnx hit2
        simp only at hnx hit2
        clear hde
        have hbad := all_no s pos hp
        generalize hby : (s[pos]'hp) = by_ at *
        have hbl := by_.toNat_lt
        by_cases hg : 48 ≤ by_.toNat ∧ by_.toNat ≤ 57
        · obtain ⟨hg1, hg2⟩ := hg
          have hgi : isDig by_ = true := by simp [isDig, hg1, hg2]
          have HG := Lib.hid hgi
          clear hgi hby hbad
          go_wp2
          go_roundw
          case rel =>
            refine ⟨pos + 1, hit2, hbw2, ?_, by omega⟩
            show _ = _
            rw [HS.out]
            simp [HG.out, HA.out]
          case measure =>
            rw [iterPos_of hit2, hpos0]
            omega
        · have hnd : isDig by_ = false := by simp [isDig]; omega
          have hno : b = false := HB.out.symm.trans (digs_no (hbad hnd))
          subst hno
          clear hbad hnd
          by_cases hg1 : 48 ≤ by_.toNat
          all_goals
            go_wp2
            go_ret
            exact ⟨rfl, hbw2⟩
      · have hnd : isDig (s[pos]'hp) = false := by simp [isDig]; omega
        have hno : b = false := HB.out.symm.trans (digs_no (all_no s pos hp hnd))
        subst hno
        clear hnd
        generalize (Utf8.decode s pos).1 = rr at *
        go_wp2
        go_ret
        exact ⟨rfl, hbw2⟩
    · have hpe : pos = s.size := by omega
      have hnx : ∀ ty, (Instr.next (.pointer (some ⟨w.heap.size, 0, none⟩)) true ty).run Tryd.prog wr = _ := fun ty => Lib.run_next_end_at wr w.heap.size s pos ty hit hp
      subst hpe
      have hA : s.data.toList.all isDig = true := by have := HA.out; rwa [List.take_of_length_le (by simp)] at this
      have hres : b = !s.toList.isEmpty := by rw [← HB.out, digitsB, hA, Bool.true_and, Lib.toList_data]
      subst hres
      clear HB hA HA
      go_wp2
      go_ret
      exact ⟨rfl, hbi⟩
end Go.Proofs.YtcgkfgklggjmaaaDoor.Dec
end
section
namespace Go.Proofs.YtcgkfgklggjmaaaDoor.Dec
set_option linter.unusedVariables false
set_option linter.unusedSimpArgs false
open Go.RowKit
def GT (w : World) : Prop := Lib.TabIs Tryd.prog w "internal/strconv.uint64pow10" .u64 Lib.pow10Tab
theorem gT : Tryd.prog.globalNamed "internal/strconv.uint64pow10" = some 2 := by kernel_rfl
theorem GT.below {w v : World} (h : GT w) (hb : Below w.heap.size w v) : GT v := Go.Joins.tab_stays gT h hb (Nat.le_refl _)
theorem cell_keep {v w' : World} {p : Addr} {x : Value} (h : v.cell? p = some x) (hb : Below v.heap.size v w') : w'.cell? p = some x := (hb.cell (World.block_lt_of_cell? v _ h)).trans h
/-- what the library's variables hold -/
structure DT (w : World) : Prop where
  tab : GT w
  mx : ∃ m, w.cell? ⟨3, 0, none⟩ = some (.int .i64 m)
  er : ∃ ev, w.cell? ⟨7, 0, none⟩ = some ev ∧ (ev = .nilIface ∨ ∃ te pe, ev = .iface te pe)
theorem DT.below {w v : World} (h : DT w) (hb : Below w.heap.size w v) : DT v := by
  obtain ⟨h1, ⟨m, h2⟩, ⟨ev, h3, h4⟩⟩ := h
  exact ⟨h1.below hb, ⟨m, cell_keep h2 hb⟩, ⟨ev, cell_keep h3 hb, h4⟩⟩
theorem bl_growN {w v : World} (h : Below w.heap.size w v) (k : Nat) (os : Array Obj) : Below w.heap.size w (Go.Sort.grow (v.drewN k) os) :=
  bl_call h ⟨rfl, rfl, rfl, by simp [Go.Sort.grow], fun i hi => by
    show ((v.drewN k).heap ++ os)[i]? = _
    rw [Array.getElem?_append_left (by show i < v.heap.size; omega)]
    rfl⟩
/-- strings.Cut at a point -/
theorem cut_any (s : ByteArray) (w : World) (hT : DT w) (hs : s.size < 4294967281) :
    Calls Tryd.prog 149 #[.string s, .string ⟨#[46]⟩] w fun e w' => e = .returned (.tuple #[.string ⟨(Lib.cut s.data.toList [46]).1.toArray⟩, .string ⟨(Lib.cut s.data.toList [46]).2.1.toArray⟩, .bool (Lib.cut s.data.toList [46]).2.2]) ∧ Below w.heap.size w w' := by
  obtain ⟨m, hm⟩ := hT.mx
  refine (Tryd.strings_Cut s ⟨#[46]⟩ m w hs hm).mono ?_
  rintro e w' ⟨rfl, n, rfl⟩
  exact ⟨rfl, bl_drewN (bl_refl w) n⟩
theorem str_index (s : ByteArray) (k : Nat) (h : k < s.size) (w : World) : (Instr.index 9 (.string s) (.int .i64 k)).run Tryd.prog w = .ok (.int .u8 ((s[k]'h).toNat : Int)) w := by
  go_simp
set_option maxHeartbeats 4000000 in
theorem dof_any (s : ByteArray) (w : World) (hT : DT w) (hs : s.size < 4294967281) :
    Calls Tryd.prog 123 #[.string s] w fun e w' => e = .returned (.int .i64 (formL s.data.toList)) ∧ Below w.heap.size w w' := by
  unfold formL
  have hcut := cut_any s w hT hs
  generalize (Lib.cut s.data.toList [46]).1 = a at *
  generalize (Lib.cut s.data.toList [46]).2.1 = b at *
  generalize (Lib.cut s.data.toList [46]).2.2 = p at *
  obtain ⟨f, hf⟩ : ∃ f, formW a b p = f := ⟨_, rfl⟩
  rw [hf]
  have HF := Lib.hid hf
  clear hf
  have ea : (⟨a.toArray⟩ : ByteArray).size = a.length := by simp [ByteArray.size]
  cases da : digitsB a with
  | false =>
    have hf : f = 0 := by rw [← HF.out, formW, da]; rfl
    subst hf
    clear HF
    go_enter Tryd.func123, Tryd.ntmps123
    go_wp2_with fail
    refine hcut.mono ?_
    rintro e w1 ⟨rfl, hb1⟩
    go_wp2_with fail
    refine (digits_any _ _).mono ?_
    rintro e w2 ⟨rfl, hb2⟩
    rw [show digitsB (ByteArray.mk a.toArray).data.toList = false from da]
    go_wp2_with fail
    go_ret
    exact ⟨rfl, bl_call hb1 hb2⟩
  | true =>
    have hl : leadB a = true ∨ (leadB a = false ∧ p = false) ∨ (leadB a = false ∧ p = true ∧ digitsB b = true) ∨ (leadB a = false ∧ p = true ∧ digitsB b = false) := by
      cases leadB a <;> cases p <;> cases digitsB b <;> simp
    have hcase : (1 < a.length ∧ (a.headD 0 == 48) = true ∧ f = 0) ∨ ((a.length ≤ 1 ∨ (1 < a.length ∧ (a.headD 0 == 48) = false)) ∧ ((p = false ∧ f = 1) ∨ (p = true ∧ digitsB b = true ∧ f = 2) ∨ (p = true ∧ digitsB b = false ∧ f = 0))) := by
      rw [← HF.out, formW, da]
      unfold leadB
      by_cases h1 : 1 < a.length
      · cases h2 : (a.headD 0 == 48) <;> cases p <;> cases digitsB b <;> simp [h1, h2]
      · cases p <;> cases digitsB b <;> simp [h1] <;> omega
    clear HF hl
    have hidx : ∀ (h : 1 < a.length) w, (Instr.index 9 (.string ⟨a.toArray⟩) (.int .i64 0)).run Tryd.prog w = .ok (.int .u8 ((a.headD 0).toNat : Int)) w := by
      intro h w
      cases a with
      | nil => simp at h
      | cons c r => exact str_index (ByteArray.mk (c :: r).toArray) 0 (by rw [ea]; omega) w
    rcases hcase with ⟨h1, h2, rfl⟩ | ⟨h12 | ⟨h1, h2⟩, hf⟩
    · have hi := hidx h1
      have hl : (1 : Int) < (a.length : Int) := by omega
      have h48 : ((a.headD 0).toNat : Int) = 48 := by rw [beq_iff_eq.1 h2]; rfl
      rw [h48] at hi
      clear hidx h48 h2
      go_enter Tryd.func123, Tryd.ntmps123
      go_wp2_with fail
      refine hcut.mono ?_
      rintro e w1 ⟨rfl, hb1⟩
      go_wp2_with fail
      refine (digits_any _ _).mono ?_
      rintro e w2 ⟨rfl, hb2⟩
      rw [show digitsB (ByteArray.mk a.toArray).data.toList = true from da]
      have hb12 := bl_call hb1 hb2
      go_wp2_with fail
      go_ret
      exact ⟨rfl, hb12⟩
    · have hl : (a.length : Int) ≤ 1 := by omega
      rcases hf with ⟨rfl, rfl⟩ | ⟨rfl, db, rfl⟩ | ⟨rfl, db, rfl⟩
      · go_enter Tryd.func123, Tryd.ntmps123
        go_wp2_with fail
        refine hcut.mono ?_
        rintro e w1 ⟨rfl, hb1⟩
        go_wp2_with fail
        refine (digits_any _ _).mono ?_
        rintro e w2 ⟨rfl, hb2⟩
        rw [show digitsB (ByteArray.mk a.toArray).data.toList = true from da]
        have hb12 := bl_call hb1 hb2
        go_wp2_with fail
        go_ret
        exact ⟨rfl, hb12⟩
      · go_enter Tryd.func123, Tryd.ntmps123
        go_wp2_with fail
        refine hcut.mono ?_
        rintro e w1 ⟨rfl, hb1⟩
        go_wp2_with fail
        refine (digits_any _ _).mono ?_
        rintro e w2 ⟨rfl, hb2⟩
        rw [show digitsB (ByteArray.mk a.toArray).data.toList = true from da]
        have hb12 := bl_call hb1 hb2
        go_wp2_with fail
        refine (digits_any _ _).mono ?_
        rintro e w3 ⟨rfl, hb3⟩
        rw [show digitsB (ByteArray.mk b.toArray).data.toList = true from db]
        go_wp2_with fail
        go_ret
        exact ⟨rfl, bl_call hb12 hb3⟩
      · go_enter Tryd.func123, Tryd.ntmps123
        go_wp2_with fail
        refine hcut.mono ?_
        rintro e w1 ⟨rfl, hb1⟩
        go_wp2_with fail
        refine (digits_any _ _).mono ?_
        rintro e w2 ⟨rfl, hb2⟩
        rw [show digitsB (ByteArray.mk a.toArray).data.toList = true from da]
        have hb12 := bl_call hb1 hb2
        go_wp2_with fail
        refine (digits_any _ _).mono ?_
        rintro e w3 ⟨rfl, hb3⟩
        rw [show digitsB (ByteArray.mk b.toArray).data.toList = false from db]
        go_wp2_with fail
        go_ret
        exact ⟨rfl, bl_call hb12 hb3⟩
    · have hi := hidx h1
      have hl : (1 : Int) < (a.length : Int) := by omega
      have h48 : (((a.headD 0).toNat : Int) == 48) = false := by
        rw [beq_eq_false_iff_ne] at h2 ⊢
        intro e
        exact h2 (UInt8.toNat.inj (by show _ = 48; omega))
      clear hidx h2
      generalize ((a.headD 0).toNat : Int) = h0 at *
      rcases hf with ⟨rfl, rfl⟩ | ⟨rfl, db, rfl⟩ | ⟨rfl, db, rfl⟩
      · go_enter Tryd.func123, Tryd.ntmps123
        go_wp2_with fail
        refine hcut.mono ?_
        rintro e w1 ⟨rfl, hb1⟩
        go_wp2_with fail
        refine (digits_any _ _).mono ?_
        rintro e w2 ⟨rfl, hb2⟩
        rw [show digitsB (ByteArray.mk a.toArray).data.toList = true from da]
        have hb12 := bl_call hb1 hb2
        go_wp2_with fail
        go_ret
        exact ⟨rfl, hb12⟩
      · go_enter Tryd.func123, Tryd.ntmps123
        go_wp2_with fail
        refine hcut.mono ?_
        rintro e w1 ⟨rfl, hb1⟩
        go_wp2_with fail
        refine (digits_any _ _).mono ?_
        rintro e w2 ⟨rfl, hb2⟩
        rw [show digitsB (ByteArray.mk a.toArray).data.toList = true from da]
        have hb12 := bl_call hb1 hb2
        go_wp2_with fail
        refine (digits_any _ _).mono ?_
        rintro e w3 ⟨rfl, hb3⟩
        rw [show digitsB (ByteArray.mk b.toArray).data.toList = true from db]
        go_wp2_with fail
        go_ret
        exact ⟨rfl, bl_call hb12 hb3⟩
      · go_enter Tryd.func123, Tryd.ntmps123
        go_wp2_with fail
        refine hcut.mono ?_
        rintro e w1 ⟨rfl, hb1⟩
        go_wp2_with fail
        refine (digits_any _ _).mono ?_
        rintro e w2 ⟨rfl, hb2⟩
        rw [show digitsB (ByteArray.mk a.toArray).data.toList = true from da]
        have hb12 := bl_call hb1 hb2
        go_wp2_with fail
        refine (digits_any _ _).mono ?_
        rintro e w3 ⟨rfl, hb3⟩
        rw [show digitsB (ByteArray.mk b.toArray).data.toList = false from db]
        go_wp2_with fail
        go_ret
        exact ⟨rfl, bl_call hb12 hb3⟩
end Go.Proofs.YtcgkfgklggjmaaaDoor.Dec
end
section
namespace Go.Proofs.YtcgkfgklggjmaaaDoor.Dec
set_option linter.unusedVariables false
set_option linter.unusedSimpArgs false
open Go.RowKit
theorem form_three (l : List UInt8) : formL l = 0 ∨ formL l = 1 ∨ formL l = 2 := by
  unfold formL formW
  split
  · exact .inl rfl
  · split
    · exact .inr (.inl rfl)
    · split
      · exact .inr (.inr rfl)
      · exact .inl rfl
theorem form_digits {l : List UInt8} (h : formL l ≠ 0) : (Lib.cut l [46]).1.all isDig = true ∧ (Lib.cut l [46]).1 ≠ [] ∧ (Lib.cut l [46]).2.1.all isDig = true := by
  have h0 := h
  unfold formL formW at h
  have hd : digitsB (Lib.cut l [46]).1 = true := by
    cases hh : digitsB (Lib.cut l [46]).1 with
    | true => rfl
    | false => rw [hh] at h; exact absurd rfl h
  have h1 : (Lib.cut l [46]).1.all isDig = true ∧ (Lib.cut l [46]).1 ≠ [] := by
    unfold digitsB at hd
    rw [Bool.and_eq_true] at hd
    refine ⟨hd.1, fun e => ?_⟩
    rw [e] at hd
    exact absurd hd.2 (by decide)
  refine ⟨h1.1, h1.2, ?_⟩
  rcases cut_spec l with ⟨e, _⟩ | ⟨a, b, e', ha, e⟩
  · rw [e]; rfl
  · rw [e] at h ⊢
    cases hh : digitsB b with
    | true => unfold digitsB at hh; rw [Bool.and_eq_true] at hh; exact hh.1
    | false =>
      rw [hh] at h
      exact absurd (by split <;> rfl) h
theorem cut_len (l : List UInt8) : (Lib.cut l [46]).1.length + (Lib.cut l [46]).2.1.length ≤ l.length := by
  rcases cut_spec l with ⟨e, _⟩ | ⟨a, b, e', ha, e⟩
  · rw [e]; simp
  · rw [e, e']; simp
theorem repeat_char (c : Nat) : Lib.repeatL (ByteArray.mk #[48]).data.toList c = List.replicate c 48 := by
  have := Lib.repeatL_replicate 48 1 c
  rw [Nat.mul_one] at this
  exact this
/-- Atoi of digits -/
theorem atoi_any (l : List UInt8) (w : World) (hT : DT w) (h : l.all isDig = true) (hne : l ≠ []) (hl : l.length ≤ 40000) :
    Calls Tryd.prog 151 #[.string ⟨l.toArray⟩] w fun e w' => ((valN 0 l < 9223372036854775808 ∧ e = .returned (.tuple #[.int .i64 (valN 0 l : Int), .nilIface])) ∨ (9223372036854775808 ≤ valN 0 l ∧ ∃ n N, e = .returned (.tuple #[.int .i64 n, .iface 219 (.pointer (some ⟨N, 0, none⟩))]))) ∧ Below w.heap.size w w' := by
  have ha := atoi_val h hne
  have hs : (ByteArray.mk l.toArray).size = l.length := by simp [ByteArray.size]
  by_cases hv : valN 0 l < 9223372036854775808
  · rw [if_pos hv] at ha
    refine (Tryd.strconv_Atoi_ok ⟨l.toArray⟩ (by omega) _ ha w).mono ?_
    rintro e w' ⟨rfl, hw⟩
    refine ⟨.inl ⟨hv, rfl⟩, ?_⟩
    rcases hw with rfl | ⟨t, rfl⟩
    · exact bl_refl _
    · exact Lib.bytesWorld_below w _ t
  · rw [if_neg hv] at ha
    obtain ⟨ev, h1, h2⟩ := hT.er
    refine (Tryd.strconv_Atoi_range ⟨l.toArray⟩ (by omega) ha ev w h1 h2).mono ?_
    rintro e w' ⟨N, rfl, _, _, hb⟩
    exact ⟨.inr ⟨by omega, _, N, rfl⟩, hb⟩
set_option maxHeartbeats 4000000 in
theorem dparse_any (s : ByteArray) (places most : Int) (w : World) (hT : DT w) (hs : s.size ≤ 20000) :
    Calls Tryd.prog 125 #[.string s, .int .i64 places, .int .i64 most] w fun e w' => e = .returned (.tuple #[.int .i64 (parseL s.data.toList places most).1, .int .i64 (parseL s.data.toList places most).2]) ∧ Below w.heap.size w w' := by
  have hform := dof_any s w hT (by omega)
  have h3 := form_three s.data.toList
  have hd := @form_digits s.data.toList
  have hcl := cut_len s.data.toList
  have hsl : s.data.toList.length = s.size := (Lib.size_eq s).symm
  rw [hsl] at hcl
  unfold parseL
  have hcut := fun v hb => cut_any s v (hT.below hb) (by omega)
  generalize (Lib.cut s.data.toList [46]).1 = a at *
  generalize (Lib.cut s.data.toList [46]).2.1 = b at *
  generalize (Lib.cut s.data.toList [46]).2.2 = p at *
  generalize formL s.data.toList = f at *
  have eb : (⟨b.toArray⟩ : ByteArray).size = b.length := by simp [ByteArray.size]
  have hcase : ((f = 0 ∨ f = 1 ∨ f = 2) ∧ (f = 0 ∨ places < 0 ∨ 9 < places ∨ (f = 2 ∧ places = 0))) ∨ ((f = 1 ∨ f = 2) ∧ 0 ≤ places ∧ places ≤ 9 ∧ (f = 1 ∨ places ≠ 0)) := by omega
  rcases hcase with ⟨hf, hbad⟩ | ⟨hf, p0, p9, hp⟩
  · have e1 : parseW f a b places most = (0, 1) := by unfold parseW; rw [if_pos hbad]
    rw [e1]
    have hcc : f = 0 ∨ ((f = 1 ∨ f = 2) ∧ places < 0) ∨ ((f = 1 ∨ f = 2) ∧ 0 ≤ places ∧ 9 < places) ∨ (f = 2 ∧ places = 0) := by omega
    clear hd hcut e1 hbad hf h3
    rcases hcc with rfl | ⟨rfl | rfl, h⟩ | ⟨rfl | rfl, h, h'⟩ | ⟨rfl, rfl⟩
    all_goals
      go_enter Tryd.func125, Tryd.ntmps125
      go_wp2_with fail
      refine hform.mono ?_
      rintro e w1 ⟨rfl, hb1⟩
      go_wp2_with fail
      go_ret2
      exact ⟨rfl, hb1⟩
  · obtain ⟨d1, d2, d3⟩ := hd (by omega)
    have hn0 : ¬ (f = 0 ∨ places < 0 ∨ 9 < places ∨ (f = 2 ∧ places = 0)) := by omega
    by_cases hlong : places < (b.length : Int)
    · have e1 : parseW f a b places most = (0, 1) := by unfold parseW; rw [if_neg hn0, if_pos hlong]
      rw [e1]
      clear hd h3 e1 hn0 d1 d2 d3
      rcases hf with rfl | rfl
      · go_enter Tryd.func125, Tryd.ntmps125
        go_wp2_with fail
        refine hform.mono ?_
        rintro e w1 ⟨rfl, hb1⟩
        go_wp2_with fail
        refine (hcut _ hb1).mono ?_
        rintro e w2 ⟨rfl, hb2⟩
        go_wp2_with fail
        go_ret2
        exact ⟨rfl, bl_call hb1 hb2⟩
      · have hp' : (places == 0) = false := by rw [beq_eq_false_iff_ne]; omega
        clear hp
        go_enter Tryd.func125, Tryd.ntmps125
        go_wp2_with fail
        refine hform.mono ?_
        rintro e w1 ⟨rfl, hb1⟩
        go_wp2_with fail
        refine (hcut _ hb1).mono ?_
        rintro e w2 ⟨rfl, hb2⟩
        go_wp2_with fail
        go_ret2
        exact ⟨rfl, bl_call hb1 hb2⟩
    · obtain ⟨k, hk⟩ : ∃ k : Nat, places = (k : Int) := ⟨places.toNat, by omega⟩
      subst hk
      have hkb : b.length ≤ k := by omega
      have hrep : (k : Int) - (b.length : Int) = ((k - b.length : Nat) : Int) := by omega
      obtain ⟨L, hL⟩ : ∃ L, a ++ fillL b k = L := ⟨_, rfl⟩
      have hz : (List.replicate (k - b.length) (48 : UInt8)).all isDig = true := by simp [isDig]
      have la : L.all isDig = true := by rw [← hL, fillL, List.all_append, List.all_append, d1, d3, hz]; rfl
      have ln : L ≠ [] := by rw [← hL]; simp [d2]
      have ll : L.length ≤ 40000 := by rw [← hL, fillL, List.length_append, List.length_append, List.length_replicate]; omega
      have hat := fun v hb => atoi_any L v (hT.below hb) la ln ll
      have hres : (9223372036854775808 ≤ valN 0 L ∧ parseW f a b k most = (0, 2)) ∨ (valN 0 L < 9223372036854775808 ∧ most < (valN 0 L : Int) ∧ parseW f a b k most = (0, 2)) ∨ (valN 0 L < 9223372036854775808 ∧ (valN 0 L : Int) ≤ most ∧ parseW f a b k most = ((valN 0 L : Int), 0)) := by
        unfold parseW
        rw [if_neg hn0, if_neg hlong, Int.toNat_natCast, hL]
        by_cases c1 : 9223372036854775808 ≤ valN 0 L
        · exact .inl ⟨c1, by rw [if_pos (.inl c1)]⟩
        · by_cases c2 : most < (valN 0 L : Int)
          · exact .inr (.inl ⟨by omega, c2, by rw [if_pos (.inr c2)]⟩)
          · exact .inr (.inr ⟨by omega, by omega, by rw [if_neg (by omega)]⟩)
      have HL := Lib.hid hL
      generalize valN 0 L = V at *
      have hcat : (ByteArray.mk a.toArray) ++ (ByteArray.mk b.toArray) ++ (ByteArray.mk (Array.replicate (k - b.length) 48)) = ⟨L.toArray⟩ := by
        rw [← HL.out, fillL]
        apply ByteArray.ext; simp
      have HC := Lib.hid hcat
      clear hcat hL la ln ll hz d1 d2 d3 hd h3 hn0
      have hbig : b.length ≤ 20000 := by omega
      have hbig2 : a.length ≤ 20000 := by omega
      have ea : (⟨a.toArray⟩ : ByteArray).size = a.length := by simp [ByteArray.size]
      have er : (ByteArray.mk (List.replicate (k - b.length) (48 : UInt8)).toArray).size = k - b.length := by simp [ByteArray.size]
      have hv1 : ¬ 9223372036854775807 < a.length + b.length := by omega
      have hv2 : ¬ 9223372036854775807 < a.length + b.length + (k - b.length) := by omega
      have hp' : f = 1 ∨ (f = 2 ∧ ((k : Int) == 0) = false) := by
        rcases hf with h | h
        · exact .inl h
        · exact .inr ⟨h, by rw [beq_eq_false_iff_ne]; omega⟩
      clear hp hf
      rcases hres with ⟨c1, e1⟩ | ⟨c1, c2, e1⟩ | ⟨c1, c2, e1⟩
      all_goals
        rw [e1]
        clear e1
        rcases hp' with rfl | ⟨rfl, hp'⟩
      all_goals
        go_enter Tryd.func125, Tryd.ntmps125
        go_wp2_with fail
        refine hform.mono ?_
        rintro e w1 ⟨rfl, hb1⟩
        go_wp2_with fail
        refine (hcut _ hb1).mono ?_
        rintro e w2 ⟨rfl, hb2⟩
        have hb12 := bl_call hb1 hb2
        go_wp2_with fail
        refine (Tryd.strings_Repeat _ (k - b.length) _ (by omega) ?_).mono ?_
        · show 1 * (k - b.length) ≤ _; omega
        rintro e w3 ⟨rfl, hb3⟩
        rw [repeat_char]
        have hb123 := bl_call hb12 hb3
        go_wp2_with fail
        rw [HC.out]
        refine (hat _ hb123).mono ?_
        rintro e w4 ⟨h, hb4⟩
        have hb1234 := bl_call hb123 hb4
      all_goals
        rcases h with ⟨hv, rfl⟩ | ⟨hv, n, N, rfl⟩
      all_goals first
        | (exfalso; omega)
        | (go_wp2_with fail; go_ret2; exact ⟨rfl, hb1234⟩)
end Go.Proofs.YtcgkfgklggjmaaaDoor.Dec
end
section
namespace Go.Proofs.YtcgkfgklggjmaaaDoor.Dec
set_option linter.unusedVariables false
set_option linter.unusedSimpArgs false
open Go.RowKit
theorem size_alloc (w : World) (o : Obj) : (w.alloc o).heap.size = w.heap.size + 1 := Array.size_push _
theorem Blk.new2 (w : World) (o : Obj) (t : TypeId) (cs : Array Value) : Blk ((w.alloc o).alloc (.cells cs t)) (w.heap.size + 1) t cs := by
  have h := Blk.new (w.alloc o) t cs
  rwa [size_alloc] at h
set_option maxHeartbeats 4000000 in
theorem wof_any (a : Int) (w : World) (h0 : 0 ≤ a) (h1 : a < 9223372036854775808) :
    Calls Tryd.prog 139 #[.int .i64 a] w fun e w' => e = .returned (.agg #[.bool false, .int .u64 0, .int .u64 a]) ∧ Below w.heap.size w w' := by
  have hu : IntKind.u64.wrap a = a := by rw [IntKind.wrap_u64]; omega
  go_enter Tryd.func139, Tryd.ntmps139
  go_wp2_with fail
  exact bodyPost_ret (results_cell_row rfl _ _ w.heap.size _ #[.bool false, .int .u64 0, .int .u64 a] (0, 0) _ rfl (Blk.new w _ _) Tryd.underlying181 rfl (by kernel_rfl)) rfl ⟨rfl, bl_alloc (bl_refl w) _⟩
set_option maxHeartbeats 4000000 in
theorem wzero_any (b : Bool) (hi lo : Int) (w : World) :
    Calls Tryd.prog 159 #[.agg #[.bool b, .int .u64 hi, .int .u64 lo]] w fun e w' => e = .returned (.bool (hi == 0 && lo == 0)) ∧ Below w.heap.size w w' := by
  by_cases h : hi = 0
  · subst h
    go_enter Tryd.func159, Tryd.ntmps159
    go_wp2_with fail
    go_ret
    exact ⟨by first | rfl | simp, bl_alloc (bl_refl w) _⟩
  · have hb : (hi == 0) = false := beq_eq_false_iff_ne.mpr h
    go_enter Tryd.func159, Tryd.ntmps159
    go_wp2_with fail
    go_ret
    exact ⟨by rw [hb]; rfl, bl_alloc (bl_refl w) _⟩
set_option maxHeartbeats 4000000 in
theorem wint_ok (lo : Int) (w : World) (l0 : 0 ≤ lo) (l1 : lo < 9223372036854775808) :
    Calls Tryd.prog 136 #[.agg #[.bool false, .int .u64 0, .int .u64 lo]] w fun e w' => e = .returned (.tuple #[.int .i64 lo, .bool true]) ∧ Below w.heap.size w w' := by
  have hu : IntKind.i64.wrap lo = lo := by rw [IntKind.wrap_i64]; omega
  go_enter Tryd.func136, Tryd.ntmps136
  go_wp2_with fail
  go_ret2
  exact ⟨rfl, bl_alloc (bl_refl w) _⟩
set_option maxHeartbeats 4000000 in
theorem wint_no (hi lo : Int) (w : World) (h : hi ≠ 0 ∨ (hi = 0 ∧ 9223372036854775808 ≤ lo)) :
    Calls Tryd.prog 136 #[.agg #[.bool false, .int .u64 hi, .int .u64 lo]] w fun e w' => e = .returned (.tuple #[.int .i64 0, .bool false]) ∧ Below w.heap.size w w' := by
  rcases h with h | ⟨rfl, h⟩
  · have hb : (hi != 0) = true := bne_iff_ne.mpr h
    go_enter Tryd.func136, Tryd.ntmps136
    go_wp2_with fail
    go_ret2
    exact ⟨rfl, bl_alloc (bl_refl w) _⟩
  · go_enter Tryd.func136, Tryd.ntmps136
    go_wp2_with fail
    go_ret2
    exact ⟨rfl, bl_alloc (bl_refl w) _⟩
set_option maxHeartbeats 4000000 in
theorem wplus_any (b c : Bool) (ah al bh bl hi lo : Int) (w : World) (a0 : 0 ≤ ah) (a1 : 0 ≤ al) (a2 : al < 18446744073709551616) (b0 : 0 ≤ bh) (b1 : 0 ≤ bl) (b2 : bl < 18446744073709551616) (hh : ah + bh + 1 < 18446744073709551616)
    (hhi : hi = ah + bh + (al + bl) / 18446744073709551616) (hlo : lo = (al + bl) % 18446744073709551616) :
    Calls Tryd.prog 158 #[.agg #[.bool b, .int .u64 ah, .int .u64 al], .agg #[.bool c, .int .u64 bh, .int .u64 bl]] w fun e w' => e = .returned (.agg #[.bool false, .int .u64 hi, .int .u64 lo]) ∧ Below w.heap.size w w' := by
  have hw1 : IntKind.u64.wrap (al + bl) = lo := by rw [IntKind.wrap_u64]; omega
  have hw2 : IntKind.u64.wrap (ah + bh) = ah + bh := by rw [IntKind.wrap_u64]; omega
  have hw3 : IntKind.u64.wrap (ah + bh + 1) = ah + bh + 1 := by rw [IntKind.wrap_u64]; omega
  by_cases hc : lo < al
  · have hx : hi = ah + bh + 1 := by omega
    rw [hx]
    clear hhi hlo hx hi
    go_enter Tryd.func158, Tryd.ntmps158
    go_wp2_with fail
    exact bodyPost_ret (results_cell_row rfl _ _ (w.heap.size + 1 + 1) _ #[.bool false, .int .u64 (ah + bh + 1), .int .u64 lo] (0, 0) _ rfl (by have hz := Blk.new2 (w.alloc (.cells #[.bool b, .int .u64 ah, .int .u64 al] 181)) (.cells #[.bool c, .int .u64 bh, .int .u64 bl] 181) 181 #[.bool false, .int .u64 (ah + bh + 1), .int .u64 lo]; rwa [size_alloc] at hz) Tryd.underlying181 rfl (by kernel_rfl)) rfl ⟨rfl, bl_alloc (bl_alloc (bl_alloc (bl_refl w) _) _) _⟩
  · have hx : hi = ah + bh := by omega
    rw [hx]
    clear hhi hlo hx hi
    go_enter Tryd.func158, Tryd.ntmps158
    go_wp2_with fail
    exact bodyPost_ret (results_cell_row rfl _ _ (w.heap.size + 1 + 1) _ #[.bool false, .int .u64 (ah + bh), .int .u64 lo] (0, 0) _ rfl (by have hz := Blk.new2 (w.alloc (.cells #[.bool b, .int .u64 ah, .int .u64 al] 181)) (.cells #[.bool c, .int .u64 bh, .int .u64 bl] 181) 181 #[.bool false, .int .u64 (ah + bh), .int .u64 lo]; rwa [size_alloc] at hz) Tryd.underlying181 rfl (by kernel_rfl)) rfl ⟨rfl, bl_alloc (bl_alloc (bl_alloc (bl_refl w) _) _) _⟩
set_option maxHeartbeats 4000000 in
/-- the sum of two that are not below 0 -/
theorem wadd_any (ah al bh bl hi lo : Int) (w : World) (a0 : 0 ≤ ah) (a1 : 0 ≤ al) (a2 : al < 18446744073709551616) (b0 : 0 ≤ bh) (b1 : 0 ≤ bl) (b2 : bl < 18446744073709551616) (hh : ah + bh + 1 < 18446744073709551616)
    (hhi : hi = ah + bh + (al + bl) / 18446744073709551616) (hlo : lo = (al + bl) % 18446744073709551616) :
    Calls Tryd.prog 137 #[.agg #[.bool false, .int .u64 ah, .int .u64 al], .agg #[.bool false, .int .u64 bh, .int .u64 bl]] w fun e w' => e = .returned (.agg #[.bool false, .int .u64 hi, .int .u64 lo]) ∧ Below w.heap.size w w' := by
  have hpl := fun v => wplus_any false false ah al bh bl hi lo v a0 a1 a2 b0 b1 b2 hh hhi hlo
  clear hhi hlo
  go_enter Tryd.func137, Tryd.ntmps137
  go_wp2_with fail
  refine (hpl _).mono ?_
  rintro e w1 ⟨rfl, hb1⟩
  have ka := (((Blk.new w 181 #[.bool false, .int .u64 ah, .int .u64 al]).alloc (.cells #[.bool false, .int .u64 bh, .int .u64 bl] 181)).alloc (.cells #[.bool false, .int .u64 0, .int .u64 0] 181)).call hb1
  have hbb1 := bl_call (bl_alloc (bl_alloc (bl_alloc (bl_refl w) (.cells #[.bool false, .int .u64 ah, .int .u64 al] 181)) (.cells #[.bool false, .int .u64 bh, .int .u64 bl] 181)) (.cells #[.bool false, .int .u64 0, .int .u64 0] 181)) hb1
  have hl := ka.lt
  obtain ⟨x0, x1, x2, _, _, _⟩ := ka.c3
  have kr0 := Blk.new2 (w.alloc (.cells #[.bool false, .int .u64 ah, .int .u64 al] 181)) (.cells #[.bool false, .int .u64 bh, .int .u64 bl] 181) 181 #[.bool false, .int .u64 0, .int .u64 0]
  rw [size_alloc] at kr0
  have kr := kr0.call hb1
  have hl2 := kr.lt
  obtain ⟨r0, r1, r2, s0, s1, s2⟩ := kr.c3
  have kx := Blk.new w1 181 #[.bool false, .int .u64 hi, .int .u64 lo]
  obtain ⟨y0, y1, y2, _, _, _⟩ := kx.c3
  go_wp2_with fail
  exact bodyPost_ret (results_cell_row rfl _ _ (w.heap.size + 1 + 1) _ #[.bool false, .int .u64 hi, .int .u64 lo] (0, 0) _ rfl ((((kr.set_ 0 (.bool false)).set_ 1 (.int .u64 hi)).set_ 2 (.int .u64 lo)).alloc _) Tryd.underlying181 rfl (by kernel_rfl)) rfl
    ⟨rfl, bl_alloc (bl_set (bl_set (bl_set hbb1 (by show w.heap.size ≤ w.heap.size + 1 + 1; omega) _) (by show w.heap.size ≤ w.heap.size + 1 + 1; omega) _) (by show w.heap.size ≤ w.heap.size + 1 + 1; omega) _) _⟩
end Go.Proofs.YtcgkfgklggjmaaaDoor.Dec
end
section
namespace Go.Proofs.YtcgkfgklggjmaaaDoor.Dec
set_option linter.unusedVariables false
set_option linter.unusedSimpArgs false
open Go.RowKit
theorem mul_parts (a p q : Int) (h : a = 4294967296 * q + p) (p0 : 0 ≤ p) (p1 : p < 4294967296) (q0 : 0 ≤ q) :
    10 * a / 18446744073709551616 = 0 + q * 10 / 4294967296 + (p * 10 + q * 10 * 4294967296 % 18446744073709551616) / 18446744073709551616 ∧ 10 * a % 18446744073709551616 = (p * 10 + q * 10 * 4294967296 % 18446744073709551616) % 18446744073709551616 := by
  have hr : q * 10 * 4294967296 % 18446744073709551616 = 4294967296 * (q * 10 % 4294967296) := by omega
  rw [hr]
  have hd := Int.mul_ediv_add_emod (q * 10) 4294967296
  have h1 := Int.emod_nonneg (q * 10) (show (4294967296 : Int) ≠ 0 by decide)
  have h2 := Int.emod_lt_of_pos (q * 10) (show (0 : Int) < 4294967296 by decide)
  generalize q * 10 / 4294967296 = i at *
  generalize q * 10 % 4294967296 = r at *
  have e : 10 * a = 18446744073709551616 * i + (p * 10 + 4294967296 * r) := by omega
  rw [e]
  generalize p * 10 + 4294967296 * r = z
  omega
theorem Blk.new_at (w : World) (t : TypeId) (cs : Array Value) (g : Nat) (h : w.heap.size = g) : Blk (w.alloc (.cells cs t)) g t cs := h ▸ Blk.new w t cs
set_option maxHeartbeats 4000000 in
set_option maxRecDepth 100000 in
theorem wmul_any (a : Int) (w : World) (h0 : 0 ≤ a) (h1 : a < 9223372036854775808) :
    Calls Tryd.prog 138 #[.int .i64 a, .int .i64 10] w fun e w' => e = .returned (.agg #[.bool false, .int .u64 (10 * a / 18446744073709551616), .int .u64 (10 * a % 18446744073709551616)]) ∧ Below w.heap.size w w' := by
  obtain ⟨H, hH⟩ : ∃ H, 10 * a / 18446744073709551616 = H := ⟨_, rfl⟩
  obtain ⟨L, hL⟩ : ∃ L, 10 * a % 18446744073709551616 = L := ⟨_, rfl⟩
  rw [hH, hL]
  have HH := Lib.hid hH
  have HL := Lib.hid hL
  clear hH hL
  go_enter Tryd.func138, Tryd.ntmps138
  go_wp2_with fail
  refine (wof_any a _ h0 h1).mono ?_
  rintro e w1 ⟨rfl, hb1⟩
  go_wp2_with fail
  refine (wof_any 10 _ (by omega) (by omega)).mono ?_
  rintro e w2 ⟨rfl, hb2⟩
  have kr := ((Blk.new w 181 #[.bool false, .int .u64 0, .int .u64 0]).call hb1).call hb2
  have hbb2 := bl_call (bl_call (bl_alloc (bl_refl w) (.cells #[.bool false, .int .u64 0, .int .u64 0] 181)) hb1) hb2
  have hl0 := kr.lt
  have kx := (Blk.new w2 181 #[.bool false, .int .u64 0, .int .u64 a]).alloc (.cells #[.bool false, .int .u64 0, .int .u64 10] 181)
  have ky := Blk.new2 w2 (.cells #[.bool false, .int .u64 0, .int .u64 a] 181) 181 #[.bool false, .int .u64 0, .int .u64 10]
  obtain ⟨x0, x1, x2, _, _, _⟩ := kx.c3
  obtain ⟨y0, y1, y2, _, _, _⟩ := ky.c3
  go_wp2_with fail
  go_quiet (fail)
  obtain ⟨p, hp⟩ : ∃ p, a % 4294967296 = p := ⟨_, rfl⟩
  obtain ⟨q, hq⟩ : ∃ q, a / 4294967296 = q := ⟨_, rfl⟩
  rw [hp, hq]
  have hpq : a = 4294967296 * q + p ∧ 0 ≤ p ∧ p < 4294967296 ∧ 0 ≤ q ∧ q < 2147483648 := by omega
  obtain ⟨ha, p0, p1, q0, q1⟩ := hpq
  have HA := Lib.hid ha
  clear ha
  clear hp hq
  have hw1 : IntKind.u64.wrap (p * 10) = p * 10 := by rw [IntKind.wrap_u64]; omega
  have hw2 : IntKind.u64.wrap (q * 10) = q * 10 := by rw [IntKind.wrap_u64]; omega
  have kx1 := kx.drewN nq
  have ky1 := ky.drewN nq
  obtain ⟨x0, x1, x2, _, _, _⟩ := kx1.c3
  obtain ⟨y0, y1, y2, _, _, _⟩ := ky1.c3
  go_wp2_with fail
  go_quiet (fail)
  go_wp2_with fail
  clear x0 x1 x2 y0 y1 y2
  go_loopw [45] (fun v wr => ∃ (i hi lo : Int), v = .int .i64 i ∧ ((i = 0 ∧ hi = 0 ∧ lo = p * 10) ∨ (i = 1 ∧ hi = 0 ∧ lo = p * 10) ∨ (i = 2 ∧ hi = H ∧ lo = L)) ∧
      Blk wr w.heap.size 181 #[.bool false, .int .u64 0, .int .u64 0] ∧ Blk wr (w2.heap.size) 181 #[.bool false, .int .u64 0, .int .u64 a] ∧ Blk wr (w2.heap.size + 1) 181 #[.bool false, .int .u64 0, .int .u64 10] ∧
      Blk wr (w2.heap.size + 1 + 1) 181 #[.bool false, .int .u64 hi, .int .u64 lo] ∧ Blk wr (w2.heap.size + 1 + 1 + 1) 151 #[.int .u64 0, .int .u64 (q * 10)] ∧ Below w.heap.size w wr) (fun v _ => (2 - intOf v).toNat)
  case atStart =>
    refine ⟨0, 0, p * 10, rfl, .inl ⟨rfl, rfl, rfl⟩, ?_, ?_, ?_, ?_, ?_, ?_⟩
    · exact (((((kr.alloc _).alloc _).drewN _).alloc _).alloc _)
    · exact ((kx.drewN _).alloc _).alloc _
    · exact ((ky.drewN _).alloc _).alloc _
    · exact (Blk.new_at _ _ _ _ (by show ((w2.alloc _).alloc _).heap.size = _; rw [size_alloc, size_alloc])).alloc _
    · exact Blk.new_at _ _ _ _ (by rw [size_alloc]; show ((w2.alloc _).alloc _).heap.size + 1 = _; rw [size_alloc, size_alloc])
    · exact bl_alloc (bl_alloc (bl_drewN (bl_alloc (bl_alloc hbb2 _) _) _) _) _
  case round =>
    obtain ⟨i, hi, lo, rfl, hcase, kr', kx', ky', ko', ks', hbw⟩ := hrel
    have ho := ko'.lt
    have hs := ks'.lt
    obtain ⟨o0, o1, o2, _, _, _⟩ := ko'.c3
    obtain ⟨s0, s1, _, _⟩ := ks'.c2
    rcases hcase with ⟨rfl, rfl, rfl⟩ | ⟨rfl, rfl, rfl⟩ | ⟨rfl, rfl, rfl⟩
    · go_wp2_with fail
      refine (wplus_any false false 0 (p * 10) 0 0 0 (p * 10) _ (by omega) (by omega) (by omega) (by omega) (by omega) (by omega) (by omega) (by omega) (by omega)).mono ?_
      rintro e w3 ⟨rfl, hb3⟩
      have ko3 := ko'.call hb3
      have ks3 := ks'.call hb3
      have kx3 := kx'.call hb3
      have ky3 := ky'.call hb3
      have kr3 := kr'.call hb3
      have hbw3 := bl_call hbw hb3
      have ho3 := ko3.lt
      clear o0 o1 o2 s0 s1
      obtain ⟨o0, o1, o2, f0, f1, f2⟩ := ko3.c3
      go_wp2
      go_roundw
      case rel =>
        refine ⟨_, 0, p * 10, rfl, .inr (.inl ⟨by go_num, rfl, rfl⟩), ?_, ?_, ?_, ?_, ?_, ?_⟩
        · exact ((kr3.far (by (try dsimp only); omega) _).far (by (try dsimp only); omega) _).far (by (try dsimp only); omega) _
        · exact ((kx3.far (by (try dsimp only); omega) _).far (by (try dsimp only); omega) _).far (by (try dsimp only); omega) _
        · exact ((ky3.far (by (try dsimp only); omega) _).far (by (try dsimp only); omega) _).far (by (try dsimp only); omega) _
        · exact ((ko3.set_ 0 (.bool false)).set_ 1 (.int .u64 0)).set_ 2 (.int .u64 (p * 10))
        · exact ((ks3.far (by (try dsimp only); omega) _).far (by (try dsimp only); omega) _).far (by (try dsimp only); omega) _
        · exact bl_set (bl_set (bl_set hbw3 (by (try dsimp only); omega) _) (by (try dsimp only); omega) _) (by (try dsimp only); omega) _
      case measure => simp [intOf]
    · have hw9 : IntKind.u64.wrap (q * 10 * 4294967296) = q * 10 * 4294967296 % 18446744073709551616 := by rw [IntKind.wrap_u64]
      have hai := HA.out
      obtain ⟨e1, e2⟩ := mul_parts a p q hai p0 p1 q0
      rw [HH.out] at e1
      rw [HL.out] at e2
      have E1 := Lib.hid e1
      have E2 := Lib.hid e2
      clear e1 e2 hai
      go_wp2_with fail
      refine (wplus_any false false 0 (p * 10) (q * 10 / 4294967296) (q * 10 * 4294967296 % 18446744073709551616) H L _ (by omega) (by omega) (by omega) (by omega) (by omega) (by omega) (by omega) E1.out E2.out).mono ?_
      rintro e w3 ⟨rfl, hb3⟩
      have ko3 := ko'.call hb3
      have ks3 := ks'.call hb3
      have kx3 := kx'.call hb3
      have ky3 := ky'.call hb3
      have kr3 := kr'.call hb3
      have hbw3 := bl_call hbw hb3
      have ho3 := ko3.lt
      clear o0 o1 o2 s0 s1
      obtain ⟨o0, o1, o2, f0, f1, f2⟩ := ko3.c3
      go_wp2
      go_roundw
      case rel =>
        refine ⟨_, H, L, rfl, .inr (.inr ⟨by go_num, rfl, rfl⟩), ?_, ?_, ?_, ?_, ?_, ?_⟩
        · exact ((kr3.far (by (try dsimp only); omega) _).far (by (try dsimp only); omega) _).far (by (try dsimp only); omega) _
        · exact ((kx3.far (by (try dsimp only); omega) _).far (by (try dsimp only); omega) _).far (by (try dsimp only); omega) _
        · exact ((ky3.far (by (try dsimp only); omega) _).far (by (try dsimp only); omega) _).far (by (try dsimp only); omega) _
        · exact ((ko3.set_ 0 (.bool false)).set_ 1 (.int .u64 H)).set_ 2 (.int .u64 L)
        · exact ((ks3.far (by (try dsimp only); omega) _).far (by (try dsimp only); omega) _).far (by (try dsimp only); omega) _
        · exact bl_set (bl_set (bl_set hbw3 (by (try dsimp only); omega) _) (by (try dsimp only); omega) _) (by (try dsimp only); omega) _
      case measure => simp [intOf]
    · obtain ⟨z0, z1, z2, _, _, _⟩ := kx'.c3
      obtain ⟨t0, t1, t2, _, _, _⟩ := ky'.c3
      obtain ⟨v0, v1, v2, _, _, _⟩ := kr'.c3
      go_wp2_with fail
      exact bodyPost_ret (results_cell_row rfl _ _ w.heap.size _ #[.bool false, .int .u64 hi, .int .u64 lo] (0, 0) _ rfl ((((kr'.far (by (try dsimp only); omega) _).set_ 0 (.bool false)).set_ 1 (.int .u64 hi)).set_ 2 (.int .u64 lo)) Tryd.underlying181 rfl (by kernel_rfl)) rfl
        ⟨rfl, bl_set (bl_set (bl_set (bl_set hbw (by (try dsimp only); omega) _) (Nat.le_refl _) _) (Nat.le_refl _) _) (Nat.le_refl _) _⟩
end Go.Proofs.YtcgkfgklggjmaaaDoor.Dec
end
section
namespace Go.Proofs.YtcgkfgklggjmaaaDoor.Dec
set_option linter.unusedVariables false
set_option linter.unusedSimpArgs false
open Go.RowKit
/-- a number that is kept as long as it fits -/
def satV (v : Nat) : Int := if v < 9223372036854775808 then (v : Int) else 0
def satB (v : Nat) : Bool := decide (v < 9223372036854775808)
theorem sat_yes {v : Nat} (h : v < 9223372036854775808) : satV v = (v : Int) ∧ satB v = true := by simp [satV, satB, h]
theorem sat_no {v : Nat} (h : ¬ v < 9223372036854775808) : satV v = 0 ∧ satB v = false := by simp [satV, satB, h]
theorem sat_bd (v : Nat) : 0 ≤ satV v ∧ satV v < 9223372036854775808 := by unfold satV; split <;> omega
set_option maxHeartbeats 4000000 in
set_option maxRecDepth 100000 in
theorem more_any (v d : Nat) (w : World) (hd : d ≤ 9) :
    Calls Tryd.prog 110 #[.int .i64 (satV v), .int .i64 d, .bool (satB v)] w fun e w' => e = .returned (.tuple #[.int .i64 (satV (10 * v + d)), .bool (satB (10 * v + d))]) ∧ Below w.heap.size w w' := by
  obtain ⟨b0, b1⟩ := sat_bd v
  obtain ⟨x, hx⟩ : ∃ x, satV v = x := ⟨_, rfl⟩
  rw [hx] at b0 b1 ⊢
  have hmul := fun u => wmul_any x u b0 b1
  have hof := fun u => wof_any (d : Int) u (by omega) (by omega)
  obtain ⟨H, hH⟩ : ∃ H, 10 * x / 18446744073709551616 = H := ⟨_, rfl⟩
  obtain ⟨L, hL⟩ : ∃ L, 10 * x % 18446744073709551616 = L := ⟨_, rfl⟩
  rw [hH, hL] at hmul
  have hadd := fun u => wadd_any H L 0 d (H + (L + d) / 18446744073709551616) ((L + d) % 18446744073709551616) u (by omega) (by omega) (by omega) (by omega) (by omega) (by omega) (by omega) (by omega) rfl
  have hfit : (10 * x + d < 9223372036854775808 ∧ H + (L + d) / 18446744073709551616 = 0 ∧ (L + d) % 18446744073709551616 = 10 * x + d) ∨ (9223372036854775808 ≤ 10 * x + d ∧ (H + (L + d) / 18446744073709551616 ≠ 0 ∨ (H + (L + d) / 18446744073709551616 = 0 ∧ 9223372036854775808 ≤ (L + d) % 18446744073709551616))) := by omega
  generalize H + (L + d) / 18446744073709551616 = H2 at *
  generalize (L + d) % 18446744073709551616 = L2 at *
  have hres : (satB v = true ∧ 10 * x + d < 9223372036854775808 ∧ H2 = 0 ∧ L2 = 10 * x + d ∧ satV (10 * v + d) = 10 * x + d ∧ satB (10 * v + d) = true) ∨ ((satB v = false ∨ satB v = true) ∧ ((10 * x + d < 9223372036854775808 ∧ satB v = false ∧ H2 = 0 ∧ L2 = 10 * x + d) ∨ (9223372036854775808 ≤ 10 * x + d ∧ (H2 ≠ 0 ∨ (H2 = 0 ∧ 9223372036854775808 ≤ L2)))) ∧ satV (10 * v + d) = 0 ∧ satB (10 * v + d) = false) := by
    by_cases hv : v < 9223372036854775808
    · obtain ⟨s1, s2⟩ := sat_yes hv
      have hxv : x = (v : Int) := by rw [← hx, s1]
      by_cases h2 : 10 * v + d < 9223372036854775808
      · obtain ⟨t1, t2⟩ := sat_yes h2
        left
        refine ⟨s2, by omega, ?_, ?_, by rw [t1, hxv]; push_cast; rfl, t2⟩
        · rcases hfit with h | h
          · exact h.2.1
          · omega
        · rcases hfit with h | h
          · exact h.2.2
          · omega
      · obtain ⟨t1, t2⟩ := sat_no h2
        right
        refine ⟨.inr s2, .inr ?_, t1, t2⟩
        rcases hfit with h | h
        · omega
        · exact h
    · obtain ⟨s1, s2⟩ := sat_no hv
      have hxv : x = 0 := by rw [← hx, s1]
      obtain ⟨t1, t2⟩ := sat_no (v := 10 * v + d) (by omega)
      right
      refine ⟨.inl s2, .inl ?_, t1, t2⟩
      rcases hfit with h | h
      · exact ⟨h.1, s2, h.2⟩
      · omega
  clear hfit
  generalize satB v = bb at *
  generalize satV (10 * v + d) = rv at *
  generalize satB (10 * v + d) = rb at *
  clear hx hH hL b1
  rcases hres with ⟨rfl, h1, rfl, rfl, rfl, rfl⟩ | ⟨hbb, hin, rfl, rfl⟩
  · have hint := fun u => wint_ok (10 * x + d) u (by omega) h1
    go_enter Tryd.func110, Tryd.ntmps110
    go_wp2_with fail
    refine (hmul _).mono ?_
    rintro e w1 ⟨rfl, hb1⟩
    go_wp2_with fail
    refine (hof _).mono ?_
    rintro e w2 ⟨rfl, hb2⟩
    have hbb2 := bl_call hb1 hb2
    go_wp2_with fail
    refine (hadd _).mono ?_
    rintro e w3 ⟨rfl, hb3⟩
    have hbb3 := bl_call hbb2 hb3
    go_wp2_with fail
    refine (hint _).mono ?_
    rintro e w4 ⟨rfl, hb4⟩
    have hbb4 := bl_call hbb3 hb4
    go_wp2_with fail
    go_ret2
    exact ⟨rfl, hbb4⟩
  · rcases hin with ⟨h1, rfl, rfl, rfl⟩ | ⟨h1, h2⟩
    · have hint := fun u => wint_ok (10 * x + d) u (by omega) h1
      go_enter Tryd.func110, Tryd.ntmps110
      go_wp2_with fail
      refine (hmul _).mono ?_
      rintro e w1 ⟨rfl, hb1⟩
      go_wp2_with fail
      refine (hof _).mono ?_
      rintro e w2 ⟨rfl, hb2⟩
      have hbb2 := bl_call hb1 hb2
      go_wp2_with fail
      refine (hadd _).mono ?_
      rintro e w3 ⟨rfl, hb3⟩
      have hbb3 := bl_call hbb2 hb3
      go_wp2_with fail
      refine (hint _).mono ?_
      rintro e w4 ⟨rfl, hb4⟩
      have hbb4 := bl_call hbb3 hb4
      go_wp2_with fail
      go_ret2
      exact ⟨rfl, hbb4⟩
    · have hint := fun u => wint_no H2 L2 u h2
      rcases hbb with rfl | rfl
      all_goals
        go_enter Tryd.func110, Tryd.ntmps110
        go_wp2_with fail
        refine (hmul _).mono ?_
        rintro e w1 ⟨rfl, hb1⟩
        go_wp2_with fail
        refine (hof _).mono ?_
        rintro e w2 ⟨rfl, hb2⟩
        have hbb2 := bl_call hb1 hb2
        go_wp2_with fail
        refine (hadd _).mono ?_
        rintro e w3 ⟨rfl, hb3⟩
        have hbb3 := bl_call hbb2 hb3
        go_wp2_with fail
        refine (hint _).mono ?_
        rintro e w4 ⟨rfl, hb4⟩
        have hbb4 := bl_call hbb3 hb4
        go_wp2_with fail
        go_ret2
        exact ⟨rfl, hbb4⟩
set_option maxHeartbeats 4000000 in
/-- a byte is a digit -/
theorem rdigit_any (c : UInt8) (w : World) :
    Calls Tryd.prog 129 #[.int .u8 c.toNat] w fun e w' => e = .returned (.bool (isDig c)) ∧ w = w' := by
  by_cases h1 : c.toNat < 48
  · have hd : isDig c = false := by simp [isDig]; omega
    rw [hd]
    go_enter Tryd.func129, Tryd.ntmps129
    go_wp2_with fail
    go_ret
    exact ⟨by simp; try omega, rfl⟩
  · by_cases h2 : c.toNat ≤ 57
    · have hd : isDig c = true := by simp [isDig]; omega
      rw [hd]
      go_enter Tryd.func129, Tryd.ntmps129
      go_wp2_with fail
      go_ret
      exact ⟨by simp; try omega, rfl⟩
    · have hd : isDig c = false := by simp [isDig]; omega
      rw [hd]
      go_enter Tryd.func129, Tryd.ntmps129
      go_wp2_with fail
      go_ret
      exact ⟨by simp; try omega, rfl⟩
end Go.Proofs.YtcgkfgklggjmaaaDoor.Dec
end
section
namespace Go.Proofs.YtcgkfgklggjmaaaDoor.Dec
set_option linter.unusedVariables false
set_option linter.unusedSimpArgs false
open Go.RowKit
def RInv (l : List UInt8) (i : Nat) (pts : Int) : Prop :=
  (pts = 0 ∧ (l.take i).all isDig = true) ∨ (pts = 1 ∧ ∃ a r, l.take i = a ++ 46 :: r ∧ a.all isDig = true ∧ r.all isDig = true ∧ a.length + 1 < l.length)
theorem RInv.start (l : List UInt8) : RInv l 0 0 := .inl ⟨rfl, rfl⟩
theorem RInv.digit {l : List UInt8} {i : Nat} {pts : Int} {c : UInt8} (h : RInv l i pts) (ht : l.take (i + 1) = l.take i ++ [c]) (hc : isDig c = true) : RInv l (i + 1) pts := by
  rcases h with ⟨h, h'⟩ | ⟨h, a, r, h1, h2, h3, h4⟩
  · exact .inl ⟨h, by rw [ht, List.all_append, h', List.all_cons, hc]; rfl⟩
  · exact .inr ⟨h, a, r ++ [c], by rw [ht, h1, List.append_assoc, List.cons_append], h2, by rw [List.all_append, h3, List.all_cons, hc]; rfl, h4⟩
theorem RInv.point {l : List UInt8} {i : Nat} (h : RInv l i 0) (ht : l.take (i + 1) = l.take i ++ [46]) (hi : i + 1 < l.length) : RInv l (i + 1) 1 := by
  rcases h with ⟨h, h'⟩ | ⟨h, _⟩
  · exact .inr ⟨rfl, l.take i, [], ht, h', rfl, by rw [List.length_take]; omega⟩
  · omega
theorem split_at {l : List UInt8} {i : Nat} {c : UInt8} (hi : i < l.length) (ht : l.take (i + 1) = l.take i ++ [c]) : l = l.take i ++ c :: l.drop (i + 1) := by
  have := List.take_append_drop (i + 1) l
  rw [ht, List.append_assoc, List.cons_append, List.nil_append] at this
  exact this.symm
theorem RInv.two {l : List UInt8} {i : Nat} (h : RInv l i 1) (hi : i < l.length) (ht : l.take (i + 1) = l.take i ++ [46]) : formL l = 0 := by
  rcases h with ⟨h, _⟩ | ⟨_, a, r, h1, _⟩
  · omega
  · rw [split_at hi ht]
    exact form_two (.inl (by rw [h1]; simp))
theorem form_last {l : List UInt8} {i : Nat} (hi : i + 1 = l.length) (ht : l.take (i + 1) = l.take i ++ [46]) : formL l = 0 := by
  rw [split_at (by omega) ht]
  exact form_two (.inr (by rw [hi, List.drop_length]))
theorem form_odd {l : List UInt8} {i : Nat} {c : UInt8} (hi : i < l.length) (ht : l.take (i + 1) = l.take i ++ [c]) (h1 : isDig c = false) (h2 : c ≠ 46) : formL l = 0 :=
  form_bad (c := c) (by rw [split_at hi ht]; simp) h1 h2
theorem rof_end {l : List UInt8} {pts : Int} (h : RInv l l.length pts) (hne : l ≠ []) (hd : isDig (l.headD 0) = true) :
    formL l = if l.headD 0 = 48 ∧ 1 < l.length ∧ l.getD 1 0 ≠ 46 then 0 else 1 + pts := by
  rcases h with ⟨rfl, h⟩ | ⟨rfl, a, r, h1, h2, h3, h4⟩
  · rw [List.take_length] at h
    rw [form_whole h hne]
    have h46 : 1 < l.length → l.getD 1 0 ≠ 46 := fun hl e => by
      have : (46 : UInt8) ∈ l := by
        rw [List.getD_eq_getElem?_getD, List.getElem?_eq_getElem hl, Option.getD_some] at e
        rw [← e]
        exact List.getElem_mem _
      exact all_none h this
    cases l with
    | nil => exact absurd rfl hne
    | cons c l' =>
      have hlb : leadB (c :: l') = (decide (1 < (c :: l').length) && (c == 48)) := rfl
      rw [List.headD_cons]
      by_cases c1 : c = 48
      · by_cases c2 : 1 < (c :: l').length
        · have e : leadB (c :: l') = true := by rw [hlb, decide_eq_true c2, beq_iff_eq.2 c1]; rfl
          rw [e, if_pos rfl, if_pos ⟨c1, c2, h46 c2⟩]
        · have e : leadB (c :: l') = false := by rw [hlb, decide_eq_false c2]; rfl
          rw [e, if_neg Bool.false_ne_true, if_neg (fun e => c2 e.2.1)]; rfl
      · have e : leadB (c :: l') = false := by rw [hlb, beq_eq_false_iff_ne.2 c1, Bool.and_false]
        rw [e, if_neg Bool.false_ne_true, if_neg (fun e => c1 e.1)]; rfl
  · rw [List.take_length] at h1
    have hane : a ≠ [] := fun e => by
      rw [h1, e] at hd
      have hd : isDig 46 = true := hd
      exact absurd hd (by decide)
    have hrne : r ≠ [] := fun e => by
      rw [h1, e] at h4
      simp at h4
    rw [h1, form_point h2 hane h3 hrne]
    unfold leadB
    cases a with
    | nil => exact absurd rfl hane
    | cons c a =>
      cases a with
      | nil => simp
      | cons c2 a =>
        have hc2 : c2 ≠ 46 := fun e => all_none h2 (by rw [e]; simp)
        by_cases c1 : c = 48
        · simp [c1, hc2]
        · simp [c1]
theorem get_one (l : List UInt8) (h : 1 < l.length) : l.getD 1 0 = l[1] := by
  rw [List.getD_eq_getElem?_getD, List.getElem?_eq_getElem h, Option.getD_some]
theorem head_get (l : List UInt8) (h : 0 < l.length) : l.headD 0 = l[0] := by
  cases l with
  | nil => exact absurd h (by simp)
  | cons a b => rfl
set_option maxHeartbeats 4000000 in
set_option maxRecDepth 100000 in
theorem rof_any (s : ByteArray) (w : World) (hs : s.size ≤ 20000) :
    Calls Tryd.prog 97 #[.string s] w fun e w' => e = .returned (.int .i64 (formL s.data.toList)) ∧ Below w.heap.size w w' := by
  obtain ⟨f, hf⟩ : ∃ f, formL s.data.toList = f := ⟨_, rfl⟩
  rw [hf]
  have HF := Lib.hid hf
  clear hf
  have hsz := (Lib.size_eq s).symm
  by_cases h0 : s.size = 0
  · have hs0 : s.data.toList = [] := List.length_eq_zero_iff.1 (by omega)
    have hf0 : f = 0 := by rw [← HF.out, hs0]; exact form_head (.inl rfl)
    have hse : s = ⟨#[]⟩ := by apply ByteArray.ext; apply Array.toList_inj.mp; exact hs0
    subst hf0 hse
    clear HF
    go_enter Tryd.func97, Tryd.ntmps97
    go_wp2_with fail
    go_ret
    exact ⟨rfl, bl_refl w⟩
  · have hp : 0 < s.size := by omega
    have hse : s.toList.isEmpty = false := by
      rw [Lib.toList_data]
      cases hh : s.data.toList with
      | nil => rw [hh] at hsz; simp at hsz; omega
      | cons a b => rfl
    have hh0 : s.data.toList.headD 0 = s[0] := head_get s.data.toList (by omega)
    go_enter Tryd.func97, Tryd.ntmps97
    go_wp2_with fail
    refine (rdigit_any _ _).mono ?_
    rintro e w1 ⟨rfl, rfl⟩
    cases hd0 : isDig s[0] with
    | false =>
      have hf0 : f = 0 := by rw [← HF.out]; exact form_head (.inr (by rw [hh0]; exact hd0))
      subst hf0
      go_wp2_with fail
      go_ret
      exact ⟨rfl, bl_refl w⟩
    | true =>
      have HD0 := Lib.hid hd0
      have HH0 := Lib.hid hh0
      clear hd0 hh0
      go_wp2_with fail
      go_loop [3, 4] (fun v3 v4 => ∃ (i : Nat) (pts : Int), i ≤ s.size ∧ v4 = .int .i64 i ∧ v3 = .int .i64 pts ∧ (pts = 0 ∨ pts = 1) ∧ Hid (RInv s.data.toList i pts)) (fun _ v4 => s.size - (intOf v4).toNat)
      case atStart => exact ⟨0, 0, Nat.zero_le _, rfl, rfl, .inl rfl, RInv.start _⟩
      case round =>
        obtain ⟨i, pts, hi, rfl, rfl, hpt, HR⟩ := hrel
        by_cases hlt : i < s.size
        · have hsn := take_snoc s i hlt
          have hil : i < s.data.toList.length := by omega
          by_cases hc : (s[i]'hlt) = 46
          · rw [hc] at hsn
            have hc' : (((s[i]'hlt).toNat : Nat) : Int) = 46 := by rw [hc]; rfl
            have hcase : (f = 0 ∧ pts = 1) ∨ (f = 0 ∧ pts = 0 ∧ ((i : Int) == (s.size : Int) - 1) = true) ∨ (pts = 0 ∧ ((i : Int) == (s.size : Int) - 1) = false ∧ Hid (RInv s.data.toList (i + 1) 1)) := by
              rcases hpt with rfl | rfl
              · by_cases he : i + 1 = s.size
                · exact .inr (.inl ⟨by rw [← HF.out]; exact form_last (by omega) hsn, rfl, by rw [beq_iff_eq]; omega⟩)
                · exact .inr (.inr ⟨rfl, by rw [beq_eq_false_iff_ne]; omega, RInv.point HR.out hsn (by omega)⟩)
              · exact .inl ⟨by rw [← HF.out]; exact RInv.two HR.out hil hsn, rfl⟩
            clear hpt HR hsn hc HF HD0 HH0
            rcases hcase with ⟨rfl, rfl⟩ | ⟨rfl, rfl, he⟩ | ⟨rfl, he, HR⟩
            · go_wp2
              go_ret
              exact ⟨rfl, bl_refl w⟩
            · go_wp2
              go_ret
              exact ⟨rfl, bl_refl w⟩
            · go_wp2
              go_round
              case rel => exact ⟨i + 1, 1, by omega, by go_num, rfl, .inr rfl, HR⟩
              case measure => simp [intOf]; omega
          · have hc' : ((((s[i]'hlt).toNat : Nat) : Int) == 46) = false := by
              rw [beq_eq_false_iff_ne]
              exact fun e => hc (UInt8.toNat.inj (by show _ = 46; omega))
            have hdg := fun u => rdigit_any (s[i]'hlt) u
            cases hd : isDig (s[i]'hlt) with
            | true =>
              rw [hd] at hdg
              have HR2 : Hid (RInv s.data.toList (i + 1) pts) := RInv.digit HR.out hsn hd
              clear hd hsn hc HR
              go_wp2_with fail
              refine (hdg _).mono ?_
              rintro e w2 ⟨rfl, rfl⟩
              go_wp2_with fail
              go_round
              case rel => exact ⟨i + 1, pts, by omega, by go_num, rfl, hpt, HR2⟩
              case measure => simp [intOf]; omega
            | false =>
              rw [hd] at hdg
              have hf0 : f = 0 := by rw [← HF.out]; exact form_odd hil hsn hd hc
              subst hf0
              clear hd hsn hc HR
              go_wp2_with fail
              refine (hdg _).mono ?_
              rintro e w2 ⟨rfl, rfl⟩
              go_wp2_with fail
              go_ret
              exact ⟨rfl, bl_refl w⟩
        · obtain rfl : i = s.size := by omega
          have hR := HR.out
          rw [← hsz] at hR
          have hend := rof_end hR (fun e => by rw [e] at hsz; simp at hsz; omega) (by rw [HH0.out]; exact HD0.out)
          rw [HF.out, HH0.out] at hend
          have hcase : (((s[0].toNat : Int) == 48) = false ∧ f = 1 + pts) ∨ ((s[0].toNat : Int) = 48 ∧ (s.size : Int) ≤ 1 ∧ f = 1 + pts) ∨ (∃ h1 : 1 < s.size, (s[0].toNat : Int) = 48 ∧ (((s[1]'h1).toNat : Int) != 46) = false ∧ f = 1 + pts) ∨ (∃ h1 : 1 < s.size, (s[0].toNat : Int) = 48 ∧ (((s[1]'h1).toNat : Int) != 46) = true ∧ f = 0) := by
            by_cases a1 : (s[0].toNat : Int) = 48
            · have e0 : s[0] = 48 := UInt8.toNat.inj (by show _ = 48; omega)
              by_cases a2 : 1 < s.size
              · have hg : s.data.toList.getD 1 0 = s[1]'a2 := get_one s.data.toList (by omega)
                by_cases a3 : s[1]'a2 = 46
                · refine .inr (.inr (.inl ⟨a2, a1, by rw [a3]; rfl, ?_⟩))
                  rw [hend, if_neg (fun e => e.2.2 (by rw [hg, a3]))]
                · refine .inr (.inr (.inr ⟨a2, a1, ?_, ?_⟩))
                  · rw [bne_iff_ne]; exact fun e => a3 (UInt8.toNat.inj (by show _ = 46; omega))
                  · rw [hend, if_pos ⟨e0, by omega, by rw [hg]; exact a3⟩]
              · exact .inr (.inl ⟨a1, by omega, by rw [hend, if_neg (fun e => a2 (by have := e.2.1; omega))]⟩)
            · exact .inl ⟨beq_eq_false_iff_ne.2 a1, by rw [hend, if_neg (fun e => a1 (by rw [e.1]; rfl))]⟩
          clear hend hR HF HD0 HH0 HR
          rcases hcase with ⟨c1, rfl⟩ | ⟨c1, c2, rfl⟩ | ⟨c2, c1, c3, rfl⟩ | ⟨c2, c1, c3, rfl⟩
          · rcases hpt with rfl | rfl
            all_goals
              go_wp2_with fail
              go_ret
              exact ⟨rfl, bl_refl w⟩
          · rcases hpt with rfl | rfl
            all_goals
              go_wp2_with fail
              go_ret
              exact ⟨rfl, bl_refl w⟩
          · have c2' : (1 : Int) < (s.size : Int) := by omega
            rcases hpt with rfl | rfl
            all_goals
              go_wp2_with fail
              go_ret
              exact ⟨rfl, bl_refl w⟩
          · have c2' : (1 : Int) < (s.size : Int) := by omega
            rcases hpt with rfl | rfl
            all_goals
              go_wp2_with fail
              go_ret
              exact ⟨rfl, bl_refl w⟩
end Go.Proofs.YtcgkfgklggjmaaaDoor.Dec
end
section
namespace Go.Proofs.YtcgkfgklggjmaaaDoor.Dec
set_option linter.unusedVariables false
set_option linter.unusedSimpArgs false
open Go.RowKit
theorem form_struct {l : List UInt8} (h : formL l ≠ 0) : ∃ a b, (Lib.cut l [46]).1 = a ∧ (Lib.cut l [46]).2.1 = b ∧ a.all isDig = true ∧ b.all isDig = true ∧ ((l = a ∧ b = [] ∧ formL l = 1) ∨ (l = a ++ 46 :: b ∧ b ≠ [])) := by
  obtain ⟨d1, d2, d3⟩ := form_digits h
  refine ⟨_, _, rfl, rfl, d1, d3, ?_⟩
  rcases cut_spec l with ⟨e, _⟩ | ⟨a, b, e', ha, e⟩
  · left
    rw [e]
    refine ⟨rfl, rfl, ?_⟩
    rcases form_three l with h0 | h1 | h2
    · exact absurd h0 h
    · exact h1
    · rw [e] at d1 d2
      have := form_whole d1 d2
      rw [h2] at this
      split at this <;> omega
  · right
    rw [e] at d3 ⊢
    refine ⟨e', fun hb => h ?_⟩
    have hb : b = [] := hb
    rw [e', hb]
    exact form_two (.inr rfl)
theorem parse_form {l : List UInt8} (h : formL l ≠ 0) (k : Nat) (hk : k ≤ 9) (most : Int) {a b : List UInt8} (ha : (Lib.cut l [46]).1 = a) (hb : (Lib.cut l [46]).2.1 = b) (hs : (l = a ∧ b = [] ∧ formL l = 1) ∨ (l = a ++ 46 :: b ∧ b ≠ [])) :
    parseL l k most = if k < b.length then (0, 1) else if 9223372036854775808 ≤ valN 0 (a ++ fillL b k) ∨ most < (valN 0 (a ++ fillL b k) : Int) then (0, 2) else ((valN 0 (a ++ fillL b k) : Int), 0) := by
  unfold parseL parseW
  rw [ha, hb, Int.toNat_natCast]
  by_cases hk0 : k < b.length
  · rw [if_pos hk0]
    by_cases c : formL l = 0 ∨ (k : Int) < 0 ∨ 9 < (k : Int) ∨ formL l = 2 ∧ (k : Int) = 0
    · rw [if_pos c]
    · rw [if_neg c, if_pos (by exact_mod_cast hk0)]
  · rw [if_neg hk0, if_neg, if_neg (by exact_mod_cast hk0)]
    intro c
    rcases c with c | c | c | ⟨c1, c2⟩
    · exact h c
    · omega
    · omega
    · rcases hs with ⟨_, _, h1⟩ | ⟨_, h2⟩
      · omega
      · have : 0 < b.length := List.length_pos_iff.2 h2
        omega
def digs (l : List UInt8) (i : Nat) : List UInt8 := (l.take i).filter (· != 46)
theorem digs_snoc {l : List UInt8} {i : Nat} {c : UInt8} (ht : l.take (i + 1) = l.take i ++ [c]) (hc : c ≠ 46) : digs l (i + 1) = digs l i ++ [c] := by
  unfold digs; rw [ht, List.filter_append]; simp [hc]
theorem digs_point {l : List UInt8} {i : Nat} (ht : l.take (i + 1) = l.take i ++ [46]) : digs l (i + 1) = digs l i := by
  unfold digs; rw [ht, List.filter_append]; simp
theorem filter_digs {a : List UInt8} (h : a.all isDig = true) : a.filter (· != 46) = a := by
  rw [List.filter_eq_self]
  intro c hc
  have := List.all_eq_true.1 h c hc
  rw [bne_iff_ne]
  intro e
  rw [e] at this
  exact absurd this (by decide)
theorem digs_end {l a b : List UInt8} (ha : a.all isDig = true) (hb : b.all isDig = true) (h : (l = a ∧ b = []) ∨ l = a ++ 46 :: b) : digs l l.length = a ++ b := by
  unfold digs
  rw [List.take_length]
  rcases h with ⟨rfl, rfl⟩ | rfl
  · rw [filter_digs ha, List.append_nil]
  · rw [List.filter_append, filter_digs ha]
    simp [filter_digs hb]
/-- each byte: the point, or a digit -/
theorem byte_of {l a b : List UInt8} (ha : a.all isDig = true) (hb : b.all isDig = true) (h : (l = a ∧ b = []) ∨ l = a ++ 46 :: b) (i : Nat) (hi : i < l.length) :
    (i = a.length ∧ l[i] = 46 ∧ l = a ++ 46 :: b) ∨ (i ≠ a.length ∧ isDig l[i] = true) := by
  rcases h with ⟨rfl, rfl⟩ | rfl
  · exact .inr ⟨by omega, List.all_eq_true.1 ha _ (List.getElem_mem _)⟩
  · rcases Nat.lt_trichotomy i a.length with h1 | h1 | h1
    · right
      refine ⟨by omega, ?_⟩
      rw [List.getElem_append_left h1]
      exact List.all_eq_true.1 ha _ (List.getElem_mem _)
    · left
      subst h1
      simp
    · right
      refine ⟨by omega, ?_⟩
      rw [List.getElem_append_right (by omega)]
      obtain ⟨j, hj⟩ : ∃ j, i - a.length = j + 1 := ⟨i - a.length - 1, by omega⟩
      simp only [hj, List.getElem_cons_succ]
      exact List.all_eq_true.1 hb _ (List.getElem_mem _)
theorem val_snoc (l : List UInt8) (c : UInt8) : valN 0 (l ++ [c]) = 10 * valN 0 l + (c.toNat - 48) := by
  rw [valN_append]; simp only [valN, List.foldl_cons, List.foldl_nil]; omega
/-- how many stand behind the point -/
def beh (al i : Nat) : Int := if i ≤ al then -1 else (i : Int) - al - 1
set_option maxHeartbeats 4000000 in
set_option maxRecDepth 100000 in
theorem rparse_any (s : ByteArray) (places most : Int) (w : World) (hs : s.size ≤ 20000) :
    Calls Tryd.prog 72 #[.string s, .int .i64 places, .int .i64 most] w fun e w' => e = .returned (.tuple #[.int .i64 (parseL s.data.toList places most).1, .int .i64 (parseL s.data.toList places most).2]) ∧ Below w.heap.size w w' := by
  have hof := fun u => rof_any s u hs
  by_cases hbad : formL s.data.toList = 0 ∨ places < 0 ∨ 9 < places
  · have e1 : parseL s.data.toList places most = (0, 1) := by
      unfold parseL parseW; rw [if_pos (by rcases hbad with h | h | h; exact .inl h; exact .inr (.inl h); exact .inr (.inr (.inl h)))]
    rw [e1]
    clear e1
    have hb0 : ((formL s.data.toList == 0) = true) ∨ (((formL s.data.toList == 0) = false) ∧ places < 0) ∨ (((formL s.data.toList == 0) = false) ∧ 0 ≤ places ∧ 9 < places) := by
      by_cases h : formL s.data.toList = 0
      · exact .inl (beq_iff_eq.2 h)
      · have h' := beq_eq_false_iff_ne.2 h
        rcases (by omega : places < 0 ∨ (0 ≤ places ∧ 9 < places)) with h2 | h2
        · exact .inr (.inl ⟨h', h2⟩)
        · exact .inr (.inr ⟨h', h2⟩)
    generalize formL s.data.toList = f at *
    clear hbad
    rcases hb0 with h | ⟨h, h1⟩ | ⟨h, h1, h2⟩
    all_goals
      go_enter Tryd.func72, Tryd.ntmps72
      go_wp2_with fail
      refine (hof _).mono ?_
      rintro e w1 ⟨rfl, hb1⟩
      go_wp2_with fail
      go_ret2
      exact ⟨rfl, hb1⟩
  · obtain ⟨k, hk⟩ : ∃ k : Nat, places = (k : Int) := ⟨places.toNat, by omega⟩
    subst hk
    have hfn : formL s.data.toList ≠ 0 := by omega
    obtain ⟨a, b, ea, eb, da, db, hst⟩ := form_struct hfn
    have hpf := parse_form hfn k (by omega) most ea eb hst
    have hst' : (s.data.toList = a ∧ b = []) ∨ s.data.toList = a ++ 46 :: b := by
      rcases hst with ⟨h1, h2, _⟩ | ⟨h1, _⟩
      · exact .inl ⟨h1, h2⟩
      · exact .inr h1
    have hf0 : (formL s.data.toList == 0) = false := beq_eq_false_iff_ne.2 hfn
    generalize formL s.data.toList = f at *
    obtain ⟨r1, hr1⟩ : ∃ r, (parseL s.data.toList k most).1 = r := ⟨_, rfl⟩
    obtain ⟨r2, hr2⟩ : ∃ r, (parseL s.data.toList k most).2 = r := ⟨_, rfl⟩
    rw [hr1, hr2]
    have HR := Lib.hid (And.intro hpf (And.intro hr1 hr2))
    clear hpf hr1 hr2 hst ea eb hfn
    have hk9 : ¬ (9 < (k : Int)) := by omega
    go_enter Tryd.func72, Tryd.ntmps72
    go_wp2_with fail
    refine (hof _).mono ?_
    rintro e w1 ⟨rfl, hb1⟩
    go_wp2_with fail
    have hsz := (Lib.size_eq s).symm
    obtain ⟨al, hal⟩ : ∃ al, a.length = al := ⟨_, rfl⟩
    go_loopw [8, 9, 10, 11] (fun v8 v9 v10 v11 wr => ∃ i : Nat, i ≤ s.size ∧ v11 = .int .i64 i ∧ v8 = .int .i64 (beh al i) ∧ v9 = .int .i64 (satV (valN 0 (digs s.data.toList i))) ∧ v10 = .bool (satB (valN 0 (digs s.data.toList i))) ∧ Below w.heap.size w wr) (fun _ _ _ v11 _ => s.size - (intOf v11).toNat)
    case atStart => exact ⟨0, Nat.zero_le _, rfl, by unfold beh; rw [if_pos (Nat.zero_le _)], rfl, rfl, hb1⟩
    case round =>
      obtain ⟨i, hi, rfl, rfl, rfl, rfl, hbw⟩ := hrel
      by_cases hlt : i < s.size
      · have hil : i < s.data.toList.length := by omega
        have hby := byte_of da db hst' i hil
        have hsn := take_snoc s i hlt
        have hse : s.data.toList[i]'hil = s[i]'hlt := rfl
        rw [hse, hal] at hby
        obtain ⟨x, hx⟩ : ∃ x, satV (valN 0 (digs s.data.toList i)) = x := ⟨_, rfl⟩
        obtain ⟨y, hy⟩ : ∃ y, satB (valN 0 (digs s.data.toList i)) = y := ⟨_, rfl⟩
        rw [hx, hy]
        rcases hby with ⟨hia, hc, _⟩ | ⟨hia, hc⟩
        · subst hia
          rw [hc] at hsn
          have hd := digs_point hsn
          rw [← hd] at hx hy
          have hc' : (((s[i]'hlt).toNat : Nat) : Int) = 46 := by rw [hc]; rfl
          have hb' : beh i (i + 1) = 0 := by unfold beh; rw [if_neg (by omega)]; omega
          have HB := Lib.hid hb'
          have VX := Lib.hid (And.intro hx hy)
          clear hb' hx hy hd hsn hc hse hst' da db
          generalize beh i i = bh at *
          go_wp2
          go_roundw
          case rel => exact ⟨i + 1, by omega, by go_num, by rw [HB.out], by rw [VX.out.1], by rw [VX.out.2], hbw⟩
          case measure => simp [intOf]; omega
        · have hg := dig_of hc
          have hne : s[i]'hlt ≠ 46 := fun e => by rw [e] at hc; exact absurd hc (by decide)
          have hd := digs_snoc hsn hne
          have hv := val_snoc (digs s.data.toList i) (s[i]'hlt)
          rw [← hd] at hv
          have hm := fun u => more_any (valN 0 (digs s.data.toList i)) ((s[i]'hlt).toNat - 48) u (by omega)
          rw [← hv, hx, hy] at hm
          obtain ⟨x', hx'⟩ : ∃ x, satV (valN 0 (digs s.data.toList (i + 1))) = x := ⟨_, rfl⟩
          obtain ⟨y', hy'⟩ : ∃ y, satB (valN 0 (digs s.data.toList (i + 1))) = y := ⟨_, rfl⟩
          rw [hx', hy'] at hm
          have VX := Lib.hid (And.intro hx' hy')
          have hc' : ((((s[i]'hlt).toNat : Nat) : Int) == 46) = false := by rw [beq_eq_false_iff_ne]; omega
          have hw8 : IntKind.u8.wrap (((s[i]'hlt).toNat : Int) - 48) = (((s[i]'hlt).toNat - 48 : Nat) : Int) := by rw [IntKind.wrap_u8]; omega
          have hw64 : IntKind.i64.wrap (((s[i]'hlt).toNat - 48 : Nat) : Int) = (((s[i]'hlt).toNat - 48 : Nat) : Int) := by rw [IntKind.wrap_i64]; omega
          clear hx hy hx' hy' hd hv hsn hse hst' da db hc
          by_cases hlo : i < al
          · have hb0 : beh al i = -1 := by unfold beh; rw [if_pos (by omega)]
            have hb1' : beh al (i + 1) = -1 := by unfold beh; rw [if_pos (by omega)]
            have HB := Lib.hid hb1'
            rw [hb0]
            clear hb0 hb1'
            go_wp2_with fail
            refine (hm _).mono ?_
            rintro e w2 ⟨rfl, hb2⟩
            go_wp2_with fail
            go_roundw
            case rel => exact ⟨i + 1, by omega, by go_num, by rw [HB.out], by rw [VX.out.1], by rw [VX.out.2], bl_call hbw hb2⟩
            case measure => simp [intOf]; omega
          · have hb0 : beh al i = (i : Int) - al - 1 := by unfold beh; rw [if_neg (by omega)]
            have hb1' : beh al (i + 1) = (i : Int) - al - 1 + 1 := by unfold beh; rw [if_neg (by omega)]; omega
            have HB := Lib.hid hb1'
            obtain ⟨bh, hbh⟩ : ∃ bh, (i : Int) - al - 1 = bh := ⟨_, rfl⟩
            rw [hb0, hbh]
            rw [hbh] at HB
            have hbh0 : 0 ≤ bh := by omega
            have hbh1 : bh ≤ 20000 := by omega
            clear hb0 hb1' hbh
            go_wp2_with fail
            refine (hm _).mono ?_
            rintro e w2 ⟨rfl, hb2⟩
            go_wp2_with fail
            go_roundw
            case rel => exact ⟨i + 1, by omega, by go_num, by rw [HB.out], by rw [VX.out.1], by rw [VX.out.2], bl_call hbw hb2⟩
            case measure => simp [intOf]; omega
      · obtain rfl : i = s.size := by omega
        have hde := digs_end da db hst'
        rw [hsz] at hde
        rw [hde]
        have hbe : beh al s.size = -1 ∧ b = [] ∨ beh al s.size = (b.length : Int) := by
          rcases hst' with ⟨h1, h2⟩ | h1
          · left
            refine ⟨?_, h2⟩
            unfold beh
            rw [if_pos]
            rw [← hsz, h1]; omega
          · right
            have hl := congrArg List.length h1
            simp only [List.length_append, List.length_cons] at hl
            unfold beh
            rw [if_neg (by omega)]
            omega
        clear hst' hde da db hal
        by_cases hkb : k < b.length
        · have hbb : beh al s.size = (b.length : Int) := by
            rcases hbe with ⟨_, h⟩ | h
            · rw [h] at hkb; simp at hkb
            · exact h
          have hr := HR.out
          rw [if_pos hkb] at hr
          obtain ⟨g0, g1, g2⟩ := hr
          rw [g0] at g1 g2
          obtain rfl : r1 = 0 := g1.symm
          obtain rfl : r2 = 1 := g2.symm
          rw [hbb]
          clear hbe HR g0 g1 g2
          have hkb' : (k : Int) < (b.length : Int) := by omega
          go_wp2_with fail
          go_ret2
          exact ⟨rfl, hbw⟩
        · have hr := HR.out
          rw [if_neg hkb] at hr
          obtain ⟨bh, hbh⟩ : ∃ bh, beh al s.size = bh := ⟨_, rfl⟩
          rw [hbh] at hbe ⊢
          have hbm : max bh 0 = (b.length : Int) := by
            rcases hbe with ⟨h1, h2⟩ | h
            · rw [h1, h2]; rfl
            · rw [h]; omega
          have hbk : ¬ (k : Int) < bh := by
            rcases hbe with ⟨h1, h2⟩ | h <;> omega
          clear hbe hbh
          have HR2 := Lib.hid hr
          clear HR hr
          go_wp2_with fail
          go_loopw [9, 10, 12] (fun v9 v10 v12 wr => ∃ j : Nat, b.length ≤ j ∧ j ≤ k ∧ v12 = .int .i64 j ∧ v9 = .int .i64 (satV (valN 0 (a ++ fillL b j))) ∧ v10 = .bool (satB (valN 0 (a ++ fillL b j))) ∧ Below w.heap.size w wr) (fun _ _ v12 _ => k - (intOf v12).toNat)
          case atStart => exact ⟨b.length, Nat.le_refl _, by omega, rfl, by simp [fillL], by simp [fillL], hbw⟩
          case round =>
            obtain ⟨j, hj0, hj1, rfl, rfl, rfl, hbw'⟩ := hrel
            by_cases hjk : j < k
            · have hfl : a ++ fillL b (j + 1) = (a ++ fillL b j) ++ [48] := by
                unfold fillL
                rw [show j + 1 - b.length = (j - b.length) + 1 by omega, List.replicate_succ', List.append_assoc, List.append_assoc]
              have hv : valN 0 (a ++ fillL b (j + 1)) = 10 * valN 0 (a ++ fillL b j) + 0 := by
                rw [hfl, val_snoc]; rfl
              have hm := fun u => more_any (valN 0 (a ++ fillL b j)) 0 u (by omega)
              rw [← hv] at hm
              obtain ⟨x', hx'⟩ : ∃ x, satV (valN 0 (a ++ fillL b (j + 1))) = x := ⟨_, rfl⟩
              obtain ⟨y', hy'⟩ : ∃ y, satB (valN 0 (a ++ fillL b (j + 1))) = y := ⟨_, rfl⟩
              rw [hx', hy'] at hm
              have VX := Lib.hid (And.intro hx' hy')
              clear hx' hy' hv hfl
              generalize satV (valN 0 (a ++ fillL b j)) = x at *
              generalize satB (valN 0 (a ++ fillL b j)) = y at *
              go_wp2_with fail
              refine (hm _).mono ?_
              rintro e w2 ⟨rfl, hb2⟩
              go_wp2_with fail
              go_roundw
              case rel => exact ⟨j + 1, by omega, by omega, by go_num, by rw [VX.out.1], by rw [VX.out.2], bl_call hbw' hb2⟩
              case measure => simp [intOf]; omega
            · obtain rfl : j = k := by omega
              obtain ⟨g0, g1, g2⟩ := HR2.out
              generalize valN 0 (a ++ fillL b j) = V at *
              have hcase : (satB V = false ∧ r1 = 0 ∧ r2 = 2) ∨ (satB V = true ∧ satV V = (V : Int) ∧ most < (V : Int) ∧ r1 = 0 ∧ r2 = 2) ∨ (satB V = true ∧ satV V = (V : Int) ∧ (V : Int) ≤ most ∧ r1 = (V : Int) ∧ r2 = 0) := by
                by_cases hv : V < 9223372036854775808
                · obtain ⟨s1, s2⟩ := sat_yes hv
                  by_cases hm : most < (V : Int)
                  · rw [if_pos (.inr hm)] at g0
                    rw [g0] at g1 g2
                    exact .inr (.inl ⟨s2, s1, hm, g1.symm, g2.symm⟩)
                  · rw [if_neg (by omega)] at g0
                    rw [g0] at g1 g2
                    exact .inr (.inr ⟨s2, s1, by omega, g1.symm, g2.symm⟩)
                · obtain ⟨s1, s2⟩ := sat_no hv
                  rw [if_pos (.inl (by omega))] at g0
                  rw [g0] at g1 g2
                  exact .inl ⟨s2, g1.symm, g2.symm⟩
              clear g0 g1 g2 HR2
              rcases hcase with ⟨s2, rfl, rfl⟩ | ⟨s2, s1, hm, rfl, rfl⟩ | ⟨s2, s1, hm, rfl, rfl⟩
              · rw [s2]
                go_wp2_with fail
                go_ret2
                exact ⟨rfl, hbw'⟩
              · rw [s2, s1]
                go_wp2_with fail
                go_ret2
                exact ⟨rfl, hbw'⟩
              · rw [s2, s1]
                go_wp2_with fail
                go_ret2
                exact ⟨rfl, hbw'⟩
end Go.Proofs.YtcgkfgklggjmaaaDoor.Dec
end
