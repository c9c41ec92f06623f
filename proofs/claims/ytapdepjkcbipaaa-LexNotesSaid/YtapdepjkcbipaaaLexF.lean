import Derived.Test.YtapdepjkcbipaaaLexE
import Derived.Test.YtapdepjkcbipaaaLexP
import Derived.Lib.ConvBytes
namespace Go.Proofs.Ytapdepjkcbipaaa
set_option linter.unusedVariables false
set_option linter.unusedSimpArgs false
open Go.RowKit
theorem blank_idx (c : UInt8) : decide (0 ≤ Lib.indexByte [32, 9, 13, 10] c) = decide (c = 32 ∨ c = 9 ∨ c = 13 ∨ c = 10) := by
  by_cases h1 : c = 32
  · subst h1; decide
  · by_cases h2 : c = 9
    · subst h2; decide
    · by_cases h3 : c = 13
      · subst h3; decide
      · by_cases h4 : c = 10
        · subst h4; decide
        · have e1 : (32 == c) = false := beq_eq_false_iff_ne.2 (Ne.symm h1)
          have e2 : (9 == c) = false := beq_eq_false_iff_ne.2 (Ne.symm h2)
          have e3 : (13 == c) = false := beq_eq_false_iff_ne.2 (Ne.symm h3)
          have e4 : (10 == c) = false := beq_eq_false_iff_ne.2 (Ne.symm h4)
          simp [Lib.indexByte, e1, e2, e3, e4, h1, h2, h3, h4]
theorem list_cons (s : ByteArray) (h : 0 < s.size) : s.data.toList = s[0] :: s.data.toList.drop 1 := by
  have := drop_at s 0 h
  simpa using this
set_option maxHeartbeats 1000000 in
theorem blank_any (s : ByteArray) (w : World) :
    Calls Try.prog 11 #[.string s] w fun e w' => e = .returned (.int .i64 (blankN s.data.toList)) ∧ w = w' := by
  have hem := ByteArray.toList_eq s
  by_cases hz : s.size = 0
  · have hl := (size_pos s).2 hz
    have h1 : s.toList.isEmpty = true := by rw [hem, hl]; rfl
    have HK : Hid (blankN s.data.toList = 0) := by show _ = _; rw [hl]; rfl
    clear hl hz hem
    go_enter Try.func11, Try.ntmps11
    go_wp2
    go_ret
    exact ⟨ret_int (by rw [HK.out]), rfl⟩
  · have hp : 0 < s.size := by omega
    have hl := list_cons s hp
    have h1 : s.toList.isEmpty = false := by rw [hem, hl]; rfl
    have HK : Hid (blankN s.data.toList = if s[0]'hp = 35 then (if 0 ≤ Lib.indexByte s.data.toList 10 then Lib.indexByte s.data.toList 10 else (s.size : Int)) else if s[0]'hp = 32 ∨ s[0]'hp = 9 ∨ s[0]'hp = 13 ∨ s[0]'hp = 10 then 1 else 0) := by
      show _ = _
      have hsz : (s.size : Int) = s.data.toList.length := by simp
      rw [hsz, hl]; rfl
    have HI := Lib.hid (blank_idx (s[0]'hp))
    clear hl hz hem
    by_cases h35 : s[0]'hp = 35
    · have hb : (((s[0]'hp).toNat : Int) == 35) = true := by rw [h35]; rfl
      have HK2 := Lib.hid (HK.out.trans (if_pos h35))
      clear h35 HK
      go_enter Try.func11, Try.ntmps11
      go_wp2_with (go_at_call 23; refine (Try.strings_IndexByte _ _ _).mono ?_; rintro e w' ⟨rfl, rfl⟩)
      all_goals
        go_ret
        refine ⟨ret_int ?_, rfl⟩
        rw [HK2.out]
        first | (rw [if_pos (by assumption)]; done) | (rw [if_neg (by omega)]; done)
    · have hb : (((s[0]'hp).toNat : Int) == 35) = false := u8_nb rfl h35
      have HK2 := Lib.hid (HK.out.trans (if_neg h35))
      clear h35 HK
      go_enter Try.func11, Try.ntmps11
      go_wp2_with (go_at_call 23; refine (Try.strings_IndexByte _ _ _).mono ?_; rintro e w' ⟨rfl, rfl⟩)
      all_goals
        go_ret
        refine ⟨ret_int ?_, rfl⟩
        rw [HK2.out]
        have hi := HI.out
        first
        | (rw [decide_eq_true (by assumption)] at hi; rw [if_pos (of_decide_eq_true hi.symm)]; done)
        | (rw [decide_eq_false (by omega)] at hi; rw [if_neg (of_decide_eq_false hi.symm)]; done)
theorem take_getD (l : List UInt8) (k : Nat) (h : k < l.length) : l.take (k + 1) = l.take k ++ [l.getD k 0] := by
  rw [List.take_succ_eq_append_getElem h, List.getD, List.getElem?_eq_getElem h]; rfl
def cellsAre (w : World) (g : Nat) (l : List UInt8) : Prop := ∀ j, j < l.length → w.cell? ⟨g, j, none⟩ = some (.int .u8 (l.getD j 0).toNat)
theorem cellsAre.set {w : World} {g : Nat} {l : List UInt8} (h : cellsAre w g l) {p : Addr} (hp : p.block ≠ g) (u : Value) : cellsAre (w.setCell p u) g l :=
  fun j hj => (World.cell?_setCell_other w p _ u (fun e => hp (by rw [e]))).trans (h j hj)
set_option maxHeartbeats 1000000 in
theorem over_any (s : ByteArray) (a n : Nat) (line col : Int) (w : World) (h : a + n ≤ s.size) (hs : s.size < 4294967281) (h1 : 0 ≤ line) (h2 : 0 ≤ col) (h3 : line ≤ 4294967296) (h4 : col ≤ 4294967296) :
    Calls Try.prog 12 #[.agg #[.int .i64 a, .int .i64 line, .int .i64 col], .string s, .int .i64 n] w fun e w' =>
      e = .returned (.agg #[.int .i64 ((a + n : Nat) : Int), .int .i64 (overL ((s.data.toList.drop a).take n) (line, col)).1, .int .i64 (overL ((s.data.toList.drop a).take n) (line, col)).2]) ∧ Below w.heap.size w w' := by
  have kc := fun (W : World) => Lib.run_convert_string_bytes (P := Try.prog) W 9 54 5 (s.extract a (a + n)) Try.underlying9 Try.underlying54 Try.underlying5
  go_enter Try.func12, Try.ntmps12
  go_wp2
  clear kc
  have hl : (s.extract a (a + n)).data.toList = (s.data.toList.drop a).take n := by rw [Lib.extract_data, show a + n - a = n from by omega]
  have hlen : ((s.data.toList.drop a).take n).length = n := by simp; omega
  generalize htt : (s.data.toList.drop a).take n = t at *
  generalize hW0 : (w.alloc (.cells #[.int .i64 a, .int .i64 line, .int .i64 col] 42)).alloc (.cells #[.int .i64 0, .int .i64 0, .int .i64 0] 42) = W0 at *
  have hz0 : W0.heap.size = w.heap.size + 1 + 1 := by rw [← hW0]; simp
  have k0 : Blk W0 w.heap.size 42 #[.int .i64 a, .int .i64 line, .int .i64 col] := by rw [← hW0]; exact (Blk.new _ _ _).alloc _
  have k1 : Blk W0 (w.heap.size + 1) 42 #[.int .i64 0, .int .i64 0, .int .i64 0] := by
    rw [← hW0]
    have := Blk.new (w.alloc (.cells #[.int .i64 a, .int .i64 line, .int .i64 col] 42)) 42 #[.int .i64 0, .int .i64 0, .int .i64 0]
    simpa using this
  have kb : Below w.heap.size w W0 := by rw [← hW0]; exact bl_alloc (bl_alloc (bl_refl _) _) _
  have j0 : Blk (Lib.bytesWorld W0 5 (s.extract a (a + n))) w.heap.size 42 #[.int .i64 a, .int .i64 line, .int .i64 col] := (Lib.bytesWorld_at_old _ _ _ _ (by omega)).trans k0
  have j1 : Blk (Lib.bytesWorld W0 5 (s.extract a (a + n))) (w.heap.size + 1) 42 #[.int .i64 0, .int .i64 0, .int .i64 0] := (Lib.bytesWorld_at_old _ _ _ _ (by omega)).trans k1
  have jb : Below w.heap.size w (Lib.bytesWorld W0 5 (s.extract a (a + n))) :=
    ⟨kb.os, kb.tape, kb.output, by rw [Lib.bytesWorld_size]; omega, fun i hi => (Lib.bytesWorld_at_old _ _ _ _ (by omega)).trans (kb.block i hi)⟩
  have jc : cellsAre (Lib.bytesWorld W0 5 (s.extract a (a + n))) (w.heap.size + 1 + 1) t := fun j hj => by
    have := Lib.bytesWorld_cell W0 5 (s.extract a (a + n)) j (by simp; omega)
    rw [hz0, hl] at this
    exact this
  generalize Lib.bytesWorld W0 5 (s.extract a (a + n)) = W1 at *
  generalize grownCap W0 n 0 5 = cap at *
  have HLEN := Lib.hid hlen
  have HTT := Lib.hid htt
  clear hW0 hz0 k0 k1 kb hl hlen htt
  go_loopw [19] (fun v wr => ∃ k : Nat, k ≤ n ∧ v = .int .i64 k ∧ Blk wr w.heap.size 42 #[.int .i64 ((a + k : Nat) : Int), .int .i64 (overL (t.take k) (line, col)).1, .int .i64 (overL (t.take k) (line, col)).2] ∧ Blk wr (w.heap.size + 1) 42 #[.int .i64 0, .int .i64 0, .int .i64 0] ∧ Below w.heap.size w wr ∧ Hid (cellsAre wr (w.heap.size + 1 + 1) t)) (fun v _ => n - (intOf v).toNat)
  case atStart => exact ⟨0, by omega, rfl, j0, j1, jb, jc⟩
  case round =>
    obtain ⟨k, hk, rfl, b0, b1, hb, HC⟩ := hrel
    clear j0 j1 jb jc
    have hbd := overL_bd (t.take k) (line, col) h1 h2
    have hlk : (t.take k).length ≤ k := List.length_take_le _ _
    simp only at hbd
    obtain ⟨d1, d2, d3, d4⟩ := hbd
    replace d2 : (overL (t.take k) (line, col)).1 ≤ 10000000000 := by omega
    replace d4 : (overL (t.take k) (line, col)).2 ≤ 10000000000 := by omega
    by_cases hlt : k < n
    · have hkl : k < t.length := by have := HLEN.out; omega
      have hc := HC.out k hkl
      have HS := Lib.hid (take_getD t k hkl)
      have HO := Lib.hid (overL_snoc (t.take k) (t.getD k 0) (line, col))
      obtain ⟨c0, c1, c2, f0, f1, f2⟩ := b0.c3
      have hlt0 := b0.lt
      generalize hcc : t.getD k 0 = c at *
      have hcl := c.toNat_lt
      generalize hov : overL (t.take k) (line, col) = ov at *
      obtain ⟨ol, oc⟩ := ov
      simp only at d1 d2 d3 d4 c1 c2
      clear hkl hcc hov hlk
      by_cases hnl : c = 10
      · have hcb : ((c.toNat : Int) == 10) = true := by rw [hnl]; rfl
        have HO2 := Lib.hid (HO.out.trans (if_pos hnl))
        clear hnl
        go_wp2
        go_roundw
        case rel =>
          refine ⟨k + 1, by omega, by go_num, ?_, ?_, ?_, ?_⟩
          · rw [HS.out, HO2.out]
            have hz := (((b0.set_ 0 (.int .i64 ((a : Int) + k + 1))).set_ 2 (.int .i64 (oc + 1))).set_ 1 (.int .i64 (ol + 1))).set_ 2 (.int .i64 1)
            simpa [Int.add_assoc] using hz
          · repeat (first | exact b1 | refine Blk.far ?_ (by simp) _)
          · repeat (first | exact hb | refine bl_set ?_ (by simp) _)
          · show cellsAre _ _ _
            repeat (first | exact HC.out | refine cellsAre.set ?_ (by simp; omega) _)
        case measure => simp [intOf]; omega
      · have hcb : ((c.toNat : Int) == 10) = false := u8_nb rfl hnl
        have HO2 := Lib.hid (HO.out.trans (if_neg hnl))
        clear hnl
        go_wp2
        go_roundw
        case rel =>
          refine ⟨k + 1, by omega, by go_num, ?_, ?_, ?_, ?_⟩
          · rw [HS.out, HO2.out]
            have hz := (b0.set_ 0 (.int .i64 ((a : Int) + k + 1))).set_ 2 (.int .i64 (oc + 1))
            simpa [Int.add_assoc] using hz
          · repeat (first | exact b1 | refine Blk.far ?_ (by simp) _)
          · repeat (first | exact hb | refine bl_set ?_ (by simp) _)
          · show cellsAre _ _ _
            repeat (first | exact HC.out | refine cellsAre.set ?_ (by simp; omega) _)
        case measure => simp [intOf]; omega
    · obtain rfl : k = n := by omega
      have ht : t.take k = t := List.take_of_length_le (by have := HLEN.out; omega)
      rw [ht] at b0
      obtain ⟨c0, c1, c2, f0, f1, f2⟩ := b0.c3
      obtain ⟨e0, e1, e2, g0, g1, g2⟩ := b1.c3
      clear ht
      go_wp2
      rw [HTT.out, Int.natCast_add]
      exact bodyPost_ret (results_cell_row rfl _ _ (w.heap.size + 1) _ #[_, _, _] (0, 0) _ rfl (((b1.set_ 0 _).set_ 1 _).set_ 2 _) Try.underlying42 rfl (by kernel_rfl)) rfl ⟨rfl, bl_set (bl_set (bl_set hb (by simp) _) (by simp) _) (by simp) _⟩
theorem runLen_step (s : ByteArray) (k : Nat) (h : k < s.size) (hi : isLet s[k] = true) : runLen (s.data.toList.drop k) = 1 + runLen (s.data.toList.drop (k + 1)) := by
  rw [drop_at s k h, runLen, List.takeWhile_cons, if_pos hi]; simp [runLen]; omega
theorem runLen_stop (s : ByteArray) (k : Nat) (h : k < s.size) (hi : isLet s[k] = false) : runLen (s.data.toList.drop k) = 0 := by
  rw [drop_at s k h, runLen, List.takeWhile_cons, if_neg (by simp [hi])]; rfl
set_option maxHeartbeats 1000000 in
theorem run_any (s : ByteArray) (w : World) (hs : s.size < 4294967281) :
    Calls Try.prog 13 #[.string s] w fun e w' => e = .returned (.int .i64 (runN s.data.toList)) ∧ w = w' := by
  go_enter Try.func13, Try.ntmps13
  go_wp2_with fail
  go_loop [3] (fun v => ∃ k : Nat, k ≤ s.size ∧ v = .int .i64 k ∧ Hid (k + runLen (s.data.toList.drop k) = runLen s.data.toList)) (fun v => s.size - (intOf v).toNat)
  case atStart => exact ⟨0, Nat.zero_le _, rfl, by simp [Hid]⟩
  case round =>
    obtain ⟨k, hk, rfl, HA⟩ := hrel
    have fin : runLen (s.data.toList.drop k) = 0 → runN s.data.toList = max (k : Int) (min (s.size : Int) 1) := fun h => by
      have h1 := HA.out
      have h2 : s.data.toList.length = s.size := by simp
      rw [h] at h1
      simp only [runN, h2]; omega
    have FIN := Lib.hid fin
    clear fin
    by_cases hlt : k < s.size
    · cases hi : isLet (s[k]'hlt) with
      | true =>
        have HX : Hid (k + 1 + runLen (s.data.toList.drop (k + 1)) = runLen s.data.toList) := by
          show _ = _
          rw [← HA.out, runLen_step s k hlt hi]; omega
        go_wp2_with (go_at_call 15; refine (letter_any _ _).mono ?_; rintro e w' ⟨rfl, rfl⟩)
        go_round
        case rel => exact ⟨k + 1, by omega, by go_num, HX⟩
        case measure => simp [intOf]; omega
      | false =>
        have HF := Lib.hid (FIN.out (runLen_stop s k hlt hi))
        go_wp2_with (go_at_call 15; refine (letter_any _ _).mono ?_; rintro e w' ⟨rfl, rfl⟩)
        go_ret
        exact ⟨ret_int (by rw [HF.out]), rfl⟩
    · obtain rfl : k = s.size := by omega
      have HF := Lib.hid (FIN.out (by rw [drop_end]; rfl))
      go_wp2_with fail
      go_ret
      exact ⟨ret_int (by rw [HF.out]), rfl⟩
end Go.Proofs.Ytapdepjkcbipaaa
