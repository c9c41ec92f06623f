import Derived.Test.YtcgkfgklggjmaaaDoorGb
import Derived.Lib.ConvBytes
import Derived.Lib.IndexBytes
import Derived.Lib.IndexMore
import Derived.Lib.AtoiAll
import Derived.Lib.AtoiAllCases
import Derived.Lib.TrimByte
import Derived.Lib.ItoaMem
import Derived.Test.YtcgkfgklggjmaaaDoorShelf
import Derived.Lib.SmallJoins
section
namespace Go.Proofs.YtcgkfgklggjmaaaDoor
set_option linter.unusedVariables false
set_option linter.unusedSimpArgs false
open Go.RowKit
theorem blank_idx (c : UInt8) : decide (0 ≤ Lib.indexByte [32, 9, 13, 10] c) = decide (c = 32 ∨ c = 9 ∨ c = 13 ∨ c = 10) := by
  by_cases h1 : c = 32
  · subst h1; decide
  · by_cases h2 : c = 9
    · subst h2; decide
    · by_cases h3 : c = 13
      · subst h3; decide
      · by_cases h4 : c = 10
        · subst h4; decide
        · have e1 : (32 == c) = false := beq_eq_false_iff_ne.2 (Ne.symm h1)
          have e2 : (9 == c) = false := beq_eq_false_iff_ne.2 (Ne.symm h2)
          have e3 : (13 == c) = false := beq_eq_false_iff_ne.2 (Ne.symm h3)
          have e4 : (10 == c) = false := beq_eq_false_iff_ne.2 (Ne.symm h4)
          simp [Lib.indexByte, e1, e2, e3, e4, h1, h2, h3, h4]
theorem list_cons (s : ByteArray) (h : 0 < s.size) : s.data.toList = s[0] :: s.data.toList.drop 1 := by
  have := drop_at s 0 h
  simpa using this
set_option maxHeartbeats 1000000 in
theorem blank_any (s : ByteArray) (w : World) :
    Calls Tryd.prog 83 #[.string s] w fun e w' => e = .returned (.int .i64 (blankN s.data.toList)) ∧ w = w' := by
  have hem := ByteArray.toList_eq s
  by_cases hz : s.size = 0
  · have hl := (size_pos s).2 hz
    have h1 : s.toList.isEmpty = true := by rw [hem, hl]; rfl
    have HK : Hid (blankN s.data.toList = 0) := by show _ = _; rw [hl]; rfl
    clear hl hz hem
    go_enter Tryd.func83, Tryd.ntmps83
    go_wp2
    go_ret
    exact ⟨ret_int (by rw [HK.out]), rfl⟩
  · have hp : 0 < s.size := by omega
    have hl := list_cons s hp
    have h1 : s.toList.isEmpty = false := by rw [hem, hl]; rfl
    have HK : Hid (blankN s.data.toList = if s[0]'hp = 35 then (if 0 ≤ Lib.indexByte s.data.toList 10 then Lib.indexByte s.data.toList 10 else (s.size : Int)) else if s[0]'hp = 32 ∨ s[0]'hp = 9 ∨ s[0]'hp = 13 ∨ s[0]'hp = 10 then 1 else 0) := by
      show _ = _
      have hsz : (s.size : Int) = s.data.toList.length := by simp
      rw [hsz, hl]; rfl
    have HI := Lib.hid (blank_idx (s[0]'hp))
    clear hl hz hem
    by_cases h35 : s[0]'hp = 35
    · have hb : (((s[0]'hp).toNat : Int) == 35) = true := by rw [h35]; rfl
      have HK2 := Lib.hid (HK.out.trans (if_pos h35))
      clear h35 HK
      go_enter Tryd.func83, Tryd.ntmps83
      go_wp2_with (go_at_call 119; refine (Tryd.strings_IndexByte _ _ _).mono ?_; rintro e w' ⟨rfl, rfl⟩)
      all_goals
        go_ret
        refine ⟨ret_int ?_, rfl⟩
        rw [HK2.out]
        first | (rw [if_pos (by assumption)]; done) | (rw [if_neg (by omega)]; done)
    · have hb : (((s[0]'hp).toNat : Int) == 35) = false := u8_nb rfl h35
      have HK2 := Lib.hid (HK.out.trans (if_neg h35))
      clear h35 HK
      go_enter Tryd.func83, Tryd.ntmps83
      go_wp2_with (go_at_call 119; refine (Tryd.strings_IndexByte _ _ _).mono ?_; rintro e w' ⟨rfl, rfl⟩)
      all_goals
        go_ret
        refine ⟨ret_int ?_, rfl⟩
        rw [HK2.out]
        have hi := HI.out
        first
        | (rw [decide_eq_true (by assumption)] at hi; rw [if_pos (of_decide_eq_true hi.symm)]; done)
        | (rw [decide_eq_false (by omega)] at hi; rw [if_neg (of_decide_eq_false hi.symm)]; done)
theorem take_getD (l : List UInt8) (k : Nat) (h : k < l.length) : l.take (k + 1) = l.take k ++ [l.getD k 0] := by
  rw [List.take_succ_eq_append_getElem h, List.getD, List.getElem?_eq_getElem h]; rfl
def cellsAre (w : World) (g : Nat) (l : List UInt8) : Prop := ∀ j, j < l.length → w.cell? ⟨g, j, none⟩ = some (.int .u8 (l.getD j 0).toNat)
theorem cellsAre.set {w : World} {g : Nat} {l : List UInt8} (h : cellsAre w g l) {p : Addr} (hp : p.block ≠ g) (u : Value) : cellsAre (w.setCell p u) g l :=
  fun j hj => (World.cell?_setCell_other w p _ u (fun e => hp (by rw [e]))).trans (h j hj)
set_option maxHeartbeats 1000000 in
theorem over_any (s : ByteArray) (a n : Nat) (line col : Int) (w : World) (h : a + n ≤ s.size) (hs : s.size < 4294967281) (h1 : 0 ≤ line) (h2 : 0 ≤ col) (h3 : line ≤ 4294967296) (h4 : col ≤ 4294967296) :
    Calls Tryd.prog 84 #[.agg #[.int .i64 a, .int .i64 line, .int .i64 col], .string s, .int .i64 n] w fun e w' =>
      e = .returned (.agg #[.int .i64 ((a + n : Nat) : Int), .int .i64 (overL ((s.data.toList.drop a).take n) (line, col)).1, .int .i64 (overL ((s.data.toList.drop a).take n) (line, col)).2]) ∧ Below w.heap.size w w' := by
  have kc := fun (W : World) => Lib.run_convert_string_bytes (P := Tryd.prog) W 9 86 5 (s.extract a (a + n)) Tryd.underlying9 Tryd.underlying86 Tryd.underlying5
  go_enter Tryd.func84, Tryd.ntmps84
  go_wp2
  clear kc
  have hl : (s.extract a (a + n)).data.toList = (s.data.toList.drop a).take n := by rw [Lib.extract_data, show a + n - a = n from by omega]
  have hlen : ((s.data.toList.drop a).take n).length = n := by simp; omega
  generalize htt : (s.data.toList.drop a).take n = t at *
  generalize hW0 : (w.alloc (.cells #[.int .i64 a, .int .i64 line, .int .i64 col] 141)).alloc (.cells #[.int .i64 0, .int .i64 0, .int .i64 0] 141) = W0 at *
  have hz0 : W0.heap.size = w.heap.size + 1 + 1 := by rw [← hW0]; simp
  have k0 : Blk W0 w.heap.size 141 #[.int .i64 a, .int .i64 line, .int .i64 col] := by rw [← hW0]; exact (Blk.new _ _ _).alloc _
  have k1 : Blk W0 (w.heap.size + 1) 141 #[.int .i64 0, .int .i64 0, .int .i64 0] := by
    rw [← hW0]
    have := Blk.new (w.alloc (.cells #[.int .i64 a, .int .i64 line, .int .i64 col] 141)) 141 #[.int .i64 0, .int .i64 0, .int .i64 0]
    simpa using this
  have kb : Below w.heap.size w W0 := by rw [← hW0]; exact bl_alloc (bl_alloc (bl_refl _) _) _
  have j0 : Blk (Lib.bytesWorld W0 5 (s.extract a (a + n))) w.heap.size 141 #[.int .i64 a, .int .i64 line, .int .i64 col] := (Lib.bytesWorld_at_old _ _ _ _ (by omega)).trans k0
  have j1 : Blk (Lib.bytesWorld W0 5 (s.extract a (a + n))) (w.heap.size + 1) 141 #[.int .i64 0, .int .i64 0, .int .i64 0] := (Lib.bytesWorld_at_old _ _ _ _ (by omega)).trans k1
  have jb : Below w.heap.size w (Lib.bytesWorld W0 5 (s.extract a (a + n))) :=
    ⟨kb.os, kb.tape, kb.output, by rw [Lib.bytesWorld_size]; omega, fun i hi => (Lib.bytesWorld_at_old _ _ _ _ (by omega)).trans (kb.block i hi)⟩
  have jc : cellsAre (Lib.bytesWorld W0 5 (s.extract a (a + n))) (w.heap.size + 1 + 1) t := fun j hj => by
    have := Lib.bytesWorld_cell W0 5 (s.extract a (a + n)) j (by simp; omega)
    rw [hz0, hl] at this
    exact this
  generalize Lib.bytesWorld W0 5 (s.extract a (a + n)) = W1 at *
  generalize grownCap W0 n 0 5 = cap at *
  have HLEN := Lib.hid hlen
  have HTT := Lib.hid htt
  clear hW0 hz0 k0 k1 kb hl hlen htt
  go_loopw [19] (fun v wr => ∃ k : Nat, k ≤ n ∧ v = .int .i64 k ∧ Blk wr w.heap.size 141 #[.int .i64 ((a + k : Nat) : Int), .int .i64 (overL (t.take k) (line, col)).1, .int .i64 (overL (t.take k) (line, col)).2] ∧ Blk wr (w.heap.size + 1) 141 #[.int .i64 0, .int .i64 0, .int .i64 0] ∧ Below w.heap.size w wr ∧ Hid (cellsAre wr (w.heap.size + 1 + 1) t)) (fun v _ => n - (intOf v).toNat)
  case atStart => exact ⟨0, by omega, rfl, j0, j1, jb, jc⟩
  case round =>
    obtain ⟨k, hk, rfl, b0, b1, hb, HC⟩ := hrel
    clear j0 j1 jb jc
    have hbd := overL_bd (t.take k) (line, col) h1 h2
    have hlk : (t.take k).length ≤ k := List.length_take_le _ _
    simp only at hbd
    obtain ⟨d1, d2, d3, d4⟩ := hbd
    replace d2 : (overL (t.take k) (line, col)).1 ≤ 10000000000 := by omega
    replace d4 : (overL (t.take k) (line, col)).2 ≤ 10000000000 := by omega
    by_cases hlt : k < n
    · have hkl : k < t.length := by have := HLEN.out; omega
      have hc := HC.out k hkl
      have HS := Lib.hid (take_getD t k hkl)
      have HO := Lib.hid (overL_snoc (t.take k) (t.getD k 0) (line, col))
      obtain ⟨c0, c1, c2, f0, f1, f2⟩ := b0.c3
      have hlt0 := b0.lt
      generalize hcc : t.getD k 0 = c at *
      have hcl := c.toNat_lt
      generalize hov : overL (t.take k) (line, col) = ov at *
      obtain ⟨ol, oc⟩ := ov
      simp only at d1 d2 d3 d4 c1 c2
      clear hkl hcc hov hlk
      by_cases hnl : c = 10
      · have hcb : ((c.toNat : Int) == 10) = true := by rw [hnl]; rfl
        have HO2 := Lib.hid (HO.out.trans (if_pos hnl))
        clear hnl
        go_wp2
        go_roundw
        case rel =>
          refine ⟨k + 1, by omega, by go_num, ?_, ?_, ?_, ?_⟩
          · rw [HS.out, HO2.out]
            have hz := (((b0.set_ 0 (.int .i64 ((a : Int) + k + 1))).set_ 2 (.int .i64 (oc + 1))).set_ 1 (.int .i64 (ol + 1))).set_ 2 (.int .i64 1)
            simpa [Int.add_assoc] using hz
          · repeat (first | exact b1 | refine Blk.far ?_ (by simp) _)
          · repeat (first | exact hb | refine bl_set ?_ (by simp) _)
          · show cellsAre _ _ _
            repeat (first | exact HC.out | refine cellsAre.set ?_ (by simp; omega) _)
        case measure => simp [intOf]; omega
      · have hcb : ((c.toNat : Int) == 10) = false := u8_nb rfl hnl
        have HO2 := Lib.hid (HO.out.trans (if_neg hnl))
        clear hnl
        go_wp2
        go_roundw
        case rel =>
          refine ⟨k + 1, by omega, by go_num, ?_, ?_, ?_, ?_⟩
          · rw [HS.out, HO2.out]
            have hz := (b0.set_ 0 (.int .i64 ((a : Int) + k + 1))).set_ 2 (.int .i64 (oc + 1))
            simpa [Int.add_assoc] using hz
          · repeat (first | exact b1 | refine Blk.far ?_ (by simp) _)
          · repeat (first | exact hb | refine bl_set ?_ (by simp) _)
          · show cellsAre _ _ _
            repeat (first | exact HC.out | refine cellsAre.set ?_ (by simp; omega) _)
        case measure => simp [intOf]; omega
    · obtain rfl : k = n := by omega
      have ht : t.take k = t := List.take_of_length_le (by have := HLEN.out; omega)
      rw [ht] at b0
      obtain ⟨c0, c1, c2, f0, f1, f2⟩ := b0.c3
      obtain ⟨e0, e1, e2, g0, g1, g2⟩ := b1.c3
      clear ht
      go_wp2
      rw [HTT.out, Int.natCast_add]
      exact bodyPost_ret (results_cell_row rfl _ _ (w.heap.size + 1) _ #[_, _, _] (0, 0) _ rfl (((b1.set_ 0 _).set_ 1 _).set_ 2 _) Tryd.underlying141 rfl (by kernel_rfl)) rfl ⟨rfl, bl_set (bl_set (bl_set hb (by simp) _) (by simp) _) (by simp) _⟩
theorem runLen_step (s : ByteArray) (k : Nat) (h : k < s.size) (hi : isLet s[k] = true) : runLen (s.data.toList.drop k) = 1 + runLen (s.data.toList.drop (k + 1)) := by
  rw [drop_at s k h, runLen, List.takeWhile_cons, if_pos hi]; simp [runLen]; omega
theorem runLen_stop (s : ByteArray) (k : Nat) (h : k < s.size) (hi : isLet s[k] = false) : runLen (s.data.toList.drop k) = 0 := by
  rw [drop_at s k h, runLen, List.takeWhile_cons, if_neg (by simp [hi])]; rfl
set_option maxHeartbeats 1000000 in
theorem run_any (s : ByteArray) (w : World) (hs : s.size < 4294967281) :
    Calls Tryd.prog 85 #[.string s] w fun e w' => e = .returned (.int .i64 (runN s.data.toList)) ∧ w = w' := by
  go_enter Tryd.func85, Tryd.ntmps85
  go_wp2_with fail
  go_loop [3] (fun v => ∃ k : Nat, k ≤ s.size ∧ v = .int .i64 k ∧ Hid (k + runLen (s.data.toList.drop k) = runLen s.data.toList)) (fun v => s.size - (intOf v).toNat)
  case atStart => exact ⟨0, Nat.zero_le _, rfl, by simp [Hid]⟩
  case round =>
    obtain ⟨k, hk, rfl, HA⟩ := hrel
    have fin : runLen (s.data.toList.drop k) = 0 → runN s.data.toList = max (k : Int) (min (s.size : Int) 1) := fun h => by
      have h1 := HA.out
      have h2 : s.data.toList.length = s.size := by simp
      rw [h] at h1
      simp only [runN, h2]; omega
    have FIN := Lib.hid fin
    clear fin
    by_cases hlt : k < s.size
    · cases hi : isLet (s[k]'hlt) with
      | true =>
        have HX : Hid (k + 1 + runLen (s.data.toList.drop (k + 1)) = runLen s.data.toList) := by
          show _ = _
          rw [← HA.out, runLen_step s k hlt hi]; omega
        go_wp2_with (go_at_call 120; refine (letter_any _ _).mono ?_; rintro e w' ⟨rfl, rfl⟩)
        go_round
        case rel => exact ⟨k + 1, by omega, by go_num, HX⟩
        case measure => simp [intOf]; omega
      | false =>
        have HF := Lib.hid (FIN.out (runLen_stop s k hlt hi))
        go_wp2_with (go_at_call 120; refine (letter_any _ _).mono ?_; rintro e w' ⟨rfl, rfl⟩)
        go_ret
        exact ⟨ret_int (by rw [HF.out]), rfl⟩
    · obtain rfl : k = s.size := by omega
      have HF := Lib.hid (FIN.out (by rw [drop_end]; rfl))
      go_wp2_with fail
      go_ret
      exact ⟨ret_int (by rw [HF.out]), rfl⟩
end Go.Proofs.YtcgkfgklggjmaaaDoor
end
section
namespace Go.Proofs.YtcgkfgklggjmaaaDoor
set_option linter.unusedVariables false
set_option linter.unusedSimpArgs false
open Go.RowKit
theorem blank_at (s : ByteArray) (l : List UInt8) (w : World) (h : s.data.toList = l) :
    Calls Tryd.prog 83 #[.string s] w fun e w' => e = .returned (.int .i64 (blankN l)) ∧ w = w' := by
  subst h; exact blank_any s w
theorem run_at (s : ByteArray) (l : List UInt8) (w : World) (hs : s.size < 4294967281) (h : s.data.toList = l) :
    Calls Tryd.prog 85 #[.string s] w fun e w' => e = .returned (.int .i64 (runN l)) ∧ w = w' := by
  subst h; exact run_any s w hs
def lexR (v : Value) (er l c : Int) : Value := .tuple #[v, .agg #[.int .i64 er, .int .i64 l, .int .i64 c]]
theorem tokInfo : (Tryd.prog.info? 102).map (fun i => (i.zero, i.size, i.bytes)) = some (some (.agg #[.int .i64 0, .string ⟨#[]⟩, .int .i64 0, .int .i64 0]), 4, 40) := by kernel_rfl
set_option maxHeartbeats 4000000 in
set_option maxRecDepth 100000 in
theorem lex_any (s : ByteArray) (w : World) (hG : GL w) (hs : s.size ≤ 9223372036854775807) :
    Calls Tryd.prog 48 #[.string s] w (LexOut 102 s w lexR) := by
  have hlen : s.data.toList.length = s.size := by simp
  have HLEN := Lib.hid hlen
  clear hlen
  by_cases hbig : 8192 < s.size
  · have HA : Hid (lexAll s.data.toList = ([], 6, 1, 1)) := by
      show _ = _
      rw [lexAll, if_pos (by rw [HLEN.out]; exact hbig)]
    go_enter Tryd.func48, Tryd.ntmps48
    go_wp2
    refine bodyPost_ret (results_tmp_cell_row rfl _ _ w.heap.size _ #[.int .i64 6, .int .i64 1, .int .i64 1] _ rfl (Blk.new _ _ _) Tryd.underlying34 rfl (by kernel_rfl)) rfl ?_
    exact ⟨.slice none 0 0, [], 6, 1, 1, rfl, World.ownsRow_nil _ _ _ _, bl_alloc (bl_refl _) _, HA.out⟩
  · obtain ⟨i0, hi0, hz0, hz1, hz2⟩ := info_parts tokInfo
    go_enter Tryd.func48, Tryd.ntmps48
    go_wp2_with fail
    go_loopw [4] (fun v4 wr => ∃ (ts : List Tok) (a : Nat) (line col : Int), a ≤ s.size ∧ 0 ≤ line ∧ line ≤ a + 1 ∧ 0 ≤ col ∧ col ≤ 2 * a + 1 ∧
      Blk wr w.heap.size 34 #[.int .i64 0, .int .i64 0, .int .i64 0] ∧ Blk wr (w.heap.size + 1) 141 #[.int .i64 a, .int .i64 line, .int .i64 col] ∧
      wr.ownsRow (w.heap.size + 1 + 1) 102 4 v4 ts.length (toksCells ts) ∧ ts.length ≤ a ∧ Below w.heap.size w wr ∧ Hid (LexIn s.data.toList ts a line col)) (fun _ wr => s.size + 1 - posOf wr (w.heap.size + 1))
    case atStart => exact ⟨[], 0, 1, 1, by omega, by omega, by omega, by omega, by omega, (Blk.new _ _ _).alloc _, (show Blk _ _ _ _ from by have := Blk.new (w.alloc (.cells #[.int .i64 0, .int .i64 0, .int .i64 0] 34)) 141 #[.int .i64 0, .int .i64 1, .int .i64 1]; simpa using this), World.ownsRow_nil _ _ _ _, Nat.le_refl _, bl_alloc (bl_alloc (bl_refl _) _) _, by simp [Hid, LexIn, preR_nil]⟩
    case round =>
      obtain ⟨ts, a0, line0, col0, ha, l1, l2, c1, c2, kf, kp, hown, hts, hbw, HI⟩ := hrel
      obtain ⟨wo, rfl⟩ : ∃ wo : World, wo = wr := ⟨_, rfl⟩
      have hlp := kp.lt
      have hpo := posOf_blk kp
      obtain ⟨p0, p1, p2, f0, f1, f2⟩ := kp.c3
      go_wp2_with (go_at_call 83; refine (blank_at _ (s.data.toList.drop a0) _ (ext_drop s a0)).mono ?_; rintro e w' ⟨rfl, rfl⟩)
      clear p0 p1 p2 f0 f1 f2
      go_loopw [6] (fun v6 wi => ∃ (a : Nat) (line col : Int), a ≤ s.size ∧ 0 ≤ line ∧ line ≤ a + 1 ∧ 0 ≤ col ∧ col ≤ 2 * a + 1 ∧ v6 = .int .i64 (blankN (s.data.toList.drop a)) ∧
        Blk wi w.heap.size 34 #[.int .i64 0, .int .i64 0, .int .i64 0] ∧ Blk wi (w.heap.size + 1) 141 #[.int .i64 a, .int .i64 line, .int .i64 col] ∧
        wi.ownsRow (w.heap.size + 1 + 1) 102 4 u4 ts.length (toksCells ts) ∧ ts.length ≤ a ∧ a0 ≤ a ∧ Below w.heap.size w wi ∧ Hid (LexIn s.data.toList ts a line col)) (fun _ wi => s.size + 1 - posOf wi (w.heap.size + 1))
      case atStart => exact ⟨a0, line0, col0, ha, l1, l2, c1, c2, rfl, kf, kp, hown, hts, Nat.le_refl _, hbw, HI⟩
      case round =>
        clear ha l1 l2 c1 c2 kf kp hown hts hbw HI
        obtain ⟨a, line, col, ha, l1, l2, c1, c2, rfl, kf, kp, hown, hts, haa, hbw, HI⟩ := hrel
        have hpo2 := posOf_blk kp
        have hlp2 := kp.lt
        obtain ⟨p0, p1, p2, f0, f1, f2⟩ := kp.c3
        by_cases hbl : 0 < blankN (s.data.toList.drop a)
        · obtain ⟨n, hn, hn0, hnl, hst⟩ := blank_step (s.data.toList.drop a) line col hbl
          have hlen2 : a + n ≤ s.size := by
            have := HLEN.out
            rw [List.length_drop] at hnl; omega
          have hob := overL_bd ((s.data.toList.drop a).take n) (line, col) l1 c1
          have hol : ((s.data.toList.drop a).take n).length ≤ n := List.length_take_le _ _
          simp only at hob
          obtain ⟨o1, o2, o3, o4⟩ := hob
          have HST : Hid (LexIn s.data.toList ts (a + n) (overL ((s.data.toList.drop a).take n) (line, col)).1 (overL ((s.data.toList.drop a).take n) (line, col)).2) := by
            show LexIn _ _ _ _ _
            unfold LexIn
            rw [HI.out, hst, List.drop_drop]
          have HN := Lib.hid hn
          rw [hn]
          clear hn hst HI hnl hbl
          generalize hov : overL ((s.data.toList.drop a).take n) (line, col) = ov at *
          have HOV := Lib.hid hov
          clear hov
          go_wp2_with (first
            | (go_at_call 84; refine (over_any s a n line col _ hlen2 (by omega) l1 c1 (by omega) (by omega)).mono ?_; rw [HOV.out]; rintro e w2 ⟨rfl, hb2⟩; (have kp2 := kp.call hb2); (have kf2 := kf.call hb2); (have hown2 := ownsRow_below hown hb2); (have hbw2 := bl_call hbw hb2); clear p0 p1 p2 f0 f1 f2 kp kf hown; obtain ⟨p0, p1, p2, f0, f1, f2⟩ := kp2.c3)
            | (go_at_call 83; refine (blank_at _ (s.data.toList.drop (a + n)) _ (ext_drop s (a + n))).mono ?_; rintro e w' ⟨rfl, rfl⟩))
          go_roundw
          case rel =>
            have hz := ((kp2.set_ 0 (.int .i64 ((a : Int) + n))).set_ 1 (.int .i64 ov.1)).set_ 2 (.int .i64 ov.2)
            refine ⟨a + n, ov.1, ov.2, hlen2, o1, by omega, o3, by omega, rfl, ?_, by simpa using hz, ?_, by omega, by omega, ?_, HST⟩
            · exact ((kf2.far (by simp) _).far (by simp) _).far (by simp) _
            · exact ownsRow_set (ownsRow_set (ownsRow_set hown2 (by simp) _) (by simp) _) (by simp) _
            · exact bl_set (bl_set (bl_set hbw2 (by simp) _) (by simp) _) (by simp) _
          case measure =>
            have hz := ((kp2.set_ 0 (.int .i64 ((a : Int) + n))).set_ 1 (.int .i64 ov.1)).set_ 2 (.int .i64 ov.2)
            have := posOf_blk (a := a + n) (by simpa using hz)
            rw [this, hpo2]
            omega
        · by_cases hend : a = s.size
          · subst hend
            have HR : Hid (lexAll s.data.toList = (ts ++ [⟨0, ⟨#[]⟩, line, col⟩], 0, 0, 0)) := by
              have h := HI.out
              unfold LexIn at h
              rw [drop_end, lexL] at h
              show _ = _
              rw [lexAll, if_neg (by rw [HLEN.out]; exact hbig), h]; rfl
            have heq : (((s.size : Int)) == (s.size : Int)) = true := beq_iff_eq.2 rfl
            go_wp2_with (at_builtin; refine wpList_append_own _ rfl _ _ 94 rfl (w.heap.size + 1 + 1) 102 i0 _ 4 40 Tryd.underlying94 hi0 hz0 hz1 hz2 rfl (by decide) _ _ _ rfl (hown.alloc _) ⟨wr.heap.size, 0, none⟩ 1 1 [.int .i64 0, .string ⟨#[]⟩, .int .i64 line, .int .i64 col] rfl rfl (World.news_of_block (cs := #[.int .i64 0, .string ⟨#[]⟩, .int .i64 line, .int .i64 col]) (t := 102) (fr := (0, 0)) (heap_alloc_new _ _)) (by simp [Value.oneCell']) (by unfold maxLen; omega) (by omega) (by simp; omega) ?_; intro v1 w1 hown1 hgrow1 hnil1; (have kf1 := (kf.alloc _).grown hgrow1 (fun h => by have := (hown.lt _ h.symm).1; omega)); obtain ⟨q0, q1, q2, g0, g1, g2⟩ := kf1.c3)
            refine bodyPost_ret (results_tmp_cell_row rfl _ _ w.heap.size _ #[.int .i64 0, .int .i64 0, .int .i64 0] _ rfl (((kf1.set_ 0 _).set_ 1 _).set_ 2 _) Tryd.underlying34 rfl (by kernel_rfl)) rfl ?_
            refine ⟨v1, ts ++ [⟨0, ⟨#[]⟩, line, col⟩], 0, 0, 0, rfl, ?_, ?_, HR.out⟩
            · have h1 := ownsRow_set (ownsRow_set (ownsRow_set hown1 (p := ⟨w.heap.size, 0, none⟩) (by simp; omega) (.int .i64 0)) (p := ⟨w.heap.size, 1, none⟩) (by simp; omega) (.int .i64 0)) (p := ⟨w.heap.size, 2, none⟩) (by simp; omega) (.int .i64 0)
              rw [toks_snoc, List.length_append]
              exact ownsRow_base h1 (by omega)
            · exact bl_set (bl_set (bl_set (bl_grown (bl_alloc hbw _) hgrow1 (fun k hk => by have := (hown.lt _ hk).1; omega)) (Nat.le_refl _) _) (Nat.le_refl _) _) (Nat.le_refl _) _
          · have hle := HLEN.out
            have hne : s.data.toList.drop a ≠ [] := fun h => by
              have := congrArg List.length h
              simp at this; omega
            obtain ⟨n, hn, hn0, hnl, hst⟩ := tok_step (s.data.toList.drop a) line col hbl hne
            have hlen2 : a + n ≤ s.size := by
              rw [List.length_drop] at hnl; omega
            have hob := overL_bd ((s.data.toList.drop a).take n) (line, col) l1 c1
            have hol : ((s.data.toList.drop a).take n).length ≤ n := List.length_take_le _ _
            simp only at hob
            obtain ⟨o1, o2, o3, o4⟩ := hob
            have hx := ext_take s a n
            have HST := Lib.hid hst
            have hG1 := hG.below (hbw.mono (Nat.le_refl _))
            have HRUN := Lib.hid (run_at (s.extract a s.size) (s.data.toList.drop a))
            have HOF := Lib.hid (lexOf_any (s.extract a (a + n)))
            have heq : (((a : Int)) == (s.size : Int)) = false := by rw [beq_eq_false_iff_ne]; omega
            rw [hn] at HRUN
            rw [hx] at HOF
            clear hst hn hx hnl hne
            generalize htl : (s.data.toList.drop a).take n = tl at *
            generalize hov : overL tl (line, col) = ov at *
            have HTL := Lib.hid htl
            have HOV := Lib.hid hov
            clear htl hov
            have hls := hown.lt
            go_wp2_with (first
              | (go_at_call 85; refine (HRUN.out _ (by simp; omega) (ext_drop s a)).mono ?_; rintro e w' ⟨rfl, rfl⟩))
            have gg0 : (0 : Int) ≤ (a : Int) := by omega
            have gg1 : (0 : Int) ≤ (a : Int) + (n : Int) := by omega
            have gg2 : (a : Int) ≤ (a : Int) + (n : Int) := by omega
            have gg3 : (a : Int) + (n : Int) ≤ (s.size : Int) := by omega
            have gg4 : IntKind.i64.wrap ((a : Int) + (n : Int)) = (a : Int) + (n : Int) := by rw [IntKind.wrap_i64]; omega
            have gg5 : ((a : Int) + (n : Int)).toNat = a + n := by omega
            have gg6 : ((a : Int)).toNat = a := by omega
            go_region_held3 (fun w' => w'.cell? ⟨w.heap.size + 1, 0, none⟩ = some (.int .i64 a) ∧ w'.cell? ⟨w.heap.size + 1, 1, none⟩ = some (.int .i64 line) ∧ w'.cell? ⟨w.heap.size + 1, 2, none⟩ = some (.int .i64 col)) (go_keep) (fail)
            by_cases hk : kindOf tl = 0
            · have HR : Hid (lexAll s.data.toList = ([], 3, line, col)) := by
                have h := HI.out
                unfold LexIn at h
                rw [HST.out, if_pos hk] at h
                show _ = _
                rw [lexAll, if_neg (by rw [HLEN.out]; exact hbig), h]; rfl
              rw [hk] at HOF
              go_wp2_with fail
              refine (HOF.out _ ((hG1.alloc _).drew) (by simp; omega)).mono ?_
              rintro e w2 ⟨rfl, hb2⟩
              have kt := (Blk.drew (Blk.new wr 102 #[.int .i64 0, .string (s.extract a (a + n)), .int .i64 line, .int .i64 col])).call hb2
              have kf2 := (Blk.drew (kf.alloc (.cells #[.int .i64 0, .string (s.extract a (a + n)), .int .i64 line, .int .i64 col] 102))).call hb2
              have hbw2 := bl_call (bl_drew (bl_alloc hbw _)) hb2
              obtain ⟨q0, q1, q2, q3, g0, g1, g2, g3⟩ := kt.c4
              obtain ⟨r0, r1, r2, i0', i1', i2'⟩ := kf2.c3
              have hlt2 := kt.lt
              go_wp2_with fail
              have kt3 : Blk (w2.setCell ⟨wr.heap.size, 0, none⟩ (.int .i64 0)) wr.heap.size 102 #[.int .i64 0, .string (s.extract a (a + n)), .int .i64 line, .int .i64 col] := by simpa using kt.set_ 0 (.int .i64 0)
              have KB := Lib.hid kt3
              have KT3 := Lib.hid (And.intro kt3.c4.2.2.1 kt3.c4.2.2.2.1)
              have hwne : wr.heap.size ≠ w.heap.size := by have := hbw.size; omega
              go_region_held3 (fun w' => w'.cell? ⟨wr.heap.size, 2, none⟩ = some (.int .i64 line) ∧ w'.cell? ⟨wr.heap.size, 3, none⟩ = some (.int .i64 col)) (first | exact KT3.out | (refine blk_23 (t := 102) (a := .int .i64 0) (b := .string (s.extract a (a + n))) ?_; repeat (first | exact KB.out | refine Blk.far ?_ (by simp; omega) _ | apply Blk.drew))) (fail)
              go_wp2_with fail
              refine bodyPost_ret (results_tmp_cell_row rfl _ _ w.heap.size _ #[.int .i64 3, .int .i64 line, .int .i64 col] _ rfl (Blk.drew ((((kf2.far (by simp; omega) _).set_ 0 _).set_ 1 _).set_ 2 _)) Tryd.underlying34 rfl (by kernel_rfl)) rfl ?_
              exact ⟨.slice none 0 0, [], 3, line, col, rfl, World.ownsRow_nil _ _ _ _, bl_drew (bl_set (bl_set (bl_set (bl_set hbw2 (by simp; omega) _) (Nat.le_refl _) _) (Nat.le_refl _) _) (Nat.le_refl _) _), HR.out⟩
            · have HS2 : Hid (LexIn s.data.toList (ts ++ [⟨kindOf tl, s.extract a (a + n), line, col⟩]) (a + n) ov.1 ov.2) := by
                have h := HI.out
                unfold LexIn at h
                rw [HST.out, if_neg hk, List.drop_drop] at h
                show LexIn _ _ _ _ _
                unfold LexIn
                have he : (⟨tl.toArray⟩ : ByteArray) = s.extract a (a + n) := by
                  rw [← HTL.out, ← ext_take]
                rw [h, preR_snoc, he]
              have HK : Hid ((kindOf tl == 0) = false) := beq_eq_false_iff_ne.2 hk
              clear hk HST HI
              generalize hkk : kindOf tl = kd at *
              have hk0 := HK.out
              clear hkk
              go_wp2_with fail
              refine (HOF.out _ ((hG1.alloc _).drew) (by simp; omega)).mono ?_
              rintro e w2 ⟨rfl, hb2⟩
              have kt := (Blk.drew (Blk.new wr 102 #[.int .i64 0, .string (s.extract a (a + n)), .int .i64 line, .int .i64 col])).call hb2
              have kf2 := (Blk.drew (kf.alloc (.cells #[.int .i64 0, .string (s.extract a (a + n)), .int .i64 line, .int .i64 col] 102))).call hb2
              have kp2 := (Blk.drew (kp.alloc (.cells #[.int .i64 0, .string (s.extract a (a + n)), .int .i64 line, .int .i64 col] 102))).call hb2
              have hown2 := ownsRow_below (w := (wr.alloc (.cells #[.int .i64 0, .string (s.extract a (a + n)), .int .i64 line, .int .i64 col] 102)).drew) (hown.alloc _) hb2
              have hbw2 := bl_call (bl_drew (bl_alloc hbw _)) hb2
              have hown3 := ownsRow_far hown2 (p := ⟨wr.heap.size, 0, none⟩) (fun g hg => by have := (hls g hg).2; simp; omega) (.int .i64 kd)
              have kt3 : Blk (w2.setCell ⟨wr.heap.size, 0, none⟩ (.int .i64 kd)) wr.heap.size 102 #[.int .i64 kd, .string (s.extract a (a + n)), .int .i64 line, .int .i64 col] := by simpa using kt.set_ 0 (.int .i64 kd)
              obtain ⟨q0, q1, q2, q3, g0, g1, g2, g3⟩ := kt.c4
              have hlt2 := kt.lt
              have hlw2 := hbw.size
              go_wp2_with (at_builtin; refine wpList_append_own _ rfl _ _ 94 rfl (w.heap.size + 1 + 1) 102 i0 _ 4 40 Tryd.underlying94 hi0 hz0 hz1 hz2 rfl (by decide) _ _ _ rfl (hown3.alloc _) ⟨w2.heap.size, 0, none⟩ 1 1 [.int .i64 kd, .string (s.extract a (a + n)), .int .i64 line, .int .i64 col] rfl (by simp) (by have := World.news_of_block (cs := #[.int .i64 kd, .string (s.extract a (a + n)), .int .i64 line, .int .i64 col]) (t := 102) (fr := (0, 0)) (heap_alloc_new (w2.setCell ⟨wr.heap.size, 0, none⟩ (.int .i64 kd)) _); simpa using this) (by simp [Value.oneCell']) (by unfold maxLen; omega) (by omega) (by simp; omega) ?_; intro v1 w3 hown1 hgrow1 hnil1; (have kp3 := ((kp2.far (p := ⟨wr.heap.size, 0, none⟩) (by simp; omega) (.int .i64 kd)).alloc _).grown hgrow1 (fun h => by have := (hown3.lt _ h.symm).1; omega)); (have kf3 := ((kf2.far (p := ⟨wr.heap.size, 0, none⟩) (by simp; omega) (.int .i64 kd)).alloc _).grown hgrow1 (fun h => by have := (hown3.lt _ h.symm).1; omega)); (have hbw3 := bl_grown (bl_alloc (bl_set hbw2 (p := ⟨wr.heap.size, 0, none⟩) (by simp; omega) (.int .i64 kd)) _) hgrow1 (fun k hk => by have := (hown3.lt _ hk).1; omega)); clear hgrow1 hnil1; obtain ⟨r0, r1, r2, j0, j1, j2⟩ := kp3.c3)
              refine (over_any s a n line col _ hlen2 (by omega) l1 c1 (by omega) (by omega)).mono ?_
              rw [HTL.out, HOV.out]
              rintro e w4 ⟨rfl, hb4⟩
              have kp4 := kp3.call hb4
              have kf4 := kf3.call hb4
              have hown4 := ownsRow_below hown1 hb4
              have hbw4 := bl_call hbw3 hb4
              clear r0 r1 r2 j0 j1 j2
              obtain ⟨r0, r1, r2, j0, j1, j2⟩ := kp4.c3
              go_wp2_with fail
              go_roundw
              case rel =>
                have hz := ((kp4.set_ 0 (.int .i64 ((a : Int) + n))).set_ 1 (.int .i64 ov.1)).set_ 2 (.int .i64 ov.2)
                refine ⟨ts ++ [⟨kd, s.extract a (a + n), line, col⟩], a + n, ov.1, ov.2, hlen2, o1, by omega, o3, by omega, ?_, by simpa using hz, ?_, by simp; omega, ?_, HS2⟩
                · exact ((kf4.far (by simp) _).far (by simp) _).far (by simp) _
                · have h1 := ownsRow_set (ownsRow_set (ownsRow_set hown4 (p := ⟨w.heap.size + 1, 0, none⟩) (by simp) (.int .i64 ((a : Int) + n))) (p := ⟨w.heap.size + 1, 1, none⟩) (by simp) (.int .i64 ov.1)) (p := ⟨w.heap.size + 1, 2, none⟩) (by simp) (.int .i64 ov.2)
                  rw [toks_snoc, List.length_append]
                  exact h1
                · exact bl_set (bl_set (bl_set hbw4 (by simp) _) (by simp) _) (by simp) _
              case measure =>
                have hz := ((kp4.set_ 0 (.int .i64 ((a : Int) + n))).set_ 1 (.int .i64 ov.1)).set_ 2 (.int .i64 ov.2)
                have := posOf_blk (a := a + n) (by simpa using hz)
                rw [this]
                omega
end Go.Proofs.YtcgkfgklggjmaaaDoor
end
section
namespace Go.Proofs.YtcgkfgklggjmaaaDoor.Par
set_option linter.unusedVariables false
set_option linter.unusedSimpArgs false
open Go.RowKit
/-- the program's parser in memory: its block, the row of the tokens, how many are over -/
structure PAt (w : World) (b : Nat) (ts : List Tok) (r cap i : Nat) (s : St) : Prop where
  blk : Blk w b 99 #[.slice (some ⟨r, i * 4, none⟩) (ts.length - i) (cap - i), .int .i64 s.err, .int .i64 s.line, .int .i64 s.col]
  row : w.ownsRow 0 102 4 (.slice (some ⟨r, 0, none⟩) ts.length cap) ts.length (toksCells ts)
  ne : r ≠ b
  cap_ : ts.length ≤ cap
  rest : s.rest = ts.drop i
  lt : i < ts.length
  last : ∀ t, ts.getLast? = some t → t.kind = 0
  ok : s.err = 0 → s.line = 0 ∧ s.col = 0
theorem PAt.peek_at {w : World} {b : Nat} {ts : List Tok} {r cap i : Nat} {s : St} (h : PAt w b ts r cap i s) : ts[i]? = some (peek s) := by
  unfold peek
  rw [h.rest, List.getElem?_eq_getElem h.lt, List.drop_eq_getElem_cons h.lt]
  rfl
theorem PAt.tok {w : World} {b : Nat} {ts : List Tok} {r cap i : Nat} {s : St} (h : PAt w b ts r cap i s) :
    w.cell? ⟨r, i * 4, none⟩ = some (.int .i64 (peek s).kind) ∧ w.cell? ⟨r, i * 4 + 1, none⟩ = some (.string (peek s).text) ∧ w.cell? ⟨r, i * 4 + 2, none⟩ = some (.int .i64 (peek s).line) ∧ w.cell? ⟨r, i * 4 + 3, none⟩ = some (.int .i64 (peek s).col) :=
  tok_cells h.row h.peek_at rfl
theorem PAt.below {w w' : World} {b : Nat} {ts : List Tok} {r cap i : Nat} {s : St} (h : PAt w b ts r cap i s) (hb : Below w.heap.size w w') : PAt w' b ts r cap i s :=
  ⟨h.blk.call hb, ownsRow_base (ownsRow_below h.row hb) (Nat.zero_le _), h.ne, h.cap_, h.rest, h.lt, h.last, h.ok⟩
end Go.Proofs.YtcgkfgklggjmaaaDoor.Par
end
section
namespace Go.Proofs.YtcgkfgklggjmaaaDoor.Par
set_option linter.unusedVariables false
set_option linter.unusedSimpArgs false
open Go.RowKit
def tokV (t : Tok) : Value := .agg #[.int .i64 t.kind, .string t.text, .int .i64 t.line, .int .i64 t.col]
set_option maxHeartbeats 2000000 in
set_option maxRecDepth 100000 in
theorem peek_any {w : World} {b : Nat} {ts : List Tok} {r cap i : Nat} {s : St} (h : PAt w b ts r cap i s) (hl : ts.length < 9223372036854775808) (hc : cap < 9223372036854775808) :
    Calls Tryd.prog 52 #[.pointer (some ⟨b, 0, none⟩)] w fun e w' => e = .returned (tokV (peek s)) ∧ Below w.heap.size w w' := by
  obtain ⟨t0, t1, t2, t3⟩ := h.tok
  obtain ⟨c0, c1, c2, c3, _⟩ := h.blk.c4
  have hlt := h.lt
  have hcap := h.cap_
  have hb := h.blk.lt
  have hr : r < w.heap.size := World.block_lt_of_cell? w _ t0
  have kz := Blk.new w 102 #[.int .i64 0, .string ⟨#[]⟩, .int .i64 0, .int .i64 0]
  obtain ⟨z0, z1, z2, z3, _⟩ := kz.c4
  generalize peek s = t at *
  have b0 : (0 : Int) < ((ts.length - i : Nat) : Int) := by omega
  go_enter Tryd.func52, Tryd.ntmps52
  go_wp2_with fail
  exact bodyPost_ret (results_cell_row rfl _ _ w.heap.size _ #[.int .i64 t.kind, .string t.text, .int .i64 t.line, .int .i64 t.col] (0, 0) _ rfl (Blk.new w _ _) Tryd.underlying102 rfl (by kernel_rfl)) rfl ⟨rfl, bl_alloc (bl_refl w) _⟩
theorem fault_eql (a b c a' b' c' : Int) (W : World) : (binOp .eql 34 (.agg #[.int .i64 a, .int .i64 b, .int .i64 c]) (.agg #[.int .i64 a', .int .i64 b', .int .i64 c'])).run Tryd.prog W = .ok (.bool (a == a' && (b == b' && (c == c' && true)))) W := by
  refine eql_S (fun d => ?_)
  refine eqS_of _ _ _ _ _ _ Tryd.underlying34 (by kernel_rfl) ?_
  refine eqF_cons _ _ _ _ _ (.int .i64 a) (.int .i64 a') _ _ rfl (by go_simp) (by go_simp) (by go_simp) ?_
  refine eqF_cons _ _ _ _ _ (.int .i64 b) (.int .i64 b') _ _ rfl (by go_simp) (by go_simp) (by go_simp) ?_
  refine eqF_cons _ _ _ _ _ (.int .i64 c) (.int .i64 c') _ _ rfl (by go_simp) (by go_simp) (by go_simp) ?_
  exact eqF_nil _ _ _
set_option maxHeartbeats 2000000 in
set_option maxRecDepth 100000 in
theorem fail_any {w : World} {b : Nat} {ts : List Tok} {r cap i : Nat} {s : St} (h : PAt w b ts r cap i s) (e : Int) (he : e ≠ 0) (t : Tok) :
    Calls Tryd.prog 88 #[.pointer (some ⟨b, 0, none⟩), .int .i64 e, tokV t] w fun en w' => en = .returned (.tuple #[]) ∧ PAt w' b ts r cap i (fail e t s) ∧ Fr b w w' := by
  obtain ⟨c0, c1, c2, c3, f0, f1, f2, f3⟩ := h.blk.c4
  have hb := h.blk.lt
  have hr : r < w.heap.size := World.block_lt_of_cell? w _ h.tok.1
  have hfe := fault_eql s.err s.line s.col 0 0 0
  unfold tokV
  by_cases h0 : s.err = 0
  · obtain ⟨l0, k0⟩ := h.ok h0
    rw [h0, l0, k0] at hfe
    rw [h0] at c1
    rw [l0] at c2
    rw [k0] at c3
    have hfe' : ∀ W, (binOp .eql 34 (.agg #[.int .i64 0, .int .i64 0, .int .i64 0]) (.agg #[.int .i64 0, .int .i64 0, .int .i64 0])).run Tryd.prog W = .ok (.bool true) W := hfe
    clear hfe l0 k0
    go_enter Tryd.func88, Tryd.ntmps88
    go_wp2_with fail
    go_end0
    refine ⟨rfl, ?_⟩
    have hf : fail e t s = { s with err := e, line := t.line, col := t.col } := by unfold Par.fail; rw [if_pos h0]
    rw [hf]
    have hown : ∀ (u : Nat) (g : Nat), (Value.slice (some ⟨r, 0, none⟩) ts.length cap).ownBlock = some g → g ≠ (⟨b, u, none⟩ : Addr).block := fun u g hg => by
      obtain rfl : r = g := Option.some.inj hg
      exact h.ne
    have hrow := ownsRow_far (ownsRow_far (ownsRow_far h.row (hown 1) (.int .i64 e)) (hown 2) (.int .i64 t.line)) (hown 3) (.int .i64 t.col)
    exact ⟨⟨(((h.blk.set_ 1 (.int .i64 e)).set_ 2 (.int .i64 t.line)).set_ 3 (.int .i64 t.col)).alloc _, ownsRow_base (ownsRow_below hrow (bl_alloc (bl_refl _) _)) (Nat.zero_le _), h.ne, h.cap_, h.rest, h.lt, h.last, fun e0 => absurd e0 he⟩, (((Fr.refl b w).set ⟨b, 1, none⟩ rfl (.int .i64 e)).set ⟨b, 2, none⟩ rfl (.int .i64 t.line)).set ⟨b, 3, none⟩ rfl (.int .i64 t.col) |>.trans (Fr.of_below (bl_alloc (bl_refl _) _))⟩
  · have hn : (s.err == 0) = false := beq_eq_false_iff_ne.2 h0
    rw [hn] at hfe
    have hfe' : ∀ W, (binOp .eql 34 (.agg #[.int .i64 s.err, .int .i64 s.line, .int .i64 s.col]) (.agg #[.int .i64 0, .int .i64 0, .int .i64 0])).run Tryd.prog W = .ok (.bool false) W := hfe
    clear hfe
    rw [fail_keep h0]
    have hres := h.below (bl_alloc (bl_refl w) (.cells #[.int .i64 t.kind, .string t.text, .int .i64 t.line, .int .i64 t.col] 102))
    go_enter Tryd.func88, Tryd.ntmps88
    go_wp2_with fail
    go_end0
    exact ⟨rfl, hres, Fr.of_below (bl_alloc (bl_refl _) _)⟩
set_option maxHeartbeats 2000000 in
set_option maxRecDepth 100000 in
theorem next_any {w : World} {b : Nat} {ts : List Tok} {r cap i : Nat} {s : St} (h : PAt w b ts r cap i s) :
    Calls Tryd.prog 89 #[.pointer (some ⟨b, 0, none⟩)] w fun en w' => en = .returned (tokV (peek s)) ∧ (∃ j, PAt w' b ts r cap j (P.next s)) ∧ Fr b w w' := by
  obtain ⟨t0, t1, t2, t3⟩ := h.tok
  obtain ⟨c0, c1, c2, c3, f0, f1, f2, f3⟩ := h.blk.c4
  have hlt := h.lt
  have hcap := h.cap_
  have hb := h.blk.lt
  have hr : r < w.heap.size := World.block_lt_of_cell? w _ t0
  have b0 : (0 : Int) < ((ts.length - i : Nat) : Int) := by omega
  by_cases hk : (peek s).kind = 0
  · have hn : P.next s = s := by unfold P.next; rw [if_pos hk]
    rw [hn]
    have hnk : ((peek s).kind != 0) = false := by rw [hk]; rfl
    have hfin := h.below (bl_alloc (bl_refl w) (.cells #[.int .i64 (peek s).kind, .string (peek s).text, .int .i64 (peek s).line, .int .i64 (peek s).col] 102))
    generalize peek s = t at *
    clear hk hn
    go_enter Tryd.func89, Tryd.ntmps89
    go_wp2_with fail
    exact bodyPost_ret (results_cell_row rfl _ _ w.heap.size _ #[.int .i64 t.kind, .string t.text, .int .i64 t.line, .int .i64 t.col] (0, 0) _ rfl ((Blk.new w _ _).alloc _) Tryd.underlying102 rfl (by kernel_rfl)) rfl
      ⟨rfl, ⟨i, h.below (bl_alloc (bl_alloc (bl_refl w) _) _)⟩, Fr.of_below (bl_alloc (bl_alloc (bl_refl w) _) _)⟩
  · have hn : P.next s = drop1 s := next_drop hk
    rw [hn]
    have hnk : ((peek s).kind != 0) = true := bne_iff_ne.2 hk
    have hlt2 : i + 1 < ts.length := by
      rcases Nat.lt_or_ge (i + 1) ts.length with h2 | h2
      · exact h2
      · exfalso
        have hl : ts.getLast? = some (peek s) := by
          rw [List.getLast?_eq_getElem?, show ts.length - 1 = i by omega]
          exact h.peek_at
        exact hk (h.last _ hl)
    generalize peek s = t at *
    clear hk hn
    go_enter Tryd.func89, Tryd.ntmps89
    go_wp2_with fail
    have hz : ∀ (p : Addr) (u : Value), (w.setCell p u).heap.size = w.heap.size := fun p u => by simp [World.setCell]
    rw [show i * 4 + 4 = (i + 1) * 4 by omega, show ts.length - i - 1 = ts.length - (i + 1) by omega, show cap - i - 1 = cap - (i + 1) by omega]
    have hown : ∀ (g : Nat), (Value.slice (some ⟨r, 0, none⟩) ts.length cap).ownBlock = some g → g ≠ (⟨b, 0, none⟩ : Addr).block := fun g hg => by
      obtain rfl : r = g := Option.some.inj hg
      exact h.ne
    have hP : PAt (w.setCell ⟨b, 0, none⟩ (.slice (some ⟨r, (i + 1) * 4, none⟩) (ts.length - (i + 1)) (cap - (i + 1)))) b ts r cap (i + 1) (drop1 s) :=
      ⟨h.blk.set_ 0 _, ownsRow_far h.row hown _, h.ne, h.cap_, by show s.rest.tail = _; rw [h.rest, List.tail_drop], hlt2, h.last, h.ok⟩
    have hB := Blk.new (w.setCell ⟨b, 0, none⟩ (.slice (some ⟨r, (i + 1) * 4, none⟩) (ts.length - (i + 1)) (cap - (i + 1)))) 102 #[.int .i64 t.kind, .string t.text, .int .i64 t.line, .int .i64 t.col]
    rw [hz] at hB
    exact bodyPost_ret (results_cell_row rfl _ _ w.heap.size _ #[.int .i64 t.kind, .string t.text, .int .i64 t.line, .int .i64 t.col] (0, 0) _ rfl (hB.alloc _) Tryd.underlying102 rfl (by kernel_rfl)) rfl
      ⟨rfl, ⟨i + 1, hP.below (bl_alloc (bl_alloc (bl_refl _) _) _)⟩, ((Fr.refl b w).set ⟨b, 0, none⟩ rfl _).trans (Fr.of_below (bl_alloc (bl_alloc (bl_refl _) _) _))⟩
end Go.Proofs.YtcgkfgklggjmaaaDoor.Par
end
section
namespace Go.Proofs.YtcgkfgklggjmaaaDoor.Par
set_option linter.unusedVariables false
set_option linter.unusedSimpArgs false
open Go.RowKit
set_option maxHeartbeats 2000000 in
set_option maxRecDepth 100000 in
theorem is_any {w : World} {b : Nat} {ts : List Tok} {r cap i : Nat} {s : St} (h : PAt w b ts r cap i s) (hl : ts.length < 9223372036854775808) (hc : cap < 9223372036854775808) (x : ByteArray) :
    Calls Tryd.prog 124 #[.pointer (some ⟨b, 0, none⟩), .string x] w fun en w' => en = .returned (.bool (on x s)) ∧ Below w.heap.size w w' := by
  have hp := peek_any h hl hc
  have hon : on x s = (((peek s).kind == 2 || (peek s).kind == 5) && (peek s).text == x) := rfl
  rw [hon]
  clear hon
  generalize peek s = t at *
  unfold tokV at hp
  have hcase : ((t.kind == 2) = true) ∨ ((t.kind == 2) = false ∧ (t.kind == 5) = true) ∨ ((t.kind == 2) = false ∧ (t.kind == 5) = false) := by
    cases (t.kind == 2) <;> cases (t.kind == 5) <;> simp
  rcases hcase with h2 | ⟨h2, h5⟩ | ⟨h2, h5⟩
  all_goals
    go_enter Tryd.func124, Tryd.ntmps124
    go_wp2_with fail
    refine hp.mono ?_
    rintro e w1 ⟨rfl, hb1⟩
    have kx := Blk.new w1 102 #[.int .i64 t.kind, .string t.text, .int .i64 t.line, .int .i64 t.col]
    obtain ⟨z0, z1, z2, z3, _⟩ := kx.c4
    go_wp2_with fail
    go_ret
    refine ⟨?_, bl_alloc hb1 _⟩
  · rw [h2, ← beq_bytes]; rfl
  · rw [h2, h5, ← beq_bytes]; rfl
  · rw [h2, h5]; rfl
set_option maxHeartbeats 2000000 in
set_option maxRecDepth 100000 in
theorem eat_any {w : World} {b : Nat} {ts : List Tok} {r cap i : Nat} {s : St} (h : PAt w b ts r cap i s) (hl : ts.length < 9223372036854775808) (hc : cap < 9223372036854775808) (x : ByteArray) :
    Calls Tryd.prog 87 #[.pointer (some ⟨b, 0, none⟩), .string x] w fun en w' => en = .returned (.bool (P.eat x s).1) ∧ (∃ j, PAt w' b ts r cap j (P.eat x s).2) ∧ Fr b w w' := by
  obtain ⟨c0, c1, c2, c3, f0, f1, f2, f3⟩ := h.blk.c4
  have hb := h.blk.lt
  have hfe := fault_eql s.err s.line s.col 0 0 0
  by_cases h0 : s.err = 0
  · obtain ⟨l0, k0⟩ := h.ok h0
    rw [h0, l0, k0] at hfe
    rw [h0] at c1
    rw [l0] at c2
    rw [k0] at c3
    have hfe' : ∀ W, (binOp .eql 34 (.agg #[.int .i64 0, .int .i64 0, .int .i64 0]) (.agg #[.int .i64 0, .int .i64 0, .int .i64 0])).run Tryd.prog W = .ok (.bool true) W := hfe
    clear hfe l0 k0
    have his := is_any h hl hc x
    cases ho : on x s with
    | true =>
      have he : P.eat x s = (true, P.next s) := by unfold P.eat; rw [if_pos ⟨h0, ho⟩]
      rw [he]
      rw [ho] at his
      go_enter Tryd.func87, Tryd.ntmps87
      go_wp2_with fail
      refine his.mono ?_
      rintro e w1 ⟨rfl, hb1⟩
      have h1 := h.below hb1
      go_wp2_with fail
      refine (next_any h1).mono ?_
      rintro e w2 ⟨rfl, hP, hF⟩
      go_wp2_with fail
      go_ret
      exact ⟨rfl, hP, (Fr.of_below hb1).trans hF⟩
    | false =>
      have he : P.eat x s = (false, s) := by unfold P.eat; rw [if_neg (fun e => by rw [ho] at e; exact Bool.false_ne_true e.2)]
      rw [he]
      rw [ho] at his
      go_enter Tryd.func87, Tryd.ntmps87
      go_wp2_with fail
      refine his.mono ?_
      rintro e w1 ⟨rfl, hb1⟩
      go_wp2_with fail
      go_ret
      exact ⟨rfl, ⟨i, h.below hb1⟩, Fr.of_below hb1⟩
  · have he : P.eat x s = (false, s) := eat_bad h0
    rw [he]
    have hn : (s.err == 0) = false := beq_eq_false_iff_ne.2 h0
    rw [hn] at hfe
    have hfe' : ∀ W, (binOp .eql 34 (.agg #[.int .i64 s.err, .int .i64 s.line, .int .i64 s.col]) (.agg #[.int .i64 0, .int .i64 0, .int .i64 0])).run Tryd.prog W = .ok (.bool false) W := hfe
    clear hfe
    go_enter Tryd.func87, Tryd.ntmps87
    go_wp2_with fail
    go_ret
    exact ⟨rfl, ⟨i, h⟩, Fr.refl b w⟩
end Go.Proofs.YtcgkfgklggjmaaaDoor.Par
end
section
namespace Go.Proofs.YtcgkfgklggjmaaaDoor.Par
set_option linter.unusedVariables false
set_option linter.unusedSimpArgs false
open Go.RowKit
/-- a day's values, as date.Parse says them -/
def dp (t : ByteArray) : Day := (pY t, pM t, pD t)
def dayV (d : Day) : Value := .agg #[.int .i64 d.1, .int .i64 d.2.1, .int .i64 d.2.2]
end Go.Proofs.YtcgkfgklggjmaaaDoor.Par
end
section
namespace Go.Proofs.YtcgkfgklggjmaaaDoor.Par
set_option linter.unusedVariables false
set_option linter.unusedSimpArgs false
open Go.RowKit
set_option maxHeartbeats 2000000 in
set_option maxRecDepth 100000 in
theorem kind_any {w : World} {b : Nat} {ts : List Tok} {r cap i : Nat} {s : St} (h : PAt w b ts r cap i s) (hl : ts.length < 9223372036854775808) (hc : cap < 9223372036854775808) (k : Int) :
    Calls Tryd.prog 50 #[.pointer (some ⟨b, 0, none⟩), .int .i64 k] w fun en w' => en = .returned (.string (P.kind k s).1) ∧ (∃ j, PAt w' b ts r cap j (P.kind k s).2) ∧ Fr b w w' := by
  have hp := peek_any h hl hc
  have hb := h.blk.lt
  by_cases hk : (peek s).kind = k
  · have he : P.kind k s = ((peek s).text, P.next s) := by unfold P.kind; rw [if_pos hk]
    rw [he]
    have hkb : ((peek s).kind != k) = false := by rw [hk]; simp
    have hnx := fun v (hv : Below w.heap.size w v) => next_any (h.below hv)
    generalize peek s = t at *
    generalize P.next s = s' at *
    unfold tokV at hp hnx
    have hfd : ∀ W, (Instr.field 102 (.agg #[.int .i64 t.kind, .string t.text, .int .i64 t.line, .int .i64 t.col]) 1).run Tryd.prog W = .ok (.string t.text) W := fun _ => by kernel_rfl
    clear hk he
    go_enter Tryd.func50, Tryd.ntmps50
    go_wp2_with fail
    refine hp.mono ?_
    rintro e w1 ⟨rfl, hb1⟩
    have kx := Blk.new w1 102 #[.int .i64 t.kind, .string t.text, .int .i64 t.line, .int .i64 t.col]
    obtain ⟨z0, z1, z2, z3, _⟩ := kx.c4
    have hbb := bl_alloc hb1 (.cells #[.int .i64 t.kind, .string t.text, .int .i64 t.line, .int .i64 t.col] 102)
    go_wp2_with fail
    refine (hnx _ hbb).mono ?_
    rintro e w2 ⟨rfl, hP, hF⟩
    go_wp2_with fail
    go_ret
    exact ⟨rfl, hP, (Fr.of_below hbb).trans hF⟩
  · have he : P.kind k s = (⟨#[]⟩, fail 4 (peek s) s) := by unfold P.kind; rw [if_neg hk]
    rw [he]
    have hkb : ((peek s).kind != k) = true := bne_iff_ne.2 hk
    have hfl := fun v (hv : Below w.heap.size w v) => fail_any (h.below hv) 4 (by decide) (peek s)
    generalize fail 4 (peek s) s = s' at *
    generalize peek s = t at *
    unfold tokV at hp hfl
    clear hk he
    go_enter Tryd.func50, Tryd.ntmps50
    go_wp2_with fail
    refine hp.mono ?_
    rintro e w1 ⟨rfl, hb1⟩
    have kx := Blk.new w1 102 #[.int .i64 t.kind, .string t.text, .int .i64 t.line, .int .i64 t.col]
    obtain ⟨z0, z1, z2, z3, _⟩ := kx.c4
    have hbb := bl_alloc hb1 (.cells #[.int .i64 t.kind, .string t.text, .int .i64 t.line, .int .i64 t.col] 102)
    go_wp2_with fail
    refine (hfl _ hbb).mono ?_
    rintro e w2 ⟨rfl, hP, hF⟩
    go_wp2_with fail
    go_ret
    exact ⟨rfl, ⟨i, hP⟩, (Fr.of_below hbb).trans hF⟩
theorem PAt.far {w : World} {b : Nat} {ts : List Tok} {r cap i : Nat} {s : St} (h : PAt w b ts r cap i s) (p : Addr) (hb : b ≠ p.block) (hr : r ≠ p.block) (u : Value) : PAt (w.setCell p u) b ts r cap i s :=
  ⟨h.blk.far hb u, ownsRow_far h.row (fun g hg => by obtain rfl : r = g := Option.some.inj hg; exact hr) u, h.ne, h.cap_, h.rest, h.lt, h.last, h.ok⟩
set_option maxHeartbeats 2000000 in
set_option maxRecDepth 100000 in
theorem day_any {w : World} {b : Nat} {ts : List Tok} {r cap i : Nat} {s : St} (h : PAt w b ts r cap i s) (hl : ts.length < 9223372036854775808) (hc : cap < 9223372036854775808) :
    Calls Tryd.prog 51 #[.pointer (some ⟨b, 0, none⟩)] w fun en w' => en = .returned (dayV (P.day dp s).1) ∧ (∃ j, PAt w' b ts r cap j (P.day dp s).2) ∧ Fr b w w' := by
  have hbl := bl_alloc (bl_refl w) (.cells #[.int .i64 0, .int .i64 0, .int .i64 0] 24)
  have hk := kind_any (h.below hbl) hl hc 4
  have hb := h.blk.lt
  have kr := Blk.new w 24 #[.int .i64 0, .int .i64 0, .int .i64 0]
  have e1 : P.day dp s = (dp (P.kind 4 s).1, (P.kind 4 s).2) := rfl
  rw [e1]
  generalize P.kind 4 s = x at *
  obtain ⟨x1, x2⟩ := x
  unfold dayV dp
  clear e1
  go_enter Tryd.func51, Tryd.ntmps51
  go_wp2_with fail
  refine hk.mono ?_
  rintro e w1 ⟨rfl, ⟨j, hP⟩, hF⟩
  have kr1 := hF.blk kr (by omega)
  go_wp2_with fail
  refine (dparse_any _ _).mono ?_
  rintro e w2 ⟨rfl, hb2⟩
  have kr2 := kr1.call hb2
  have hP2 := hP.below hb2
  have hlr := kr2.lt
  obtain ⟨r0, r1, r2, g0, g1, g2⟩ := kr2.c3
  have hr : r < w.heap.size := World.block_lt_of_cell? w _ h.tok.1
  go_wp2_with fail
  have hF2 := ((Fr.of_below (b := b) hbl).trans hF).trans (Fr.of_below hb2)
  exact bodyPost_ret (results_cell_row rfl _ _ w.heap.size _ #[.int .i64 (pY x1), .int .i64 (pM x1), .int .i64 (pD x1)] (0, 0) _ rfl ((((kr2.set_ 0 _).set_ 1 _).set_ 2 _).alloc _) Tryd.underlying24 rfl (by kernel_rfl)) rfl
    ⟨rfl, ⟨j, (((hP2.far ⟨w.heap.size, 0, none⟩ (by (try dsimp only); omega) (by (try dsimp only); omega) _).far ⟨w.heap.size, 1, none⟩ (by (try dsimp only); omega) (by (try dsimp only); omega) _).far ⟨w.heap.size, 2, none⟩ (by (try dsimp only); omega) (by (try dsimp only); omega) _).below (bl_alloc (bl_refl _) _)⟩,
      (((hF2.setNew ⟨w.heap.size, 0, none⟩ (Nat.le_refl _) _).setNew ⟨w.heap.size, 1, none⟩ (Nat.le_refl _) _).setNew ⟨w.heap.size, 2, none⟩ (Nat.le_refl _) _).trans (Fr.of_below (bl_alloc (bl_refl _) _))⟩
end Go.Proofs.YtcgkfgklggjmaaaDoor.Par
end
section
namespace Go.Proofs.YtcgkfgklggjmaaaDoor.Par
set_option linter.unusedVariables false
set_option linter.unusedSimpArgs false
open Go.RowKit
/-- the reference's parser in memory -/
structure RAt (w : World) (b : Nat) (ts : List Tok) (r cap i : Nat) (s : St) : Prop where
  blk : Blk w b 75 #[.slice (some ⟨r, 0, none⟩) ts.length cap, .int .i64 i, .int .i64 s.err, .int .i64 s.line, .int .i64 s.col]
  row : w.ownsRow 0 61 4 (.slice (some ⟨r, 0, none⟩) ts.length cap) ts.length (toksCells ts)
  ne : r ≠ b
  rest : s.rest = ts.drop i
  lt : i < ts.length
  last : ∀ t, ts.getLast? = some t → t.kind = 0
  big : ts.length < 100000
  ends : ∀ t ∈ ts, t.text.size ≤ 8192
theorem RAt.peek_at {w : World} {b : Nat} {ts : List Tok} {r cap i : Nat} {s : St} (h : RAt w b ts r cap i s) : ts[i]? = some (peek s) := by
  unfold peek
  rw [h.rest, List.getElem?_eq_getElem h.lt, List.drop_eq_getElem_cons h.lt]
  rfl
theorem RAt.tok {w : World} {b : Nat} {ts : List Tok} {r cap i : Nat} {s : St} (h : RAt w b ts r cap i s) :
    w.cell? ⟨r, i * 4, none⟩ = some (.int .i64 (peek s).kind) ∧ w.cell? ⟨r, i * 4 + 1, none⟩ = some (.string (peek s).text) ∧ w.cell? ⟨r, i * 4 + 2, none⟩ = some (.int .i64 (peek s).line) ∧ w.cell? ⟨r, i * 4 + 3, none⟩ = some (.int .i64 (peek s).col) :=
  tok_cells h.row h.peek_at rfl
theorem RAt.below {w w' : World} {b : Nat} {ts : List Tok} {r cap i : Nat} {s : St} (h : RAt w b ts r cap i s) (hb : Below w.heap.size w w') : RAt w' b ts r cap i s :=
  ⟨h.blk.call hb, own_base (ownsRow_below h.row hb) (Nat.zero_le _), h.ne, h.rest, h.lt, h.last, h.big, h.ends⟩
theorem RAt.far {w : World} {b : Nat} {ts : List Tok} {r cap i : Nat} {s : St} (h : RAt w b ts r cap i s) (p : Addr) (hb : b ≠ p.block) (hr : r ≠ p.block) (u : Value) : RAt (w.setCell p u) b ts r cap i s :=
  ⟨h.blk.far hb u, own_keep h.row (fun g hg => by obtain rfl : r = g := Option.some.inj hg; exact Below.heap_setCell _ _ _ _ hr), h.ne, h.rest, h.lt, h.last, h.big, h.ends⟩
theorem RAt.putAll {w : World} {b : Nat} {ts : List Tok} {r cap i : Nat} {s : St} (h : RAt w b ts r cap i s) {g : Nat} (hb : b ≠ g) (hr : r ≠ g) (k : Nat) (vs : List Value) : RAt (puts w g k vs) b ts r cap i s :=
  ⟨h.blk.putsFar hb k vs, own_keep h.row (fun x hx => by obtain rfl : r = x := Option.some.inj hx; exact (puts_heap vs w k).1 r hr), h.ne, h.rest, h.lt, h.last, h.big, h.ends⟩
theorem RAt.drew {w : World} {b : Nat} {ts : List Tok} {r cap i : Nat} {s : St} (h : RAt w b ts r cap i s) : RAt w.drew b ts r cap i s := ⟨h.blk, h.row, h.ne, h.rest, h.lt, h.last, h.big, h.ends⟩
theorem RAt.drewN {w : World} {b : Nat} {ts : List Tok} {r cap i : Nat} {s : St} (h : RAt w b ts r cap i s) (n : Nat) : RAt (w.drewN n) b ts r cap i s := ⟨h.blk, h.row, h.ne, h.rest, h.lt, h.last, h.big, h.ends⟩
theorem RAt.rlt {w : World} {b : Nat} {ts : List Tok} {r cap i : Nat} {s : St} (h : RAt w b ts r cap i s) : r < w.heap.size := World.block_lt_of_cell? w _ h.tok.1
theorem RAt.size {w : World} {b : Nat} {ts : List Tok} {r cap i : Nat} {s : St} (h : RAt w b ts r cap i s) : (peek s).text.size ≤ 8192 := h.ends _ (List.mem_of_getElem? h.peek_at)
theorem RAt.next {w : World} {b : Nat} {ts : List Tok} {r cap i : Nat} {s : St} (h : RAt w b ts r cap i s) (hk : (peek s).kind ≠ 0) : i + 1 < ts.length := by
  have hlt := h.lt
  rcases Nat.lt_or_ge (i + 1) ts.length with h2 | h2
  · exact h2
  · exfalso
    have hl : ts.getLast? = some (peek s) := by
      rw [List.getLast?_eq_getElem?, show ts.length - 1 = i by omega]
      exact h.peek_at
    exact hk (h.last _ hl)
/-- a step on -/
theorem RAt.step {w : World} {b : Nat} {ts : List Tok} {r cap i : Nat} {s : St} (h : RAt w b ts r cap i s) (hk : (peek s).kind ≠ 0) : RAt (w.setCell ⟨b, 1, none⟩ (.int .i64 ((i + 1 : Nat) : Int))) b ts r cap (i + 1) (drop1 s) :=
  ⟨h.blk.set_ 1 _, own_keep h.row (fun g hg => by obtain rfl : r = g := Option.some.inj hg; exact Below.heap_setCell _ _ _ _ h.ne), h.ne, by show s.rest.tail = _; rw [h.rest, List.tail_drop], h.next hk, h.last, h.big, h.ends⟩
/-- a fault -/
theorem RAt.fault {w : World} {b : Nat} {ts : List Tok} {r cap i : Nat} {s : St} (h : RAt w b ts r cap i s) (e : Int) (h0 : s.err = 0) : RAt (((w.setCell ⟨b, 2, none⟩ (.int .i64 e)).setCell ⟨b, 3, none⟩ (.int .i64 (peek s).line)).setCell ⟨b, 4, none⟩ (.int .i64 (peek s).col)) b ts r cap i (R.wrong e s) := by
  have hf : R.wrong e s = { s with err := e, line := (peek s).line, col := (peek s).col } := by unfold R.wrong Par.fail; rw [if_pos h0]
  rw [hf]
  have hrow := fun (v : World) (u : Nat) (x : Value) (hv : v.ownsRow 0 61 4 (.slice (some ⟨r, 0, none⟩) ts.length cap) ts.length (toksCells ts)) => own_keep (w' := v.setCell ⟨b, u, none⟩ x) hv (fun g hg => by obtain rfl : r = g := Option.some.inj hg; exact Below.heap_setCell _ _ _ _ h.ne)
  exact ⟨((h.blk.set_ 2 _).set_ 3 _).set_ 4 _, hrow _ 4 _ (hrow _ 3 _ (hrow _ 2 _ h.row)), h.ne, h.rest, h.lt, h.last, h.big, h.ends⟩
set_option maxHeartbeats 2000000 in
set_option maxRecDepth 100000 in
theorem wrong_any {w : World} {b : Nat} {ts : List Tok} {r cap i : Nat} {s : St} (h : RAt w b ts r cap i s) (e : Int) :
    Calls Tryd.prog 42 #[.pointer (some ⟨b, 0, none⟩), .int .i64 e] w fun en w' => en = .returned (.tuple #[]) ∧ RAt w' b ts r cap i (R.wrong e s) ∧ Fr b w w' := by
  obtain ⟨t0, t1, t2, t3⟩ := h.tok
  obtain ⟨c0, c1, c2, c3, c4, f0, f1, f2, f3, f4⟩ := h.blk.c5
  have hb := h.blk.lt
  have hr := h.rlt
  have hne := h.ne
  have hlt := h.lt
  have hbig := h.big
  have b0 : (0 : Int) ≤ (i : Int) := by omega
  have b1 : (i : Int) < (ts.length : Int) := by omega
  by_cases h0 : s.err = 0
  · have hF := h.fault e h0
    rw [h0] at c2
    generalize R.wrong e s = s' at *
    generalize peek s = t at *
    clear h0
    go_enter Tryd.func42, Tryd.ntmps42
    go_wp2_with fail
    go_region
    all_goals go_wp2_with fail
    all_goals go_region
    all_goals go_wp2_with fail
    all_goals go_end0
    exact ⟨rfl, hF.drew.drew, (((((Fr.refl b w).set ⟨b, 2, none⟩ rfl (.int .i64 e)).set ⟨b, 3, none⟩ rfl (.int .i64 t.line)).set ⟨b, 4, none⟩ rfl (.int .i64 t.col)).drew).drew⟩
  · have hn : (s.err == 0) = false := beq_eq_false_iff_ne.2 h0
    have hw : R.wrong e s = s := fail_keep h0
    rw [hw]
    go_enter Tryd.func42, Tryd.ntmps42
    go_wp2_with fail
    go_end0
    exact ⟨rfl, h, Fr.refl b w⟩
set_option maxHeartbeats 2000000 in
set_option maxRecDepth 100000 in
theorem on_any {w : World} {b : Nat} {ts : List Tok} {r cap i : Nat} {s : St} (h : RAt w b ts r cap i s) (x : ByteArray) :
    Calls Tryd.prog 109 #[.pointer (some ⟨b, 0, none⟩), .string x] w fun en w' => en = .returned (.bool (s.err == 0 && on x s)) ∧ Below w.heap.size w w' := by
  obtain ⟨t0, t1, t2, t3⟩ := h.tok
  obtain ⟨c0, c1, c2, c3, c4, f0, f1, f2, f3, f4⟩ := h.blk.c5
  have hb := h.blk.lt
  have hr := h.rlt
  have hlt := h.lt
  have hbig := h.big
  have b0 : (0 : Int) ≤ (i : Int) := by omega
  have b1 : (i : Int) < (ts.length : Int) := by omega
  have hon : on x s = (((peek s).kind == 2 || (peek s).kind == 5) && (peek s).text == x) := rfl
  rw [hon]
  clear hon
  have kz := Blk.new w 61 #[.int .i64 0, .string ⟨#[]⟩, .int .i64 0, .int .i64 0]
  obtain ⟨z0, z1, z2, z3, _⟩ := kz.c4
  generalize peek s = t at *
  have hcase : (s.err == 0) = false ∨ ((s.err == 0) = true ∧ (t.kind == 2) = true) ∨ ((s.err == 0) = true ∧ (t.kind == 2) = false ∧ (t.kind == 5) = true) ∨ ((s.err == 0) = true ∧ (t.kind == 2) = false ∧ (t.kind == 5) = false) := by
    cases (s.err == 0) <;> cases (t.kind == 2) <;> cases (t.kind == 5) <;> simp
  rcases hcase with h0 | ⟨h0, h2⟩ | ⟨h0, h2, h5⟩ | ⟨h0, h2, h5⟩
  all_goals
    go_enter Tryd.func109, Tryd.ntmps109
    go_wp2_with fail
    go_region
    all_goals go_wp2_with fail
    all_goals go_ret
    refine ⟨?_, bl_drew (bl_alloc (bl_refl w) _)⟩
  · rw [h0]; rfl
  · rw [h0, h2, ← beq_bytes]; rfl
  · rw [h0, h2, h5, ← beq_bytes]; rfl
  · rw [h0, h2, h5]; rfl
end Go.Proofs.YtcgkfgklggjmaaaDoor.Par
end
section
namespace Go.Proofs.YtcgkfgklggjmaaaDoor.Par
set_option linter.unusedVariables false
set_option linter.unusedSimpArgs false
open Go.RowKit
set_option maxHeartbeats 2000000 in
set_option maxRecDepth 100000 in
theorem take_any {w : World} {b : Nat} {ts : List Tok} {r cap i : Nat} {s : St} (h : RAt w b ts r cap i s) (x : ByteArray) :
    Calls Tryd.prog 70 #[.pointer (some ⟨b, 0, none⟩), .string x] w fun en w' => en = .returned (.bool (R.take x s).1) ∧ (∃ j, RAt w' b ts r cap j (R.take x s).2) ∧ Fr b w w' := by
  have hb := h.blk.lt
  have hlt := h.lt
  have hbig := h.big
  have hon := on_any h x
  by_cases hc : s.err = 0 ∧ on x s = true
  · have e0 : R.take x s = (true, drop1 s) := by unfold R.take; rw [if_pos hc]
    have e1 : (s.err == 0 && on x s) = true := by rw [hc.1, hc.2]; rfl
    rw [e0]
    rw [e1] at hon
    have hst := fun v (hv : Below w.heap.size w v) => (h.below hv).step (on_kind hc.2)
    have hnx := h.next (on_kind hc.2)
    clear e0 e1 hc
    go_enter Tryd.func70, Tryd.ntmps70
    go_wp2_with fail
    refine hon.mono ?_
    rintro e w1 ⟨rfl, hb1⟩
    have h1 := h.below hb1
    obtain ⟨c0, c1, c2, c3, c4, f0, f1, f2, f3, f4⟩ := h1.blk.c5
    have hbl1 := h1.blk.lt
    go_wp2_with fail
    go_ret
    refine ⟨rfl, ⟨i + 1, ?_⟩, (Fr.of_below hb1).set ⟨b, 1, none⟩ rfl _⟩
    exact hst w1 hb1
  · have e0 : R.take x s = (false, s) := by unfold R.take; rw [if_neg hc]
    have e1 : (s.err == 0 && on x s) = false := by
      cases h1 : (s.err == 0) with
      | false => rfl
      | true => cases h2 : on x s with
        | false => rfl
        | true => exact absurd ⟨by simpa using h1, h2⟩ hc
    rw [e0]
    rw [e1] at hon
    clear e0 e1 hc
    go_enter Tryd.func70, Tryd.ntmps70
    go_wp2_with fail
    refine hon.mono ?_
    rintro e w1 ⟨rfl, hb1⟩
    go_wp2_with fail
    go_ret
    exact ⟨rfl, ⟨i, h.below hb1⟩, Fr.of_below hb1⟩
set_option maxHeartbeats 2000000 in
set_option maxRecDepth 100000 in
theorem want_any {w : World} {b : Nat} {ts : List Tok} {r cap i : Nat} {s : St} (h : RAt w b ts r cap i s) (x : ByteArray) :
    Calls Tryd.prog 35 #[.pointer (some ⟨b, 0, none⟩), .string x] w fun en w' => en = .returned (.tuple #[]) ∧ (∃ j, RAt w' b ts r cap j (R.want x s)) ∧ Fr b w w' := by
  have ht := take_any h x
  unfold R.want
  generalize R.take x s = y at *
  obtain ⟨y1, y2⟩ := y
  cases y1 with
  | true =>
    rw [if_pos rfl]
    go_enter Tryd.func35, Tryd.ntmps35
    go_wp2_with fail
    refine ht.mono ?_
    rintro e w1 ⟨rfl, hP, hF⟩
    go_wp2_with fail
    go_end0
    exact ⟨rfl, hP, hF⟩
  | false =>
    rw [if_neg (fun e => Bool.false_ne_true e)]
    go_enter Tryd.func35, Tryd.ntmps35
    go_wp2_with fail
    refine ht.mono ?_
    rintro e w1 ⟨rfl, ⟨j, hP⟩, hF⟩
    go_wp2_with fail
    refine (wrong_any hP 4).mono ?_
    rintro e w2 ⟨rfl, hP2, hF2⟩
    go_wp2_with fail
    go_end0
    exact ⟨rfl, ⟨j, hP2⟩, hF.trans hF2⟩
set_option maxHeartbeats 2000000 in
set_option maxRecDepth 100000 in
theorem token_any {w : World} {b : Nat} {ts : List Tok} {r cap i : Nat} {s : St} (h : RAt w b ts r cap i s) (k : Int) (hk0 : k ≠ 0) :
    Calls Tryd.prog 36 #[.pointer (some ⟨b, 0, none⟩), .int .i64 k] w fun en w' => en = .returned (.string (R.token k s).1) ∧ (∃ j, RAt w' b ts r cap j (R.token k s).2) ∧ Fr b w w' := by
  obtain ⟨t0, t1, t2, t3⟩ := h.tok
  obtain ⟨c0, c1, c2, c3, c4, f0, f1, f2, f3, f4⟩ := h.blk.c5
  have hb := h.blk.lt
  have hr := h.rlt
  have hlt := h.lt
  have hbig := h.big
  have b0 : (0 : Int) ≤ (i : Int) := by omega
  have b1 : (i : Int) < (ts.length : Int) := by omega
  have kz := Blk.new w 61 #[.int .i64 0, .string ⟨#[]⟩, .int .i64 0, .int .i64 0]
  obtain ⟨z0, z1, z2, z3, _⟩ := kz.c4
  have hbl := bl_drew (bl_alloc (bl_refl w) (.cells #[.int .i64 (peek s).kind, .string (peek s).text, .int .i64 (peek s).line, .int .i64 (peek s).col] 61))
  have h1 := h.below hbl
  have hw := wrong_any h1 4
  by_cases hc : s.err ≠ 0 ∨ (peek s).kind ≠ k
  · have e0 : R.token k s = (⟨#[]⟩, R.wrong 4 s) := by unfold R.token; rw [if_pos hc]
    rw [e0]
    have hcase : (s.err != 0) = true ∨ ((s.err != 0) = false ∧ ((peek s).kind != k) = true) := by
      by_cases h0 : s.err = 0
      · right
        rw [h0]
        exact ⟨rfl, bne_iff_ne.2 (hc.resolve_left (fun e => e h0))⟩
      · left; exact bne_iff_ne.2 h0
    generalize R.wrong 4 s = s' at *
    generalize peek s = t at *
    clear e0 hc
    rcases hcase with g0 | ⟨g0, g1⟩
    all_goals
      go_enter Tryd.func36, Tryd.ntmps36
      go_wp2_with fail
      go_region
      go_wp2_with fail
      refine hw.mono ?_
      rintro e w1 ⟨rfl, hP, hF⟩
      go_wp2_with fail
      go_ret
      exact ⟨rfl, ⟨i, hP⟩, (Fr.of_below hbl).trans hF⟩
  · have hc1 : s.err = 0 := Classical.byContradiction fun e => hc (.inl e)
    have hc2 : (peek s).kind = k := Classical.byContradiction fun e => hc (.inr e)
    have e0 : R.token k s = ((peek s).text, drop1 s) := by unfold R.token; rw [if_neg hc]
    rw [e0]
    have g0 : (s.err != 0) = false := by rw [hc1]; rfl
    have g1 : ((peek s).kind != k) = false := by rw [hc2]; simp
    have hst := ((h.step (by rw [hc2]; exact hk0)).below (bl_alloc (bl_refl _) (.cells #[.int .i64 (peek s).kind, .string (peek s).text, .int .i64 (peek s).line, .int .i64 (peek s).col] 61))).drew
    generalize peek s = t at *
    clear e0 hc hc1 hc2
    go_enter Tryd.func36, Tryd.ntmps36
    go_wp2_with fail
    go_region
    go_wp2_with fail
    go_ret
    exact ⟨rfl, ⟨i + 1, hst⟩, (((Fr.refl b w).set ⟨b, 1, none⟩ rfl _).trans (Fr.of_below (bl_alloc (bl_refl _) _))).drew⟩
end Go.Proofs.YtcgkfgklggjmaaaDoor.Par
end
section
namespace Go.Proofs.YtcgkfgklggjmaaaDoor.Par
set_option linter.unusedVariables false
set_option linter.unusedSimpArgs false
open Go.RowKit
def strF (s : ByteArray) : List Value := [.string s]
theorem strF_len (s : ByteArray) : (strF s).length = 1 := rfl
theorem strs_blk {w : World} {g n c : Nat} {cs : Array Value} {ws : List ByteArray} (h : Blk w g 9 cs) (hc : cs.toList = ws.flatMap strF) (hn : ws.length = n) (hcc : cs.size = c) (hnc : n ≤ c) (hm : c ≤ maxLen) : Lies strF 9 1 w (.slice (some ⟨g, 0, none⟩) n c) ws := by
  subst hn
  refine ⟨by rw [flat_len strF_len], .inr ⟨g, c, cs, rfl, Nat.zero_le _, h, hnc, hm, by omega, ?_⟩⟩
  rw [hc]
  apply List.take_of_length_le
  rw [flat_len strF_len]
  omega
theorem Fr.lies {α : Type} {f : α → List Value} {e : TypeId} {k b : Nat} {w w' : World} {v : Value} {l : List α} (h : Fr b w w') (hl : Lies f e k w v l) (hb : v.ownBlock ≠ some b) : Lies f e k w' v l :=
  hl.keep fun g hg => h.block g (hl.lt g hg).2 (fun e => hb (by rw [hg, e]))
theorem one_drop (w : ByteArray) (ws : List ByteArray) (i : Int) (s : St) (h : (R.take w s).1 = false) : R.one (w :: ws) i s = R.one ws (i + 1) s := by
  rw [R.one, if_neg (by rw [h]; exact Bool.false_ne_true), take_no h]
set_option maxHeartbeats 2000000 in
set_option maxRecDepth 100000 in
theorem one_any {w : World} {b : Nat} {ts : List Tok} {r cap i : Nat} {s : St} (h : RAt w b ts r cap i s) (g c : Nat) (ws : List ByteArray) (hg : g ≠ b) (hl : Lies strF 9 1 w (.slice (some ⟨g, 0, none⟩) ws.length c) ws) (h0 : ws ≠ []) :
    Calls Tryd.prog 38 #[.pointer (some ⟨b, 0, none⟩), .slice (some ⟨g, 0, none⟩) ws.length c] w fun en w' => en = .returned (.int .i64 (R.one ws 0 s).1) ∧ (∃ j, RAt w' b ts r cap j (R.one ws 0 s).2) ∧ Fr b w w' := by
  have hcm : ws.length ≤ c ∧ c ≤ maxLen := by
    obtain ⟨_, h2, h3, _⟩ := hl.ends
    exact ⟨h2, h3⟩
  obtain ⟨hc1, hc2⟩ := hcm
  unfold maxLen at hc2
  obtain ⟨R0, hR0⟩ : ∃ R0, R0 = R.one ws 0 s := ⟨_, rfl⟩
  rw [← hR0]
  have HR := Lib.hid (show R.one (ws.drop 0) ((0 : Nat) : Int) s = R0 from hR0.symm)
  clear hR0
  go_enter Tryd.func38, Tryd.ntmps38
  go_wp2_with fail
  go_loopw [9] (fun v9 wr => ∃ k j : Nat, k ≤ ws.length ∧ v9 = .int .i64 k ∧ RAt wr b ts r cap j s ∧ Fr b w wr ∧ Hid (R.one (ws.drop k) (k : Int) s = R0)) (fun v9 _ => ws.length - (intOf v9).toNat)
  case atStart => exact ⟨0, i, Nat.zero_le _, rfl, h, Fr.refl b w, HR⟩
  case round =>
    obtain ⟨k, j, hk, rfl, hP, hF, HK⟩ := hrel
    by_cases hlt : k < ws.length
    · have hl1 := hF.lies hl (by intro e; exact hg (Option.some.inj e))
      obtain ⟨x, hx⟩ : ∃ x, ws[k]? = some x := ⟨_, List.getElem?_eq_getElem hlt⟩
      have hcell := hl1.at strF_len hx (j := 0) (u := .string x) rfl
      rw [Nat.mul_one, Nat.add_zero] at hcell
      have hgl := World.block_lt_of_cell? wr _ hcell
      have hdr : ws.drop k = x :: ws.drop (k + 1) := by
        rw [List.drop_eq_getElem_cons hlt]
        congr 1
        rw [List.getElem?_eq_getElem hlt] at hx
        exact Option.some.inj hx
      have b0 : (0 : Int) ≤ (k : Int) := by omega
      have b1 : (k : Int) < (ws.length : Int) := by omega
      have ht := take_any hP x
      have HD := Lib.hid hdr
      have HX := Lib.hid hx
      clear hdr hx
      cases hc : (R.take x s).1 with
      | true =>
        have h2 : R0 = ((k : Int), (R.take x s).2) := by rw [← HK.out, HD.out, R.one, if_pos hc]
        rw [hc] at ht
        clear HK HR
        subst h2
        go_wp2_with (go_at_call 70; refine ht.mono ?_; rintro e w1 ⟨rfl, hP1, hF1⟩)
        go_ret
        exact ⟨rfl, hP1, hF.trans hF1⟩
      | false =>
        have h2 : R.one (ws.drop (k + 1)) (((k + 1 : Nat)) : Int) s = R0 := by
          rw [← HK.out, HD.out, one_drop _ _ _ _ hc]; rfl
        have H2 := Lib.hid h2
        rw [hc, take_no hc] at ht
        clear HK HR h2 hc
        go_wp2_with (go_at_call 70; refine ht.mono ?_; rintro e w1 ⟨rfl, hP1, hF1⟩)
        go_roundw
        case rel =>
          obtain ⟨j1, hP1⟩ := hP1
          exact ⟨k + 1, j1, by omega, by go_num, hP1, hF.trans hF1, H2⟩
        case measure => simp [intOf]; omega
    · obtain rfl : k = ws.length := by omega
      have h2 : R0 = (-1, s) := by rw [← HK.out, List.drop_length]; rfl
      clear HK HR
      subst h2
      go_wp2_with fail
      go_ret
      exact ⟨rfl, ⟨j, hP⟩, hF⟩
end Go.Proofs.YtcgkfgklggjmaaaDoor.Par
end
section
namespace Go.Proofs.YtcgkfgklggjmaaaDoor.Par
set_option linter.unusedVariables false
set_option linter.unusedSimpArgs false
open Go.RowKit
set_option maxHeartbeats 2000000 in
set_option maxRecDepth 100000 in
theorem rmode_any {w : World} {b : Nat} {ts : List Tok} {r cap i : Nat} {s : St} (h : RAt w b ts r cap i s) :
    Calls Tryd.prog 73 #[.pointer (some ⟨b, 0, none⟩)] w fun en w' => en = .returned (.int .i64 (R.mode s).1) ∧ (∃ j, RAt w' b ts r cap j (R.mode s).2) ∧ Fr b w w' := by
  have hbl := bl_alloc (bl_refl w) (.cells #[.string wFloor, .string wCeil, .string wHalfup, .string wHalfeven] 9)
  have hb := h.blk.lt
  have ho := one_any (h.below hbl) w.heap.size 4 [wFloor, wCeil, wHalfup, wHalfeven] (by omega) (strs_blk (Blk.new w _ _) rfl rfl rfl (Nat.le_refl _) (by decide)) (by simp)
  have hrg := one_range [wFloor, wCeil, wHalfup, wHalfeven] 0 s
  rw [← rone_eq] at hrg
  unfold R.mode
  generalize R.one [wFloor, wCeil, wHalfup, wHalfeven] 0 s = o at *
  obtain ⟨o1, o2⟩ := o
  simp only [List.length_cons, List.length_nil] at ho hrg
  by_cases hn : o1 < 0
  · have hm : max o1 0 = 0 := by omega
    simp only [if_pos hn]
    go_enter Tryd.func73, Tryd.ntmps73
    go_wp2_with fail
    refine ho.mono ?_
    rintro e w1 ⟨rfl, ⟨j, hP⟩, hF⟩
    go_wp2_with fail
    refine (wrong_any hP 4).mono ?_
    rintro e w2 ⟨rfl, hP2, hF2⟩
    go_wp2_with fail
    go_ret
    exact ⟨by rw [hm]; rfl, ⟨j, hP2⟩, ((Fr.of_below hbl).trans hF).trans hF2⟩
  · have hm : max o1 0 = o1 := by omega
    simp only [if_neg hn]
    go_enter Tryd.func73, Tryd.ntmps73
    go_wp2_with fail
    refine ho.mono ?_
    rintro e w1 ⟨rfl, ⟨j, hP⟩, hF⟩
    go_wp2_with fail
    go_ret
    exact ⟨by rw [hm]; rfl, ⟨j, hP⟩, (Fr.of_below hbl).trans hF⟩
set_option maxHeartbeats 2000000 in
set_option maxRecDepth 100000 in
theorem rday_any {w : World} {b : Nat} {ts : List Tok} {r cap i : Nat} {s : St} (h : RAt w b ts r cap i s) :
    Calls Tryd.prog 37 #[.pointer (some ⟨b, 0, none⟩)] w fun en w' => en = .returned (dayV (R.day dp s).1) ∧ (∃ j, RAt w' b ts r cap j (R.day dp s).2) ∧ Fr b w w' := by
  have hbl := bl_alloc (bl_refl w) (.cells #[.int .i64 0, .int .i64 0, .int .i64 0] 24)
  have hk := token_any (h.below hbl) 4 (by decide)
  have hb := h.blk.lt
  have kr := Blk.new w 24 #[.int .i64 0, .int .i64 0, .int .i64 0]
  have e1 : R.day dp s = (dp (R.token 4 s).1, (R.token 4 s).2) := rfl
  rw [e1]
  generalize R.token 4 s = x at *
  obtain ⟨x1, x2⟩ := x
  unfold dayV dp
  clear e1
  go_enter Tryd.func37, Tryd.ntmps37
  go_wp2_with fail
  refine hk.mono ?_
  rintro e w1 ⟨rfl, ⟨j, hP⟩, hF⟩
  have kr1 := hF.blk kr (by omega)
  go_wp2_with fail
  refine (rparse_any _ _).mono ?_
  rintro e w2 ⟨rfl, hb2⟩
  have kr2 := kr1.call hb2
  have hP2 := hP.below hb2
  have hlr := kr2.lt
  obtain ⟨r0, r1, r2, g0, g1, g2⟩ := kr2.c3
  have hr := h.rlt
  go_wp2_with fail
  have hF2 := ((Fr.of_below (b := b) hbl).trans hF).trans (Fr.of_below hb2)
  exact bodyPost_ret (results_cell_row rfl _ _ w.heap.size _ #[.int .i64 (pY x1), .int .i64 (pM x1), .int .i64 (pD x1)] (0, 0) _ rfl ((((kr2.set_ 0 _).set_ 1 _).set_ 2 _).alloc _) Tryd.underlying24 rfl (by kernel_rfl)) rfl
    ⟨rfl, ⟨j, (((hP2.far ⟨w.heap.size, 0, none⟩ (by (try dsimp only); omega) (by (try dsimp only); omega) _).far ⟨w.heap.size, 1, none⟩ (by (try dsimp only); omega) (by (try dsimp only); omega) _).far ⟨w.heap.size, 2, none⟩ (by (try dsimp only); omega) (by (try dsimp only); omega) _).below (bl_alloc (bl_refl _) _)⟩,
      (((hF2.setNew ⟨w.heap.size, 0, none⟩ (Nat.le_refl _) _).setNew ⟨w.heap.size, 1, none⟩ (Nat.le_refl _) _).setNew ⟨w.heap.size, 2, none⟩ (Nat.le_refl _) _).trans (Fr.of_below (bl_alloc (bl_refl _) _))⟩
end Go.Proofs.YtcgkfgklggjmaaaDoor.Par
end
section
namespace Go.Proofs.YtcgkfgklggjmaaaDoor.Par
set_option linter.unusedVariables false
set_option linter.unusedSimpArgs false
open Go.RowKit
def winC (x : Win) : List Value := [.bool x.has, .int .i64 x.from_.1, .int .i64 x.from_.2.1, .int .i64 x.from_.2.2, .int .i64 x.to_.1, .int .i64 x.to_.2.1, .int .i64 x.to_.2.2]
def winV (x : Win) : Value := .agg #[.bool x.has, .int .i64 x.from_.1, .int .i64 x.from_.2.1, .int .i64 x.from_.2.2, .int .i64 x.to_.1, .int .i64 x.to_.2.1, .int .i64 x.to_.2.2]
set_option maxHeartbeats 4000000 in
set_option maxRecDepth 100000 in
theorem rwindow_any {w : World} {b : Nat} {ts : List Tok} {r cap i : Nat} {s : St} (h : RAt w b ts r cap i s) :
    Calls Tryd.prog 40 #[.pointer (some ⟨b, 0, none⟩)] w fun en w' => en = .returned (winV (R.window dp s).1) ∧ (∃ j, RAt w' b ts r cap j (R.window dp s).2) ∧ Fr b w w' := by
  have hbl := bl_alloc (bl_refl w) (.cells #[.bool false, .int .i64 0, .int .i64 0, .int .i64 0, .int .i64 0, .int .i64 0, .int .i64 0] 46)
  have ht := take_any (h.below hbl) wFrom
  have hb := h.blk.lt
  have hr := h.rlt
  have kr := Blk.new w 46 #[.bool false, .int .i64 0, .int .i64 0, .int .i64 0, .int .i64 0, .int .i64 0, .int .i64 0]
  unfold R.window
  simp only
  generalize R.take wFrom s = x at *
  obtain ⟨x1, x2⟩ := x
  cases x1 with
  | false =>
    simp only [Bool.false_eq_true, if_false]
    go_enter Tryd.func40, Tryd.ntmps40
    go_wp2_with fail
    refine ht.mono ?_
    rintro e w1 ⟨rfl, ⟨j, hP⟩, hF⟩
    have kr1 := hF.blk kr (by omega)
    have hF1 := (Fr.of_below (b := b) hbl).trans hF
    obtain ⟨d0, d1, d2, d3, d4, d5, d6, g0, g1, g2, g3, g4, g5, g6⟩ := kr1.c7
    have hlr := kr1.lt
    go_wp2_with fail
    exact bodyPost_ret (results_cell_row rfl _ _ w.heap.size _ #[.bool false, .int .i64 0, .int .i64 0, .int .i64 0, .int .i64 0, .int .i64 0, .int .i64 0] (0, 0) _ rfl (kr1.putAll [_, _, _, _, _, _, _] 0) Tryd.underlying46 rfl (by kernel_rfl)) rfl
      ⟨rfl, ⟨j, hP.putAll (by omega) (by omega) 0 [_, _, _, _, _, _, _]⟩, hF1.putsNew (Nat.le_refl _) 0 [_, _, _, _, _, _, _]⟩
  | true =>
    simp only [if_true]
    have hd := fun v i (h : RAt v b ts r cap i x2) => rday_any h
    generalize R.day dp x2 = y at *
    obtain ⟨y1, y2⟩ := y
    have hw := fun v i (h : RAt v b ts r cap i y2) => want_any h wTo
    generalize R.want wTo y2 = s3 at *
    have hd4 := fun v i (h : RAt v b ts r cap i s3) => rday_any h
    generalize R.day dp s3 = z at *
    obtain ⟨z1, z2⟩ := z
    unfold dayV at hd hd4
    go_enter Tryd.func40, Tryd.ntmps40
    go_wp2_with fail
    refine ht.mono ?_
    rintro e w1 ⟨rfl, ⟨j, hP⟩, hF⟩
    have kr1 := hF.blk kr (by omega)
    have hF1 := (Fr.of_below (b := b) hbl).trans hF
    go_wp2_with fail
    refine (hd _ _ hP).mono ?_
    rintro e w2 ⟨rfl, ⟨j2, hP2⟩, hF2⟩
    have kr2 := hF2.blk kr1 (by omega)
    have hF02 := hF1.trans hF2
    have kf := Blk.new w2 24 #[.int .i64 y1.1, .int .i64 y1.2.1, .int .i64 y1.2.2]
    have hbl2 := bl_alloc (bl_refl w2) (.cells #[.int .i64 y1.1, .int .i64 y1.2.1, .int .i64 y1.2.2] 24)
    have kr3 := kr2.call hbl2
    have hP3 := hP2.below hbl2
    have hl2 := kr2.lt
    have hbb2 := hP2.blk.lt
    have hrr2 := hP2.rlt
    go_wp2_with fail
    refine (hw _ _ hP3).mono ?_
    rintro e w4 ⟨rfl, ⟨j4, hP4⟩, hF4⟩
    have kf4 := hF4.blk kf (by omega)
    have kr4 := hF4.blk kr3 (by omega)
    have hF04 := (hF02.trans (Fr.of_below hbl2)).trans hF4
    obtain ⟨f0, f1, f2, _⟩ := kf4.c3
    have hlf := kf4.lt
    obtain ⟨d0, d1, d2, d3, d4, d5, d6, g0, g1, g2, g3, g4, g5, g6⟩ := kr4.c7
    have hlr := kr4.lt
    go_wp2_with fail
    go_region_with (go_at_call 37; refine (hd4 _ _ hP4.drew).mono ?_; rintro e w5 ⟨rfl, ⟨j5, hP5⟩, hF5⟩; (have kf5 := hF5.blk kf4.drew (by omega)); (have kr5 := hF5.blk kr4.drew (by omega)); obtain ⟨f50, f51, f52, _⟩ := kf5.c3; obtain ⟨d50, d51, d52, d53, d54, d55, d56, g50, g51, g52, g53, g54, g55, g56⟩ := kr5.c7)
    all_goals
      go_wp2_with fail
      exact bodyPost_ret (results_cell_row rfl _ _ w.heap.size _ #[.bool true, .int .i64 y1.1, .int .i64 y1.2.1, .int .i64 y1.2.2, .int .i64 z1.1, .int .i64 z1.2.1, .int .i64 z1.2.2] (0, 0) _ rfl (kr5.putAll [_, _, _, _, _, _, _] 0) Tryd.underlying46 rfl (by kernel_rfl)) rfl
        ⟨rfl, ⟨j5, hP5.putAll (g := w.heap.size) (by omega) (by omega) 0 [_, _, _, _, _, _, _]⟩, (hF04.trans (hF5.ofDrew)).putsNew (Nat.le_refl _) 0 [_, _, _, _, _, _, _]⟩
end Go.Proofs.YtcgkfgklggjmaaaDoor.Par
end
section
namespace Go.Proofs.YtcgkfgklggjmaaaDoor.Dec
set_option linter.unusedVariables false
set_option linter.unusedSimpArgs false
/-! numbers with a point: what a text is -/
def isDig (c : UInt8) : Bool := decide (48 ≤ c.toNat ∧ c.toNat ≤ 57)
theorem dig_of {c : UInt8} (h : isDig c = true) : 48 ≤ c.toNat ∧ c.toNat ≤ 57 := of_decide_eq_true h
theorem dig_not46 : isDig 46 = false := by decide
theorem cut_spec (l : List UInt8) : (Lib.cut l [46] = (l, [], false) ∧ (46 : UInt8) ∉ l) ∨ ∃ a b, l = a ++ 46 :: b ∧ (46 : UInt8) ∉ a ∧ Lib.cut l [46] = (a, b, true) := by
  have he := Lib.index_one l 46
  unfold Lib.cut
  rw [he]
  have hge := Lib.indexByte_ge l 46
  by_cases h : Lib.indexByte l 46 = -1
  · left
    rw [h, if_neg (by omega)]
    refine ⟨rfl, fun hm => ?_⟩
    obtain ⟨k, hk, hk2⟩ := List.getElem_of_mem hm
    exact Lib.indexByte_none h k (by rw [List.getElem?_eq_getElem hk, hk2])
  · right
    obtain ⟨o, ho⟩ : ∃ o : Nat, Lib.indexByte l 46 = o := ⟨(Lib.indexByte l 46).toNat, by omega⟩
    obtain ⟨h1, h2⟩ := Lib.indexByte_some ho
    obtain ⟨hlt, h3⟩ := List.getElem?_eq_some_iff.1 h1
    refine ⟨l.take o, l.drop (o + 1), ?_, ?_, ?_⟩
    · rw [← h3, ← List.drop_eq_getElem_cons hlt, List.take_append_drop]
    · intro hm
      obtain ⟨k, hk, e⟩ := List.getElem_of_mem hm
      rw [List.length_take] at hk
      rw [List.getElem_take] at e
      exact h2 k (by omega) (by rw [List.getElem?_eq_getElem (by omega), e])
    · rw [ho, if_pos (by omega)]
      simp
def digitsB (l : List UInt8) : Bool := l.all isDig && !l.isEmpty
def leadB (l : List UInt8) : Bool := decide (1 < l.length) && (l.headD 0 == 48)
def formW (a b : List UInt8) (p : Bool) : Int := if !digitsB a || leadB a then 0 else if !p then 1 else if digitsB b then 2 else 0
def formL (l : List UInt8) : Int := formW (Lib.cut l [46]).1 (Lib.cut l [46]).2.1 (Lib.cut l [46]).2.2
theorem all_none {l : List UInt8} (h : l.all isDig = true) : (46 : UInt8) ∉ l := fun hm => by
  have := List.all_eq_true.1 h 46 hm
  simp [dig_not46] at this
/-! the reference's view: bytes one by one -/
theorem form_bad {l : List UInt8} {c : UInt8} (hm : c ∈ l) (h1 : isDig c = false) (h2 : c ≠ 46) : formL l = 0 := by
  unfold formL formW
  rcases cut_spec l with ⟨e, _⟩ | ⟨a, b, rfl, ha, e⟩
  · have : l.all isDig = false := by
      rw [Bool.eq_false_iff]; intro h
      rw [List.all_eq_true.1 h c hm] at h1; cases h1
    simp [e, digitsB, this]
  · rw [e]
    rcases List.mem_append.1 hm with h | h
    · have : a.all isDig = false := by
        rw [Bool.eq_false_iff]; intro h'
        rw [List.all_eq_true.1 h' c h] at h1; cases h1
      simp [digitsB, this]
    · rcases List.mem_cons.1 h with h | h
      · exact absurd h h2
      · have : b.all isDig = false := by
          rw [Bool.eq_false_iff]; intro h'
          rw [List.all_eq_true.1 h' c h] at h1; cases h1
        simp [digitsB, this]
/-- a second point, or one at the end -/
theorem form_two {a b : List UInt8} (h : (46 : UInt8) ∈ a ∨ b = []) : formL (a ++ 46 :: b) = 0 := by
  unfold formL formW
  rcases cut_spec (a ++ 46 :: b) with ⟨e, hn⟩ | ⟨a', b', e', ha, e⟩
  · exact absurd (by simp) hn
  · rw [e]
    have hb : digitsB b' = false := by
      rcases List.append_eq_append_iff.1 e' with ⟨c, h1, h2⟩ | ⟨c, h1, h2⟩
      · -- a' = a ++ c, 46 :: b = c ++ 46 :: b'
        cases c with
        | nil =>
          simp at h1 h2
          subst h1 h2
          rcases h with h | h
          · exact absurd h ha
          · simp [digitsB, h]
        | cons x c =>
          simp at h2
          rw [h1, ← h2.1] at ha
          exact absurd (by simp) ha
      · -- a = a' ++ c, 46 :: b' = c ++ 46 :: b
        cases c with
        | nil =>
          simp at h1 h2
          subst h1 h2
          rcases h with h | h
          · exact absurd h ha
          · simp [digitsB, h]
        | cons x c =>
          simp at h2
          rw [h2.2]
          have : (c ++ 46 :: b).all isDig = false := by
            rw [Bool.eq_false_iff]; intro h'
            exact all_none h' (by simp)
          simp only [digitsB, this, Bool.false_and]
    simp [hb]
theorem form_head {l : List UInt8} (h : l = [] ∨ isDig (l.headD 0) = false) : formL l = 0 := by
  unfold formL formW
  rcases cut_spec l with ⟨e, _⟩ | ⟨a, b, rfl, ha, e⟩
  · have : digitsB l = false := by
      cases l with
      | nil => rfl
      | cons c l =>
        rcases h with h | h
        · cases h
        · have h : isDig c = false := h
          simp [digitsB, h]
    simp [e, this]
  · have : digitsB a = false := by
      cases a with
      | nil => rfl
      | cons c a =>
        rcases h with h | h
        · simp at h
        · have h : isDig c = false := h
          simp [digitsB, h]
    simp [e, this]
theorem form_whole {l : List UInt8} (h : l.all isDig = true) (hne : l ≠ []) : formL l = if leadB l then 0 else 1 := by
  unfold formL formW
  rcases cut_spec l with ⟨e, _⟩ | ⟨a, b, e', ha, e⟩
  · have hd : digitsB l = true := by simp [digitsB, h, hne]
    rw [e]
    cases leadB l <;> simp [hd]
  · exact absurd (by rw [e']; simp) (all_none h)
theorem form_point {a b : List UInt8} (h : a.all isDig = true) (hne : a ≠ []) (hb : b.all isDig = true) (hbe : b ≠ []) : formL (a ++ 46 :: b) = if leadB a then 0 else 2 := by
  unfold formL formW
  rcases cut_spec (a ++ 46 :: b) with ⟨e, hn⟩ | ⟨a', b', e', ha, e⟩
  · exact absurd (by simp) hn
  · rw [e]
    have : a = a' ∧ b = b' := by
      rcases List.append_eq_append_iff.1 e' with ⟨c, h1, h2⟩ | ⟨c, h1, h2⟩
      · cases c with
        | nil => simp at h1 h2; exact ⟨h1.symm, h2⟩
        | cons x c => simp at h2; rw [h1, ← h2.1] at ha; exact absurd (by simp) ha
      · cases c with
        | nil => simp at h1 h2; exact ⟨h1, h2.symm⟩
        | cons x c => simp at h2; rw [h1, ← h2.1] at h; exact absurd (by simp) (all_none h)
    obtain ⟨rfl, rfl⟩ := this
    have hd : digitsB a = true := by simp [digitsB, h, hne]
    have hd' : digitsB b = true := by simp [digitsB, hb, hbe]
    cases leadB a <;> simp [hd, hd']
/-! a number of digits -/
def valN (acc : Nat) (l : List UInt8) : Nat := l.foldl (fun n c => n * 10 + (c.toNat - 48)) acc
theorem valN_ge : ∀ (l : List UInt8) (acc : Nat), acc ≤ valN acc l
  | [], acc => Nat.le_refl _
  | c :: l, acc => by
    have := valN_ge l (acc * 10 + (c.toNat - 48))
    simp only [valN, List.foldl_cons] at this ⊢
    omega
theorem valN_append (a b : List UInt8) (acc : Nat) : valN acc (a ++ b) = valN (valN acc a) b := by simp [valN]
theorem uint_val : ∀ (l : List UInt8) (acc : Nat), l.all isDig = true → acc < 18446744073709551616 → Lib.parseUint10 acc l = if valN acc l < 18446744073709551616 then .ok (valN acc l) else .range
  | [], acc, _, h => by simp [Lib.parseUint10, valN, h]
  | c :: l, acc, h, ha => by
    simp only [List.all_cons, Bool.and_eq_true] at h
    have hd := dig_of h.1
    have hg := valN_ge l (acc * 10 + (c.toNat - 48))
    have e : valN acc (c :: l) = valN (acc * 10 + (c.toNat - 48)) l := rfl
    unfold Lib.parseUint10
    rw [if_pos hd, e]
    by_cases h1 : 1844674407370955162 ≤ acc
    · rw [if_pos h1, if_neg (by omega)]
    · rw [if_neg h1]
      by_cases h2 : 18446744073709551616 ≤ acc * 10 + (c.toNat - 48)
      · rw [if_pos h2, if_neg (by omega)]
      · rw [if_neg h2, uint_val l _ h.2 (by omega)]
theorem atoi_val {l : List UInt8} (h : l.all isDig = true) (hne : l ≠ []) : Lib.atoiAll l = if valN 0 l < 9223372036854775808 then .ok (valN 0 l : Int) else .range := by
  cases l with
  | nil => exact absurd rfl hne
  | cons c r =>
    have h' := h
    simp only [List.all_cons, Bool.and_eq_true] at h
    have hd := dig_of h.1
    rw [Lib.atoiAll_plain c r (by omega) (by omega)]
    unfold Lib.signless
    unfold Lib.parseMag
    rw [if_neg (by simp), uint_val _ 0 h' (by omega)]
    by_cases h3 : valN 0 (c :: r) < 18446744073709551616
    · rw [if_pos h3]
      by_cases h4 : valN 0 (c :: r) < 9223372036854775808
      · simp only [if_pos h4, if_neg (show ¬ 9223372036854775808 ≤ valN 0 (c :: r) by omega)]
      · simp only [if_neg h4, if_pos (show 9223372036854775808 ≤ valN 0 (c :: r) by omega)]
    · rw [if_neg h3, if_neg (by omega)]
end Go.Proofs.YtcgkfgklggjmaaaDoor.Dec
end
section
namespace Go.Proofs.YtcgkfgklggjmaaaDoor.Dec
set_option linter.unusedVariables false
set_option linter.unusedSimpArgs false
/-! the text of a number, and what a text is parsed to -/
def digL (n : Nat) : Nat → List UInt8
  | 0 => []
  | k + 1 => digL (n / 10) k ++ [UInt8.ofNat (48 + n % 10)]
theorem digL_len : ∀ (k n : Nat), (digL n k).length = k
  | 0, _ => rfl
  | k + 1, n => by simp [digL, digL_len k]
theorem digL_zero : ∀ k, digL 0 k = List.replicate k 48
  | 0 => rfl
  | k + 1 => by
    rw [digL, Nat.zero_div, digL_zero k, List.replicate_succ']
    rfl
theorem pad_eq : ∀ (k n : Nat), n < 10 ^ k → 1 ≤ k → (Lib.decDigits n).length ≤ k ∧ List.replicate (k - (Lib.decDigits n).length) 48 ++ Lib.decDigits n = digL n k
  | 0, _, _, h => absurd h (by omega)
  | k + 1, n, h, _ => by
    by_cases h10 : n < 10
    · rw [Lib.decDigits_one h10, digL, Nat.div_eq_of_lt h10, digL_zero, Nat.mod_eq_of_lt h10]
      exact ⟨by simp, by simp⟩
    · have hk : 1 ≤ k := by
        cases k with
        | zero => simp at h; omega
        | succ k => omega
      obtain ⟨h1, h2⟩ := pad_eq k (n / 10) (by rw [Nat.pow_succ] at h; omega) hk
      rw [Lib.decDigits, dif_neg h10, digL, ← h2]
      refine ⟨by simp; exact h1, ?_⟩
      rw [List.length_append, List.length_singleton, show k + 1 - ((Lib.decDigits (n / 10)).length + 1) = k - (Lib.decDigits (n / 10)).length from by omega, List.append_assoc]
theorem digL_top : ∀ (k n : Nat), digL n (k + 1) = UInt8.ofNat (48 + n / 10 ^ k % 10) :: digL n k
  | 0, n => by simp [digL]
  | k + 1, n => by
    rw [digL, digL_top k (n / 10), Nat.div_div_eq_div_mul, Nat.mul_comm 10 (10 ^ k), ← Nat.pow_succ]
    rfl
theorem digL_mod : ∀ (k n : Nat), digL (n % 10 ^ k) k = digL n k
  | 0, n => rfl
  | k + 1, n => by
    have e1 : n % 10 ^ (k + 1) / 10 = (n / 10) % 10 ^ k := by
      rw [Nat.pow_succ, Nat.mul_comm, Nat.mod_mul_right_div_self]
    have e2 : n % 10 ^ (k + 1) % 10 = n % 10 := by
      rw [Nat.pow_succ, Nat.mod_mul_left_mod]
    rw [digL, digL, e1, e2, digL_mod k]
theorem dig_ofNat (d : Nat) (h : d < 10) : isDig (UInt8.ofNat (48 + d)) = true ∧ (UInt8.ofNat (48 + d)).toNat = 48 + d := by
  have e : (UInt8.ofNat (48 + d)).toNat = 48 + d := by
    rw [UInt8.toNat_ofNat']; omega
  exact ⟨by simp [isDig, e]; omega, e⟩
theorem digL_all : ∀ (k n : Nat), (digL n k).all isDig = true
  | 0, _ => rfl
  | k + 1, n => by
    have h := (dig_ofNat (n % 10) (by omega)).1
    rw [digL, List.all_append, digL_all k, List.all_cons, h]
    rfl
theorem dec_all : ∀ (n : Nat), (Lib.decDigits n).all isDig = true
  | n => by
    by_cases h : n < 10
    · rw [Lib.decDigits_one h, List.all_cons, (dig_ofNat n h).1]; rfl
    · rw [Lib.decDigits, dif_neg h]
      rw [List.all_append, dec_all (n / 10), List.all_cons, (dig_ofNat (n % 10) (by omega)).1]
      rfl
theorem dec_ne (n : Nat) : Lib.decDigits n ≠ [] := by
  rw [Lib.decDigits]; split <;> simp
theorem trim_cons (c : UInt8) (l : List UInt8) : Lib.trimRightB (c :: l) 48 = if Lib.trimRightB l 48 = [] then (if c = 48 then [] else [c]) else c :: Lib.trimRightB l 48 := by
  unfold Lib.trimRightB
  rw [List.reverse_cons, List.dropWhile_append]
  by_cases h : (l.reverse.dropWhile fun x => x == 48) = []
  · have h2 : (List.dropWhile (fun x => x == 48) l.reverse).isEmpty = true := by rw [h]; rfl
    rw [if_pos h2, if_pos (by rw [h]; rfl)]
    by_cases hc : c = 48
    · simp [hc]
    · simp [hc]
  · have h2 : (List.dropWhile (fun x => x == 48) l.reverse).isEmpty = false := by
      cases hh : List.dropWhile (fun x => x == 48) l.reverse with
      | nil => exact absurd hh h
      | cons a b => rfl
    rw [if_neg (by simp [h2]), if_neg (by simpa using h)]
    simp
def fracL (n k : Nat) : List UInt8 := Lib.trimRightB (digL n k) 48
theorem frac_zero (n : Nat) : fracL n 0 = [] := rfl
theorem ofNat48 (d : Nat) (h : d < 10) : UInt8.ofNat (48 + d) = 48 ↔ d = 0 := by
  have := (dig_ofNat d h).2
  constructor
  · intro e; rw [e] at this; have : (48 : UInt8).toNat = 48 := rfl; omega
  · rintro rfl; rfl
theorem frac_succ (n k : Nat) : fracL n (k + 1) = if fracL n k = [] ∧ n / 10 ^ k % 10 = 0 then [] else UInt8.ofNat (48 + n / 10 ^ k % 10) :: fracL n k := by
  have h48 := ofNat48 (n / 10 ^ k % 10) (by omega)
  unfold fracL
  rw [digL_top, trim_cons]
  by_cases h : Lib.trimRightB (digL n k) 48 = []
  · by_cases hd : n / 10 ^ k % 10 = 0
    · rw [if_pos h, if_pos (h48.2 hd), if_pos ⟨h, hd⟩]
    · rw [if_pos h, if_neg (fun e => hd (h48.1 e)), if_neg (fun e => hd e.2), h]
  · rw [if_neg h, if_neg (fun e => h e.1)]
theorem frac_nil : ∀ (k n : Nat), fracL n k = [] ↔ n % 10 ^ k = 0
  | 0, n => by simp [frac_zero, Nat.mod_one]
  | k + 1, n => by
    have ih := frac_nil k n
    have e : n % 10 ^ (k + 1) = n % 10 ^ k + 10 ^ k * (n / 10 ^ k % 10) := by rw [Nat.pow_succ, Nat.mod_mul]
    have hp : 0 < 10 ^ k := Nat.pow_pos (by omega)
    rw [frac_succ]
    by_cases h : fracL n k = [] ∧ n / 10 ^ k % 10 = 0
    · rw [if_pos h, e, h.2, ih.1 h.1]; simp
    · rw [if_neg h, e]
      constructor
      · intro hh; cases hh
      · intro hh
        exfalso
        apply h
        have h1 : n % 10 ^ k = 0 := by omega
        have h2 : 10 ^ k * (n / 10 ^ k % 10) = 0 := by omega
        rcases Nat.mul_eq_zero.1 h2 with h3 | h3
        · omega
        · exact ⟨ih.2 h1, h3⟩
def tailL (f : List UInt8) : List UInt8 := if f = [] then [] else 46 :: f
def textN (n k : Nat) : List UInt8 := Lib.decDigits (n / 10 ^ k) ++ tailL (fracL n k)
def textL (n places : Int) : List UInt8 := if n < 0 ∨ places < 0 ∨ 9 < places then [] else textN n.toNat places.toNat
def fillL (b : List UInt8) (k : Nat) : List UInt8 := b ++ List.replicate (k - b.length) 48
def parseW (form : Int) (a b : List UInt8) (places most : Int) : Int × Int :=
  if form = 0 ∨ places < 0 ∨ 9 < places ∨ (form = 2 ∧ places = 0) then (0, 1)
  else if places < (b.length : Int) then (0, 1)
  else if 9223372036854775808 ≤ valN 0 (a ++ fillL b places.toNat) ∨ most < (valN 0 (a ++ fillL b places.toNat) : Int) then (0, 2)
  else ((valN 0 (a ++ fillL b places.toNat) : Int), 0)
def parseL (l : List UInt8) (places most : Int) : Int × Int := parseW (formL l) (Lib.cut l [46]).1 (Lib.cut l [46]).2.1 places most
end Go.Proofs.YtcgkfgklggjmaaaDoor.Dec
end
section
namespace Go.Proofs.YtcgkfgklggjmaaaDoor.Dec
set_option linter.unusedVariables false
set_option linter.unusedSimpArgs false
/-! the plain laws of a number's text -/
theorem cut_whole {l : List UInt8} (h : l.all isDig = true) : Lib.cut l [46] = (l, [], false) := by
  rcases cut_spec l with ⟨e, _⟩ | ⟨a, b, e', ha, e⟩
  · exact e
  · exact absurd (by rw [e']; simp) (all_none h)
theorem cut_point {a b : List UInt8} (h : a.all isDig = true) : Lib.cut (a ++ 46 :: b) [46] = (a, b, true) := by
  rcases cut_spec (a ++ 46 :: b) with ⟨e, hn⟩ | ⟨a', b', e', ha, e⟩
  · exact absurd (by simp) hn
  · rw [e]
    have : a = a' ∧ b = b' := by
      rcases List.append_eq_append_iff.1 e' with ⟨c, h1, h2⟩ | ⟨c, h1, h2⟩
      · cases c with
        | nil => simp at h1 h2; exact ⟨h1.symm, h2⟩
        | cons x c => simp at h2; rw [h1, ← h2.1] at ha; exact absurd (by simp) ha
      · cases c with
        | nil => simp at h1 h2; exact ⟨h1, h2.symm⟩
        | cons x c => simp at h2; rw [h1, ← h2.1] at h; exact absurd (by simp) (all_none h)
    rw [this.1, this.2]
theorem head_dec : ∀ (n : Nat), 1 ≤ n → (Lib.decDigits n).headD 0 ≠ 48
  | n, h => by
    by_cases h10 : n < 10
    · rw [Lib.decDigits_one h10]
      intro e
      have := (ofNat48 n h10).1 e
      omega
    · rw [Lib.decDigits, dif_neg h10]
      have ih := head_dec (n / 10) (by omega)
      cases hh : Lib.decDigits (n / 10) with
      | nil => exact absurd hh (dec_ne _)
      | cons c r => rw [hh] at ih; simpa using ih
theorem lead_dec (n : Nat) : leadB (Lib.decDigits n) = false := by
  unfold leadB
  by_cases h10 : n < 10
  · rw [Lib.decDigits_one h10]; rfl
  · have := head_dec n (by omega)
    simp only [Bool.and_eq_false_iff, beq_eq_false_iff_ne]
    exact .inr this
theorem trim_fill : ∀ (l : List UInt8), Lib.trimRightB l 48 ++ List.replicate (l.length - (Lib.trimRightB l 48).length) 48 = l
  | [] => rfl
  | c :: l => by
    have ih := trim_fill l
    rw [trim_cons]
    by_cases h : Lib.trimRightB l 48 = []
    · rw [h] at ih
      simp only [List.nil_append, List.length_nil, Nat.sub_zero] at ih
      by_cases hc : c = 48
      · rw [if_pos h, if_pos hc, hc]
        simp only [List.nil_append, List.length_nil, Nat.sub_zero, List.length_cons, List.replicate_succ]
        rw [ih]
      · rw [if_pos h, if_neg hc]
        simp only [List.length_cons, List.length_nil, Nat.add_sub_cancel, Nat.zero_add]
        rw [List.cons_append, List.nil_append, ih]
    · rw [if_neg h]
      simp only [List.length_cons, List.cons_append]
      rw [Nat.add_sub_add_right, ih]
theorem trim_last : ∀ (l : List UInt8) (h : Lib.trimRightB l 48 ≠ []), (Lib.trimRightB l 48).getLast h ≠ 48
  | [], h => absurd rfl h
  | c :: l, h => by
    have ih := trim_last l
    by_cases h0 : Lib.trimRightB l 48 = []
    · by_cases hc : c = 48
      · exact absurd (by rw [trim_cons, if_pos h0, if_pos hc]) h
      · have e : Lib.trimRightB (c :: l) 48 = [c] := by rw [trim_cons, if_pos h0, if_neg hc]
        simp only [e, List.getLast_singleton]
        exact hc
    · have e : Lib.trimRightB (c :: l) 48 = c :: Lib.trimRightB l 48 := by rw [trim_cons, if_neg h0]
      simp only [e, List.getLast_cons h0]
      exact ih h0
theorem frac_fill (n k : Nat) : fillL (fracL n k) k = digL n k := by
  have := trim_fill (digL n k)
  rw [digL_len] at this
  exact this
theorem frac_all (n k : Nat) : (fracL n k).all isDig = true := by
  have h := digL_all k n
  rw [← frac_fill, fillL, List.all_append, Bool.and_eq_true] at h
  exact h.1
theorem frac_len (n k : Nat) : (fracL n k).length ≤ k := by
  have h := congrArg List.length (frac_fill n k)
  rw [digL_len, fillL, List.length_append] at h
  omega
theorem val_digL : ∀ (k n acc : Nat), valN acc (digL n k) = acc * 10 ^ k + n % 10 ^ k
  | 0, n, acc => by simp [digL, valN, Nat.mod_one]
  | k + 1, n, acc => by
    rw [digL, valN_append, val_digL k]
    have hd := (dig_ofNat (n % 10) (by omega)).2
    simp only [valN, List.foldl_cons, List.foldl_nil, hd]
    have e : n % 10 ^ (k + 1) = n % 10 + 10 * (n / 10 % 10 ^ k) := by rw [Nat.pow_succ, Nat.mul_comm, Nat.mod_mul]
    rw [e, Nat.pow_succ, ← Nat.mul_assoc, Nat.add_mul]
    omega
theorem val_dec (n : Nat) : valN 0 (Lib.decDigits n) = n := by
  induction n using Nat.strongRecOn with
  | ind n ih =>
    by_cases h10 : n < 10
    · have hd := (dig_ofNat n h10).2
      rw [Lib.decDigits_one h10]
      simp only [valN, List.foldl_cons, List.foldl_nil, hd]
      omega
    · have hd := (dig_ofNat (n % 10) (by omega)).2
      rw [Lib.decDigits, dif_neg h10, valN_append, ih (n / 10) (by omega)]
      simp only [valN, List.foldl_cons, List.foldl_nil, hd]
      omega
theorem val_text (n k : Nat) : valN 0 (Lib.decDigits (n / 10 ^ k) ++ digL n k) = n := by
  rw [valN_append, val_dec, val_digL]
  have := Nat.div_add_mod n (10 ^ k)
  rw [Nat.mul_comm] at this
  exact this
theorem val_more (l : List UInt8) (k : Nat) : valN 0 (l ++ List.replicate k 48) = valN 0 l * 10 ^ k := by
  rw [valN_append]
  induction k with
  | zero => simp [valN]
  | succ k ih => rw [List.replicate_succ', valN_append, ih, Nat.pow_succ, ← Nat.mul_assoc]; simp [valN]
/-- the form of a text that begins with a number -/
theorem form_textN (n k : Nat) : formL (textN n k) = if fracL n k = [] then 1 else 2 := by
  unfold textN tailL
  by_cases h : fracL n k = []
  · rw [if_pos h, if_pos h, List.append_nil, form_whole (dec_all _) (dec_ne _), lead_dec]; rfl
  · rw [if_neg h, if_neg h, form_point (dec_all _) (dec_ne _) (frac_all n k) h, lead_dec]; rfl
/-- a number with noughts behind it -/
theorem parse_point {a b : List UInt8} (ha : a.all isDig = true) (hne : a ≠ []) (hl : leadB a = false) (hb : b.all isDig = true) (hbe : b ≠ []) (k : Nat) (most : Int) (h1 : 1 ≤ k) (h9 : k ≤ 9) :
    parseL (a ++ 46 :: b) k most = if k < b.length then (0, 1) else if 9223372036854775808 ≤ valN 0 (a ++ fillL b k) ∨ most < (valN 0 (a ++ fillL b k) : Int) then (0, 2) else ((valN 0 (a ++ fillL b k) : Int), 0) := by
  have hf : formL (a ++ 46 :: b) = 2 := by rw [form_point ha hne hb hbe, hl]; rfl
  unfold parseL parseW
  rw [cut_point ha, hf, if_neg (by omega), Int.toNat_natCast]
  by_cases h : k < b.length
  · rw [if_pos h, if_pos (by exact_mod_cast h)]
  · rw [if_neg h, if_neg (by exact_mod_cast h)]
theorem parse_back (n k : Nat) (hn : n < 9223372036854775808) (hk : k ≤ 9) : parseL (textN n k) k 9223372036854775807 = ((n : Int), 0) := by
  by_cases h : fracL n k = []
  · have ht : textN n k = Lib.decDigits (n / 10 ^ k) := by rw [textN, tailL, if_pos h, List.append_nil]
    have hf := frac_fill n k
    rw [h] at hf
    unfold parseL parseW
    rw [form_textN, if_pos h, ht, cut_whole (dec_all _), if_neg (by simp; omega), if_neg (by simp), Int.toNat_natCast]
    simp only [hf, val_text]
    rw [if_neg (by omega)]
  · rw [textN, tailL, if_neg h, parse_point (dec_all _) (dec_ne _) (lead_dec _) (frac_all n k) h k _ ?_ hk]
    · have := frac_len n k
      rw [if_neg (by omega), frac_fill, val_text, if_neg (by omega)]
    · cases k with
      | zero => exact absurd rfl h
      | succ k => omega
theorem text_last (n k : Nat) (h : fracL n k ≠ []) : ∃ hne : textN n k ≠ [], (textN n k).getLast hne ≠ 48 := by
  have e : textN n k = (Lib.decDigits (n / 10 ^ k) ++ [46]) ++ fracL n k := by rw [textN, tailL, if_neg h]; simp
  rw [e]
  refine ⟨by simp, ?_⟩
  rw [List.getLast_append_of_ne_nil _ h]
  exact trim_last _ h
/-- noughts more -/
theorem noughts (n k more : Nat) (b : List UInt8) (hn : n < 9223372036854775808) (h1 : 1 ≤ k) (h9 : k ≤ 9) (hb : (fracL n k = [] ∧ b = [48]) ∨ (fracL n k ≠ [] ∧ b = fracL n k)) :
    parseL (Lib.decDigits (n / 10 ^ k) ++ 46 :: (b ++ List.replicate more 48)) k 9223372036854775807 = if k < b.length + more then (0, 1) else ((n : Int), 0) := by
  have hball : b.all isDig = true ∧ b ≠ [] := by
    rcases hb with ⟨_, rfl⟩ | ⟨h, rfl⟩
    · exact ⟨by decide, by simp⟩
    · exact ⟨frac_all n k, h⟩
  have hz : (List.replicate more (48 : UInt8)).all isDig = true := by simp [isDig]
  rw [parse_point (dec_all _) (dec_ne _) (lead_dec _) (by rw [List.all_append, hball.1, hz]; rfl) (by simp [hball.2]) k _ h1 h9]
  rw [List.length_append, List.length_replicate]
  by_cases h : k < b.length + more
  · rw [if_pos h, if_pos h]
  · rw [if_neg h, if_neg h]
    have e : fillL (b ++ List.replicate more 48) k = digL n k := by
      rw [← frac_fill]
      unfold fillL
      rw [List.length_append, List.length_replicate, List.append_assoc, List.replicate_append_replicate, show more + (k - (b.length + more)) = k - b.length by omega]
      rcases hb with ⟨h0, rfl⟩ | ⟨h0, rfl⟩
      · rw [h0, List.nil_append, List.length_nil, Nat.sub_zero, List.length_singleton]
        rw [show ([48] : List UInt8) = List.replicate 1 48 from rfl, List.replicate_append_replicate, show 1 + (k - 1) = k by omega]
      · rfl
    rw [e, val_text, if_neg (by omega)]
/-- a place more -/
theorem places_more (l : List UInt8) (k : Nat) (hk : k ≤ 8) (most : Int) :
    ((parseL l k most) = (0, 1)) ∨ ((parseL l k most) = (0, 2) ∧ (0 ≤ most → parseL l ((k : Int) + 1) most = (0, 2))) ∨
      (∃ v : Nat, v < 9223372036854775808 ∧ (v : Int) ≤ most ∧ parseL l k most = ((v : Int), 0) ∧ parseL l ((k : Int) + 1) most = if 9223372036854775808 ≤ 10 * v ∨ most < 10 * (v : Int) then (0, 2) else (10 * (v : Int), 0)) := by
  have e : parseL l ((k : Int) + 1) most = parseL l ((k + 1 : Nat) : Int) most := by simp
  rw [e]
  unfold parseL parseW
  generalize formL l = f
  generalize (Lib.cut l [46]).1 = a
  generalize (Lib.cut l [46]).2.1 = b
  by_cases c1 : f = 0 ∨ (k : Int) < 0 ∨ 9 < (k : Int) ∨ f = 2 ∧ (k : Int) = 0
  · left; rw [if_pos c1]
  · by_cases c2 : (k : Int) < (b.length : Int)
    · left; rw [if_neg c1, if_pos c2]
    · have c1' : ¬ (f = 0 ∨ ((k + 1 : Nat) : Int) < 0 ∨ 9 < ((k + 1 : Nat) : Int) ∨ f = 2 ∧ ((k + 1 : Nat) : Int) = 0) := by omega
      have c2' : ¬ ((k + 1 : Nat) : Int) < (b.length : Int) := by omega
      right
      rw [if_neg c1, if_neg c2, if_neg c1', if_neg c2', Int.toNat_natCast, Int.toNat_natCast]
      have ev : valN 0 (a ++ fillL b (k + 1)) = 10 * valN 0 (a ++ fillL b k) := by
        unfold fillL
        rw [show k + 1 - b.length = (k - b.length) + 1 by omega, List.replicate_succ', ← List.append_assoc, ← List.append_assoc, valN_append]
        simp only [valN, List.foldl_cons, List.foldl_nil, List.append_assoc]
        have : (48 : UInt8).toNat = 48 := rfl
        omega
      rw [ev]
      generalize valN 0 (a ++ fillL b k) = v
      by_cases c3 : 9223372036854775808 ≤ v ∨ most < (v : Int)
      · left
        rw [if_pos c3]
        refine ⟨rfl, fun hm => ?_⟩
        rw [if_pos (by omega)]
      · right
        refine ⟨v, by omega, by omega, by rw [if_neg c3], ?_⟩
        push_cast
        rfl
end Go.Proofs.YtcgkfgklggjmaaaDoor.Dec
end
section
namespace Go.Proofs.YtcgkfgklggjmaaaDoor.Dec
set_option linter.unusedVariables false
set_option linter.unusedSimpArgs false
open Go.RowKit
theorem width_one (s : ByteArray) (pos : Nat) (h : pos < s.size) : ((s[pos]'h).toNat < 128 ∧ Utf8.decode s pos = ((s[pos]'h).toNat, 1)) ∨ (128 ≤ (s[pos]'h).toNat ∧ 128 ≤ (Utf8.decode s pos).1 ∧ (Utf8.decode s pos).1 ≤ 2147483647) := by
  by_cases ha : (s[pos]'h).toNat < 128
  · exact .inl ⟨ha, decode_ascii s pos h ha⟩
  · exact .inr ⟨by omega, (decode_high s pos h (by omega)).1, decode_le s pos⟩
theorem all_no (t : ByteArray) (pos : Nat) (hp : pos < t.size) (h : isDig (t[pos]'hp) = false) : t.data.toList.all isDig = false := by
  rw [List.all_eq_false]
  refine ⟨t[pos], ?_, by simp [h]⟩
  have : t[pos] = t.data.toList[pos]'(by simpa using hp) := rfl
  rw [this]
  exact List.getElem_mem _
theorem digs_no {t : ByteArray} (h : t.data.toList.all isDig = false) : digitsB t.data.toList = false := by simp only [digitsB, h, Bool.false_and]
theorem pow_bd (i : Nat) (h : i ≤ 9) : (0 : Int) ≤ ((10 ^ i : Nat) : Int) ∧ ((10 ^ i : Nat) : Int) ≤ 1000000000 := by
  have h1 : 10 ^ i ≤ 1000000000 := Nat.pow_le_pow_right (n := 10) (j := 9) (by decide) h
  exact ⟨Int.natCast_nonneg _, Int.ofNat_le.2 h1⟩
set_option maxHeartbeats 4000000 in
theorem digits_any (s : ByteArray) (w : World) :
    Calls Tryd.prog 150 #[.string s] w fun e w' => e = .returned (.bool (digitsB s.data.toList)) ∧ Below w.heap.size w w' := by
  obtain ⟨b, hb⟩ : ∃ b, digitsB s.data.toList = b := ⟨_, rfl⟩
  rw [hb]
  have HB := Lib.hid hb
  clear hb
  go_enter Tryd.func150, Tryd.ntmps150
  go_wp2_with fail
  go_loopw [7] (fun _ wi => ∃ pos : Nat, wi.heap[w.heap.size]? = some (.stringIter s pos) ∧ Below w.heap.size w wi ∧ Hid ((s.data.toList.take pos).all isDig = true) ∧ pos ≤ s.size) (fun _ wi => s.size - wi.iterPos w.heap.size)
  case atStart => exact ⟨0, World.iter_heap w s 0, bl_alloc (bl_refl w) _, by simp [Hid], Nat.zero_le _⟩
  case round =>
    obtain ⟨pos, hit, hbi, HA, hpl⟩ := hrel
    have hpos0 := iterPos_of hit
    by_cases hp : pos < s.size
    · have hnx : ∀ ty, (Instr.next (.pointer (some ⟨w.heap.size, 0, none⟩)) true ty).run Tryd.prog wr = _ := fun ty => Lib.run_next_any_at wr w.heap.size s pos ty hit hp
      have hit2 := Lib.iterAt_heap wr w.heap.size s pos (pos + (Utf8.decode s pos).2) hit
      have hbw2 := Lib.below_iterAt hbi (k := w.heap.size) (Nat.le_refl _) s (pos + (Utf8.decode s pos).2)
      have hsn := take_snoc s pos hp
      obtain ⟨W1, hW1⟩ : ∃ W1, W1 = wr.iterAt w.heap.size s (pos + (Utf8.decode s pos).2) := ⟨_, rfl⟩
      rw [← hW1] at hnx hit2 hbw2
      clear hW1 hit hbi
      have HS := Lib.hid hsn
      clear hsn
      rcases width_one s pos hp with ⟨ha, hde⟩ | ⟨ha, hde, hde2⟩
      · rw [hde] at hnx hit2
        simp only at hnx hit2
        clear hde
        have hbad := all_no s pos hp
        generalize hby : (s[pos]'hp) = by_ at *
        have hbl := by_.toNat_lt
        by_cases hg : 48 ≤ by_.toNat ∧ by_.toNat ≤ 57
        · obtain ⟨hg1, hg2⟩ := hg
          have hgi : isDig by_ = true := by simp [isDig, hg1, hg2]
          have HG := Lib.hid hgi
          clear hgi hby hbad
          go_wp2
          go_roundw
          case rel =>
            refine ⟨pos + 1, hit2, hbw2, ?_, by omega⟩
            show _ = _
            rw [HS.out]
            simp [HG.out, HA.out]
          case measure =>
            rw [iterPos_of hit2, hpos0]
            omega
        · have hnd : isDig by_ = false := by simp [isDig]; omega
          have hno : b = false := HB.out.symm.trans (digs_no (hbad hnd))
          subst hno
          clear hbad hnd
          by_cases hg1 : 48 ≤ by_.toNat
          all_goals
            go_wp2
            go_ret
            exact ⟨rfl, hbw2⟩
      · have hnd : isDig (s[pos]'hp) = false := by simp [isDig]; omega
        have hno : b = false := HB.out.symm.trans (digs_no (all_no s pos hp hnd))
        subst hno
        clear hnd
        generalize (Utf8.decode s pos).1 = rr at *
        go_wp2
        go_ret
        exact ⟨rfl, hbw2⟩
    · have hpe : pos = s.size := by omega
      have hnx : ∀ ty, (Instr.next (.pointer (some ⟨w.heap.size, 0, none⟩)) true ty).run Tryd.prog wr = _ := fun ty => Lib.run_next_end_at wr w.heap.size s pos ty hit hp
      subst hpe
      have hA : s.data.toList.all isDig = true := by have := HA.out; rwa [List.take_of_length_le (by simp)] at this
      have hres : b = !s.toList.isEmpty := by rw [← HB.out, digitsB, hA, Bool.true_and, Lib.toList_data]
      subst hres
      clear HB hA HA
      go_wp2
      go_ret
      exact ⟨rfl, hbi⟩
end Go.Proofs.YtcgkfgklggjmaaaDoor.Dec
end
section
namespace Go.Proofs.YtcgkfgklggjmaaaDoor.Dec
set_option linter.unusedVariables false
set_option linter.unusedSimpArgs false
open Go.RowKit
def GT (w : World) : Prop := Lib.TabIs Tryd.prog w "internal/strconv.uint64pow10" .u64 Lib.pow10Tab
theorem gT : Tryd.prog.globalNamed "internal/strconv.uint64pow10" = some 2 := by kernel_rfl
theorem GT.below {w v : World} (h : GT w) (hb : Below w.heap.size w v) : GT v := Go.Joins.tab_stays gT h hb (Nat.le_refl _)
theorem cell_keep {v w' : World} {p : Addr} {x : Value} (h : v.cell? p = some x) (hb : Below v.heap.size v w') : w'.cell? p = some x := (hb.cell (World.block_lt_of_cell? v _ h)).trans h
/-- what the library's variables hold -/
structure DT (w : World) : Prop where
  tab : GT w
  mx : ∃ m, w.cell? ⟨3, 0, none⟩ = some (.int .i64 m)
  er : ∃ ev, w.cell? ⟨7, 0, none⟩ = some ev ∧ (ev = .nilIface ∨ ∃ te pe, ev = .iface te pe)
theorem DT.below {w v : World} (h : DT w) (hb : Below w.heap.size w v) : DT v := by
  obtain ⟨h1, ⟨m, h2⟩, ⟨ev, h3, h4⟩⟩ := h
  exact ⟨h1.below hb, ⟨m, cell_keep h2 hb⟩, ⟨ev, cell_keep h3 hb, h4⟩⟩
theorem bl_growN {w v : World} (h : Below w.heap.size w v) (k : Nat) (os : Array Obj) : Below w.heap.size w (Go.Sort.grow (v.drewN k) os) :=
  bl_call h ⟨rfl, rfl, rfl, by simp [Go.Sort.grow], fun i hi => by
    show ((v.drewN k).heap ++ os)[i]? = _
    rw [Array.getElem?_append_left (by show i < v.heap.size; omega)]
    rfl⟩
/-- strings.Cut at a point -/
theorem cut_any (s : ByteArray) (w : World) (hT : DT w) (hs : s.size < 4294967281) :
    Calls Tryd.prog 149 #[.string s, .string ⟨#[46]⟩] w fun e w' => e = .returned (.tuple #[.string ⟨(Lib.cut s.data.toList [46]).1.toArray⟩, .string ⟨(Lib.cut s.data.toList [46]).2.1.toArray⟩, .bool (Lib.cut s.data.toList [46]).2.2]) ∧ Below w.heap.size w w' := by
  obtain ⟨m, hm⟩ := hT.mx
  refine (Tryd.strings_Cut s ⟨#[46]⟩ m w hs hm).mono ?_
  rintro e w' ⟨rfl, n, rfl⟩
  exact ⟨rfl, bl_drewN (bl_refl w) n⟩
theorem str_index (s : ByteArray) (k : Nat) (h : k < s.size) (w : World) : (Instr.index 9 (.string s) (.int .i64 k)).run Tryd.prog w = .ok (.int .u8 ((s[k]'h).toNat : Int)) w := by
  go_simp
set_option maxHeartbeats 4000000 in
theorem dof_any (s : ByteArray) (w : World) (hT : DT w) (hs : s.size < 4294967281) :
    Calls Tryd.prog 123 #[.string s] w fun e w' => e = .returned (.int .i64 (formL s.data.toList)) ∧ Below w.heap.size w w' := by
  unfold formL
  have hcut := cut_any s w hT hs
  generalize (Lib.cut s.data.toList [46]).1 = a at *
  generalize (Lib.cut s.data.toList [46]).2.1 = b at *
  generalize (Lib.cut s.data.toList [46]).2.2 = p at *
  obtain ⟨f, hf⟩ : ∃ f, formW a b p = f := ⟨_, rfl⟩
  rw [hf]
  have HF := Lib.hid hf
  clear hf
  have ea : (⟨a.toArray⟩ : ByteArray).size = a.length := by simp [ByteArray.size]
  cases da : digitsB a with
  | false =>
    have hf : f = 0 := by rw [← HF.out, formW, da]; rfl
    subst hf
    clear HF
    go_enter Tryd.func123, Tryd.ntmps123
    go_wp2_with fail
    refine hcut.mono ?_
    rintro e w1 ⟨rfl, hb1⟩
    go_wp2_with fail
    refine (digits_any _ _).mono ?_
    rintro e w2 ⟨rfl, hb2⟩
    rw [show digitsB (ByteArray.mk a.toArray).data.toList = false from da]
    go_wp2_with fail
    go_ret
    exact ⟨rfl, bl_call hb1 hb2⟩
  | true =>
    have hl : leadB a = true ∨ (leadB a = false ∧ p = false) ∨ (leadB a = false ∧ p = true ∧ digitsB b = true) ∨ (leadB a = false ∧ p = true ∧ digitsB b = false) := by
      cases leadB a <;> cases p <;> cases digitsB b <;> simp
    have hcase : (1 < a.length ∧ (a.headD 0 == 48) = true ∧ f = 0) ∨ ((a.length ≤ 1 ∨ (1 < a.length ∧ (a.headD 0 == 48) = false)) ∧ ((p = false ∧ f = 1) ∨ (p = true ∧ digitsB b = true ∧ f = 2) ∨ (p = true ∧ digitsB b = false ∧ f = 0))) := by
      rw [← HF.out, formW, da]
      unfold leadB
      by_cases h1 : 1 < a.length
      · cases h2 : (a.headD 0 == 48) <;> cases p <;> cases digitsB b <;> simp [h1, h2]
      · cases p <;> cases digitsB b <;> simp [h1] <;> omega
    clear HF hl
    have hidx : ∀ (h : 1 < a.length) w, (Instr.index 9 (.string ⟨a.toArray⟩) (.int .i64 0)).run Tryd.prog w = .ok (.int .u8 ((a.headD 0).toNat : Int)) w := by
      intro h w
      cases a with
      | nil => simp at h
      | cons c r => exact str_index (ByteArray.mk (c :: r).toArray) 0 (by rw [ea]; omega) w
    rcases hcase with ⟨h1, h2, rfl⟩ | ⟨h12 | ⟨h1, h2⟩, hf⟩
    · have hi := hidx h1
      have hl : (1 : Int) < (a.length : Int) := by omega
      have h48 : ((a.headD 0).toNat : Int) = 48 := by rw [beq_iff_eq.1 h2]; rfl
      rw [h48] at hi
      clear hidx h48 h2
      go_enter Tryd.func123, Tryd.ntmps123
      go_wp2_with fail
      refine hcut.mono ?_
      rintro e w1 ⟨rfl, hb1⟩
      go_wp2_with fail
      refine (digits_any _ _).mono ?_
      rintro e w2 ⟨rfl, hb2⟩
      rw [show digitsB (ByteArray.mk a.toArray).data.toList = true from da]
      have hb12 := bl_call hb1 hb2
      go_wp2_with fail
      go_ret
      exact ⟨rfl, hb12⟩
    · have hl : (a.length : Int) ≤ 1 := by omega
      rcases hf with ⟨rfl, rfl⟩ | ⟨rfl, db, rfl⟩ | ⟨rfl, db, rfl⟩
      · go_enter Tryd.func123, Tryd.ntmps123
        go_wp2_with fail
        refine hcut.mono ?_
        rintro e w1 ⟨rfl, hb1⟩
        go_wp2_with fail
        refine (digits_any _ _).mono ?_
        rintro e w2 ⟨rfl, hb2⟩
        rw [show digitsB (ByteArray.mk a.toArray).data.toList = true from da]
        have hb12 := bl_call hb1 hb2
        go_wp2_with fail
        go_ret
        exact ⟨rfl, hb12⟩
      · go_enter Tryd.func123, Tryd.ntmps123
        go_wp2_with fail
        refine hcut.mono ?_
        rintro e w1 ⟨rfl, hb1⟩
        go_wp2_with fail
        refine (digits_any _ _).mono ?_
        rintro e w2 ⟨rfl, hb2⟩
        rw [show digitsB (ByteArray.mk a.toArray).data.toList = true from da]
        have hb12 := bl_call hb1 hb2
        go_wp2_with fail
        refine (digits_any _ _).mono ?_
        rintro e w3 ⟨rfl, hb3⟩
        rw [show digitsB (ByteArray.mk b.toArray).data.toList = true from db]
        go_wp2_with fail
        go_ret
        exact ⟨rfl, bl_call hb12 hb3⟩
      · go_enter Tryd.func123, Tryd.ntmps123
        go_wp2_with fail
        refine hcut.mono ?_
        rintro e w1 ⟨rfl, hb1⟩
        go_wp2_with fail
        refine (digits_any _ _).mono ?_
        rintro e w2 ⟨rfl, hb2⟩
        rw [show digitsB (ByteArray.mk a.toArray).data.toList = true from da]
        have hb12 := bl_call hb1 hb2
        go_wp2_with fail
        refine (digits_any _ _).mono ?_
        rintro e w3 ⟨rfl, hb3⟩
        rw [show digitsB (ByteArray.mk b.toArray).data.toList = false from db]
        go_wp2_with fail
        go_ret
        exact ⟨rfl, bl_call hb12 hb3⟩
    · have hi := hidx h1
      have hl : (1 : Int) < (a.length : Int) := by omega
      have h48 : (((a.headD 0).toNat : Int) == 48) = false := by
        rw [beq_eq_false_iff_ne] at h2 ⊢
        intro e
        exact h2 (UInt8.toNat.inj (by show _ = 48; omega))
      clear hidx h2
      generalize ((a.headD 0).toNat : Int) = h0 at *
      rcases hf with ⟨rfl, rfl⟩ | ⟨rfl, db, rfl⟩ | ⟨rfl, db, rfl⟩
      · go_enter Tryd.func123, Tryd.ntmps123
        go_wp2_with fail
        refine hcut.mono ?_
        rintro e w1 ⟨rfl, hb1⟩
        go_wp2_with fail
        refine (digits_any _ _).mono ?_
        rintro e w2 ⟨rfl, hb2⟩
        rw [show digitsB (ByteArray.mk a.toArray).data.toList = true from da]
        have hb12 := bl_call hb1 hb2
        go_wp2_with fail
        go_ret
        exact ⟨rfl, hb12⟩
      · go_enter Tryd.func123, Tryd.ntmps123
        go_wp2_with fail
        refine hcut.mono ?_
        rintro e w1 ⟨rfl, hb1⟩
        go_wp2_with fail
        refine (digits_any _ _).mono ?_
        rintro e w2 ⟨rfl, hb2⟩
        rw [show digitsB (ByteArray.mk a.toArray).data.toList = true from da]
        have hb12 := bl_call hb1 hb2
        go_wp2_with fail
        refine (digits_any _ _).mono ?_
        rintro e w3 ⟨rfl, hb3⟩
        rw [show digitsB (ByteArray.mk b.toArray).data.toList = true from db]
        go_wp2_with fail
        go_ret
        exact ⟨rfl, bl_call hb12 hb3⟩
      · go_enter Tryd.func123, Tryd.ntmps123
        go_wp2_with fail
        refine hcut.mono ?_
        rintro e w1 ⟨rfl, hb1⟩
        go_wp2_with fail
        refine (digits_any _ _).mono ?_
        rintro e w2 ⟨rfl, hb2⟩
        rw [show digitsB (ByteArray.mk a.toArray).data.toList = true from da]
        have hb12 := bl_call hb1 hb2
        go_wp2_with fail
        refine (digits_any _ _).mono ?_
        rintro e w3 ⟨rfl, hb3⟩
        rw [show digitsB (ByteArray.mk b.toArray).data.toList = false from db]
        go_wp2_with fail
        go_ret
        exact ⟨rfl, bl_call hb12 hb3⟩
end Go.Proofs.YtcgkfgklggjmaaaDoor.Dec
end
section
namespace Go.Proofs.YtcgkfgklggjmaaaDoor.Dec
set_option linter.unusedVariables false
set_option linter.unusedSimpArgs false
open Go.RowKit
theorem form_three (l : List UInt8) : formL l = 0 ∨ formL l = 1 ∨ formL l = 2 := by
  unfold formL formW
  split
  · exact .inl rfl
  · split
    · exact .inr (.inl rfl)
    · split
      · exact .inr (.inr rfl)
      · exact .inl rfl
theorem form_digits {l : List UInt8} (h : formL l ≠ 0) : (Lib.cut l [46]).1.all isDig = true ∧ (Lib.cut l [46]).1 ≠ [] ∧ (Lib.cut l [46]).2.1.all isDig = true := by
  have h0 := h
  unfold formL formW at h
  have hd : digitsB (Lib.cut l [46]).1 = true := by
    cases hh : digitsB (Lib.cut l [46]).1 with
    | true => rfl
    | false => rw [hh] at h; exact absurd rfl h
  have h1 : (Lib.cut l [46]).1.all isDig = true ∧ (Lib.cut l [46]).1 ≠ [] := by
    unfold digitsB at hd
    rw [Bool.and_eq_true] at hd
    refine ⟨hd.1, fun e => ?_⟩
    rw [e] at hd
    exact absurd hd.2 (by decide)
  refine ⟨h1.1, h1.2, ?_⟩
  rcases cut_spec l with ⟨e, _⟩ | ⟨a, b, e', ha, e⟩
  · rw [e]; rfl
  · rw [e] at h ⊢
    cases hh : digitsB b with
    | true => unfold digitsB at hh; rw [Bool.and_eq_true] at hh; exact hh.1
    | false =>
      rw [hh] at h
      exact absurd (by split <;> rfl) h
theorem cut_len (l : List UInt8) : (Lib.cut l [46]).1.length + (Lib.cut l [46]).2.1.length ≤ l.length := by
  rcases cut_spec l with ⟨e, _⟩ | ⟨a, b, e', ha, e⟩
  · rw [e]; simp
  · rw [e, e']; simp
theorem repeat_char (c : Nat) : Lib.repeatL (ByteArray.mk #[48]).data.toList c = List.replicate c 48 := by
  have := Lib.repeatL_replicate 48 1 c
  rw [Nat.mul_one] at this
  exact this
/-- Atoi of digits -/
theorem atoi_any (l : List UInt8) (w : World) (hT : DT w) (h : l.all isDig = true) (hne : l ≠ []) (hl : l.length ≤ 40000) :
    Calls Tryd.prog 151 #[.string ⟨l.toArray⟩] w fun e w' => ((valN 0 l < 9223372036854775808 ∧ e = .returned (.tuple #[.int .i64 (valN 0 l : Int), .nilIface])) ∨ (9223372036854775808 ≤ valN 0 l ∧ ∃ n N, e = .returned (.tuple #[.int .i64 n, .iface 219 (.pointer (some ⟨N, 0, none⟩))]))) ∧ Below w.heap.size w w' := by
  have ha := atoi_val h hne
  have hs : (ByteArray.mk l.toArray).size = l.length := by simp [ByteArray.size]
  by_cases hv : valN 0 l < 9223372036854775808
  · rw [if_pos hv] at ha
    refine (Tryd.strconv_Atoi_ok ⟨l.toArray⟩ (by omega) _ ha w).mono ?_
    rintro e w' ⟨rfl, hw⟩
    refine ⟨.inl ⟨hv, rfl⟩, ?_⟩
    rcases hw with rfl | ⟨t, rfl⟩
    · exact bl_refl _
    · exact Lib.bytesWorld_below w _ t
  · rw [if_neg hv] at ha
    obtain ⟨ev, h1, h2⟩ := hT.er
    refine (Tryd.strconv_Atoi_range ⟨l.toArray⟩ (by omega) ha ev w h1 h2).mono ?_
    rintro e w' ⟨N, rfl, _, _, hb⟩
    exact ⟨.inr ⟨by omega, _, N, rfl⟩, hb⟩
set_option maxHeartbeats 4000000 in
theorem dparse_any (s : ByteArray) (places most : Int) (w : World) (hT : DT w) (hs : s.size ≤ 20000) :
    Calls Tryd.prog 125 #[.string s, .int .i64 places, .int .i64 most] w fun e w' => e = .returned (.tuple #[.int .i64 (parseL s.data.toList places most).1, .int .i64 (parseL s.data.toList places most).2]) ∧ Below w.heap.size w w' := by
  have hform := dof_any s w hT (by omega)
  have h3 := form_three s.data.toList
  have hd := @form_digits s.data.toList
  have hcl := cut_len s.data.toList
  have hsl : s.data.toList.length = s.size := (Lib.size_eq s).symm
  rw [hsl] at hcl
  unfold parseL
  have hcut := fun v hb => cut_any s v (hT.below hb) (by omega)
  generalize (Lib.cut s.data.toList [46]).1 = a at *
  generalize (Lib.cut s.data.toList [46]).2.1 = b at *
  generalize (Lib.cut s.data.toList [46]).2.2 = p at *
  generalize formL s.data.toList = f at *
  have eb : (⟨b.toArray⟩ : ByteArray).size = b.length := by simp [ByteArray.size]
  have hcase : ((f = 0 ∨ f = 1 ∨ f = 2) ∧ (f = 0 ∨ places < 0 ∨ 9 < places ∨ (f = 2 ∧ places = 0))) ∨ ((f = 1 ∨ f = 2) ∧ 0 ≤ places ∧ places ≤ 9 ∧ (f = 1 ∨ places ≠ 0)) := by omega
  rcases hcase with ⟨hf, hbad⟩ | ⟨hf, p0, p9, hp⟩
  · have e1 : parseW f a b places most = (0, 1) := by unfold parseW; rw [if_pos hbad]
    rw [e1]
    have hcc : f = 0 ∨ ((f = 1 ∨ f = 2) ∧ places < 0) ∨ ((f = 1 ∨ f = 2) ∧ 0 ≤ places ∧ 9 < places) ∨ (f = 2 ∧ places = 0) := by omega
    clear hd hcut e1 hbad hf h3
    rcases hcc with rfl | ⟨rfl | rfl, h⟩ | ⟨rfl | rfl, h, h'⟩ | ⟨rfl, rfl⟩
    all_goals
      go_enter Tryd.func125, Tryd.ntmps125
      go_wp2_with fail
      refine hform.mono ?_
      rintro e w1 ⟨rfl, hb1⟩
      go_wp2_with fail
      go_ret2
      exact ⟨rfl, hb1⟩
  · obtain ⟨d1, d2, d3⟩ := hd (by omega)
    have hn0 : ¬ (f = 0 ∨ places < 0 ∨ 9 < places ∨ (f = 2 ∧ places = 0)) := by omega
    by_cases hlong : places < (b.length : Int)
    · have e1 : parseW f a b places most = (0, 1) := by unfold parseW; rw [if_neg hn0, if_pos hlong]
      rw [e1]
      clear hd h3 e1 hn0 d1 d2 d3
      rcases hf with rfl | rfl
      · go_enter Tryd.func125, Tryd.ntmps125
        go_wp2_with fail
        refine hform.mono ?_
        rintro e w1 ⟨rfl, hb1⟩
        go_wp2_with fail
        refine (hcut _ hb1).mono ?_
        rintro e w2 ⟨rfl, hb2⟩
        go_wp2_with fail
        go_ret2
        exact ⟨rfl, bl_call hb1 hb2⟩
      · have hp' : (places == 0) = false := by rw [beq_eq_false_iff_ne]; omega
        clear hp
        go_enter Tryd.func125, Tryd.ntmps125
        go_wp2_with fail
        refine hform.mono ?_
        rintro e w1 ⟨rfl, hb1⟩
        go_wp2_with fail
        refine (hcut _ hb1).mono ?_
        rintro e w2 ⟨rfl, hb2⟩
        go_wp2_with fail
        go_ret2
        exact ⟨rfl, bl_call hb1 hb2⟩
    · obtain ⟨k, hk⟩ : ∃ k : Nat, places = (k : Int) := ⟨places.toNat, by omega⟩
      subst hk
      have hkb : b.length ≤ k := by omega
      have hrep : (k : Int) - (b.length : Int) = ((k - b.length : Nat) : Int) := by omega
      obtain ⟨L, hL⟩ : ∃ L, a ++ fillL b k = L := ⟨_, rfl⟩
      have hz : (List.replicate (k - b.length) (48 : UInt8)).all isDig = true := by simp [isDig]
      have la : L.all isDig = true := by rw [← hL, fillL, List.all_append, List.all_append, d1, d3, hz]; rfl
      have ln : L ≠ [] := by rw [← hL]; simp [d2]
      have ll : L.length ≤ 40000 := by rw [← hL, fillL, List.length_append, List.length_append, List.length_replicate]; omega
      have hat := fun v hb => atoi_any L v (hT.below hb) la ln ll
      have hres : (9223372036854775808 ≤ valN 0 L ∧ parseW f a b k most = (0, 2)) ∨ (valN 0 L < 9223372036854775808 ∧ most < (valN 0 L : Int) ∧ parseW f a b k most = (0, 2)) ∨ (valN 0 L < 9223372036854775808 ∧ (valN 0 L : Int) ≤ most ∧ parseW f a b k most = ((valN 0 L : Int), 0)) := by
        unfold parseW
        rw [if_neg hn0, if_neg hlong, Int.toNat_natCast, hL]
        by_cases c1 : 9223372036854775808 ≤ valN 0 L
        · exact .inl ⟨c1, by rw [if_pos (.inl c1)]⟩
        · by_cases c2 : most < (valN 0 L : Int)
          · exact .inr (.inl ⟨by omega, c2, by rw [if_pos (.inr c2)]⟩)
          · exact .inr (.inr ⟨by omega, by omega, by rw [if_neg (by omega)]⟩)
      have HL := Lib.hid hL
      generalize valN 0 L = V at *
      have hcat : (ByteArray.mk a.toArray) ++ (ByteArray.mk b.toArray) ++ (ByteArray.mk (Array.replicate (k - b.length) 48)) = ⟨L.toArray⟩ := by
        rw [← HL.out, fillL]
        apply ByteArray.ext; simp
      have HC := Lib.hid hcat
      clear hcat hL la ln ll hz d1 d2 d3 hd h3 hn0
      have hbig : b.length ≤ 20000 := by omega
      have hbig2 : a.length ≤ 20000 := by omega
      have ea : (⟨a.toArray⟩ : ByteArray).size = a.length := by simp [ByteArray.size]
      have er : (ByteArray.mk (List.replicate (k - b.length) (48 : UInt8)).toArray).size = k - b.length := by simp [ByteArray.size]
      have hv1 : ¬ 9223372036854775807 < a.length + b.length := by omega
      have hv2 : ¬ 9223372036854775807 < a.length + b.length + (k - b.length) := by omega
      have hp' : f = 1 ∨ (f = 2 ∧ ((k : Int) == 0) = false) := by
        rcases hf with h | h
        · exact .inl h
        · exact .inr ⟨h, by rw [beq_eq_false_iff_ne]; omega⟩
      clear hp hf
      rcases hres with ⟨c1, e1⟩ | ⟨c1, c2, e1⟩ | ⟨c1, c2, e1⟩
      all_goals
        rw [e1]
        clear e1
        rcases hp' with rfl | ⟨rfl, hp'⟩
      all_goals
        go_enter Tryd.func125, Tryd.ntmps125
        go_wp2_with fail
        refine hform.mono ?_
        rintro e w1 ⟨rfl, hb1⟩
        go_wp2_with fail
        refine (hcut _ hb1).mono ?_
        rintro e w2 ⟨rfl, hb2⟩
        have hb12 := bl_call hb1 hb2
        go_wp2_with fail
        refine (Tryd.strings_Repeat _ (k - b.length) _ (by omega) ?_).mono ?_
        · show 1 * (k - b.length) ≤ _; omega
        rintro e w3 ⟨rfl, hb3⟩
        rw [repeat_char]
        have hb123 := bl_call hb12 hb3
        go_wp2_with fail
        rw [HC.out]
        refine (hat _ hb123).mono ?_
        rintro e w4 ⟨h, hb4⟩
        have hb1234 := bl_call hb123 hb4
      all_goals
        rcases h with ⟨hv, rfl⟩ | ⟨hv, n, N, rfl⟩
      all_goals first
        | (exfalso; omega)
        | (go_wp2_with fail; go_ret2; exact ⟨rfl, hb1234⟩)
end Go.Proofs.YtcgkfgklggjmaaaDoor.Dec
end
section
namespace Go.Proofs.YtcgkfgklggjmaaaDoor.Dec
set_option linter.unusedVariables false
set_option linter.unusedSimpArgs false
open Go.RowKit
theorem size_alloc (w : World) (o : Obj) : (w.alloc o).heap.size = w.heap.size + 1 := Array.size_push _
theorem Blk.new2 (w : World) (o : Obj) (t : TypeId) (cs : Array Value) : Blk ((w.alloc o).alloc (.cells cs t)) (w.heap.size + 1) t cs := by
  have h := Blk.new (w.alloc o) t cs
  rwa [size_alloc] at h
set_option maxHeartbeats 4000000 in
theorem wof_any (a : Int) (w : World) (h0 : 0 ≤ a) (h1 : a < 9223372036854775808) :
    Calls Tryd.prog 139 #[.int .i64 a] w fun e w' => e = .returned (.agg #[.bool false, .int .u64 0, .int .u64 a]) ∧ Below w.heap.size w w' := by
  have hu : IntKind.u64.wrap a = a := by rw [IntKind.wrap_u64]; omega
  go_enter Tryd.func139, Tryd.ntmps139
  go_wp2_with fail
  exact bodyPost_ret (results_cell_row rfl _ _ w.heap.size _ #[.bool false, .int .u64 0, .int .u64 a] (0, 0) _ rfl (Blk.new w _ _) Tryd.underlying181 rfl (by kernel_rfl)) rfl ⟨rfl, bl_alloc (bl_refl w) _⟩
set_option maxHeartbeats 4000000 in
theorem wzero_any (b : Bool) (hi lo : Int) (w : World) :
    Calls Tryd.prog 159 #[.agg #[.bool b, .int .u64 hi, .int .u64 lo]] w fun e w' => e = .returned (.bool (hi == 0 && lo == 0)) ∧ Below w.heap.size w w' := by
  by_cases h : hi = 0
  · subst h
    go_enter Tryd.func159, Tryd.ntmps159
    go_wp2_with fail
    go_ret
    exact ⟨by first | rfl | simp, bl_alloc (bl_refl w) _⟩
  · have hb : (hi == 0) = false := beq_eq_false_iff_ne.mpr h
    go_enter Tryd.func159, Tryd.ntmps159
    go_wp2_with fail
    go_ret
    exact ⟨by rw [hb]; rfl, bl_alloc (bl_refl w) _⟩
set_option maxHeartbeats 4000000 in
theorem wint_ok (lo : Int) (w : World) (l0 : 0 ≤ lo) (l1 : lo < 9223372036854775808) :
    Calls Tryd.prog 136 #[.agg #[.bool false, .int .u64 0, .int .u64 lo]] w fun e w' => e = .returned (.tuple #[.int .i64 lo, .bool true]) ∧ Below w.heap.size w w' := by
  have hu : IntKind.i64.wrap lo = lo := by rw [IntKind.wrap_i64]; omega
  go_enter Tryd.func136, Tryd.ntmps136
  go_wp2_with fail
  go_ret2
  exact ⟨rfl, bl_alloc (bl_refl w) _⟩
set_option maxHeartbeats 4000000 in
theorem wint_no (hi lo : Int) (w : World) (h : hi ≠ 0 ∨ (hi = 0 ∧ 9223372036854775808 ≤ lo)) :
    Calls Tryd.prog 136 #[.agg #[.bool false, .int .u64 hi, .int .u64 lo]] w fun e w' => e = .returned (.tuple #[.int .i64 0, .bool false]) ∧ Below w.heap.size w w' := by
  rcases h with h | ⟨rfl, h⟩
  · have hb : (hi != 0) = true := bne_iff_ne.mpr h
    go_enter Tryd.func136, Tryd.ntmps136
    go_wp2_with fail
    go_ret2
    exact ⟨rfl, bl_alloc (bl_refl w) _⟩
  · go_enter Tryd.func136, Tryd.ntmps136
    go_wp2_with fail
    go_ret2
    exact ⟨rfl, bl_alloc (bl_refl w) _⟩
set_option maxHeartbeats 4000000 in
theorem wplus_any (b c : Bool) (ah al bh bl hi lo : Int) (w : World) (a0 : 0 ≤ ah) (a1 : 0 ≤ al) (a2 : al < 18446744073709551616) (b0 : 0 ≤ bh) (b1 : 0 ≤ bl) (b2 : bl < 18446744073709551616) (hh : ah + bh + 1 < 18446744073709551616)
    (hhi : hi = ah + bh + (al + bl) / 18446744073709551616) (hlo : lo = (al + bl) % 18446744073709551616) :
    Calls Tryd.prog 158 #[.agg #[.bool b, .int .u64 ah, .int .u64 al], .agg #[.bool c, .int .u64 bh, .int .u64 bl]] w fun e w' => e = .returned (.agg #[.bool false, .int .u64 hi, .int .u64 lo]) ∧ Below w.heap.size w w' := by
  have hw1 : IntKind.u64.wrap (al + bl) = lo := by rw [IntKind.wrap_u64]; omega
  have hw2 : IntKind.u64.wrap (ah + bh) = ah + bh := by rw [IntKind.wrap_u64]; omega
  have hw3 : IntKind.u64.wrap (ah + bh + 1) = ah + bh + 1 := by rw [IntKind.wrap_u64]; omega
  by_cases hc : lo < al
  · have hx : hi = ah + bh + 1 := by omega
    rw [hx]
    clear hhi hlo hx hi
    go_enter Tryd.func158, Tryd.ntmps158
    go_wp2_with fail
    exact bodyPost_ret (results_cell_row rfl _ _ (w.heap.size + 1 + 1) _ #[.bool false, .int .u64 (ah + bh + 1), .int .u64 lo] (0, 0) _ rfl (by have hz := Blk.new2 (w.alloc (.cells #[.bool b, .int .u64 ah, .int .u64 al] 181)) (.cells #[.bool c, .int .u64 bh, .int .u64 bl] 181) 181 #[.bool false, .int .u64 (ah + bh + 1), .int .u64 lo]; rwa [size_alloc] at hz) Tryd.underlying181 rfl (by kernel_rfl)) rfl ⟨rfl, bl_alloc (bl_alloc (bl_alloc (bl_refl w) _) _) _⟩
  · have hx : hi = ah + bh := by omega
    rw [hx]
    clear hhi hlo hx hi
    go_enter Tryd.func158, Tryd.ntmps158
    go_wp2_with fail
    exact bodyPost_ret (results_cell_row rfl _ _ (w.heap.size + 1 + 1) _ #[.bool false, .int .u64 (ah + bh), .int .u64 lo] (0, 0) _ rfl (by have hz := Blk.new2 (w.alloc (.cells #[.bool b, .int .u64 ah, .int .u64 al] 181)) (.cells #[.bool c, .int .u64 bh, .int .u64 bl] 181) 181 #[.bool false, .int .u64 (ah + bh), .int .u64 lo]; rwa [size_alloc] at hz) Tryd.underlying181 rfl (by kernel_rfl)) rfl ⟨rfl, bl_alloc (bl_alloc (bl_alloc (bl_refl w) _) _) _⟩
set_option maxHeartbeats 4000000 in
/-- the sum of two that are not below 0 -/
theorem wadd_any (ah al bh bl hi lo : Int) (w : World) (a0 : 0 ≤ ah) (a1 : 0 ≤ al) (a2 : al < 18446744073709551616) (b0 : 0 ≤ bh) (b1 : 0 ≤ bl) (b2 : bl < 18446744073709551616) (hh : ah + bh + 1 < 18446744073709551616)
    (hhi : hi = ah + bh + (al + bl) / 18446744073709551616) (hlo : lo = (al + bl) % 18446744073709551616) :
    Calls Tryd.prog 137 #[.agg #[.bool false, .int .u64 ah, .int .u64 al], .agg #[.bool false, .int .u64 bh, .int .u64 bl]] w fun e w' => e = .returned (.agg #[.bool false, .int .u64 hi, .int .u64 lo]) ∧ Below w.heap.size w w' := by
  have hpl := fun v => wplus_any false false ah al bh bl hi lo v a0 a1 a2 b0 b1 b2 hh hhi hlo
  clear hhi hlo
  go_enter Tryd.func137, Tryd.ntmps137
  go_wp2_with fail
  refine (hpl _).mono ?_
  rintro e w1 ⟨rfl, hb1⟩
  have ka := (((Blk.new w 181 #[.bool false, .int .u64 ah, .int .u64 al]).alloc (.cells #[.bool false, .int .u64 bh, .int .u64 bl] 181)).alloc (.cells #[.bool false, .int .u64 0, .int .u64 0] 181)).call hb1
  have hbb1 := bl_call (bl_alloc (bl_alloc (bl_alloc (bl_refl w) (.cells #[.bool false, .int .u64 ah, .int .u64 al] 181)) (.cells #[.bool false, .int .u64 bh, .int .u64 bl] 181)) (.cells #[.bool false, .int .u64 0, .int .u64 0] 181)) hb1
  have hl := ka.lt
  obtain ⟨x0, x1, x2, _, _, _⟩ := ka.c3
  have kr0 := Blk.new2 (w.alloc (.cells #[.bool false, .int .u64 ah, .int .u64 al] 181)) (.cells #[.bool false, .int .u64 bh, .int .u64 bl] 181) 181 #[.bool false, .int .u64 0, .int .u64 0]
  rw [size_alloc] at kr0
  have kr := kr0.call hb1
  have hl2 := kr.lt
  obtain ⟨r0, r1, r2, s0, s1, s2⟩ := kr.c3
  have kx := Blk.new w1 181 #[.bool false, .int .u64 hi, .int .u64 lo]
  obtain ⟨y0, y1, y2, _, _, _⟩ := kx.c3
  go_wp2_with fail
  exact bodyPost_ret (results_cell_row rfl _ _ (w.heap.size + 1 + 1) _ #[.bool false, .int .u64 hi, .int .u64 lo] (0, 0) _ rfl ((((kr.set_ 0 (.bool false)).set_ 1 (.int .u64 hi)).set_ 2 (.int .u64 lo)).alloc _) Tryd.underlying181 rfl (by kernel_rfl)) rfl
    ⟨rfl, bl_alloc (bl_set (bl_set (bl_set hbb1 (by show w.heap.size ≤ w.heap.size + 1 + 1; omega) _) (by show w.heap.size ≤ w.heap.size + 1 + 1; omega) _) (by show w.heap.size ≤ w.heap.size + 1 + 1; omega) _) _⟩
end Go.Proofs.YtcgkfgklggjmaaaDoor.Dec
end
section
namespace Go.Proofs.YtcgkfgklggjmaaaDoor.Dec
set_option linter.unusedVariables false
set_option linter.unusedSimpArgs false
open Go.RowKit
theorem mul_parts (a p q : Int) (h : a = 4294967296 * q + p) (p0 : 0 ≤ p) (p1 : p < 4294967296) (q0 : 0 ≤ q) :
    10 * a / 18446744073709551616 = 0 + q * 10 / 4294967296 + (p * 10 + q * 10 * 4294967296 % 18446744073709551616) / 18446744073709551616 ∧ 10 * a % 18446744073709551616 = (p * 10 + q * 10 * 4294967296 % 18446744073709551616) % 18446744073709551616 := by
  have hr : q * 10 * 4294967296 % 18446744073709551616 = 4294967296 * (q * 10 % 4294967296) := by omega
  rw [hr]
  have hd := Int.mul_ediv_add_emod (q * 10) 4294967296
  have h1 := Int.emod_nonneg (q * 10) (show (4294967296 : Int) ≠ 0 by decide)
  have h2 := Int.emod_lt_of_pos (q * 10) (show (0 : Int) < 4294967296 by decide)
  generalize q * 10 / 4294967296 = i at *
  generalize q * 10 % 4294967296 = r at *
  have e : 10 * a = 18446744073709551616 * i + (p * 10 + 4294967296 * r) := by omega
  rw [e]
  generalize p * 10 + 4294967296 * r = z
  omega
theorem Blk.new_at (w : World) (t : TypeId) (cs : Array Value) (g : Nat) (h : w.heap.size = g) : Blk (w.alloc (.cells cs t)) g t cs := h ▸ Blk.new w t cs
set_option maxHeartbeats 4000000 in
set_option maxRecDepth 100000 in
theorem wmul_any (a : Int) (w : World) (h0 : 0 ≤ a) (h1 : a < 9223372036854775808) :
    Calls Tryd.prog 138 #[.int .i64 a, .int .i64 10] w fun e w' => e = .returned (.agg #[.bool false, .int .u64 (10 * a / 18446744073709551616), .int .u64 (10 * a % 18446744073709551616)]) ∧ Below w.heap.size w w' := by
  obtain ⟨H, hH⟩ : ∃ H, 10 * a / 18446744073709551616 = H := ⟨_, rfl⟩
  obtain ⟨L, hL⟩ : ∃ L, 10 * a % 18446744073709551616 = L := ⟨_, rfl⟩
  rw [hH, hL]
  have HH := Lib.hid hH
  have HL := Lib.hid hL
  clear hH hL
  go_enter Tryd.func138, Tryd.ntmps138
  go_wp2_with fail
  refine (wof_any a _ h0 h1).mono ?_
  rintro e w1 ⟨rfl, hb1⟩
  go_wp2_with fail
  refine (wof_any 10 _ (by omega) (by omega)).mono ?_
  rintro e w2 ⟨rfl, hb2⟩
  have kr := ((Blk.new w 181 #[.bool false, .int .u64 0, .int .u64 0]).call hb1).call hb2
  have hbb2 := bl_call (bl_call (bl_alloc (bl_refl w) (.cells #[.bool false, .int .u64 0, .int .u64 0] 181)) hb1) hb2
  have hl0 := kr.lt
  have kx := (Blk.new w2 181 #[.bool false, .int .u64 0, .int .u64 a]).alloc (.cells #[.bool false, .int .u64 0, .int .u64 10] 181)
  have ky := Blk.new2 w2 (.cells #[.bool false, .int .u64 0, .int .u64 a] 181) 181 #[.bool false, .int .u64 0, .int .u64 10]
  obtain ⟨x0, x1, x2, _, _, _⟩ := kx.c3
  obtain ⟨y0, y1, y2, _, _, _⟩ := ky.c3
  go_wp2_with fail
  go_quiet (fail)
  obtain ⟨p, hp⟩ : ∃ p, a % 4294967296 = p := ⟨_, rfl⟩
  obtain ⟨q, hq⟩ : ∃ q, a / 4294967296 = q := ⟨_, rfl⟩
  rw [hp, hq]
  have hpq : a = 4294967296 * q + p ∧ 0 ≤ p ∧ p < 4294967296 ∧ 0 ≤ q ∧ q < 2147483648 := by omega
  obtain ⟨ha, p0, p1, q0, q1⟩ := hpq
  have HA := Lib.hid ha
  clear ha
  clear hp hq
  have hw1 : IntKind.u64.wrap (p * 10) = p * 10 := by rw [IntKind.wrap_u64]; omega
  have hw2 : IntKind.u64.wrap (q * 10) = q * 10 := by rw [IntKind.wrap_u64]; omega
  have kx1 := kx.drewN nq
  have ky1 := ky.drewN nq
  obtain ⟨x0, x1, x2, _, _, _⟩ := kx1.c3
  obtain ⟨y0, y1, y2, _, _, _⟩ := ky1.c3
  go_wp2_with fail
  go_quiet (fail)
  go_wp2_with fail
  clear x0 x1 x2 y0 y1 y2
  go_loopw [45] (fun v wr => ∃ (i hi lo : Int), v = .int .i64 i ∧ ((i = 0 ∧ hi = 0 ∧ lo = p * 10) ∨ (i = 1 ∧ hi = 0 ∧ lo = p * 10) ∨ (i = 2 ∧ hi = H ∧ lo = L)) ∧
      Blk wr w.heap.size 181 #[.bool false, .int .u64 0, .int .u64 0] ∧ Blk wr (w2.heap.size) 181 #[.bool false, .int .u64 0, .int .u64 a] ∧ Blk wr (w2.heap.size + 1) 181 #[.bool false, .int .u64 0, .int .u64 10] ∧
      Blk wr (w2.heap.size + 1 + 1) 181 #[.bool false, .int .u64 hi, .int .u64 lo] ∧ Blk wr (w2.heap.size + 1 + 1 + 1) 151 #[.int .u64 0, .int .u64 (q * 10)] ∧ Below w.heap.size w wr) (fun v _ => (2 - intOf v).toNat)
  case atStart =>
    refine ⟨0, 0, p * 10, rfl, .inl ⟨rfl, rfl, rfl⟩, ?_, ?_, ?_, ?_, ?_, ?_⟩
    · exact (((((kr.alloc _).alloc _).drewN _).alloc _).alloc _)
    · exact ((kx.drewN _).alloc _).alloc _
    · exact ((ky.drewN _).alloc _).alloc _
    · exact (Blk.new_at _ _ _ _ (by show ((w2.alloc _).alloc _).heap.size = _; rw [size_alloc, size_alloc])).alloc _
    · exact Blk.new_at _ _ _ _ (by rw [size_alloc]; show ((w2.alloc _).alloc _).heap.size + 1 = _; rw [size_alloc, size_alloc])
    · exact bl_alloc (bl_alloc (bl_drewN (bl_alloc (bl_alloc hbb2 _) _) _) _) _
  case round =>
    obtain ⟨i, hi, lo, rfl, hcase, kr', kx', ky', ko', ks', hbw⟩ := hrel
    have ho := ko'.lt
    have hs := ks'.lt
    obtain ⟨o0, o1, o2, _, _, _⟩ := ko'.c3
    obtain ⟨s0, s1, _, _⟩ := ks'.c2
    rcases hcase with ⟨rfl, rfl, rfl⟩ | ⟨rfl, rfl, rfl⟩ | ⟨rfl, rfl, rfl⟩
    · go_wp2_with fail
      refine (wplus_any false false 0 (p * 10) 0 0 0 (p * 10) _ (by omega) (by omega) (by omega) (by omega) (by omega) (by omega) (by omega) (by omega) (by omega)).mono ?_
      rintro e w3 ⟨rfl, hb3⟩
      have ko3 := ko'.call hb3
      have ks3 := ks'.call hb3
      have kx3 := kx'.call hb3
      have ky3 := ky'.call hb3
      have kr3 := kr'.call hb3
      have hbw3 := bl_call hbw hb3
      have ho3 := ko3.lt
      clear o0 o1 o2 s0 s1
      obtain ⟨o0, o1, o2, f0, f1, f2⟩ := ko3.c3
      go_wp2
      go_roundw
      case rel =>
        refine ⟨_, 0, p * 10, rfl, .inr (.inl ⟨by go_num, rfl, rfl⟩), ?_, ?_, ?_, ?_, ?_, ?_⟩
        · exact ((kr3.far (by (try dsimp only); omega) _).far (by (try dsimp only); omega) _).far (by (try dsimp only); omega) _
        · exact ((kx3.far (by (try dsimp only); omega) _).far (by (try dsimp only); omega) _).far (by (try dsimp only); omega) _
        · exact ((ky3.far (by (try dsimp only); omega) _).far (by (try dsimp only); omega) _).far (by (try dsimp only); omega) _
        · exact ((ko3.set_ 0 (.bool false)).set_ 1 (.int .u64 0)).set_ 2 (.int .u64 (p * 10))
        · exact ((ks3.far (by (try dsimp only); omega) _).far (by (try dsimp only); omega) _).far (by (try dsimp only); omega) _
        · exact bl_set (bl_set (bl_set hbw3 (by (try dsimp only); omega) _) (by (try dsimp only); omega) _) (by (try dsimp only); omega) _
      case measure => simp [intOf]
    · have hw9 : IntKind.u64.wrap (q * 10 * 4294967296) = q * 10 * 4294967296 % 18446744073709551616 := by rw [IntKind.wrap_u64]
      have hai := HA.out
      obtain ⟨e1, e2⟩ := mul_parts a p q hai p0 p1 q0
      rw [HH.out] at e1
      rw [HL.out] at e2
      have E1 := Lib.hid e1
      have E2 := Lib.hid e2
      clear e1 e2 hai
      go_wp2_with fail
      refine (wplus_any false false 0 (p * 10) (q * 10 / 4294967296) (q * 10 * 4294967296 % 18446744073709551616) H L _ (by omega) (by omega) (by omega) (by omega) (by omega) (by omega) (by omega) E1.out E2.out).mono ?_
      rintro e w3 ⟨rfl, hb3⟩
      have ko3 := ko'.call hb3
      have ks3 := ks'.call hb3
      have kx3 := kx'.call hb3
      have ky3 := ky'.call hb3
      have kr3 := kr'.call hb3
      have hbw3 := bl_call hbw hb3
      have ho3 := ko3.lt
      clear o0 o1 o2 s0 s1
      obtain ⟨o0, o1, o2, f0, f1, f2⟩ := ko3.c3
      go_wp2
      go_roundw
      case rel =>
        refine ⟨_, H, L, rfl, .inr (.inr ⟨by go_num, rfl, rfl⟩), ?_, ?_, ?_, ?_, ?_, ?_⟩
        · exact ((kr3.far (by (try dsimp only); omega) _).far (by (try dsimp only); omega) _).far (by (try dsimp only); omega) _
        · exact ((kx3.far (by (try dsimp only); omega) _).far (by (try dsimp only); omega) _).far (by (try dsimp only); omega) _
        · exact ((ky3.far (by (try dsimp only); omega) _).far (by (try dsimp only); omega) _).far (by (try dsimp only); omega) _
        · exact ((ko3.set_ 0 (.bool false)).set_ 1 (.int .u64 H)).set_ 2 (.int .u64 L)
        · exact ((ks3.far (by (try dsimp only); omega) _).far (by (try dsimp only); omega) _).far (by (try dsimp only); omega) _
        · exact bl_set (bl_set (bl_set hbw3 (by (try dsimp only); omega) _) (by (try dsimp only); omega) _) (by (try dsimp only); omega) _
      case measure => simp [intOf]
    · obtain ⟨z0, z1, z2, _, _, _⟩ := kx'.c3
      obtain ⟨t0, t1, t2, _, _, _⟩ := ky'.c3
      obtain ⟨v0, v1, v2, _, _, _⟩ := kr'.c3
      go_wp2_with fail
      exact bodyPost_ret (results_cell_row rfl _ _ w.heap.size _ #[.bool false, .int .u64 hi, .int .u64 lo] (0, 0) _ rfl ((((kr'.far (by (try dsimp only); omega) _).set_ 0 (.bool false)).set_ 1 (.int .u64 hi)).set_ 2 (.int .u64 lo)) Tryd.underlying181 rfl (by kernel_rfl)) rfl
        ⟨rfl, bl_set (bl_set (bl_set (bl_set hbw (by (try dsimp only); omega) _) (Nat.le_refl _) _) (Nat.le_refl _) _) (Nat.le_refl _) _⟩
end Go.Proofs.YtcgkfgklggjmaaaDoor.Dec
end
section
namespace Go.Proofs.YtcgkfgklggjmaaaDoor.Dec
set_option linter.unusedVariables false
set_option linter.unusedSimpArgs false
open Go.RowKit
/-- a number that is kept as long as it fits -/
def satV (v : Nat) : Int := if v < 9223372036854775808 then (v : Int) else 0
def satB (v : Nat) : Bool := decide (v < 9223372036854775808)
theorem sat_yes {v : Nat} (h : v < 9223372036854775808) : satV v = (v : Int) ∧ satB v = true := by simp [satV, satB, h]
theorem sat_no {v : Nat} (h : ¬ v < 9223372036854775808) : satV v = 0 ∧ satB v = false := by simp [satV, satB, h]
theorem sat_bd (v : Nat) : 0 ≤ satV v ∧ satV v < 9223372036854775808 := by unfold satV; split <;> omega
set_option maxHeartbeats 4000000 in
set_option maxRecDepth 100000 in
theorem more_any (v d : Nat) (w : World) (hd : d ≤ 9) :
    Calls Tryd.prog 110 #[.int .i64 (satV v), .int .i64 d, .bool (satB v)] w fun e w' => e = .returned (.tuple #[.int .i64 (satV (10 * v + d)), .bool (satB (10 * v + d))]) ∧ Below w.heap.size w w' := by
  obtain ⟨b0, b1⟩ := sat_bd v
  obtain ⟨x, hx⟩ : ∃ x, satV v = x := ⟨_, rfl⟩
  rw [hx] at b0 b1 ⊢
  have hmul := fun u => wmul_any x u b0 b1
  have hof := fun u => wof_any (d : Int) u (by omega) (by omega)
  obtain ⟨H, hH⟩ : ∃ H, 10 * x / 18446744073709551616 = H := ⟨_, rfl⟩
  obtain ⟨L, hL⟩ : ∃ L, 10 * x % 18446744073709551616 = L := ⟨_, rfl⟩
  rw [hH, hL] at hmul
  have hadd := fun u => wadd_any H L 0 d (H + (L + d) / 18446744073709551616) ((L + d) % 18446744073709551616) u (by omega) (by omega) (by omega) (by omega) (by omega) (by omega) (by omega) (by omega) rfl
  have hfit : (10 * x + d < 9223372036854775808 ∧ H + (L + d) / 18446744073709551616 = 0 ∧ (L + d) % 18446744073709551616 = 10 * x + d) ∨ (9223372036854775808 ≤ 10 * x + d ∧ (H + (L + d) / 18446744073709551616 ≠ 0 ∨ (H + (L + d) / 18446744073709551616 = 0 ∧ 9223372036854775808 ≤ (L + d) % 18446744073709551616))) := by omega
  generalize H + (L + d) / 18446744073709551616 = H2 at *
  generalize (L + d) % 18446744073709551616 = L2 at *
  have hres : (satB v = true ∧ 10 * x + d < 9223372036854775808 ∧ H2 = 0 ∧ L2 = 10 * x + d ∧ satV (10 * v + d) = 10 * x + d ∧ satB (10 * v + d) = true) ∨ ((satB v = false ∨ satB v = true) ∧ ((10 * x + d < 9223372036854775808 ∧ satB v = false ∧ H2 = 0 ∧ L2 = 10 * x + d) ∨ (9223372036854775808 ≤ 10 * x + d ∧ (H2 ≠ 0 ∨ (H2 = 0 ∧ 9223372036854775808 ≤ L2)))) ∧ satV (10 * v + d) = 0 ∧ satB (10 * v + d) = false) := by
    by_cases hv : v < 9223372036854775808
    · obtain ⟨s1, s2⟩ := sat_yes hv
      have hxv : x = (v : Int) := by rw [← hx, s1]
      by_cases h2 : 10 * v + d < 9223372036854775808
      · obtain ⟨t1, t2⟩ := sat_yes h2
        left
        refine ⟨s2, by omega, ?_, ?_, by rw [t1, hxv]; push_cast; rfl, t2⟩
        · rcases hfit with h | h
          · exact h.2.1
          · omega
        · rcases hfit with h | h
          · exact h.2.2
          · omega
      · obtain ⟨t1, t2⟩ := sat_no h2
        right
        refine ⟨.inr s2, .inr ?_, t1, t2⟩
        rcases hfit with h | h
        · omega
        · exact h
    · obtain ⟨s1, s2⟩ := sat_no hv
      have hxv : x = 0 := by rw [← hx, s1]
      obtain ⟨t1, t2⟩ := sat_no (v := 10 * v + d) (by omega)
      right
      refine ⟨.inl s2, .inl ?_, t1, t2⟩
      rcases hfit with h | h
      · exact ⟨h.1, s2, h.2⟩
      · omega
  clear hfit
  generalize satB v = bb at *
  generalize satV (10 * v + d) = rv at *
  generalize satB (10 * v + d) = rb at *
  clear hx hH hL b1
  rcases hres with ⟨rfl, h1, rfl, rfl, rfl, rfl⟩ | ⟨hbb, hin, rfl, rfl⟩
  · have hint := fun u => wint_ok (10 * x + d) u (by omega) h1
    go_enter Tryd.func110, Tryd.ntmps110
    go_wp2_with fail
    refine (hmul _).mono ?_
    rintro e w1 ⟨rfl, hb1⟩
    go_wp2_with fail
    refine (hof _).mono ?_
    rintro e w2 ⟨rfl, hb2⟩
    have hbb2 := bl_call hb1 hb2
    go_wp2_with fail
    refine (hadd _).mono ?_
    rintro e w3 ⟨rfl, hb3⟩
    have hbb3 := bl_call hbb2 hb3
    go_wp2_with fail
    refine (hint _).mono ?_
    rintro e w4 ⟨rfl, hb4⟩
    have hbb4 := bl_call hbb3 hb4
    go_wp2_with fail
    go_ret2
    exact ⟨rfl, hbb4⟩
  · rcases hin with ⟨h1, rfl, rfl, rfl⟩ | ⟨h1, h2⟩
    · have hint := fun u => wint_ok (10 * x + d) u (by omega) h1
      go_enter Tryd.func110, Tryd.ntmps110
      go_wp2_with fail
      refine (hmul _).mono ?_
      rintro e w1 ⟨rfl, hb1⟩
      go_wp2_with fail
      refine (hof _).mono ?_
      rintro e w2 ⟨rfl, hb2⟩
      have hbb2 := bl_call hb1 hb2
      go_wp2_with fail
      refine (hadd _).mono ?_
      rintro e w3 ⟨rfl, hb3⟩
      have hbb3 := bl_call hbb2 hb3
      go_wp2_with fail
      refine (hint _).mono ?_
      rintro e w4 ⟨rfl, hb4⟩
      have hbb4 := bl_call hbb3 hb4
      go_wp2_with fail
      go_ret2
      exact ⟨rfl, hbb4⟩
    · have hint := fun u => wint_no H2 L2 u h2
      rcases hbb with rfl | rfl
      all_goals
        go_enter Tryd.func110, Tryd.ntmps110
        go_wp2_with fail
        refine (hmul _).mono ?_
        rintro e w1 ⟨rfl, hb1⟩
        go_wp2_with fail
        refine (hof _).mono ?_
        rintro e w2 ⟨rfl, hb2⟩
        have hbb2 := bl_call hb1 hb2
        go_wp2_with fail
        refine (hadd _).mono ?_
        rintro e w3 ⟨rfl, hb3⟩
        have hbb3 := bl_call hbb2 hb3
        go_wp2_with fail
        refine (hint _).mono ?_
        rintro e w4 ⟨rfl, hb4⟩
        have hbb4 := bl_call hbb3 hb4
        go_wp2_with fail
        go_ret2
        exact ⟨rfl, hbb4⟩
set_option maxHeartbeats 4000000 in
/-- a byte is a digit -/
theorem rdigit_any (c : UInt8) (w : World) :
    Calls Tryd.prog 129 #[.int .u8 c.toNat] w fun e w' => e = .returned (.bool (isDig c)) ∧ w = w' := by
  by_cases h1 : c.toNat < 48
  · have hd : isDig c = false := by simp [isDig]; omega
    rw [hd]
    go_enter Tryd.func129, Tryd.ntmps129
    go_wp2_with fail
    go_ret
    exact ⟨by simp; try omega, rfl⟩
  · by_cases h2 : c.toNat ≤ 57
    · have hd : isDig c = true := by simp [isDig]; omega
      rw [hd]
      go_enter Tryd.func129, Tryd.ntmps129
      go_wp2_with fail
      go_ret
      exact ⟨by simp; try omega, rfl⟩
    · have hd : isDig c = false := by simp [isDig]; omega
      rw [hd]
      go_enter Tryd.func129, Tryd.ntmps129
      go_wp2_with fail
      go_ret
      exact ⟨by simp; try omega, rfl⟩
end Go.Proofs.YtcgkfgklggjmaaaDoor.Dec
end
