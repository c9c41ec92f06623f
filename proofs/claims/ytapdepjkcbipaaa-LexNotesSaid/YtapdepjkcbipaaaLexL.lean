import Derived.Test.YtapdepjkcbipaaaLexK
import Derived.Test.YtapdepjkcbipaaaLexT
namespace Go.Proofs.Ytapdepjkcbipaaa
set_option linter.unusedVariables false
set_option linter.unusedSimpArgs false
open Go.RowKit
theorem fault_three' (b c : Int) (w : World) : (binOp .neq 26 (.agg #[.int .i64 3, .int .i64 b, .int .i64 c]) (.agg #[.int .i64 0, .int .i64 0, .int .i64 0])).run Try.prog w = .ok (.bool true) w := fault_three b c w
theorem take_free {l : List UInt8} {k : Nat} (hk : k < l.length) (h : ∀ x ∈ l.take k, x ≠ 10) (hx : l[k] ≠ 10) : ∀ x ∈ l.take (k + 1), x ≠ 10 := by
  intro x hx'
  rw [List.take_succ_eq_append_getElem hk, List.mem_append, List.mem_singleton] at hx'
  rcases hx' with h1 | rfl
  · exact h x h1
  · exact hx
set_option maxHeartbeats 4000000 in
set_option maxRecDepth 100000 in
theorem notes_err (s note : ByteArray) (w : World) (hG : GL w) (hs : s.size ≤ 4096) (hn : note.size ≤ 20) (p q : Int) (hA : lexAll s.data.toList = ([], 3, p, q)) :
    Calls Try.prog 5 #[.string s, .string note] w fun e w' => e = .returned (.bool true) ∧ Below w.heap.size w w' := by
  have hss : s.size ≤ 9223372036854775807 := by omega
  have q1 := fault_three p q
  have hs1 : (s.size : Int) ≤ 4096 := by omega
  have hn1 : (note.size : Int) ≤ 20 := by omega
  go_enter Try.func5, Try.ntmps5
  go_wp2_with fail
  refine (alive_any _ hG).mono ?_
  rintro e w1 ⟨rfl, hb1⟩
  have hG1 := hG.below hb1
  go_wp2_with fail
  go_loop [5] (fun v => ∃ k : Nat, k ≤ note.size ∧ v = .int .i64 k ∧ ∀ x ∈ note.data.toList.take k, x ≠ 10) (fun v => note.size - (intOf v).toNat)
  case atStart => exact ⟨0, Nat.zero_le _, rfl, by simp⟩
  case round =>
    obtain ⟨k, hk, rfl, hfree⟩ := hrel
    have HF := Lib.hid hfree
    clear hfree
    by_cases hlt : k < note.size
    · have hlt' : k < note.data.toList.length := by simpa using hlt
      by_cases hx : note[k]'hlt = 10
      · have hxb : ((note[k]'hlt).toNat : Int) = 10 := by rw [hx]; rfl
        go_wp2
        go_ret
        exact ⟨rfl, hb1⟩
      · have hxn : note.data.toList[k]'hlt' ≠ 10 := hx
        have hxb : (((note[k]'hlt).toNat : Int) == 10) = false := by
          rw [beq_eq_false_iff_ne]; intro h
          exact hx (UInt8.toNat_inj.1 (by have : (10 : UInt8).toNat = 10 := rfl; omega))
        go_wp2
        go_round
        case rel => exact ⟨k + 1, by omega, by go_num, take_free hlt' HF.out hxn⟩
        case measure => simp [intOf]; omega
    · obtain rfl : k = note.size := by omega
      go_wp2_with fail
      refine (lex_any s _ hG1 hss).mono ?_
      rintro e w2 ⟨v2, ts2, er2, ln2, cl2, rfl, hown2, hb2, hall2⟩
      have hh2 := hA.symm.trans hall2
      simp only [Prod.mk.injEq] at hh2
      obtain ⟨rfl, rfl, rfl, rfl⟩ := hh2
      clear hall2
      have hbb2 := bl_call hb1 hb2
      unfold lexR
      go_wp2_with fail
      go_ret
      exact ⟨rfl, bl_alloc hbb2 _⟩
theorem built_step {note : List UInt8} {ts : List Tok} {k : Nat} (h : k < ts.length) : built note 0 (ts.take (k + 1)) = built note 0 (ts.take k) ++ piece note k (ts[k]).text.data.toList := by
  rw [List.take_succ_eq_append_getElem h, built_snoc, List.length_take, Nat.zero_add, Nat.min_eq_left (by omega)]
theorem cat4 (b x note : ByteArray) : (b ++ x ++ ⟨#[32]⟩ ++ ⟨#[9, 35]⟩ ++ note ++ ⟨#[10]⟩).data.toList = b.data.toList ++ (x.data.toList ++ 32 :: 9 :: 35 :: (note.data.toList ++ [10])) := by
  simp only [ByteArray.data_append, Array.toList_append]; simp
theorem cat2 (b x : ByteArray) : (b ++ x ++ ⟨#[32]⟩).data.toList = b.data.toList ++ (x.data.toList ++ [32]) := by
  simp only [ByteArray.data_append, Array.toList_append]; simp
set_option maxHeartbeats 8000000 in
set_option maxRecDepth 100000 in
theorem notes_ok (s note : ByteArray) (w : World) (hG : GL w) (hs : s.size ≤ 4096) (hn : note.size ≤ 20) (ts : List Tok) (hA1 : lexL s.data.toList 1 1 = .ok ts) (hA : lexAll s.data.toList = (ts, 0, 0, 0)) (hne : 0 < ts.length) :
    Calls Try.prog 5 #[.string s, .string note] w fun e w' => e = .returned (.bool true) ∧ Below w.heap.size w w' := by
  have hss : s.size ≤ 9223372036854775807 := by omega
  have q1 := fault_zero
  have hs1 : (s.size : Int) ≤ 4096 := by omega
  have hn1 : (note.size : Int) ≤ 20 := by omega
  have hcu := count_ok _ s.data.toList 1 1 _ (Nat.le_refl _) hA1
  have hsc : s.data.toList.length = s.size := by simp
  have d1 : ts.length ≤ 4097 := by omega
  have hsz := all_sizes hA
  have SZ := Lib.hid hsz
  have HA1 := Lib.hid hA1
  clear hcu hsc hsz hA1
  go_enter Try.func5, Try.ntmps5
  go_wp2_with fail
  refine (alive_any _ hG).mono ?_
  rintro e w1 ⟨rfl, hb1⟩
  have hG1 := hG.below hb1
  go_wp2_with fail
  go_loop [5] (fun v => ∃ k : Nat, k ≤ note.size ∧ v = .int .i64 k ∧ ∀ x ∈ note.data.toList.take k, x ≠ 10) (fun v => note.size - (intOf v).toNat)
  case atStart => exact ⟨0, Nat.zero_le _, rfl, by simp⟩
  case round =>
    obtain ⟨k, hk, rfl, hfree⟩ := hrel
    have HF := Lib.hid hfree
    clear hfree
    by_cases hlt : k < note.size
    · have hlt' : k < note.data.toList.length := by simpa using hlt
      by_cases hx : note[k]'hlt = 10
      · have hxb : ((note[k]'hlt).toNat : Int) = 10 := by rw [hx]; rfl
        go_wp2
        go_ret
        exact ⟨rfl, hb1⟩
      · have hxn : note.data.toList[k]'hlt' ≠ 10 := hx
        have hxb : (((note[k]'hlt).toNat : Int) == 10) = false := by
          rw [beq_eq_false_iff_ne]; intro h
          exact hx (UInt8.toNat_inj.1 (by have : (10 : UInt8).toNat = 10 := rfl; omega))
        go_wp2
        go_round
        case rel => exact ⟨k + 1, by omega, by go_num, take_free hlt' HF.out hxn⟩
        case measure => simp [intOf]; omega
    · obtain rfl : k = note.size := by omega
      have hfr : ∀ x ∈ note.data.toList, x ≠ 10 := by
        have h := HF.out
        rwa [List.take_of_length_le (by simp)] at h
      have FR := Lib.hid hfr
      clear hfr HF
      go_wp2_with fail
      refine (lex_any s _ hG1 hss).mono ?_
      rintro e w2 ⟨v2, ts2, er2, ln2, cl2, rfl, hown2, hb2, hall2⟩
      have hh2 := hA.symm.trans hall2
      simp only [Prod.mk.injEq] at hh2
      obtain ⟨rfl, rfl, rfl, rfl⟩ := hh2
      clear hall2
      have hbb2 := bl_call hb1 hb2
      have hG2 := hG1.below hb2
      obtain ⟨g, cap, rfl, _, _⟩ := hown2.form (by omega)
      have hcap := own_cap hown2
      unfold maxLen at hcap
      unfold lexR
      go_wp2_with fail
      have o1 := hown2.alloc (.cells #[.int .i64 0, .int .i64 0, .int .i64 0] 26)
      have hb3 := bl_alloc hbb2 (.cells #[.int .i64 0, .int .i64 0, .int .i64 0] 26)
      have hG3 := hG2.alloc (.cells #[.int .i64 0, .int .i64 0, .int .i64 0] 26)
      generalize w1.heap.size = Q1 at *
      generalize w2.alloc (.cells #[.int .i64 0, .int .i64 0, .int .i64 0] 26) = w3 at *
      clear hbb2 hG2 hown2 hb2
      go_loopw [8, 44] (fun v8 v44 wr => ∃ (k : Nat) (b : ByteArray), k ≤ ts.length ∧ v44 = .int .i64 k ∧ v8 = .string b ∧ Hid (b.data.toList = built note.data.toList 0 (ts.take k)) ∧ b.size ≤ k * 9000 ∧ Below w.heap.size w wr ∧ GL wr ∧ wr.ownsRow Q1 36 4 (.slice (some ⟨g, 0, none⟩) ts.length cap) ts.length (toksCells ts)) (fun _ v44 _ => ts.length - (intOf v44).toNat)
      case atStart => exact ⟨0, ⟨#[]⟩, Nat.zero_le _, rfl, rfl, Lib.hid rfl, Nat.zero_le _, hb3, hG3, o1⟩
      case round =>
        obtain ⟨k, b, hk, rfl, rfl, HB, hbs, hbw, hGw, r1⟩ := hrel
        clear o1 hb3 hG3
        by_cases hlt2 : k < ts.length
        · have ht : ts[k]? = some ts[k] := List.getElem?_eq_getElem hlt2
          obtain ⟨x0, x1, x2, x3⟩ := tok_cells r1 ht rfl
          have htz := SZ.out ts[k] (List.getElem_mem hlt2)
          have HS := Lib.hid (built_step (note := note.data.toList) hlt2)
          generalize ts[k] = t at *
          have hlx := (r1.lt g rfl).2
          have gg0 : (0 : Int) ≤ (k : Int) := by omega
          have gg1 : (k : Int) < (ts.length : Int) := by omega
          clear ht
          by_cases hm : k % 3 = 0
          · have hmi : (k : Int) % 3 = 0 := by omega
            go_wp2_with fail
            go_roundw
            case rel =>
              refine ⟨k + 1, _, by omega, by go_num, rfl, Lib.hid ?_, ?_, bl_alloc hbw _, hGw.alloc _, r1.alloc _⟩
              · rw [cat4, HB.out, HS.out, piece, if_pos hm]
              · simp only [ByteArray.size_append]
                show b.size + t.text.size + 1 + 2 + note.size + 1 ≤ _
                omega
            case measure => simp [intOf]; omega
          · have hmi : ((k : Int) % 3 == 0) = false := by rw [beq_eq_false_iff_ne]; omega
            go_wp2_with fail
            go_roundw
            case rel =>
              refine ⟨k + 1, _, by omega, by go_num, rfl, Lib.hid ?_, ?_, bl_alloc hbw _, hGw.alloc _, r1.alloc _⟩
              · rw [cat2, HB.out, HS.out, piece, if_neg hm]
              · simp only [ByteArray.size_append]
                show b.size + t.text.size + 1 ≤ _
                omega
            case measure => simp [intOf]; omega
        · obtain rfl : k = ts.length := by omega
          have hbl := HB.out
          rw [List.take_length] at hbl
          clear HB
          by_cases hbig : 8192 < b.size
          · have hbig' : 8192 < (b.size : Int) := by omega
            go_wp2_with fail
            go_ret
            exact ⟨rfl, hbw⟩
          · have hbig' : (b.size : Int) ≤ 8192 := by omega
            have hbb : b.size ≤ 9223372036854775807 := by omega
            obtain ⟨us, hZ, hmap⟩ := all_built s.data.toList note.data.toList FR.out HA1.out (by rw [← hbl]; simp; omega)
            rw [← hbl] at hZ
            have hul : us.length = ts.length := by have := congrArg List.length hmap; simpa using this
            have HM := Lib.hid hmap
            clear hmap hbl
            go_wp2_with fail
            refine (lex_any b _ hGw hbb).mono ?_
            rintro e w4 ⟨v4, ts4, er4, ln4, cl4, rfl, hown4, hb4, hall4⟩
            have hh4 := hZ.symm.trans hall4
            simp only [Prod.mk.injEq] at hh4
            obtain ⟨rfl, rfl, rfl, rfl⟩ := hh4
            clear hall4 hZ
            have hbb4 := bl_call hbw hb4
            have r2 := ownsRow_below r1 hb4
            rw [hul] at hown4
            obtain ⟨g4, cap4, rfl, _, _⟩ := hown4.form (by omega)
            have hcap4 := own_cap hown4
            unfold maxLen at hcap4
            unfold lexR
            go_wp2_with fail
            have s1 := r2.alloc (.cells #[.int .i64 0, .int .i64 0, .int .i64 0] 26)
            have s2 := hown4.alloc (.cells #[.int .i64 0, .int .i64 0, .int .i64 0] 26)
            have hb5 := bl_alloc hbb4 (.cells #[.int .i64 0, .int .i64 0, .int .i64 0] 26)
            clear r1 r2 hown4 hbb4 hbw hGw hb4
            generalize (World.heap _).size = Q2 at s2
            generalize w4.alloc (.cells #[.int .i64 0, .int .i64 0, .int .i64 0] 26) = w5 at *
            go_loopw [83] (fun v wr => ∃ k : Nat, k ≤ ts.length ∧ v = .int .i64 k ∧ Below w.heap.size w wr ∧ wr.ownsRow Q1 36 4 (.slice (some ⟨g, 0, none⟩) ts.length cap) ts.length (toksCells ts) ∧ wr.ownsRow Q2 36 4 (.slice (some ⟨g4, 0, none⟩) ts.length cap4) ts.length (toksCells us)) (fun v _ => ts.length - (intOf v).toNat)
            case atStart => exact ⟨0, Nat.zero_le _, rfl, hb5, s1, s2⟩
            case round =>
              obtain ⟨k, hk, rfl, hbw, r1, r2⟩ := hrel
              clear hb5 s1 s2
              by_cases hlt3 : k < ts.length
              · have ht : ts[k]? = some ts[k] := List.getElem?_eq_getElem hlt3
                have hu : us[k]? = some (us[k]'(by omega)) := List.getElem?_eq_getElem (by omega)
                have hx := congrArg (fun l => l[k]?) HM.out
                simp only [List.getElem?_map, ht, hu, Option.map_some, Option.some.injEq, Prod.mk.injEq] at hx
                obtain ⟨x0, x1, x2, x3⟩ := tok_cells r1 ht rfl
                obtain ⟨y0, y1, y2, y3⟩ := tok_cells r2 hu hul.symm
                rw [hx.1] at y0
                rw [hx.2] at y1
                have hlx := (r1.lt g rfl).2
                have hly := (r2.lt g4 rfl).2
                generalize ts[k] = t at *
                generalize us[k]'(by omega) = u at *
                clear ht hu hx
                have gg0 : (0 : Int) ≤ (k : Int) := by omega
                have gg1 : (k : Int) < (ts.length : Int) := by omega
                go_wp2_with fail
                go_quiet (fail)
                go_wp2_with fail
                go_roundw
                case rel => exact ⟨k + 1, by omega, by go_num, bl_drewN hbw _, r1, r2⟩
                case measure => simp [intOf]; omega
              · go_wp2_with fail
                go_ret
                exact ⟨rfl, hbw⟩
set_option maxHeartbeats 1000000 in
set_option maxRecDepth 100000 in
theorem notes_any (s note : ByteArray) (w : World) (hG : GL w) :
    Calls Try.prog 5 #[.string s, .string note] w fun e w' => e = .returned (.bool true) ∧ Below w.heap.size w w' := by
  by_cases ha : s.size ≤ 4096
  · by_cases hb : note.size ≤ 20
    · have hla : s.data.toList.length = s.size := by simp
      rcases all_cases s.data.toList (by omega) with ⟨us, e, hA1, hA⟩ | ⟨p, q, hA1, hA⟩
      · exact notes_ok s note w hG ha hb _ hA1 hA (by simp)
      · exact notes_err s note w hG ha hb p q hA
    · have hb1 : 20 < (note.size : Int) := by omega
      have ha1 : (s.size : Int) ≤ 4096 := by omega
      clear hb ha
      go_enter Try.func5, Try.ntmps5
      go_wp2_with (go_at_call 6; refine (alive_any _ hG).mono ?_; rintro e w1 ⟨rfl, hb1⟩)
      go_ret
      exact ⟨rfl, by assumption⟩
  · have ha1 : 4096 < (s.size : Int) := by omega
    clear ha
    go_enter Try.func5, Try.ntmps5
    go_wp2_with (go_at_call 6; refine (alive_any _ hG).mono ?_; rintro e w1 ⟨rfl, hb1⟩)
    go_ret
    exact ⟨rfl, by assumption⟩
end Go.Proofs.Ytapdepjkcbipaaa
