import Derived.Test.YtapdepjkcbipaaaLexG
namespace Go.Proofs.Ytapdepjkcbipaaa
set_option linter.unusedVariables false
set_option linter.unusedSimpArgs false
open Go.RowKit
theorem lexL_note (cs : List UInt8) (line col : Int) : lexL (35 :: cs) line col = lexL (cs.drop (noteLen cs)) line (col + 1 + noteLen cs) := by rw [lexL, if_pos rfl]
theorem lexL_nl (cs : List UInt8) (line col : Int) : lexL (10 :: cs) line col = lexL cs (line + 1) 1 := by rw [lexL, if_neg (by decide), if_pos rfl]
theorem lexL_bl (c : UInt8) (cs : List UInt8) (line col : Int) (h : c = 32 ∨ c = 9 ∨ c = 13) : lexL (c :: cs) line col = lexL cs line (col + 1) := by
  have h1 : c ≠ 35 := by rcases h with rfl | rfl | rfl <;> decide
  have h2 : c ≠ 10 := by rcases h with rfl | rfl | rfl <;> decide
  rw [lexL, if_neg h1, if_neg h2, if_pos h]
theorem lexL_tok (c : UInt8) (cs : List UInt8) (line col : Int) (h1 : c ≠ 35) (h2 : c ≠ 10) (h3 : ¬ (c = 32 ∨ c = 9 ∨ c = 13)) :
    lexL (c :: cs) line col = if kindOf (c :: cs.take (tokLen c cs)) = 0 then .error (line, col) else consR ⟨kindOf (c :: cs.take (tokLen c cs)), ⟨(c :: cs.take (tokLen c cs)).toArray⟩, line, col⟩ (lexL (cs.drop (tokLen c cs)) line (col + 1 + tokLen c cs)) := by
  rw [lexL, if_neg h1, if_neg h2, if_neg h3]
theorem noteLen_step (s : ByteArray) (k : Nat) (h : k < s.size) (hc : s[k] ≠ 10) : noteLen (s.data.toList.drop k) = 1 + noteLen (s.data.toList.drop (k + 1)) := by
  rw [drop_at s k h, noteLen, List.takeWhile_cons, if_pos (by simpa using hc)]; simp [noteLen]; omega
theorem noteLen_stop (s : ByteArray) (k : Nat) (h : k < s.size) (hc : s[k] = 10) : noteLen (s.data.toList.drop k) = 0 := by
  rw [drop_at s k h, noteLen, List.takeWhile_cons, if_neg (by simp [hc])]; rfl
def lexRR (v : Value) (er l c : Int) : Value := .tuple #[v, .int .i64 er, .int .i64 l, .int .i64 c]
theorem rtokInfo : (Try.prog.info? 38).map (fun i => (i.zero, i.size, i.bytes)) = some (some (.agg #[.int .i64 0, .string ⟨#[]⟩, .int .i64 0, .int .i64 0]), 4, 40) := by kernel_rfl
theorem results_tmp4 {fn : Func} {t u v x : Tmp} (h : fn.results = #[.tmp t, .tmp u, .tmp v, .tmp x]) (tmps : Array Value) (P : Program) (w : World) :
    (results fn tmps).run P w = .ok (.tuple #[tmps.getD t undef, tmps.getD u undef, tmps.getD v undef, tmps.getD x undef]) w := by simp [results, h]
set_option maxHeartbeats 4000000 in
set_option maxRecDepth 100000 in
theorem rlex_any (s : ByteArray) (w : World) (hs : s.size ≤ 9223372036854775807) :
    Calls Try.prog 8 #[.string s] w (LexOut 38 s w lexRR) := by
  have hlen : s.data.toList.length = s.size := by simp
  have HLEN := Lib.hid hlen
  clear hlen
  by_cases hbig : 8192 < s.size
  · have HA : Hid (lexAll s.data.toList = ([], 6, 1, 1)) := by
      show _ = _
      rw [lexAll, if_pos (by rw [HLEN.out]; exact hbig)]
    go_enter Try.func8, Try.ntmps8
    go_wp2
    refine bodyPost_ret (results_tmp4 rfl _ _ _) rfl ?_
    exact ⟨.slice none 0 0, [], 6, 1, 1, rfl, World.ownsRow_nil _ _ _ _, bl_refl _, HA.out⟩
  · obtain ⟨i0, hi0, hz0, hz1, hz2⟩ := info_parts rtokInfo
    go_enter Try.func8, Try.ntmps8
    go_wp2_with fail
    go_loopw [6, 7, 8, 9] (fun v6 v7 v8 v9 wr => ∃ (ts : List Tok) (a : Nat) (line col : Int), a ≤ s.size ∧ 0 ≤ line ∧ line ≤ a + 1 ∧ 0 ≤ col ∧ col ≤ a + 1 ∧ v7 = .int .i64 line ∧ v8 = .int .i64 col ∧ v9 = .int .i64 a ∧
      wr.ownsRow w.heap.size 38 4 v6 ts.length (toksCells ts) ∧ ts.length ≤ a ∧ Below w.heap.size w wr ∧ Hid (LexIn s.data.toList ts a line col)) (fun _ _ _ v9 _ => s.size - (intOf v9).toNat)
    case atStart => exact ⟨[], 0, 1, 1, by omega, by omega, by omega, by omega, by omega, rfl, rfl, rfl, World.ownsRow_nil _ _ _ _, Nat.le_refl _, bl_refl _, by simp [Hid, LexIn, preR_nil]⟩
    case round =>
      obtain ⟨ts, a, line, col, ha, l1, l2, c1, c2, rfl, rfl, rfl, hown, hts, hbw, HI⟩ := hrel
      have hlw := hbw.size
      by_cases hend : s.size ≤ a
      · obtain rfl : a = s.size := by omega
        have HR : Hid (lexAll s.data.toList = (ts ++ [⟨0, ⟨#[]⟩, line, col⟩], 0, 0, 0)) := by
          have h := HI.out
          unfold LexIn at h
          rw [drop_end, lexL] at h
          show _ = _
          rw [lexAll, if_neg (by rw [HLEN.out]; exact hbig), h]; rfl
        clear HI
        go_wp2_with (at_builtin; refine wpList_append_own _ rfl _ _ 29 rfl w.heap.size 38 i0 _ 4 40 Try.underlying29 hi0 hz0 hz1 hz2 rfl (by decide) _ _ _ rfl (hown.alloc _) ⟨wr.heap.size, 0, none⟩ 1 1 [.int .i64 0, .string ⟨#[]⟩, .int .i64 line, .int .i64 col] rfl rfl (World.news_of_block (cs := #[.int .i64 0, .string ⟨#[]⟩, .int .i64 line, .int .i64 col]) (t := 38) (fr := (0, 0)) (heap_alloc_new _ _)) (by simp [Value.oneCell']) (by unfold maxLen; omega) (by omega) (by simp; omega) ?_; intro v1 w1 hown1 hgrow1 hnil1)
        refine bodyPost_ret (results_tmp4 rfl _ _ _) rfl ?_
        refine ⟨v1, ts ++ [⟨0, ⟨#[]⟩, line, col⟩], 0, 0, 0, rfl, ?_, ?_, HR.out⟩
        · rw [toks_snoc, List.length_append]
          exact hown1
        · exact bl_grown (bl_alloc hbw _) hgrow1 (fun k hk => (hown.lt _ hk).1)
      · have hlt : a < s.size := by omega
        have hdr := drop_at s a hlt
        have HD := Lib.hid hdr
        have hcl := (s[a]'hlt).toNat_lt
        clear hdr
        by_cases h35 : s[a]'hlt = 35
        · have hb : (((s[a]'hlt).toNat : Int) == 35) = true := by rw [h35]; rfl
          have hb10 : (((s[a]'hlt).toNat : Int) == 10) = false := by rw [h35]; rfl
          have HST : ∀ k : Nat, k = a + 1 + noteLen (s.data.toList.drop (a + 1)) → LexIn s.data.toList ts k line (col + k - a) := fun k hk => by
            have h := HI.out
            unfold LexIn at h ⊢
            rw [HD.out, h35, lexL_note, List.drop_drop] at h
            rw [h, ← hk, show col + 1 + (noteLen (s.data.toList.drop (a + 1)) : Int) = col + k - a from by omega]
          have HSTH := Lib.hid HST
          clear HST h35 HI HD
          go_wp2_with fail
          obtain ⟨wo, rfl⟩ : ∃ wo : World, wo = wr := ⟨_, rfl⟩
          go_loop [11] (fun v => ∃ k : Nat, a + 1 ≤ k ∧ k ≤ s.size ∧ v = .int .i64 k ∧ Hid (k + noteLen (s.data.toList.drop k) = a + 1 + noteLen (s.data.toList.drop (a + 1)))) (fun v => s.size - (intOf v).toNat)
          case atStart => exact ⟨a + 1, by omega, by omega, by go_num, rfl⟩
          case round =>
            obtain ⟨k, hk1, hk2, rfl, HN⟩ := hrel
            by_cases hklt : k < s.size
            · have hckl := (s[k]'hklt).toNat_lt
              by_cases h10 : s[k]'hklt = 10
              · have hbk : (((s[k]'hklt).toNat : Int) != 10) = false := by rw [h10]; rfl
                have HF := Lib.hid (HSTH.out k (by rw [← HN.out, noteLen_stop s k hklt h10, Nat.add_zero]))
                clear h10
                go_wp2
                go_roundw
                case rel => exact ⟨ts, k, line, col + k - a, by omega, l1, by omega, by omega, by omega, rfl, rfl, rfl, hown, by omega, hbw, HF⟩
                case measure => simp [intOf]; omega
              · have hbk : (((s[k]'hklt).toNat : Int) != 10) = true := by simp [bne, u8_nb (d := 10) (n := 10) rfl h10]
                have HX : Hid (k + 1 + noteLen (s.data.toList.drop (k + 1)) = a + 1 + noteLen (s.data.toList.drop (a + 1))) := by
                  show _ = _
                  rw [← HN.out, noteLen_step s k hklt h10]; omega
                clear h10
                go_wp2
                go_round
                case rel => exact ⟨k + 1, by omega, by omega, by go_num, HX⟩
                case measure => simp [intOf]; omega
            · obtain rfl : k = s.size := by omega
              have HF := Lib.hid (HSTH.out s.size (by rw [← HN.out, drop_end]; rfl))
              go_wp2
              go_roundw
              case rel => exact ⟨ts, s.size, line, col + s.size - a, by omega, l1, by omega, by omega, by omega, rfl, rfl, rfl, hown, by omega, hbw, HF⟩
              case measure => simp [intOf]; omega
        · have hb : (((s[a]'hlt).toNat : Int) == 35) = false := u8_nb rfl h35
          by_cases h : s[a]'hlt = 32
          · have HF : Hid (LexIn s.data.toList ts (a + 1) line (col + 1)) := by
              have hh := HI.out
              show LexIn _ _ _ _ _
              unfold LexIn at hh ⊢
              rw [HD.out, h, lexL_bl _ _ _ _ (by decide)] at hh
              exact hh
            have g0 : (((s[a]'hlt).toNat : Int) != 32) = false := by rw [h]; rfl
            have gn : (((s[a]'hlt).toNat : Int) == 10) = false := by rw [h]; rfl
            clear h h35 HI HD
            go_wp2
            go_roundw
            case rel => exact ⟨ts, a + 1, line, col + 1, by omega, by omega, by omega, by omega, by omega, rfl, by go_num, by go_num, hown, by omega, hbw, HF⟩
            case measure => simp [intOf]; omega
          have n32 := h
          have g0 : (((s[a]'hlt).toNat : Int) != 32) = true := by simp [bne, u8_nb (d := 32) (n := 32) rfl h]
          clear h
          by_cases h : s[a]'hlt = 9
          · have HF : Hid (LexIn s.data.toList ts (a + 1) line (col + 1)) := by
              have hh := HI.out
              show LexIn _ _ _ _ _
              unfold LexIn at hh ⊢
              rw [HD.out, h, lexL_bl _ _ _ _ (by decide)] at hh
              exact hh
            have g0 : (((s[a]'hlt).toNat : Int) != 32) = true := by rw [h]; rfl
            have g1 : (((s[a]'hlt).toNat : Int) != 9) = false := by rw [h]; rfl
            have gn : (((s[a]'hlt).toNat : Int) == 10) = false := by rw [h]; rfl
            clear h h35 HI HD
            go_wp2
            go_roundw
            case rel => exact ⟨ts, a + 1, line, col + 1, by omega, by omega, by omega, by omega, by omega, rfl, by go_num, by go_num, hown, by omega, hbw, HF⟩
            case measure => simp [intOf]; omega
          have n9 := h
          have g1 : (((s[a]'hlt).toNat : Int) != 9) = true := by simp [bne, u8_nb (d := 9) (n := 9) rfl h]
          clear h
          by_cases h : s[a]'hlt = 10
          · have HF : Hid (LexIn s.data.toList ts (a + 1) (line + 1) 1) := by
              have hh := HI.out
              show LexIn _ _ _ _ _
              unfold LexIn at hh ⊢
              rw [HD.out, h, lexL_nl] at hh
              exact hh
            have g0 : (((s[a]'hlt).toNat : Int) != 32) = true := by rw [h]; rfl
            have g1 : (((s[a]'hlt).toNat : Int) != 9) = true := by rw [h]; rfl
            have g2 : (((s[a]'hlt).toNat : Int) != 10) = false := by rw [h]; rfl
            have gn : (((s[a]'hlt).toNat : Int) == 10) = true := by rw [h]; rfl
            clear h h35 HI HD
            go_wp2
            go_roundw
            case rel => exact ⟨ts, a + 1, line + 1, 1, by omega, by omega, by omega, by omega, by omega, rfl, rfl, by go_num, hown, by omega, hbw, HF⟩
            case measure => simp [intOf]; omega
          have n10 := h
          have g2 : (((s[a]'hlt).toNat : Int) != 10) = true := by simp [bne, u8_nb (d := 10) (n := 10) rfl h]
          clear h
          by_cases h : s[a]'hlt = 13
          · have HF : Hid (LexIn s.data.toList ts (a + 1) line (col + 1)) := by
              have hh := HI.out
              show LexIn _ _ _ _ _
              unfold LexIn at hh ⊢
              rw [HD.out, h, lexL_bl _ _ _ _ (by decide)] at hh
              exact hh
            have g0 : (((s[a]'hlt).toNat : Int) != 32) = true := by rw [h]; rfl
            have g1 : (((s[a]'hlt).toNat : Int) != 9) = true := by rw [h]; rfl
            have g2 : (((s[a]'hlt).toNat : Int) != 10) = true := by rw [h]; rfl
            have g3 : (((s[a]'hlt).toNat : Int) != 13) = false := by rw [h]; rfl
            have gn : (((s[a]'hlt).toNat : Int) == 10) = false := by rw [h]; rfl
            clear h h35 HI HD
            go_wp2
            go_roundw
            case rel => exact ⟨ts, a + 1, line, col + 1, by omega, by omega, by omega, by omega, by omega, rfl, by go_num, by go_num, hown, by omega, hbw, HF⟩
            case measure => simp [intOf]; omega
          have n13 := h
          have g3 : (((s[a]'hlt).toNat : Int) != 13) = true := by simp [bne, u8_nb (d := 13) (n := 13) rfl h]
          clear h
          have gn : (((s[a]'hlt).toNat : Int) == 10) = false := u8_nb rfl n10
          have n3 : ¬ (s[a]'hlt = 32 ∨ s[a]'hlt = 9 ∨ s[a]'hlt = 13) := fun h => by rcases h with h | h | h <;> simp_all
          have hst := lexL_tok (s[a]'hlt) (s.data.toList.drop (a + 1)) line col h35 n10 n3
          have hI := HI.out
          unfold LexIn at hI
          rw [HD.out, hst] at hI
          have HII := Lib.hid hI
          have htl := tokLen_le (s[a]'hlt) (s.data.toList.drop (a + 1))
          have hbnd : a + 1 + tokLen (s[a]'hlt) (s.data.toList.drop (a + 1)) ≤ s.size := by
            have := HLEN.out
            rw [List.length_drop] at htl; omega
          have hexl : (s.extract a (a + 1 + tokLen (s[a]'hlt) (s.data.toList.drop (a + 1)))).data.toList = s[a]'hlt :: (s.data.toList.drop (a + 1)).take (tokLen (s[a]'hlt) (s.data.toList.drop (a + 1))) := by
            rw [Lib.extract_data, HD.out, show a + 1 + tokLen (s[a]'hlt) (s.data.toList.drop (a + 1)) - a = tokLen (s[a]'hlt) (s.data.toList.drop (a + 1)) + 1 from by omega, List.take_succ_cons]
          have hex2 : (⟨(s[a]'hlt :: (s.data.toList.drop (a + 1)).take (tokLen (s[a]'hlt) (s.data.toList.drop (a + 1)))).toArray⟩ : ByteArray) = s.extract a (a + 1 + tokLen (s[a]'hlt) (s.data.toList.drop (a + 1))) := by rw [← hexl]
          rw [hex2] at HII
          have HEXL := Lib.hid hexl
          generalize htll : s[a]'hlt :: (s.data.toList.drop (a + 1)).take (tokLen (s[a]'hlt) (s.data.toList.drop (a + 1))) = tl at *
          have htk : ∀ l, tokLen (s[a]'hlt) l = if isLet (s[a]'hlt) then runLen l else 0 := fun l => rfl
          have HTK := Lib.hid htk
          generalize hn : tokLen (s[a]'hlt) (s.data.toList.drop (a + 1)) = n at *
          rw [List.drop_drop] at HII
          clear hst hI HI HD h35 n32 n9 n10 n13 n3 htl hexl hex2 htll htk
          have HNN := Lib.hid hn
          clear hn
          go_wp2_with fail
          obtain ⟨wo, rfl⟩ : ∃ wo : World, wo = wr := ⟨_, rfl⟩
          go_loop [11] (fun v => ∃ k : Nat, a + 1 ≤ k ∧ k ≤ s.size ∧ v = .int .i64 k ∧ Hid (k + tokLen (s[a]'hlt) (s.data.toList.drop k) = a + 1 + n)) (fun v => s.size - (intOf v).toNat)
          case atStart => exact ⟨a + 1, by omega, by omega, by go_num, by show _ = _; rw [HNN.out]⟩
          case round =>
            obtain ⟨k, hk1, hk2, rfl, HN⟩ := hrel
            cases hi : isLet (s[a]'hlt) with
            | false =>
              have HNK : Hid (k = a + 1 + n) := by
                have h := HN.out
                rw [HTK.out, hi] at h
                show _ = _
                simpa using h
              have hnk := HNK.out
              obtain rfl : n = k - (a + 1) := by omega
              have hex : a + 1 + (k - (a + 1)) = k := by omega
              rw [hex] at HII HEXL
              clear HN HNN hex HNK hnk
              have hszk : (s.extract a k).size ≤ 9223372036854775807 := Nat.le_trans (show (s.extract a k).size ≤ 8192 by rw [ByteArray.size_extract]; omega) (by decide)
              by_cases hkz : kindOf tl = 0
              · have HR : Hid (lexAll s.data.toList = ([], 3, line, col)) := by
                  have h := HII.out
                  rw [if_pos hkz] at h
                  show _ = _
                  rw [lexAll, if_neg (by rw [HLEN.out]; exact hbig), h]; rfl
                have HOF := Lib.hid (rOf5_any (s.extract a k))
                rw [HEXL.out, hkz] at HOF
                clear hkz HII HEXL
                go_wp2_with (first | (go_at_call 14; refine (rletter_any _ _).mono ?_; rintro e w' ⟨rfl, rfl⟩) | (go_at_call 10; refine (HOF.out _ hszk).mono ?_; rintro e w2 ⟨rfl, hb2⟩))
                refine bodyPost_ret (results_tmp4 rfl _ _ _) rfl ?_
                exact ⟨.slice none 0 0, [], 3, line, col, rfl, World.ownsRow_nil _ _ _ _, bl_call hbw hb2, HR.out⟩
              · have HS2 : Hid (LexIn s.data.toList (ts ++ [⟨kindOf tl, s.extract a k, line, col⟩]) k line (col + k - a)) := by
                  have h := HII.out
                  rw [if_neg hkz] at h
                  show LexIn _ _ _ _ _
                  unfold LexIn
                  rw [h, preR_snoc, show col + 1 + ((k - (a + 1) : Nat) : Int) = col + k - a from by omega]
                have hk0 : (kindOf tl == 0) = false := beq_eq_false_iff_ne.2 hkz
                have HOF := Lib.hid (rOf5_any (s.extract a k))
                rw [HEXL.out] at HOF
                clear hkz HII HEXL
                generalize hkk : kindOf tl = kd at *
                clear hkk
                go_wp2_with (first | (go_at_call 14; refine (rletter_any _ _).mono ?_; rintro e w' ⟨rfl, rfl⟩) | (go_at_call 10; refine (HOF.out _ hszk).mono ?_; rintro e w2 ⟨rfl, hb2⟩; (have hown2 := ownsRow_below hown hb2); (have hbw2 := bl_call hbw hb2); (have hlw2 := hbw2.size)) | (at_builtin; refine wpList_append_own _ rfl _ _ 29 rfl w.heap.size 38 i0 _ 4 40 Try.underlying29 hi0 hz0 hz1 hz2 rfl (by decide) _ _ _ rfl (hown2.alloc _) ⟨w2.heap.size, 0, none⟩ 1 1 [.int .i64 kd, .string (s.extract a k), .int .i64 line, .int .i64 col] rfl rfl (World.news_of_block (cs := #[.int .i64 kd, .string (s.extract a k), .int .i64 line, .int .i64 col]) (t := 38) (fr := (0, 0)) (heap_alloc_new _ _)) (by simp [Value.oneCell']) (by unfold maxLen; omega) (by omega) (by simp; omega) ?_; intro v1 w3 hown3 hgrow3 hnil3))
                go_roundw
                case rel =>
                  refine ⟨ts ++ [⟨kd, s.extract a k, line, col⟩], k, line, col + k - a, hk2, l1, by omega, by omega, by omega, rfl, rfl, rfl, ?_, by simp; omega, ?_, HS2⟩
                  · rw [toks_snoc, List.length_append]; exact hown3
                  · exact bl_grown (bl_alloc hbw2 _) hgrow3 (fun k hk => (hown2.lt _ hk).1)
                case measure => simp [intOf]; omega
            | true =>
              by_cases hklt : k < s.size
              · cases hik : isLet (s[k]'hklt) with
                | true =>
                  have HX : Hid (k + 1 + tokLen (s[a]'hlt) (s.data.toList.drop (k + 1)) = a + 1 + n) := by
                    have h := HN.out
                    rw [HTK.out, hi, if_pos rfl, runLen_step s k hklt hik] at h
                    show _ = _
                    rw [HTK.out, hi, if_pos rfl]; omega
                  go_wp2_with (go_at_call 14; refine (rletter_any _ _).mono ?_; rintro e w' ⟨rfl, rfl⟩)
                  go_round
                  case rel => exact ⟨k + 1, by omega, by omega, by go_num, HX⟩
                  case measure => simp [intOf]; omega
                | false =>
                  have HNK : Hid (k = a + 1 + n) := by
                    have h := HN.out
                    rw [HTK.out, hi, if_pos rfl, runLen_stop s k hklt hik] at h
                    exact h
                  have hnk := HNK.out
                  obtain rfl : n = k - (a + 1) := by omega
                  have hex : a + 1 + (k - (a + 1)) = k := by omega
                  rw [hex] at HII HEXL
                  clear HN HNN hex HNK hnk
                  have hszk : (s.extract a k).size ≤ 9223372036854775807 := Nat.le_trans (show (s.extract a k).size ≤ 8192 by rw [ByteArray.size_extract]; omega) (by decide)
                  by_cases hkz : kindOf tl = 0
                  · have HR : Hid (lexAll s.data.toList = ([], 3, line, col)) := by
                      have h := HII.out
                      rw [if_pos hkz] at h
                      show _ = _
                      rw [lexAll, if_neg (by rw [HLEN.out]; exact hbig), h]; rfl
                    have HOF := Lib.hid (rOf5_any (s.extract a k))
                    rw [HEXL.out, hkz] at HOF
                    clear hkz HII HEXL
                    go_wp2_with (first | (go_at_call 14; refine (rletter_any _ _).mono ?_; rintro e w' ⟨rfl, rfl⟩) | (go_at_call 10; refine (HOF.out _ hszk).mono ?_; rintro e w2 ⟨rfl, hb2⟩))
                    refine bodyPost_ret (results_tmp4 rfl _ _ _) rfl ?_
                    exact ⟨.slice none 0 0, [], 3, line, col, rfl, World.ownsRow_nil _ _ _ _, bl_call hbw hb2, HR.out⟩
                  · have HS2 : Hid (LexIn s.data.toList (ts ++ [⟨kindOf tl, s.extract a k, line, col⟩]) k line (col + k - a)) := by
                      have h := HII.out
                      rw [if_neg hkz] at h
                      show LexIn _ _ _ _ _
                      unfold LexIn
                      rw [h, preR_snoc, show col + 1 + ((k - (a + 1) : Nat) : Int) = col + k - a from by omega]
                    have hk0 : (kindOf tl == 0) = false := beq_eq_false_iff_ne.2 hkz
                    have HOF := Lib.hid (rOf5_any (s.extract a k))
                    rw [HEXL.out] at HOF
                    clear hkz HII HEXL
                    generalize hkk : kindOf tl = kd at *
                    clear hkk
                    go_wp2_with (first | (go_at_call 14; refine (rletter_any _ _).mono ?_; rintro e w' ⟨rfl, rfl⟩) | (go_at_call 10; refine (HOF.out _ hszk).mono ?_; rintro e w2 ⟨rfl, hb2⟩; (have hown2 := ownsRow_below hown hb2); (have hbw2 := bl_call hbw hb2); (have hlw2 := hbw2.size)) | (at_builtin; refine wpList_append_own _ rfl _ _ 29 rfl w.heap.size 38 i0 _ 4 40 Try.underlying29 hi0 hz0 hz1 hz2 rfl (by decide) _ _ _ rfl (hown2.alloc _) ⟨w2.heap.size, 0, none⟩ 1 1 [.int .i64 kd, .string (s.extract a k), .int .i64 line, .int .i64 col] rfl rfl (World.news_of_block (cs := #[.int .i64 kd, .string (s.extract a k), .int .i64 line, .int .i64 col]) (t := 38) (fr := (0, 0)) (heap_alloc_new _ _)) (by simp [Value.oneCell']) (by unfold maxLen; omega) (by omega) (by simp; omega) ?_; intro v1 w3 hown3 hgrow3 hnil3))
                    go_roundw
                    case rel =>
                      refine ⟨ts ++ [⟨kd, s.extract a k, line, col⟩], k, line, col + k - a, hk2, l1, by omega, by omega, by omega, rfl, rfl, rfl, ?_, by simp; omega, ?_, HS2⟩
                      · rw [toks_snoc, List.length_append]; exact hown3
                      · exact bl_grown (bl_alloc hbw2 _) hgrow3 (fun k hk => (hown2.lt _ hk).1)
                    case measure => simp [intOf]; omega
              · have HNK : Hid (k = a + 1 + n) := by
                  obtain rfl : k = s.size := by omega
                  have h := HN.out
                  rw [HTK.out, hi, if_pos rfl, drop_end] at h
                  exact h
                have hnk := HNK.out
                obtain rfl : n = k - (a + 1) := by omega
                have hex : a + 1 + (k - (a + 1)) = k := by omega
                rw [hex] at HII HEXL
                clear HN HNN hex HNK hnk
                have hszk : (s.extract a k).size ≤ 9223372036854775807 := Nat.le_trans (show (s.extract a k).size ≤ 8192 by rw [ByteArray.size_extract]; omega) (by decide)
                by_cases hkz : kindOf tl = 0
                · have HR : Hid (lexAll s.data.toList = ([], 3, line, col)) := by
                    have h := HII.out
                    rw [if_pos hkz] at h
                    show _ = _
                    rw [lexAll, if_neg (by rw [HLEN.out]; exact hbig), h]; rfl
                  have HOF := Lib.hid (rOf5_any (s.extract a k))
                  rw [HEXL.out, hkz] at HOF
                  clear hkz HII HEXL
                  go_wp2_with (first | (go_at_call 14; refine (rletter_any _ _).mono ?_; rintro e w' ⟨rfl, rfl⟩) | (go_at_call 10; refine (HOF.out _ hszk).mono ?_; rintro e w2 ⟨rfl, hb2⟩))
                  refine bodyPost_ret (results_tmp4 rfl _ _ _) rfl ?_
                  exact ⟨.slice none 0 0, [], 3, line, col, rfl, World.ownsRow_nil _ _ _ _, bl_call hbw hb2, HR.out⟩
                · have HS2 : Hid (LexIn s.data.toList (ts ++ [⟨kindOf tl, s.extract a k, line, col⟩]) k line (col + k - a)) := by
                    have h := HII.out
                    rw [if_neg hkz] at h
                    show LexIn _ _ _ _ _
                    unfold LexIn
                    rw [h, preR_snoc, show col + 1 + ((k - (a + 1) : Nat) : Int) = col + k - a from by omega]
                  have hk0 : (kindOf tl == 0) = false := beq_eq_false_iff_ne.2 hkz
                  have HOF := Lib.hid (rOf5_any (s.extract a k))
                  rw [HEXL.out] at HOF
                  clear hkz HII HEXL
                  generalize hkk : kindOf tl = kd at *
                  clear hkk
                  go_wp2_with (first | (go_at_call 14; refine (rletter_any _ _).mono ?_; rintro e w' ⟨rfl, rfl⟩) | (go_at_call 10; refine (HOF.out _ hszk).mono ?_; rintro e w2 ⟨rfl, hb2⟩; (have hown2 := ownsRow_below hown hb2); (have hbw2 := bl_call hbw hb2); (have hlw2 := hbw2.size)) | (at_builtin; refine wpList_append_own _ rfl _ _ 29 rfl w.heap.size 38 i0 _ 4 40 Try.underlying29 hi0 hz0 hz1 hz2 rfl (by decide) _ _ _ rfl (hown2.alloc _) ⟨w2.heap.size, 0, none⟩ 1 1 [.int .i64 kd, .string (s.extract a k), .int .i64 line, .int .i64 col] rfl rfl (World.news_of_block (cs := #[.int .i64 kd, .string (s.extract a k), .int .i64 line, .int .i64 col]) (t := 38) (fr := (0, 0)) (heap_alloc_new _ _)) (by simp [Value.oneCell']) (by unfold maxLen; omega) (by omega) (by simp; omega) ?_; intro v1 w3 hown3 hgrow3 hnil3))
                  go_roundw
                  case rel =>
                    refine ⟨ts ++ [⟨kd, s.extract a k, line, col⟩], k, line, col + k - a, hk2, l1, by omega, by omega, by omega, rfl, rfl, rfl, ?_, by simp; omega, ?_, HS2⟩
                    · rw [toks_snoc, List.length_append]; exact hown3
                    · exact bl_grown (bl_alloc hbw2 _) hgrow3 (fun k hk => (hown2.lt _ hk).1)
                  case measure => simp [intOf]; omega
end Go.Proofs.Ytapdepjkcbipaaa
