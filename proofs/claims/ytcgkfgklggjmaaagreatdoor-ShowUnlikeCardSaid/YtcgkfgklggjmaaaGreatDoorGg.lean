import Derived.Test.YtcgkfgklggjmaaaGreatDoorGf
import Derived.KernelRfl
section
namespace Go.Proofs.YtcgkfgklggjmaaaGreatDoor
set_option linter.unusedVariables false
set_option linter.unusedSimpArgs false
open Go.RowKit
theorem lexL_note (cs : List UInt8) (line col : Int) : lexL (35 :: cs) line col = lexL (cs.drop (noteLen cs)) line (col + 1 + noteLen cs) := by rw [lexL, if_pos rfl]
theorem lexL_nl (cs : List UInt8) (line col : Int) : lexL (10 :: cs) line col = lexL cs (line + 1) 1 := by rw [lexL, if_neg (by decide), if_pos rfl]
theorem lexL_bl (c : UInt8) (cs : List UInt8) (line col : Int) (h : c = 32 ∨ c = 9 ∨ c = 13) : lexL (c :: cs) line col = lexL cs line (col + 1) := by
  have h1 : c ≠ 35 := by rcases h with rfl | rfl | rfl <;> decide
  have h2 : c ≠ 10 := by rcases h with rfl | rfl | rfl <;> decide
  rw [lexL, if_neg h1, if_neg h2, if_pos h]
theorem lexL_tok (c : UInt8) (cs : List UInt8) (line col : Int) (h1 : c ≠ 35) (h2 : c ≠ 10) (h3 : ¬ (c = 32 ∨ c = 9 ∨ c = 13)) :
    lexL (c :: cs) line col = if kindOf (c :: cs.take (tokLen c cs)) = 0 then .error (line, col) else consR ⟨kindOf (c :: cs.take (tokLen c cs)), ⟨(c :: cs.take (tokLen c cs)).toArray⟩, line, col⟩ (lexL (cs.drop (tokLen c cs)) line (col + 1 + tokLen c cs)) := by
  rw [lexL, if_neg h1, if_neg h2, if_neg h3]
theorem noteLen_step (s : ByteArray) (k : Nat) (h : k < s.size) (hc : s[k] ≠ 10) : noteLen (s.data.toList.drop k) = 1 + noteLen (s.data.toList.drop (k + 1)) := by
  rw [drop_at s k h, noteLen, List.takeWhile_cons, if_pos (by simpa using hc)]; simp [noteLen]; omega
theorem noteLen_stop (s : ByteArray) (k : Nat) (h : k < s.size) (hc : s[k] = 10) : noteLen (s.data.toList.drop k) = 0 := by
  rw [drop_at s k h, noteLen, List.takeWhile_cons, if_neg (by simp [hc])]; rfl
def lexRR (v : Value) (er l c : Int) : Value := .tuple #[v, .int .i64 er, .int .i64 l, .int .i64 c]
theorem rtokInfo : (Tryz.prog.info? 74).map (fun i => (i.zero, i.size, i.bytes)) = some (some (.agg #[.int .i64 0, .string ⟨#[]⟩, .int .i64 0, .int .i64 0]), 4, 40) := by kernel_rfl
theorem results_tmp4 {fn : Func} {t u v x : Tmp} (h : fn.results = #[.tmp t, .tmp u, .tmp v, .tmp x]) (tmps : Array Value) (P : Program) (w : World) :
    (results fn tmps).run P w = .ok (.tuple #[tmps.getD t undef, tmps.getD u undef, tmps.getD v undef, tmps.getD x undef]) w := by simp [results, h]
set_option maxHeartbeats 4000000 in
set_option maxRecDepth 100000 in
theorem rlex_any (s : ByteArray) (w : World) (hs : s.size ≤ 9223372036854775807) :
    Calls Tryz.prog 31 #[.string s] w (LexOut 74 s w lexRR) := by
  have hlen : s.data.toList.length = s.size := by simp
  have HLEN := Lib.hid hlen
  clear hlen
  by_cases hbig : 8192 < s.size
  · have HA : Hid (lexAll s.data.toList = ([], 6, 1, 1)) := by
      show _ = _
      rw [lexAll, if_pos (by rw [HLEN.out]; exact hbig)]
    go_enter Tryz.func31, Tryz.ntmps31
    go_wp2
    refine bodyPost_ret (results_tmp4 rfl _ _ _) rfl ?_
    exact ⟨.slice none 0 0, [], 6, 1, 1, rfl, World.ownsRow_nil _ _ _ _, bl_refl _, HA.out⟩
  · obtain ⟨i0, hi0, hz0, hz1, hz2⟩ := info_parts rtokInfo
    go_enter Tryz.func31, Tryz.ntmps31
    go_wp2_with fail
    go_loopw [6, 7, 8, 9] (fun v6 v7 v8 v9 wr => ∃ (ts : List Tok) (a : Nat) (line col : Int), a ≤ s.size ∧ 0 ≤ line ∧ line ≤ a + 1 ∧ 0 ≤ col ∧ col ≤ a + 1 ∧ v7 = .int .i64 line ∧ v8 = .int .i64 col ∧ v9 = .int .i64 a ∧
      wr.ownsRow w.heap.size 74 4 v6 ts.length (toksCells ts) ∧ ts.length ≤ a ∧ Below w.heap.size w wr ∧ Hid (LexIn s.data.toList ts a line col)) (fun _ _ _ v9 _ => s.size - (intOf v9).toNat)
    case atStart => exact ⟨[], 0, 1, 1, by omega, by omega, by omega, by omega, by omega, rfl, rfl, rfl, World.ownsRow_nil _ _ _ _, Nat.le_refl _, bl_refl _, by simp [Hid, LexIn, preR_nil]⟩
    case round =>
      obtain ⟨ts, a, line, col, ha, l1, l2, c1, c2, rfl, rfl, rfl, hown, hts, hbw, HI⟩ := hrel
      have hlw := hbw.size
      by_cases hend : s.size ≤ a
      · obtain rfl : a = s.size := by omega
        have HR : Hid (lexAll s.data.toList = (ts ++ [⟨0, ⟨#[]⟩, line, col⟩], 0, 0, 0)) := by
          have h := HI.out
          unfold LexIn at h
          rw [drop_end, lexL] at h
          show _ = _
          rw [lexAll, if_neg (by rw [HLEN.out]; exact hbig), h]; rfl
        clear HI
        go_wp2_with (at_builtin; refine wpList_append_own _ rfl _ _ 67 rfl w.heap.size 74 i0 _ 4 40 Tryz.underlying67 hi0 hz0 hz1 hz2 rfl (by decide) _ _ _ rfl (hown.alloc _) ⟨wr.heap.size, 0, none⟩ 1 1 [.int .i64 0, .string ⟨#[]⟩, .int .i64 line, .int .i64 col] rfl rfl (World.news_of_block (cs := #[.int .i64 0, .string ⟨#[]⟩, .int .i64 line, .int .i64 col]) (t := 74) (fr := (0, 0)) (heap_alloc_new _ _)) (by simp [Value.oneCell']) (by unfold maxLen; omega) (by omega) (by simp; omega) ?_; intro v1 w1 hown1 hgrow1 hnil1)
        refine bodyPost_ret (results_tmp4 rfl _ _ _) rfl ?_
        refine ⟨v1, ts ++ [⟨0, ⟨#[]⟩, line, col⟩], 0, 0, 0, rfl, ?_, ?_, HR.out⟩
        · rw [toks_snoc, List.length_append]
          exact hown1
        · exact bl_grown (bl_alloc hbw _) hgrow1 (fun k hk => (hown.lt _ hk).1)
      · have hlt : a < s.size := by omega
        have hdr := drop_at s a hlt
        have HD := Lib.hid hdr
        have hcl := (s[a]'hlt).toNat_lt
        clear hdr
        by_cases h35 : s[a]'hlt = 35
        · have hb : (((s[a]'hlt).toNat : Int) == 35) = true := by rw [h35]; rfl
          have hb10 : (((s[a]'hlt).toNat : Int) == 10) = false := by rw [h35]; rfl
          have HST : ∀ k : Nat, k = a + 1 + noteLen (s.data.toList.drop (a + 1)) → LexIn s.data.toList ts k line (col + k - a) := fun k hk => by
            have h := HI.out
            unfold LexIn at h ⊢
            rw [HD.out, h35, lexL_note, List.drop_drop] at h
            rw [h, ← hk, show col + 1 + (noteLen (s.data.toList.drop (a + 1)) : Int) = col + k - a from by omega]
          have HSTH := Lib.hid HST
          clear HST h35 HI HD
          go_wp2_with fail
          obtain ⟨wo, rfl⟩ : ∃ wo : World, wo = wr := ⟨_, rfl⟩
          go_loop [11] (fun v => ∃ k : Nat, a + 1 ≤ k ∧ k ≤ s.size ∧ v = .int .i64 k ∧ Hid (k + noteLen (s.data.toList.drop k) = a + 1 + noteLen (s.data.toList.drop (a + 1)))) (fun v => s.size - (intOf v).toNat)
          case atStart => exact ⟨a + 1, by omega, by omega, by go_num, rfl⟩
          case round =>
            obtain ⟨k, hk1, hk2, rfl, HN⟩ := hrel
            by_cases hklt : k < s.size
            · have hckl := (s[k]'hklt).toNat_lt
              by_cases h10 : s[k]'hklt = 10
              · have hbk : (((s[k]'hklt).toNat : Int) != 10) = false := by rw [h10]; rfl
                have HF := Lib.hid (HSTH.out k (by rw [← HN.out, noteLen_stop s k hklt h10, Nat.add_zero]))
                clear h10
                go_wp2
                go_roundw
                case rel => exact ⟨ts, k, line, col + k - a, by omega, l1, by omega, by omega, by omega, rfl, rfl, rfl, hown, by omega, hbw, HF⟩
                case measure => simp [intOf]; omega
              · have hbk : (((s[k]'hklt).toNat : Int) != 10) = true := by simp [bne, u8_nb (d := 10) (n := 10) rfl h10]
                have HX : Hid (k + 1 + noteLen (s.data.toList.drop (k + 1)) = a + 1 + noteLen (s.data.toList.drop (a + 1))) := by
                  show _ = _
                  rw [← HN.out, noteLen_step s k hklt h10]; omega
                clear h10
                go_wp2
                go_round
                case rel => exact ⟨k + 1, by omega, by omega, by go_num, HX⟩
                case measure => simp [intOf]; omega
            · obtain rfl : k = s.size := by omega
              have HF := Lib.hid (HSTH.out s.size (by rw [← HN.out, drop_end]; rfl))
              go_wp2
              go_roundw
              case rel => exact ⟨ts, s.size, line, col + s.size - a, by omega, l1, by omega, by omega, by omega, rfl, rfl, rfl, hown, by omega, hbw, HF⟩
              case measure => simp [intOf]; omega
        · have hb : (((s[a]'hlt).toNat : Int) == 35) = false := u8_nb rfl h35
          by_cases h : s[a]'hlt = 32
          · have HF : Hid (LexIn s.data.toList ts (a + 1) line (col + 1)) := by
              have hh := HI.out
              show LexIn _ _ _ _ _
              unfold LexIn at hh ⊢
              rw [HD.out, h, lexL_bl _ _ _ _ (by decide)] at hh
              exact hh
            have g0 : (((s[a]'hlt).toNat : Int) != 32) = false := by rw [h]; rfl
            have gn : (((s[a]'hlt).toNat : Int) == 10) = false := by rw [h]; rfl
            clear h h35 HI HD
            go_wp2
            go_roundw
            case rel => exact ⟨ts, a + 1, line, col + 1, by omega, by omega, by omega, by omega, by omega, rfl, by go_num, by go_num, hown, by omega, hbw, HF⟩
            case measure => simp [intOf]; omega
          have n32 := h
          have g0 : (((s[a]'hlt).toNat : Int) != 32) = true := by simp [bne, u8_nb (d := 32) (n := 32) rfl h]
          clear h
          by_cases h : s[a]'hlt = 9
          · have HF : Hid (LexIn s.data.toList ts (a + 1) line (col + 1)) := by
              have hh := HI.out
              show LexIn _ _ _ _ _
              unfold LexIn at hh ⊢
              rw [HD.out, h, lexL_bl _ _ _ _ (by decide)] at hh
              exact hh
            have g0 : (((s[a]'hlt).toNat : Int) != 32) = true := by rw [h]; rfl
            have g1 : (((s[a]'hlt).toNat : Int) != 9) = false := by rw [h]; rfl
            have gn : (((s[a]'hlt).toNat : Int) == 10) = false := by rw [h]; rfl
            clear h h35 HI HD
            go_wp2
            go_roundw
            case rel => exact ⟨ts, a + 1, line, col + 1, by omega, by omega, by omega, by omega, by omega, rfl, by go_num, by go_num, hown, by omega, hbw, HF⟩
            case measure => simp [intOf]; omega
          have n9 := h
          have g1 : (((s[a]'hlt).toNat : Int) != 9) = true := by simp [bne, u8_nb (d := 9) (n := 9) rfl h]
          clear h
          by_cases h : s[a]'hlt = 10
          · have HF : Hid (LexIn s.data.toList ts (a + 1) (line + 1) 1) := by
              have hh := HI.out
              show LexIn _ _ _ _ _
              unfold LexIn at hh ⊢
              rw [HD.out, h, lexL_nl] at hh
              exact hh
            have g0 : (((s[a]'hlt).toNat : Int) != 32) = true := by rw [h]; rfl
            have g1 : (((s[a]'hlt).toNat : Int) != 9) = true := by rw [h]; rfl
            have g2 : (((s[a]'hlt).toNat : Int) != 10) = false := by rw [h]; rfl
            have gn : (((s[a]'hlt).toNat : Int) == 10) = true := by rw [h]; rfl
            clear h h35 HI HD
            go_wp2
            go_roundw
            case rel => exact ⟨ts, a + 1, line + 1, 1, by omega, by omega, by omega, by omega, by omega, rfl, rfl, by go_num, hown, by omega, hbw, HF⟩
            case measure => simp [intOf]; omega
          have n10 := h
          have g2 : (((s[a]'hlt).toNat : Int) != 10) = true := by simp [bne, u8_nb (d := 10) (n := 10) rfl h]
          clear h
          by_cases h : s[a]'hlt = 13
          · have HF : Hid (LexIn s.data.toList ts (a + 1) line (col + 1)) := by
              have hh := HI.out
              show LexIn _ _ _ _ _
              unfold LexIn at hh ⊢
              rw [HD.out, h, lexL_bl _ _ _ _ (by decide)] at hh
              exact hh
            have g0 : (((s[a]'hlt).toNat : Int) != 32) = true := by rw [h]; rfl
            have g1 : (((s[a]'hlt).toNat : Int) != 9) = true := by rw [h]; rfl
            have g2 : (((s[a]'hlt).toNat : Int) != 10) = true := by rw [h]; rfl
            have g3 : (((s[a]'hlt).toNat : Int) != 13) = false := by rw [h]; rfl
            have gn : (((s[a]'hlt).toNat : Int) == 10) = false := by rw [h]; rfl
            clear h h35 HI HD
            go_wp2
            go_roundw
            case rel => exact ⟨ts, a + 1, line, col + 1, by omega, by omega, by omega, by omega, by omega, rfl, by go_num, by go_num, hown, by omega, hbw, HF⟩
            case measure => simp [intOf]; omega
          have n13 := h
          have g3 : (((s[a]'hlt).toNat : Int) != 13) = true := by simp [bne, u8_nb (d := 13) (n := 13) rfl h]
          clear h
          have gn : (((s[a]'hlt).toNat : Int) == 10) = false := u8_nb rfl n10
          have n3 : ¬ (s[a]'hlt = 32 ∨ s[a]'hlt = 9 ∨ s[a]'hlt = 13) := fun h => by rcases h with h | h | h <;> simp_all
          have hst := lexL_tok (s[a]'hlt) (s.data.toList.drop (a + 1)) line col h35 n10 n3
          have hI := HI.out
          unfold LexIn at hI
          rw [HD.out, hst] at hI
          have HII := Lib.hid hI
          have htl := tokLen_le (s[a]'hlt) (s.data.toList.drop (a + 1))
          have hbnd : a + 1 + tokLen (s[a]'hlt) (s.data.toList.drop (a + 1)) ≤ s.size := by
            have := HLEN.out
            rw [List.length_drop] at htl; omega
          have hexl : (s.extract a (a + 1 + tokLen (s[a]'hlt) (s.data.toList.drop (a + 1)))).data.toList = s[a]'hlt :: (s.data.toList.drop (a + 1)).take (tokLen (s[a]'hlt) (s.data.toList.drop (a + 1))) := by
            rw [Lib.extract_data, HD.out, show a + 1 + tokLen (s[a]'hlt) (s.data.toList.drop (a + 1)) - a = tokLen (s[a]'hlt) (s.data.toList.drop (a + 1)) + 1 from by omega, List.take_succ_cons]
          have hex2 : (⟨(s[a]'hlt :: (s.data.toList.drop (a + 1)).take (tokLen (s[a]'hlt) (s.data.toList.drop (a + 1)))).toArray⟩ : ByteArray) = s.extract a (a + 1 + tokLen (s[a]'hlt) (s.data.toList.drop (a + 1))) := by rw [← hexl]
          rw [hex2] at HII
          have HEXL := Lib.hid hexl
          generalize htll : s[a]'hlt :: (s.data.toList.drop (a + 1)).take (tokLen (s[a]'hlt) (s.data.toList.drop (a + 1))) = tl at *
          have htk : ∀ l, tokLen (s[a]'hlt) l = if isLet (s[a]'hlt) then runLen l else 0 := fun l => rfl
          have HTK := Lib.hid htk
          generalize hn : tokLen (s[a]'hlt) (s.data.toList.drop (a + 1)) = n at *
          rw [List.drop_drop] at HII
          clear hst hI HI HD h35 n32 n9 n10 n13 n3 htl hexl hex2 htll htk
          have HNN := Lib.hid hn
          clear hn
          go_wp2_with fail
          obtain ⟨wo, rfl⟩ : ∃ wo : World, wo = wr := ⟨_, rfl⟩
          go_loop [11] (fun v => ∃ k : Nat, a + 1 ≤ k ∧ k ≤ s.size ∧ v = .int .i64 k ∧ Hid (k + tokLen (s[a]'hlt) (s.data.toList.drop k) = a + 1 + n)) (fun v => s.size - (intOf v).toNat)
          case atStart => exact ⟨a + 1, by omega, by omega, by go_num, by show _ = _; rw [HNN.out]⟩
          case round =>
            obtain ⟨k, hk1, hk2, rfl, HN⟩ := hrel
            cases hi : isLet (s[a]'hlt) with
            | false =>
              have HNK : Hid (k = a + 1 + n) := by
                have h := HN.out
                rw [HTK.out, hi] at h
                show _ = _
                simpa using h
              have hnk := HNK.out
              obtain rfl : n = k - (a + 1) := by omega
              have hex : a + 1 + (k - (a + 1)) = k := by omega
              rw [hex] at HII HEXL
              clear HN HNN hex HNK hnk
              have hszk : (s.extract a k).size ≤ 9223372036854775807 := Nat.le_trans (show (s.extract a k).size ≤ 8192 by rw [ByteArray.size_extract]; omega) (by decide)
              by_cases hkz : kindOf tl = 0
              · have HR : Hid (lexAll s.data.toList = ([], 3, line, col)) := by
                  have h := HII.out
                  rw [if_pos hkz] at h
                  show _ = _
                  rw [lexAll, if_neg (by rw [HLEN.out]; exact hbig), h]; rfl
                have HOF := Lib.hid (rOf5_any (s.extract a k))
                rw [HEXL.out, hkz] at HOF
                clear hkz HII HEXL
                go_wp2_with (first | (go_at_call 77; refine (rletter_any _ _).mono ?_; rintro e w' ⟨rfl, rfl⟩) | (go_at_call 78; refine (HOF.out _ hszk).mono ?_; rintro e w2 ⟨rfl, hb2⟩))
                refine bodyPost_ret (results_tmp4 rfl _ _ _) rfl ?_
                exact ⟨.slice none 0 0, [], 3, line, col, rfl, World.ownsRow_nil _ _ _ _, bl_call hbw hb2, HR.out⟩
              · have HS2 : Hid (LexIn s.data.toList (ts ++ [⟨kindOf tl, s.extract a k, line, col⟩]) k line (col + k - a)) := by
                  have h := HII.out
                  rw [if_neg hkz] at h
                  show LexIn _ _ _ _ _
                  unfold LexIn
                  rw [h, preR_snoc, show col + 1 + ((k - (a + 1) : Nat) : Int) = col + k - a from by omega]
                have hk0 : (kindOf tl == 0) = false := beq_eq_false_iff_ne.2 hkz
                have HOF := Lib.hid (rOf5_any (s.extract a k))
                rw [HEXL.out] at HOF
                clear hkz HII HEXL
                generalize hkk : kindOf tl = kd at *
                clear hkk
                go_wp2_with (first | (go_at_call 77; refine (rletter_any _ _).mono ?_; rintro e w' ⟨rfl, rfl⟩) | (go_at_call 78; refine (HOF.out _ hszk).mono ?_; rintro e w2 ⟨rfl, hb2⟩; (have hown2 := ownsRow_below hown hb2); (have hbw2 := bl_call hbw hb2); (have hlw2 := hbw2.size)) | (at_builtin; refine wpList_append_own _ rfl _ _ 67 rfl w.heap.size 74 i0 _ 4 40 Tryz.underlying67 hi0 hz0 hz1 hz2 rfl (by decide) _ _ _ rfl (hown2.alloc _) ⟨w2.heap.size, 0, none⟩ 1 1 [.int .i64 kd, .string (s.extract a k), .int .i64 line, .int .i64 col] rfl rfl (World.news_of_block (cs := #[.int .i64 kd, .string (s.extract a k), .int .i64 line, .int .i64 col]) (t := 74) (fr := (0, 0)) (heap_alloc_new _ _)) (by simp [Value.oneCell']) (by unfold maxLen; omega) (by omega) (by simp; omega) ?_; intro v1 w3 hown3 hgrow3 hnil3))
                go_roundw
                case rel =>
                  refine ⟨ts ++ [⟨kd, s.extract a k, line, col⟩], k, line, col + k - a, hk2, l1, by omega, by omega, by omega, rfl, rfl, rfl, ?_, by simp; omega, ?_, HS2⟩
                  · rw [toks_snoc, List.length_append]; exact hown3
                  · exact bl_grown (bl_alloc hbw2 _) hgrow3 (fun k hk => (hown2.lt _ hk).1)
                case measure => simp [intOf]; omega
            | true =>
              by_cases hklt : k < s.size
              · cases hik : isLet (s[k]'hklt) with
                | true =>
                  have HX : Hid (k + 1 + tokLen (s[a]'hlt) (s.data.toList.drop (k + 1)) = a + 1 + n) := by
                    have h := HN.out
                    rw [HTK.out, hi, if_pos rfl, runLen_step s k hklt hik] at h
                    show _ = _
                    rw [HTK.out, hi, if_pos rfl]; omega
                  go_wp2_with (go_at_call 77; refine (rletter_any _ _).mono ?_; rintro e w' ⟨rfl, rfl⟩)
                  go_round
                  case rel => exact ⟨k + 1, by omega, by omega, by go_num, HX⟩
                  case measure => simp [intOf]; omega
                | false =>
                  have HNK : Hid (k = a + 1 + n) := by
                    have h := HN.out
                    rw [HTK.out, hi, if_pos rfl, runLen_stop s k hklt hik] at h
                    exact h
                  have hnk := HNK.out
                  obtain rfl : n = k - (a + 1) := by omega
                  have hex : a + 1 + (k - (a + 1)) = k := by omega
                  rw [hex] at HII HEXL
                  clear HN HNN hex HNK hnk
                  have hszk : (s.extract a k).size ≤ 9223372036854775807 := Nat.le_trans (show (s.extract a k).size ≤ 8192 by rw [ByteArray.size_extract]; omega) (by decide)
                  by_cases hkz : kindOf tl = 0
                  · have HR : Hid (lexAll s.data.toList = ([], 3, line, col)) := by
                      have h := HII.out
                      rw [if_pos hkz] at h
                      show _ = _
                      rw [lexAll, if_neg (by rw [HLEN.out]; exact hbig), h]; rfl
                    have HOF := Lib.hid (rOf5_any (s.extract a k))
                    rw [HEXL.out, hkz] at HOF
                    clear hkz HII HEXL
                    go_wp2_with (first | (go_at_call 77; refine (rletter_any _ _).mono ?_; rintro e w' ⟨rfl, rfl⟩) | (go_at_call 78; refine (HOF.out _ hszk).mono ?_; rintro e w2 ⟨rfl, hb2⟩))
                    refine bodyPost_ret (results_tmp4 rfl _ _ _) rfl ?_
                    exact ⟨.slice none 0 0, [], 3, line, col, rfl, World.ownsRow_nil _ _ _ _, bl_call hbw hb2, HR.out⟩
                  · have HS2 : Hid (LexIn s.data.toList (ts ++ [⟨kindOf tl, s.extract a k, line, col⟩]) k line (col + k - a)) := by
                      have h := HII.out
                      rw [if_neg hkz] at h
                      show LexIn _ _ _ _ _
                      unfold LexIn
                      rw [h, preR_snoc, show col + 1 + ((k - (a + 1) : Nat) : Int) = col + k - a from by omega]
                    have hk0 : (kindOf tl == 0) = false := beq_eq_false_iff_ne.2 hkz
                    have HOF := Lib.hid (rOf5_any (s.extract a k))
                    rw [HEXL.out] at HOF
                    clear hkz HII HEXL
                    generalize hkk : kindOf tl = kd at *
                    clear hkk
                    go_wp2_with (first | (go_at_call 77; refine (rletter_any _ _).mono ?_; rintro e w' ⟨rfl, rfl⟩) | (go_at_call 78; refine (HOF.out _ hszk).mono ?_; rintro e w2 ⟨rfl, hb2⟩; (have hown2 := ownsRow_below hown hb2); (have hbw2 := bl_call hbw hb2); (have hlw2 := hbw2.size)) | (at_builtin; refine wpList_append_own _ rfl _ _ 67 rfl w.heap.size 74 i0 _ 4 40 Tryz.underlying67 hi0 hz0 hz1 hz2 rfl (by decide) _ _ _ rfl (hown2.alloc _) ⟨w2.heap.size, 0, none⟩ 1 1 [.int .i64 kd, .string (s.extract a k), .int .i64 line, .int .i64 col] rfl rfl (World.news_of_block (cs := #[.int .i64 kd, .string (s.extract a k), .int .i64 line, .int .i64 col]) (t := 74) (fr := (0, 0)) (heap_alloc_new _ _)) (by simp [Value.oneCell']) (by unfold maxLen; omega) (by omega) (by simp; omega) ?_; intro v1 w3 hown3 hgrow3 hnil3))
                    go_roundw
                    case rel =>
                      refine ⟨ts ++ [⟨kd, s.extract a k, line, col⟩], k, line, col + k - a, hk2, l1, by omega, by omega, by omega, rfl, rfl, rfl, ?_, by simp; omega, ?_, HS2⟩
                      · rw [toks_snoc, List.length_append]; exact hown3
                      · exact bl_grown (bl_alloc hbw2 _) hgrow3 (fun k hk => (hown2.lt _ hk).1)
                    case measure => simp [intOf]; omega
              · have HNK : Hid (k = a + 1 + n) := by
                  obtain rfl : k = s.size := by omega
                  have h := HN.out
                  rw [HTK.out, hi, if_pos rfl, drop_end] at h
                  exact h
                have hnk := HNK.out
                obtain rfl : n = k - (a + 1) := by omega
                have hex : a + 1 + (k - (a + 1)) = k := by omega
                rw [hex] at HII HEXL
                clear HN HNN hex HNK hnk
                have hszk : (s.extract a k).size ≤ 9223372036854775807 := Nat.le_trans (show (s.extract a k).size ≤ 8192 by rw [ByteArray.size_extract]; omega) (by decide)
                by_cases hkz : kindOf tl = 0
                · have HR : Hid (lexAll s.data.toList = ([], 3, line, col)) := by
                    have h := HII.out
                    rw [if_pos hkz] at h
                    show _ = _
                    rw [lexAll, if_neg (by rw [HLEN.out]; exact hbig), h]; rfl
                  have HOF := Lib.hid (rOf5_any (s.extract a k))
                  rw [HEXL.out, hkz] at HOF
                  clear hkz HII HEXL
                  go_wp2_with (first | (go_at_call 77; refine (rletter_any _ _).mono ?_; rintro e w' ⟨rfl, rfl⟩) | (go_at_call 78; refine (HOF.out _ hszk).mono ?_; rintro e w2 ⟨rfl, hb2⟩))
                  refine bodyPost_ret (results_tmp4 rfl _ _ _) rfl ?_
                  exact ⟨.slice none 0 0, [], 3, line, col, rfl, World.ownsRow_nil _ _ _ _, bl_call hbw hb2, HR.out⟩
                · have HS2 : Hid (LexIn s.data.toList (ts ++ [⟨kindOf tl, s.extract a k, line, col⟩]) k line (col + k - a)) := by
                    have h := HII.out
                    rw [if_neg hkz] at h
                    show LexIn _ _ _ _ _
                    unfold LexIn
                    rw [h, preR_snoc, show col + 1 + ((k - (a + 1) : Nat) : Int) = col + k - a from by omega]
                  have hk0 : (kindOf tl == 0) = false := beq_eq_false_iff_ne.2 hkz
                  have HOF := Lib.hid (rOf5_any (s.extract a k))
                  rw [HEXL.out] at HOF
                  clear hkz HII HEXL
                  generalize hkk : kindOf tl = kd at *
                  clear hkk
                  go_wp2_with (first | (go_at_call 77; refine (rletter_any _ _).mono ?_; rintro e w' ⟨rfl, rfl⟩) | (go_at_call 78; refine (HOF.out _ hszk).mono ?_; rintro e w2 ⟨rfl, hb2⟩; (have hown2 := ownsRow_below hown hb2); (have hbw2 := bl_call hbw hb2); (have hlw2 := hbw2.size)) | (at_builtin; refine wpList_append_own _ rfl _ _ 67 rfl w.heap.size 74 i0 _ 4 40 Tryz.underlying67 hi0 hz0 hz1 hz2 rfl (by decide) _ _ _ rfl (hown2.alloc _) ⟨w2.heap.size, 0, none⟩ 1 1 [.int .i64 kd, .string (s.extract a k), .int .i64 line, .int .i64 col] rfl rfl (World.news_of_block (cs := #[.int .i64 kd, .string (s.extract a k), .int .i64 line, .int .i64 col]) (t := 74) (fr := (0, 0)) (heap_alloc_new _ _)) (by simp [Value.oneCell']) (by unfold maxLen; omega) (by omega) (by simp; omega) ?_; intro v1 w3 hown3 hgrow3 hnil3))
                  go_roundw
                  case rel =>
                    refine ⟨ts ++ [⟨kd, s.extract a k, line, col⟩], k, line, col + k - a, hk2, l1, by omega, by omega, by omega, rfl, rfl, rfl, ?_, by simp; omega, ?_, HS2⟩
                    · rw [toks_snoc, List.length_append]; exact hown3
                    · exact bl_grown (bl_alloc hbw2 _) hgrow3 (fun k hk => (hown2.lt _ hk).1)
                  case measure => simp [intOf]; omega
end Go.Proofs.YtcgkfgklggjmaaaGreatDoor
end
section
namespace Go.Proofs.YtcgkfgklggjmaaaGreatDoor.Par
set_option linter.unusedVariables false
set_option linter.unusedSimpArgs false
/-! a plan's plain text, read: its tokens -/
/-- the tokens, whatever their places -/
def Tw (ls : List Tok) (ws : List (Int × List UInt8)) : Prop := ls.map (fun t => (t.kind, t.text.data.toList)) = ws
/-- a text that ends where a token ends: what stands behind it is read by itself -/
def Lx (l : List UInt8) (ws : List (Int × List UInt8)) : Prop := ∀ (r : List UInt8) (line col : Int), ∃ ls line' col', lexL (l ++ r) line col = preR ls (lexL r line' col') ∧ Tw ls ws
theorem preR_app (a b : List Tok) (r : Except (Int × Int) (List Tok)) : preR (a ++ b) r = preR a (preR b r) := by cases r <;> simp [preR]
theorem preR_one (t : Tok) (r : Except (Int × Int) (List Tok)) : preR [t] r = consR t r := by cases r <;> simp [preR, consR]
theorem Lx.nil : Lx [] [] := fun r line col => ⟨[], line, col, by rw [preR_nil]; rfl, rfl⟩
theorem Lx.app {a b : List UInt8} {u v : List (Int × List UInt8)} (h : Lx a u) (k : Lx b v) : Lx (a ++ b) (u ++ v) := by
  intro r line col
  obtain ⟨l1, n1, c1, e1, t1⟩ := h (b ++ r) line col
  obtain ⟨l2, n2, c2, e2, t2⟩ := k r n1 c1
  refine ⟨l1 ++ l2, n2, c2, by rw [List.append_assoc, e1, e2, preR_app], ?_⟩
  unfold Tw at t1 t2 ⊢
  rw [List.map_append, t1, t2]
/-- a word ahead of a blank -/
theorem Lx.word {w : List UInt8} (h : kindOf w ≠ 0) : Lx (w ++ [32]) [(kindOf w, w)] := by
  intro r line col
  refine ⟨[⟨kindOf w, ⟨w.toArray⟩, line, col⟩], line, col + w.length + 1, ?_, by simp [Tw]⟩
  rw [List.append_assoc, List.singleton_append, lex_tok w r line col h, preR_one]
/-- a word ahead of a semicolon -/
theorem Lx.semi {w : List UInt8} (h : kindOf w ≠ 0) (hl : w ≠ [] ∧ w.all isLet = true) : Lx (w ++ [59]) [(kindOf w, w), (5, [59])] := by
  intro r line col
  refine ⟨[⟨kindOf w, ⟨w.toArray⟩, line, col⟩, ⟨5, ⟨#[59]⟩, line, col + w.length⟩], line, col + w.length + 1, ?_, by simp [Tw]⟩
  rw [List.append_assoc, List.singleton_append, lex_semi w r line col h hl]
  cases lexL r line (col + w.length + 1) <;> simp [preR, consR]
theorem Lx.nl : Lx [10] [] := fun r line col => ⟨[], line + 1, 1, by rw [preR_nil, List.singleton_append, lexL_nl], rfl⟩
theorem Lx.tab : Lx [9] [] := fun r line col => ⟨[], line, col + 1, by rw [preR_nil, List.singleton_append, lexL_bl 9 r line col (by decide)], rfl⟩
theorem Lx.sp : Lx [32] [] := fun r line col => ⟨[], line, col + 1, by rw [preR_nil, List.singleton_append, lexL_bl 32 r line col (by decide)], rfl⟩
theorem Lx.sign (c : UInt8) (hc : c = 123 ∨ c = 125 ∨ c = 59) : Lx [c] [(5, [c])] := by
  intro r line col
  have hk : kindOf [c] = 5 := by rcases hc with rfl | rfl | rfl <;> decide +kernel
  have ht : tokLen c r = 0 := by
    have : isLet c = false := by rcases hc with rfl | rfl | rfl <;> decide
    unfold tokLen; rw [this]; rfl
  refine ⟨[⟨5, ⟨#[c]⟩, line, col⟩], line, col + 1, ?_, by simp [Tw]⟩
  rw [List.singleton_append, lexL_tok c r line col (by rcases hc with rfl | rfl | rfl <;> decide) (by rcases hc with rfl | rfl | rfl <;> decide) (by rcases hc with rfl | rfl | rfl <;> decide), ht, List.take_zero, List.drop_zero, hk, if_neg (by decide), preR_one]
  rw [show col + 1 + ((0 : Nat) : Int) = col + 1 from by omega]
theorem Lx.flat {α : Type} (f : α → List UInt8) (g : α → List (Int × List UInt8)) : ∀ (l : List α), (∀ x ∈ l, Lx (f x) (g x)) → Lx (l.flatMap f) (l.flatMap g)
  | [], _ => Lx.nil
  | x :: l, h => by
    rw [List.flatMap_cons, List.flatMap_cons]
    exact (h x (by simp)).app (Lx.flat f g l fun y hy => h y (by simp [hy]))
/-- the whole text's tokens -/
theorem Lx.all {l : List UInt8} {ws : List (Int × List UInt8)} (h : Lx l ws) (hl : l.length ≤ 8192) : ∃ ls n c, lexAll l = (ls ++ [⟨0, ⟨#[]⟩, n, c⟩], 0, 0, 0) ∧ Tw ls ws := by
  obtain ⟨ls, n, c, e, t⟩ := h [] 1 1
  rw [List.append_nil] at e
  refine ⟨ls, n, c, ?_, t⟩
  unfold lexAll
  rw [if_neg (by omega), e]
  have : lexL [] n c = .ok [⟨0, ⟨#[]⟩, n, c⟩] := by rw [lexL]
  rw [this]; rfl
end Go.Proofs.YtcgkfgklggjmaaaGreatDoor.Par
end
section
namespace Go.Proofs.YtcgkfgklggjmaaaGreatDoor.Par
set_option linter.unusedVariables false
set_option linter.unusedSimpArgs false
/-! numbers' texts are read back -/
theorem parse_most {l : List UInt8} {pl M m v : Int} (h : Dec.parseL l pl M = (v, 0)) (hv : v ≤ m) : Dec.parseL l pl m = (v, 0) := by
  unfold Dec.parseL Dec.parseW at h ⊢
  split at h
  · cases h
  · rename_i h1
    rw [if_neg h1]
    split at h
    · cases h
    · rename_i h2
      rw [if_neg h2]
      split at h
      · cases h
      · rename_i h3
        injection h with h4 _
        rw [if_neg (by rintro (c | c); exact h3 (.inl c); omega), h4]
theorem npV_dig {n m : Int} (h0 : 0 ≤ n) (h : n ≤ m) (h1 : n < 9223372036854775808) : npV ⟨(digT n).toArray⟩ 0 m = (n, 0) := by
  obtain ⟨N, rfl⟩ : ∃ N : Nat, n = N := ⟨n.toNat, by omega⟩
  have hb := Dec.parse_back N 0 (by omega) (by decide)
  have he : Dec.textN N 0 = Lib.decDigits N := by
    have hf : Dec.fracL N 0 = [] := rfl
    rw [Dec.textN, Dec.tailL, if_pos hf, List.append_nil, Nat.pow_zero, Nat.div_one]
  rw [he] at hb
  exact parse_most hb h
theorem npV_dec {n m : Int} (k : Nat) (hk : k ≤ 9) (h0 : 0 ≤ n) (h : n ≤ m) (h1 : n < 9223372036854775808) : npV ⟨(Dec.textL n k).toArray⟩ k m = (n, 0) := by
  obtain ⟨N, rfl⟩ : ∃ N : Nat, n = N := ⟨n.toNat, by omega⟩
  have hb := Dec.parse_back N k (by omega) hk
  have he := Dec.text_good N k hk
  unfold npV
  rw [he]
  exact parse_most hb h
theorem word_dig {l : List UInt8} (h : digFirst l = true) : isWord l = false := by
  cases hw : isWord l with
  | false => rfl
  | true =>
    have hm : l ∈ wordsL := by simpa [isWord] using hw
    have ha : ∀ w ∈ wordsL, digFirst w = false := by decide
    rw [ha l hm] at h
    cases h
theorem dig_let {l : List UInt8} (h : l.all Dec.isDig = true) : l.all isLet = true := by
  rw [List.all_eq_true] at h ⊢
  intro x hx
  have := h x hx
  simp only [Dec.isDig, isDig, decide_eq_true_eq, Bool.and_eq_true] at this
  simp only [isLet, decide_eq_true_eq]
  omega
theorem dec_word (N k : Nat) (hk : k ≤ 9) : kindOf (Dec.textN N k) = 3 ∧ Dec.textN N k ≠ [] ∧ (Dec.textN N k).all isLet = true := by
  unfold Dec.textN Dec.tailL
  by_cases hf : Dec.fracL N k = []
  · rw [if_pos hf, List.append_nil]
    exact ⟨kind_digits _, Dec.dec_ne _, dec_let _⟩
  · rw [if_neg hf]
    have hd := Dec.dec_all (N / 10 ^ k)
    have hne := Dec.dec_ne (N / 10 ^ k)
    have hfa := Dec.frac_all N k
    have hlead := Dec.lead_dec (N / 10 ^ k)
    generalize Lib.decDigits (N / 10 ^ k) = a at *
    generalize Dec.fracL N k = f at *
    have hl : (a ++ 46 :: f).all isLet = true := by
      rw [List.all_append, dig_let hd, List.all_cons, dig_let hfa]; decide
    have hne2 : a ++ 46 :: f ≠ [] := by simp
    have hdf : digFirst (a ++ 46 :: f) = true := by
      cases a with
      | nil => exact absurd rfl hne
      | cons c cs =>
        have hd' : (c :: cs).all isDig = true := hd
        simp only [List.all_cons, Bool.and_eq_true] at hd'
        exact hd'.1
    have hnum : numForm (a ++ 46 :: f) = 2 := by
      have hb1 : digitsB a = true := by
        unfold digitsB; rw [show a.all isDig = true from hd]
        cases a with
        | nil => exact absurd rfl hne
        | cons c cs => rfl
      have hb2 : digitsB f = true := by
        unfold digitsB; rw [show f.all isDig = true from hfa]
        cases f with
        | nil => exact absurd rfl hf
        | cons c cs => rfl
      have hz : ¬ (1 < a.length ∧ a.getD 0 0 = 48) := by
        rintro ⟨a1, a2⟩
        cases a with
        | nil => exact absurd rfl hne
        | cons c cs =>
          obtain rfl : c = 48 := a2
          unfold Dec.leadB at hlead
          rw [decide_eq_true a1] at hlead
          cases hlead
      unfold numForm
      rw [Dec.cut_point hd]
      simp only
      rw [if_neg (by rw [hb1]; exact fun h => h.elim (fun h => by cases h) hz), if_neg (by decide), if_pos hb2]
    refine ⟨?_, hne2, hl⟩
    rw [kind_let hl hne2, word_dig hdf, hdf, hnum]
    simp
end Go.Proofs.YtcgkfgklggjmaaaGreatDoor.Par
end
section
namespace Go.Proofs.YtcgkfgklggjmaaaGreatDoor
set_option linter.unusedVariables false
set_option linter.unusedSimpArgs false
/-! every number is a day's -/
theorem year_ex (n : Int) (h0 : 0 ≤ n) : ∀ (k : Nat), n < dby (1 + k) → ∃ y : Int, 1 ≤ y ∧ y ≤ k ∧ dby y ≤ n ∧ n < dby (y + 1)
  | 0, h => by
    have : dby (1 + ((0 : Nat) : Int)) = 0 := by decide
    omega
  | k + 1, h => by
    by_cases hk : n < dby (1 + k)
    · obtain ⟨y, h1, h2, h3, h4⟩ := year_ex n h0 k hk
      exact ⟨y, h1, by omega, h3, h4⟩
    · refine ⟨1 + k, by omega, by omega, by omega, ?_⟩
      rwa [show (1 : Int) + k + 1 = 1 + ((k + 1 : Nat) : Int) from by omega]
theorem month_ex (y r : Int) (h0 : 0 ≤ r) : ∀ (k : Nat), k ≤ 12 → r < cum y (1 + k) → ∃ m : Int, 1 ≤ m ∧ m ≤ k ∧ cum y m ≤ r ∧ r < cum y (m + 1)
  | 0, _, h => by
    rw [show (1 : Int) + ((0 : Nat) : Int) = 1 from by omega, cum_one] at h
    omega
  | k + 1, hk12, h => by
    by_cases hk : r < cum y (1 + k)
    · obtain ⟨m, h1, h2, h3, h4⟩ := month_ex y r h0 k (by omega) hk
      exact ⟨m, h1, by omega, h3, h4⟩
    · refine ⟨1 + k, by omega, by omega, by omega, ?_⟩
      rwa [show (1 : Int) + k + 1 = 1 + ((k + 1 : Nat) : Int) from by omega]
theorem of_ex (n : Int) (h0 : 0 ≤ n) (h1 : n < 3652059) : ∃ y m d : Int, goodB y m d = true ∧ numD y m d = n := by
  obtain ⟨y, y1, y2, y3, y4⟩ := year_ex n h0 9999 (by rw [show (1 : Int) + ((9999 : Nat) : Int) = 10000 from rfl, dby_end]; exact h1)
  have hs := dby_succ y
  have hl := lp_01 y
  have he := cum_end y
  obtain ⟨m, m1, m2, m3, m4⟩ := month_ex y (n - dby y) (by omega) 12 (by omega) (by rw [show (1 : Int) + ((12 : Nat) : Int) = 13 from rfl]; omega)
  have hc := cum_succ y m m1 (by omega)
  refine ⟨y, m, n - dby y - cum y m + 1, good_mk y1 (by omega) (by omega) (by omega), ?_⟩
  unfold numD; omega
end Go.Proofs.YtcgkfgklggjmaaaGreatDoor
end
section
namespace Go.Proofs.YtcgkfgklggjmaaaGreatDoor
set_option linter.unusedVariables false
set_option linter.unusedSimpArgs false
/-! texts and days: one by one -/
theorem dig_back (c : UInt8) (h : isDig c = true) : UInt8.ofNat (48 + (digI c).toNat) = c := by
  have h := of_decide_eq_true h
  have e : 48 + (digI c).toNat = c.toNat := by unfold digI; omega
  rw [e, UInt8.ofNat_toNat]
theorem digL_numL : ∀ (n : Nat) (l : List UInt8), l.length = n → l.all isDig = true → digL (numL l).toNat n = l
  | 0, l, h, _ => by
    obtain rfl := List.length_eq_zero_iff.1 h
    rfl
  | n + 1, l, h, hd => by
    have hne : l ≠ [] := by rintro rfl; simp at h
    obtain ⟨l', c, rfl⟩ : ∃ l' c, l = l' ++ [c] := ⟨l.dropLast, l.getLast hne, (List.dropLast_concat_getLast hne).symm⟩
    rw [List.all_append, Bool.and_eq_true] at hd
    obtain ⟨hd1, hd2⟩ := hd
    have hdc : isDig c = true := by simpa using hd2
    have hl : l'.length = n := by simpa using h
    have hb := digI_bd hdc
    have hn := numL_bd l' hd1
    have ih := digL_numL n l' hl hd1
    have e1 : (10 * numL l' + digI c).toNat / 10 = (numL l').toNat := by omega
    have e2 : (10 * numL l' + digI c).toNat % 10 = (digI c).toNat := by omega
    rw [numL_snoc, digL, e1, e2, ih, dig_back c hdc]
theorem isDig_of (k : Nat) : isDig (UInt8.ofNat (48 + k % 10)) = true := by
  unfold isDig
  rw [UInt8.toNat_ofNat_of_lt' (show 48 + k % 10 < 256 by omega)]
  exact decide_eq_true (by omega)
theorem digI_of (k : Nat) : digI (UInt8.ofNat (48 + k % 10)) = ((k % 10 : Nat) : Int) := by
  unfold digI
  rw [UInt8.toNat_ofNat_of_lt' (show 48 + k % 10 < 256 by omega)]
  omega
theorem digL_dig : ∀ (k n : Nat), (digL n k).all isDig = true
  | 0, _ => rfl
  | k + 1, n => by
    rw [digL, List.all_append, digL_dig k (n / 10), Bool.true_and, List.all_cons, List.all_nil, Bool.and_true]
    exact isDig_of n
theorem numL_digL : ∀ (k n : Nat), n < 10 ^ k → numL (digL n k) = n
  | 0, n, h => by
    obtain rfl : n = 0 := by simpa using h
    rfl
  | k + 1, n, h => by
    rw [digL, numL_snoc, numL_digL k (n / 10) (by rw [Nat.pow_succ] at h; omega), digI_of]
    omega
/-- a text that is a day's is what that day's text is -/
theorem parse_text {l : List UInt8} (h : parseOk l = true) : l.length = 10 ∧ goodB (parseY l) (parseM l) (parseD l) = true ∧ dayL (parseY l) (parseM l) (parseD l) = l := by
  unfold parseOk at h
  rw [Bool.and_eq_true] at h
  obtain ⟨hs, hg⟩ := h
  unfold dateShape at hs
  simp only [Bool.and_eq_true, beq_iff_eq] at hs
  obtain ⟨⟨⟨⟨⟨hl, h4⟩, h7⟩, hy⟩, hm⟩, hd⟩ := hs
  refine ⟨hl, hg, ?_⟩
  unfold dayL parseY parseM parseD
  rw [digL_numL 4 _ (by simp; omega) hy, digL_numL 2 _ (by simp; omega) hm, digL_numL 2 _ (by simp; omega) hd]
  match l, hl with
  | [a0, a1, a2, a3, a4, a5, a6, a7, a8, a9], _ =>
    simp at h4 h7
    subst h4 h7
    rfl
/-- a day's text is that day's -/
theorem text_parse {y m d : Int} (h : goodB y m d = true) : parseOk (dayL y m d) = true ∧ parseY (dayL y m d) = y ∧ parseM (dayL y m d) = m ∧ parseD (dayL y m d) = d := by
  obtain ⟨h1, h2, h3, h4, h5, h6, h7⟩ := good_of h
  have t4 : (dayL y m d).take 4 = digL y.toNat 4 := List.take_left' (digL_len 4 _)
  have d4 : (dayL y m d).drop 4 = 45 :: (digL m.toNat 2 ++ 45 :: digL d.toNat 2) := List.drop_left' (digL_len 4 _)
  have d5 : (dayL y m d).drop 5 = digL m.toNat 2 ++ 45 :: digL d.toNat 2 := by
    rw [show 5 = 4 + 1 from rfl, ← List.drop_drop, d4]; rfl
  have t2 : ((dayL y m d).drop 5).take 2 = digL m.toNat 2 := by rw [d5]; exact List.take_left' (digL_len 2 _)
  have d7 : (dayL y m d).drop 7 = 45 :: digL d.toNat 2 := by
    rw [show 7 = 5 + 2 from rfl, ← List.drop_drop, d5]; exact List.drop_left' (digL_len 2 _)
  have d8 : (dayL y m d).drop 8 = digL d.toNat 2 := by
    rw [show 8 = 7 + 1 from rfl, ← List.drop_drop, d7]; rfl
  have g4 : (dayL y m d).getD 4 0 = 45 := by
    have : (dayL y m d)[4]? = some 45 := by rw [← List.head?_drop, d4]; rfl
    simp [List.getD, this]
  have g7 : (dayL y m d).getD 7 0 = 45 := by
    have : (dayL y m d)[7]? = some 45 := by rw [← List.head?_drop, d7]; rfl
    simp [List.getD, this]
  have ey : parseY (dayL y m d) = y := by unfold parseY; rw [t4, numL_digL 4 _ (by show y.toNat < 10000; omega)]; omega
  have em : parseM (dayL y m d) = m := by unfold parseM; rw [t2, numL_digL 2 _ (by show m.toNat < 100; omega)]; omega
  have ed : parseD (dayL y m d) = d := by unfold parseD; rw [d8, numL_digL 2 _ (by show d.toNat < 100; omega)]; omega
  refine ⟨?_, ey, em, ed⟩
  unfold parseOk
  rw [ey, em, ed, h, Bool.and_true]
  unfold dateShape
  rw [dayL_len, g4, g7, t4, t2, d8, digL_dig, digL_dig, digL_dig]
  rfl
end Go.Proofs.YtcgkfgklggjmaaaGreatDoor
end
section
namespace Go.Proofs.YtcgkfgklggjmaaaGreatDoor.Par
set_option linter.unusedVariables false
set_option linter.unusedSimpArgs false
theorem k_plan : kindOf [112, 108, 97, 110] = 2 := by kernel_rfl
theorem k_currency : kindOf [99, 117, 114, 114, 101, 110, 99, 121] = 2 := by kernel_rfl
theorem k_horizon : kindOf [104, 111, 114, 105, 122, 111, 110] = 2 := by kernel_rfl
theorem k_meter : kindOf [109, 101, 116, 101, 114] = 2 := by kernel_rfl
theorem k_unit : kindOf [117, 110, 105, 116] = 2 := by kernel_rfl
theorem k_max : kindOf [109, 97, 120] = 2 := by kernel_rfl
theorem k_fee : kindOf [102, 101, 101] = 2 := by kernel_rfl
theorem k_charge : kindOf [99, 104, 97, 114, 103, 101] = 2 := by kernel_rfl
theorem k_from : kindOf [102, 114, 111, 109] = 2 := by kernel_rfl
theorem k_to : kindOf [116, 111] = 2 := by kernel_rfl
theorem k_allowance : kindOf [97, 108, 108, 111, 119, 97, 110, 99, 101] = 2 := by kernel_rfl
theorem k_block : kindOf [98, 108, 111, 99, 107] = 2 := by kernel_rfl
theorem k_volume : kindOf [118, 111, 108, 117, 109, 101] = 2 := by kernel_rfl
theorem k_graduated : kindOf [103, 114, 97, 100, 117, 97, 116, 101, 100] = 2 := by kernel_rfl
theorem k_rest : kindOf [114, 101, 115, 116] = 2 := by kernel_rfl
theorem k_rate : kindOf [114, 97, 116, 101] = 2 := by kernel_rfl
theorem k_upto : kindOf [117, 112, 116, 111] = 2 := by kernel_rfl
theorem k_round : kindOf [114, 111, 117, 110, 100] = 2 := by kernel_rfl
theorem k_percent : kindOf [112, 101, 114, 99, 101, 110, 116] = 2 := by kernel_rfl
theorem k_cap : kindOf [99, 97, 112] = 2 := by kernel_rfl
theorem k_minimum : kindOf [109, 105, 110, 105, 109, 117, 109] = 2 := by kernel_rfl
theorem k_add : kindOf [97, 100, 100] = 2 := by kernel_rfl
theorem k_floor : kindOf [102, 108, 111, 111, 114] = 2 := by kernel_rfl
theorem k_ceil : kindOf [99, 101, 105, 108] = 2 := by kernel_rfl
theorem k_halfup : kindOf [104, 97, 108, 102, 117, 112] = 2 := by kernel_rfl
theorem k_halfeven : kindOf [104, 97, 108, 102, 101, 118, 101, 110] = 2 := by kernel_rfl
/-- a day's text is read back -/
theorem day_read {t : List UInt8} (h : kindOf t = 4) : dayT (dp ⟨t.toArray⟩) = t := by
  have hp : parseOk t = true := by
    unfold kindOf at h
    split at h
    · cases h
    split at h
    · cases h
    split at h
    · cases h
    split at h
    · cases h
    split at h
    · cases h
    split at h
    · assumption
    · cases h
  have hp' : parseOk (⟨t.toArray⟩ : ByteArray).data.toList = true := hp
  obtain ⟨e1, e2, e3, _⟩ := p_yes hp'
  obtain ⟨_, hg, hl⟩ := parse_text hp
  unfold dayT dp textL
  simp only [e1, e2, e3]
  rw [if_pos hg]
  exact hl
theorem let_of {t : List UInt8} (h : kindOf t ≠ 0) (h5 : kindOf t ≠ 5) : t ≠ [] ∧ t.all isLet = true := by
  rcases kind_shape h with h1 | h1
  · exfalso; apply h5; rcases h1 with rfl | rfl | rfl <;> kernel_rfl
  · exact h1
/-- a day that is read -/
def DOk (d : Day) : Prop := kindOf (dayT d) = 4 ∧ dp ⟨(dayT d).toArray⟩ = d
theorem dok_of {t : ByteArray} (h : kindOf t.data.toList = 4) : DOk (dp t) := by
  have e : (⟨t.data.toList.toArray⟩ : ByteArray) = t := by simp
  have hb := day_read h
  rw [e] at hb
  unfold DOk
  rw [hb, e]
  exact ⟨h, rfl⟩
def NOk (b : ByteArray) : Prop := kindOf b.data.toList = 1
def WOk (w : Win) : Prop := (w.has = true ∧ DOk w.from_ ∧ DOk w.to_) ∨ w = noWin
def TOk (t : Tier) : Prop := (0 ≤ t.upto ∧ t.upto ≤ 1000000) ∧ (0 ≤ t.rate ∧ t.rate ≤ 1000000000000)
def AOk (a : Adj) : Prop := (a.kind = 1 ∧ (0 ≤ a.n ∧ a.n ≤ 100000000) ∧ 0 ≤ a.mode ∧ a.mode ≤ 3) ∨ ((a.kind = 2 ∨ a.kind = 3 ∨ a.kind = 4) ∧ (0 ≤ a.n ∧ a.n ≤ 1000000000000) ∧ a.mode = 0)
structure COk (c : Chg) : Prop where
  meter : NOk c.meter
  win : WOk c.win
  allow : 0 ≤ c.allow ∧ c.allow ≤ 1000000
  block : 0 ≤ c.block ∧ c.block ≤ 1000000
  kind : c.kind = 1 ∨ c.kind = 2
  tiers : ∃ l r, c.tiers = l ++ [⟨0, r⟩] ∧ (∀ t ∈ l, TOk t) ∧ 0 ≤ r ∧ r ≤ 1000000000000
  mode : 0 ≤ c.mode ∧ c.mode ≤ 3
  adjs : ∀ a ∈ c.adjs, AOk a
/-- what a plan is that is read without a fault -/
structure POk (p : Plan) : Prop where
  name : NOk p.name
  cur : NOk p.cur
  from_ : DOk p.from_
  to_ : DOk p.to_
  mets : ∀ m ∈ p.mets, NOk m.name ∧ NOk m.unit ∧ 0 ≤ m.max ∧ m.max ≤ 2000
  fees : ∀ f ∈ p.fees, (0 ≤ f.amount ∧ f.amount ≤ 1000000000000) ∧ WOk f.win
  chgs : ∀ c ∈ p.chgs, COk c
/-! the tokens -/
abbrev Wd := Int × List UInt8
def tkW (w : Win) : List Wd := if w.has = true then [(2, [102, 114, 111, 109]), (4, dayT w.from_), (2, [116, 111]), (4, dayT w.to_)] else []
def tkM (m : Met) : List Wd := [(2, [109, 101, 116, 101, 114]), (1, m.name.data.toList), (2, [117, 110, 105, 116]), (1, m.unit.data.toList), (2, [109, 97, 120]), (3, digT m.max), (5, [59])]
def tkF (f : Fee) : List Wd := [(2, [102, 101, 101]), (3, digT f.amount)] ++ tkW f.win ++ [(5, [59])]
def tkT (t : Tier) : List Wd := [(2, [117, 112, 116, 111]), (3, digT t.upto), (2, [114, 97, 116, 101]), (3, Dec.textL t.rate 6), (5, [59])]
def tkZ (r : Int) : List Wd := [(2, [114, 101, 115, 116]), (2, [114, 97, 116, 101]), (3, Dec.textL r 6), (5, [59])]
def modeW (m : Int) : List Wd := if m = 0 then [(2, [102, 108, 111, 111, 114])] else if m = 1 then [(2, [99, 101, 105, 108])] else if m = 2 then [(2, [104, 97, 108, 102, 117, 112])] else if m = 3 then [(2, [104, 97, 108, 102, 101, 118, 101, 110])] else []
def tkA (a : Adj) : List Wd :=
  if a.kind = 1 then [(2, [112, 101, 114, 99, 101, 110, 116]), (3, Dec.textL a.n 3)] ++ modeW a.mode ++ [(5, [59])]
  else if a.kind = 2 then [(2, [99, 97, 112]), (3, digT a.n), (5, [59])]
  else if a.kind = 3 then [(2, [109, 105, 110, 105, 109, 117, 109]), (3, digT a.n), (5, [59])]
  else if a.kind = 4 then [(2, [97, 100, 100]), (3, digT a.n), (5, [59])] else []
def tkC (c : Chg) (l : List Tier) (r : Int) : List Wd :=
  [(2, [99, 104, 97, 114, 103, 101]), (1, c.meter.data.toList)] ++ tkW c.win ++ [(5, [123])] ++ (if c.allow ≠ 0 then [(2, [97, 108, 108, 111, 119, 97, 110, 99, 101]), (3, digT c.allow), (5, [59])] else []) ++ (if c.block ≠ 1 then [(2, [98, 108, 111, 99, 107]), (3, digT c.block), (5, [59])] else []) ++
  [if c.kind = 2 then (2, [118, 111, 108, 117, 109, 101]) else (2, [103, 114, 97, 100, 117, 97, 116, 101, 100]), (5, [123])] ++ l.flatMap tkT ++ tkZ r ++ [(5, [125]), (2, [114, 111, 117, 110, 100])] ++ modeW c.mode ++ [(5, [59])] ++ c.adjs.flatMap tkA ++ [(5, [125])]
def tkH (p : Plan) : List Wd := [(2, [112, 108, 97, 110]), (1, p.name.data.toList), (2, [99, 117, 114, 114, 101, 110, 99, 121]), (1, p.cur.data.toList), (5, [59]), (2, [104, 111, 114, 105, 122, 111, 110]), (4, dayT p.from_), (4, dayT p.to_), (5, [59])]
theorem Lx.kw {w : List UInt8} {k : Int} (h : kindOf w = k) (h0 : k ≠ 0) : Lx (w ++ [32]) [(k, w)] := by
  subst h; exact Lx.word h0
theorem Lx.ks {w : List UInt8} {k : Int} (h : kindOf w = k) (h0 : k ≠ 0) (h5 : k ≠ 5) : Lx (w ++ [59]) [(k, w), (5, [59])] := by
  subst h; exact Lx.semi h0 (let_of h0 h5)
theorem Lx.of {a b : List UInt8} {u v : List Wd} (h : Lx a u) (e : b = a) (f : v = u) : Lx b v := by subst e f; exact h
theorem k_dig {n : Int} : kindOf (digT n) = 3 := kind_digits _
theorem k_dec {n : Int} (k : Nat) (hk : k ≤ 9) (h0 : 0 ≤ n) : kindOf (Dec.textL n k) = 3 := by
  obtain ⟨N, rfl⟩ : ∃ N : Nat, n = N := ⟨n.toNat, by omega⟩
  rw [Dec.text_good N k hk]; exact (dec_word N k hk).1
theorem lx_met {m : Met} (h1 : NOk m.name) (h2 : NOk m.unit) : Lx (metL m) (tkM m) :=
  ((((((Lx.kw k_meter (by decide)).app (Lx.kw h1 (by decide))).app (Lx.kw k_unit (by decide))).app (Lx.kw h2 (by decide))).app (Lx.kw k_max (by decide))).app (Lx.ks (k_dig (n := m.max)) (by decide) (by decide)) |>.app Lx.nl).of (by simp [metL]) (by simp [tkM])
theorem lx_head {p : Plan} (h : POk p) : Lx (headL p) (tkH p) :=
  ((((((((Lx.kw k_plan (by decide)).app (Lx.kw h.name (by decide))).app (Lx.kw k_currency (by decide))).app (Lx.ks h.cur (by decide) (by decide))).app Lx.nl).app (Lx.kw k_horizon (by decide))).app (Lx.kw h.from_.1 (by decide))).app (Lx.ks h.to_.1 (by decide) (by decide)) |>.app Lx.nl).of (by simp [headL]) (by simp [tkH])
theorem lx_fee {f : Fee} (h : WOk f.win) : Lx (feeL f) (tkF f) := by
  rcases h with ⟨h0, h1, h2⟩ | h0
  · exact ((((((Lx.kw k_fee (by decide)).app (Lx.kw (k_dig (n := f.amount)) (by decide))).app (Lx.kw k_from (by decide))).app (Lx.kw h1.1 (by decide))).app (Lx.kw k_to (by decide))).app (Lx.ks h2.1 (by decide) (by decide)) |>.app Lx.nl).of (by simp [feeL, winL, h0]) (by simp [tkF, tkW, h0])
  · exact (((Lx.kw k_fee (by decide)).app (Lx.ks (k_dig (n := f.amount)) (by decide) (by decide))).app Lx.nl).of (by simp [feeL, winL, h0, noWin]) (by simp [tkF, tkW, h0, noWin])
end Go.Proofs.YtcgkfgklggjmaaaGreatDoor.Par
end
section
namespace Go.Proofs.YtcgkfgklggjmaaaGreatDoor.Par
set_option linter.unusedVariables false
set_option linter.unusedSimpArgs false
/-! a charge's tokens, and the whole plan's -/
theorem lx_tier {t : Tier} (h : TOk t) : Lx (tierL false t) (tkT t) :=
  ((((((Lx.tab.app Lx.tab).app (Lx.kw k_upto (by decide))).app (Lx.kw (k_dig (n := t.upto)) (by decide))).app (Lx.kw k_rate (by decide))).app (Lx.ks (k_dec 6 (by decide) h.2.1) (by decide) (by decide)))|>.app Lx.nl).of (by simp [tierL]) (by simp [tkT])
theorem lx_rest {r : Int} (h : 0 ≤ r) : Lx (tierL true ⟨0, r⟩) (tkZ r) :=
  (((((Lx.tab.app Lx.tab).app (Lx.kw k_rest (by decide))).app (Lx.kw k_rate (by decide))).app (Lx.ks (k_dec 6 (by decide) h) (by decide) (by decide)))|>.app Lx.nl).of (by simp [tierL]) (by simp [tkZ])
theorem tiers_take (l : List Tier) (z : Tier) : ∀ k, k ≤ l.length → tiersL (l ++ [z]) k = (l.take k).flatMap (tierL false)
  | 0, _ => by simp [tiersL]
  | k + 1, h => by
    have e : l[k]? = some l[k] := by simp
    have e2 : (l ++ [z])[k]? = some l[k] := by rw [List.getElem?_append_left (by omega)]; exact e
    rw [tiersL_succ e2, tiers_take l z k (by omega), flat_next _ e]
    have : decide (k + 1 = (l ++ [z]).length) = false := by simp; omega
    rw [this]
theorem tiers_snoc (l : List Tier) (z : Tier) : tiersL (l ++ [z]) (l ++ [z]).length = l.flatMap (tierL false) ++ tierL true z := by
  have e2 : (l ++ [z])[l.length]? = some z := by simp
  have : (l ++ [z]).length = l.length + 1 := by simp
  rw [this, tiersL_succ e2, tiers_take l z l.length (by omega), List.take_length]
  simp
theorem lx_tiers {l : List Tier} {r : Int} (h : ∀ t ∈ l, TOk t) (hr : 0 ≤ r) : Lx (tiersL (l ++ [(⟨0, r⟩ : Tier)]) (l ++ [(⟨0, r⟩ : Tier)]).length) (l.flatMap tkT ++ tkZ r) := by
  rw [tiers_snoc]
  exact (Lx.flat _ _ l fun t ht => lx_tier (h t ht)).app (lx_rest hr)
theorem lx_mode {m : Int} (h0 : 0 ≤ m) (h3 : m ≤ 3) : Lx (modeL m ++ [59]) (modeW m ++ [(5, [59])]) := by
  have : m = 0 ∨ m = 1 ∨ m = 2 ∨ m = 3 := by omega
  rcases this with rfl | rfl | rfl | rfl
  · exact (Lx.ks k_floor (by decide) (by decide)).of (by simp [modeL]) (by simp [modeW])
  · exact (Lx.ks k_ceil (by decide) (by decide)).of (by simp [modeL]) (by simp [modeW])
  · exact (Lx.ks k_halfup (by decide) (by decide)).of (by simp [modeL]) (by simp [modeW])
  · exact (Lx.ks k_halfeven (by decide) (by decide)).of (by simp [modeL]) (by simp [modeW])
theorem lx_adj {a : Adj} (h : AOk a) : Lx (adjL a) (tkA a) := by
  rcases h with ⟨hk, h1, h2, h3⟩ | ⟨hk | hk | hk, h1, h2⟩
  · exact ((((Lx.tab.app (Lx.kw k_percent (by decide))).app (Lx.kw (k_dec 3 (by decide) h1.1) (by decide))).app (lx_mode h2 h3)).app Lx.nl).of (by simp [adjL, hk]) (by simp [tkA, hk])
  · exact (((Lx.tab.app (Lx.kw k_cap (by decide))).app (Lx.ks (k_dig (n := a.n)) (by decide) (by decide))).app Lx.nl).of (by simp [adjL, hk]) (by simp [tkA, hk])
  · exact (((Lx.tab.app (Lx.kw k_minimum (by decide))).app (Lx.ks (k_dig (n := a.n)) (by decide) (by decide))).app Lx.nl).of (by simp [adjL, hk]) (by simp [tkA, hk])
  · exact (((Lx.tab.app (Lx.kw k_add (by decide))).app (Lx.ks (k_dig (n := a.n)) (by decide) (by decide))).app Lx.nl).of (by simp [adjL, hk]) (by simp [tkA, hk])
theorem lx_chg1 {c : Chg} (h1 : NOk c.meter) (h : WOk c.win) : Lx (chg1L c) ([(2, [99, 104, 97, 114, 103, 101]), (1, c.meter.data.toList)] ++ tkW c.win ++ [(5, [123])]) := by
  rcases h with ⟨h0, h2, h3⟩ | h0
  · exact ((((((((Lx.kw k_charge (by decide)).app (Lx.kw h1 (by decide))).app (Lx.kw k_from (by decide))).app (Lx.kw h2.1 (by decide))).app (Lx.kw k_to (by decide))).app (Lx.kw h3.1 (by decide))).app (Lx.sign 123 (by decide)))|>.app Lx.nl).of (by simp [chg1L, winL, h0]) (by simp [tkW, h0])
  · exact ((((Lx.kw k_charge (by decide)).app (Lx.kw h1 (by decide))).app (Lx.sign 123 (by decide)))|>.app Lx.nl).of (by simp [chg1L, winL, h0, noWin]) (by simp [tkW, h0, noWin])
theorem lx_alw (c : Chg) : Lx (alwL c) (if c.allow ≠ 0 then [(2, [97, 108, 108, 111, 119, 97, 110, 99, 101]), (3, digT c.allow), (5, [59])] else []) := by
  unfold alwL
  split
  · exact ((Lx.tab.app (Lx.kw k_allowance (by decide))).app (Lx.ks (k_dig (n := c.allow)) (by decide) (by decide)) |>.app Lx.nl).of (by simp) (by simp)
  · exact Lx.nil
theorem lx_blk (c : Chg) : Lx (blkL c) (if c.block ≠ 1 then [(2, [98, 108, 111, 99, 107]), (3, digT c.block), (5, [59])] else []) := by
  unfold blkL
  split
  · exact ((Lx.tab.app (Lx.kw k_block (by decide))).app (Lx.ks (k_dig (n := c.block)) (by decide) (by decide)) |>.app Lx.nl).of (by simp) (by simp)
  · exact Lx.nil
theorem lx_kind (c : Chg) : Lx (kindL c) [if c.kind = 2 then (2, [118, 111, 108, 117, 109, 101]) else (2, [103, 114, 97, 100, 117, 97, 116, 101, 100]), (5, [123])] := by
  unfold kindL
  split
  · exact ((Lx.tab.app (Lx.kw k_volume (by decide))).app (Lx.sign 123 (by decide)) |>.app Lx.nl).of (by simp) (by simp)
  · exact ((Lx.tab.app (Lx.kw k_graduated (by decide))).app (Lx.sign 123 (by decide)) |>.app Lx.nl).of (by simp) (by simp)
theorem lx_rnd {c : Chg} (h : 0 ≤ c.mode ∧ c.mode ≤ 3) : Lx (rndL c) ([(5, [125]), (2, [114, 111, 117, 110, 100])] ++ modeW c.mode ++ [(5, [59])]) :=
  (((((Lx.tab.app (Lx.sign 125 (by decide))).app Lx.nl).app Lx.tab).app (Lx.kw k_round (by decide))).app (lx_mode h.1 h.2) |>.app Lx.nl).of (by simp [rndL]) (by simp)
theorem lx_chg {c : Chg} {l : List Tier} {r : Int} (h : COk c) (ht : c.tiers = l ++ [⟨0, r⟩]) (hl : ∀ t ∈ l, TOk t) (hr : 0 ≤ r) : Lx (chgL c) (tkC c l r) := by
  have ht' := lx_tiers hl hr
  rw [← ht] at ht'
  exact (((((((lx_chg1 h.meter h.win).app (lx_alw c)).app (lx_blk c)).app (lx_kind c)).app ht').app (lx_rnd h.mode)).app (Lx.flat _ _ c.adjs fun a ha => lx_adj (h.adjs a ha)) |>.app ((Lx.sign 125 (by decide)).app Lx.nl)).of (by simp [chgL]) (by simp [tkC])
/-- a charge's tokens, from the charge alone -/
def tkG (c : Chg) : List Wd := tkC c c.tiers.dropLast (match c.tiers.getLast? with | some t => t.rate | none => 0)
theorem lx_chgG {c : Chg} (h : COk c) : Lx (chgL c) (tkG c) := by
  obtain ⟨l, r, e, hl, hr, _⟩ := h.tiers
  have := lx_chg h e hl hr
  unfold tkG
  rw [e]
  simpa using this
def tkP (p : Plan) : List Wd := tkH p ++ p.mets.flatMap tkM ++ p.fees.flatMap tkF ++ p.chgs.flatMap tkG
/-- the tokens of a plan's plain text -/
theorem lx_plan {p : Plan} (h : POk p) : Lx (planL p) (tkP p) :=
  (((lx_head h).app (Lx.flat _ _ p.mets fun m hm => lx_met (h.mets m hm).1 (h.mets m hm).2.1)).app (Lx.flat _ _ p.fees fun f hf => lx_fee (h.fees f hf).2)).app (Lx.flat _ _ p.chgs fun c hc => lx_chgG (h.chgs c hc))
end Go.Proofs.YtcgkfgklggjmaaaGreatDoor.Par
end
section
namespace Go.Proofs.YtcgkfgklggjmaaaGreatDoor.Par
set_option linter.unusedVariables false
set_option linter.unusedSimpArgs false
/-! the words of a plan's plain text, parsed -/
/-- it reads these words off, without a fault, and says x -/
def Rd {α : Type} (F : St → α × St) (ws ws' : List Wd) (x : α) : Prop := ∀ ls : List Tok, Tw ls ws → ∃ ls', Tw ls' ws' ∧ F ⟨ls, 0, 0, 0⟩ = (x, ⟨ls', 0, 0, 0⟩)
theorem Rd.bnd {α β : Type} {F : St → α × St} {G : α → St → β × St} {u v w : List Wd} {x : α} {y : β} (hF : Rd F u v x) (hG : Rd (G x) v w y) : Rd (bnd F G) u w y := by
  intro ls h
  obtain ⟨l1, t1, e1⟩ := hF ls h
  obtain ⟨l2, t2, e2⟩ := hG l1 t1
  refine ⟨l2, t2, ?_⟩
  show G (F ⟨ls, 0, 0, 0⟩).1 (F ⟨ls, 0, 0, 0⟩).2 = _
  rw [e1]; exact e2
theorem Rd.mp {α β : Type} {F : St → α × St} {u v : List Wd} {x : α} (hF : Rd F u v x) (f : α → β) : Rd (mp f F) u v (f x) := by
  intro ls h
  obtain ⟨l1, t1, e1⟩ := hF ls h
  refine ⟨l1, t1, ?_⟩
  show (f (F ⟨ls, 0, 0, 0⟩).1, (F ⟨ls, 0, 0, 0⟩).2) = _
  rw [e1]
theorem Rd.ret {α : Type} (a : α) (u : List Wd) : Rd (fun s => (a, s)) u u a := fun ls h => ⟨ls, h, rfl⟩
theorem Rd.yes {α : Type} {p : Prop} [Decidable p] {F G : St → α × St} {u v : List Wd} {x : α} (hp : p) (h : Rd F u v x) : Rd (fun s => if p then F s else G s) u v x := by
  intro ls hl
  obtain ⟨l1, t1, e1⟩ := h ls hl
  exact ⟨l1, t1, by simp only [if_pos hp]; exact e1⟩
theorem Rd.no {α : Type} {p : Prop} [Decidable p] {F G : St → α × St} {u v : List Wd} {x : α} (hp : ¬ p) (h : Rd G u v x) : Rd (fun s => if p then F s else G s) u v x := by
  intro ls hl
  obtain ⟨l1, t1, e1⟩ := h ls hl
  exact ⟨l1, t1, by simp only [if_neg hp]; exact e1⟩
theorem Rd.of {α : Type} {F : St → α × St} {u v u' v' : List Wd} {x y : α} (h : Rd F u v x) (e : u' = u) (f : v' = v) (g : y = x) : Rd F u' v' y := by subst e f g; exact h
theorem tw_cons {ls : List Tok} {k : Int} {t : List UInt8} {ws : List Wd} (h : Tw ls ((k, t) :: ws)) : ∃ u us, ls = u :: us ∧ u.kind = k ∧ u.text = str t ∧ Tw us ws := by
  cases ls with
  | nil => cases h
  | cons u us =>
    unfold Tw at h
    rw [List.map_cons] at h
    injection h with h1 h2
    injection h1 with h3 h4
    exact ⟨u, us, rfl, h3, by rw [← h4]; rfl, h2⟩
theorem str_inj {a b : List UInt8} (h : str a = str b) : a = b := by
  have := congrArg (fun x : ByteArray => x.data.toList) h
  simpa [str] using this
theorem ba_self (a : ByteArray) : (a == a) = true := by
  have h : (a == a) = (a.data == a.data) := by cases a; rfl
  rw [h]; exact beq_self_eq_true _
theorem rd_eat {k : Int} {t : List UInt8} {ws : List Wd} (hk : k = 2 ∨ k = 5) : Rd (P.eat (str t)) ((k, t) :: ws) ws true := by
  intro ls h
  obtain ⟨u, us, rfl, h1, h2, h3⟩ := tw_cons h
  have ho : on (str t) ⟨u :: us, 0, 0, 0⟩ = true := by
    unfold on peek
    simp only [List.headD_cons, h1, h2]
    rcases hk with rfl | rfl <;> simp [ba_self]
  refine ⟨us, h3, ?_⟩
  unfold P.eat
  rw [if_pos ⟨rfl, ho⟩, next_drop (on_kind ho)]
  rfl
theorem rd_pass {k : Int} {t v : List UInt8} {ws : List Wd} (hk : (k ≠ 2 ∧ k ≠ 5) ∨ t ≠ v) : Rd (P.eat (str v)) ((k, t) :: ws) ((k, t) :: ws) false := by
  intro ls h
  obtain ⟨u, us, rfl, h1, h2, h3⟩ := tw_cons h
  have ho : ¬ on (str v) ⟨u :: us, 0, 0, 0⟩ = true := by
    unfold on peek
    simp only [List.headD_cons, h1, h2]
    rcases hk with ⟨c1, c2⟩ | c
    · simp [c1, c2]
    · have : (str t == str v) = false := by
        rw [Bool.eq_false_iff]; exact fun e => c (str_inj (text_eq e))
      simp [this]
  refine ⟨u :: us, h, ?_⟩
  unfold P.eat
  rw [if_neg fun e => ho e.2]
theorem rd_must {k : Int} {t : List UInt8} {ws : List Wd} (hk : k = 2 ∨ k = 5) : Rd (un (P.must [str t])) ((k, t) :: ws) ws () := by
  intro ls h
  obtain ⟨l1, t1, e1⟩ := rd_eat hk ls h
  refine ⟨l1, t1, ?_⟩
  unfold un
  rw [P.must, e1]
  rfl
theorem rd_must2 {k j : Int} {t v : List UInt8} {ws : List Wd} (hk : k = 2 ∨ k = 5) (hj : j = 2 ∨ j = 5) : Rd (un (P.must [str t, str v])) ((k, t) :: (j, v) :: ws) ws () := by
  rw [must2_eq]
  exact (rd_must hk).bnd (rd_must hj)
theorem rd_kind {k : Int} {t : List UInt8} {ws : List Wd} (hk : k ≠ 0) : Rd (P.kind k) ((k, t) :: ws) ws (str t) := by
  intro ls h
  obtain ⟨u, us, rfl, h1, h2, h3⟩ := tw_cons h
  refine ⟨us, h3, ?_⟩
  have hp : peek ⟨u :: us, 0, 0, 0⟩ = u := rfl
  unfold P.kind
  rw [hp, if_pos h1, next_drop (by rw [hp, h1]; exact hk), h2]
  rfl
theorem rd_number {t : List UInt8} {ws : List Wd} {pl m n : Int} (hn : npV (str t) pl m = (n, 0)) : Rd (P.number npV pl m) ((3, t) :: ws) ws n := by
  intro ls h
  obtain ⟨l1, t1, e1⟩ := rd_kind (by decide) ls h
  refine ⟨l1, t1, ?_⟩
  unfold P.number
  rw [e1]
  simp only [hn]
  rfl
theorem rd_dig {ws : List Wd} {n m : Int} (h : 0 ≤ n ∧ n ≤ m) (hm : m ≤ 1000000000000) : Rd (P.number npV 0 m) ((3, digT n) :: ws) ws n := rd_number (npV_dig h.1 h.2 (by omega))
theorem rd_dec {ws : List Wd} {n m : Int} (k : Nat) (hk : k ≤ 9) (h : 0 ≤ n ∧ n ≤ m) (hm : m ≤ 1000000000000) : Rd (P.number npV k m) ((3, Dec.textL n k) :: ws) ws n := rd_number (npV_dec k hk h.1 h.2 (by omega))
theorem rd_day {ws : List Wd} {d : Day} (h : DOk d) : Rd (P.day dp) ((4, dayT d) :: ws) ws d :=
  ((rd_kind (by decide)).mp dp).of rfl rfl h.2.symm
theorem rd_name {ws : List Wd} {b : ByteArray} : Rd (P.kind 1) ((1, b.data.toList) :: ws) ws b :=
  (rd_kind (by decide)).of rfl rfl (by simp [str])
theorem rd_hit {k : Int} {t : List UInt8} {ws : List Wd} {vs : List ByteArray} {i : Int} (hk : k = 2 ∨ k = 5) : Rd (P.one (str t :: vs) i) ((k, t) :: ws) ws i :=
  (rd_eat hk).bnd (G := fun a s => if a = true then (i, s) else P.one vs (i + 1) s) (Rd.yes rfl (Rd.ret i _))
theorem rd_miss {k : Int} {t v : List UInt8} {ws us : List Wd} {vs : List ByteArray} {i x : Int} (hk : (k ≠ 2 ∧ k ≠ 5) ∨ t ≠ v) (h : Rd (P.one vs (i + 1)) ((k, t) :: ws) us x) : Rd (P.one (str v :: vs) i) ((k, t) :: ws) us x :=
  (rd_pass hk).bnd (G := fun a s => if a = true then (i, s) else P.one vs (i + 1) s) (Rd.no (by decide) h)
theorem rd_none {ws : List Wd} {i : Int} : Rd (P.one [] i) ws ws (-1) := Rd.ret (-1) _
theorem rd_mode {m : Int} {ws : List Wd} (h0 : 0 ≤ m) (h3 : m ≤ 3) : Rd P.mode (modeW m ++ ws) ws m := by
  have hm : m = 0 ∨ m = 1 ∨ m = 2 ∨ m = 3 := by omega
  have H : Rd (P.one [wFloor, wCeil, wHalfup, wHalfeven] 0) (modeW m ++ ws) ws m := by
    rcases hm with rfl | rfl | rfl | rfl
    · exact rd_hit (.inl rfl)
    · exact rd_miss (.inr (by decide)) (rd_hit (.inl rfl))
    · exact rd_miss (.inr (by decide)) (rd_miss (.inr (by decide)) (rd_hit (.inl rfl)))
    · exact rd_miss (.inr (by decide)) (rd_miss (.inr (by decide)) (rd_miss (.inr (by decide)) (rd_hit (.inl rfl))))
  exact H.bnd (G := fun o s => if o < 0 then (0, fail 4 (peek s) s) else (o, s)) (Rd.no (by omega) (Rd.ret m _))
theorem rd_window {w : Win} {t : List UInt8} {ws : List Wd} (h : WOk w) (ht : t ≠ [102, 114, 111, 109]) : Rd (P.window dp) (tkW w ++ (5, t) :: ws) ((5, t) :: ws) w := by
  rcases h with ⟨h0, h1, h2⟩ | rfl
  · have e : tkW w = [(2, [102, 114, 111, 109]), (4, dayT w.from_), (2, [116, 111]), (4, dayT w.to_)] := by unfold tkW; rw [if_pos h0]
    rw [e]
    refine ((rd_eat (.inl rfl)).bnd (G := fun a s => if a = true then bnd (P.day dp) (fun f => bnd (un (P.must [wTo])) (fun _ => mp (fun t => (⟨true, f, t⟩ : Win)) (P.day dp))) s else (noWin, s)) (Rd.yes rfl
      ((rd_day h1).bnd ((rd_must (.inl rfl)).bnd ((rd_day h2).mp _))))).of rfl rfl ?_
    cases w; simp only at h0 ⊢; rw [h0]
  · exact (rd_pass (.inr ht)).bnd (G := fun a s => if a = true then bnd (P.day dp) (fun f => bnd (un (P.must [wTo])) (fun _ => mp (fun t => (⟨true, f, t⟩ : Win)) (P.day dp))) s else (noWin, s)) (Rd.no (by decide) (Rd.ret noWin _))
theorem rd_opt {t : List UInt8} {ws : List Wd} {d n : Int} (h : 0 ≤ n ∧ n ≤ 1000000) : Rd (P.opt npV (str t) d) ((2, t) :: (3, digT n) :: (5, [59]) :: ws) ws n :=
  (rd_eat (.inl rfl)).bnd (G := fun a s => if a = true then bnd (P.number npV 0 1000000) (fun x => mp (fun _ => x) (un (P.must [wSemi]))) s else (d, s)) (Rd.yes rfl ((rd_dig h (by decide)).bnd ((rd_must (.inr rfl)).mp _)))
theorem rd_noopt {k : Int} {t v : List UInt8} {ws : List Wd} {d : Int} (ht : t ≠ v) : Rd (P.opt npV (str v) d) ((k, t) :: ws) ((k, t) :: ws) d :=
  (rd_pass (.inr ht)).bnd (G := fun a s => if a = true then bnd (P.number npV 0 1000000) (fun x => mp (fun _ => x) (un (P.must [wSemi]))) s else (d, s)) (Rd.no (by decide) (Rd.ret d _))
def kw (c : Chg) : List UInt8 := if c.kind = 2 then [118, 111, 108, 117, 109, 101] else [103, 114, 97, 100, 117, 97, 116, 101, 100]
theorem rd_ckind {c : Chg} {ws : List Wd} (h : c.kind = 1 ∨ c.kind = 2) : Rd P.ckind ((2, kw c) :: ws) ws c.kind := by
  rcases h with h | h
  · have e : kw c = [103, 114, 97, 100, 117, 97, 116, 101, 100] := by unfold kw; rw [h]; rfl
    rw [e, h]
    exact (rd_pass (.inr (by decide))).bnd (G := fun a s => if a = true then ((2 : Int), s) else mp (fun _ => (1 : Int)) (un (P.must [wGraduated])) s) (Rd.no (by decide) ((rd_must (.inl rfl)).mp _))
  · have e : kw c = [118, 111, 108, 117, 109, 101] := by unfold kw; rw [h]; rfl
    rw [e, h]
    exact (rd_eat (.inl rfl)).bnd (G := fun a s => if a = true then ((2 : Int), s) else mp (fun _ => (1 : Int)) (un (P.must [wGraduated])) s) (Rd.yes rfl (Rd.ret 2 _))
theorem rd_tierLoop {t : List UInt8} {ws : List Wd} (ht : t ≠ [117, 112, 116, 111]) : ∀ (l : List Tier) (f : Nat) (acc : List Tier), (∀ x ∈ l, TOk x) → l.length < f → Rd (P.tierLoop npV f acc) (l.flatMap tkT ++ (2, t) :: ws) ((2, t) :: ws) (acc ++ l)
  | _, 0, _, _, h => absurd h (by omega)
  | [], f + 1, acc, _, _ =>
    ((rd_pass (.inr ht)).bnd (G := fun a s => if a = true then bnd (P.number npV 0 1000000) (fun x => bnd (un (P.must [wRate])) (fun _ => bnd (P.number npV 6 1000000000000) (fun y => bnd (un (P.must [wSemi])) (fun _ => P.tierLoop npV f (acc ++ [(⟨x, y⟩ : Tier)]))))) s else (acc, s))
      (Rd.no (by decide) (Rd.ret acc _))).of rfl rfl (by simp)
  | x :: l, f + 1, acc, hl, h => by
    have hx := hl x (by simp)
    have hr := rd_tierLoop (ws := ws) ht l f (acc ++ [x]) (fun y hy => hl y (by simp [hy])) (by simpa using h)
    exact ((rd_eat (.inl rfl)).bnd (G := fun a s => if a = true then bnd (P.number npV 0 1000000) (fun x => bnd (un (P.must [wRate])) (fun _ => bnd (P.number npV 6 1000000000000) (fun y => bnd (un (P.must [wSemi])) (fun _ => P.tierLoop npV f (acc ++ [(⟨x, y⟩ : Tier)]))))) s else (acc, s))
      (Rd.yes rfl ((rd_dig hx.1 (by decide)).bnd ((rd_must (.inl rfl)).bnd ((rd_dec 6 (by decide) hx.2 (by decide)).bnd ((rd_must (.inr rfl)).bnd hr)))))).of (by simp [tkT]) rfl (by simp)
theorem tw_len {ls : List Tok} {ws : List Wd} (h : Tw ls ws) : ls.length = ws.length := by
  unfold Tw at h; rw [← h, List.length_map]
theorem flat_len {α : Type} {g : α → List Wd} (hg : ∀ x, g x ≠ []) : ∀ l : List α, l.length ≤ (l.flatMap g).length
  | [] => by simp
  | x :: l => by
    have := flat_len hg l
    have h1 : 0 < (g x).length := List.length_pos_iff.2 (hg x)
    rw [List.flatMap_cons, List.length_append, List.length_cons]; omega
theorem rd_tierAll {t : List UInt8} {ws : List Wd} (ht : t ≠ [117, 112, 116, 111]) {l : List Tier} (hl : ∀ x ∈ l, TOk x) : Rd (P.tierAll npV []) (l.flatMap tkT ++ (2, t) :: ws) ((2, t) :: ws) l := by
  intro ls h
  have h1 := tw_len h
  have h2 := flat_len (g := tkT) (by intro x; simp [tkT]) l
  rw [List.length_append, List.length_cons] at h1
  exact rd_tierLoop ht l ls.length [] hl (by omega) ls h
theorem rd_tiers {l : List Tier} {r : Int} {ws : List Wd} (hl : ∀ x ∈ l, TOk x) (hr : 0 ≤ r ∧ r ≤ 1000000000000) : Rd (P.tiers npV) ((5, [123]) :: (l.flatMap tkT ++ (2, [114, 101, 115, 116]) :: (2, [114, 97, 116, 101]) :: (3, Dec.textL r 6) :: (5, [59]) :: (5, [125]) :: ws)) ws (l ++ [⟨0, r⟩]) :=
  (rd_must (.inr rfl)).bnd (G := fun _ => bnd (P.tierAll npV []) (fun l => bnd (un (P.must [wRest, wRate])) (fun _ => bnd (P.number npV 6 1000000000000) (fun r => mp (fun _ => l ++ [(⟨0, r⟩ : Tier)]) (un (P.must [wSemi, wClose]))))))
    ((rd_tierAll (by decide) hl).bnd ((rd_must2 (.inl rfl) (.inl rfl)).bnd ((rd_dec 6 (by decide) hr (by decide)).bnd ((rd_must2 (.inr rfl) (.inr rfl)).mp _))))
end Go.Proofs.YtcgkfgklggjmaaaGreatDoor.Par
end
section
namespace Go.Proofs.YtcgkfgklggjmaaaGreatDoor.Par
set_option linter.unusedVariables false
set_option linter.unusedSimpArgs false
/-! a charge, an item, the plan: parsed -/
theorem rd_adjBody {a : Adj} {ws : List Wd} (h : AOk a) : Rd (P.adjBody npV a.kind) ((3, if a.kind = 1 then Dec.textL a.n 3 else digT a.n) :: ((if a.kind = 1 then modeW a.mode else []) ++ (5, [59]) :: ws)) ws a := by
  have e : P.adjBody npV a.kind = fun s => if a.kind = 1 then bnd (P.number npV 3 100000000) (fun n => bnd P.mode (fun m => mp (fun _ => (⟨1, n, m⟩ : Adj)) (un (P.must [wSemi])))) s else bnd (P.number npV 0 1000000000000) (fun n => mp (fun _ => (⟨a.kind, n, 0⟩ : Adj)) (un (P.must [wSemi]))) s := rfl
  rw [e]
  rcases h with ⟨hk, h1, h2, h3⟩ | ⟨hk, h1, h2⟩
  · rw [if_pos hk, if_pos hk]
    refine (Rd.yes hk ((rd_dec 3 (by decide) h1 (by decide)).bnd ((rd_mode h2 h3).bnd ((rd_must (.inr rfl)).mp _)))).of rfl rfl ?_
    cases a; simp only at hk ⊢; rw [hk]
  · have hk' : ¬ a.kind = 1 := by omega
    rw [if_neg hk', if_neg hk']
    refine (Rd.no hk' ((rd_dig h1 (by decide)).bnd ((rd_must (.inr rfl)).mp _))).of rfl rfl ?_
    cases a; simp only at h2 ⊢; rw [h2]
def adW (a : Adj) : List UInt8 := if a.kind = 1 then [112, 101, 114, 99, 101, 110, 116] else if a.kind = 2 then [99, 97, 112] else if a.kind = 3 then [109, 105, 110, 105, 109, 117, 109] else [97, 100, 100]
theorem tkA_eq {a : Adj} (h : AOk a) : tkA a = (2, adW a) :: (3, if a.kind = 1 then Dec.textL a.n 3 else digT a.n) :: ((if a.kind = 1 then modeW a.mode else []) ++ [(5, [59])]) := by
  unfold tkA adW
  rcases h with ⟨hk, _⟩ | ⟨hk | hk | hk, _⟩ <;> simp [hk]
theorem rd_adjust {a : Adj} {ws : List Wd} (h : AOk a) : Rd (P.adjust npV) (tkA a ++ ws) ws (a, true) := by
  have H : ∀ us, Rd (P.one [wPercent, wCap, wMinimum, wAdd] 1) ((2, adW a) :: us) us a.kind := by
    intro us
    unfold adW
    rcases h with ⟨hk, _⟩ | ⟨hk | hk | hk, _⟩ <;> rw [hk]
    · exact rd_hit (.inl rfl)
    · exact rd_miss (.inr (by decide)) (rd_hit (.inl rfl))
    · exact rd_miss (.inr (by decide)) (rd_miss (.inr (by decide)) (rd_hit (.inl rfl)))
    · exact rd_miss (.inr (by decide)) (rd_miss (.inr (by decide)) (rd_miss (.inr (by decide)) (rd_hit (.inl rfl))))
  have hk : ¬ a.kind < 0 := by rcases h with ⟨hk, _⟩ | ⟨hk | hk | hk, _⟩ <;> omega
  exact ((H _).bnd (G := fun o s => if o < 0 then (((⟨0, 0, 0⟩ : Adj), false), s) else mp (fun b => (b, true)) (P.adjBody npV o) s) (Rd.no hk ((rd_adjBody h).mp _))).of (by rw [tkA_eq h]; simp) rfl rfl
theorem rd_adjust_no {t : List UInt8} {ws : List Wd} : Rd (P.adjust npV) ((5, [125]) :: ws) ((5, [125]) :: ws) (⟨0, 0, 0⟩, false) :=
  (rd_miss (.inr (by decide)) (rd_miss (.inr (by decide)) (rd_miss (.inr (by decide)) (rd_miss (.inr (by decide)) rd_none)))).bnd (G := fun o s => if o < 0 then (((⟨0, 0, 0⟩ : Adj), false), s) else mp (fun b => (b, true)) (P.adjBody npV o) s) (Rd.yes (by decide) (Rd.ret _ _))
theorem Rd.err {α : Type} {p : Prop} [Decidable p] {F : St → α × St} {a : α} {u v : List Wd} {x : α} (hp : ¬ p) (h : Rd F u v x) : Rd (fun s => if p ∨ s.err ≠ 0 then (a, s) else F s) u v x := by
  intro ls hl
  obtain ⟨l1, t1, e1⟩ := h ls hl
  refine ⟨l1, t1, ?_⟩
  simp only
  rw [if_neg (by rintro (c | c); exact hp c; exact c rfl)]
  exact e1
theorem Rd.stop {α : Type} {p : Prop} [Decidable p] {F : St → α × St} {a : α} {u : List Wd} (hp : p) : Rd (fun s => if p ∨ s.err ≠ 0 then (a, s) else F s) u u a := by
  intro ls hl
  exact ⟨ls, hl, by simp only; rw [if_pos (.inl hp)]⟩
theorem rd_adjLoop {ws : List Wd} : ∀ (l : List Adj) (f : Nat) (acc : List Adj), (∀ x ∈ l, AOk x) → l.length < f → Rd (P.adjLoop npV f acc) (l.flatMap tkA ++ (5, [125]) :: ws) ((5, [125]) :: ws) (acc ++ l)
  | _, 0, _, _, h => absurd h (by omega)
  | [], f + 1, acc, _, _ => ((rd_adjust_no (t := [])).bnd (G := fun (a : Adj × Bool) s => if a.2 = false ∨ s.err ≠ 0 then (acc, s) else P.adjLoop npV f (acc ++ [a.1]) s) (Rd.stop rfl)).of rfl rfl (by simp)
  | x :: l, f + 1, acc, hl, h =>
    ((rd_adjust (hl x (by simp))).bnd (G := fun (a : Adj × Bool) s => if a.2 = false ∨ s.err ≠ 0 then (acc, s) else P.adjLoop npV f (acc ++ [a.1]) s)
      (Rd.err (by simp) (rd_adjLoop l f (acc ++ [x]) (fun y hy => hl y (by simp [hy])) (by simpa using h)))).of (by simp) rfl (by simp)
theorem tkA_ne {a : Adj} (h : AOk a) : tkA a ≠ [] := by rw [tkA_eq h]; simp
theorem flat_len' {α : Type} {g : α → List Wd} : ∀ l : List α, (∀ x ∈ l, g x ≠ []) → l.length ≤ (l.flatMap g).length
  | [], _ => by simp
  | x :: l, hg => by
    have := flat_len' l fun y hy => hg y (by simp [hy])
    have h1 : 0 < (g x).length := List.length_pos_iff.2 (hg x (by simp))
    rw [List.flatMap_cons, List.length_append, List.length_cons]; omega
theorem rd_adjAll {l : List Adj} {ws : List Wd} (hl : ∀ x ∈ l, AOk x) : Rd (P.adjAll npV []) (l.flatMap tkA ++ (5, [125]) :: ws) ((5, [125]) :: ws) l := by
  intro ls h
  have h1 := tw_len h
  have h2 := flat_len' (g := tkA) l fun x hx => tkA_ne (hl x hx)
  rw [List.length_append, List.length_cons] at h1
  exact rd_adjLoop l ls.length [] hl (by omega) ls h
theorem rd_opts {c : Chg} {ws : List Wd} (h : COk c) : Rd (bnd (P.opt npV wAllowance 0) fun a => mp (fun b => (a, b)) (P.opt npV wBlock 1))
    ((if c.allow ≠ 0 then [((2 : Int), [97, 108, 108, 111, 119, 97, 110, 99, 101]), (3, digT c.allow), (5, [59])] else []) ++ ((if c.block ≠ 1 then [((2 : Int), [98, 108, 111, 99, 107]), (3, digT c.block), (5, [59])] else []) ++ (2, kw c) :: ws)) ((2, kw c) :: ws) (c.allow, c.block) := by
  have k1 : kw c ≠ [97, 108, 108, 111, 119, 97, 110, 99, 101] := by unfold kw; split <;> decide
  have k2 : kw c ≠ [98, 108, 111, 99, 107] := by unfold kw; split <;> decide
  have hA := h.allow
  have hB := h.block
  have HB : ∀ us, Rd (P.opt npV wBlock 1) ((if c.block ≠ 1 then [((2 : Int), [98, 108, 111, 99, 107]), (3, digT c.block), (5, [59])] else []) ++ (2, kw c) :: us) ((2, kw c) :: us) c.block := by
    intro us
    by_cases hb : c.block = 1
    · rw [if_neg (by simp [hb]), hb]; exact rd_noopt k2
    · rw [if_pos hb]; exact rd_opt hB
  by_cases ha : c.allow = 0
  · rw [if_neg (by simp [ha])]
    refine Rd.bnd ?_ ((HB ws).mp _)
    rw [List.nil_append]
    by_cases hb : c.block = 1
    · rw [if_neg (by simp [hb]), ha]; exact rd_noopt k1
    · rw [if_pos hb, ha]; exact rd_noopt (by decide)
  · rw [if_pos ha]
    exact (rd_opt hA).bnd ((HB ws).mp _)
theorem rd_charge {c : Chg} {l : List Tier} {r : Int} {ws : List Wd} (h : COk c) (ht : c.tiers = l ++ [⟨0, r⟩]) (hl : ∀ t ∈ l, TOk t) (hr : 0 ≤ r ∧ r ≤ 1000000000000) :
    Rd (P.charge dp npV 0 0) ((tkC c l r).tail ++ ws) ws (sC c) := by
  have H : Rd (bnd (P.kind 1) fun n => bnd (P.window dp) fun w => bnd (un (P.must [wOpen])) fun _ => bnd (bnd (P.opt npV wAllowance 0) fun a => mp (fun b => (a, b)) (P.opt npV wBlock 1)) fun ab => bnd P.ckind fun k => bnd (P.tiers npV) fun t =>
      bnd (un (P.must [wRound])) fun _ => bnd P.mode fun m => bnd (un (P.must [wSemi])) fun _ => bnd (P.adjAll npV []) fun d => mp (fun _ => (⟨n, w, ab.1, ab.2, k, t, m, d, 0, 0⟩ : Chg)) (un (P.must [wClose])))
      ((1, c.meter.data.toList) :: (tkW c.win ++ (5, [123]) :: ((if c.allow ≠ 0 then [((2 : Int), [97, 108, 108, 111, 119, 97, 110, 99, 101]), (3, digT c.allow), (5, [59])] else []) ++ ((if c.block ≠ 1 then [((2 : Int), [98, 108, 111, 99, 107]), (3, digT c.block), (5, [59])] else []) ++ (2, kw c) ::
        (5, [123]) :: (l.flatMap tkT ++ (2, [114, 101, 115, 116]) :: (2, [114, 97, 116, 101]) :: (3, Dec.textL r 6) :: (5, [59]) :: (5, [125]) :: (2, [114, 111, 117, 110, 100]) :: (modeW c.mode ++ (5, [59]) :: (c.adjs.flatMap tkA ++ (5, [125]) :: ws))))))) ws
      ⟨c.meter, c.win, c.allow, c.block, c.kind, l ++ [⟨0, r⟩], c.mode, c.adjs, 0, 0⟩ :=
    rd_name.bnd ((rd_window h.win (by decide)).bnd ((rd_must (.inr rfl)).bnd ((rd_opts h).bnd ((rd_ckind h.kind).bnd ((rd_tiers hl hr).bnd ((rd_must (.inl rfl)).bnd ((rd_mode h.mode.1 h.mode.2).bnd ((rd_must (.inr rfl)).bnd ((rd_adjAll h.adjs).bnd ((rd_must (.inr rfl)).mp _))))))))))
  refine Rd.of (F := P.charge dp npV 0 0) H ?_ rfl ?_
  · have hk : (if c.kind = 2 then ((2 : Int), ([118, 111, 108, 117, 109, 101] : List UInt8)) else (2, [103, 114, 97, 100, 117, 97, 116, 101, 100])) = (2, kw c) := by unfold kw; split <;> rfl
    simp only [tkC, hk, tkZ, List.cons_append, List.nil_append, List.append_assoc, List.tail_cons]
  · unfold sC; rw [← ht]
theorem rd_met {m : Met} {ws : List Wd} (h : 0 ≤ m.max ∧ m.max ≤ 2000) : Rd (P.meter npV 0 0) ((tkM m).tail ++ ws) ws (sM m) :=
  (Rd.bnd (F := P.kind 1) (G := fun n => bnd (un (P.must [wUnit])) fun _ => bnd (P.kind 1) fun x => bnd (un (P.must [wMax])) fun _ => bnd (P.number npV 0 2000) fun m => mp (fun _ => (⟨n, x, m, 0, 0⟩ : Met)) (un (P.must [wSemi])))
    rd_name ((rd_must (.inl rfl)).bnd (rd_name.bnd ((rd_must (.inl rfl)).bnd ((rd_dig h (by decide)).bnd ((rd_must (.inr rfl)).mp _)))))).of (v := ws) (by simp [tkM]) rfl rfl
theorem rd_fee {f : Fee} {ws : List Wd} (h : 0 ≤ f.amount ∧ f.amount ≤ 1000000000000) (hw : WOk f.win) : Rd (P.fee dp npV 0 0) ((tkF f).tail ++ ws) ws (sF f) :=
  (Rd.bnd (F := P.number npV 0 1000000000000) (G := fun x => bnd (P.window dp) fun w => mp (fun _ => (⟨x, w, 0, 0⟩ : Fee)) (un (P.must [wSemi])))
    (rd_dig h (by decide)) ((rd_window hw (by decide)).bnd ((rd_must (.inr rfl)).mp _))).of (v := ws) (by simp [tkF]) rfl rfl
/-- an item's words -/
theorem rd_itm_met {m : Met} {ws : List Wd} (h : 0 ≤ m.max ∧ m.max ≤ 2000) : Rd (itm dp npV) (tkM m ++ ws) ws (.met (sM m)) :=
  ((rd_hit (.inl rfl)).bnd (Rd.yes rfl ((rd_met h).mp Thing.met))).of (v := ws) (by simp [tkM]) rfl rfl
theorem rd_itm_fee {f : Fee} {ws : List Wd} (h : 0 ≤ f.amount ∧ f.amount ≤ 1000000000000) (hw : WOk f.win) : Rd (itm dp npV) (tkF f ++ ws) ws (.fee (sF f)) :=
  ((rd_miss (.inr (by decide)) (rd_hit (.inl rfl))).bnd (Rd.no (by decide) (Rd.yes rfl ((rd_fee h hw).mp Thing.fee)))).of (v := ws) (by simp [tkF]) rfl rfl
end Go.Proofs.YtcgkfgklggjmaaaGreatDoor.Par
end
section
namespace Go.Proofs.YtcgkfgklggjmaaaGreatDoor.Par
set_option linter.unusedVariables false
set_option linter.unusedSimpArgs false
/-! a plan's plain text is read back -/
theorem rd_itm_chg {c : Chg} {ws : List Wd} (h : COk c) : Rd (itm dp npV) (tkG c ++ ws) ws (.chg (sC c)) := by
  obtain ⟨l, r, ht, hl, hr⟩ := h.tiers
  have e : tkG c = tkC c l r := by unfold tkG; rw [ht]; simp
  have e2 : ∃ us, tkC c l r = (2, [99, 104, 97, 114, 103, 101]) :: us := ⟨_, by simp only [tkC, List.cons_append, List.nil_append]; rfl⟩
  obtain ⟨us, e2⟩ := e2
  have hc := rd_charge (ws := ws) h ht hl hr
  rw [e, e2]
  rw [e2] at hc
  exact ((rd_miss (.inr (by decide)) (rd_miss (.inr (by decide)) (rd_hit (.inl rfl)))).bnd (Rd.no (by decide) (Rd.no (by decide) (Rd.yes rfl (hc.mp Thing.chg)))))
theorem rd_items : ∀ (xs : List (Thing × List Wd)), (∀ x ∈ xs, (∀ ws, Rd (itm dp npV) (x.2 ++ ws) ws x.1) ∧ ∃ k t us, x.2 = (k, t) :: us ∧ k ≠ 0) → ∀ (p q : Plan) (ls : List Tok), Tw ls (xs.flatMap (·.2) ++ [(0, [])]) → strip p = strip q →
    ∃ p' ls', P.itemsAll dp npV p ⟨ls, 0, 0, 0⟩ = (p', ⟨ls', 0, 0, 0⟩) ∧ strip p' = strip (xs.foldl (fun p x => put p 0 0 x.1) q)
  | [], _, p, q, ls, h, hp => by
    obtain ⟨u, us, rfl, h1, h2, h3⟩ := tw_cons h
    exact ⟨p, u :: us, itemsAll_end dp npV (.inr h1), hp⟩
  | x :: xs, hx, p, q, ls, h, hp => by
    obtain ⟨h1, k, t, us, h2, h3⟩ := hx x (by simp)
    rw [List.flatMap_cons, List.append_assoc] at h
    have hk : (peek ⟨ls, 0, 0, 0⟩).kind ≠ 0 := by
      rw [h2] at h
      obtain ⟨u, us, rfl, h4, h5, h6⟩ := tw_cons h
      exact fun e => h3 (h4 ▸ e)
    obtain ⟨l1, t1, e1⟩ := h1 _ ls h
    rw [itemsAll_itm dp npV (s := ⟨ls, 0, 0, 0⟩) rfl hk, e1]
    exact rd_items xs (fun y hy => hx y (by simp [hy])) _ _ l1 t1 (strip_put hp _ _ _ _ _)
theorem rd_hd {p : Plan} {ws : List Wd} (h1 : DOk p.from_) (h2 : DOk p.to_) : Rd (hd dp) (tkH p ++ ws) ws ⟨p.name, p.cur, p.from_, p.to_, [], [], [], 0, 0⟩ := by
  have H : Rd (hd dp) ((2, [112, 108, 97, 110]) :: (1, p.name.data.toList) :: (2, [99, 117, 114, 114, 101, 110, 99, 121]) :: (1, p.cur.data.toList) :: (5, [59]) :: (2, [104, 111, 114, 105, 122, 111, 110]) :: (4, dayT p.from_) :: (4, dayT p.to_) :: (5, [59]) :: ws) ws ⟨p.name, p.cur, p.from_, p.to_, [], [], [], 0, 0⟩ :=
    (rd_must (.inl rfl)).bnd (rd_name.bnd ((rd_must (.inl rfl)).bnd (rd_name.bnd ((rd_must2 (.inr rfl) (.inl rfl)).bnd ((rd_day h1).bnd ((rd_day h2).bnd ((rd_must (.inr rfl)).mp _)))))))
  exact H
def itms (p : Plan) : List (Thing × List Wd) := p.mets.map (fun m => (Thing.met (sM m), tkM m)) ++ p.fees.map (fun f => (Thing.fee (sF f), tkF f)) ++ p.chgs.map (fun c => (Thing.chg (sC c), tkG c))
theorem itms_flat (p : Plan) : (itms p).flatMap (·.2) = p.mets.flatMap tkM ++ p.fees.flatMap tkF ++ p.chgs.flatMap tkG := by
  unfold itms
  simp only [List.flatMap_append, List.flatMap_map]
theorem fold_met : ∀ (l : List Met) (q : Plan), (l.map (fun m => (Thing.met (sM m), tkM m))).foldl (fun p x => put p 0 0 x.1) q = { q with mets := q.mets ++ l.map sM }
  | [], q => by simp
  | m :: l, q => by
    rw [List.map_cons, List.foldl_cons, fold_met l]
    simp [put, sM]
theorem fold_fee : ∀ (l : List Fee) (q : Plan), (l.map (fun m => (Thing.fee (sF m), tkF m))).foldl (fun p x => put p 0 0 x.1) q = { q with fees := q.fees ++ l.map sF }
  | [], q => by simp
  | m :: l, q => by
    rw [List.map_cons, List.foldl_cons, fold_fee l]
    simp [put, sF]
theorem fold_chg : ∀ (l : List Chg) (q : Plan), (l.map (fun m => (Thing.chg (sC m), tkG m))).foldl (fun p x => put p 0 0 x.1) q = { q with chgs := q.chgs ++ l.map sC }
  | [], q => by simp
  | m :: l, q => by
    rw [List.map_cons, List.foldl_cons, fold_chg l]
    simp [put, sC]
theorem strip_itms (p : Plan) (li co : Int) : strip ((itms p).foldl (fun p x => put p 0 0 x.1) ⟨p.name, p.cur, p.from_, p.to_, [], [], [], li, co⟩) = strip p := by
  unfold itms
  rw [List.foldl_append, List.foldl_append, fold_met, fold_fee, fold_chg]
  have e1 : sM ∘ sM = sM := rfl
  have e2 : sF ∘ sF = sF := rfl
  have e3 : sC ∘ sC = sC := rfl
  simp [strip, e1, e2, e3]
theorem itms_ok {p : Plan} (h : POk p) : ∀ x ∈ itms p, (∀ ws, Rd (itm dp npV) (x.2 ++ ws) ws x.1) ∧ ∃ k t us, x.2 = (k, t) :: us ∧ k ≠ 0 := by
  intro x hx
  unfold itms at hx
  rw [List.mem_append, List.mem_append, List.mem_map, List.mem_map, List.mem_map] at hx
  rcases hx with (⟨m, hm, rfl⟩ | ⟨f, hf, rfl⟩) | ⟨c, hc, rfl⟩
  · exact ⟨fun ws => rd_itm_met (h.mets m hm).2.2, 2, _, _, rfl, by decide⟩
  · exact ⟨fun ws => rd_itm_fee (h.fees f hf).1 (h.fees f hf).2, 2, [102, 101, 101], (tkF f).tail, by simp [tkF], by decide⟩
  · exact ⟨fun ws => rd_itm_chg (h.chgs c hc), 2, [99, 104, 97, 114, 103, 101], (tkG c).tail, by simp only [tkG, tkC, List.cons_append, List.nil_append, List.tail_cons], by decide⟩
/-- the text of a plan, read again, is the plan: but for places -/
theorem plan_read {p : Plan} (h : POk p) (hl : (planL p).length ≤ 8192) : (RParse (planL p)).2 = (0, 0, 0) ∧ strip (RParse (planL p)).1 = strip p := by
  obtain ⟨ls, n, c, hall, ht⟩ := (lx_plan h).all hl
  have htw : Tw (ls ++ [⟨0, ⟨#[]⟩, n, c⟩]) (tkH p ++ ((itms p).flatMap (·.2) ++ [(0, [])])) := by
    rw [itms_flat]
    unfold Tw at ht ⊢
    rw [List.map_append, ht]
    simp [tkP]
  obtain ⟨l1, t1, e1⟩ := rd_hd h.from_ h.to_ _ htw
  have hs := plan_same dp npV (ls ++ [⟨0, ⟨#[]⟩, n, c⟩])
  have hP := plan_hd dp npV (ls ++ [⟨0, ⟨#[]⟩, n, c⟩])
  rw [e1] at hP
  obtain ⟨p', l2, e2, e3⟩ := rd_items (itms p) (itms_ok h) { (⟨p.name, p.cur, p.from_, p.to_, [], [], [], 0, 0⟩ : Plan) with line := (peek ⟨ls ++ [⟨0, ⟨#[]⟩, n, c⟩], 0, 0, 0⟩).line, col := (peek ⟨ls ++ [⟨0, ⟨#[]⟩, n, c⟩], 0, 0, 0⟩).col } _ l1 t1 rfl
  rw [e2] at hP
  rw [hP] at hs
  have hr := RParse_ok hall hs.1.symm
  rw [hr, ← hs.2.2.2 rfl]
  exact ⟨rfl, e3.trans (strip_itms p _ _)⟩
end Go.Proofs.YtcgkfgklggjmaaaGreatDoor.Par
end
section
namespace Go.Proofs.YtcgkfgklggjmaaaGreatDoor.Par
set_option linter.unusedVariables false
set_option linter.unusedSimpArgs false
open Go.RowKit
/-! a plan's places -/
def placesL (p : Plan) : List Int := [p.line, p.col] ++ p.mets.flatMap (fun m => [m.line, m.col]) ++ p.fees.flatMap (fun f => [f.line, f.col]) ++ p.chgs.flatMap (fun c => [c.line, c.col])
theorem intInfo : (Tryz.prog.info? 3).map (fun i => (i.zero, i.size, i.bytes)) = some (some (.int .i64 0), 1, 8) := by kernel_rfl
/-- within Places -/
structure IW (w0 w : World) (C : Array Value) (v : Value) (l : List Int) : Prop where
  lb : LB w0 w
  kp : Blk w w0.heap.size 29 C
  out : w.ownsRow w0.heap.size 3 1 v l.length (l.map (Value.int .i64))
section
variable {w0 w w' : World} {C : Array Value} {v : Value} {l : List Int}
theorem IW.below (h : IW w0 w C v l) (hb : Below w.heap.size w w') : IW w0 w' C v l := ⟨h.lb.call hb, h.kp.call hb, own_keep h.out fun g hg => hb.block g (h.out.lt g hg).2⟩
theorem IW.alloc (h : IW w0 w C v l) (o : Obj) : IW w0 (w.alloc o) C v l := h.below (bl_alloc (bl_refl _) o)
theorem IW.add {v' : Value} {m : Nat} {news : List Value} {l' : List Int} (h : IW w0 w C v l) (hg : w.grownBy w' v.ownBlock) (ho : w'.ownsRow w0.heap.size 3 1 v' (l.length + m) (l.map (Value.int .i64) ++ news)) (hm : l'.length = m) (hn : l'.map (Value.int .i64) = news) : IW w0 w' C v' (l ++ l') :=
  ⟨⟨h.lb.out.grown hg h.lb.out.size (fun k hk => (h.out.lt k hk).1)⟩, h.kp.grown hg (fun e => own_ne_blk h.out h.kp (by decide) e.symm), by rw [List.length_append, hm, List.map_append, hn]; exact ho⟩
theorem IW.lt (h : IW w0 w C v l) : w0.heap.size < w.heap.size := h.kp.lt
end
set_option maxHeartbeats 16000000 in
set_option maxRecDepth 100000 in
theorem places_any {B : Nat} {p : Plan} {mv fv cv : Value} {cs : List CT} (w : World) (h : Rows w B p mv fv cv cs) (hsm : Small p) : Calls Tryz.prog 22 #[.agg (planC p mv fv cv)] w fun e w' => ∃ v, e = .returned v ∧ w'.ownsRow w.heap.size 3 1 v (placesL p).length ((placesL p).map (Value.int .i64)) ∧ Below w.heap.size w w' := by
  obtain ⟨Am, cm, rfl, hm1, hm2, hm3⟩ := Lies.open (f := metF) (l := p.mets) (Lies.of h.mo)
  obtain ⟨Af, cf, rfl, hf1, hf2, hf3⟩ := Lies.open (f := feeF) (l := p.fees) (Lies.of h.fo)
  obtain ⟨Ac, cc, rfl, hc1, hc2, hc3⟩ := Lies.open (f := chgF) (l := cs) (Lies.of h.co)
  have hcl : cs.length = p.chgs.length := by have := congrArg List.length h.eq; rwa [List.length_map] at this
  obtain ⟨n1, n2, n3, n4, n5⟩ := hsm
  clear n4 n5
  have hR := Lib.hid h
  have n3' : cs.length ≤ 10000 := by omega
  clear h hcl
  obtain ⟨iS, hS0, hS1, hS2, hS3⟩ := info_parts intInfo
  have kb := Blk.new w 29 (planC p (.slice Am p.mets.length cm) (.slice Af p.fees.length cf) (.slice Ac cs.length cc))
  obtain ⟨c0, c1, c2, c3, c4, c5, c6, c7, c8, c9, c10, c11, c12, f0, f1, f2, f3, f4, f5, f6, f7, f8, f9, f10, f11, f12⟩ := kb.c13
  clear f0 f1 f2 f3 f4 f5 f6 f7 f8 f9 f10 f11 f12 c0 c1 c2 c3 c4 c5 c6 c7
  unfold planC
  have hW0 : IW w ((w.alloc (.cells #[.string p.name, .string p.cur, .int .i64 p.from_.1, .int .i64 p.from_.2.1, .int .i64 p.from_.2.2, .int .i64 p.to_.1, .int .i64 p.to_.2.1, .int .i64 p.to_.2.2, .slice Am p.mets.length cm, .slice Af p.fees.length cf, .slice Ac cs.length cc, .int .i64 p.line, .int .i64 p.col] 29)).alloc (.cells #[.int .i64 p.line, .int .i64 p.col] 3)) (planC p (.slice Am p.mets.length cm) (.slice Af p.fees.length cf) (.slice Ac cs.length cc)) (.slice (some ⟨w.heap.size + 1, 0, none⟩) 2 2) [p.line, p.col] := by
    refine ⟨⟨bl_alloc (bl_alloc (bl_refl w) _) _⟩, kb.alloc _, ?_⟩
    have hk := Blk.new (w.alloc (.cells #[.string p.name, .string p.cur, .int .i64 p.from_.1, .int .i64 p.from_.2.1, .int .i64 p.from_.2.2, .int .i64 p.to_.1, .int .i64 p.to_.2.1, .int .i64 p.to_.2.2, .slice Am p.mets.length cm, .slice Af p.fees.length cf, .slice Ac cs.length cc, .int .i64 p.line, .int .i64 p.col] 29)) 3 #[.int .i64 p.line, .int .i64 p.col]
    rw [World.size_alloc] at hk
    exact ⟨rfl, .inr ⟨w.heap.size + 1, 2, _, rfl, Nat.le_succ _, hk, Nat.le_refl _, by decide, rfl, rfl⟩⟩
  clear kb
  go_enter Tryz.func22, Tryz.ntmps22
  go_wp2_with fail
  go_loopg [3, 18] p.mets.length (fun n_ v3_ vi_ wr => ∃ k : Nat, k ≤ p.mets.length ∧ vi_ = .int .i64 k ∧ n_ = p.mets.length - k ∧ IW w wr (planC p (.slice Am p.mets.length cm) (.slice Af p.fees.length cf) (.slice Ac cs.length cc)) v3_ ([p.line, p.col] ++ (p.mets.take k).flatMap (fun m => [m.line, m.col])))
  case atStart => exact ⟨0, Nat.zero_le _, rfl, rfl, by simpa using hW0⟩
  case round =>
    obtain ⟨k, hk, rfl, rfl, hW⟩ := hrel
    clear hW0 c8 c9 c10
    by_cases hlt : k < p.mets.length
    · obtain ⟨m, hi⟩ : ∃ x, p.mets[k]? = some x := ⟨_, List.getElem?_eq_getElem hlt⟩
      obtain ⟨gm, rfl, hgm⟩ := hm3 (by omega)
      obtain ⟨L, hL⟩ : ∃ L, L = [p.line, p.col] ++ (p.mets.take k).flatMap (fun m => [m.line, m.col]) := ⟨_, rfl⟩
      rw [← hL] at hW
      have hln : L.length ≤ 100000 := by
        have h1 := flat_le (fun m => [m.line, m.col]) 2 (p.mets.take k) (fun _ _ => Nat.le_refl 2)
        rw [List.length_take] at h1
        rw [hL]
        simp only [List.length_append, List.length_cons, List.length_nil] at *
        omega
      replace hL := Lib.hid hL
      have hLs := (Lies.of (hR.out.below hW.lb.out).mo : Lies metF 58 5 wr (.slice (some ⟨gm, 0, none⟩) p.mets.length cm) p.mets)
      have y0 := hLs.at metF_len hi (j := 0) rfl
      have y1 := hLs.at metF_len hi (j := 1) rfl
      have y2 := hLs.at metF_len hi (j := 2) rfl
      have y3 := hLs.at metF_len hi (j := 3) rfl
      have y4 := hLs.at metF_len hi (j := 4) rfl
      simp only [Nat.add_zero] at y0
      have b0 : (0 : Int) ≤ (k : Int) := by omega
      have b1 : (k : Int) < (p.mets.length : Int) := by omega
      have hlw := hW.lt
      have hWa := (hW.alloc (.cells #[.string m.name, .string m.unit, .int .i64 m.max, .int .i64 m.line, .int .i64 m.col] 58)).alloc (.cells #[.int .i64 m.line, .int .i64 m.col] 3)
      have hnew : ((wr.alloc (.cells #[.string m.name, .string m.unit, .int .i64 m.max, .int .i64 m.line, .int .i64 m.col] 58)).alloc (.cells #[.int .i64 m.line, .int .i64 m.col] 3)).heap[wr.heap.size + 1]? = some (.cells #[.int .i64 m.line, .int .i64 m.col] 3) := by have hq := heap_alloc_new (wr.alloc (.cells #[.string m.name, .string m.unit, .int .i64 m.max, .int .i64 m.line, .int .i64 m.col] 58)) (.cells #[.int .i64 m.line, .int .i64 m.col] 3); rwa [World.size_alloc] at hq
      replace hi := Lib.hid hi
      clear hLs hW
      go_wp2_with (at_builtin; refine wpList_append_lies _ rfl (.tmp 22) (.tmp 27) 42 rfl w.heap.size 3 iS _ 1 8 Tryz.underlying42 hS0 hS1 hS2 hS3 (by rfl) (by decide) _ _ _ (by rfl) hWa.out ⟨wr.heap.size + 1, 0, none⟩ 2 2 [.int .i64 m.line, .int .i64 m.col] (by rfl) rfl (World.news_of_block (cs := #[.int .i64 m.line, .int .i64 m.col]) (t := 3) (fr := (0, 0)) hnew) (by simp [Value.oneCell']) (by decide) (by unfold maxLen; omega) (by omega) hWa.lb.out.size _ rfl ?_; intro g cp w10 hown10 hgrow10 hat10 hlt10; have hW10 := hWa.add (l' := [m.line, m.col]) hgrow10 hown10 rfl rfl)
      go_roundg (p.mets.length - (k + 1))
      case rel => exact ⟨k + 1, by omega, by go_num, rfl, by rw [flat_take (fun m => [m.line, m.col]) hi.out, ← List.append_assoc, ← hL.out]; exact hW10⟩
      case measure => omega
    · obtain rfl : k = p.mets.length := by omega
      rw [List.take_length] at hW
      have hX1 := hW
      clear hW
      have hP := hX1.kp
      unfold planC at hP
      obtain ⟨_, _, _, _, _, _, _, _, c8, c9, c10, _, _, _, _, _, _, _, _, _, _, _, _, _, _, _⟩ := hP.c13
      clear hP
      go_wp2_with fail
      go_loopg [3, 33] p.fees.length (fun n_ v3_ vi_ wr => ∃ k : Nat, k ≤ p.fees.length ∧ vi_ = .int .i64 k ∧ n_ = p.fees.length - k ∧ IW w wr (planC p (.slice Am p.mets.length cm) (.slice Af p.fees.length cf) (.slice Ac cs.length cc)) v3_ (([p.line, p.col] ++ p.mets.flatMap (fun m => [m.line, m.col])) ++ (p.fees.take k).flatMap (fun f => [f.line, f.col])))
      case atStart => exact ⟨0, Nat.zero_le _, rfl, rfl, by simpa using hX1⟩
      case round =>
        obtain ⟨k, hk, rfl, rfl, hW⟩ := hrel
        clear hX1 c8 c9 c10
        by_cases hlt : k < p.fees.length
        · obtain ⟨f, hi⟩ : ∃ x, p.fees[k]? = some x := ⟨_, List.getElem?_eq_getElem hlt⟩
          obtain ⟨gf, rfl, hgf⟩ := hf3 (by omega)
          obtain ⟨L, hL⟩ : ∃ L, L = ([p.line, p.col] ++ p.mets.flatMap (fun m => [m.line, m.col])) ++ (p.fees.take k).flatMap (fun f => [f.line, f.col]) := ⟨_, rfl⟩
          rw [← hL] at hW
          have hln : L.length ≤ 100000 := by
            have h1 := flat_le (fun f => [f.line, f.col]) 2 (p.fees.take k) (fun _ _ => Nat.le_refl 2)
            have h2 := flat_le (fun m : Met => [m.line, m.col]) 2 p.mets (fun _ _ => Nat.le_refl 2)
            rw [List.length_take] at h1
            rw [hL]
            simp only [List.length_append, List.length_cons, List.length_nil] at *
            omega
          replace hL := Lib.hid hL
          have hLs := (Lies.of (hR.out.below hW.lb.out).fo : Lies feeF 62 10 wr (.slice (some ⟨gf, 0, none⟩) p.fees.length cf) p.fees)
          have y0 := hLs.at feeF_len hi (j := 0) rfl
          have y1 := hLs.at feeF_len hi (j := 1) rfl
          have y2 := hLs.at feeF_len hi (j := 2) rfl
          have y3 := hLs.at feeF_len hi (j := 3) rfl
          have y4 := hLs.at feeF_len hi (j := 4) rfl
          have y5 := hLs.at feeF_len hi (j := 5) rfl
          have y6 := hLs.at feeF_len hi (j := 6) rfl
          have y7 := hLs.at feeF_len hi (j := 7) rfl
          have y8 := hLs.at feeF_len hi (j := 8) rfl
          have y9 := hLs.at feeF_len hi (j := 9) rfl
          simp only [Nat.add_zero] at y0
          have b0 : (0 : Int) ≤ (k : Int) := by omega
          have b1 : (k : Int) < (p.fees.length : Int) := by omega
          have hlw := hW.lt
          have hWa := (hW.alloc (.cells #[.int .i64 f.amount, .bool f.win.has, .int .i64 f.win.from_.1, .int .i64 f.win.from_.2.1, .int .i64 f.win.from_.2.2, .int .i64 f.win.to_.1, .int .i64 f.win.to_.2.1, .int .i64 f.win.to_.2.2, .int .i64 f.line, .int .i64 f.col] 62)).alloc (.cells #[.int .i64 f.line, .int .i64 f.col] 3)
          have hnew : ((wr.alloc (.cells #[.int .i64 f.amount, .bool f.win.has, .int .i64 f.win.from_.1, .int .i64 f.win.from_.2.1, .int .i64 f.win.from_.2.2, .int .i64 f.win.to_.1, .int .i64 f.win.to_.2.1, .int .i64 f.win.to_.2.2, .int .i64 f.line, .int .i64 f.col] 62)).alloc (.cells #[.int .i64 f.line, .int .i64 f.col] 3)).heap[wr.heap.size + 1]? = some (.cells #[.int .i64 f.line, .int .i64 f.col] 3) := by have hq := heap_alloc_new (wr.alloc (.cells #[.int .i64 f.amount, .bool f.win.has, .int .i64 f.win.from_.1, .int .i64 f.win.from_.2.1, .int .i64 f.win.from_.2.2, .int .i64 f.win.to_.1, .int .i64 f.win.to_.2.1, .int .i64 f.win.to_.2.2, .int .i64 f.line, .int .i64 f.col] 62)) (.cells #[.int .i64 f.line, .int .i64 f.col] 3); rwa [World.size_alloc] at hq
          replace hi := Lib.hid hi
          clear hLs hW
          go_wp2_with (at_builtin; refine wpList_append_lies _ rfl (.tmp 37) (.tmp 42) 42 rfl w.heap.size 3 iS _ 1 8 Tryz.underlying42 hS0 hS1 hS2 hS3 (by rfl) (by decide) _ _ _ (by rfl) hWa.out ⟨wr.heap.size + 1, 0, none⟩ 2 2 [.int .i64 f.line, .int .i64 f.col] (by rfl) rfl (World.news_of_block (cs := #[.int .i64 f.line, .int .i64 f.col]) (t := 3) (fr := (0, 0)) hnew) (by simp [Value.oneCell']) (by decide) (by unfold maxLen; omega) (by omega) hWa.lb.out.size _ rfl ?_; intro g cp w10 hown10 hgrow10 hat10 hlt10; have hW10 := hWa.add (l' := [f.line, f.col]) hgrow10 hown10 rfl rfl)
          go_roundg (p.fees.length - (k + 1))
          case rel => exact ⟨k + 1, by omega, by go_num, rfl, by rw [flat_take (fun f => [f.line, f.col]) hi.out, ← List.append_assoc, ← hL.out]; exact hW10⟩
          case measure => omega
        · obtain rfl : k = p.fees.length := by omega
          rw [List.take_length] at hW
          have hX2 := hW
          clear hW
          have hP := hX2.kp
          unfold planC at hP
          obtain ⟨_, _, _, _, _, _, _, _, c8, c9, c10, _, _, _, _, _, _, _, _, _, _, _, _, _, _, _⟩ := hP.c13
          clear hP
          go_wp2_with fail
          go_loopg [3, 48] cs.length (fun n_ v3_ vi_ wr => ∃ k : Nat, k ≤ cs.length ∧ vi_ = .int .i64 k ∧ n_ = cs.length - k ∧ IW w wr (planC p (.slice Am p.mets.length cm) (.slice Af p.fees.length cf) (.slice Ac cs.length cc)) v3_ ((([p.line, p.col] ++ p.mets.flatMap (fun m => [m.line, m.col])) ++ p.fees.flatMap (fun f => [f.line, f.col])) ++ (cs.take k).flatMap (fun c : CT => [c.1.line, c.1.col])))
          case atStart => exact ⟨0, Nat.zero_le _, rfl, rfl, by simpa using hX2⟩
          case round =>
            obtain ⟨k, hk, rfl, rfl, hW⟩ := hrel
            clear hX2 c8 c9 c10
            by_cases hlt : k < cs.length
            · obtain ⟨⟨c, tv, av⟩, hi⟩ : ∃ x, cs[k]? = some x := ⟨_, List.getElem?_eq_getElem hlt⟩
              have hmem := List.mem_of_getElem? hi
              have hti := (hR.out.ne _ hmem).1
              have haj := (hR.out.ne _ hmem).2
              simp only at hti haj
              obtain ⟨At, ct, rfl, _, _, _⟩ := Lies.open (f := tierF) (l := c.tiers) (Lies.of hti)
              obtain ⟨Aa, ca, rfl, _, _, _⟩ := Lies.open (f := adjF) (l := c.adjs) (Lies.of haj)
              clear hmem hti haj
              obtain ⟨gc, rfl, hgc⟩ := hc3 (by omega)
              obtain ⟨L, hL⟩ : ∃ L, L = (([p.line, p.col] ++ p.mets.flatMap (fun m => [m.line, m.col])) ++ p.fees.flatMap (fun f => [f.line, f.col])) ++ (cs.take k).flatMap (fun c : CT => [c.1.line, c.1.col]) := ⟨_, rfl⟩
              rw [← hL] at hW
              have hln : L.length ≤ 100000 := by
                have h1 := flat_le (fun c : CT => [c.1.line, c.1.col]) 2 (cs.take k) (fun _ _ => Nat.le_refl 2)
                have h2 := flat_le (fun m : Met => [m.line, m.col]) 2 p.mets (fun _ _ => Nat.le_refl 2)
                have h3 := flat_le (fun f : Fee => [f.line, f.col]) 2 p.fees (fun _ _ => Nat.le_refl 2)
                rw [List.length_take] at h1
                rw [hL]
                simp only [List.length_append, List.length_cons, List.length_nil] at *
                omega
              replace hL := Lib.hid hL
              have hLs := (Lies.of (hR.out.below hW.lb.out).co : Lies chgF 66 16 wr (.slice (some ⟨gc, 0, none⟩) cs.length cc) cs)
              have y0 := hLs.at chgF_len hi (j := 0) rfl
              have y1 := hLs.at chgF_len hi (j := 1) rfl
              have y2 := hLs.at chgF_len hi (j := 2) rfl
              have y3 := hLs.at chgF_len hi (j := 3) rfl
              have y4 := hLs.at chgF_len hi (j := 4) rfl
              have y5 := hLs.at chgF_len hi (j := 5) rfl
              have y6 := hLs.at chgF_len hi (j := 6) rfl
              have y7 := hLs.at chgF_len hi (j := 7) rfl
              have y8 := hLs.at chgF_len hi (j := 8) rfl
              have y9 := hLs.at chgF_len hi (j := 9) rfl
              have y10 := hLs.at chgF_len hi (j := 10) rfl
              have y11 := hLs.at chgF_len hi (j := 11) rfl
              have y12 := hLs.at chgF_len hi (j := 12) rfl
              have y13 := hLs.at chgF_len hi (j := 13) rfl
              have y14 := hLs.at chgF_len hi (j := 14) rfl
              have y15 := hLs.at chgF_len hi (j := 15) rfl
              simp only [Nat.add_zero] at y0
              have b0 : (0 : Int) ≤ (k : Int) := by omega
              have b1 : (k : Int) < (cs.length : Int) := by omega
              have hlw := hW.lt
              have hWa := (hW.alloc (.cells #[.string c.meter, .bool c.win.has, .int .i64 c.win.from_.1, .int .i64 c.win.from_.2.1, .int .i64 c.win.from_.2.2, .int .i64 c.win.to_.1, .int .i64 c.win.to_.2.1, .int .i64 c.win.to_.2.2, .int .i64 c.allow, .int .i64 c.block, .int .i64 c.kind, .slice At c.tiers.length ct, .int .i64 c.mode, .slice Aa c.adjs.length ca, .int .i64 c.line, .int .i64 c.col] 66)).alloc (.cells #[.int .i64 c.line, .int .i64 c.col] 3)
              have hnew : ((wr.alloc (.cells #[.string c.meter, .bool c.win.has, .int .i64 c.win.from_.1, .int .i64 c.win.from_.2.1, .int .i64 c.win.from_.2.2, .int .i64 c.win.to_.1, .int .i64 c.win.to_.2.1, .int .i64 c.win.to_.2.2, .int .i64 c.allow, .int .i64 c.block, .int .i64 c.kind, .slice At c.tiers.length ct, .int .i64 c.mode, .slice Aa c.adjs.length ca, .int .i64 c.line, .int .i64 c.col] 66)).alloc (.cells #[.int .i64 c.line, .int .i64 c.col] 3)).heap[wr.heap.size + 1]? = some (.cells #[.int .i64 c.line, .int .i64 c.col] 3) := by have hq := heap_alloc_new (wr.alloc (.cells #[.string c.meter, .bool c.win.has, .int .i64 c.win.from_.1, .int .i64 c.win.from_.2.1, .int .i64 c.win.from_.2.2, .int .i64 c.win.to_.1, .int .i64 c.win.to_.2.1, .int .i64 c.win.to_.2.2, .int .i64 c.allow, .int .i64 c.block, .int .i64 c.kind, .slice At c.tiers.length ct, .int .i64 c.mode, .slice Aa c.adjs.length ca, .int .i64 c.line, .int .i64 c.col] 66)) (.cells #[.int .i64 c.line, .int .i64 c.col] 3); rwa [World.size_alloc] at hq
              replace hi := Lib.hid hi
              clear hLs hW
              go_wp2_with (at_builtin; refine wpList_append_lies _ rfl (.tmp 52) (.tmp 57) 42 rfl w.heap.size 3 iS _ 1 8 Tryz.underlying42 hS0 hS1 hS2 hS3 (by rfl) (by decide) _ _ _ (by rfl) hWa.out ⟨wr.heap.size + 1, 0, none⟩ 2 2 [.int .i64 c.line, .int .i64 c.col] (by rfl) rfl (World.news_of_block (cs := #[.int .i64 c.line, .int .i64 c.col]) (t := 3) (fr := (0, 0)) hnew) (by simp [Value.oneCell']) (by decide) (by unfold maxLen; omega) (by omega) hWa.lb.out.size _ rfl ?_; intro g cp w10 hown10 hgrow10 hat10 hlt10; have hW10 := hWa.add (l' := [c.line, c.col]) hgrow10 hown10 rfl rfl)
              go_roundg (cs.length - (k + 1))
              case rel => exact ⟨k + 1, by omega, by go_num, rfl, by rw [flat_take (fun c : CT => [c.1.line, c.1.col]) hi.out, ← List.append_assoc, ← hL.out]; exact hW10⟩
              case measure => omega
            · obtain rfl : k = cs.length := by omega
              rw [List.take_length] at hW
              have hX3 := hW
              clear hW
              have hP := hX3.kp
              unfold planC at hP
              obtain ⟨_, _, _, _, _, _, _, _, c8, c9, c10, _, _, _, _, _, _, _, _, _, _, _, _, _, _, _⟩ := hP.c13
              clear hP
              go_wp2_with fail
              go_ret
              have hq : (([p.line, p.col] ++ p.mets.flatMap (fun m => [m.line, m.col])) ++ p.fees.flatMap (fun f => [f.line, f.col])) ++ cs.flatMap (fun c : CT => [c.1.line, c.1.col]) = placesL p := by
                unfold placesL
                rw [← hR.out.eq, List.flatMap_map]
              rw [hq] at hX3
              exact ⟨_, rfl, hX3.out, hX3.lb.out⟩
end Go.Proofs.YtcgkfgklggjmaaaGreatDoor.Par
end
section
namespace Go.Proofs.YtcgkfgklggjmaaaGreatDoor.Par
set_option linter.unusedVariables false
set_option linter.unusedSimpArgs false
open Go.RowKit
def intF (n : Int) : List Value := [.int .i64 n]
theorem intF_len (n : Int) : (intF n).length = 1 := rfl
theorem int_flat (l : List Int) : l.flatMap intF = l.map (Value.int .i64) := by
  induction l with
  | nil => rfl
  | cons a l ih => simp [intF, ih]
theorem beq_ne_bytes {a b : ByteArray} (h : a ≠ b) : (a == b) = false := by
  cases hh : (a == b) with
  | false => rfl
  | true =>
    exfalso
    apply h
    cases a with
    | mk d =>
      cases b with
      | mk e =>
        have he : (d == e) = true := hh
        rw [beq_iff_eq.1 he]
theorem take_next {α : Type} {l l' : List α} {k : Nat} (hl : l.length = l'.length) (hk : k < l.length) (h : l.take k = l'.take k) (e : l[k]? = l'[k]?) : l.take (k + 1) = l'.take (k + 1) := by
  rw [List.take_add_one, List.take_add_one, h, e]
set_option maxHeartbeats 8000000 in
set_option maxRecDepth 100000 in
theorem texts_any {l l' : List ByteArray} {v v' : Value} (w : World) (h : Lies strF 9 1 w v l) (h' : Lies strF 9 1 w v' l') : Calls Tryz.prog 55 #[v, v'] w fun e w' => e = .returned (.bool (decide (l = l'))) ∧ Below w.heap.size w w' := by
  obtain ⟨A, c, rfl, h1, h2, h3⟩ := h.open
  obtain ⟨A', c', rfl, h1', h2', h3'⟩ := h'.open
  have hm : l.length ≤ 9223372036854775807 := by unfold maxLen at h2; omega
  have hm' : l'.length ≤ 9223372036854775807 := by unfold maxLen at h2'; omega
  have hH := Lib.hid h
  have hH' := Lib.hid h'
  clear h h'
  obtain ⟨D, hD⟩ : ∃ D, D = decide (l = l') := ⟨_, rfl⟩
  rw [← hD]
  have HD := Lib.hid hD
  clear hD
  by_cases hl : l.length = l'.length
  · have e0 : ((l.length : Int) != (l'.length : Int)) = false := by rw [hl]; simp
    have hlh := Lib.hid hl
    clear hl
    go_enter Tryz.func55, Tryz.ntmps55
    go_wp2_with fail
    go_loopg [13] l.length (fun n_ vi_ wr => ∃ k : Nat, k ≤ l.length ∧ vi_ = .int .i64 k ∧ n_ = l.length - k ∧ Below w.heap.size w wr ∧ Hid (l.take k = l'.take k))
    case atStart => exact ⟨0, Nat.zero_le _, rfl, rfl, bl_refl w, Lib.hid rfl⟩
    case round =>
      obtain ⟨k, hk, rfl, rfl, hb, hp⟩ := hrel
      by_cases hlt : k < l.length
      · have hlt' : k < l'.length := by have := hlh.out; omega
        obtain ⟨a, hi⟩ : ∃ a, l[k]? = some a := ⟨_, List.getElem?_eq_getElem hlt⟩
        obtain ⟨a', hi'⟩ : ∃ a, l'[k]? = some a := ⟨_, List.getElem?_eq_getElem hlt'⟩
        obtain ⟨g, rfl, hg⟩ := h3 (by omega)
        obtain ⟨g', rfl, hg'⟩ := h3' (by omega)
        have y := ((hH.out.below hb).at strF_len hi (j := 0) rfl)
        have y' := ((hH'.out.below hb).at strF_len hi' (j := 0) rfl)
        simp only [Nat.mul_one, Nat.add_zero] at y y'
        have b0 : (0 : Int) ≤ (k : Int) := by omega
        have b1 : (k : Int) < (l.length : Int) := by omega
        have b2 : (k : Int) < (l'.length : Int) := by omega
        by_cases hab : a = a'
        · subst hab
          have hn := Lib.hid (take_next hlh.out hlt hp.out (hi.trans hi'.symm))
          have ea : (a.toList == a.toList) = true := by rw [beq_bytes]; exact beq_refl_bytes a
          clear hi hi' hp e0
          go_wp2_with fail
          go_quiet (fail)
          go_wp2_with fail
          go_roundg (l.length - (k + 1))
          case rel => exact ⟨k + 1, by omega, by go_num, rfl, bl_drewN hb _, hn⟩
          case measure => omega
        · have ea : (a.toList == a'.toList) = false := by rw [beq_bytes]; exact beq_ne_bytes hab
          have hne : decide (l = l') = false := decide_eq_false (fun e => hab (by rw [e, hi'] at hi; exact (Option.some.inj hi).symm))
          have hneh := Lib.hid hne
          clear hi hi' hp e0 hab hne
          go_wp2_with fail
          go_quiet (fail)
          go_wp2_with fail
          go_ret
          exact ⟨ret_bool (a := false) (by rw [HD.out, hneh.out]), bl_drewN hb _⟩
      · obtain rfl : k = l.length := by omega
        have hee : l = l' := by
          have h1 := hp.out
          rw [List.take_length, hlh.out, List.take_length] at h1
          exact h1
        have hed : decide (l = l') = true := decide_eq_true hee
        have heh := Lib.hid hed
        clear hed hee hp e0
        go_wp2_with fail
        go_ret
        exact ⟨ret_bool (a := true) (by rw [HD.out, heh.out]), hb⟩
  · have e0 : ((l.length : Int) != (l'.length : Int)) = true := bne_iff_ne.2 (by omega)
    have hne : decide (l = l') = false := decide_eq_false (fun e => hl (by rw [e]))
    have hneh := Lib.hid hne
    clear hne hl
    go_enter Tryz.func55, Tryz.ntmps55
    go_wp2_with fail
    go_ret
    exact ⟨ret_bool (a := false) (by rw [HD.out, hneh.out]), bl_refl w⟩
set_option maxHeartbeats 8000000 in
set_option maxRecDepth 100000 in
theorem ints_any {l l' : List Int} {v v' : Value} (w : World) (h : Lies intF 3 1 w v l) (h' : Lies intF 3 1 w v' l') : Calls Tryz.prog 21 #[v, v'] w fun e w' => e = .returned (.bool (decide (l = l'))) ∧ Below w.heap.size w w' := by
  obtain ⟨A, c, rfl, h1, h2, h3⟩ := h.open
  obtain ⟨A', c', rfl, h1', h2', h3'⟩ := h'.open
  have hm : l.length ≤ 9223372036854775807 := by unfold maxLen at h2; omega
  have hm' : l'.length ≤ 9223372036854775807 := by unfold maxLen at h2'; omega
  have hH := Lib.hid h
  have hH' := Lib.hid h'
  clear h h'
  obtain ⟨D, hD⟩ : ∃ D, D = decide (l = l') := ⟨_, rfl⟩
  rw [← hD]
  have HD := Lib.hid hD
  clear hD
  by_cases hl : l.length = l'.length
  · have e0 : ((l.length : Int) != (l'.length : Int)) = false := by rw [hl]; simp
    have hlh := Lib.hid hl
    clear hl
    go_enter Tryz.func21, Tryz.ntmps21
    go_wp2_with fail
    go_loopg [13] l.length (fun n_ vi_ wr => ∃ k : Nat, k ≤ l.length ∧ vi_ = .int .i64 k ∧ n_ = l.length - k ∧ Below w.heap.size w wr ∧ Hid (l.take k = l'.take k))
    case atStart => exact ⟨0, Nat.zero_le _, rfl, rfl, bl_refl w, Lib.hid rfl⟩
    case round =>
      obtain ⟨k, hk, rfl, rfl, hb, hp⟩ := hrel
      by_cases hlt : k < l.length
      · have hlt' : k < l'.length := by have := hlh.out; omega
        obtain ⟨a, hi⟩ : ∃ a, l[k]? = some a := ⟨_, List.getElem?_eq_getElem hlt⟩
        obtain ⟨a', hi'⟩ : ∃ a, l'[k]? = some a := ⟨_, List.getElem?_eq_getElem hlt'⟩
        obtain ⟨g, rfl, hg⟩ := h3 (by omega)
        obtain ⟨g', rfl, hg'⟩ := h3' (by omega)
        have y := ((hH.out.below hb).at intF_len hi (j := 0) rfl)
        have y' := ((hH'.out.below hb).at intF_len hi' (j := 0) rfl)
        simp only [Nat.mul_one, Nat.add_zero] at y y'
        have b0 : (0 : Int) ≤ (k : Int) := by omega
        have b1 : (k : Int) < (l.length : Int) := by omega
        have b2 : (k : Int) < (l'.length : Int) := by omega
        by_cases hab : a = a'
        · subst hab
          have hn := Lib.hid (take_next hlh.out hlt hp.out (hi.trans hi'.symm))
          have ea : (a != a) = false := by simp
          clear hi hi' hp e0
          go_wp2_with fail
          go_quiet (fail)
          go_wp2_with fail
          go_roundg (l.length - (k + 1))
          case rel => exact ⟨k + 1, by omega, by go_num, rfl, bl_drewN hb _, hn⟩
          case measure => omega
        · have ea : (a != a') = true := bne_iff_ne.2 hab
          have hne : decide (l = l') = false := decide_eq_false (fun e => hab (by rw [e, hi'] at hi; exact (Option.some.inj hi).symm))
          have hneh := Lib.hid hne
          clear hi hi' hp e0 hab hne
          go_wp2_with fail
          go_quiet (fail)
          go_wp2_with fail
          go_ret
          exact ⟨ret_bool (a := false) (by rw [HD.out, hneh.out]), bl_drewN hb _⟩
      · obtain rfl : k = l.length := by omega
        have hee : l = l' := by
          have h1 := hp.out
          rw [List.take_length, hlh.out, List.take_length] at h1
          exact h1
        have hed : decide (l = l') = true := decide_eq_true hee
        have heh := Lib.hid hed
        clear hed hee hp e0
        go_wp2_with fail
        go_ret
        exact ⟨ret_bool (a := true) (by rw [HD.out, heh.out]), hb⟩
  · have e0 : ((l.length : Int) != (l'.length : Int)) = true := bne_iff_ne.2 (by omega)
    have hne : decide (l = l') = false := decide_eq_false (fun e => hl (by rw [e]))
    have hneh := Lib.hid hne
    clear hne hl
    go_enter Tryz.func21, Tryz.ntmps21
    go_wp2_with fail
    go_ret
    exact ⟨ret_bool (a := false) (by rw [HD.out, hneh.out]), bl_refl w⟩
end Go.Proofs.YtcgkfgklggjmaaaGreatDoor.Par
end
section
namespace Go.Proofs.YtcgkfgklggjmaaaGreatDoor.Par
set_option linter.unusedVariables false
set_option linter.unusedSimpArgs false
open Go.RowKit
set_option maxHeartbeats 16000000 in
set_option maxRecDepth 100000 in
theorem same_any {B B' : Nat} {p q : Plan} {mv fv cv mv' fv' cv' : Value} {cs ds : List CT} (w : World) (h : Rows w B p mv fv cv cs) (h' : Rows w B' q mv' fv' cv' ds) (hs : Small p) (hs' : Small q) : Calls Tryz.prog 20 #[.agg (planC p mv fv cv), .agg (planC q mv' fv' cv')] w fun e w' => e = .returned (.bool (decide (rowT p = rowT q))) ∧ Below w.heap.size w w' := by
  have r1 := fun (W : World) (hb : LB w W) => row_any W (h.below hb.out) hs
  have r2 := fun (W : World) (hb : LB w W) => row_any W (h'.below hb.out) hs'
  obtain ⟨Am, cAm, rfl, _, _, _⟩ := Lies.open (f := metF) (l := p.mets) (Lies.of h.mo)
  obtain ⟨Af, cAf, rfl, _, _, _⟩ := Lies.open (f := feeF) (l := p.fees) (Lies.of h.fo)
  obtain ⟨Ac, cAc, rfl, _, _, _⟩ := Lies.open (f := chgF) (l := cs) (Lies.of h.co)
  obtain ⟨Bm, cBm, rfl, _, _, _⟩ := Lies.open (f := metF) (l := q.mets) (Lies.of h'.mo)
  obtain ⟨Bf, cBf, rfl, _, _, _⟩ := Lies.open (f := feeF) (l := q.fees) (Lies.of h'.fo)
  obtain ⟨Bc, cBc, rfl, _, _, _⟩ := Lies.open (f := chgF) (l := ds) (Lies.of h'.co)
  unfold planC at r1 r2 ⊢
  generalize rowT p = a at *
  generalize rowT q = b at *
  replace r1 := Lib.hid r1
  replace r2 := Lib.hid r2
  have k1 := ((Blk.new w 29 #[.string p.name, .string p.cur, .int .i64 p.from_.1, .int .i64 p.from_.2.1, .int .i64 p.from_.2.2, .int .i64 p.to_.1, .int .i64 p.to_.2.1, .int .i64 p.to_.2.2, .slice Am p.mets.length cAm, .slice Af p.fees.length cAf, .slice Ac cs.length cAc, .int .i64 p.line, .int .i64 p.col]).alloc (.cells #[.string q.name, .string q.cur, .int .i64 q.from_.1, .int .i64 q.from_.2.1, .int .i64 q.from_.2.2, .int .i64 q.to_.1, .int .i64 q.to_.2.1, .int .i64 q.to_.2.2, .slice Bm q.mets.length cBm, .slice Bf q.fees.length cBf, .slice Bc ds.length cBc, .int .i64 q.line, .int .i64 q.col] 29)).drew
  have k2 : Blk ((w.alloc (.cells #[.string p.name, .string p.cur, .int .i64 p.from_.1, .int .i64 p.from_.2.1, .int .i64 p.from_.2.2, .int .i64 p.to_.1, .int .i64 p.to_.2.1, .int .i64 p.to_.2.2, .slice Am p.mets.length cAm, .slice Af p.fees.length cAf, .slice Ac cs.length cAc, .int .i64 p.line, .int .i64 p.col] 29)).alloc (.cells #[.string q.name, .string q.cur, .int .i64 q.from_.1, .int .i64 q.from_.2.1, .int .i64 q.from_.2.2, .int .i64 q.to_.1, .int .i64 q.to_.2.1, .int .i64 q.to_.2.2, .slice Bm q.mets.length cBm, .slice Bf q.fees.length cBf, .slice Bc ds.length cBc, .int .i64 q.line, .int .i64 q.col] 29)).drew (w.heap.size + 1) 29 #[.string q.name, .string q.cur, .int .i64 q.from_.1, .int .i64 q.from_.2.1, .int .i64 q.from_.2.2, .int .i64 q.to_.1, .int .i64 q.to_.2.1, .int .i64 q.to_.2.2, .slice Bm q.mets.length cBm, .slice Bf q.fees.length cBf, .slice Bc ds.length cBc, .int .i64 q.line, .int .i64 q.col] := by
    have hk := Blk.new (w.alloc (.cells #[.string p.name, .string p.cur, .int .i64 p.from_.1, .int .i64 p.from_.2.1, .int .i64 p.from_.2.2, .int .i64 p.to_.1, .int .i64 p.to_.2.1, .int .i64 p.to_.2.2, .slice Am p.mets.length cAm, .slice Af p.fees.length cAf, .slice Ac cs.length cAc, .int .i64 p.line, .int .i64 p.col] 29)) 29 #[.string q.name, .string q.cur, .int .i64 q.from_.1, .int .i64 q.from_.2.1, .int .i64 q.from_.2.2, .int .i64 q.to_.1, .int .i64 q.to_.2.1, .int .i64 q.to_.2.2, .slice Bm q.mets.length cBm, .slice Bf q.fees.length cBf, .slice Bc ds.length cBc, .int .i64 q.line, .int .i64 q.col]
    rw [World.size_alloc] at hk
    exact hk.drew
  have hL0 : LB w ((w.alloc (.cells #[.string p.name, .string p.cur, .int .i64 p.from_.1, .int .i64 p.from_.2.1, .int .i64 p.from_.2.2, .int .i64 p.to_.1, .int .i64 p.to_.2.1, .int .i64 p.to_.2.2, .slice Am p.mets.length cAm, .slice Af p.fees.length cAf, .slice Ac cs.length cAc, .int .i64 p.line, .int .i64 p.col] 29)).alloc (.cells #[.string q.name, .string q.cur, .int .i64 q.from_.1, .int .i64 q.from_.2.1, .int .i64 q.from_.2.2, .int .i64 q.to_.1, .int .i64 q.to_.2.1, .int .i64 q.to_.2.2, .slice Bm q.mets.length cBm, .slice Bf q.fees.length cBf, .slice Bc ds.length cBc, .int .i64 q.line, .int .i64 q.col] 29)).drew := ⟨bl_drew (bl_alloc (bl_alloc (bl_refl w) _) _)⟩
  obtain ⟨x0, x1, x2, x3, x4, x5, x6, x7, x8, x9, x10, x11, x12, _, _, _, _, _, _, _, _, _, _, _, _, _⟩ := k1.c13
  obtain ⟨y0, y1, y2, y3, y4, y5, y6, y7, y8, y9, y10, y11, y12, _, _, _, _, _, _, _, _, _, _, _, _, _⟩ := k2.c13
  clear h h' hs hs'
  go_enter Tryz.func20, Tryz.ntmps20
  go_wp2_with fail
  go_region_held3 (fun w' => w'.cell? ⟨w.heap.size, 0, none⟩ = some (.string p.name) ∧ w'.cell? ⟨w.heap.size, 1, none⟩ = some (.string p.cur) ∧ w'.cell? ⟨w.heap.size, 2, none⟩ = some (.int .i64 p.from_.1) ∧ w'.cell? ⟨w.heap.size, 3, none⟩ = some (.int .i64 p.from_.2.1) ∧ w'.cell? ⟨w.heap.size, 4, none⟩ = some (.int .i64 p.from_.2.2) ∧ w'.cell? ⟨w.heap.size, 5, none⟩ = some (.int .i64 p.to_.1) ∧ w'.cell? ⟨w.heap.size, 6, none⟩ = some (.int .i64 p.to_.2.1) ∧ w'.cell? ⟨w.heap.size, 7, none⟩ = some (.int .i64 p.to_.2.2) ∧ w'.cell? ⟨w.heap.size, 8, none⟩ = some (.slice Am p.mets.length cAm) ∧ w'.cell? ⟨w.heap.size, 9, none⟩ = some (.slice Af p.fees.length cAf) ∧ w'.cell? ⟨w.heap.size, 10, none⟩ = some (.slice Ac cs.length cAc) ∧ w'.cell? ⟨w.heap.size, 11, none⟩ = some (.int .i64 p.line) ∧ w'.cell? ⟨w.heap.size, 12, none⟩ = some (.int .i64 p.col) ∧ w'.cell? ⟨(w.heap.size + 1), 0, none⟩ = some (.string q.name) ∧ w'.cell? ⟨(w.heap.size + 1), 1, none⟩ = some (.string q.cur) ∧ w'.cell? ⟨(w.heap.size + 1), 2, none⟩ = some (.int .i64 q.from_.1) ∧ w'.cell? ⟨(w.heap.size + 1), 3, none⟩ = some (.int .i64 q.from_.2.1) ∧ w'.cell? ⟨(w.heap.size + 1), 4, none⟩ = some (.int .i64 q.from_.2.2) ∧ w'.cell? ⟨(w.heap.size + 1), 5, none⟩ = some (.int .i64 q.to_.1) ∧ w'.cell? ⟨(w.heap.size + 1), 6, none⟩ = some (.int .i64 q.to_.2.1) ∧ w'.cell? ⟨(w.heap.size + 1), 7, none⟩ = some (.int .i64 q.to_.2.2) ∧ w'.cell? ⟨(w.heap.size + 1), 8, none⟩ = some (.slice Bm q.mets.length cBm) ∧ w'.cell? ⟨(w.heap.size + 1), 9, none⟩ = some (.slice Bf q.fees.length cBf) ∧ w'.cell? ⟨(w.heap.size + 1), 10, none⟩ = some (.slice Bc ds.length cBc) ∧ w'.cell? ⟨(w.heap.size + 1), 11, none⟩ = some (.int .i64 q.line) ∧ w'.cell? ⟨(w.heap.size + 1), 12, none⟩ = some (.int .i64 q.col))
    (refine ⟨?_, ?_, ?_, ?_, ?_, ?_, ?_, ?_, ?_, ?_, ?_, ?_, ?_, ?_, ?_, ?_, ?_, ?_, ?_, ?_, ?_, ?_, ?_, ?_, ?_, ?_⟩ <;> first | with_reducible assumption | exact LB.alloc (by with_reducible assumption) _ | fail)
    ((first | (go_at_call 56; (with_reducible refine (r1.out _ (by with_reducible assumption)).mono ?_); rintro e w6 ⟨v1, rfl, hv1, hb6⟩; (have j1 := k1.call hb6); (have j2 := k2.call hb6); (have hL6 := hL0.call hb6); obtain ⟨a0, a1, a2, a3, a4, a5, a6, a7, a8, a9, a10, a11, a12, _, _, _, _, _, _, _, _, _, _, _, _, _⟩ := j1.c13; obtain ⟨b0, b1, b2, b3, b4, b5, b6, b7, b8, b9, b10, b11, b12, _, _, _, _, _, _, _, _, _, _, _, _, _⟩ := j2.c13) | (go_at_call 56; (with_reducible refine (r2.out _ (by with_reducible assumption)).mono ?_); rintro e w7 ⟨v2, rfl, hv2, hb7⟩; (have i1 := j1.call hb7); (have i2 := j2.call hb7); (have hL7 := hL6.call hb7); (have hv17 := own_keep hv1 (fun g hg => hb7.block g (hv1.lt g hg).2)); obtain ⟨c0, c1, c2, c3, c4, c5, c6, c7, c8, c9, c10, c11, c12, _, _, _, _, _, _, _, _, _, _, _, _, _⟩ := i1.c13; obtain ⟨d0, d1, d2, d3, d4, d5, d6, d7, d8, d9, d10, d11, d12, _, _, _, _, _, _, _, _, _, _, _, _, _⟩ := i2.c13) | (go_at_call 55; (with_reducible refine (texts_any _ (Lies.of hv17) (Lies.of hv2)).mono ?_); rintro e w8 ⟨rfl, hb8⟩; (have u1 := i1.call hb8); (have u2 := i2.call hb8); (have hL8 := hL7.call hb8); obtain ⟨e0, e1, e2, e3, e4, e5, e6, e7, e8, e9, e10, e11, e12, _, _, _, _, _, _, _, _, _, _, _, _, _⟩ := u1.c13; obtain ⟨f0, f1, f2, f3, f4, f5, f6, f7, f8, f9, f10, f11, f12, _, _, _, _, _, _, _, _, _, _, _, _, _⟩ := u2.c13)))
  all_goals go_wp2_with fail
  all_goals go_ret
  all_goals exact ⟨rfl, hL8.out⟩
end Go.Proofs.YtcgkfgklggjmaaaGreatDoor.Par
end
section
namespace Go.Proofs.YtcgkfgklggjmaaaGreatDoor.Par
set_option linter.unusedVariables false
set_option linter.unusedSimpArgs false
open Go.RowKit
/-! faults, compared whole -/
theorem flt_eq (d : Nat) (a b c a' b' c' : Int) (w : World) :
    (Op.equalIn (d + 2) 37 (.agg #[.int .i64 a, .int .i64 b, .int .i64 c]) (.agg #[.int .i64 a', .int .i64 b', .int .i64 c'])).run Tryz.prog w = .ok (a == a' && (b == b' && (c == c' && true))) w := by
  refine eqS_of _ _ _ _ _ _ Tryz.underlying37 (by kernel_rfl) ?_
  refine eqF_cons _ _ _ _ _ (.int .i64 a) (.int .i64 a') _ _ rfl (by go_simp) (by go_simp) (by go_simp) ?_
  refine eqF_cons _ _ _ _ _ (.int .i64 b) (.int .i64 b') _ _ rfl (by go_simp) (by go_simp) (by go_simp) ?_
  refine eqF_cons _ _ _ _ _ (.int .i64 c) (.int .i64 c') _ _ rfl (by go_simp) (by go_simp) (by go_simp) ?_
  exact eqF_nil _ _ _
theorem flt_same (a b c : Int) (w : World) : (binOp .eql 37 (.agg #[.int .i64 a, .int .i64 b, .int .i64 c]) (.agg #[.int .i64 a, .int .i64 b, .int .i64 c])).run Tryz.prog w = .ok (.bool true) w := by
  have h := eql_S (fun d => flt_eq (d + 1) a b c a b c w)
  simpa using h
theorem flt_zero (w : World) : (binOp .neq 37 (.agg #[.int .i64 0, .int .i64 0, .int .i64 0]) (.agg #[.int .i64 0, .int .i64 0, .int .i64 0])).run Tryz.prog w = .ok (.bool false) w := by
  have h := neq_S (fun d => flt_eq (d + 1) 0 0 0 0 0 0 w)
  simpa using h
theorem flt_bad {a : Int} (b c : Int) (ha : a ≠ 0) (w : World) : (binOp .neq 37 (.agg #[.int .i64 a, .int .i64 b, .int .i64 c]) (.agg #[.int .i64 0, .int .i64 0, .int .i64 0])).run Tryz.prog w = .ok (.bool true) w := by
  have h := neq_S (fun d => flt_eq (d + 1) a b c 0 0 0 w)
  have h0 : (a == 0) = false := by simpa using ha
  rw [h0] at h
  simpa using h
end Go.Proofs.YtcgkfgklggjmaaaGreatDoor.Par
end
