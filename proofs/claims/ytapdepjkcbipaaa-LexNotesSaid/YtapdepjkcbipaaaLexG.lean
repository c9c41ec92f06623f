import Derived.Test.YtapdepjkcbipaaaLexF
namespace Go.Proofs.Ytapdepjkcbipaaa
set_option linter.unusedVariables false
set_option linter.unusedSimpArgs false
open Go.RowKit
def tokCells (t : Tok) : List Value := [.int .i64 t.kind, .string t.text, .int .i64 t.line, .int .i64 t.col]
def toksCells (ts : List Tok) : List Value := ts.flatMap tokCells
theorem toks_snoc (ts : List Tok) (t : Tok) : toksCells (ts ++ [t]) = toksCells ts ++ tokCells t := by simp [toksCells]
theorem ownsRow_below {w w' : World} {base : Nat} {e : TypeId} {size : Nat} {v : Value} {n : Nat} {xs : List Value} (h : w.ownsRow base e size v n xs) (hb : Below w.heap.size w w') : w'.ownsRow base e size v n xs := by
  obtain ⟨h1, h2⟩ := h
  refine ⟨h1, ?_⟩
  rcases h2 with h2 | ⟨g, cap, cur, a, b, c, d⟩
  · exact .inl h2
  · exact .inr ⟨g, cap, cur, a, b, (hb.block g (Blk.lt (t := e) (cs := cur) c)).trans c, d⟩
theorem ownsRow_set {w : World} {base : Nat} {e : TypeId} {size : Nat} {v : Value} {n : Nat} {xs : List Value} (h : w.ownsRow base e size v n xs) {p : Addr} (hp : p.block < base) (u : Value) : (w.setCell p u).ownsRow base e size v n xs := by
  obtain ⟨h1, h2⟩ := h
  refine ⟨h1, ?_⟩
  rcases h2 with h2 | ⟨g, cap, cur, a, b, c, d⟩
  · exact .inl h2
  · exact .inr ⟨g, cap, cur, a, b, (Below.heap_setCell w p u g (by omega)).trans c, d⟩
theorem ownsRow_drewN {w : World} {base : Nat} {e : TypeId} {size : Nat} {v : Value} {n : Nat} {xs : List Value} (h : w.ownsRow base e size v n xs) (k : Nat) : (w.drewN k).ownsRow base e size v n xs := h
theorem ownsRow_far {w : World} {base : Nat} {e : TypeId} {size : Nat} {v : Value} {n : Nat} {xs : List Value} (h : w.ownsRow base e size v n xs) {p : Addr} (hp : ∀ g, v.ownBlock = some g → g ≠ p.block) (u : Value) : (w.setCell p u).ownsRow base e size v n xs := by
  obtain ⟨h1, h2⟩ := h
  refine ⟨h1, ?_⟩
  rcases h2 with h2 | ⟨g, cap, cur, a, b, c, d⟩
  · exact .inl h2
  · exact .inr ⟨g, cap, cur, a, b, (Below.heap_setCell w p u g (hp g (by rw [a]; rfl))).trans c, d⟩
theorem blk_23 {w : World} {g : Nat} {t : TypeId} {a b c d : Value} (h : Blk w g t #[a, b, c, d]) : w.cell? ⟨g, 2, none⟩ = some c ∧ w.cell? ⟨g, 3, none⟩ = some d := ⟨h.cell 2, h.cell 3⟩
theorem ownsRow_base {w : World} {base base' : Nat} {e : TypeId} {size : Nat} {v : Value} {n : Nat} {xs : List Value} (h : w.ownsRow base e size v n xs) (hb : base' ≤ base) : w.ownsRow base' e size v n xs := by
  obtain ⟨h1, h2⟩ := h
  refine ⟨h1, ?_⟩
  rcases h2 with h2 | ⟨g, cap, cur, a, b, c, d⟩
  · exact .inl h2
  · exact .inr ⟨g, cap, cur, a, by omega, c, d⟩
theorem bl_grown {w v w' : World} {row : Option Nat} (h : Below w.heap.size w v) (hg : v.grownBy w' row) (hr : ∀ k, row = some k → w.heap.size ≤ k) : Below w.heap.size w w' := h.grown hg h.size hr
theorem ext_drop (s : ByteArray) (a : Nat) : (s.extract a s.size).data.toList = s.data.toList.drop a := by
  rw [Lib.extract_data]; exact List.take_of_length_le (by simp)
theorem ext_take (s : ByteArray) (a n : Nat) : (s.extract a (a + n)).data.toList = (s.data.toList.drop a).take n := by
  rw [Lib.extract_data, show a + n - a = n from by omega]
def LexIn (l : List UInt8) (ts : List Tok) (a : Nat) (line col : Int) : Prop := lexL l 1 1 = preR ts (lexL (l.drop a) line col)
def posOf (w : World) (b : Nat) : Nat := (intOf ((w.cell? ⟨b, 0, none⟩).getD undef)).toNat
theorem posOf_blk {w : World} {b : Nat} {t : TypeId} {a : Nat} {x y : Value} (h : Blk w b t #[.int .i64 a, x, y]) : posOf w b = a := by
  simp [posOf, h.c3.1, intOf]
theorem blank_at (s : ByteArray) (l : List UInt8) (w : World) (h : s.data.toList = l) :
    Calls Try.prog 11 #[.string s] w fun e w' => e = .returned (.int .i64 (blankN l)) ∧ w = w' := by
  subst h; exact blank_any s w
theorem run_at (s : ByteArray) (l : List UInt8) (w : World) (hs : s.size < 4294967281) (h : s.data.toList = l) :
    Calls Try.prog 13 #[.string s] w fun e w' => e = .returned (.int .i64 (runN l)) ∧ w = w' := by
  subst h; exact run_any s w hs
/-- what a call of Lex leaves -/
def LexOut (E : TypeId) (s : ByteArray) (w : World) (r : Value → Int → Int → Int → Value) (e : Ending) (w' : World) : Prop :=
  ∃ (v : Value) (ts : List Tok) (er l c : Int), e = .returned (r v er l c) ∧ w'.ownsRow w.heap.size E 4 v ts.length (toksCells ts) ∧ Below w.heap.size w w' ∧ lexAll s.data.toList = (ts, er, l, c)
def lexR (v : Value) (er l c : Int) : Value := .tuple #[v, .agg #[.int .i64 er, .int .i64 l, .int .i64 c]]
theorem tokInfo : (Try.prog.info? 36).map (fun i => (i.zero, i.size, i.bytes)) = some (some (.agg #[.int .i64 0, .string ⟨#[]⟩, .int .i64 0, .int .i64 0]), 4, 40) := by kernel_rfl
set_option maxHeartbeats 4000000 in
set_option maxRecDepth 100000 in
theorem lex_any (s : ByteArray) (w : World) (hG : GL w) (hs : s.size ≤ 9223372036854775807) :
    Calls Try.prog 7 #[.string s] w (LexOut 36 s w lexR) := by
  have hlen : s.data.toList.length = s.size := by simp
  have HLEN := Lib.hid hlen
  clear hlen
  by_cases hbig : 8192 < s.size
  · have HA : Hid (lexAll s.data.toList = ([], 6, 1, 1)) := by
      show _ = _
      rw [lexAll, if_pos (by rw [HLEN.out]; exact hbig)]
    go_enter Try.func7, Try.ntmps7
    go_wp2
    refine bodyPost_ret (results_tmp_cell_row rfl _ _ w.heap.size _ #[.int .i64 6, .int .i64 1, .int .i64 1] _ rfl (Blk.new _ _ _) Try.underlying26 rfl (by kernel_rfl)) rfl ?_
    exact ⟨.slice none 0 0, [], 6, 1, 1, rfl, World.ownsRow_nil _ _ _ _, bl_alloc (bl_refl _) _, HA.out⟩
  · obtain ⟨i0, hi0, hz0, hz1, hz2⟩ := info_parts tokInfo
    go_enter Try.func7, Try.ntmps7
    go_wp2_with fail
    go_loopw [4] (fun v4 wr => ∃ (ts : List Tok) (a : Nat) (line col : Int), a ≤ s.size ∧ 0 ≤ line ∧ line ≤ a + 1 ∧ 0 ≤ col ∧ col ≤ 2 * a + 1 ∧
      Blk wr w.heap.size 26 #[.int .i64 0, .int .i64 0, .int .i64 0] ∧ Blk wr (w.heap.size + 1) 42 #[.int .i64 a, .int .i64 line, .int .i64 col] ∧
      wr.ownsRow (w.heap.size + 1 + 1) 36 4 v4 ts.length (toksCells ts) ∧ ts.length ≤ a ∧ Below w.heap.size w wr ∧ Hid (LexIn s.data.toList ts a line col)) (fun _ wr => s.size + 1 - posOf wr (w.heap.size + 1))
    case atStart => exact ⟨[], 0, 1, 1, by omega, by omega, by omega, by omega, by omega, (Blk.new _ _ _).alloc _, (show Blk _ _ _ _ from by have := Blk.new (w.alloc (.cells #[.int .i64 0, .int .i64 0, .int .i64 0] 26)) 42 #[.int .i64 0, .int .i64 1, .int .i64 1]; simpa using this), World.ownsRow_nil _ _ _ _, Nat.le_refl _, bl_alloc (bl_alloc (bl_refl _) _) _, by simp [Hid, LexIn, preR_nil]⟩
    case round =>
      obtain ⟨ts, a0, line0, col0, ha, l1, l2, c1, c2, kf, kp, hown, hts, hbw, HI⟩ := hrel
      obtain ⟨wo, rfl⟩ : ∃ wo : World, wo = wr := ⟨_, rfl⟩
      have hlp := kp.lt
      have hpo := posOf_blk kp
      obtain ⟨p0, p1, p2, f0, f1, f2⟩ := kp.c3
      go_wp2_with (go_at_call 11; refine (blank_at _ (s.data.toList.drop a0) _ (ext_drop s a0)).mono ?_; rintro e w' ⟨rfl, rfl⟩)
      clear p0 p1 p2 f0 f1 f2
      go_loopw [6] (fun v6 wi => ∃ (a : Nat) (line col : Int), a ≤ s.size ∧ 0 ≤ line ∧ line ≤ a + 1 ∧ 0 ≤ col ∧ col ≤ 2 * a + 1 ∧ v6 = .int .i64 (blankN (s.data.toList.drop a)) ∧
        Blk wi w.heap.size 26 #[.int .i64 0, .int .i64 0, .int .i64 0] ∧ Blk wi (w.heap.size + 1) 42 #[.int .i64 a, .int .i64 line, .int .i64 col] ∧
        wi.ownsRow (w.heap.size + 1 + 1) 36 4 u4 ts.length (toksCells ts) ∧ ts.length ≤ a ∧ a0 ≤ a ∧ Below w.heap.size w wi ∧ Hid (LexIn s.data.toList ts a line col)) (fun _ wi => s.size + 1 - posOf wi (w.heap.size + 1))
      case atStart => exact ⟨a0, line0, col0, ha, l1, l2, c1, c2, rfl, kf, kp, hown, hts, Nat.le_refl _, hbw, HI⟩
      case round =>
        clear ha l1 l2 c1 c2 kf kp hown hts hbw HI
        obtain ⟨a, line, col, ha, l1, l2, c1, c2, rfl, kf, kp, hown, hts, haa, hbw, HI⟩ := hrel
        have hpo2 := posOf_blk kp
        have hlp2 := kp.lt
        obtain ⟨p0, p1, p2, f0, f1, f2⟩ := kp.c3
        by_cases hbl : 0 < blankN (s.data.toList.drop a)
        · obtain ⟨n, hn, hn0, hnl, hst⟩ := blank_step (s.data.toList.drop a) line col hbl
          have hlen2 : a + n ≤ s.size := by
            have := HLEN.out
            rw [List.length_drop] at hnl; omega
          have hob := overL_bd ((s.data.toList.drop a).take n) (line, col) l1 c1
          have hol : ((s.data.toList.drop a).take n).length ≤ n := List.length_take_le _ _
          simp only at hob
          obtain ⟨o1, o2, o3, o4⟩ := hob
          have HST : Hid (LexIn s.data.toList ts (a + n) (overL ((s.data.toList.drop a).take n) (line, col)).1 (overL ((s.data.toList.drop a).take n) (line, col)).2) := by
            show LexIn _ _ _ _ _
            unfold LexIn
            rw [HI.out, hst, List.drop_drop]
          have HN := Lib.hid hn
          rw [hn]
          clear hn hst HI hnl hbl
          generalize hov : overL ((s.data.toList.drop a).take n) (line, col) = ov at *
          have HOV := Lib.hid hov
          clear hov
          go_wp2_with (first
            | (go_at_call 12; refine (over_any s a n line col _ hlen2 (by omega) l1 c1 (by omega) (by omega)).mono ?_; rw [HOV.out]; rintro e w2 ⟨rfl, hb2⟩; (have kp2 := kp.call hb2); (have kf2 := kf.call hb2); (have hown2 := ownsRow_below hown hb2); (have hbw2 := bl_call hbw hb2); clear p0 p1 p2 f0 f1 f2 kp kf hown; obtain ⟨p0, p1, p2, f0, f1, f2⟩ := kp2.c3)
            | (go_at_call 11; refine (blank_at _ (s.data.toList.drop (a + n)) _ (ext_drop s (a + n))).mono ?_; rintro e w' ⟨rfl, rfl⟩))
          go_roundw
          case rel =>
            have hz := ((kp2.set_ 0 (.int .i64 ((a : Int) + n))).set_ 1 (.int .i64 ov.1)).set_ 2 (.int .i64 ov.2)
            refine ⟨a + n, ov.1, ov.2, hlen2, o1, by omega, o3, by omega, rfl, ?_, by simpa using hz, ?_, by omega, by omega, ?_, HST⟩
            · exact ((kf2.far (by simp) _).far (by simp) _).far (by simp) _
            · exact ownsRow_set (ownsRow_set (ownsRow_set hown2 (by simp) _) (by simp) _) (by simp) _
            · exact bl_set (bl_set (bl_set hbw2 (by simp) _) (by simp) _) (by simp) _
          case measure =>
            have hz := ((kp2.set_ 0 (.int .i64 ((a : Int) + n))).set_ 1 (.int .i64 ov.1)).set_ 2 (.int .i64 ov.2)
            have := posOf_blk (a := a + n) (by simpa using hz)
            rw [this, hpo2]
            omega
        · by_cases hend : a = s.size
          · subst hend
            have HR : Hid (lexAll s.data.toList = (ts ++ [⟨0, ⟨#[]⟩, line, col⟩], 0, 0, 0)) := by
              have h := HI.out
              unfold LexIn at h
              rw [drop_end, lexL] at h
              show _ = _
              rw [lexAll, if_neg (by rw [HLEN.out]; exact hbig), h]; rfl
            have heq : (((s.size : Int)) == (s.size : Int)) = true := beq_iff_eq.2 rfl
            go_wp2_with (at_builtin; refine wpList_append_own _ rfl _ _ 23 rfl (w.heap.size + 1 + 1) 36 i0 _ 4 40 Try.underlying23 hi0 hz0 hz1 hz2 rfl (by decide) _ _ _ rfl (hown.alloc _) ⟨wr.heap.size, 0, none⟩ 1 1 [.int .i64 0, .string ⟨#[]⟩, .int .i64 line, .int .i64 col] rfl rfl (World.news_of_block (cs := #[.int .i64 0, .string ⟨#[]⟩, .int .i64 line, .int .i64 col]) (t := 36) (fr := (0, 0)) (heap_alloc_new _ _)) (by simp [Value.oneCell']) (by unfold maxLen; omega) (by omega) (by simp; omega) ?_; intro v1 w1 hown1 hgrow1 hnil1; (have kf1 := (kf.alloc _).grown hgrow1 (fun h => by have := (hown.lt _ h.symm).1; omega)); obtain ⟨q0, q1, q2, g0, g1, g2⟩ := kf1.c3)
            refine bodyPost_ret (results_tmp_cell_row rfl _ _ w.heap.size _ #[.int .i64 0, .int .i64 0, .int .i64 0] _ rfl (((kf1.set_ 0 _).set_ 1 _).set_ 2 _) Try.underlying26 rfl (by kernel_rfl)) rfl ?_
            refine ⟨v1, ts ++ [⟨0, ⟨#[]⟩, line, col⟩], 0, 0, 0, rfl, ?_, ?_, HR.out⟩
            · have h1 := ownsRow_set (ownsRow_set (ownsRow_set hown1 (p := ⟨w.heap.size, 0, none⟩) (by simp; omega) (.int .i64 0)) (p := ⟨w.heap.size, 1, none⟩) (by simp; omega) (.int .i64 0)) (p := ⟨w.heap.size, 2, none⟩) (by simp; omega) (.int .i64 0)
              rw [toks_snoc, List.length_append]
              exact ownsRow_base h1 (by omega)
            · exact bl_set (bl_set (bl_set (bl_grown (bl_alloc hbw _) hgrow1 (fun k hk => by have := (hown.lt _ hk).1; omega)) (Nat.le_refl _) _) (Nat.le_refl _) _) (Nat.le_refl _) _
          · have hle := HLEN.out
            have hne : s.data.toList.drop a ≠ [] := fun h => by
              have := congrArg List.length h
              simp at this; omega
            obtain ⟨n, hn, hn0, hnl, hst⟩ := tok_step (s.data.toList.drop a) line col hbl hne
            have hlen2 : a + n ≤ s.size := by
              rw [List.length_drop] at hnl; omega
            have hob := overL_bd ((s.data.toList.drop a).take n) (line, col) l1 c1
            have hol : ((s.data.toList.drop a).take n).length ≤ n := List.length_take_le _ _
            simp only at hob
            obtain ⟨o1, o2, o3, o4⟩ := hob
            have hx := ext_take s a n
            have HST := Lib.hid hst
            have hG1 := hG.below (hbw.mono (Nat.le_refl _))
            have HRUN := Lib.hid (run_at (s.extract a s.size) (s.data.toList.drop a))
            have HOF := Lib.hid (lexOf_any (s.extract a (a + n)))
            have heq : (((a : Int)) == (s.size : Int)) = false := by rw [beq_eq_false_iff_ne]; omega
            rw [hn] at HRUN
            rw [hx] at HOF
            clear hst hn hx hnl hne
            generalize htl : (s.data.toList.drop a).take n = tl at *
            generalize hov : overL tl (line, col) = ov at *
            have HTL := Lib.hid htl
            have HOV := Lib.hid hov
            clear htl hov
            have hls := hown.lt
            go_wp2_with (first
              | (go_at_call 13; refine (HRUN.out _ (by simp; omega) (ext_drop s a)).mono ?_; rintro e w' ⟨rfl, rfl⟩))
            have gg0 : (0 : Int) ≤ (a : Int) := by omega
            have gg1 : (0 : Int) ≤ (a : Int) + (n : Int) := by omega
            have gg2 : (a : Int) ≤ (a : Int) + (n : Int) := by omega
            have gg3 : (a : Int) + (n : Int) ≤ (s.size : Int) := by omega
            have gg4 : IntKind.i64.wrap ((a : Int) + (n : Int)) = (a : Int) + (n : Int) := by rw [IntKind.wrap_i64]; omega
            have gg5 : ((a : Int) + (n : Int)).toNat = a + n := by omega
            have gg6 : ((a : Int)).toNat = a := by omega
            go_region_held3 (fun w' => w'.cell? ⟨w.heap.size + 1, 0, none⟩ = some (.int .i64 a) ∧ w'.cell? ⟨w.heap.size + 1, 1, none⟩ = some (.int .i64 line) ∧ w'.cell? ⟨w.heap.size + 1, 2, none⟩ = some (.int .i64 col)) (go_keep) (fail)
            by_cases hk : kindOf tl = 0
            · have HR : Hid (lexAll s.data.toList = ([], 3, line, col)) := by
                have h := HI.out
                unfold LexIn at h
                rw [HST.out, if_pos hk] at h
                show _ = _
                rw [lexAll, if_neg (by rw [HLEN.out]; exact hbig), h]; rfl
              rw [hk] at HOF
              go_wp2_with fail
              refine (HOF.out _ ((hG1.alloc _).drew) (by simp; omega)).mono ?_
              rintro e w2 ⟨rfl, hb2⟩
              have kt := (Blk.drew (Blk.new wr 36 #[.int .i64 0, .string (s.extract a (a + n)), .int .i64 line, .int .i64 col])).call hb2
              have kf2 := (Blk.drew (kf.alloc (.cells #[.int .i64 0, .string (s.extract a (a + n)), .int .i64 line, .int .i64 col] 36))).call hb2
              have hbw2 := bl_call (bl_drew (bl_alloc hbw _)) hb2
              obtain ⟨q0, q1, q2, q3, g0, g1, g2, g3⟩ := kt.c4
              obtain ⟨r0, r1, r2, i0', i1', i2'⟩ := kf2.c3
              have hlt2 := kt.lt
              go_wp2_with fail
              have kt3 : Blk (w2.setCell ⟨wr.heap.size, 0, none⟩ (.int .i64 0)) wr.heap.size 36 #[.int .i64 0, .string (s.extract a (a + n)), .int .i64 line, .int .i64 col] := by simpa using kt.set_ 0 (.int .i64 0)
              have KB := Lib.hid kt3
              have KT3 := Lib.hid (And.intro kt3.c4.2.2.1 kt3.c4.2.2.2.1)
              have hwne : wr.heap.size ≠ w.heap.size := by have := hbw.size; omega
              go_region_held3 (fun w' => w'.cell? ⟨wr.heap.size, 2, none⟩ = some (.int .i64 line) ∧ w'.cell? ⟨wr.heap.size, 3, none⟩ = some (.int .i64 col)) (first | exact KT3.out | (refine blk_23 (t := 36) (a := .int .i64 0) (b := .string (s.extract a (a + n))) ?_; repeat (first | exact KB.out | refine Blk.far ?_ (by simp; omega) _ | apply Blk.drew))) (fail)
              go_wp2_with fail
              refine bodyPost_ret (results_tmp_cell_row rfl _ _ w.heap.size _ #[.int .i64 3, .int .i64 line, .int .i64 col] _ rfl (Blk.drew ((((kf2.far (by simp; omega) _).set_ 0 _).set_ 1 _).set_ 2 _)) Try.underlying26 rfl (by kernel_rfl)) rfl ?_
              exact ⟨.slice none 0 0, [], 3, line, col, rfl, World.ownsRow_nil _ _ _ _, bl_drew (bl_set (bl_set (bl_set (bl_set hbw2 (by simp; omega) _) (Nat.le_refl _) _) (Nat.le_refl _) _) (Nat.le_refl _) _), HR.out⟩
            · have HS2 : Hid (LexIn s.data.toList (ts ++ [⟨kindOf tl, s.extract a (a + n), line, col⟩]) (a + n) ov.1 ov.2) := by
                have h := HI.out
                unfold LexIn at h
                rw [HST.out, if_neg hk, List.drop_drop] at h
                show LexIn _ _ _ _ _
                unfold LexIn
                have he : (⟨tl.toArray⟩ : ByteArray) = s.extract a (a + n) := by
                  rw [← HTL.out, ← ext_take]
                rw [h, preR_snoc, he]
              have HK : Hid ((kindOf tl == 0) = false) := beq_eq_false_iff_ne.2 hk
              clear hk HST HI
              generalize hkk : kindOf tl = kd at *
              have hk0 := HK.out
              clear hkk
              go_wp2_with fail
              refine (HOF.out _ ((hG1.alloc _).drew) (by simp; omega)).mono ?_
              rintro e w2 ⟨rfl, hb2⟩
              have kt := (Blk.drew (Blk.new wr 36 #[.int .i64 0, .string (s.extract a (a + n)), .int .i64 line, .int .i64 col])).call hb2
              have kf2 := (Blk.drew (kf.alloc (.cells #[.int .i64 0, .string (s.extract a (a + n)), .int .i64 line, .int .i64 col] 36))).call hb2
              have kp2 := (Blk.drew (kp.alloc (.cells #[.int .i64 0, .string (s.extract a (a + n)), .int .i64 line, .int .i64 col] 36))).call hb2
              have hown2 := ownsRow_below (w := (wr.alloc (.cells #[.int .i64 0, .string (s.extract a (a + n)), .int .i64 line, .int .i64 col] 36)).drew) (hown.alloc _) hb2
              have hbw2 := bl_call (bl_drew (bl_alloc hbw _)) hb2
              have hown3 := ownsRow_far hown2 (p := ⟨wr.heap.size, 0, none⟩) (fun g hg => by have := (hls g hg).2; simp; omega) (.int .i64 kd)
              have kt3 : Blk (w2.setCell ⟨wr.heap.size, 0, none⟩ (.int .i64 kd)) wr.heap.size 36 #[.int .i64 kd, .string (s.extract a (a + n)), .int .i64 line, .int .i64 col] := by simpa using kt.set_ 0 (.int .i64 kd)
              obtain ⟨q0, q1, q2, q3, g0, g1, g2, g3⟩ := kt.c4
              have hlt2 := kt.lt
              have hlw2 := hbw.size
              go_wp2_with (at_builtin; refine wpList_append_own _ rfl _ _ 23 rfl (w.heap.size + 1 + 1) 36 i0 _ 4 40 Try.underlying23 hi0 hz0 hz1 hz2 rfl (by decide) _ _ _ rfl (hown3.alloc _) ⟨w2.heap.size, 0, none⟩ 1 1 [.int .i64 kd, .string (s.extract a (a + n)), .int .i64 line, .int .i64 col] rfl (by simp) (by have := World.news_of_block (cs := #[.int .i64 kd, .string (s.extract a (a + n)), .int .i64 line, .int .i64 col]) (t := 36) (fr := (0, 0)) (heap_alloc_new (w2.setCell ⟨wr.heap.size, 0, none⟩ (.int .i64 kd)) _); simpa using this) (by simp [Value.oneCell']) (by unfold maxLen; omega) (by omega) (by simp; omega) ?_; intro v1 w3 hown1 hgrow1 hnil1; (have kp3 := ((kp2.far (p := ⟨wr.heap.size, 0, none⟩) (by simp; omega) (.int .i64 kd)).alloc _).grown hgrow1 (fun h => by have := (hown3.lt _ h.symm).1; omega)); (have kf3 := ((kf2.far (p := ⟨wr.heap.size, 0, none⟩) (by simp; omega) (.int .i64 kd)).alloc _).grown hgrow1 (fun h => by have := (hown3.lt _ h.symm).1; omega)); (have hbw3 := bl_grown (bl_alloc (bl_set hbw2 (p := ⟨wr.heap.size, 0, none⟩) (by simp; omega) (.int .i64 kd)) _) hgrow1 (fun k hk => by have := (hown3.lt _ hk).1; omega)); clear hgrow1 hnil1; obtain ⟨r0, r1, r2, j0, j1, j2⟩ := kp3.c3)
              refine (over_any s a n line col _ hlen2 (by omega) l1 c1 (by omega) (by omega)).mono ?_
              rw [HTL.out, HOV.out]
              rintro e w4 ⟨rfl, hb4⟩
              have kp4 := kp3.call hb4
              have kf4 := kf3.call hb4
              have hown4 := ownsRow_below hown1 hb4
              have hbw4 := bl_call hbw3 hb4
              clear r0 r1 r2 j0 j1 j2
              obtain ⟨r0, r1, r2, j0, j1, j2⟩ := kp4.c3
              go_wp2_with fail
              go_roundw
              case rel =>
                have hz := ((kp4.set_ 0 (.int .i64 ((a : Int) + n))).set_ 1 (.int .i64 ov.1)).set_ 2 (.int .i64 ov.2)
                refine ⟨ts ++ [⟨kd, s.extract a (a + n), line, col⟩], a + n, ov.1, ov.2, hlen2, o1, by omega, o3, by omega, ?_, by simpa using hz, ?_, by simp; omega, ?_, HS2⟩
                · exact ((kf4.far (by simp) _).far (by simp) _).far (by simp) _
                · have h1 := ownsRow_set (ownsRow_set (ownsRow_set hown4 (p := ⟨w.heap.size + 1, 0, none⟩) (by simp) (.int .i64 ((a : Int) + n))) (p := ⟨w.heap.size + 1, 1, none⟩) (by simp) (.int .i64 ov.1)) (p := ⟨w.heap.size + 1, 2, none⟩) (by simp) (.int .i64 ov.2)
                  rw [toks_snoc, List.length_append]
                  exact h1
                · exact bl_set (bl_set (bl_set hbw4 (by simp) _) (by simp) _) (by simp) _
              case measure =>
                have hz := ((kp4.set_ 0 (.int .i64 ((a : Int) + n))).set_ 1 (.int .i64 ov.1)).set_ 2 (.int .i64 ov.2)
                have := posOf_blk (a := a + n) (by simpa using hz)
                rw [this]
                omega
end Go.Proofs.Ytapdepjkcbipaaa
