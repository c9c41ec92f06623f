import Derived.Test.YtapdepjkcbipaaaLexI
namespace Go.Proofs.Ytapdepjkcbipaaa
set_option linter.unusedVariables false
set_option linter.unusedSimpArgs false
open Go.RowKit
theorem own_slice {w : World} {base : Nat} {e : TypeId} {size : Nat} {v : Value} {n : Nat} {xs : List Value} (h : w.ownsRow base e size v n xs) : ∃ A cap, v = .slice A n cap ∧ n ≤ cap ∧ (0 < n → ∃ g, A = some ⟨g, 0, none⟩) := by
  rcases h.2 with ⟨rfl, rfl⟩ | ⟨g, cap, cur, rfl, _, _, hc, _⟩
  · exact ⟨none, 0, rfl, Nat.le_refl _, fun h => absurd h (by omega)⟩
  · exact ⟨_, cap, rfl, hc, fun _ => ⟨g, rfl⟩⟩
theorem toks_len : ∀ ts : List Tok, (toksCells ts).length = ts.length * 4
  | [] => rfl
  | t :: ts => by
    have := toks_len ts
    simp only [toksCells, List.flatMap_cons, List.length_append, List.length_cons] at this ⊢
    simp only [tokCells, List.length_cons, List.length_nil]
    omega
theorem toks_at : ∀ (ts : List Tok) (k : Nat) (t : Tok), ts[k]? = some t → ∀ j u, (tokCells t)[j]? = some u → (toksCells ts)[k * 4 + j]? = some u
  | [], k, t, h => by simp at h
  | x :: ts, 0, t, h => by
    intro j u hu
    simp at h
    subst h
    have hj : j < 4 := by
      have := (List.getElem?_eq_some_iff.1 hu).1
      simpa [tokCells] using this
    simp only [toksCells, List.flatMap_cons]
    rw [List.getElem?_append_left (by simp [tokCells]; omega)]
    simpa using hu
  | x :: ts, k + 1, t, h => by
    intro j u hu
    have ih := toks_at ts k t (by simpa using h) j u hu
    simp only [toksCells, List.flatMap_cons] at ih ⊢
    rw [List.getElem?_append_right (by simp [tokCells]; omega)]
    rw [show (k + 1) * 4 + j - (tokCells x).length = k * 4 + j from by simp [tokCells]; omega]
    exact ih
theorem tok_cells {w : World} {base : Nat} {e : TypeId} {g n cap : Nat} {ts : List Tok} (h : w.ownsRow base e 4 (.slice (some ⟨g, 0, none⟩) n cap) n (toksCells ts)) {k : Nat} {t : Tok} (hk : ts[k]? = some t) (hn : n = ts.length) :
    w.cell? ⟨g, k * 4, none⟩ = some (.int .i64 t.kind) ∧ w.cell? ⟨g, k * 4 + 1, none⟩ = some (.string t.text) ∧ w.cell? ⟨g, k * 4 + 2, none⟩ = some (.int .i64 t.line) ∧ w.cell? ⟨g, k * 4 + 3, none⟩ = some (.int .i64 t.col) := by
  have hl := (List.getElem?_eq_some_iff.1 hk).1
  refine ⟨?_, ?_, ?_, ?_⟩
  · exact (h.cellAt (k * 4 + 0) (by omega)).trans (toks_at ts k t hk 0 _ rfl)
  · exact (h.cellAt (k * 4 + 1) (by omega)).trans (toks_at ts k t hk 1 _ rfl)
  · exact (h.cellAt (k * 4 + 2) (by omega)).trans (toks_at ts k t hk 2 _ rfl)
  · exact (h.cellAt (k * 4 + 3) (by omega)).trans (toks_at ts k t hk 3 _ rfl)
theorem own_cap {w : World} {base : Nat} {e : TypeId} {size n cap : Nat} {A : Option Addr} {xs : List Value} (h : w.ownsRow base e size (.slice A n cap) n xs) : cap ≤ maxLen := by
  rcases h.2 with ⟨h1, _⟩ | ⟨g, cap', cur, h1, _, _, _, h2, _⟩
  · injection h1 with _ _ h3; omega
  · injection h1 with _ _ h3; omega
set_option maxHeartbeats 8000000 in
set_option maxRecDepth 100000 in
theorem lexIs_any (s : ByteArray) (w : World) (hG : GL w) (hs : s.size ≤ 9223372036854775807) :
    Calls Try.prog 3 #[.string s] w fun e w' => e = .returned (.bool true) ∧ Below w.heap.size w w' := by
  by_cases hbig : 16384 < s.size
  · go_enter Try.func3, Try.ntmps3
    go_wp2_with (go_at_call 6; refine (alive_any _ hG).mono ?_; rintro e w1 ⟨rfl, hb1⟩)
    go_ret
    exact ⟨rfl, hb1⟩
  · go_enter Try.func3, Try.ntmps3
    go_wp2_with fail
    refine (alive_any _ hG).mono ?_
    rintro e w1 ⟨rfl, hb1⟩
    have hG1 := hG.below hb1
    go_wp2_with fail
    refine (lex_any s _ hG1 hs).mono ?_
    rintro e w2 ⟨v, ts, er, l, c, rfl, hown, hb2, hall⟩
    have hG2 := hG1.below hb2
    have hbb2 := bl_call hb1 hb2
    obtain ⟨A, cap, rfl, hcap, hA⟩ := own_slice hown
    unfold lexR
    go_wp2_with fail
    refine (rlex_any s _ hs).mono ?_
    rintro e w3 ⟨v', ts', er', l', c', rfl, hown3, hb3, hall3⟩
    have h3 := hall3.symm.trans hall
    simp only [Prod.mk.injEq] at h3
    obtain ⟨rfl, rfl, rfl, rfl⟩ := h3
    have hKK := Lib.hid (all_kinds hall)
    have hSS := Lib.hid (all_sizes hall)
    clear hall hall3
    have hG3 := (hG2.alloc (.cells #[.int .i64 er', .int .i64 l', .int .i64 c'] 26)).below hb3
    have hownb := ownsRow_below (w := w2.alloc (.cells #[.int .i64 er', .int .i64 l', .int .i64 c'] 26)) (hown.alloc _) hb3
    have kf := (Blk.new w2 26 #[.int .i64 er', .int .i64 l', .int .i64 c']).call hb3
    have hbb3 := bl_call (bl_alloc hbb2 _) hb3
    obtain ⟨B, cap', rfl, hcap', hB⟩ := own_slice hown3
    obtain ⟨a0, a1, a2, f0, f1, f2⟩ := kf.c3
    unfold lexRR
    clear hown
    go_wp2_with (first
      | (go_at_call 9; refine (lexOf_any s _ hG3 (by omega)).mono ?_; rintro e w4 ⟨rfl, hb4⟩)
      | (go_at_call 10; refine (rOf5_any s _ hs).mono ?_; rintro e w5 ⟨rfl, hb5⟩))
    have o1 := ownsRow_below (ownsRow_below hownb hb4) hb5
    have o2 := ownsRow_below (ownsRow_below hown3 hb4) hb5
    have hG5 := (hG3.below hb4).below hb5
    have hbb5 := bl_call (bl_call hbb3 hb4) hb5
    clear hownb hown3 hb1 hb2 hb3 hb4 hb5 hbb2 hbb3 hG1 hG2 hG3 kf a0 a1 a2 f0 f1 f2
    generalize hWb : w1.heap.size = Q1 at *
    generalize hWc : (w2.alloc (.cells #[.int .i64 er', .int .i64 l', .int .i64 c'] 26)).heap.size = Q2 at *
    clear hWb hWc
    have hcap2 : cap' ≤ maxLen := own_cap o2
    have hcap1 : cap ≤ maxLen := own_cap o1
    unfold maxLen at hcap1 hcap2
    go_loopw [60] (fun v wr => ∃ k : Nat, k ≤ ts'.length ∧ v = .int .i64 k ∧ Below w.heap.size w wr ∧ wr.ownsRow Q1 36 4 (.slice A ts'.length cap) ts'.length (toksCells ts') ∧ wr.ownsRow Q2 38 4 (.slice B ts'.length cap') ts'.length (toksCells ts') ∧ GL wr) (fun v _ => ts'.length - (intOf v).toNat)
    case atStart => exact ⟨0, Nat.zero_le _, rfl, hbb5, o1, o2, hG5⟩
    case round =>
      obtain ⟨k, hk, rfl, hbw, q1, q2, hGr⟩ := hrel
      clear o1 o2 hG5 hbb5 hG
      by_cases hlt : k < ts'.length
      · obtain ⟨g, rfl⟩ := hA (by omega)
        obtain ⟨g', rfl⟩ := hB (by omega)
        obtain ⟨t, ht⟩ : ∃ t, ts'[k]? = some t := ⟨_, List.getElem?_eq_getElem hlt⟩
        obtain ⟨x0, x1, x2, x3⟩ := tok_cells q1 ht rfl
        obtain ⟨y0, y1, y2, y3⟩ := tok_cells q2 ht rfl
        have hgl := (q1.lt g rfl).2
        have hgl' := (q2.lt g' rfl).2
        have hkt := hKK.out k t ht
        have HT := Lib.hid ht
        have hKT := Lib.hid hkt
        clear hkt ht hA hB
        have hsz : t.text.size < 4294967281 := by
          have := hSS.out t (List.mem_of_getElem? HT.out)
          omega
        have w1 : (0 : Int) ≤ (k : Int) := by omega
        have w2 : (k : Int) < (ts'.length : Int) := by omega
        go_wp2_with fail
        have w3 : IntKind.i64.wrap ((k : Int) + 1) = (k : Int) + 1 := by rw [IntKind.wrap_i64]; omega
        by_cases hlast : (k : Int) + 1 < (ts'.length : Int)
        · have hkd := hKT.out (by omega)
          have HOF := Lib.hid (lexOf_any t.text)
          rw [hkd] at HOF
          clear hkd
          go_region_held3 (fun w' => w'.cell? ⟨wr.heap.size, 0, none⟩ = some (.int .i64 t.kind) ∧ w'.cell? ⟨wr.heap.size, 1, none⟩ = some (.string t.text) ∧ w'.cell? ⟨wr.heap.size, 2, none⟩ = some (.int .i64 t.line) ∧ w'.cell? ⟨wr.heap.size, 3, none⟩ = some (.int .i64 t.col) ∧
              w'.cell? ⟨g', k * 4, none⟩ = some (.int .i64 t.kind) ∧ w'.cell? ⟨g', k * 4 + 1, none⟩ = some (.string t.text) ∧ w'.cell? ⟨g', k * 4 + 2, none⟩ = some (.int .i64 t.line) ∧ w'.cell? ⟨g', k * 4 + 3, none⟩ = some (.int .i64 t.col))
            (first
              | go_keep
              | (refine ⟨?_, ?_, ?_, ?_, ?_, ?_, ?_, ?_⟩ <;> (rw [hb6.cell (by first | (simp; done) | (simp; omega))]; simp [go_sem, *])))
            ((go_at_call 9; refine (HOF.out _ ((hGr.alloc _).drew) hsz).mono ?_; rintro e w6 ⟨rfl, hb6⟩))
          go_wp2_with fail
          go_roundw
          case rel =>
            have z1 := ownsRow_below (w := (wr.alloc (.cells #[.int .i64 t.kind, .string t.text, .int .i64 t.line, .int .i64 t.col] 36)).drew) (q1.alloc _) hb6
            have z2 := ownsRow_below (w := (wr.alloc (.cells #[.int .i64 t.kind, .string t.text, .int .i64 t.line, .int .i64 t.col] 36)).drew) (q2.alloc _) hb6
            exact ⟨k + 1, by omega, by go_num, bl_call (bl_drew (bl_alloc hbw _)) hb6, z1, z2, GL.below (w := (wr.alloc (.cells #[.int .i64 t.kind, .string t.text, .int .i64 t.line, .int .i64 t.col] 36)).drew) ((hGr.alloc _).drew) hb6⟩
          case measure => simp [intOf]; omega
        · have hlb : decide ((k : Int) + 1 < (ts'.length : Int)) = false := by simpa using hlast
          go_quiet (fail)
          go_wp2_with fail
          go_roundw
          case rel => exact ⟨k + 1, by omega, by go_num, bl_drewN (bl_alloc hbw _) _, q1.alloc _, q2.alloc _, (hGr.alloc _).drewN _⟩
          case measure => simp [intOf]; omega
      · go_wp2
        go_ret
        exact ⟨rfl, hbw⟩
end Go.Proofs.Ytapdepjkcbipaaa
