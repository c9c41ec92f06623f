import Derived.Test.YtcgkfgklggjmaaaDoorGe
import Derived.Deep.DeepCutAuto
import Derived.Deep.RegionLaw
section
namespace Go.Proofs.YtcgkfgklggjmaaaDoor.Par
set_option linter.unusedVariables false
set_option linter.unusedSimpArgs false
open Go.RowKit
theorem popt_yes {w : ByteArray} {d : Int} {s : St} (h : (P.eat w s).1 = true) : P.opt npV w d s = ((P.number npV 0 1000000 (P.eat w s).2).1, P.must [wSemi] (P.number npV 0 1000000 (P.eat w s).2).2) := by unfold P.opt; rw [if_pos h]
theorem popt_no {w : ByteArray} {d : Int} {s : St} (h : (P.eat w s).1 = false) : P.opt npV w d s = (d, (P.eat w s).2) := by unfold P.opt; rw [if_neg (by rw [h]; exact Bool.false_ne_true)]
theorem pck_yes {s : St} (h : (P.eat wVolume s).1 = true) : P.ckind s = (2, (P.eat wVolume s).2) := by unfold P.ckind; rw [if_pos h]
theorem pck_no {s : St} (h : (P.eat wVolume s).1 = false) : P.ckind s = (1, P.must [wGraduated] (P.eat wVolume s).2) := by unfold P.ckind; rw [if_neg (by rw [h]; exact Bool.false_ne_true)]
set_option maxHeartbeats 16000000 in
set_option maxRecDepth 100000 in
theorem charge_any {w : World} {b : Nat} {ts : List Tok} {r cap i : Nat} {s : St} (h : PAt w b ts r cap i s) (hT : TK ts cap) (hD : Dec.DT w) (t : Tok) :
    Calls Tryd.prog 93 #[.pointer (some ⟨b, 0, none⟩), tokV t] w fun en w' => ∃ tv av, en = .returned (.agg (chgC (P.charge dp npV t.line t.col s).1.meter (P.charge dp npV t.line t.col s).1.win (P.charge dp npV t.line t.col s).1.allow (P.charge dp npV t.line t.col s).1.block (P.charge dp npV t.line t.col s).1.kind tv (P.charge dp npV t.line t.col s).1.mode av (P.charge dp npV t.line t.col s).1.line (P.charge dp npV t.line t.col s).1.col)) ∧ TiersLie w.heap.size w' tv (P.charge dp npV t.line t.col s).1.tiers ∧ AdjsLie w.heap.size w' av (P.charge dp npV t.line t.col s).1.adjs ∧ (∃ j, PAt w' b ts r cap j (P.charge dp npV t.line t.col s).2) ∧ Fr b w w' := by
  have hlb := hT.lb
  have hcb := hT.capb
  have hbig := hT.big
  have hb := h.blk.lt
  have hr := h.rlt
  obtain ⟨R0, hR0⟩ : ∃ R0, R0 = P.charge dp npV t.line t.col s := ⟨_, rfl⟩
  rw [← hR0]
  unfold P.charge at hR0
  simp only at hR0
  have hn := fun v i (h : PAt v b ts r cap i s) => kind_any h hlb hcb 1
  generalize P.kind 1 s = n at *
  obtain ⟨n1, n2⟩ := n
  have hw := fun v i (h : PAt v b ts r cap i n2) => window_any h hT
  simp only at hR0
  generalize P.window dp n2 = x at *
  obtain ⟨x1, x2⟩ := x
  unfold winV at hw
  have ho := fun v i (h : PAt v b ts r cap i x2) => must1 h hT wOpen
  simp only at hR0
  generalize P.must [wOpen] x2 = o at *
  generalize peek x2 = k0 at *
  have hta := fun v i (h : PAt v b ts r cap i o) => eat_any h hlb hcb wAllowance
  have hay := @popt_yes wAllowance 0 o
  have han := @popt_no wAllowance 0 o
  generalize P.opt npV wAllowance 0 o = a at *
  obtain ⟨a1, a2⟩ := a
  generalize P.eat wAllowance o = ta at *
  obtain ⟨ta1, ta2⟩ := ta
  have hna := fun v i (h : PAt v b ts r cap i ta2) (hD : Dec.DT v) => number_any h hT hD 0 1000000
  simp only at hR0 hay han
  generalize P.number npV 0 1000000 ta2 = na at *
  obtain ⟨na1, na2⟩ := na
  have hsa := fun v i (h : PAt v b ts r cap i na2) => must1 h hT wSemi
  simp only at hay
  generalize P.must [wSemi] na2 = sa at *
  generalize peek na2 = ka at *
  have htbk := fun v i (h : PAt v b ts r cap i a2) => eat_any h hlb hcb wBlock
  have hbky := @popt_yes wBlock 1 a2
  have hbkn := @popt_no wBlock 1 a2
  generalize P.opt npV wBlock 1 a2 = bk at *
  obtain ⟨bk1, bk2⟩ := bk
  generalize P.eat wBlock a2 = tbk at *
  obtain ⟨tbk1, tbk2⟩ := tbk
  have hnbk := fun v i (h : PAt v b ts r cap i tbk2) (hD : Dec.DT v) => number_any h hT hD 0 1000000
  simp only at hR0 hbky hbkn
  generalize P.number npV 0 1000000 tbk2 = nbk at *
  obtain ⟨nbk1, nbk2⟩ := nbk
  have hsbk := fun v i (h : PAt v b ts r cap i nbk2) => must1 h hT wSemi
  simp only at hbky
  generalize P.must [wSemi] nbk2 = sbk at *
  generalize peek nbk2 = kbk at *
  have htv := fun v i (h : PAt v b ts r cap i bk2) => eat_any h hlb hcb wVolume
  have hvy := @pck_yes bk2
  have hvn := @pck_no bk2
  generalize P.ckind bk2 = ck at *
  obtain ⟨ck1, ck2⟩ := ck
  generalize P.eat wVolume bk2 = tv0 at *
  obtain ⟨tv1, tv2⟩ := tv0
  have hgr := fun v i (h : PAt v b ts r cap i tv2) => must1 h hT wGraduated
  simp only at hR0 hvy hvn
  generalize P.must [wGraduated] tv2 = gr at *
  generalize peek tv2 = kgr at *
  have hti := fun v i (h : PAt v b ts r cap i ck2) (hD : Dec.DT v) => tiers_any h hT hD
  generalize P.tiers npV ck2 = tr at *
  obtain ⟨l1, l2⟩ := tr
  simp only at hR0 hti
  have hs3 := fun v i (h : PAt v b ts r cap i l2) => must1 h hT wRound
  generalize P.must [wRound] l2 = q5 at *
  generalize peek l2 = k5 at *
  have hmd := fun v i (h : PAt v b ts r cap i q5) => mode_any h hT
  generalize P.mode q5 = md at *
  obtain ⟨md1, md2⟩ := md
  simp only at hR0 hmd
  have hs4 := fun v i (h : PAt v b ts r cap i md2) => must1 h hT wSemi
  generalize P.must [wSemi] md2 = q6 at *
  generalize peek md2 = k6 at *
  have hal : P.adjLoop npV q6.rest.length [] q6 = P.adjAll npV [] q6 := rfl
  rw [hal] at hR0
  clear hal
  obtain ⟨D, hDD⟩ : ∃ D, D = P.adjAll npV [] q6 := ⟨_, rfl⟩
  rw [← hDD] at hR0
  obtain ⟨d1, d2⟩ := D
  have HD := Lib.hid hDD.symm
  clear hDD
  simp only at hR0
  have hs5 := fun v i (h : PAt v b ts r cap i d2) => must1 h hT wClose
  generalize P.must [wClose] d2 = q7 at *
  generalize peek d2 = k7 at *
  subst hR0
  simp only
  obtain ⟨i1, hi1, hy0, hy1, hy2⟩ := info_parts adjInfo
  unfold tokV at ho hsa hsbk hgr hs3 hs4 hs5 ⊢
  have hS0 : P2 52 (w.heap.size + 1) (w.heap.size + 2) (chgC ⟨#[]⟩ noWin 0 0 0 (.slice none 0 0) 0 (.slice none 0 0) 0 0) w b ts r cap (((w.alloc (.cells #[.int .i64 t.kind, .string t.text, .int .i64 t.line, .int .i64 t.col] 102)).alloc (.cells (chgC ⟨#[]⟩ noWin 0 0 0 (.slice none 0 0) 0 (.slice none 0 0) 0 0) 52)).alloc (.cells (chgC ⟨#[]⟩ noWin 0 1 1 (.slice none 0 0) 0 (.slice none 0 0) t.line t.col) 52)) s (chgC ⟨#[]⟩ noWin 0 1 1 (.slice none 0 0) 0 (.slice none 0 0) t.line t.col) := by
    have B1 := bl_alloc (bl_refl w) (.cells #[.int .i64 t.kind, .string t.text, .int .i64 t.line, .int .i64 t.col] 102)
    have B2 := bl_alloc B1 (.cells (chgC ⟨#[]⟩ noWin 0 0 0 (.slice none 0 0) 0 (.slice none 0 0) 0 0) 52)
    have B3 := bl_alloc B2 (.cells (chgC ⟨#[]⟩ noWin 0 1 1 (.slice none 0 0) 0 (.slice none 0 0) t.line t.col) 52)
    have K1 := Blk.new (w.alloc (.cells #[.int .i64 t.kind, .string t.text, .int .i64 t.line, .int .i64 t.col] 102)) 52 (chgC ⟨#[]⟩ noWin 0 0 0 (.slice none 0 0) 0 (.slice none 0 0) 0 0)
    have K2 := Blk.new ((w.alloc (.cells #[.int .i64 t.kind, .string t.text, .int .i64 t.line, .int .i64 t.col] 102)).alloc (.cells (chgC ⟨#[]⟩ noWin 0 0 0 (.slice none 0 0) 0 (.slice none 0 0) 0 0) 52)) 52 (chgC ⟨#[]⟩ noWin 0 1 1 (.slice none 0 0) 0 (.slice none 0 0) t.line t.col)
    rw [World.size_alloc] at K1
    rw [World.size_alloc, World.size_alloc] at K2
    exact ⟨⟨i, h.below B3⟩, Fr.of_below B3, K1.alloc _, K2, hb, hr, by omega, by omega, by omega⟩
  replace hn := Lib.hid hn
  replace hw := Lib.hid hw
  replace ho := Lib.hid ho
  replace hta := Lib.hid hta
  replace hay := Lib.hid hay
  replace han := Lib.hid han
  replace hna := Lib.hid hna
  replace hsa := Lib.hid hsa
  replace htbk := Lib.hid htbk
  replace hbky := Lib.hid hbky
  replace hbkn := Lib.hid hbkn
  replace hnbk := Lib.hid hnbk
  replace hsbk := Lib.hid hsbk
  replace htv := Lib.hid htv
  replace hvy := Lib.hid hvy
  replace hvn := Lib.hid hvn
  replace hgr := Lib.hid hgr
  replace hti := Lib.hid hti
  replace hs3 := Lib.hid hs3
  replace hmd := Lib.hid hmd
  replace hs4 := Lib.hid hs4
  replace hs5 := Lib.hid hs5
  go_enter Tryd.func93, Tryd.ntmps93
  obtain ⟨p1, hP1⟩ := hS0.at_
  go_wp2_with fail
  refine (hn.out _ _ hP1).mono ?_
  rintro e v1 ⟨rfl, hA1, hF1⟩
  have hS1 := hS0.call hF1 hA1
  obtain ⟨q2, q2'⟩ := hS1.cell 0 _ rfl
  have hl2 := hS1.lt
  have hT2 : P2 52 (w.heap.size + 1) (w.heap.size + 2) (chgC ⟨#[]⟩ noWin 0 0 0 (.slice none 0 0) 0 (.slice none 0 0) 0 0) w b ts r cap _ _ (chgC n1 noWin 0 1 1 (.slice none 0 0) 0 (.slice none 0 0) t.line t.col) := hS1.put 0 [.string n1]
  obtain ⟨p3, hP3⟩ := hT2.at_
  go_wp2_with fail
  refine (hw.out _ _ hP3).mono ?_
  rintro e v3 ⟨rfl, hA3, hF3⟩
  have hS3 := hT2.call hF3 hA3
  obtain ⟨-, z1, z2, z3, z4, z5, z6, z7, -, -, -, -, -, -, -, -, -, y1, y2, y3, y4, y5, y6, y7, -, -, -, -, -, -, -, -⟩ := hS3.cb.c16
  have hl4 := hS3.lt
  have hT4 : P2 52 (w.heap.size + 1) (w.heap.size + 2) (chgC ⟨#[]⟩ noWin 0 0 0 (.slice none 0 0) 0 (.slice none 0 0) 0 0) w b ts r cap _ _ (chgC n1 x1 0 1 1 (.slice none 0 0) 0 (.slice none 0 0) t.line t.col) := hS3.put 1 [.bool x1.has, .int .i64 x1.from_.1, .int .i64 x1.from_.2.1, .int .i64 x1.from_.2.2, .int .i64 x1.to_.1, .int .i64 x1.to_.2.1, .int .i64 x1.to_.2.2]
  obtain ⟨p5, hP5⟩ := hT4.at_
  go_wp2_with fail
  refine (ho.out _ _ hP5 _ (by simp [puts, World.setCell])).mono ?_
  rintro e v5 ⟨rfl, hA5, hF5⟩
  have hS5 := hT4.call hF5 hA5
  obtain ⟨p6, hP6⟩ := hS5.at_
  go_wp2_with fail
  refine (hta.out _ _ hP6).mono ?_
  rintro e v6 ⟨rfl, hA6, hF6⟩
  have hS6 := hS5.call hF6 hA6
  clear hS0 hS1 hT2 hS3 hT4 hS5 hP1 hP3 hP5 hP6 hA1 hA3 hA5 hA6 hF1 hF3 hF5 hF6 q2 q2' z1 z2 z3 z4 z5 z6 z7 y1 y2 y3 y4 y5 y6 y7 hl2 hl4 hn hw ho hta
  go_upto_if 23 with fail
  go_cut [] (fun wx => P2 52 (w.heap.size + 1) (w.heap.size + 2) (chgC ⟨#[]⟩ noWin 0 0 0 (.slice none 0 0) 0 (.slice none 0 0) 0 0) w b ts r cap wx a2 (chgC n1 x1 a1 1 1 (.slice none 0 0) 0 (.slice none 0 0) t.line t.col))
  case first =>
    cases ta1 with
    | true =>
      obtain ⟨rfl, rfl⟩ := Prod.mk.inj (hay.out rfl)
      obtain ⟨p7, hP7⟩ := hS6.at_
      go_wp2_with fail
      refine (hna.out _ _ hP7 (DT_at hD h hS6.fr)).mono ?_
      rintro e v7 ⟨rfl, hA7, hF7⟩
      have hS7 := hS6.call hF7 hA7
      obtain ⟨q8, q8'⟩ := hS7.cell 8 _ rfl
      have hl8 := hS7.lt
      have hT8 : P2 52 (w.heap.size + 1) (w.heap.size + 2) (chgC ⟨#[]⟩ noWin 0 0 0 (.slice none 0 0) 0 (.slice none 0 0) 0 0) w b ts r cap _ _ (chgC n1 x1 a1 1 1 (.slice none 0 0) 0 (.slice none 0 0) t.line t.col) := hS7.put 8 [.int .i64 a1]
      obtain ⟨p9, hP9⟩ := hT8.at_
      go_wp2_with fail
      refine (hsa.out _ _ hP9 _ (by simp [puts, World.setCell])).mono ?_
      rintro e v9 ⟨rfl, hA9, hF9⟩
      have hS9 := hT8.call hF9 hA9
      go_wp2_with fail
      go_meet
      exact hS9
    | false =>
      obtain ⟨rfl, rfl⟩ := Prod.mk.inj (han.out rfl)
      go_wp2_with fail
      go_meet
      exact hS6
  case rest =>
    clear hS6 hay han hna hsa
    obtain ⟨p10, hP10⟩ := hcut.at_
    go_wp2_with fail
    refine (htbk.out _ _ hP10).mono ?_
    rintro e v10 ⟨rfl, hA10, hF10⟩
    have hS10 := hcut.call hF10 hA10
    clear hcut hP10 hA10 hF10 htbk
    go_upto_if 31 with fail
    go_cut [] (fun wx => P2 52 (w.heap.size + 1) (w.heap.size + 2) (chgC ⟨#[]⟩ noWin 0 0 0 (.slice none 0 0) 0 (.slice none 0 0) 0 0) w b ts r cap wx bk2 (chgC n1 x1 a1 bk1 1 (.slice none 0 0) 0 (.slice none 0 0) t.line t.col))
    case first =>
      cases tbk1 with
      | true =>
        obtain ⟨rfl, rfl⟩ := Prod.mk.inj (hbky.out rfl)
        obtain ⟨p11, hP11⟩ := hS10.at_
        go_wp2_with fail
        refine (hnbk.out _ _ hP11 (DT_at hD h hS10.fr)).mono ?_
        rintro e v11 ⟨rfl, hA11, hF11⟩
        have hS11 := hS10.call hF11 hA11
        obtain ⟨q12, q12'⟩ := hS11.cell 9 _ rfl
        have hl12 := hS11.lt
        have hT12 : P2 52 (w.heap.size + 1) (w.heap.size + 2) (chgC ⟨#[]⟩ noWin 0 0 0 (.slice none 0 0) 0 (.slice none 0 0) 0 0) w b ts r cap _ _ (chgC n1 x1 a1 bk1 1 (.slice none 0 0) 0 (.slice none 0 0) t.line t.col) := hS11.put 9 [.int .i64 bk1]
        obtain ⟨p13, hP13⟩ := hT12.at_
        go_wp2_with fail
        refine (hsbk.out _ _ hP13 _ (by simp [puts, World.setCell])).mono ?_
        rintro e v13 ⟨rfl, hA13, hF13⟩
        have hS13 := hT12.call hF13 hA13
        go_wp2_with fail
        go_meet
        exact hS13
      | false =>
        obtain ⟨rfl, rfl⟩ := Prod.mk.inj (hbkn.out rfl)
        go_wp2_with fail
        go_meet
        exact hS10
    case rest =>
      clear hS10 hbky hbkn hnbk hsbk
      obtain ⟨p14, hP14⟩ := hcut.at_
      go_wp2_with fail
      refine (htv.out _ _ hP14).mono ?_
      rintro e v14 ⟨rfl, hA14, hF14⟩
      have hS14 := hcut.call hF14 hA14
      clear hcut hP14 hA14 hF14 htv
      go_upto_if 39 with fail
      go_cut [] (fun wx => P2 52 (w.heap.size + 1) (w.heap.size + 2) (chgC ⟨#[]⟩ noWin 0 0 0 (.slice none 0 0) 0 (.slice none 0 0) 0 0) w b ts r cap wx ck2 (chgC n1 x1 a1 bk1 ck1 (.slice none 0 0) 0 (.slice none 0 0) t.line t.col))
      case first =>
        cases tv1 with
        | true =>
          obtain ⟨rfl, rfl⟩ := Prod.mk.inj (hvy.out rfl)
          obtain ⟨q15, q15'⟩ := hS14.cell 10 _ rfl
          have hl15 := hS14.lt
          have hT15 : P2 52 (w.heap.size + 1) (w.heap.size + 2) (chgC ⟨#[]⟩ noWin 0 0 0 (.slice none 0 0) 0 (.slice none 0 0) 0 0) w b ts r cap _ _ (chgC n1 x1 a1 bk1 2 (.slice none 0 0) 0 (.slice none 0 0) t.line t.col) := hS14.put 10 [.int .i64 2]
          go_wp2_with fail
          go_meet
          exact hT15
        | false =>
          obtain ⟨rfl, rfl⟩ := Prod.mk.inj (hvn.out rfl)
          obtain ⟨p16, hP16⟩ := hS14.at_
          go_wp2_with fail
          refine (hgr.out _ _ hP16 _ (by simp [puts, World.setCell])).mono ?_
          rintro e v16 ⟨rfl, hA16, hF16⟩
          have hS16 := hS14.call hF16 hA16
          go_wp2_with fail
          go_meet
          exact hS16
      case rest =>
        clear hS14 hvy hvn hgr
        obtain ⟨p17, hP17⟩ := hcut.at_
        go_wp2_with fail
        refine (hti.out _ _ hP17 (DT_at hD h hcut.fr)).mono ?_
        rintro e v17 ⟨tv, rfl, hot, hA17, hF17⟩
        have hS17 := hcut.call hF17 hA17
        have hot0 := own_base hot (hcut.fr.size)
        obtain ⟨A0, c0, rfl, hcl0, hcm0, hA0⟩ := Lies.open (f := tierF) (l := l1) (Lies.of hot)
        obtain ⟨q18, q18'⟩ := hS17.cell 11 _ rfl
        have hl18 := hS17.lt
        have hT18 : P2 52 (w.heap.size + 1) (w.heap.size + 2) (chgC ⟨#[]⟩ noWin 0 0 0 (.slice none 0 0) 0 (.slice none 0 0) 0 0) w b ts r cap _ _ (chgC n1 x1 a1 bk1 ck1 (.slice A0 l1.length c0) 0 (.slice none 0 0) t.line t.col) := hS17.put 11 [.slice A0 l1.length c0]
        have hot18 := own_put hot0 (own_ne_blk hot0 hS17.cb (by decide)) 11 [.slice A0 l1.length c0]
        obtain ⟨p19, hP19⟩ := hT18.at_
        go_wp2_with fail
        refine (hs3.out _ _ hP19 _ (by simp [puts, World.setCell])).mono ?_
        rintro e v19 ⟨rfl, hA19, hF19⟩
        have hS19 := hT18.call hF19 hA19
        have hot19 := own_fr hot18 hF19 hb
        obtain ⟨p20, hP20⟩ := hS19.at_
        go_wp2_with fail
        refine (hmd.out _ _ hP20).mono ?_
        rintro e v20 ⟨rfl, hA20, hF20⟩
        have hS20 := hS19.call hF20 hA20
        have hot20 := own_fr hot19 hF20 hb
        obtain ⟨q21, q21'⟩ := hS20.cell 12 _ rfl
        have hl21 := hS20.lt
        have hT21 : P2 52 (w.heap.size + 1) (w.heap.size + 2) (chgC ⟨#[]⟩ noWin 0 0 0 (.slice none 0 0) 0 (.slice none 0 0) 0 0) w b ts r cap _ _ (chgC n1 x1 a1 bk1 ck1 (.slice A0 l1.length c0) md1 (.slice none 0 0) t.line t.col) := hS20.put 12 [.int .i64 md1]
        have hot21 := own_put hot20 (own_ne_blk hot20 hS20.cb (by decide)) 12 [.int .i64 md1]
        obtain ⟨p22, hP22⟩ := hT21.at_
        go_wp2_with fail
        refine (hs4.out _ _ hP22 _ (by simp [puts, World.setCell])).mono ?_
        rintro e v22 ⟨rfl, hA22, hF22⟩
        have hS22 := hT21.call hF22 hA22
        have hot22 := own_fr hot21 hF22 hb
        go_wp2_with fail
        have hlm : len q6 ≤ 100000 := by obtain ⟨j, hj⟩ := hS22.at_; rw [hj.len]; omega
        have hLA : P2 52 (w.heap.size + 1) (w.heap.size + 2) (chgC ⟨#[]⟩ noWin 0 0 0 (.slice none 0 0) 0 (.slice none 0 0) 0 0) w b ts r cap v22 q6 (chgC n1 x1 a1 bk1 ck1 (.slice A0 l1.length c0) md1 (.slice none 0 0) t.line t.col) := hS22
        have hLO := hot22
        have HDT := Lib.hid hD
        have HH := Lib.hid h
        clear hcut hti hs3 hmd hs4 hS17 hS19 hS20 hS22 hT18 hT21 hot hot0 hot18 hot19 hot20 hot21 hot22 hP17 hP19 hP20 hP22 hA17 hA19 hA20 hA22 hF17 hF19 hF20 hF22 q18 q18' q21 q21' hl18 hl21 hD h
        go_loopw [] (fun wr => ∃ acc s' av, P2 52 (w.heap.size + 1) (w.heap.size + 2) (chgC ⟨#[]⟩ noWin 0 0 0 (.slice none 0 0) 0 (.slice none 0 0) 0 0) w b ts r cap wr s' (chgC n1 x1 a1 bk1 ck1 (.slice A0 l1.length c0) md1 av t.line t.col) ∧ wr.ownsRow w.heap.size 121 3 av acc.length (acc.flatMap adjF) ∧ wr.ownsRow w.heap.size 119 2 (.slice A0 l1.length c0) l1.length (l1.flatMap tierF) ∧ acc.length + len s' ≤ 100000 ∧ Hid (P.adjAll npV acc s' = (d1, d2))) (fun wr => leftOf wr b)
        case atStart => exact ⟨[], q6, (.slice none 0 0), hLA, World.ownsRow_nil _ _ _ _, hLO, by simpa using hlm, HD⟩
        case round =>
          obtain ⟨acc, s', av, hS, hown, hownT, hlen, HK⟩ := hrel
          clear HD hlm hLA hLO
          obtain ⟨jr, hPr⟩ := hS.at_
          have hmea := leftOf_eq hPr
          have hlp : 0 < len s' := by rw [hPr.len]; have := hPr.lt; omega
          have haj := adjust_any hPr hT (DT_at HDT.out HH.out hS.fr)
          have hst := @adjAll_step npV acc s'
          have hen := @adjAll_end npV acc s'
          have hrd := @adj_round npV s'
          rw [HK.out] at hst hen
          clear HK hPr
          generalize P.adjust npV s' = aj at *
          obtain ⟨⟨⟨ak, an, am⟩, ok⟩, s2⟩ := aj
          simp only at hst hen hrd haj
          obtain ⟨A, c3, rfl, hcl, hcm, hA⟩ := Lies.open (f := adjF) (l := acc) (Lies.of hown)
          unfold maxLen at hcm
          cases ok with
          | false =>
            obtain ⟨rfl, rfl⟩ := Prod.mk.inj (hen (.inl rfl) hlp)
            clear hst hen hrd
            go_wp2_with fail
            refine haj.mono ?_
            rintro e v60 ⟨rfl, hA60, hF60⟩
            have hS60 := hS.call hF60 hA60
            have o60 := own_fr hown hF60 hb
            have u60 := own_fr hownT hF60 hb
            obtain ⟨p60, hP60⟩ := hS60.at_
            have hS61 := hS60.alloc (.cells #[.int .i64 ak, .int .i64 an, .int .i64 am] 121)
            have o61 := o60.alloc (.cells #[.int .i64 ak, .int .i64 an, .int .i64 am] 121)
            have u61 := u60.alloc (.cells #[.int .i64 ak, .int .i64 an, .int .i64 am] 121)
            obtain ⟨p62, hP62⟩ := hS61.at_
            go_wp2_with fail
            refine (hs5.out _ _ hP62 _ (by simp)).mono ?_
            rintro e v62 ⟨rfl, hA62, hF62⟩
            have hS62 := hS61.call hF62 hA62
            have o62 := own_fr o61 hF62 hb
            have u62 := own_fr u61 hF62 hb
            obtain ⟨f1, f2, f3⟩ := hS62.finRow (chgC n1 x1 a1 bk1 ck1 (.slice A0 l1.length c0) md1 (.slice A d1.length c3) t.line t.col)
            have o63 := own_row (cs := (chgC n1 x1 a1 bk1 ck1 (.slice A0 l1.length c0) md1 (.slice A d1.length c3) t.line t.col)) o62 (own_ne_blk o62 hS62.rb (by decide))
            have u63 := own_row (cs := (chgC n1 x1 a1 bk1 ck1 (.slice A0 l1.length c0) md1 (.slice A d1.length c3) t.line t.col)) u62 (own_ne_blk u62 hS62.rb (by decide))
            skip
            have hsc : (storeCells ⟨(w.heap.size + 1), 0, none⟩ (chgC n1 x1 a1 bk1 ck1 (.slice A0 l1.length c0) md1 (.slice A d1.length c3) t.line t.col).toList).run Tryd.prog v62 = .ok () (v62.setRow (w.heap.size + 1) (chgC n1 x1 a1 bk1 ck1 (.slice A0 l1.length c0) md1 (.slice A d1.length c3) t.line t.col)) := by
              have hq := run_storeCells_from (P := Tryd.prog) (w.heap.size + 1) 52 (chgC n1 x1 a1 bk1 ck1 (.slice A0 l1.length c0) md1 (.slice A d1.length c3) t.line t.col).toList 0 _ v62 hS62.rb rfl (by simp [chgC, Value.oneCell'])
              simpa using hq
            go_wp2_with (refine wpList_load_row rfl 52 (.tmp 5) rfl (w.heap.size + 2) rfl 52 (chgC n1 x1 a1 bk1 ck1 (.slice A0 l1.length c0) md1 (.slice A d1.length c3) t.line t.col) (0, 0) _ hS62.cb Tryd.underlying52 rfl (by kernel_rfl) ?_)
            exact bodyPost_ret (results_cell_row rfl _ _ (w.heap.size + 1) _ (chgC n1 x1 a1 bk1 ck1 (.slice A0 l1.length c0) md1 (.slice A d1.length c3) t.line t.col) (0, 0) _ rfl f3 Tryd.underlying52 rfl (by kernel_rfl)) rfl ⟨(.slice A0 l1.length c0), .slice A d1.length c3, rfl, u63, o63, f1, f2⟩
          | true =>
            by_cases h0 : s2.err = 0
            · have hst2 := hst rfl h0
              have hrd2 := hrd rfl
              have HK2 := Lib.hid hst2.symm
              have hcalm := fun v j (h : PAt v b ts r cap j s2) => h.calm h0
              clear hst hen hrd hst2 h0
              go_wp2_with fail
              refine haj.mono ?_
              rintro e v1 ⟨rfl, hA1, hF1⟩
              have hS1 := hS.call hF1 hA1
              have o1 := own_fr hown hF1 hb
              have u1 := own_fr hownT hF1 hb
              obtain ⟨p1, hP1⟩ := hS1.at_
              obtain ⟨c1, c2, c3'⟩ := hcalm _ _ hP1
              have hbb := hP1.blk.lt
              have hfe := @fault_neq00
              have hl1 := hS1.lt
              have hS2 := hS1.alloc (.cells #[.int .i64 ak, .int .i64 an, .int .i64 am] 121)
              have hS3 := hS2.alloc (.cells #[.int .i64 ak, .int .i64 an, .int .i64 am] 121)
              have o3 := (o1.alloc (.cells #[.int .i64 ak, .int .i64 an, .int .i64 am] 121)).alloc (.cells #[.int .i64 ak, .int .i64 an, .int .i64 am] 121)
              have u3 := (u1.alloc (.cells #[.int .i64 ak, .int .i64 an, .int .i64 am] 121)).alloc (.cells #[.int .i64 ak, .int .i64 an, .int .i64 am] 121)
              have kn := Blk.new (v1.alloc (.cells #[.int .i64 ak, .int .i64 an, .int .i64 am] 121)) 121 #[.int .i64 ak, .int .i64 an, .int .i64 am]
              rw [World.size_alloc] at kn
              obtain ⟨m13, m13'⟩ := hS1.cell 13 (.slice A acc.length c3) rfl
              have hsz1 := hS1.fr.size
              go_wp2_with (at_builtin; refine wpList_append_lies _ rfl (.tmp 72) (.tmp 74) 50 rfl w.heap.size 121 i1 _ 3 24 Tryd.underlying50 hi1 hy0 hy1 hy2 rfl (by decide) _ _ _ rfl o3 ⟨v1.heap.size + 1, 0, none⟩ 1 1 [.int .i64 ak, .int .i64 an, .int .i64 am] rfl rfl (World.news_of_block (cs := #[.int .i64 ak, .int .i64 an, .int .i64 am]) (t := 121) (fr := (0, 0)) kn) (by simp [Value.oneCell']) (by decide) (by unfold maxLen; omega) (by omega) (by simp; omega) _ rfl ?_; intro g cp w8 hown8 hgrow8 hat8 hlt8; (have hS4 := hS3.grown o3 hgrow8 (by decide)); obtain ⟨n13, n13'⟩ := hS4.cell 13 (.slice A acc.length c3) rfl; have hl4 := hS4.lt)
              have hT5 : P2 52 (w.heap.size + 1) (w.heap.size + 2) (chgC ⟨#[]⟩ noWin 0 0 0 (.slice none 0 0) 0 (.slice none 0 0) 0 0) w b ts r cap _ _ (chgC n1 x1 a1 bk1 ck1 (.slice A0 l1.length c0) md1 (.slice (some ⟨g, 0, none⟩) (acc.length + 1) cp) t.line t.col) := hS4.put 13 [.slice (some ⟨g, 0, none⟩) (acc.length + 1) cp]
              have hown5 := own_put hown8 (own_ne_blk hown8 hS4.cb (by decide)) 13 [.slice (some ⟨g, 0, none⟩) (acc.length + 1) cp]
              have u4 := u3.kept hgrow8 (by
                rcases ho : (Value.slice A0 l1.length c0).ownBlock with _ | x
                · exact .inl rfl
                · exact .inr (fun e => own_ne_own u3 o3 (by decide) ho e.symm))
              have u5 := own_put u4 (own_ne_blk u4 hS4.cb (by decide)) 13 [.slice (some ⟨g, 0, none⟩) (acc.length + 1) cp]
              obtain ⟨p5, hP5⟩ := hT5.at_
              have hmea5 := leftOf_eq hP5
              go_roundw
              case rel => exact ⟨acc ++ [⟨ak, an, am⟩], s2, _, hT5, by rw [flat_snoc, List.length_append]; exact hown5, u5, by rw [List.length_append, List.length_singleton]; omega, HK2⟩
              case measure => exact (by omega : leftOf (puts w8 (w.heap.size + 2) 13 [.slice (some ⟨g, 0, none⟩) (acc.length + 1) cp]) b < leftOf wr b)
            · obtain ⟨rfl, rfl⟩ := Prod.mk.inj (hen (.inr h0) hlp)
              clear hst hen hrd
              go_wp2_with fail
              refine haj.mono ?_
              rintro e v60 ⟨rfl, hA60, hF60⟩
              have hS60 := hS.call hF60 hA60
              have o60 := own_fr hown hF60 hb
              have u60 := own_fr hownT hF60 hb
              obtain ⟨p60, hP60⟩ := hS60.at_
              have g0 : (d2.err != 0) = true := bne_iff_ne.2 h0
              have hfe := fault_neq0 hP60.ok
              rw [g0] at hfe
              obtain ⟨_, c1, c2, c4, _⟩ := hP60.blk.c4
              have hbb := hP60.blk.lt
              have hS61 := hS60.alloc (.cells #[.int .i64 ak, .int .i64 an, .int .i64 am] 121)
              have o61 := o60.alloc (.cells #[.int .i64 ak, .int .i64 an, .int .i64 am] 121)
              have u61 := u60.alloc (.cells #[.int .i64 ak, .int .i64 an, .int .i64 am] 121)
              obtain ⟨p62, hP62⟩ := hS61.at_
              go_wp2_with fail
              refine (hs5.out _ _ hP62 _ (by simp)).mono ?_
              rintro e v62 ⟨rfl, hA62, hF62⟩
              have hS62 := hS61.call hF62 hA62
              have o62 := own_fr o61 hF62 hb
              have u62 := own_fr u61 hF62 hb
              obtain ⟨f1, f2, f3⟩ := hS62.finRow (chgC n1 x1 a1 bk1 ck1 (.slice A0 l1.length c0) md1 (.slice A d1.length c3) t.line t.col)
              have o63 := own_row (cs := (chgC n1 x1 a1 bk1 ck1 (.slice A0 l1.length c0) md1 (.slice A d1.length c3) t.line t.col)) o62 (own_ne_blk o62 hS62.rb (by decide))
              have u63 := own_row (cs := (chgC n1 x1 a1 bk1 ck1 (.slice A0 l1.length c0) md1 (.slice A d1.length c3) t.line t.col)) u62 (own_ne_blk u62 hS62.rb (by decide))
              skip
              have hsc : (storeCells ⟨(w.heap.size + 1), 0, none⟩ (chgC n1 x1 a1 bk1 ck1 (.slice A0 l1.length c0) md1 (.slice A d1.length c3) t.line t.col).toList).run Tryd.prog v62 = .ok () (v62.setRow (w.heap.size + 1) (chgC n1 x1 a1 bk1 ck1 (.slice A0 l1.length c0) md1 (.slice A d1.length c3) t.line t.col)) := by
                have hq := run_storeCells_from (P := Tryd.prog) (w.heap.size + 1) 52 (chgC n1 x1 a1 bk1 ck1 (.slice A0 l1.length c0) md1 (.slice A d1.length c3) t.line t.col).toList 0 _ v62 hS62.rb rfl (by simp [chgC, Value.oneCell'])
                simpa using hq
              go_wp2_with (refine wpList_load_row rfl 52 (.tmp 5) rfl (w.heap.size + 2) rfl 52 (chgC n1 x1 a1 bk1 ck1 (.slice A0 l1.length c0) md1 (.slice A d1.length c3) t.line t.col) (0, 0) _ hS62.cb Tryd.underlying52 rfl (by kernel_rfl) ?_)
              exact bodyPost_ret (results_cell_row rfl _ _ (w.heap.size + 1) _ (chgC n1 x1 a1 bk1 ck1 (.slice A0 l1.length c0) md1 (.slice A d1.length c3) t.line t.col) (0, 0) _ rfl f3 Tryd.underlying52 rfl (by kernel_rfl)) rfl ⟨(.slice A0 l1.length c0), .slice A d1.length c3, rfl, u63, o63, f1, f2⟩
end Go.Proofs.YtcgkfgklggjmaaaDoor.Par
end
section
namespace Go.Proofs.YtcgkfgklggjmaaaDoor.Par
set_option linter.unusedVariables false
set_option linter.unusedSimpArgs false
open Go.RowKit
/-! a plan in memory -/
def metF (m : Met) : List Value := [.string m.name, .string m.unit, .int .i64 m.max, .int .i64 m.line, .int .i64 m.col]
def feeF (f : Fee) : List Value := [.int .i64 f.amount, .bool f.win.has, .int .i64 f.win.from_.1, .int .i64 f.win.from_.2.1, .int .i64 f.win.from_.2.2, .int .i64 f.win.to_.1, .int .i64 f.win.to_.2.1, .int .i64 f.win.to_.2.2, .int .i64 f.line, .int .i64 f.col]
abbrev CT := Chg × Value × Value
def chgF (x : CT) : List Value := [.string x.1.meter, .bool x.1.win.has, .int .i64 x.1.win.from_.1, .int .i64 x.1.win.from_.2.1, .int .i64 x.1.win.from_.2.2, .int .i64 x.1.win.to_.1, .int .i64 x.1.win.to_.2.1, .int .i64 x.1.win.to_.2.2, .int .i64 x.1.allow, .int .i64 x.1.block, .int .i64 x.1.kind, x.2.1, .int .i64 x.1.mode, x.2.2, .int .i64 x.1.line, .int .i64 x.1.col]
theorem metF_len (m : Met) : (metF m).length = 5 := rfl
theorem feeF_len (f : Fee) : (feeF f).length = 10 := rfl
theorem chgF_len (x : CT) : (chgF x).length = 16 := rfl
def planC (p : Plan) (mv fv cv : Value) : Array Value := #[.string p.name, .string p.cur, .int .i64 p.from_.1, .int .i64 p.from_.2.1, .int .i64 p.from_.2.2, .int .i64 p.to_.1, .int .i64 p.to_.2.1, .int .i64 p.to_.2.2, mv, fv, cv, .int .i64 p.line, .int .i64 p.col]
def Nest (B : Nat) (w : World) (cs : List CT) : Prop := ∀ c ∈ cs, TiersLie B w c.2.1 c.1.tiers ∧ AdjsLie B w c.2.2 c.1.adjs
/-- the blocks in which a plan's rows lie -/
def blocks (mv fv cv : Value) (cs : List CT) (g : Nat) : Prop := mv.ownBlock = some g ∨ fv.ownBlock = some g ∨ cv.ownBlock = some g ∨ ∃ c ∈ cs, c.2.1.ownBlock = some g ∨ c.2.2.ownBlock = some g
structure Rows (w : World) (B : Nat) (p : Plan) (mv fv cv : Value) (cs : List CT) : Prop where
  mo : w.ownsRow B 44 5 mv p.mets.length (p.mets.flatMap metF)
  fo : w.ownsRow B 48 10 fv p.fees.length (p.fees.flatMap feeF)
  co : w.ownsRow B 52 16 cv cs.length (cs.flatMap chgF)
  eq : cs.map (·.1) = p.chgs
  ne : Nest B w cs
/-- a value that is a plan -/
def PlanLies (B : Nat) (w : World) (v : Value) (p : Plan) : Prop := ∃ mv fv cv cs, v = .agg (planC p mv fv cv) ∧ Rows w B p mv fv cv cs
section
variable {w w' : World} {B : Nat} {p : Plan} {mv fv cv : Value} {cs : List CT}
theorem Rows.lt (h : Rows w B p mv fv cv cs) {g : Nat} (hg : blocks mv fv cv cs g) : g < w.heap.size := by
  rcases hg with hg | hg | hg | ⟨c, hc, hg | hg⟩
  · exact (h.mo.lt g hg).2
  · exact (h.fo.lt g hg).2
  · exact (h.co.lt g hg).2
  · exact (World.ownsRow.lt (h.ne c hc).1 g hg).2
  · exact (World.ownsRow.lt (h.ne c hc).2 g hg).2
theorem Rows.keep (h : Rows w B p mv fv cv cs) (hk : ∀ g, blocks mv fv cv cs g → w'.heap[g]? = w.heap[g]?) : Rows w' B p mv fv cv cs :=
  ⟨own_keep h.mo fun g hg => hk g (.inl hg), own_keep h.fo fun g hg => hk g (.inr (.inl hg)), own_keep h.co fun g hg => hk g (.inr (.inr (.inl hg))), h.eq,
    fun c hc => ⟨own_keep (h.ne c hc).1 fun g hg => hk g (.inr (.inr (.inr ⟨c, hc, .inl hg⟩))), own_keep (h.ne c hc).2 fun g hg => hk g (.inr (.inr (.inr ⟨c, hc, .inr hg⟩)))⟩⟩
theorem Rows.below (h : Rows w B p mv fv cv cs) (hb : Below w.heap.size w w') : Rows w' B p mv fv cv cs := h.keep fun g hg => hb.block g (h.lt hg)
theorem Rows.base {B' : Nat} (h : Rows w B p mv fv cv cs) (hB : B' ≤ B) : Rows w B' p mv fv cv cs := ⟨own_base h.mo hB, own_base h.fo hB, own_base h.co hB, h.eq, fun c hc => ⟨own_base (h.ne c hc).1 hB, own_base (h.ne c hc).2 hB⟩⟩
/-- a block of another type is none of a plan's -/
theorem Rows.apart (h : Rows w B p mv fv cv cs) {g : Nat} {T : TypeId} {cells : Array Value} (hb : Blk w g T cells) (h1 : 44 ≠ T) (h2 : 48 ≠ T) (h3 : 52 ≠ T) (h4 : 119 ≠ T) (h5 : 121 ≠ T) : ¬ blocks mv fv cv cs g := by
  rintro (hg | hg | hg | ⟨c, hc, hg | hg⟩)
  · exact own_ne_blk h.mo hb h1 hg
  · exact own_ne_blk h.fo hb h2 hg
  · exact own_ne_blk h.co hb h3 hg
  · exact own_ne_blk (h.ne c hc).1 hb h4 hg
  · exact own_ne_blk (h.ne c hc).2 hb h5 hg
theorem Rows.fr {b : Nat} (h : Rows w B p mv fv cv cs) (hf : Fr b w w') (hb : ¬ blocks mv fv cv cs b) : Rows w' B p mv fv cv cs :=
  h.keep fun g hg => hf.block g (h.lt hg) (fun e => hb (e ▸ hg))
theorem Rows.puts_ (h : Rows w B p mv fv cv cs) {g : Nat} (hg : ¬ blocks mv fv cv cs g) (k : Nat) (vs : List Value) : Rows (puts w g k vs) B p mv fv cv cs :=
  h.keep fun x hx => (puts_heap vs w k).1 x (fun e => hg (e ▸ hx))
theorem Rows.setRow_ (h : Rows w B p mv fv cv cs) {g : Nat} (hg : ¬ blocks mv fv cv cs g) (cells : Array Value) : Rows (w.setRow g cells) B p mv fv cv cs :=
  h.keep fun x hx => setRow_far w g x cells (fun e => hg (e ▸ hx))
/-- a row's append leaves all others -/
theorem own_grown {w w' : World} {B B' : Nat} {e e' : TypeId} {k k' n n' : Nat} {v v' : Value} {xs xs' : List Value} (h : w.ownsRow B e k v n xs) (h' : w.ownsRow B' e' k' v' n' xs') (hne : e ≠ e') (hg : w.grownBy w' v'.ownBlock) : w'.ownsRow B e k v n xs :=
  own_keep h fun g hx => hg.block g (h.lt g hx).2 (fun eq => own_ne_own h h' hne hx eq.symm)
theorem Nest.grown {B B' : Nat} {e' : TypeId} {k' n' : Nat} {v' : Value} {xs' : List Value} (h : Nest B w cs) (h' : w.ownsRow B' e' k' v' n' xs') (h4 : 119 ≠ e') (h5 : 121 ≠ e') (hg : w.grownBy w' v'.ownBlock) : Nest B w' cs :=
  fun c hc => ⟨own_grown (h c hc).1 h' h4 hg, own_grown (h c hc).2 h' h5 hg⟩
theorem Rows.addMet {mv' : Value} {m : Met} (h : Rows w B p mv fv cv cs) (hg : w.grownBy w' mv.ownBlock) (ho : w'.ownsRow B 44 5 mv' (p.mets.length + 1) (p.mets.flatMap metF ++ metF m)) : Rows w' B { p with mets := p.mets ++ [m] } mv' fv cv cs :=
  ⟨by show w'.ownsRow _ _ _ _ (p.mets ++ [m]).length ((p.mets ++ [m]).flatMap metF); rw [flat_snoc, List.length_append]; exact ho, own_grown h.fo h.mo (by decide) hg, own_grown h.co h.mo (by decide) hg, h.eq, h.ne.grown h.mo (by decide) (by decide) hg⟩
theorem Rows.addFee {fv' : Value} {f : Fee} (h : Rows w B p mv fv cv cs) (hg : w.grownBy w' fv.ownBlock) (ho : w'.ownsRow B 48 10 fv' (p.fees.length + 1) (p.fees.flatMap feeF ++ feeF f)) : Rows w' B { p with fees := p.fees ++ [f] } mv fv' cv cs :=
  ⟨own_grown h.mo h.fo (by decide) hg, by show w'.ownsRow _ _ _ _ (p.fees ++ [f]).length ((p.fees ++ [f]).flatMap feeF); rw [flat_snoc, List.length_append]; exact ho, own_grown h.co h.fo (by decide) hg, h.eq, h.ne.grown h.fo (by decide) (by decide) hg⟩
theorem Rows.addChg {cv' tv av : Value} {c : Chg} (h : Rows w B p mv fv cv cs) (ht : TiersLie B w tv c.tiers) (ha : AdjsLie B w av c.adjs) (hg : w.grownBy w' cv.ownBlock) (ho : w'.ownsRow B 52 16 cv' (cs.length + 1) (cs.flatMap chgF ++ chgF (c, tv, av))) : Rows w' B { p with chgs := p.chgs ++ [c] } mv fv cv' (cs ++ [(c, tv, av)]) :=
  ⟨own_grown h.mo h.co (by decide) hg, own_grown h.fo h.co (by decide) hg, by rw [flat_snoc, List.length_append]; exact ho, by rw [List.map_append, h.eq]; rfl, fun x hx => by
    rcases List.mem_append.1 hx with hx | hx
    · exact (h.ne.grown h.co (by decide) (by decide) hg) x hx
    · obtain rfl := List.mem_singleton.1 hx
      exact ⟨own_grown ht h.co (by decide) hg, own_grown ha h.co (by decide) hg⟩⟩
theorem Rows.none (w : World) (B : Nat) (p : Plan) (h1 : p.mets = []) (h2 : p.fees = []) (h3 : p.chgs = []) : Rows w B p (.slice none 0 0) (.slice none 0 0) (.slice none 0 0) [] :=
  ⟨by rw [h1]; exact World.ownsRow_nil _ _ _ _, by rw [h2]; exact World.ownsRow_nil _ _ _ _, World.ownsRow_nil _ _ _ _, by rw [h3]; rfl, fun c hc => by cases hc⟩
end
theorem PlanLies.below {B : Nat} {w w' : World} {v : Value} {p : Plan} (h : PlanLies B w v p) (hb : Below w.heap.size w w') : PlanLies B w' v p := by
  obtain ⟨mv, fv, cv, cs, h1, h2⟩ := h
  exact ⟨mv, fv, cv, cs, h1, h2.below hb⟩
theorem metInfo : (Tryd.prog.info? 44).map (fun i => (i.zero, i.size, i.bytes)) = some (some (.agg #[.string ⟨#[]⟩, .string ⟨#[]⟩, .int .i64 0, .int .i64 0, .int .i64 0]), 5, 56) := by kernel_rfl
theorem feeInfo : (Tryd.prog.info? 48).map (fun i => (i.zero, i.size, i.bytes)) = some (some (.agg #[.int .i64 0, .bool false, .int .i64 0, .int .i64 0, .int .i64 0, .int .i64 0, .int .i64 0, .int .i64 0, .int .i64 0, .int .i64 0]), 10, 80) := by kernel_rfl
theorem chgInfo : (Tryd.prog.info? 52).map (fun i => (i.zero, i.size, i.bytes)) = some (some (.agg (chgC ⟨#[]⟩ noWin 0 0 0 (.slice none 0 0) 0 (.slice none 0 0) 0 0)), 16, 168) := by kernel_rfl
theorem Fr.toBelow {b : Nat} {w0 w w' : World} (h : Below w0.heap.size w0 w) (hf : Fr b w w') (hb : w0.heap.size ≤ b) : Below w0.heap.size w0 w' :=
  ⟨hf.os.trans h.os, hf.tape.trans h.tape, hf.output.trans h.output, Nat.le_trans h.size hf.size, fun g hg => (hf.block g (Nat.lt_of_lt_of_le hg h.size) (by omega)).trans (h.block g hg)⟩
end Go.Proofs.YtcgkfgklggjmaaaDoor.Par
end
section
namespace Go.Proofs.YtcgkfgklggjmaaaDoor.Par
set_option linter.unusedVariables false
set_option linter.unusedSimpArgs false
/-- the tokens of a text end with the end -/
theorem lex_shape : ∀ (n : Nat) (l : List UInt8) (line col : Int) (ts : List Tok), l.length ≤ n → lexL l line col = .ok ts → ts ≠ [] ∧ (∀ t, ts.getLast? = some t → t.kind = 0) ∧ ts.length ≤ l.length + 1 := by
  intro n
  induction n with
  | zero =>
    intro l line col ts hn h
    obtain rfl : l = [] := List.eq_nil_of_length_eq_zero (by omega)
    rw [lexL] at h
    injection h with h
    subst h
    refine ⟨by simp, ?_, by simp⟩
    intro t ht
    simp at ht
    subst ht; rfl
  | succ n ih =>
    intro l line col ts hn h
    cases l with
    | nil =>
      rw [lexL] at h
      injection h with h
      subst h
      refine ⟨by simp, ?_, by simp⟩
      intro t ht
      simp at ht
      subst ht; rfl
    | cons c cs =>
      rw [lexL] at h
      rw [List.length_cons] at hn
      split at h
      · have := ih _ _ _ _ (by rw [List.length_drop]; omega) h
        rw [List.length_drop] at this
        rw [List.length_cons]
        exact ⟨this.1, this.2.1, by omega⟩
      · split at h
        · have := ih _ _ _ _ (by omega) h
          rw [List.length_cons]
          exact ⟨this.1, this.2.1, by omega⟩
        · split at h
          · have := ih _ _ _ _ (by omega) h
            rw [List.length_cons]
            exact ⟨this.1, this.2.1, by omega⟩
          · split at h
            · cases h
            · cases hr : lexL (cs.drop (tokLen c cs)) line (col + 1 + tokLen c cs) with
              | error e => rw [hr] at h; cases h
              | ok ts' =>
                rw [hr] at h
                injection h with h
                subst h
                have := ih _ _ _ _ (by rw [List.length_drop]; omega) hr
                rw [List.length_drop] at this
                refine ⟨by simp, ?_, by rw [List.length_cons, List.length_cons]; omega⟩
                intro t ht
                cases ts' with
                | nil => exact absurd rfl this.1
                | cons a rs =>
                  rw [List.getLast?_cons_cons] at ht
                  exact this.2.1 t ht
theorem all_shape {l : List UInt8} {ts : List Tok} {a b : Int} (h : lexAll l = (ts, 0, a, b)) : ts ≠ [] ∧ (∀ t, ts.getLast? = some t → t.kind = 0) ∧ ts.length ≤ 8193 := by
  unfold lexAll at h
  split at h
  · injection h with _ h
    injection h with h _
    cases h
  · cases hr : lexL l 1 1 with
    | ok ts' =>
      rw [hr] at h
      injection h with h _
      subst h
      have := lex_shape _ l 1 1 _ (Nat.le_refl _) hr
      exact ⟨this.1, this.2.1, by omega⟩
    | error e =>
      rw [hr] at h
      injection h with _ h
      injection h with h _
      cases h
/-- what the reference says of a text -/
def RParse (l : List UInt8) : Plan × Int × Int × Int :=
  if (lexAll l).2.1 ≠ 0 then (noPlan, (lexAll l).2.1, (lexAll l).2.2.1, (lexAll l).2.2.2)
  else if (R.plan dp npV (lexAll l).1).2.err ≠ 0 then (noPlan, (R.plan dp npV (lexAll l).1).2.err, (R.plan dp npV (lexAll l).1).2.line, (R.plan dp npV (lexAll l).1).2.col)
  else ((R.plan dp npV (lexAll l).1).1, 0, 0, 0)
theorem RParse_lex {l : List UInt8} {ts : List Tok} {er a b : Int} (h : lexAll l = (ts, er, a, b)) (h0 : er ≠ 0) : RParse l = (noPlan, er, a, b) := by unfold RParse; rw [h]; exact if_pos h0
theorem RParse_bad {l : List UInt8} {ts : List Tok} {a b : Int} (h : lexAll l = (ts, 0, a, b)) (h0 : (R.plan dp npV ts).2.err ≠ 0) : RParse l = (noPlan, (R.plan dp npV ts).2.err, (R.plan dp npV ts).2.line, (R.plan dp npV ts).2.col) := by
  unfold RParse; rw [h]
  simp only [ne_eq, not_true_eq_false, if_false]
  rw [if_pos h0]
theorem RParse_ok {l : List UInt8} {ts : List Tok} {a b : Int} (h : lexAll l = (ts, 0, a, b)) (h0 : (R.plan dp npV ts).2.err = 0) : RParse l = ((R.plan dp npV ts).1, 0, 0, 0) := by
  unfold RParse; rw [h]
  simp only [ne_eq, not_true_eq_false, if_false]
  rw [if_neg (fun e => e h0)]
theorem rplan_eq (ts : List Tok) : R.plan dp npV ts = R.itemsAll dp npV (R.head dp ⟨ts, 0, 0, 0⟩).1 (R.head dp ⟨ts, 0, 0, 0⟩).2 := rfl
end Go.Proofs.YtcgkfgklggjmaaaDoor.Par
end
section
namespace Go.Proofs.YtcgkfgklggjmaaaDoor.Par
set_option linter.unusedVariables false
set_option linter.unusedSimpArgs false
open Go.RowKit
/-- within the program's Parse -/
structure PS (w0 : World) (b O : Nat) (ts : List Tok) (r cap : Nat) (w : World) (s : St) (p : Plan) (mv fv cv : Value) (cs : List CT) : Prop where
  at_ : ∃ j, PAt w b ts r cap j s
  bl : Below w0.heap.size w0 w
  rb : Blk w w0.heap.size 29 (planC noPlan (.slice none 0 0) (.slice none 0 0) (.slice none 0 0))
  fb : Blk w (w0.heap.size + 1) 34 #[.int .i64 0, .int .i64 0, .int .i64 0]
  ob : Blk w O 29 (planC p mv fv cv)
  rows : Rows w w0.heap.size p mv fv cv cs
  hb : w0.heap.size ≤ b
  hO : w0.heap.size + 1 < O
section
variable {w0 : World} {b O : Nat} {ts : List Tok} {r cap : Nat} {w w' : World} {s s' : St} {p : Plan} {mv fv cv : Value} {cs : List CT}
theorem PS.nb (h : PS w0 b O ts r cap w s p mv fv cv cs) : ¬ blocks mv fv cv cs b := by
  obtain ⟨j, hj⟩ := h.at_
  exact h.rows.apart hj.blk (by decide) (by decide) (by decide) (by decide) (by decide)
theorem PS.nO (h : PS w0 b O ts r cap w s p mv fv cv cs) : ¬ blocks mv fv cv cs O := h.rows.apart h.ob (by decide) (by decide) (by decide) (by decide) (by decide)
theorem PS.nR (h : PS w0 b O ts r cap w s p mv fv cv cs) : ¬ blocks mv fv cv cs w0.heap.size := h.rows.apart h.rb (by decide) (by decide) (by decide) (by decide) (by decide)
theorem PS.nes (h : PS w0 b O ts r cap w s p mv fv cv cs) : b ≠ O ∧ b ≠ w0.heap.size ∧ r ≠ O ∧ r ≠ w0.heap.size ∧ b ≠ w0.heap.size + 1 := by
  obtain ⟨j, hj⟩ := h.at_
  exact ⟨Blk.ne_ hj.blk h.ob (by decide), Blk.ne_ hj.blk h.rb (by decide), fun e => own_ne_blk hj.row h.ob (by decide) (congrArg some e), fun e => own_ne_blk hj.row h.rb (by decide) (congrArg some e), Blk.ne_ hj.blk h.fb (by decide)⟩
theorem PS.call (h : PS w0 b O ts r cap w s p mv fv cv cs) (hf : Fr b w w') (ha : ∃ j, PAt w' b ts r cap j s') : PS w0 b O ts r cap w' s' p mv fv cv cs := by
  obtain ⟨h1, h2, h3, h4, h5⟩ := h.nes
  exact ⟨ha, Fr.toBelow h.bl hf h.hb, hf.blk h.rb (Ne.symm h2), hf.blk h.fb (Ne.symm h5), hf.blk h.ob (Ne.symm h1), h.rows.fr hf h.nb, h.hb, h.hO⟩
theorem PS.below (h : PS w0 b O ts r cap w s p mv fv cv cs) (hf : Below w.heap.size w w') : PS w0 b O ts r cap w' s p mv fv cv cs :=
  h.call (Fr.of_below hf) (by obtain ⟨j, hj⟩ := h.at_; exact ⟨j, hj.below hf⟩)
theorem PS.alloc (h : PS w0 b O ts r cap w s p mv fv cv cs) (o : Obj) : PS w0 b O ts r cap (w.alloc o) s p mv fv cv cs := h.below (bl_alloc (bl_refl _) o)
theorem PS.drew (h : PS w0 b O ts r cap w s p mv fv cv cs) : PS w0 b O ts r cap w.drew s p mv fv cv cs := h.below (bl_drew (bl_refl _))
theorem PS.lt (h : PS w0 b O ts r cap w s p mv fv cv cs) : O < w.heap.size ∧ w0.heap.size < w.heap.size := ⟨h.ob.lt, h.rb.lt⟩
theorem PS.cell (h : PS w0 b O ts r cap w s p mv fv cv cs) (k : Nat) (v : Value) (hv : (planC p mv fv cv)[k]? = some v) : w.cell? ⟨O, k, none⟩ = some v ∧ w.frozen? ⟨O, k, none⟩ = false := ⟨(h.ob.cell k).trans hv, h.ob.frozen k⟩
/-- stores into the plan itself, the rows as they are -/
theorem PS.putO (h : PS w0 b O ts r cap w s p mv fv cv cs) (k : Nat) (vs : List Value) (q : Plan) (hc : setsA (planC p mv fv cv) k vs = planC q mv fv cv) (h1 : q.mets = p.mets) (h2 : q.fees = p.fees) (h3 : q.chgs = p.chgs) : PS w0 b O ts r cap (puts w O k vs) s q mv fv cv cs := by
  obtain ⟨e1, e2, e3, e4, e5⟩ := h.nes
  obtain ⟨j, hj⟩ := h.at_
  have hO := h.hO
  have hr := h.rows.puts_ h.nO k vs
  exact ⟨⟨j, hj.putAll e1 e3 k vs⟩, bl_puts h.bl (by omega) k vs, h.rb.putsFar (by omega) k vs, h.fb.putsFar (by omega) k vs, by have := h.ob.putAll vs k; rwa [hc] at this,
    ⟨by rw [h1]; exact hr.mo, by rw [h2]; exact hr.fo, hr.co, by rw [h3]; exact hr.eq, hr.ne⟩, h.hb, hO⟩
/-- stores into a block of one's own -/
theorem PS.putM (h : PS w0 b O ts r cap w s p mv fv cv cs) {g : Nat} {T : TypeId} {cells : Array Value} (hk : Blk w g T cells) (t1 : 99 ≠ T) (t2 : 29 ≠ T) (t4 : 34 ≠ T) (t3 : 102 ≠ T) (hg : w0.heap.size ≤ g) (hn : ¬ blocks mv fv cv cs g) (k : Nat) (vs : List Value) : PS w0 b O ts r cap (puts w g k vs) s p mv fv cv cs := by
  obtain ⟨j, hj⟩ := h.at_
  have e1 := Blk.ne_ hj.blk hk t1
  have e2 := Blk.ne_ h.ob hk t2
  have e3 := Blk.ne_ h.rb hk t2
  have e5 := Blk.ne_ h.fb hk t4
  have e4 : r ≠ g := fun e => own_ne_blk hj.row hk t3 (congrArg some e)
  exact ⟨⟨j, hj.putAll e1 e4 k vs⟩, bl_puts h.bl hg k vs, h.rb.putsFar e3 k vs, h.fb.putsFar e5 k vs, h.ob.putsFar e2 k vs, h.rows.puts_ hn k vs, h.hb, h.hO⟩
theorem PS.grown {e : TypeId} {size n : Nat} {v : Value} {xs : List Value} (h : PS w0 b O ts r cap w s p mv fv cv cs) (ho : w.ownsRow w0.heap.size e size v n xs) (hg : w.grownBy w' v.ownBlock) (t1 : e ≠ 99) (t2 : e ≠ 29) (t4 : e ≠ 34) (t3 : e ≠ 102) :
    (∃ j, PAt w' b ts r cap j s) ∧ Below w0.heap.size w0 w' ∧ Blk w' w0.heap.size 29 (planC noPlan (.slice none 0 0) (.slice none 0 0) (.slice none 0 0)) ∧ Blk w' (w0.heap.size + 1) 34 #[.int .i64 0, .int .i64 0, .int .i64 0] ∧ Blk w' O 29 (planC p mv fv cv) := by
  obtain ⟨j, hj⟩ := h.at_
  refine ⟨⟨j, hj.grown hg (own_ne_blk ho hj.blk t1) (fun e => own_ne_own ho hj.row t3 e rfl)⟩, h.bl.grown hg h.bl.size (fun k hk => (ho.lt k hk).1), h.rb.grown hg (fun e => own_ne_blk ho h.rb t2 e.symm), h.fb.grown hg (fun e => own_ne_blk ho h.fb t4 e.symm), h.ob.grown hg (fun e => own_ne_blk ho h.ob t2 e.symm)⟩
theorem PS.addMet {mv' : Value} {m : Met} (h : PS w0 b O ts r cap w s p mv fv cv cs) (hg : w.grownBy w' mv.ownBlock) (ho : w'.ownsRow w0.heap.size 44 5 mv' (p.mets.length + 1) (p.mets.flatMap metF ++ metF m)) :
    Blk w' O 29 (planC p mv fv cv) ∧ PS w0 b O ts r cap (puts w' O 8 [mv']) s { p with mets := p.mets ++ [m] } mv' fv cv cs := by
  obtain ⟨e1, e2, e3, e4, e5⟩ := h.nes
  obtain ⟨⟨j, hj⟩, hb, hr, hfb, hob⟩ := h.grown h.rows.mo hg (by decide) (by decide) (by decide) (by decide)
  have hrows := h.rows.addMet hg ho
  have hn := hrows.apart hob (by decide) (by decide) (by decide) (by decide) (by decide)
  have hO := h.hO
  exact ⟨hob, ⟨j, hj.putAll e1 e3 8 _⟩, bl_puts hb (by omega) 8 _, hr.putsFar (by omega) 8 _, hfb.putsFar (by omega) 8 _, hob.putAll [mv'] 8, hrows.puts_ hn 8 _, h.hb, hO⟩
theorem PS.addFee {fv' : Value} {f : Fee} (h : PS w0 b O ts r cap w s p mv fv cv cs) (hg : w.grownBy w' fv.ownBlock) (ho : w'.ownsRow w0.heap.size 48 10 fv' (p.fees.length + 1) (p.fees.flatMap feeF ++ feeF f)) :
    Blk w' O 29 (planC p mv fv cv) ∧ PS w0 b O ts r cap (puts w' O 9 [fv']) s { p with fees := p.fees ++ [f] } mv fv' cv cs := by
  obtain ⟨e1, e2, e3, e4, e5⟩ := h.nes
  obtain ⟨⟨j, hj⟩, hb, hr, hfb, hob⟩ := h.grown h.rows.fo hg (by decide) (by decide) (by decide) (by decide)
  have hrows := h.rows.addFee hg ho
  have hn := hrows.apart hob (by decide) (by decide) (by decide) (by decide) (by decide)
  have hO := h.hO
  exact ⟨hob, ⟨j, hj.putAll e1 e3 9 _⟩, bl_puts hb (by omega) 9 _, hr.putsFar (by omega) 9 _, hfb.putsFar (by omega) 9 _, hob.putAll [fv'] 9, hrows.puts_ hn 9 _, h.hb, hO⟩
theorem PS.addChg {cv' tv av : Value} {c : Chg} (h : PS w0 b O ts r cap w s p mv fv cv cs) (ht : TiersLie w0.heap.size w tv c.tiers) (ha : AdjsLie w0.heap.size w av c.adjs) (hg : w.grownBy w' cv.ownBlock) (ho : w'.ownsRow w0.heap.size 52 16 cv' (cs.length + 1) (cs.flatMap chgF ++ chgF (c, tv, av))) :
    Blk w' O 29 (planC p mv fv cv) ∧ PS w0 b O ts r cap (puts w' O 10 [cv']) s { p with chgs := p.chgs ++ [c] } mv fv cv' (cs ++ [(c, tv, av)]) := by
  obtain ⟨e1, e2, e3, e4, e5⟩ := h.nes
  obtain ⟨⟨j, hj⟩, hb, hr, hfb, hob⟩ := h.grown h.rows.co hg (by decide) (by decide) (by decide) (by decide)
  have hrows := h.rows.addChg ht ha hg ho
  have hn := hrows.apart hob (by decide) (by decide) (by decide) (by decide) (by decide)
  have hO := h.hO
  exact ⟨hob, ⟨j, hj.putAll e1 e3 10 _⟩, bl_puts hb (by omega) 10 _, hr.putsFar (by omega) 10 _, hfb.putsFar (by omega) 10 _, hob.putAll [cv'] 10, hrows.puts_ hn 10 _, h.hb, hO⟩
end
end Go.Proofs.YtcgkfgklggjmaaaDoor.Par
end
section
namespace Go.Proofs.YtcgkfgklggjmaaaDoor.Par
set_option linter.unusedVariables false
set_option linter.unusedSimpArgs false
open Go.RowKit
theorem P_item_met {p : Plan} {s : St} {o : Int × St} (h : P.one [wMeter, wFee, wCharge] 0 s = o) (h1 : o.1 = 0) : P.item dp npV p s = ({ p with mets := p.mets ++ [(P.meter npV (peek s).line (peek s).col o.2).1] }, (P.meter npV (peek s).line (peek s).col o.2).2) := by
  subst h; unfold P.item; simp only; rw [if_pos h1]
theorem P_item_fee {p : Plan} {s : St} {o : Int × St} (h : P.one [wMeter, wFee, wCharge] 0 s = o) (h1 : o.1 = 1) : P.item dp npV p s = ({ p with fees := p.fees ++ [(P.fee dp npV (peek s).line (peek s).col o.2).1] }, (P.fee dp npV (peek s).line (peek s).col o.2).2) := by
  subst h; unfold P.item; simp only; rw [if_neg (by omega), if_pos h1]
theorem P_item_chg {p : Plan} {s : St} {o : Int × St} (h : P.one [wMeter, wFee, wCharge] 0 s = o) (h1 : o.1 = 2) : P.item dp npV p s = ({ p with chgs := p.chgs ++ [(P.charge dp npV (peek s).line (peek s).col o.2).1] }, (P.charge dp npV (peek s).line (peek s).col o.2).2) := by
  subst h; unfold P.item; simp only; rw [if_neg (by omega), if_neg (by omega), if_pos h1]
theorem P_item_none {p : Plan} {s : St} {o : Int × St} (h : P.one [wMeter, wFee, wCharge] 0 s = o) (h1 : o.1 < 0) : P.item dp npV p s = (p, P.must [wSemi] (fail 4 (peek s) o.2)) := by
  subst h; unfold P.item; simp only; rw [if_neg (by omega), if_neg (by omega), if_neg (by omega)]
theorem puts_setRow {g : Nat} {T : TypeId} : ∀ (vs : List Value) (k : Nat) (cur : Array Value) (w : World), Blk w g T cur → vs ≠ [] → puts w g k vs = w.setRow g (setsA cur k vs)
  | [], _, _, _, _, h => absurd rfl h
  | [v], k, cur, w, hb, _ => setCell_eq_setRow w g k cur T (0, 0) v hb
  | v :: u :: vs, k, cur, w, hb, _ => by
    have h1 := puts_setRow (u :: vs) (k + 1) (cur.setIfInBounds k v) (w.setCell ⟨g, k, none⟩ v) (hb.set_ k v) (by simp)
    rw [puts, h1, setCell_eq_setRow w g k cur T (0, 0) v hb, setRow_setRow]
    rfl
theorem run_puts (w : World) (g : Nat) (T : TypeId) (old : Array Value) (new : List Value) (hb : Blk w g T old) (hn : new ≠ []) (hs : setsA old 0 new = new.toArray) (hl : new.length = old.size) (h1 : ∀ v ∈ new, v.oneCell' = true) : (storeCells ⟨g, 0, none⟩ new).run Tryd.prog w = .ok () (puts w g 0 new) := by
  have hq := run_storeCells_from (P := Tryd.prog) g T new 0 old w hb (by rw [Nat.zero_add]; exact hl) h1
  rw [puts_setRow new 0 old w hb hn, hs]
  simpa using hq
set_option maxHeartbeats 16000000 in
set_option maxRecDepth 100000 in
theorem item_any {w0 w : World} {b O : Nat} {ts : List Tok} {r cap : Nat} {s : St} {p : Plan} {mv fv cv : Value} {cs : List CT} (h : PS w0 b O ts r cap w s p mv fv cv cs) (hT : TK ts cap) (hD : Dec.DT w0) (hcnt : p.mets.length + p.fees.length + cs.length < 100000) :
    Calls Tryd.prog 53 #[.pointer (some ⟨b, 0, none⟩), .pointer (some ⟨O, 0, none⟩)] w fun en w' => en = .returned (.tuple #[]) ∧ ∃ mv' fv' cv' cs', PS w0 b O ts r cap w' (P.item dp npV p s).2 (P.item dp npV p s).1 mv' fv' cv' cs' := by
  have hlb := hT.lb
  have hcb := hT.capb
  obtain ⟨I, hI⟩ : ∃ I, I = P.item dp npV p s := ⟨_, rfl⟩
  rw [← hI]
  have hpk := fun v i (h : PAt v b ts r cap i s) => peek_any h hlb hcb
  have hea := fun v i (x : ByteArray) (h : PAt v b ts r cap i s) => eat_any h hlb hcb x
  generalize ht : peek s = t at *
  unfold tokV at hpk
  cases c0 : (P.eat wMeter s).1 with
  | true =>
    obtain ⟨i0, hP0⟩ := h.at_
    have hpk0 := hpk _ _ hP0
    have e1 : P.one [wMeter, wFee, wCharge] 0 s = (0, (P.eat wMeter s).2) := by rw [pone_hit _ _ _ _ c0] <;> rfl
    rw [P_item_met e1 rfl, ht] at hI
    clear e1
    have ea0 := fun v i (h : PAt v b ts r cap i s) => hea v i wMeter h
    rw [c0] at ea0
    clear hea hpk
    generalize P.eat wMeter s = u at *
    obtain ⟨u1, u2⟩ := u
    simp only at ea0 hI
    replace ea0 := Lib.hid ea0
    unfold P.meter at hI
    simp only at hI
    have a1 := fun v i (h : PAt v b ts r cap i u2) => kind_any h hlb hcb 1
    generalize P.kind 1 u2 = m at *
    obtain ⟨m1, m2⟩ := m
    simp only at hI a1
    replace a1 := Lib.hid a1
    have a2 := fun v i (h : PAt v b ts r cap i m2) => must1 h hT wUnit
    generalize P.must [wUnit] m2 = m3 at *
    generalize peek m2 = tk1 at *
    unfold tokV at a2
    replace a2 := Lib.hid a2
    have a3 := fun v i (h : PAt v b ts r cap i m3) => kind_any h hlb hcb 1
    generalize P.kind 1 m3 = y at *
    obtain ⟨y1, y2⟩ := y
    simp only at hI a3
    replace a3 := Lib.hid a3
    have a4 := fun v i (h : PAt v b ts r cap i y2) => must1 h hT wMax
    generalize P.must [wMax] y2 = m4 at *
    generalize peek y2 = tk2 at *
    unfold tokV at a4
    replace a4 := Lib.hid a4
    have a5 := fun v i (h : PAt v b ts r cap i m4) (hD : Dec.DT v) => number_any h hT hD 0 2000
    generalize P.number npV 0 2000 m4 = x at *
    obtain ⟨x1, x2⟩ := x
    simp only at hI a5
    replace a5 := Lib.hid a5
    have a6 := fun v i (h : PAt v b ts r cap i x2) => must1 h hT wSemi
    generalize P.must [wSemi] x2 = su at *
    generalize peek x2 = tk3 at *
    unfold tokV at a6
    replace a6 := Lib.hid a6
    subst hI
    go_enter Tryd.func53, Tryd.ntmps53
    go_wp2_with fail
    refine hpk0.mono ?_
    rintro e w1 ⟨rfl, hb1⟩
    have hS1 := (h.below hb1).alloc (.cells #[.int .i64 t.kind, .string t.text, .int .i64 t.line, .int .i64 t.col] 102)
    have kt1 := Blk.new w1 102 #[.int .i64 t.kind, .string t.text, .int .i64 t.line, .int .i64 t.col]
    have hlw := (h.below hb1).lt
    have hbw : b < w1.heap.size := by obtain ⟨j, hj⟩ := (h.below hb1).at_; exact hj.blk.lt
    clear hpk0 hP0 hb1
    obtain ⟨i2, hP2⟩ := hS1.at_
    go_wp2_with fail
    refine (ea0.out _ _ hP2).mono ?_
    rintro e v2 ⟨rfl, hA2, hF2⟩
    have hS2 := hS1.call hF2 hA2
    have kM2 := hF2.blk kt1 (by omega)
    clear hP2 hA2 hF2
    have hSx : PS w0 b O ts r cap v2 u2 p mv fv cv cs := hS2
    have kt2 : Blk v2 w1.heap.size 102 #[.int .i64 t.kind, .string t.text, .int .i64 t.line, .int .i64 t.col] := kM2
    have hnb := fun g (h : blocks mv fv cv cs g) => hSx.rows.lt h
    replace hnb := Lib.hid hnb
    clear hS1 hS2 kt1 kM2 ea0 h
    go_upto_region 3 with fail
    go_cut [5] (fun vM wx => ∃ M, vM = .pointer (some ⟨M, 0, none⟩) ∧ PS w0 b O ts r cap wx m2 p mv fv cv cs ∧ Blk wx M 44 #[.string m1, .string ⟨#[]⟩, .int .i64 0, .int .i64 t.line, .int .i64 t.col] ∧ v2.heap.size ≤ M)
    case first =>
      obtain ⟨k0, k1, k2, k3, _⟩ := kt2.c4
      have hA2 : PS w0 b O ts r cap v2.drew u2 p mv fv cv cs := hSx.drew
      have hB2 : PS w0 b O ts r cap (v2.alloc (.cells #[.string ⟨#[]⟩, .string ⟨#[]⟩, .int .i64 0, .int .i64 0, .int .i64 0] 44)).drew u2 p mv fv cv cs := (hSx.alloc (.cells #[.string ⟨#[]⟩, .string ⟨#[]⟩, .int .i64 0, .int .i64 0, .int .i64 0] 44)).drew
      have kA2 : Blk v2.drew w1.heap.size 102 #[.int .i64 t.kind, .string t.text, .int .i64 t.line, .int .i64 t.col] := kt2.drew
      have kB2 : Blk (v2.alloc (.cells #[.string ⟨#[]⟩, .string ⟨#[]⟩, .int .i64 0, .int .i64 0, .int .i64 0] 44)).drew w1.heap.size 102 #[.int .i64 t.kind, .string t.text, .int .i64 t.line, .int .i64 t.col] := (kt2.alloc (.cells #[.string ⟨#[]⟩, .string ⟨#[]⟩, .int .i64 0, .int .i64 0, .int .i64 0] 44)).drew
      have kM2b : Blk (v2.alloc (.cells #[.string ⟨#[]⟩, .string ⟨#[]⟩, .int .i64 0, .int .i64 0, .int .i64 0] 44)).drew v2.heap.size 44 #[.string ⟨#[]⟩, .string ⟨#[]⟩, .int .i64 0, .int .i64 0, .int .i64 0] := (Blk.new v2 44 #[.string ⟨#[]⟩, .string ⟨#[]⟩, .int .i64 0, .int .i64 0, .int .i64 0]).drew
      have hl2 := kt2.lt
      have hp := fun W (h : PS w0 b O ts r cap W u2 p mv fv cv cs) => (fun hA => a1.out W _ hA.choose_spec) h.at_
      replace hp := Lib.hid hp
      clear a1
      have k2d : v2.drew.cell? ⟨w1.heap.size, 2, none⟩ = some (.int .i64 t.line) := k2
      have k3d : v2.drew.cell? ⟨w1.heap.size, 3, none⟩ = some (.int .i64 t.col) := k3
      have l2d : w1.heap.size < v2.drew.heap.size := hl2
      obtain ⟨_, _, k2b, k3b, _⟩ := kB2.c4
      have l2b := kB2.lt
      go_region_held3 (fun w' => w'.cell? ⟨w1.heap.size, 2, none⟩ = some (.int .i64 t.line) ∧ w'.cell? ⟨w1.heap.size, 3, none⟩ = some (.int .i64 t.col) ∧ w1.heap.size < w'.heap.size)
        (refine ⟨?_, ?_, ?_⟩ <;> with_reducible assumption)
        ((go_at_call 50; refine (hp.out _ (by with_reducible assumption)).mono ?_; rintro e w3 ⟨rfl, hA3, hF3⟩; (have kt3 : Blk w3 w1.heap.size 102 #[.int .i64 t.kind, .string t.text, .int .i64 t.line, .int .i64 t.col] := hF3.blk (by with_reducible assumption) (by omega)); obtain ⟨j0_, j1_, j2_, j3_, _⟩ := kt3.c4; (have hl3 := kt3.lt); (have kt3a := kt3.alloc (.cells #[.string ⟨#[]⟩, .string ⟨#[]⟩, .int .i64 0, .int .i64 0, .int .i64 0] 44)); obtain ⟨_, _, a2_, a3_, _⟩ := kt3a.c4; (have la_ := kt3a.lt); (have kt3b := kt3.alloc (.cells #[.string m1, .string ⟨#[]⟩, .int .i64 0, .int .i64 t.line, .int .i64 t.col] 44)); obtain ⟨_, _, b2_, b3_, _⟩ := kt3b.c4; (have lb_ := kt3b.lt); (try ((have kM3 : Blk w3 v2.heap.size 44 #[.string ⟨#[]⟩, .string ⟨#[]⟩, .int .i64 0, .int .i64 0, .int .i64 0] := hF3.blk (by with_reducible assumption) (by omega)); obtain ⟨s0_, s1_, s2_, s3_, s4_, r0_, r1_, r2_, r3_, r4_⟩ := kM3.c5; (have hlM3 := kM3.lt); (have kP3 : Blk (((((w3.setCell ⟨v2.heap.size, 0, none⟩ (.string m1)).setCell ⟨v2.heap.size, 1, none⟩ (.string ⟨#[]⟩)).setCell ⟨v2.heap.size, 2, none⟩ (.int .i64 0)).setCell ⟨v2.heap.size, 3, none⟩ (.int .i64 t.line)).setCell ⟨v2.heap.size, 4, none⟩ (.int .i64 t.col)) w1.heap.size 102 #[.int .i64 t.kind, .string t.text, .int .i64 t.line, .int .i64 t.col] := kt3.putsFar (g' := v2.heap.size) (by omega) 0 [.string m1, .string ⟨#[]⟩, .int .i64 0, .int .i64 t.line, .int .i64 t.col]); obtain ⟨_, _, c2_, c3_, _⟩ := kP3.c4; (have lc_ := kP3.lt)))))
      all_goals
        have hsz3 := hF3.size
        go_wp2_with fail
        go_meet
        first
          | exact ⟨w3.heap.size, rfl, (hA2.call hF3 hA3).alloc _, Blk.new _ _ _, hsz3⟩
          | exact ⟨v2.heap.size, rfl, (hB2.call hF3 hA3).putM kM3 (by decide) (by decide) (by decide) (by decide) hSx.bl.size (fun h => by have := hnb.out _ h; omega) 0 [.string m1, .string ⟨#[]⟩, .int .i64 0, .int .i64 t.line, .int .i64 t.col], kM3.putAll [.string m1, .string ⟨#[]⟩, .int .i64 0, .int .i64 t.line, .int .i64 t.col] 0, Nat.le_refl _⟩
    case rest =>
      obtain ⟨M, rfl, hS30, kM30, hM⟩ := hcut
      have hnM : ¬ blocks mv fv cv cs M := fun h => by have := hnb.out M h; omega
      have hlx := hSx.bl.size
      have hlt2 := kt2.lt
      clear hSx kt2 a1 hnb
      obtain ⟨i31, hP31⟩ := hS30.at_
      go_wp2_with fail
      refine (a2.out _ _ hP31 _ (by simp [puts, World.setCell])).mono ?_
      rintro e v31 ⟨rfl, hA31, hF31⟩
      have hS31 := hS30.call hF31 hA31
      have kM31 := hF31.blk kM30 (by omega)
      clear hP31 hA31 hF31
      obtain ⟨i32, hP32⟩ := hS31.at_
      go_wp2_with fail
      refine (a3.out _ _ hP32).mono ?_
      rintro e v32 ⟨rfl, hA32, hF32⟩
      have hS32 := hS31.call hF32 hA32
      have kM32 := hF32.blk kM31 (by omega)
      clear hP32 hA32 hF32
      obtain ⟨s0_, s1_, s2_, s3_, s4_, r0_, r1_, r2_, r3_, r4_⟩ := kM32.c5
      have hlM33 := kM32.lt
      have hS33 := hS32.putM kM32 (by decide) (by decide) (by decide) (by decide) (by have := hS32.bl.size; omega) hnM 1 [.string y1]
      have kM33 : Blk _ M 44 #[.string m1, .string y1, .int .i64 0, .int .i64 t.line, .int .i64 t.col] := kM32.putAll [.string y1] 1
      obtain ⟨i34, hP34⟩ := hS33.at_
      go_wp2_with fail
      refine (a4.out _ _ hP34 _ (by simp [puts, World.setCell])).mono ?_
      rintro e v34 ⟨rfl, hA34, hF34⟩
      have hS34 := hS33.call hF34 hA34
      have kM34 := hF34.blk kM33 (by omega)
      clear hP34 hA34 hF34
      clear s0_ s1_ s2_ s3_ s4_ r0_ r1_ r2_ r3_ r4_
      obtain ⟨i35, hP35⟩ := hS34.at_
      go_wp2_with fail
      refine (a5.out _ _ hP35 (hD.below hS34.bl)).mono ?_
      rintro e v35 ⟨rfl, hA35, hF35⟩
      have hS35 := hS34.call hF35 hA35
      have kM35 := hF35.blk kM34 (by omega)
      clear hP35 hA35 hF35
      obtain ⟨s0_, s1_, s2_, s3_, s4_, r0_, r1_, r2_, r3_, r4_⟩ := kM35.c5
      have hlM36 := kM35.lt
      have hS36 := hS35.putM kM35 (by decide) (by decide) (by decide) (by decide) (by have := hS35.bl.size; omega) hnM 2 [.int .i64 x1]
      have kM36 : Blk _ M 44 #[.string m1, .string y1, .int .i64 x1, .int .i64 t.line, .int .i64 t.col] := kM35.putAll [.int .i64 x1] 2
      obtain ⟨q8, q8'⟩ := hS35.cell 8 mv rfl
      have hlS := hS35.lt
      have hMO : M ≠ O := Blk.ne_ kM36 hS36.ob (by decide)
      have hS50 := (hS36.alloc (.cells #[.string m1, .string y1, .int .i64 x1, .int .i64 t.line, .int .i64 t.col] 44)).drew
      have hnew : ((puts v35 M 2 [.int .i64 x1]).alloc (.cells #[.string m1, .string y1, .int .i64 x1, .int .i64 t.line, .int .i64 t.col] 44)).drew.heap[v35.heap.size]? = some (.cells #[.string m1, .string y1, .int .i64 x1, .int .i64 t.line, .int .i64 t.col] 44) := by
        have hq := heap_alloc_new (puts v35 M 2 [.int .i64 x1]) (.cells #[.string m1, .string y1, .int .i64 x1, .int .i64 t.line, .int .i64 t.col] 44)
        rwa [(puts_heap [.int .i64 x1] v35 2).2.1] at hq
      have hsz50 := hS50.bl.size
      obtain ⟨iM, hM0, hM1, hM2, hM3⟩ := info_parts metInfo
      go_wp2_with fail
      go_region_law (refine step_append_lies _ rfl (.tmp 38) (.tmp 40) 25 rfl w0.heap.size 44 iM _ 5 56 Tryd.underlying25 hM0 hM1 hM2 hM3 rfl (by decide) _ _ _ rfl hS50.rows.mo ⟨v35.heap.size, 0, none⟩ 1 1 [.string m1, .string y1, .int .i64 x1, .int .i64 t.line, .int .i64 t.col] rfl rfl (World.news_of_block (cs := #[.string m1, .string y1, .int .i64 x1, .int .i64 t.line, .int .i64 t.col]) (t := 44) (fr := (0, 0)) hnew) (by simp [Value.oneCell']) (by decide) (by unfold maxLen; omega) (by omega) hsz50 _ rfl ?_; intro g cp w10 hown10 hgrow10 hat10 hlt10; obtain ⟨hob10, hS51⟩ := hS50.addMet (m := ⟨m1, y1, x1, t.line, t.col⟩) hgrow10 hown10; (have n8 : w10.cell? ⟨O, 8, none⟩ = some mv := hob10.cell 8); (have n8' := hob10.frozen 8); have hl10 := hob10.lt)
      all_goals
        obtain ⟨i60, hP60⟩ := hS51.at_
        go_wp2_with fail
        refine (a6.out _ _ hP60 _ (by simp [puts, World.setCell])).mono ?_
        rintro e w11 ⟨rfl, hA11, hF11⟩
        go_wp2_with fail
        go_end0
        exact ⟨rfl, _, fv, cv, cs, hS51.call hF11 hA11⟩
  | false =>
    cases c1 : (P.eat wFee s).1 with
    | true =>
      obtain ⟨i0, hP0⟩ := h.at_
      have hpk0 := hpk _ _ hP0
      have e1 : P.one [wMeter, wFee, wCharge] 0 s = (1, (P.eat wFee s).2) := by rw [pone_drop _ _ _ _ c0, pone_hit _ _ _ _ c1] <;> rfl
      rw [P_item_fee e1 rfl, ht] at hI
      clear e1
      have ea0 := fun v i (h : PAt v b ts r cap i s) => hea v i wMeter h
      rw [c0, eat_no c0] at ea0
      have ea1 := fun v i (h : PAt v b ts r cap i s) => hea v i wFee h
      rw [c1] at ea1
      clear hea hpk
      generalize P.eat wFee s = u at *
      obtain ⟨u1, u2⟩ := u
      simp only at ea1 hI
      replace ea0 := Lib.hid ea0
      replace ea1 := Lib.hid ea1
      unfold P.fee at hI
      simp only at hI
      have a1 := fun v i (h : PAt v b ts r cap i u2) (hD : Dec.DT v) => number_any h hT hD 0 1000000000000
      generalize P.number npV 0 1000000000000 u2 = x at *
      obtain ⟨x1, x2⟩ := x
      simp only at hI a1
      replace a1 := Lib.hid a1
      have a2 := fun v i (h : PAt v b ts r cap i x2) => window_any h hT
      generalize P.window dp x2 = y at *
      obtain ⟨y1, y2⟩ := y
      simp only at hI a2
      replace a2 := Lib.hid a2
      have a3 := fun v i (h : PAt v b ts r cap i y2) => must1 h hT wSemi
      generalize P.must [wSemi] y2 = su at *
      generalize peek y2 = tk3 at *
      unfold tokV at a3
      replace a3 := Lib.hid a3
      replace a2 := a2.out
      unfold winV at a2
      replace a2 := Lib.hid a2
      subst hI
      go_enter Tryd.func53, Tryd.ntmps53
      go_wp2_with fail
      refine hpk0.mono ?_
      rintro e w1 ⟨rfl, hb1⟩
      have hS1 := (h.below hb1).alloc (.cells #[.int .i64 t.kind, .string t.text, .int .i64 t.line, .int .i64 t.col] 102)
      have kt1 := Blk.new w1 102 #[.int .i64 t.kind, .string t.text, .int .i64 t.line, .int .i64 t.col]
      have hlw := (h.below hb1).lt
      have hbw : b < w1.heap.size := by obtain ⟨j, hj⟩ := (h.below hb1).at_; exact hj.blk.lt
      clear hpk0 hP0 hb1
      obtain ⟨i2, hP2⟩ := hS1.at_
      go_wp2_with fail
      refine (ea0.out _ _ hP2).mono ?_
      rintro e v2 ⟨rfl, hA2, hF2⟩
      have hS2 := hS1.call hF2 hA2
      have kM2 := hF2.blk kt1 (by omega)
      clear hP2 hA2 hF2
      obtain ⟨i3, hP3⟩ := hS2.at_
      go_wp2_with fail
      refine (ea1.out _ _ hP3).mono ?_
      rintro e v3 ⟨rfl, hA3, hF3⟩
      have hS3 := hS2.call hF3 hA3
      have kM3 := hF3.blk kM2 (by omega)
      clear hP3 hA3 hF3
      have hSx : PS w0 b O ts r cap v3 u2 p mv fv cv cs := hS3
      have kt2 : Blk v3 w1.heap.size 102 #[.int .i64 t.kind, .string t.text, .int .i64 t.line, .int .i64 t.col] := kM3
      have hnb := fun g (h : blocks mv fv cv cs g) => hSx.rows.lt h
      replace hnb := Lib.hid hnb
      clear hS1 hS2 hS3 kt1 kM2 kM3 ea0 ea1 h
      go_upto_region 10 with fail
      go_cut [6] (fun vM wx => ∃ M, vM = .pointer (some ⟨M, 0, none⟩) ∧ PS w0 b O ts r cap wx x2 p mv fv cv cs ∧ Blk wx M 48 #[.int .i64 x1, .bool false, .int .i64 0, .int .i64 0, .int .i64 0, .int .i64 0, .int .i64 0, .int .i64 0, .int .i64 t.line, .int .i64 t.col] ∧ v3.heap.size ≤ M)
      case first =>
        obtain ⟨k0, k1, k2, k3, _⟩ := kt2.c4
        have hA2 : PS w0 b O ts r cap v3.drew u2 p mv fv cv cs := hSx.drew
        have hB2 : PS w0 b O ts r cap (v3.alloc (.cells #[.int .i64 0, .bool false, .int .i64 0, .int .i64 0, .int .i64 0, .int .i64 0, .int .i64 0, .int .i64 0, .int .i64 0, .int .i64 0] 48)).drew u2 p mv fv cv cs := (hSx.alloc (.cells #[.int .i64 0, .bool false, .int .i64 0, .int .i64 0, .int .i64 0, .int .i64 0, .int .i64 0, .int .i64 0, .int .i64 0, .int .i64 0] 48)).drew
        have kA2 : Blk v3.drew w1.heap.size 102 #[.int .i64 t.kind, .string t.text, .int .i64 t.line, .int .i64 t.col] := kt2.drew
        have kB2 : Blk (v3.alloc (.cells #[.int .i64 0, .bool false, .int .i64 0, .int .i64 0, .int .i64 0, .int .i64 0, .int .i64 0, .int .i64 0, .int .i64 0, .int .i64 0] 48)).drew w1.heap.size 102 #[.int .i64 t.kind, .string t.text, .int .i64 t.line, .int .i64 t.col] := (kt2.alloc (.cells #[.int .i64 0, .bool false, .int .i64 0, .int .i64 0, .int .i64 0, .int .i64 0, .int .i64 0, .int .i64 0, .int .i64 0, .int .i64 0] 48)).drew
        have kM2b : Blk (v3.alloc (.cells #[.int .i64 0, .bool false, .int .i64 0, .int .i64 0, .int .i64 0, .int .i64 0, .int .i64 0, .int .i64 0, .int .i64 0, .int .i64 0] 48)).drew v3.heap.size 48 #[.int .i64 0, .bool false, .int .i64 0, .int .i64 0, .int .i64 0, .int .i64 0, .int .i64 0, .int .i64 0, .int .i64 0, .int .i64 0] := (Blk.new v3 48 #[.int .i64 0, .bool false, .int .i64 0, .int .i64 0, .int .i64 0, .int .i64 0, .int .i64 0, .int .i64 0, .int .i64 0, .int .i64 0]).drew
        have hl2 := kt2.lt
        have hp := fun W (h : PS w0 b O ts r cap W u2 p mv fv cv cs) => (fun hA => a1.out W _ hA.choose_spec (hD.below h.bl)) h.at_
        replace hp := Lib.hid hp
        clear a1
        have k2d : v3.drew.cell? ⟨w1.heap.size, 2, none⟩ = some (.int .i64 t.line) := k2
        have k3d : v3.drew.cell? ⟨w1.heap.size, 3, none⟩ = some (.int .i64 t.col) := k3
        have l2d : w1.heap.size < v3.drew.heap.size := hl2
        obtain ⟨_, _, k2b, k3b, _⟩ := kB2.c4
        have l2b := kB2.lt
        have hsets : setsA #[.int .i64 0, .bool false, .int .i64 0, .int .i64 0, .int .i64 0, .int .i64 0, .int .i64 0, .int .i64 0, .int .i64 0, .int .i64 0] 0 [.int .i64 x1, .bool false, .int .i64 0, .int .i64 0, .int .i64 0, .int .i64 0, .int .i64 0, .int .i64 0, .int .i64 t.line, .int .i64 t.col] = #[.int .i64 x1, .bool false, .int .i64 0, .int .i64 0, .int .i64 0, .int .i64 0, .int .i64 0, .int .i64 0, .int .i64 t.line, .int .i64 t.col] := by simp [setsA]
        replace hsets := Lib.hid hsets
        go_region_held3 (fun w' => w'.cell? ⟨w1.heap.size, 2, none⟩ = some (.int .i64 t.line) ∧ w'.cell? ⟨w1.heap.size, 3, none⟩ = some (.int .i64 t.col) ∧ w1.heap.size < w'.heap.size)
          (refine ⟨?_, ?_, ?_⟩ <;> with_reducible assumption)
          ((go_at_call 91; refine (hp.out _ (by with_reducible assumption)).mono ?_; rintro e w3 ⟨rfl, hA3, hF3⟩; (have kt3 : Blk w3 w1.heap.size 102 #[.int .i64 t.kind, .string t.text, .int .i64 t.line, .int .i64 t.col] := hF3.blk (by with_reducible assumption) (by omega)); obtain ⟨j0_, j1_, j2_, j3_, _⟩ := kt3.c4; (have hl3 := kt3.lt); (have kt3a := kt3.alloc (.cells #[.int .i64 0, .bool false, .int .i64 0, .int .i64 0, .int .i64 0, .int .i64 0, .int .i64 0, .int .i64 0, .int .i64 0, .int .i64 0] 48)); obtain ⟨_, _, a2_, a3_, _⟩ := kt3a.c4; (have la_ := kt3a.lt); (have kt3b := kt3.alloc (.cells #[.int .i64 x1, .bool false, .int .i64 0, .int .i64 0, .int .i64 0, .int .i64 0, .int .i64 0, .int .i64 0, .int .i64 t.line, .int .i64 t.col] 48)); obtain ⟨_, _, b2_, b3_, _⟩ := kt3b.c4; (have lb_ := kt3b.lt); (try ((have kM3 : Blk w3 v3.heap.size 48 #[.int .i64 0, .bool false, .int .i64 0, .int .i64 0, .int .i64 0, .int .i64 0, .int .i64 0, .int .i64 0, .int .i64 0, .int .i64 0] := hF3.blk (by with_reducible assumption) (by omega)); obtain ⟨s0_, s1_, s2_, s3_, s4_, s5_, s6_, s7_, s8_, s9_, r0_, r1_, r2_, r3_, r4_, r5_, r6_, r7_, r8_, r9_⟩ := kM3.c10; (have hlM3 := kM3.lt); (have kP3 := kt3.putsFar (g' := v3.heap.size) (by omega) 0 [.int .i64 x1, .bool false, .int .i64 0, .int .i64 0, .int .i64 0, .int .i64 0, .int .i64 0, .int .i64 0, .int .i64 t.line, .int .i64 t.col]); simp only [puts, Nat.zero_add, Nat.reduceAdd] at kP3; obtain ⟨_, _, c2_, c3_, _⟩ := kP3.c4; (have lc_ := kP3.lt)))))
        all_goals
          have hsz3 := hF3.size
          go_wp2_with fail
          go_meet
          first
            | exact ⟨w3.heap.size, rfl, (hA2.call hF3 hA3).alloc _, Blk.new _ _ _, hsz3⟩
            | (have q1 := (hB2.call hF3 hA3).putM kM3 (by decide) (by decide) (by decide) (by decide) hSx.bl.size (fun h => by have := hnb.out _ h; omega) 0 [.int .i64 x1, .bool false, .int .i64 0, .int .i64 0, .int .i64 0, .int .i64 0, .int .i64 0, .int .i64 0, .int .i64 t.line, .int .i64 t.col]; have q2 := kM3.putAll [.int .i64 x1, .bool false, .int .i64 0, .int .i64 0, .int .i64 0, .int .i64 0, .int .i64 0, .int .i64 0, .int .i64 t.line, .int .i64 t.col] 0; rw [hsets.out] at q2; simp only [puts, Nat.zero_add, Nat.reduceAdd] at q1 q2; exact ⟨v3.heap.size, rfl, q1, q2, Nat.le_refl _⟩)
      case rest =>
        obtain ⟨M, rfl, hS30, kM30, hM⟩ := hcut
        have hnM : ¬ blocks mv fv cv cs M := fun h => by have := hnb.out M h; omega
        have hlx := hSx.bl.size
        have hlt2 := kt2.lt
        clear hSx kt2 a1 hnb
        obtain ⟨i31, hP31⟩ := hS30.at_
        go_wp2_with fail
        refine (a2.out _ _ hP31).mono ?_
        rintro e v31 ⟨rfl, hA31, hF31⟩
        have hS31 := hS30.call hF31 hA31
        have kM31 := hF31.blk kM30 (by omega)
        clear hP31 hA31 hF31
        obtain ⟨s0_, s1_, s2_, s3_, s4_, s5_, s6_, s7_, s8_, s9_, r0_, r1_, r2_, r3_, r4_, r5_, r6_, r7_, r8_, r9_⟩ := kM31.c10
        have hlM32 := kM31.lt
        have hS32 := hS31.putM kM31 (by decide) (by decide) (by decide) (by decide) (by have := hS31.bl.size; omega) hnM 1 [.bool y1.has, .int .i64 y1.from_.1, .int .i64 y1.from_.2.1, .int .i64 y1.from_.2.2, .int .i64 y1.to_.1, .int .i64 y1.to_.2.1, .int .i64 y1.to_.2.2]
        have kM32 : Blk _ M 48 #[.int .i64 x1, .bool y1.has, .int .i64 y1.from_.1, .int .i64 y1.from_.2.1, .int .i64 y1.from_.2.2, .int .i64 y1.to_.1, .int .i64 y1.to_.2.1, .int .i64 y1.to_.2.2, .int .i64 t.line, .int .i64 t.col] := kM31.putAll [.bool y1.has, .int .i64 y1.from_.1, .int .i64 y1.from_.2.1, .int .i64 y1.from_.2.2, .int .i64 y1.to_.1, .int .i64 y1.to_.2.1, .int .i64 y1.to_.2.2] 1
        obtain ⟨q8, q8'⟩ := hS31.cell 9 fv rfl
        have hlS := hS31.lt
        have hMO : M ≠ O := Blk.ne_ kM32 hS32.ob (by decide)
        have hS50 := (hS32.alloc (.cells #[.int .i64 x1, .bool y1.has, .int .i64 y1.from_.1, .int .i64 y1.from_.2.1, .int .i64 y1.from_.2.2, .int .i64 y1.to_.1, .int .i64 y1.to_.2.1, .int .i64 y1.to_.2.2, .int .i64 t.line, .int .i64 t.col] 48)).drew
        have hnew : ((puts v31 M 1 [.bool y1.has, .int .i64 y1.from_.1, .int .i64 y1.from_.2.1, .int .i64 y1.from_.2.2, .int .i64 y1.to_.1, .int .i64 y1.to_.2.1, .int .i64 y1.to_.2.2]).alloc (.cells #[.int .i64 x1, .bool y1.has, .int .i64 y1.from_.1, .int .i64 y1.from_.2.1, .int .i64 y1.from_.2.2, .int .i64 y1.to_.1, .int .i64 y1.to_.2.1, .int .i64 y1.to_.2.2, .int .i64 t.line, .int .i64 t.col] 48)).drew.heap[v31.heap.size]? = some (.cells #[.int .i64 x1, .bool y1.has, .int .i64 y1.from_.1, .int .i64 y1.from_.2.1, .int .i64 y1.from_.2.2, .int .i64 y1.to_.1, .int .i64 y1.to_.2.1, .int .i64 y1.to_.2.2, .int .i64 t.line, .int .i64 t.col] 48) := by
          have hq := heap_alloc_new (puts v31 M 1 [.bool y1.has, .int .i64 y1.from_.1, .int .i64 y1.from_.2.1, .int .i64 y1.from_.2.2, .int .i64 y1.to_.1, .int .i64 y1.to_.2.1, .int .i64 y1.to_.2.2]) (.cells #[.int .i64 x1, .bool y1.has, .int .i64 y1.from_.1, .int .i64 y1.from_.2.1, .int .i64 y1.from_.2.2, .int .i64 y1.to_.1, .int .i64 y1.to_.2.1, .int .i64 y1.to_.2.2, .int .i64 t.line, .int .i64 t.col] 48)
          rwa [(puts_heap [.bool y1.has, .int .i64 y1.from_.1, .int .i64 y1.from_.2.1, .int .i64 y1.from_.2.2, .int .i64 y1.to_.1, .int .i64 y1.to_.2.1, .int .i64 y1.to_.2.2] v31 1).2.1] at hq
        have hsz50 := hS50.bl.size
        obtain ⟨iM, hM0, hM1, hM2, hM3⟩ := info_parts feeInfo
        go_wp2_with fail
        go_region_law (refine step_append_lies _ rfl (.tmp 61) (.tmp 63) 26 rfl w0.heap.size 48 iM _ 10 80 Tryd.underlying26 hM0 hM1 hM2 hM3 rfl (by decide) _ _ _ rfl hS50.rows.fo ⟨v31.heap.size, 0, none⟩ 1 1 [.int .i64 x1, .bool y1.has, .int .i64 y1.from_.1, .int .i64 y1.from_.2.1, .int .i64 y1.from_.2.2, .int .i64 y1.to_.1, .int .i64 y1.to_.2.1, .int .i64 y1.to_.2.2, .int .i64 t.line, .int .i64 t.col] rfl rfl (World.news_of_block (cs := #[.int .i64 x1, .bool y1.has, .int .i64 y1.from_.1, .int .i64 y1.from_.2.1, .int .i64 y1.from_.2.2, .int .i64 y1.to_.1, .int .i64 y1.to_.2.1, .int .i64 y1.to_.2.2, .int .i64 t.line, .int .i64 t.col]) (t := 48) (fr := (0, 0)) hnew) (by simp [Value.oneCell']) (by decide) (by unfold maxLen; omega) (by omega) hsz50 _ rfl ?_; intro g cp w10 hown10 hgrow10 hat10 hlt10; obtain ⟨hob10, hS51⟩ := hS50.addFee (f := ⟨x1, y1, t.line, t.col⟩) hgrow10 hown10; (have n8 : w10.cell? ⟨O, 9, none⟩ = some fv := hob10.cell 9); (have n8' := hob10.frozen 9); have hl10 := hob10.lt)
        all_goals
          obtain ⟨i60, hP60⟩ := hS51.at_
          go_wp2_with fail
          refine (a3.out _ _ hP60 _ (by simp [puts, World.setCell])).mono ?_
          rintro e w11 ⟨rfl, hA11, hF11⟩
          go_wp2_with fail
          go_end0
          exact ⟨rfl, mv, _, cv, cs, hS51.call hF11 hA11⟩
    | false =>
      cases c2 : (P.eat wCharge s).1 with
      | true =>
        obtain ⟨i0, hP0⟩ := h.at_
        have hpk0 := hpk _ _ hP0
        have e1 : P.one [wMeter, wFee, wCharge] 0 s = (2, (P.eat wCharge s).2) := by rw [pone_drop _ _ _ _ c0, pone_drop _ _ _ _ c1, pone_hit _ _ _ _ c2] <;> rfl
        rw [P_item_chg e1 rfl, ht] at hI
        clear e1
        have ea0 := fun v i (h : PAt v b ts r cap i s) => hea v i wMeter h
        rw [c0, eat_no c0] at ea0
        have ea1 := fun v i (h : PAt v b ts r cap i s) => hea v i wFee h
        rw [c1, eat_no c1] at ea1
        have ea2 := fun v i (h : PAt v b ts r cap i s) => hea v i wCharge h
        rw [c2] at ea2
        clear hea hpk
        generalize P.eat wCharge s = u at *
        obtain ⟨u1, u2⟩ := u
        simp only at ea2 hI
        replace ea0 := Lib.hid ea0
        replace ea1 := Lib.hid ea1
        replace ea2 := Lib.hid ea2
        have a1 := fun v i (h : PAt v b ts r cap i u2) (hD : Dec.DT v) => charge_any h hT hD t
        generalize P.charge dp npV t.line t.col u2 = z at *
        obtain ⟨z, su⟩ := z
        simp only at hI a1
        unfold chgC tokV at a1
        replace a1 := Lib.hid a1
        subst hI
        go_enter Tryd.func53, Tryd.ntmps53
        go_wp2_with fail
        refine hpk0.mono ?_
        rintro e w1 ⟨rfl, hb1⟩
        have hS1 := (h.below hb1).alloc (.cells #[.int .i64 t.kind, .string t.text, .int .i64 t.line, .int .i64 t.col] 102)
        have kt1 := Blk.new w1 102 #[.int .i64 t.kind, .string t.text, .int .i64 t.line, .int .i64 t.col]
        have hlw := (h.below hb1).lt
        have hbw : b < w1.heap.size := by obtain ⟨j, hj⟩ := (h.below hb1).at_; exact hj.blk.lt
        clear hpk0 hP0 hb1
        obtain ⟨i2, hP2⟩ := hS1.at_
        go_wp2_with fail
        refine (ea0.out _ _ hP2).mono ?_
        rintro e v2 ⟨rfl, hA2, hF2⟩
        have hS2 := hS1.call hF2 hA2
        have kM2 := hF2.blk kt1 (by omega)
        clear hP2 hA2 hF2
        obtain ⟨i3, hP3⟩ := hS2.at_
        go_wp2_with fail
        refine (ea1.out _ _ hP3).mono ?_
        rintro e v3 ⟨rfl, hA3, hF3⟩
        have hS3 := hS2.call hF3 hA3
        have kM3 := hF3.blk kM2 (by omega)
        clear hP3 hA3 hF3
        obtain ⟨i4, hP4⟩ := hS3.at_
        go_wp2_with fail
        refine (ea2.out _ _ hP4).mono ?_
        rintro e v4 ⟨rfl, hA4, hF4⟩
        have hS4 := hS3.call hF4 hA4
        have kM4 := hF4.blk kM3 (by omega)
        clear hP4 hA4 hF4
        have hSx : PS w0 b O ts r cap v4 u2 p mv fv cv cs := hS4
        have kt2 : Blk v4 w1.heap.size 102 #[.int .i64 t.kind, .string t.text, .int .i64 t.line, .int .i64 t.col] := kM4
        have hnb := fun g (h : blocks mv fv cv cs g) => hSx.rows.lt h
        replace hnb := Lib.hid hnb
        clear hS1 hS2 hS3 hS4 kt1 kM2 kM3 kM4 ea0 ea1 ea2 h
        have hA2 : PS w0 b O ts r cap v4.drew u2 p mv fv cv cs := hSx.drew
        have hpd := (fun hA => a1.out v4.drew _ hA.choose_spec (hD.below hA2.bl)) hA2.at_
        replace hpd := Lib.hid hpd
        clear a1
        obtain ⟨k0, k1, k2, k3, _⟩ := kt2.c4
        obtain ⟨q10, q10'⟩ := hSx.cell 10 cv rfl
        have hl2 := kt2.lt
        have hlS := hSx.lt
        obtain ⟨iC, hC0, hC1, hC2, hC3⟩ := info_parts chgInfo
        go_wp2_with fail
        go_region_law (first | (refine step_append_lies _ rfl (.tmp 74) (.tmp 78) 27 rfl w0.heap.size 52 iC _ 16 168 Tryd.underlying27 hC0 hC1 hC2 hC3 rfl (by decide) _ _ _ rfl (hS3.rows.co.alloc _) ⟨w3.heap.size, 0, none⟩ 1 1 (chgF (z, .slice At z.tiers.length ct, .slice Aa z.adjs.length ca)) rfl rfl (World.news_of_block (cs := #[.string z.meter, .bool z.win.has, .int .i64 z.win.from_.1, .int .i64 z.win.from_.2.1, .int .i64 z.win.from_.2.2, .int .i64 z.win.to_.1, .int .i64 z.win.to_.2.1, .int .i64 z.win.to_.2.2, .int .i64 z.allow, .int .i64 z.block, .int .i64 z.kind, .slice At z.tiers.length ct, .int .i64 z.mode, .slice Aa z.adjs.length ca, .int .i64 z.line, .int .i64 z.col]) (t := 52) (fr := (0, 0)) (heap_alloc_new _ _)) (by simp [chgF, Value.oneCell']) (by decide) (by unfold maxLen; omega) (by omega) (by simp; omega) _ rfl ?_; intro g cp w10 hown10 hgrow10 hat10 hlt10; obtain ⟨hob10, hS21⟩ := (hS3.alloc _).addChg (World.ownsRow.alloc hti3 _) (World.ownsRow.alloc haj3 _) hgrow10 hown10; (have n8 : w10.cell? ⟨O, 10, none⟩ = some cv := hob10.cell 10); (have n8' := hob10.frozen 10); have hl10 := hob10.lt) | (go_simp; go_at_call 93; refine hpd.out.mono ?_; rintro e w3 ⟨tv, av, rfl, hti, haj, hA3, hF3⟩; (have hS3 := hA2.call hF3 hA3); obtain ⟨q11, q11'⟩ := hS3.cell 10 cv rfl; (have hlS3 := hS3.lt); (have hsz3 := hS3.bl.size); (have hti3 := own_base hti hA2.bl.size); (have haj3 := own_base haj hA2.bl.size); obtain ⟨At, ct, rfl, _, _, _⟩ := Lies.open (Lies.of hti); obtain ⟨Aa, ca, rfl, _, _, _⟩ := Lies.open (Lies.of haj)))
        all_goals
          go_wp2_with fail
          exact bodyPost_ret (results_none rfl _ _ _) rfl ⟨rfl, mv, fv, _, _, hS21⟩
      | false =>
        obtain ⟨i0, hP0⟩ := h.at_
        have hpk0 := hpk _ _ hP0
        have e1 : P.one [wMeter, wFee, wCharge] 0 s = (-1, s) := by rw [pone_drop _ _ _ _ c0, pone_drop _ _ _ _ c1, pone_drop _ _ _ _ c2] <;> rfl
        rw [P_item_none e1 (by show (-1 : Int) < 0; decide), ht] at hI
        clear e1
        have ea0 := fun v i (h : PAt v b ts r cap i s) => hea v i wMeter h
        rw [c0, eat_no c0] at ea0
        have ea1 := fun v i (h : PAt v b ts r cap i s) => hea v i wFee h
        rw [c1, eat_no c1] at ea1
        have ea2 := fun v i (h : PAt v b ts r cap i s) => hea v i wCharge h
        rw [c2, eat_no c2] at ea2
        clear hea hpk
        replace ea0 := Lib.hid ea0
        replace ea1 := Lib.hid ea1
        replace ea2 := Lib.hid ea2
        have a1 := fun v i (h : PAt v b ts r cap i s) => fail_any h 4 (by decide) t
        generalize fail 4 t s = f4 at *
        have a2 := fun v i (h : PAt v b ts r cap i f4) => must1 h hT wSemi
        generalize P.must [wSemi] f4 = su at *
        generalize peek f4 = tk at *
        unfold tokV at a1 a2
        replace a1 := Lib.hid a1
        replace a2 := Lib.hid a2
        subst hI
        go_enter Tryd.func53, Tryd.ntmps53
        go_wp2_with fail
        refine hpk0.mono ?_
        rintro e w1 ⟨rfl, hb1⟩
        have hS1 := (h.below hb1).alloc (.cells #[.int .i64 t.kind, .string t.text, .int .i64 t.line, .int .i64 t.col] 102)
        have kt1 := Blk.new w1 102 #[.int .i64 t.kind, .string t.text, .int .i64 t.line, .int .i64 t.col]
        have hlw := (h.below hb1).lt
        have hbw : b < w1.heap.size := by obtain ⟨j, hj⟩ := (h.below hb1).at_; exact hj.blk.lt
        clear hpk0 hP0 hb1
        obtain ⟨i2, hP2⟩ := hS1.at_
        go_wp2_with fail
        refine (ea0.out _ _ hP2).mono ?_
        rintro e v2 ⟨rfl, hA2, hF2⟩
        have hS2 := hS1.call hF2 hA2
        have kM2 := hF2.blk kt1 (by omega)
        clear hP2 hA2 hF2
        obtain ⟨i3, hP3⟩ := hS2.at_
        go_wp2_with fail
        refine (ea1.out _ _ hP3).mono ?_
        rintro e v3 ⟨rfl, hA3, hF3⟩
        have hS3 := hS2.call hF3 hA3
        have kM3 := hF3.blk kM2 (by omega)
        clear hP3 hA3 hF3
        obtain ⟨i4, hP4⟩ := hS3.at_
        go_wp2_with fail
        refine (ea2.out _ _ hP4).mono ?_
        rintro e v4 ⟨rfl, hA4, hF4⟩
        have hS4 := hS3.call hF4 hA4
        have kM4 := hF4.blk kM3 (by omega)
        clear hP4 hA4 hF4
        have hSx : PS w0 b O ts r cap v4 s p mv fv cv cs := hS4
        have kt2 : Blk v4 w1.heap.size 102 #[.int .i64 t.kind, .string t.text, .int .i64 t.line, .int .i64 t.col] := kM4
        have hnb := fun g (h : blocks mv fv cv cs g) => hSx.rows.lt h
        replace hnb := Lib.hid hnb
        clear hS1 hS2 hS3 hS4 kt1 kM2 kM3 kM4 ea0 ea1 ea2 h
        obtain ⟨k0, k1, k2, k3, _⟩ := kt2.c4
        obtain ⟨i30, hP30⟩ := hSx.at_
        go_wp2_with fail
        refine (a1.out _ _ hP30).mono ?_
        rintro e w11 ⟨rfl, hA11, hF11⟩
        have hS11 := hSx.call hF11 ⟨_, hA11⟩
        go_wp2_with fail
        refine (a2.out _ _ hA11 _ rfl).mono ?_
        rintro e w12 ⟨rfl, hA12, hF12⟩
        go_wp2_with fail
        go_end0
        exact ⟨rfl, mv, fv, cv, cs, hS11.call hF12 hA12⟩
end Go.Proofs.YtcgkfgklggjmaaaDoor.Par
end
