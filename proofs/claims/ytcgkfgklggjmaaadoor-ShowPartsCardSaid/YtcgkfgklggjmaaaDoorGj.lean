import Derived.Test.YtcgkfgklggjmaaaDoorGi
section
namespace Go.Proofs.YtcgkfgklggjmaaaDoor.Par
set_option linter.unusedVariables false
set_option linter.unusedSimpArgs false
open Go.RowKit
set_option maxHeartbeats 200000000 in
set_option maxRecDepth 100000 in
theorem branchY_m (s : ByteArray) (w : World) (hs : s.size ≤ 9223372036854775807) : (parsY s w hs).m 0 := by
  unfold parsY
  intro Q
  intro Q9
  intro w1 ts li co hbl1 hlt1 cap hcap hcount hlen r hA X hrlt t9 q1 n1 n2 q2 c1 c2 q3 q4 f1 f2 z1 z2 q5 b0 p1 v1 p2 v2 p4 v4 p5 v5 p7 v7 p8 v8 p9 v9 p11 v11 p13 v13 hS K3 a4 wr u12 u13 u14 u15 u63 u64 u65 u66 u67 u68 u69 u70 u71 u72 u73 u74 u75 u76 u77 u78 u79 u80 u81 u82 u83 u84 u85 u86 u87 u88 u89 u90 u91 u92 u93 u94 u95 u96 u97 u98 u99 u100 u101 u102 u103 u104 u105 u106 u107 u108 u109 u110 u111 u112 u113 u114 u115 u116 u117 u118 u119 u120 u121 u122 u123 u124 u125 u126 u127 u128 u129 u130 u131 u132 u133 u134 u135 u136 u137 u138 u139 u140 u141 u142 u143 u144 u145 u146 u147 u148 u149 u150 u151 u152 u153 u154 u155 u156 u157 J9 K2 a3 p s' mv fv cv cs hcnt a2 jr hbig hms hle t o1 o2 hln hst him hif hic hin nq wq jq j1 K1 a1 K0 a0 w2 hS2 kt2 hb2 hbq hnb hko
  subst hko
  have hI := him.out rfl
  have hst2 := hst.out
  rw [hI] at hst2 hms
  simp only at hst2 hms
  have hln2 := hln (.inl rfl)
  rw [hI] at hln2
  simp only at hln2
  clear hI hst him hif hic hin hln hle
  unfold R.meter at hst2 hms hln2
  simp only at hst2 hms hln2
  have a1 := fun v i (h : RAt v w1.heap.size ts r cap i o2) => token_any h 1 (by decide)
  generalize R.token 1 o2 = m at *
  obtain ⟨m1, m2⟩ := m
  simp only at hst2 hms hln2 a1
  have a2 := fun v i (h : RAt v w1.heap.size ts r cap i m2) => want_any h wUnit
  generalize R.want wUnit m2 = m3 at *
  have a3 := fun v i (h : RAt v w1.heap.size ts r cap i m3) => token_any h 1 (by decide)
  generalize R.token 1 m3 = u at *
  obtain ⟨u1, u2⟩ := u
  simp only at hst2 hms hln2 a3
  have a4 := fun v i (h : RAt v w1.heap.size ts r cap i u2) => want_any h wMax
  generalize R.want wMax u2 = m4 at *
  have a5 := fun v i (h : RAt v w1.heap.size ts r cap i m4) => rnumber_any h 0 2000
  generalize R.number npV 0 2000 m4 = x at *
  obtain ⟨x1, x2⟩ := x
  simp only at hst2 hms hln2 a5
  have a6 := fun v i (h : RAt v w1.heap.size ts r cap i x2) => want_any h wSemi
  generalize R.want wSemi x2 = su at *
  have HK2 := Lib.hid hst2.symm
  clear hst2
  replace a1 := Lib.hid a1
  replace a2 := Lib.hid a2
  replace a3 := Lib.hid a3
  replace a4 := Lib.hid a4
  replace a5 := Lib.hid a5
  replace a6 := Lib.hid a6
  replace hms := Lib.hid hms
  have hsets : setsA #[.string ⟨#[]⟩, .string ⟨#[]⟩, .int .i64 0, .int .i64 0, .int .i64 0] 0 [.string m1, .string ⟨#[]⟩, .int .i64 0, .int .i64 t.line, .int .i64 t.col] = #[.string m1, .string ⟨#[]⟩, .int .i64 0, .int .i64 t.line, .int .i64 t.col] := by simp [setsA]
  replace hsets := Lib.hid hsets
  go_upto_region 21 with fail
  go_cut [14] (fun vM wx => ∃ M, vM = .pointer (some ⟨M, 0, none⟩) ∧ RS w w1.heap.size (w1.heap.size + 1) ts r cap wx m2 p mv fv cv cs ∧ Blk wx M 44 #[.string m1, .string ⟨#[]⟩, .int .i64 0, .int .i64 t.line, .int .i64 t.col] ∧ w2.heap.size ≤ M)
  case first =>
    obtain ⟨k0, k1, k2, k3, _⟩ := kt2.c4
    have hA2 : RS w w1.heap.size (w1.heap.size + 1) ts r cap w2.drew o2 p mv fv cv cs := hS2.drew
    have hB2 : RS w w1.heap.size (w1.heap.size + 1) ts r cap (w2.alloc (.cells #[.string ⟨#[]⟩, .string ⟨#[]⟩, .int .i64 0, .int .i64 0, .int .i64 0] 44)).drew o2 p mv fv cv cs := (hS2.alloc (.cells #[.string ⟨#[]⟩, .string ⟨#[]⟩, .int .i64 0, .int .i64 0, .int .i64 0] 44)).drew
    have kA2 : Blk w2.drew wq.heap.size 61 #[.int .i64 t.kind, .string t.text, .int .i64 t.line, .int .i64 t.col] := kt2.drew
    have kB2 : Blk (w2.alloc (.cells #[.string ⟨#[]⟩, .string ⟨#[]⟩, .int .i64 0, .int .i64 0, .int .i64 0] 44)).drew wq.heap.size 61 #[.int .i64 t.kind, .string t.text, .int .i64 t.line, .int .i64 t.col] := (kt2.alloc (.cells #[.string ⟨#[]⟩, .string ⟨#[]⟩, .int .i64 0, .int .i64 0, .int .i64 0] 44)).drew
    have kM2b : Blk (w2.alloc (.cells #[.string ⟨#[]⟩, .string ⟨#[]⟩, .int .i64 0, .int .i64 0, .int .i64 0] 44)).drew w2.heap.size 44 #[.string ⟨#[]⟩, .string ⟨#[]⟩, .int .i64 0, .int .i64 0, .int .i64 0] := (Blk.new w2 44 #[.string ⟨#[]⟩, .string ⟨#[]⟩, .int .i64 0, .int .i64 0, .int .i64 0]).drew
    have hbb2 : w1.heap.size < w2.heap.size := hb2
    have hl2 := kt2.lt
    have hp := fun W (h : RS w w1.heap.size (w1.heap.size + 1) ts r cap W o2 p mv fv cv cs) => (fun hA => a1.out W _ hA.choose_spec) h.at_
    replace hp := Lib.hid hp
    clear a1
    have k2d : w2.drew.cell? ⟨wq.heap.size, 2, none⟩ = some (.int .i64 t.line) := k2
    have k3d : w2.drew.cell? ⟨wq.heap.size, 3, none⟩ = some (.int .i64 t.col) := k3
    have l2d : wq.heap.size < w2.drew.heap.size := hl2
    obtain ⟨_, _, k2b, k3b, _⟩ := kB2.c4
    have l2b := kB2.lt
    go_region_held3 (fun w' => w'.cell? ⟨wq.heap.size, 2, none⟩ = some (.int .i64 t.line) ∧ w'.cell? ⟨wq.heap.size, 3, none⟩ = some (.int .i64 t.col) ∧ wq.heap.size < w'.heap.size)
      (refine ⟨?_, ?_, ?_⟩ <;> with_reducible assumption)
      ((go_at_call 36; refine (hp.out _ (by with_reducible assumption)).mono ?_; rintro e w3 ⟨rfl, hA3, hF3⟩; (have kt3 : Blk w3 wq.heap.size 61 #[.int .i64 t.kind, .string t.text, .int .i64 t.line, .int .i64 t.col] := hF3.blk (by with_reducible assumption) (by omega)); obtain ⟨j0_, j1_, j2_, j3_, _⟩ := kt3.c4; (have hl3 := kt3.lt); (have kt3a := kt3.alloc (.cells #[.string ⟨#[]⟩, .string ⟨#[]⟩, .int .i64 0, .int .i64 0, .int .i64 0] 44)); obtain ⟨_, _, a2_, a3_, _⟩ := kt3a.c4; (have la_ := kt3a.lt); (have kt3b := kt3.alloc (.cells #[.string m1, .string ⟨#[]⟩, .int .i64 0, .int .i64 t.line, .int .i64 t.col] 44)); obtain ⟨_, _, b2_, b3_, _⟩ := kt3b.c4; (have lb_ := kt3b.lt); (try ((have kM3 : Blk w3 w2.heap.size 44 #[.string ⟨#[]⟩, .string ⟨#[]⟩, .int .i64 0, .int .i64 0, .int .i64 0] := hF3.blk (by with_reducible assumption) (by omega)); obtain ⟨s0_, s1_, s2_, s3_, s4_, r0_, r1_, r2_, r3_, r4_⟩ := kM3.c5; (have hlM3 := kM3.lt); (have kP3 := kt3.putsFar (g' := w2.heap.size) (by omega) 0 [.string m1, .string ⟨#[]⟩, .int .i64 0, .int .i64 t.line, .int .i64 t.col]); simp only [puts, Nat.zero_add, Nat.reduceAdd] at kP3; obtain ⟨_, _, c2_, c3_, _⟩ := kP3.c4; (have lc_ := kP3.lt)))))
    all_goals
      have hsz3 := hF3.size
      go_wp2_with fail
      go_meet
      first
        | exact ⟨w3.heap.size, rfl, (hA2.call hF3 hA3).alloc _, Blk.new _ _ _, hsz3⟩
        | (have q1 := (hB2.call hF3 hA3).putM kM3 (by decide) (by decide) (by decide) hS2.bl.size (fun h => by have := hnb.out _ h; omega) 0 [.string m1, .string ⟨#[]⟩, .int .i64 0, .int .i64 t.line, .int .i64 t.col]; have q2 := kM3.putAll [.string m1, .string ⟨#[]⟩, .int .i64 0, .int .i64 t.line, .int .i64 t.col] 0; rw [hsets.out] at q2; simp only [puts, Nat.zero_add, Nat.reduceAdd] at q1 q2; exact ⟨w2.heap.size, rfl, q1, q2, Nat.le_refl _⟩)
  case rest =>
    obtain ⟨M, rfl, hS3, kM, hM⟩ := hcut
    have hnM : ¬ blocks mv fv cv cs M := fun h => by have := hnb.out M h; omega
    clear hS2 kt2 a1 hnb
    obtain ⟨i4, hP4⟩ := hS3.at_
    go_wp2_with fail
    refine (a2.out _ _ hP4).mono ?_
    rintro e v4 ⟨rfl, hA4, hF4⟩
    have hS4 := hS3.call hF4 hA4
    have kM4 := hF4.blk kM (by omega)
    clear hP4 hA4 hF4 a2
    obtain ⟨i5, hP5⟩ := hS4.at_
    go_wp2_with fail
    refine (a3.out _ _ hP5).mono ?_
    rintro e v5 ⟨rfl, hA5, hF5⟩
    have hS5 := hS4.call hF5 hA5
    have kM5 := hF5.blk kM4 (by omega)
    clear hP5 hA5 hF5 a3
    obtain ⟨s0_, s1_, s2_, s3_, s4_, r0_, r1_, r2_, r3_, r4_⟩ := kM5.c5
    have hlM6 := kM5.lt
    have hS6 := hS5.putM kM5 (by decide) (by decide) (by decide) (by have := hS5.bl.size; omega) hnM 1 [.string u1]
    have kM6 : Blk _ M 44 #[.string m1, .string u1, .int .i64 0, .int .i64 t.line, .int .i64 t.col] := kM5.putAll [.string u1] 1
    obtain ⟨i7, hP7⟩ := hS6.at_
    go_wp2_with fail
    refine (a4.out _ _ hP7).mono ?_
    rintro e v7 ⟨rfl, hA7, hF7⟩
    have hS7 := hS6.call hF7 hA7
    have kM7 := hF7.blk kM6 (by omega)
    clear hP7 hA7 hF7 a4
    clear s0_ s1_ s2_ s3_ s4_ r0_ r1_ r2_ r3_ r4_
    obtain ⟨i8, hP8⟩ := hS7.at_
    go_wp2_with fail
    refine (a5.out _ _ hP8).mono ?_
    rintro e v8 ⟨rfl, hA8, hF8⟩
    have hS8 := hS7.call hF8 hA8
    have kM8 := hF8.blk kM7 (by omega)
    clear hP8 hA8 hF8 a5
    obtain ⟨s0_, s1_, s2_, s3_, s4_, r0_, r1_, r2_, r3_, r4_⟩ := kM8.c5
    have hlM9 := kM8.lt
    have hS9 := hS8.putM kM8 (by decide) (by decide) (by decide) (by have := hS8.bl.size; omega) hnM 2 [.int .i64 x1]
    have kM9 : Blk _ M 44 #[.string m1, .string u1, .int .i64 x1, .int .i64 t.line, .int .i64 t.col] := kM8.putAll [.int .i64 x1] 2
    obtain ⟨i10, hP10⟩ := hS9.at_
    go_wp2_with fail
    refine (a6.out _ _ hP10).mono ?_
    rintro e v10 ⟨rfl, hA10, hF10⟩
    have hS10 := hS9.call hF10 hA10
    have kM10 := hF10.blk kM9 (by omega)
    clear hP10 hA10 hF10 a6
    clear s0_ s1_ s2_ s3_ s4_ r0_ r1_ r2_ r3_ r4_
    obtain ⟨s0_, s1_, s2_, s3_, s4_, r0_, r1_, r2_, r3_, r4_⟩ := kM10.c5
    have hlM := kM10.lt
    obtain ⟨q8, q8'⟩ := hS10.cell 8 mv rfl
    have hlS := hS10.lt
    have hsz8 := hS10.bl.size
    have hS20 := hS10.alloc (.cells #[.string m1, .string u1, .int .i64 x1, .int .i64 t.line, .int .i64 t.col] 44)
    have o20 := hS20.rows.mo
    obtain ⟨iM, hM0, hM1, hM2, hM3⟩ := info_parts metInfo
    go_wp2_with (at_builtin; refine wpList_append_lies _ rfl (.tmp 120) (.tmp 122) 25 rfl w.heap.size 44 iM _ 5 56 Tryd.underlying25 hM0 hM1 hM2 hM3 rfl (by decide) _ _ _ rfl o20 ⟨v10.heap.size, 0, none⟩ 1 1 [.string m1, .string u1, .int .i64 x1, .int .i64 t.line, .int .i64 t.col] rfl rfl (World.news_of_block (cs := #[.string m1, .string u1, .int .i64 x1, .int .i64 t.line, .int .i64 t.col]) (t := 44) (fr := (0, 0)) (heap_alloc_new _ _)) (by simp [Value.oneCell']) (by decide) (by unfold maxLen; omega) (by omega) (by simp; omega) _ rfl ?_; intro g cp w10 hown10 hgrow10 hat10 hlt10; obtain ⟨hob10, hS21⟩ := hS20.addMet (m := ⟨m1, u1, x1, t.line, t.col⟩) hgrow10 hown10; (have n8 : w10.cell? ⟨w1.heap.size + 1, 8, none⟩ = some mv := hob10.cell 8); (have n8' := hob10.frozen 8); have hl10 := hob10.lt)
    go_roundg (meas su)
    case measure => exact hms.out
    case rel => exact ⟨_, su, _, fv, cv, cs, hS21, by show (p.mets ++ [_]).length + p.fees.length + cs.length + len su ≤ 100000; rw [List.length_append, List.length_singleton]; omega, rfl, HK2⟩
end Go.Proofs.YtcgkfgklggjmaaaDoor.Par
end
section
namespace Go.Proofs.YtcgkfgklggjmaaaDoor.Par
set_option linter.unusedVariables false
set_option linter.unusedSimpArgs false
open Go.RowKit
set_option maxHeartbeats 200000000 in
set_option maxRecDepth 100000 in
theorem branchY_f (s : ByteArray) (w : World) (hs : s.size ≤ 9223372036854775807) : (parsY s w hs).m 1 := by
  unfold parsY
  intro Q
  intro Q9
  intro w1 ts li co hbl1 hlt1 cap hcap hcount hlen r hA X hrlt t9 q1 n1 n2 q2 c1 c2 q3 q4 f1 f2 z1 z2 q5 b0 p1 v1 p2 v2 p4 v4 p5 v5 p7 v7 p8 v8 p9 v9 p11 v11 p13 v13 hS K3 a4 wr u12 u13 u14 u15 u63 u64 u65 u66 u67 u68 u69 u70 u71 u72 u73 u74 u75 u76 u77 u78 u79 u80 u81 u82 u83 u84 u85 u86 u87 u88 u89 u90 u91 u92 u93 u94 u95 u96 u97 u98 u99 u100 u101 u102 u103 u104 u105 u106 u107 u108 u109 u110 u111 u112 u113 u114 u115 u116 u117 u118 u119 u120 u121 u122 u123 u124 u125 u126 u127 u128 u129 u130 u131 u132 u133 u134 u135 u136 u137 u138 u139 u140 u141 u142 u143 u144 u145 u146 u147 u148 u149 u150 u151 u152 u153 u154 u155 u156 u157 J9 K2 a3 p s' mv fv cv cs hcnt a2 jr hbig hms hle t o1 o2 hln hst him hif hic hin nq wq jq j1 K1 a1 K0 a0 w2 hS2 kt2 hb2 hbq hnb hko
  subst hko
  have hI := hif.out rfl
  have hst2 := hst.out
  rw [hI] at hst2 hms
  simp only at hst2 hms
  have hln2 := hln (.inr (.inl rfl))
  rw [hI] at hln2
  simp only at hln2
  clear hI hst him hif hic hin hln hle
  unfold R.fee at hst2 hms hln2
  simp only at hst2 hms hln2
  have a1 := fun v i (h : RAt v w1.heap.size ts r cap i o2) => rnumber_any h 0 1000000000000
  generalize R.number npV 0 1000000000000 o2 = x at *
  obtain ⟨x1, x2⟩ := x
  simp only at hst2 hms hln2 a1
  have a2 := fun v i (h : RAt v w1.heap.size ts r cap i x2) => rwindow_any h
  generalize R.window dp x2 = y at *
  obtain ⟨y1, y2⟩ := y
  simp only at hst2 hms hln2 a2
  have a3 := fun v i (h : RAt v w1.heap.size ts r cap i y2) => want_any h wSemi
  generalize R.want wSemi y2 = su at *
  unfold winV at a2
  have HK2 := Lib.hid hst2.symm
  clear hst2
  replace a1 := Lib.hid a1
  replace a2 := Lib.hid a2
  replace a3 := Lib.hid a3
  replace hms := Lib.hid hms
  have hsets : setsA #[.int .i64 0, .bool false, .int .i64 0, .int .i64 0, .int .i64 0, .int .i64 0, .int .i64 0, .int .i64 0, .int .i64 0, .int .i64 0] 0 [.int .i64 x1, .bool false, .int .i64 0, .int .i64 0, .int .i64 0, .int .i64 0, .int .i64 0, .int .i64 0, .int .i64 t.line, .int .i64 t.col] = #[.int .i64 x1, .bool false, .int .i64 0, .int .i64 0, .int .i64 0, .int .i64 0, .int .i64 0, .int .i64 0, .int .i64 t.line, .int .i64 t.col] := by simp [setsA]
  replace hsets := Lib.hid hsets
  go_upto_region 29 with fail
  go_cut [15] (fun vM wx => ∃ M, vM = .pointer (some ⟨M, 0, none⟩) ∧ RS w w1.heap.size (w1.heap.size + 1) ts r cap wx x2 p mv fv cv cs ∧ Blk wx M 48 #[.int .i64 x1, .bool false, .int .i64 0, .int .i64 0, .int .i64 0, .int .i64 0, .int .i64 0, .int .i64 0, .int .i64 t.line, .int .i64 t.col] ∧ w2.heap.size ≤ M)
  case first =>
    obtain ⟨k0, k1, k2, k3, _⟩ := kt2.c4
    have hA2 : RS w w1.heap.size (w1.heap.size + 1) ts r cap w2.drew o2 p mv fv cv cs := hS2.drew
    have hB2 : RS w w1.heap.size (w1.heap.size + 1) ts r cap (w2.alloc (.cells #[.int .i64 0, .bool false, .int .i64 0, .int .i64 0, .int .i64 0, .int .i64 0, .int .i64 0, .int .i64 0, .int .i64 0, .int .i64 0] 48)).drew o2 p mv fv cv cs := (hS2.alloc (.cells #[.int .i64 0, .bool false, .int .i64 0, .int .i64 0, .int .i64 0, .int .i64 0, .int .i64 0, .int .i64 0, .int .i64 0, .int .i64 0] 48)).drew
    have kA2 : Blk w2.drew wq.heap.size 61 #[.int .i64 t.kind, .string t.text, .int .i64 t.line, .int .i64 t.col] := kt2.drew
    have kB2 : Blk (w2.alloc (.cells #[.int .i64 0, .bool false, .int .i64 0, .int .i64 0, .int .i64 0, .int .i64 0, .int .i64 0, .int .i64 0, .int .i64 0, .int .i64 0] 48)).drew wq.heap.size 61 #[.int .i64 t.kind, .string t.text, .int .i64 t.line, .int .i64 t.col] := (kt2.alloc (.cells #[.int .i64 0, .bool false, .int .i64 0, .int .i64 0, .int .i64 0, .int .i64 0, .int .i64 0, .int .i64 0, .int .i64 0, .int .i64 0] 48)).drew
    have kM2b : Blk (w2.alloc (.cells #[.int .i64 0, .bool false, .int .i64 0, .int .i64 0, .int .i64 0, .int .i64 0, .int .i64 0, .int .i64 0, .int .i64 0, .int .i64 0] 48)).drew w2.heap.size 48 #[.int .i64 0, .bool false, .int .i64 0, .int .i64 0, .int .i64 0, .int .i64 0, .int .i64 0, .int .i64 0, .int .i64 0, .int .i64 0] := (Blk.new w2 48 #[.int .i64 0, .bool false, .int .i64 0, .int .i64 0, .int .i64 0, .int .i64 0, .int .i64 0, .int .i64 0, .int .i64 0, .int .i64 0]).drew
    have hbb2 : w1.heap.size < w2.heap.size := hb2
    have hl2 := kt2.lt
    have hp := fun W (h : RS w w1.heap.size (w1.heap.size + 1) ts r cap W o2 p mv fv cv cs) => (fun hA => a1.out W _ hA.choose_spec) h.at_
    replace hp := Lib.hid hp
    clear a1
    have k2d : w2.drew.cell? ⟨wq.heap.size, 2, none⟩ = some (.int .i64 t.line) := k2
    have k3d : w2.drew.cell? ⟨wq.heap.size, 3, none⟩ = some (.int .i64 t.col) := k3
    have l2d : wq.heap.size < w2.drew.heap.size := hl2
    obtain ⟨_, _, k2b, k3b, _⟩ := kB2.c4
    have l2b := kB2.lt
    go_region_held3 (fun w' => w'.cell? ⟨wq.heap.size, 2, none⟩ = some (.int .i64 t.line) ∧ w'.cell? ⟨wq.heap.size, 3, none⟩ = some (.int .i64 t.col) ∧ wq.heap.size < w'.heap.size)
      (refine ⟨?_, ?_, ?_⟩ <;> with_reducible assumption)
      ((go_at_call 39; refine (hp.out _ (by with_reducible assumption)).mono ?_; rintro e w3 ⟨rfl, hA3, hF3⟩; (have kt3 : Blk w3 wq.heap.size 61 #[.int .i64 t.kind, .string t.text, .int .i64 t.line, .int .i64 t.col] := hF3.blk (by with_reducible assumption) (by omega)); obtain ⟨j0_, j1_, j2_, j3_, _⟩ := kt3.c4; (have hl3 := kt3.lt); (have kt3a := kt3.alloc (.cells #[.int .i64 0, .bool false, .int .i64 0, .int .i64 0, .int .i64 0, .int .i64 0, .int .i64 0, .int .i64 0, .int .i64 0, .int .i64 0] 48)); obtain ⟨_, _, a2_, a3_, _⟩ := kt3a.c4; (have la_ := kt3a.lt); (have kt3b := kt3.alloc (.cells #[.int .i64 x1, .bool false, .int .i64 0, .int .i64 0, .int .i64 0, .int .i64 0, .int .i64 0, .int .i64 0, .int .i64 t.line, .int .i64 t.col] 48)); obtain ⟨_, _, b2_, b3_, _⟩ := kt3b.c4; (have lb_ := kt3b.lt); (try ((have kM3 : Blk w3 w2.heap.size 48 #[.int .i64 0, .bool false, .int .i64 0, .int .i64 0, .int .i64 0, .int .i64 0, .int .i64 0, .int .i64 0, .int .i64 0, .int .i64 0] := hF3.blk (by with_reducible assumption) (by omega)); obtain ⟨s0_, s1_, s2_, s3_, s4_, s5_, s6_, s7_, s8_, s9_, r0_, r1_, r2_, r3_, r4_, r5_, r6_, r7_, r8_, r9_⟩ := kM3.c10; (have hlM3 := kM3.lt); (have kP3 := kt3.putsFar (g' := w2.heap.size) (by omega) 0 [.int .i64 x1, .bool false, .int .i64 0, .int .i64 0, .int .i64 0, .int .i64 0, .int .i64 0, .int .i64 0, .int .i64 t.line, .int .i64 t.col]); simp only [puts, Nat.zero_add, Nat.reduceAdd] at kP3; obtain ⟨_, _, c2_, c3_, _⟩ := kP3.c4; (have lc_ := kP3.lt)))))
    all_goals
      have hsz3 := hF3.size
      go_wp2_with fail
      go_meet
      first
        | exact ⟨w3.heap.size, rfl, (hA2.call hF3 hA3).alloc _, Blk.new _ _ _, hsz3⟩
        | (have q1 := (hB2.call hF3 hA3).putM kM3 (by decide) (by decide) (by decide) hS2.bl.size (fun h => by have := hnb.out _ h; omega) 0 [.int .i64 x1, .bool false, .int .i64 0, .int .i64 0, .int .i64 0, .int .i64 0, .int .i64 0, .int .i64 0, .int .i64 t.line, .int .i64 t.col]; have q2 := kM3.putAll [.int .i64 x1, .bool false, .int .i64 0, .int .i64 0, .int .i64 0, .int .i64 0, .int .i64 0, .int .i64 0, .int .i64 t.line, .int .i64 t.col] 0; rw [hsets.out] at q2; simp only [puts, Nat.zero_add, Nat.reduceAdd] at q1 q2; exact ⟨w2.heap.size, rfl, q1, q2, Nat.le_refl _⟩)
  case rest =>
    obtain ⟨M, rfl, hS3, kM, hM⟩ := hcut
    have hnM : ¬ blocks mv fv cv cs M := fun h => by have := hnb.out M h; omega
    clear hS2 kt2 a1 hnb
    obtain ⟨i4, hP4⟩ := hS3.at_
    go_wp2_with fail
    refine (a2.out _ _ hP4).mono ?_
    rintro e v4 ⟨rfl, hA4, hF4⟩
    have hS4 := hS3.call hF4 hA4
    have kM4 := hF4.blk kM (by omega)
    clear hP4 hA4 hF4 a2
    obtain ⟨s0_, s1_, s2_, s3_, s4_, s5_, s6_, s7_, s8_, s9_, r0_, r1_, r2_, r3_, r4_, r5_, r6_, r7_, r8_, r9_⟩ := kM4.c10
    have hlM5 := kM4.lt
    have hS5 := hS4.putM kM4 (by decide) (by decide) (by decide) (by have := hS4.bl.size; omega) hnM 1 [.bool y1.has, .int .i64 y1.from_.1, .int .i64 y1.from_.2.1, .int .i64 y1.from_.2.2, .int .i64 y1.to_.1, .int .i64 y1.to_.2.1, .int .i64 y1.to_.2.2]
    have kM5 : Blk _ M 48 #[.int .i64 x1, .bool y1.has, .int .i64 y1.from_.1, .int .i64 y1.from_.2.1, .int .i64 y1.from_.2.2, .int .i64 y1.to_.1, .int .i64 y1.to_.2.1, .int .i64 y1.to_.2.2, .int .i64 t.line, .int .i64 t.col] := kM4.putAll [.bool y1.has, .int .i64 y1.from_.1, .int .i64 y1.from_.2.1, .int .i64 y1.from_.2.2, .int .i64 y1.to_.1, .int .i64 y1.to_.2.1, .int .i64 y1.to_.2.2] 1
    obtain ⟨i6, hP6⟩ := hS5.at_
    go_wp2_with fail
    refine (a3.out _ _ hP6).mono ?_
    rintro e v6 ⟨rfl, hA6, hF6⟩
    have hS6 := hS5.call hF6 hA6
    have kM6 := hF6.blk kM5 (by omega)
    clear hP6 hA6 hF6 a3
    clear s0_ s1_ s2_ s3_ s4_ s5_ s6_ s7_ s8_ s9_ r0_ r1_ r2_ r3_ r4_ r5_ r6_ r7_ r8_ r9_
    obtain ⟨s0_, s1_, s2_, s3_, s4_, s5_, s6_, s7_, s8_, s9_, r0_, r1_, r2_, r3_, r4_, r5_, r6_, r7_, r8_, r9_⟩ := kM6.c10
    have hlM := kM6.lt
    obtain ⟨q8, q8'⟩ := hS6.cell 9 fv rfl
    have hlS := hS6.lt
    have hsz8 := hS6.bl.size
    have hS20 := hS6.alloc (.cells #[.int .i64 x1, .bool y1.has, .int .i64 y1.from_.1, .int .i64 y1.from_.2.1, .int .i64 y1.from_.2.2, .int .i64 y1.to_.1, .int .i64 y1.to_.2.1, .int .i64 y1.to_.2.2, .int .i64 t.line, .int .i64 t.col] 48)
    have o20 := hS20.rows.fo
    obtain ⟨iM, hM0, hM1, hM2, hM3⟩ := info_parts feeInfo
    go_wp2_with (at_builtin; refine wpList_append_lies _ rfl (.tmp 140) (.tmp 142) 26 rfl w.heap.size 48 iM _ 10 80 Tryd.underlying26 hM0 hM1 hM2 hM3 rfl (by decide) _ _ _ rfl o20 ⟨v6.heap.size, 0, none⟩ 1 1 [.int .i64 x1, .bool y1.has, .int .i64 y1.from_.1, .int .i64 y1.from_.2.1, .int .i64 y1.from_.2.2, .int .i64 y1.to_.1, .int .i64 y1.to_.2.1, .int .i64 y1.to_.2.2, .int .i64 t.line, .int .i64 t.col] rfl rfl (World.news_of_block (cs := #[.int .i64 x1, .bool y1.has, .int .i64 y1.from_.1, .int .i64 y1.from_.2.1, .int .i64 y1.from_.2.2, .int .i64 y1.to_.1, .int .i64 y1.to_.2.1, .int .i64 y1.to_.2.2, .int .i64 t.line, .int .i64 t.col]) (t := 48) (fr := (0, 0)) (heap_alloc_new _ _)) (by simp [Value.oneCell']) (by decide) (by unfold maxLen; omega) (by omega) (by simp; omega) _ rfl ?_; intro g cp w10 hown10 hgrow10 hat10 hlt10; obtain ⟨hob10, hS21⟩ := hS20.addFee (f := ⟨x1, y1, t.line, t.col⟩) hgrow10 hown10; (have n8 : w10.cell? ⟨w1.heap.size + 1, 9, none⟩ = some fv := hob10.cell 9); (have n8' := hob10.frozen 9); have hl10 := hob10.lt)
    go_roundg (meas su)
    case measure => exact hms.out
    case rel => exact ⟨_, su, mv, _, cv, cs, hS21, by show p.mets.length + (p.fees ++ [_]).length + cs.length + len su ≤ 100000; rw [List.length_append, List.length_singleton]; omega, rfl, HK2⟩
end Go.Proofs.YtcgkfgklggjmaaaDoor.Par
end
section
namespace Go.Proofs.YtcgkfgklggjmaaaDoor.Par
set_option linter.unusedVariables false
set_option linter.unusedSimpArgs false
open Go.RowKit
set_option maxHeartbeats 200000000 in
set_option maxRecDepth 100000 in
theorem branchY_c (s : ByteArray) (w : World) (hs : s.size ≤ 9223372036854775807) : (parsY s w hs).m 2 := by
  unfold parsY
  intro Q
  intro Q9
  intro w1 ts li co hbl1 hlt1 cap hcap hcount hlen r hA X hrlt t9 q1 n1 n2 q2 c1 c2 q3 q4 f1 f2 z1 z2 q5 b0 p1 v1 p2 v2 p4 v4 p5 v5 p7 v7 p8 v8 p9 v9 p11 v11 p13 v13 hS K3 a4 wr u12 u13 u14 u15 u63 u64 u65 u66 u67 u68 u69 u70 u71 u72 u73 u74 u75 u76 u77 u78 u79 u80 u81 u82 u83 u84 u85 u86 u87 u88 u89 u90 u91 u92 u93 u94 u95 u96 u97 u98 u99 u100 u101 u102 u103 u104 u105 u106 u107 u108 u109 u110 u111 u112 u113 u114 u115 u116 u117 u118 u119 u120 u121 u122 u123 u124 u125 u126 u127 u128 u129 u130 u131 u132 u133 u134 u135 u136 u137 u138 u139 u140 u141 u142 u143 u144 u145 u146 u147 u148 u149 u150 u151 u152 u153 u154 u155 u156 u157 J9 K2 a3 p s' mv fv cv cs hcnt a2 jr hbig hms hle t o1 o2 hln hst him hif hic hin nq wq jq j1 K1 a1 K0 a0 w2 hS2 kt2 hb2 hbq hnb hko
  subst hko
  have hI := hic.out rfl
  have hst2 := hst.out
  rw [hI] at hst2 hms
  simp only at hst2 hms
  have hln2 := hln (.inr (.inr rfl))
  rw [hI] at hln2
  simp only at hln2
  clear hI hst him hif hic hin hln hle
  have a1 := fun v i (h : RAt v w1.heap.size ts r cap i o2) => rcharge_any h t.line t.col
  generalize R.charge dp npV t.line t.col o2 = z at *
  obtain ⟨z, su⟩ := z
  simp only at hst2 hms hln2 a1
  unfold chgC at a1
  have HK2 := Lib.hid hst2.symm
  clear hst2 hnb
  have hA2 : RS w w1.heap.size (w1.heap.size + 1) ts r cap w2.drew o2 p mv fv cv cs := hS2.drew
  have hpd := (fun hA => a1 w2.drew _ hA.choose_spec) hA2.at_
  replace hpd := Lib.hid hpd
  replace hms := Lib.hid hms
  clear a1
  obtain ⟨k0, k1, k2, k3, _⟩ := kt2.c4
  obtain ⟨q10, q10'⟩ := hS2.cell 10 cv rfl
  have hl2 := kt2.lt
  have hlS := hS2.lt
  obtain ⟨iC, hC0, hC1, hC2, hC3⟩ := info_parts chgInfo
  go_wp2_with fail
  have k2d : w2.drew.cell? ⟨wq.heap.size, 2, none⟩ = some (.int .i64 t.line) := k2
  have k3d : w2.drew.cell? ⟨wq.heap.size, 3, none⟩ = some (.int .i64 t.col) := k3
  have l2d : wq.heap.size < w2.drew.heap.size := hl2
  have kt2d : Blk w2.drew wq.heap.size 61 #[.int .i64 t.kind, .string t.text, .int .i64 t.line, .int .i64 t.col] := kt2.drew
  have hqO : wq.heap.size ≠ w1.heap.size + 1 := Blk.ne_ kt2 hS2.ob (by decide)
  refine wp_region_noPanic ?_
  refine wp_region_held_drew (S := (fun w' => w'.cell? ⟨wq.heap.size, 2, none⟩ = some (.int .i64 t.line) ∧ w'.cell? ⟨wq.heap.size, 3, none⟩ = some (.int .i64 t.col) ∧ wq.heap.size < w'.heap.size)) (by kernel_rfl) ⟨k2d, k3d, l2d⟩ (fun hHeld => ?_)
  refine take_want (i := 0) (d := 147) (v := ?_) rfl rfl (by kernel_rfl) (by kernel_rfl) (by kernel_rfl) (fun _ _ _ h => h) (by rfl) ?_ hHeld ?_
  rotate_left
  · intro w hSw; (try dsimp only at hSw); go_simp; try with_reducible rfl
  simp only [List.setIfInBounds_toArray, List.set_cons_zero, List.set_cons_succ]
  refine take_want (i := 2) (d := 149) (v := ?_) rfl rfl (by kernel_rfl) (by kernel_rfl) (by kernel_rfl) (fun _ _ _ h => h) (by rfl) ?_ hHeld ?_
  rotate_left
  · intro w hSw; (try dsimp only at hSw); go_simp; try with_reducible rfl
  simp only [List.setIfInBounds_toArray, List.set_cons_zero, List.set_cons_succ]
  refine take_want (i := 3) (d := 150) (v := ?_) rfl rfl (by kernel_rfl) (by kernel_rfl) (by kernel_rfl) (fun _ _ _ h => h) (by rfl) ?_ hHeld ?_
  rotate_left
  · intro w hSw; (try dsimp only at hSw); go_simp; try with_reducible rfl
  simp only [List.setIfInBounds_toArray, List.set_cons_zero, List.set_cons_succ]
  refine take_want (i := 4) (d := 151) (v := ?_) rfl rfl (by kernel_rfl) (by kernel_rfl) (by kernel_rfl) (fun _ _ _ h => h) (by rfl) ?_ hHeld ?_
  rotate_left
  · intro w hSw; (try dsimp only at hSw); go_simp; try with_reducible rfl
  simp only [List.setIfInBounds_toArray, List.set_cons_zero, List.set_cons_succ]
  refine take_want (i := 5) (d := 152) (v := ?_) rfl rfl (by kernel_rfl) (by kernel_rfl) (by kernel_rfl) (fun _ _ _ h => h) (by rfl) ?_ hHeld ?_
  rotate_left
  · intro w hSw; (try dsimp only at hSw); go_simp; try with_reducible rfl
  simp only [List.setIfInBounds_toArray, List.set_cons_zero, List.set_cons_succ]
  refine take_want (i := 6) (d := 153) (v := ?_) rfl rfl (by kernel_rfl) (by kernel_rfl) (by kernel_rfl) (fun _ _ _ h => h) (by rfl) ?_ hHeld ?_
  rotate_left
  · intro w hSw; (try dsimp only at hSw); go_simp; try with_reducible rfl
  simp only [List.setIfInBounds_toArray, List.set_cons_zero, List.set_cons_succ]
  refine wpAnyH_ready (rs := [1, 7]) (by kernel_rfl) (by simp) ?_
  refine AllReadyH.cons rfl (fun K hK => ?_) (AllReadyH.cons rfl (fun K hK => ?_) AllReadyH.nil)
  · go_simp
    refine hK.out _ _ hHeld (fun hHeld => ?_)
    clear hK K
    refine wpAnyH_ready (rs := [7]) (by kernel_rfl) (by simp) ?_
    refine AllReadyH.cons rfl (fun K hK => ?_) AllReadyH.nil
    go_simp
    go_at_call 41
    refine hpd.out.mono ?_
    rintro e w3 ⟨tv, av, rfl, hti, haj, hA3, hF3⟩
    have hS3 := hA2.call hF3 hA3
    obtain ⟨q11, q11'⟩ := hS3.cell 10 cv rfl
    have hlS3 := hS3.lt
    have hsz3 := hS3.bl.size
    have hti3 := own_base hti hA2.bl.size
    have haj3 := own_base haj hA2.bl.size
    obtain ⟨At, ct, rfl, _, _, _⟩ := Lies.open (Lies.of hti)
    obtain ⟨Aa, ca, rfl, _, _, _⟩ := Lies.open (Lies.of haj)
    have kt3 := hF3.blk kt2d (by omega)
    obtain ⟨j0_, j1_, j2_, j3_, _⟩ := kt3.c4
    have hl3 := kt3.lt
    have kt3a := kt3.alloc (.cells #[.string z.meter, .bool z.win.has, .int .i64 z.win.from_.1, .int .i64 z.win.from_.2.1, .int .i64 z.win.from_.2.2, .int .i64 z.win.to_.1, .int .i64 z.win.to_.2.1, .int .i64 z.win.to_.2.2, .int .i64 z.allow, .int .i64 z.block, .int .i64 z.kind, .slice At z.tiers.length ct, .int .i64 z.mode, .slice Aa z.adjs.length ca, .int .i64 z.line, .int .i64 z.col] 52)
    obtain ⟨_, _, a2_, a3_, _⟩ := kt3a.c4
    have la_ := kt3a.lt
    go_wp2_with fail
    refine hK.out _ _ ⟨j2_, j3_, hl3⟩ (fun hHeld => ?_)
    clear hK K
    refine wpAnyH_ready (rs := [8]) (by kernel_rfl) (by simp) ?_
    refine AllReadyH.cons rfl (fun K hK => ?_) AllReadyH.nil
    go_simp
    refine hK.out _ _ ⟨a2_, a3_, la_⟩ (fun hHeld => ?_)
    clear hK K
    refine wpAnyH_ready (rs := [9]) (by kernel_rfl) (by simp) ?_
    refine AllReadyH.cons (o := ⟨some 156, _, _, _, _, _⟩) rfl (fun K hK => ?_) AllReadyH.nil
    refine step_append_lies _ (by rfl) (.tmp 148) (.tmp 155) 27 (by rfl) w.heap.size 52 iC _ 16 168 Tryd.underlying27 hC0 hC1 hC2 hC3 (by rfl) (by decide) _ _ _ (by rfl) (hS3.rows.co.alloc _) ⟨w3.heap.size, 0, none⟩ 1 1 (chgF (z, .slice At z.tiers.length ct, .slice Aa z.adjs.length ca)) (by rfl) rfl (World.news_of_block (cs := #[.string z.meter, .bool z.win.has, .int .i64 z.win.from_.1, .int .i64 z.win.from_.2.1, .int .i64 z.win.from_.2.2, .int .i64 z.win.to_.1, .int .i64 z.win.to_.2.1, .int .i64 z.win.to_.2.2, .int .i64 z.allow, .int .i64 z.block, .int .i64 z.kind, .slice At z.tiers.length ct, .int .i64 z.mode, .slice Aa z.adjs.length ca, .int .i64 z.line, .int .i64 z.col]) (t := 52) (fr := (0, 0)) (heap_alloc_new _ _)) (by simp [chgF, Value.oneCell']) (by decide) (by unfold maxLen; omega) (by omega) (by simp; omega) _ rfl ?_
    intro g cp w10 hown10 hgrow10 hat10 hlt10
    obtain ⟨hob10, hS21⟩ := (hS3.alloc _).addChg (World.ownsRow.alloc hti3 _) (World.ownsRow.alloc haj3 _) hgrow10 hown10
    have n8 : w10.cell? ⟨w1.heap.size + 1, 10, none⟩ = some cv := hob10.cell 10
    have n8' := hob10.frozen 10
    have hl10 := hob10.lt
    have kt10 := kt3a.grown hgrow10 (fun e => own_ne_blk hS3.rows.co kt3 (by decide) e.symm)
    obtain ⟨_, _, d2_, d3_, _⟩ := kt10.c4
    have ld_ := kt10.lt
    have kt11 := kt10.far (p := ⟨w1.heap.size + 1, 10, none⟩) hqO (.slice (some ⟨g, 0, none⟩) (cs.length + 1) cp)
    obtain ⟨_, _, e2_, e3_, _⟩ := kt11.c4
    have le_ := kt11.lt
    refine hK.out _ _ ⟨d2_, d3_, ld_⟩ (fun hHeld => ?_)
    (try simp only [Act.put, List.setIfInBounds_toArray, List.set_cons_zero, List.set_cons_succ])
    clear hK K
    refine take_want (i := 10) (d := 157) (v := ?_) rfl rfl (by kernel_rfl) (by kernel_rfl) (by kernel_rfl) (fun _ _ _ h => h) (by rfl) ?_ hHeld ?_
    rotate_left
    · intro w hSw; (try dsimp only at hSw); go_simp; try with_reducible rfl
    simp only [List.setIfInBounds_toArray, List.set_cons_zero, List.set_cons_succ]
    refine wpAnyH_ready (rs := [11]) (by kernel_rfl) (by simp) ?_
    refine AllReadyH.cons rfl (fun K hK => ?_) AllReadyH.nil
    go_simp
    refine hK.out _ _ ⟨e2_, e3_, le_⟩ (fun hHeld => ?_)
    clear hK K
    refine wpAnyH_done (by kernel_rfl) ?_ _
    refine NoPanic.normal ?_
    go_wp2_with fail
    go_roundg (meas su)
    case measure => exact hms.out
    case rel => exact ⟨_, su, mv, fv, _, _, hS21, by show p.mets.length + p.fees.length + (cs ++ [_]).length + len su ≤ 100000; rw [List.length_append, List.length_singleton]; omega, rfl, HK2⟩
  · go_simp
    go_at_call 41
    refine hpd.out.mono ?_
    rintro e w3 ⟨tv, av, rfl, hti, haj, hA3, hF3⟩
    have hS3 := hA2.call hF3 hA3
    obtain ⟨q11, q11'⟩ := hS3.cell 10 cv rfl
    have hlS3 := hS3.lt
    have hsz3 := hS3.bl.size
    have hti3 := own_base hti hA2.bl.size
    have haj3 := own_base haj hA2.bl.size
    obtain ⟨At, ct, rfl, _, _, _⟩ := Lies.open (Lies.of hti)
    obtain ⟨Aa, ca, rfl, _, _, _⟩ := Lies.open (Lies.of haj)
    have kt3 := hF3.blk kt2d (by omega)
    obtain ⟨j0_, j1_, j2_, j3_, _⟩ := kt3.c4
    have hl3 := kt3.lt
    have kt3a := kt3.alloc (.cells #[.string z.meter, .bool z.win.has, .int .i64 z.win.from_.1, .int .i64 z.win.from_.2.1, .int .i64 z.win.from_.2.2, .int .i64 z.win.to_.1, .int .i64 z.win.to_.2.1, .int .i64 z.win.to_.2.2, .int .i64 z.allow, .int .i64 z.block, .int .i64 z.kind, .slice At z.tiers.length ct, .int .i64 z.mode, .slice Aa z.adjs.length ca, .int .i64 z.line, .int .i64 z.col] 52)
    obtain ⟨_, _, a2_, a3_, _⟩ := kt3a.c4
    have la_ := kt3a.lt
    go_wp2_with fail
    refine hK.out _ _ ⟨j2_, j3_, hl3⟩ (fun hHeld => ?_)
    clear hK K
    refine wpAnyH_ready (rs := [1, 8]) (by kernel_rfl) (by simp) ?_
    refine AllReadyH.cons rfl (fun K hK => ?_) (AllReadyH.cons rfl (fun K hK => ?_) AllReadyH.nil)
    · go_simp
      refine hK.out _ _ hHeld (fun hHeld => ?_)
      clear hK K
      refine wpAnyH_ready (rs := [8]) (by kernel_rfl) (by simp) ?_
      refine AllReadyH.cons rfl (fun K hK => ?_) AllReadyH.nil
      go_simp
      refine hK.out _ _ ⟨a2_, a3_, la_⟩ (fun hHeld => ?_)
      clear hK K
      refine wpAnyH_ready (rs := [9]) (by kernel_rfl) (by simp) ?_
      refine AllReadyH.cons (o := ⟨some 156, _, _, _, _, _⟩) rfl (fun K hK => ?_) AllReadyH.nil
      refine step_append_lies _ (by rfl) (.tmp 148) (.tmp 155) 27 (by rfl) w.heap.size 52 iC _ 16 168 Tryd.underlying27 hC0 hC1 hC2 hC3 (by rfl) (by decide) _ _ _ (by rfl) (hS3.rows.co.alloc _) ⟨w3.heap.size, 0, none⟩ 1 1 (chgF (z, .slice At z.tiers.length ct, .slice Aa z.adjs.length ca)) (by rfl) rfl (World.news_of_block (cs := #[.string z.meter, .bool z.win.has, .int .i64 z.win.from_.1, .int .i64 z.win.from_.2.1, .int .i64 z.win.from_.2.2, .int .i64 z.win.to_.1, .int .i64 z.win.to_.2.1, .int .i64 z.win.to_.2.2, .int .i64 z.allow, .int .i64 z.block, .int .i64 z.kind, .slice At z.tiers.length ct, .int .i64 z.mode, .slice Aa z.adjs.length ca, .int .i64 z.line, .int .i64 z.col]) (t := 52) (fr := (0, 0)) (heap_alloc_new _ _)) (by simp [chgF, Value.oneCell']) (by decide) (by unfold maxLen; omega) (by omega) (by simp; omega) _ rfl ?_
      intro g cp w10 hown10 hgrow10 hat10 hlt10
      obtain ⟨hob10, hS21⟩ := (hS3.alloc _).addChg (World.ownsRow.alloc hti3 _) (World.ownsRow.alloc haj3 _) hgrow10 hown10
      have n8 : w10.cell? ⟨w1.heap.size + 1, 10, none⟩ = some cv := hob10.cell 10
      have n8' := hob10.frozen 10
      have hl10 := hob10.lt
      have kt10 := kt3a.grown hgrow10 (fun e => own_ne_blk hS3.rows.co kt3 (by decide) e.symm)
      obtain ⟨_, _, d2_, d3_, _⟩ := kt10.c4
      have ld_ := kt10.lt
      have kt11 := kt10.far (p := ⟨w1.heap.size + 1, 10, none⟩) hqO (.slice (some ⟨g, 0, none⟩) (cs.length + 1) cp)
      obtain ⟨_, _, e2_, e3_, _⟩ := kt11.c4
      have le_ := kt11.lt
      refine hK.out _ _ ⟨d2_, d3_, ld_⟩ (fun hHeld => ?_)
      (try simp only [Act.put, List.setIfInBounds_toArray, List.set_cons_zero, List.set_cons_succ])
      clear hK K
      refine take_want (i := 10) (d := 157) (v := ?_) rfl rfl (by kernel_rfl) (by kernel_rfl) (by kernel_rfl) (fun _ _ _ h => h) (by rfl) ?_ hHeld ?_
      rotate_left
      · intro w hSw; (try dsimp only at hSw); go_simp; try with_reducible rfl
      simp only [List.setIfInBounds_toArray, List.set_cons_zero, List.set_cons_succ]
      refine wpAnyH_ready (rs := [11]) (by kernel_rfl) (by simp) ?_
      refine AllReadyH.cons rfl (fun K hK => ?_) AllReadyH.nil
      go_simp
      refine hK.out _ _ ⟨e2_, e3_, le_⟩ (fun hHeld => ?_)
      clear hK K
      refine wpAnyH_done (by kernel_rfl) ?_ _
      refine NoPanic.normal ?_
      go_wp2_with fail
      go_roundg (meas su)
      case measure => exact hms.out
      case rel => exact ⟨_, su, mv, fv, _, _, hS21, by show p.mets.length + p.fees.length + (cs ++ [_]).length + len su ≤ 100000; rw [List.length_append, List.length_singleton]; omega, rfl, HK2⟩
    · go_simp
      refine hK.out _ _ ⟨a2_, a3_, la_⟩ (fun hHeld => ?_)
      clear hK K
      refine wpAnyH_ready (rs := [1]) (by kernel_rfl) (by simp) ?_
      refine AllReadyH.cons rfl (fun K hK => ?_) AllReadyH.nil
      go_simp
      refine hK.out _ _ hHeld (fun hHeld => ?_)
      clear hK K
      refine wpAnyH_ready (rs := [9]) (by kernel_rfl) (by simp) ?_
      refine AllReadyH.cons (o := ⟨some 156, _, _, _, _, _⟩) rfl (fun K hK => ?_) AllReadyH.nil
      refine step_append_lies _ (by rfl) (.tmp 148) (.tmp 155) 27 (by rfl) w.heap.size 52 iC _ 16 168 Tryd.underlying27 hC0 hC1 hC2 hC3 (by rfl) (by decide) _ _ _ (by rfl) (hS3.rows.co.alloc _) ⟨w3.heap.size, 0, none⟩ 1 1 (chgF (z, .slice At z.tiers.length ct, .slice Aa z.adjs.length ca)) (by rfl) rfl (World.news_of_block (cs := #[.string z.meter, .bool z.win.has, .int .i64 z.win.from_.1, .int .i64 z.win.from_.2.1, .int .i64 z.win.from_.2.2, .int .i64 z.win.to_.1, .int .i64 z.win.to_.2.1, .int .i64 z.win.to_.2.2, .int .i64 z.allow, .int .i64 z.block, .int .i64 z.kind, .slice At z.tiers.length ct, .int .i64 z.mode, .slice Aa z.adjs.length ca, .int .i64 z.line, .int .i64 z.col]) (t := 52) (fr := (0, 0)) (heap_alloc_new _ _)) (by simp [chgF, Value.oneCell']) (by decide) (by unfold maxLen; omega) (by omega) (by simp; omega) _ rfl ?_
      intro g cp w10 hown10 hgrow10 hat10 hlt10
      obtain ⟨hob10, hS21⟩ := (hS3.alloc _).addChg (World.ownsRow.alloc hti3 _) (World.ownsRow.alloc haj3 _) hgrow10 hown10
      have n8 : w10.cell? ⟨w1.heap.size + 1, 10, none⟩ = some cv := hob10.cell 10
      have n8' := hob10.frozen 10
      have hl10 := hob10.lt
      have kt10 := kt3a.grown hgrow10 (fun e => own_ne_blk hS3.rows.co kt3 (by decide) e.symm)
      obtain ⟨_, _, d2_, d3_, _⟩ := kt10.c4
      have ld_ := kt10.lt
      have kt11 := kt10.far (p := ⟨w1.heap.size + 1, 10, none⟩) hqO (.slice (some ⟨g, 0, none⟩) (cs.length + 1) cp)
      obtain ⟨_, _, e2_, e3_, _⟩ := kt11.c4
      have le_ := kt11.lt
      refine hK.out _ _ ⟨d2_, d3_, ld_⟩ (fun hHeld => ?_)
      (try simp only [Act.put, List.setIfInBounds_toArray, List.set_cons_zero, List.set_cons_succ])
      clear hK K
      refine take_want (i := 10) (d := 157) (v := ?_) rfl rfl (by kernel_rfl) (by kernel_rfl) (by kernel_rfl) (fun _ _ _ h => h) (by rfl) ?_ hHeld ?_
      rotate_left
      · intro w hSw; (try dsimp only at hSw); go_simp; try with_reducible rfl
      simp only [List.setIfInBounds_toArray, List.set_cons_zero, List.set_cons_succ]
      refine wpAnyH_ready (rs := [11]) (by kernel_rfl) (by simp) ?_
      refine AllReadyH.cons rfl (fun K hK => ?_) AllReadyH.nil
      go_simp
      refine hK.out _ _ ⟨e2_, e3_, le_⟩ (fun hHeld => ?_)
      clear hK K
      refine wpAnyH_done (by kernel_rfl) ?_ _
      refine NoPanic.normal ?_
      go_wp2_with fail
      go_roundg (meas su)
      case measure => exact hms.out
      case rel => exact ⟨_, su, mv, fv, _, _, hS21, by show p.mets.length + p.fees.length + (cs ++ [_]).length + len su ≤ 100000; rw [List.length_append, List.length_singleton]; omega, rfl, HK2⟩
end Go.Proofs.YtcgkfgklggjmaaaDoor.Par
end
section
namespace Go.Proofs.YtcgkfgklggjmaaaDoor.Par
set_option linter.unusedVariables false
set_option linter.unusedSimpArgs false
open Go.RowKit
set_option maxHeartbeats 200000000 in
set_option maxRecDepth 100000 in
theorem branchY_n (s : ByteArray) (w : World) (hs : s.size ≤ 9223372036854775807) : (parsY s w hs).m (-1) := by
  unfold parsY
  intro Q
  intro Q9
  intro w1 ts li co hbl1 hlt1 cap hcap hcount hlen r hA X hrlt t9 q1 n1 n2 q2 c1 c2 q3 q4 f1 f2 z1 z2 q5 b0 p1 v1 p2 v2 p4 v4 p5 v5 p7 v7 p8 v8 p9 v9 p11 v11 p13 v13 hS K3 a4 wr u12 u13 u14 u15 u63 u64 u65 u66 u67 u68 u69 u70 u71 u72 u73 u74 u75 u76 u77 u78 u79 u80 u81 u82 u83 u84 u85 u86 u87 u88 u89 u90 u91 u92 u93 u94 u95 u96 u97 u98 u99 u100 u101 u102 u103 u104 u105 u106 u107 u108 u109 u110 u111 u112 u113 u114 u115 u116 u117 u118 u119 u120 u121 u122 u123 u124 u125 u126 u127 u128 u129 u130 u131 u132 u133 u134 u135 u136 u137 u138 u139 u140 u141 u142 u143 u144 u145 u146 u147 u148 u149 u150 u151 u152 u153 u154 u155 u156 u157 J9 K2 a3 p s' mv fv cv cs hcnt a2 jr hbig hms hle t o1 o2 hln hst him hif hic hin nq wq jq j1 K1 a1 K0 a0 w2 hS2 kt2 hb2 hbq hnb hko
  subst hko
  have hI := hin.out (by decide)
  have hst2 := hst.out
  rw [hI] at hst2 hms hle
  simp only at hst2 hms hle
  clear hI hst him hif hic hin hln kt2 hnb
  have HK2 := Lib.hid hst2.symm
  replace hms := Lib.hid hms
  clear hst2
  obtain ⟨i3, hP3⟩ := hS2.at_
  go_wp2_with fail
  refine (wrong_any hP3 4).mono ?_
  rintro e v3 ⟨rfl, hA3, hF3⟩
  have hS3 := hS2.call hF3 ⟨_, hA3⟩
  go_wp2_with fail
  go_roundg (meas (R.wrong 4 o2))
  case measure => exact hms.out
  case rel => exact ⟨p, R.wrong 4 o2, mv, fv, cv, cs, hS3, by omega, rfl, HK2⟩
end Go.Proofs.YtcgkfgklggjmaaaDoor.Par
end
section
namespace Go.Proofs.YtcgkfgklggjmaaaDoor.Par
open Go.RowKit
/-- the reference's Parse -/
theorem rparse7_any (s : ByteArray) (w : World) (hs : s.size ≤ 9223372036854775807) :
    Calls Tryd.prog 16 #[.string s] w (ParseOut w s.data.toList) :=
  (parsY s w hs).ok ⟨fun k hk => by
    rcases hk with rfl | rfl | rfl | rfl
    · exact branchY_m s w hs
    · exact branchY_f s w hs
    · exact branchY_c s w hs
    · exact branchY_n s w hs⟩
end Go.Proofs.YtcgkfgklggjmaaaDoor.Par
end
section
namespace Go.Proofs.YtcgkfgklggjmaaaDoor.Par
open Go.RowKit
/-- ShowParts answers true, of any text -/
theorem showParts8 (s : ByteArray) (w : World) (hD : Dec.GT w) (hs : s.size ≤ 9223372036854775807) :
    Calls Tryd.prog 5 #[.string s] w fun e w' => e = .returned (.bool true) ∧ Below w.heap.size w w' := showParts_any (fun s w hs => rparse7_any s w hs) s w hD hs
end Go.Proofs.YtcgkfgklggjmaaaDoor.Par
end
