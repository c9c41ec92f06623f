import Derived.Test.YtcgkfgklggjmaaaDoorGd
import Derived.Deep.RegionLaw
import Derived.KernelRfl
import Derived.Lib.ItoaLen
import Derived.Laws.BytesArg
section
namespace Go.Proofs.YtcgkfgklggjmaaaDoor.Par
set_option linter.unusedVariables false
set_option linter.unusedSimpArgs false
open Go.RowKit
theorem P_item_met {p : Plan} {s : St} {o : Int × St} (h : P.one [wMeter, wFee, wCharge] 0 s = o) (h1 : o.1 = 0) : P.item dp npV p s = ({ p with mets := p.mets ++ [(P.meter npV (peek s).line (peek s).col o.2).1] }, (P.meter npV (peek s).line (peek s).col o.2).2) := by
  subst h; unfold P.item; simp only; rw [if_pos h1]
theorem P_item_fee {p : Plan} {s : St} {o : Int × St} (h : P.one [wMeter, wFee, wCharge] 0 s = o) (h1 : o.1 = 1) : P.item dp npV p s = ({ p with fees := p.fees ++ [(P.fee dp npV (peek s).line (peek s).col o.2).1] }, (P.fee dp npV (peek s).line (peek s).col o.2).2) := by
  subst h; unfold P.item; simp only; rw [if_neg (by omega), if_pos h1]
theorem P_item_chg {p : Plan} {s : St} {o : Int × St} (h : P.one [wMeter, wFee, wCharge] 0 s = o) (h1 : o.1 = 2) : P.item dp npV p s = ({ p with chgs := p.chgs ++ [(P.charge dp npV (peek s).line (peek s).col o.2).1] }, (P.charge dp npV (peek s).line (peek s).col o.2).2) := by
  subst h; unfold P.item; simp only; rw [if_neg (by omega), if_neg (by omega), if_pos h1]
theorem P_item_none {p : Plan} {s : St} {o : Int × St} (h : P.one [wMeter, wFee, wCharge] 0 s = o) (h1 : o.1 < 0) : P.item dp npV p s = (p, P.must [wSemi] (fail 4 (peek s) o.2)) := by
  subst h; unfold P.item; simp only; rw [if_neg (by omega), if_neg (by omega), if_neg (by omega)]
theorem puts_setRow {g : Nat} {T : TypeId} : ∀ (vs : List Value) (k : Nat) (cur : Array Value) (w : World), Blk w g T cur → vs ≠ [] → puts w g k vs = w.setRow g (setsA cur k vs)
  | [], _, _, _, _, h => absurd rfl h
  | [v], k, cur, w, hb, _ => setCell_eq_setRow w g k cur T (0, 0) v hb
  | v :: u :: vs, k, cur, w, hb, _ => by
    have h1 := puts_setRow (u :: vs) (k + 1) (cur.setIfInBounds k v) (w.setCell ⟨g, k, none⟩ v) (hb.set_ k v) (by simp)
    rw [puts, h1, setCell_eq_setRow w g k cur T (0, 0) v hb, setRow_setRow]
    rfl
theorem run_puts (w : World) (g : Nat) (T : TypeId) (old : Array Value) (new : List Value) (hb : Blk w g T old) (hn : new ≠ []) (hs : setsA old 0 new = new.toArray) (hl : new.length = old.size) (h1 : ∀ v ∈ new, v.oneCell' = true) : (storeCells ⟨g, 0, none⟩ new).run Tryd.prog w = .ok () (puts w g 0 new) := by
  have hq := run_storeCells_from (P := Tryd.prog) g T new 0 old w hb (by rw [Nat.zero_add]; exact hl) h1
  rw [puts_setRow new 0 old w hb hn, hs]
  simpa using hq
set_option maxHeartbeats 16000000 in
set_option maxRecDepth 100000 in
theorem item_any {w0 w : World} {b O : Nat} {ts : List Tok} {r cap : Nat} {s : St} {p : Plan} {mv fv cv : Value} {cs : List CT} (h : PS w0 b O ts r cap w s p mv fv cv cs) (hT : TK ts cap) (hD : Dec.DT w0) (hcnt : p.mets.length + p.fees.length + cs.length < 100000) :
    Calls Tryd.prog 53 #[.pointer (some ⟨b, 0, none⟩), .pointer (some ⟨O, 0, none⟩)] w fun en w' => en = .returned (.tuple #[]) ∧ ∃ mv' fv' cv' cs', PS w0 b O ts r cap w' (P.item dp npV p s).2 (P.item dp npV p s).1 mv' fv' cv' cs' := by
  have hlb := hT.lb
  have hcb := hT.capb
  obtain ⟨I, hI⟩ : ∃ I, I = P.item dp npV p s := ⟨_, rfl⟩
  rw [← hI]
  have hpk := fun v i (h : PAt v b ts r cap i s) => peek_any h hlb hcb
  have hea := fun v i (x : ByteArray) (h : PAt v b ts r cap i s) => eat_any h hlb hcb x
  generalize ht : peek s = t at *
  unfold tokV at hpk
  cases c0 : (P.eat wMeter s).1 with
  | true =>
    obtain ⟨i0, hP0⟩ := h.at_
    have hpk0 := hpk _ _ hP0
    have e1 : P.one [wMeter, wFee, wCharge] 0 s = (0, (P.eat wMeter s).2) := by rw [pone_hit _ _ _ _ c0] <;> rfl
    rw [P_item_met e1 rfl, ht] at hI
    clear e1
    have ea0 := fun v i (h : PAt v b ts r cap i s) => hea v i wMeter h
    rw [c0] at ea0
    clear hea hpk
    generalize P.eat wMeter s = u at *
    obtain ⟨u1, u2⟩ := u
    simp only at ea0 hI
    replace ea0 := Lib.hid ea0
    unfold P.meter at hI
    simp only at hI
    have a1 := fun v i (h : PAt v b ts r cap i u2) => kind_any h hlb hcb 1
    generalize P.kind 1 u2 = m at *
    obtain ⟨m1, m2⟩ := m
    simp only at hI a1
    replace a1 := Lib.hid a1
    have a2 := fun v i (h : PAt v b ts r cap i m2) => must1 h hT wUnit
    generalize P.must [wUnit] m2 = m3 at *
    generalize peek m2 = tk1 at *
    unfold tokV at a2
    replace a2 := Lib.hid a2
    have a3 := fun v i (h : PAt v b ts r cap i m3) => kind_any h hlb hcb 1
    generalize P.kind 1 m3 = y at *
    obtain ⟨y1, y2⟩ := y
    simp only at hI a3
    replace a3 := Lib.hid a3
    have a4 := fun v i (h : PAt v b ts r cap i y2) => must1 h hT wMax
    generalize P.must [wMax] y2 = m4 at *
    generalize peek y2 = tk2 at *
    unfold tokV at a4
    replace a4 := Lib.hid a4
    have a5 := fun v i (h : PAt v b ts r cap i m4) (hD : Dec.DT v) => number_any h hT hD 0 2000
    generalize P.number npV 0 2000 m4 = x at *
    obtain ⟨x1, x2⟩ := x
    simp only at hI a5
    replace a5 := Lib.hid a5
    have a6 := fun v i (h : PAt v b ts r cap i x2) => must1 h hT wSemi
    generalize P.must [wSemi] x2 = su at *
    generalize peek x2 = tk3 at *
    unfold tokV at a6
    replace a6 := Lib.hid a6
    subst hI
    go_enter Tryd.func53, Tryd.ntmps53
    go_wp2_with fail
    refine hpk0.mono ?_
    rintro e w1 ⟨rfl, hb1⟩
    have hS1 := (h.below hb1).alloc (.cells #[.int .i64 t.kind, .string t.text, .int .i64 t.line, .int .i64 t.col] 102)
    have kt1 := Blk.new w1 102 #[.int .i64 t.kind, .string t.text, .int .i64 t.line, .int .i64 t.col]
    have hlw := (h.below hb1).lt
    have hbw : b < w1.heap.size := by obtain ⟨j, hj⟩ := (h.below hb1).at_; exact hj.blk.lt
    clear hpk0 hP0 hb1
    obtain ⟨i2, hP2⟩ := hS1.at_
    go_wp2_with fail
    refine (ea0.out _ _ hP2).mono ?_
    rintro e v2 ⟨rfl, hA2, hF2⟩
    have hS2 := hS1.call hF2 hA2
    have kM2 := hF2.blk kt1 (by omega)
    clear hP2 hA2 hF2
    have hSx : PS w0 b O ts r cap v2 u2 p mv fv cv cs := hS2
    have kt2 : Blk v2 w1.heap.size 102 #[.int .i64 t.kind, .string t.text, .int .i64 t.line, .int .i64 t.col] := kM2
    have hnb := fun g (h : blocks mv fv cv cs g) => hSx.rows.lt h
    replace hnb := Lib.hid hnb
    clear hS1 hS2 kt1 kM2 ea0 h
    go_upto_region 3 with fail
    go_cut [5] (fun vM wx => ∃ M, vM = .pointer (some ⟨M, 0, none⟩) ∧ PS w0 b O ts r cap wx m2 p mv fv cv cs ∧ Blk wx M 44 #[.string m1, .string ⟨#[]⟩, .int .i64 0, .int .i64 t.line, .int .i64 t.col] ∧ v2.heap.size ≤ M)
    case first =>
      obtain ⟨k0, k1, k2, k3, _⟩ := kt2.c4
      have hA2 : PS w0 b O ts r cap v2.drew u2 p mv fv cv cs := hSx.drew
      have hB2 : PS w0 b O ts r cap (v2.alloc (.cells #[.string ⟨#[]⟩, .string ⟨#[]⟩, .int .i64 0, .int .i64 0, .int .i64 0] 44)).drew u2 p mv fv cv cs := (hSx.alloc (.cells #[.string ⟨#[]⟩, .string ⟨#[]⟩, .int .i64 0, .int .i64 0, .int .i64 0] 44)).drew
      have kA2 : Blk v2.drew w1.heap.size 102 #[.int .i64 t.kind, .string t.text, .int .i64 t.line, .int .i64 t.col] := kt2.drew
      have kB2 : Blk (v2.alloc (.cells #[.string ⟨#[]⟩, .string ⟨#[]⟩, .int .i64 0, .int .i64 0, .int .i64 0] 44)).drew w1.heap.size 102 #[.int .i64 t.kind, .string t.text, .int .i64 t.line, .int .i64 t.col] := (kt2.alloc (.cells #[.string ⟨#[]⟩, .string ⟨#[]⟩, .int .i64 0, .int .i64 0, .int .i64 0] 44)).drew
      have kM2b : Blk (v2.alloc (.cells #[.string ⟨#[]⟩, .string ⟨#[]⟩, .int .i64 0, .int .i64 0, .int .i64 0] 44)).drew v2.heap.size 44 #[.string ⟨#[]⟩, .string ⟨#[]⟩, .int .i64 0, .int .i64 0, .int .i64 0] := (Blk.new v2 44 #[.string ⟨#[]⟩, .string ⟨#[]⟩, .int .i64 0, .int .i64 0, .int .i64 0]).drew
      have hl2 := kt2.lt
      have hp := fun W (h : PS w0 b O ts r cap W u2 p mv fv cv cs) => (fun hA => a1.out W _ hA.choose_spec) h.at_
      replace hp := Lib.hid hp
      clear a1
      have k2d : v2.drew.cell? ⟨w1.heap.size, 2, none⟩ = some (.int .i64 t.line) := k2
      have k3d : v2.drew.cell? ⟨w1.heap.size, 3, none⟩ = some (.int .i64 t.col) := k3
      have l2d : w1.heap.size < v2.drew.heap.size := hl2
      obtain ⟨_, _, k2b, k3b, _⟩ := kB2.c4
      have l2b := kB2.lt
      go_region_held3 (fun w' => w'.cell? ⟨w1.heap.size, 2, none⟩ = some (.int .i64 t.line) ∧ w'.cell? ⟨w1.heap.size, 3, none⟩ = some (.int .i64 t.col) ∧ w1.heap.size < w'.heap.size)
        (refine ⟨?_, ?_, ?_⟩ <;> with_reducible assumption)
        ((go_at_call 50; refine (hp.out _ (by with_reducible assumption)).mono ?_; rintro e w3 ⟨rfl, hA3, hF3⟩; (have kt3 : Blk w3 w1.heap.size 102 #[.int .i64 t.kind, .string t.text, .int .i64 t.line, .int .i64 t.col] := hF3.blk (by with_reducible assumption) (by omega)); obtain ⟨j0_, j1_, j2_, j3_, _⟩ := kt3.c4; (have hl3 := kt3.lt); (have kt3a := kt3.alloc (.cells #[.string ⟨#[]⟩, .string ⟨#[]⟩, .int .i64 0, .int .i64 0, .int .i64 0] 44)); obtain ⟨_, _, a2_, a3_, _⟩ := kt3a.c4; (have la_ := kt3a.lt); (have kt3b := kt3.alloc (.cells #[.string m1, .string ⟨#[]⟩, .int .i64 0, .int .i64 t.line, .int .i64 t.col] 44)); obtain ⟨_, _, b2_, b3_, _⟩ := kt3b.c4; (have lb_ := kt3b.lt); (try ((have kM3 : Blk w3 v2.heap.size 44 #[.string ⟨#[]⟩, .string ⟨#[]⟩, .int .i64 0, .int .i64 0, .int .i64 0] := hF3.blk (by with_reducible assumption) (by omega)); obtain ⟨s0_, s1_, s2_, s3_, s4_, r0_, r1_, r2_, r3_, r4_⟩ := kM3.c5; (have hlM3 := kM3.lt); (have kP3 : Blk (((((w3.setCell ⟨v2.heap.size, 0, none⟩ (.string m1)).setCell ⟨v2.heap.size, 1, none⟩ (.string ⟨#[]⟩)).setCell ⟨v2.heap.size, 2, none⟩ (.int .i64 0)).setCell ⟨v2.heap.size, 3, none⟩ (.int .i64 t.line)).setCell ⟨v2.heap.size, 4, none⟩ (.int .i64 t.col)) w1.heap.size 102 #[.int .i64 t.kind, .string t.text, .int .i64 t.line, .int .i64 t.col] := kt3.putsFar (g' := v2.heap.size) (by omega) 0 [.string m1, .string ⟨#[]⟩, .int .i64 0, .int .i64 t.line, .int .i64 t.col]); obtain ⟨_, _, c2_, c3_, _⟩ := kP3.c4; (have lc_ := kP3.lt)))))
      all_goals
        have hsz3 := hF3.size
        go_wp2_with fail
        go_meet
        first
          | exact ⟨w3.heap.size, rfl, (hA2.call hF3 hA3).alloc _, Blk.new _ _ _, hsz3⟩
          | exact ⟨v2.heap.size, rfl, (hB2.call hF3 hA3).putM kM3 (by decide) (by decide) (by decide) (by decide) hSx.bl.size (fun h => by have := hnb.out _ h; omega) 0 [.string m1, .string ⟨#[]⟩, .int .i64 0, .int .i64 t.line, .int .i64 t.col], kM3.putAll [.string m1, .string ⟨#[]⟩, .int .i64 0, .int .i64 t.line, .int .i64 t.col] 0, Nat.le_refl _⟩
    case rest =>
      obtain ⟨M, rfl, hS30, kM30, hM⟩ := hcut
      have hnM : ¬ blocks mv fv cv cs M := fun h => by have := hnb.out M h; omega
      have hlx := hSx.bl.size
      have hlt2 := kt2.lt
      clear hSx kt2 a1 hnb
      obtain ⟨i31, hP31⟩ := hS30.at_
      go_wp2_with fail
      refine (a2.out _ _ hP31 _ (by simp [puts, World.setCell])).mono ?_
      rintro e v31 ⟨rfl, hA31, hF31⟩
      have hS31 := hS30.call hF31 hA31
      have kM31 := hF31.blk kM30 (by omega)
      clear hP31 hA31 hF31
      obtain ⟨i32, hP32⟩ := hS31.at_
      go_wp2_with fail
      refine (a3.out _ _ hP32).mono ?_
      rintro e v32 ⟨rfl, hA32, hF32⟩
      have hS32 := hS31.call hF32 hA32
      have kM32 := hF32.blk kM31 (by omega)
      clear hP32 hA32 hF32
      obtain ⟨s0_, s1_, s2_, s3_, s4_, r0_, r1_, r2_, r3_, r4_⟩ := kM32.c5
      have hlM33 := kM32.lt
      have hS33 := hS32.putM kM32 (by decide) (by decide) (by decide) (by decide) (by have := hS32.bl.size; omega) hnM 1 [.string y1]
      have kM33 : Blk _ M 44 #[.string m1, .string y1, .int .i64 0, .int .i64 t.line, .int .i64 t.col] := kM32.putAll [.string y1] 1
      obtain ⟨i34, hP34⟩ := hS33.at_
      go_wp2_with fail
      refine (a4.out _ _ hP34 _ (by simp [puts, World.setCell])).mono ?_
      rintro e v34 ⟨rfl, hA34, hF34⟩
      have hS34 := hS33.call hF34 hA34
      have kM34 := hF34.blk kM33 (by omega)
      clear hP34 hA34 hF34
      clear s0_ s1_ s2_ s3_ s4_ r0_ r1_ r2_ r3_ r4_
      obtain ⟨i35, hP35⟩ := hS34.at_
      go_wp2_with fail
      refine (a5.out _ _ hP35 (hD.below hS34.bl)).mono ?_
      rintro e v35 ⟨rfl, hA35, hF35⟩
      have hS35 := hS34.call hF35 hA35
      have kM35 := hF35.blk kM34 (by omega)
      clear hP35 hA35 hF35
      obtain ⟨s0_, s1_, s2_, s3_, s4_, r0_, r1_, r2_, r3_, r4_⟩ := kM35.c5
      have hlM36 := kM35.lt
      have hS36 := hS35.putM kM35 (by decide) (by decide) (by decide) (by decide) (by have := hS35.bl.size; omega) hnM 2 [.int .i64 x1]
      have kM36 : Blk _ M 44 #[.string m1, .string y1, .int .i64 x1, .int .i64 t.line, .int .i64 t.col] := kM35.putAll [.int .i64 x1] 2
      obtain ⟨q8, q8'⟩ := hS35.cell 8 mv rfl
      have hlS := hS35.lt
      have hMO : M ≠ O := Blk.ne_ kM36 hS36.ob (by decide)
      have hS50 := (hS36.alloc (.cells #[.string m1, .string y1, .int .i64 x1, .int .i64 t.line, .int .i64 t.col] 44)).drew
      have hnew : ((puts v35 M 2 [.int .i64 x1]).alloc (.cells #[.string m1, .string y1, .int .i64 x1, .int .i64 t.line, .int .i64 t.col] 44)).drew.heap[v35.heap.size]? = some (.cells #[.string m1, .string y1, .int .i64 x1, .int .i64 t.line, .int .i64 t.col] 44) := by
        have hq := heap_alloc_new (puts v35 M 2 [.int .i64 x1]) (.cells #[.string m1, .string y1, .int .i64 x1, .int .i64 t.line, .int .i64 t.col] 44)
        rwa [(puts_heap [.int .i64 x1] v35 2).2.1] at hq
      have hsz50 := hS50.bl.size
      obtain ⟨iM, hM0, hM1, hM2, hM3⟩ := info_parts metInfo
      go_wp2_with fail
      go_region_law (refine step_append_lies _ rfl (.tmp 38) (.tmp 40) 25 rfl w0.heap.size 44 iM _ 5 56 Tryd.underlying25 hM0 hM1 hM2 hM3 rfl (by decide) _ _ _ rfl hS50.rows.mo ⟨v35.heap.size, 0, none⟩ 1 1 [.string m1, .string y1, .int .i64 x1, .int .i64 t.line, .int .i64 t.col] rfl rfl (World.news_of_block (cs := #[.string m1, .string y1, .int .i64 x1, .int .i64 t.line, .int .i64 t.col]) (t := 44) (fr := (0, 0)) hnew) (by simp [Value.oneCell']) (by decide) (by unfold maxLen; omega) (by omega) hsz50 _ rfl ?_; intro g cp w10 hown10 hgrow10 hat10 hlt10; obtain ⟨hob10, hS51⟩ := hS50.addMet (m := ⟨m1, y1, x1, t.line, t.col⟩) hgrow10 hown10; (have n8 : w10.cell? ⟨O, 8, none⟩ = some mv := hob10.cell 8); (have n8' := hob10.frozen 8); have hl10 := hob10.lt)
      all_goals
        obtain ⟨i60, hP60⟩ := hS51.at_
        go_wp2_with fail
        refine (a6.out _ _ hP60 _ (by simp [puts, World.setCell])).mono ?_
        rintro e w11 ⟨rfl, hA11, hF11⟩
        go_wp2_with fail
        go_end0
        exact ⟨rfl, _, fv, cv, cs, hS51.call hF11 hA11⟩
  | false =>
    cases c1 : (P.eat wFee s).1 with
    | true =>
      obtain ⟨i0, hP0⟩ := h.at_
      have hpk0 := hpk _ _ hP0
      have e1 : P.one [wMeter, wFee, wCharge] 0 s = (1, (P.eat wFee s).2) := by rw [pone_drop _ _ _ _ c0, pone_hit _ _ _ _ c1] <;> rfl
      rw [P_item_fee e1 rfl, ht] at hI
      clear e1
      have ea0 := fun v i (h : PAt v b ts r cap i s) => hea v i wMeter h
      rw [c0, eat_no c0] at ea0
      have ea1 := fun v i (h : PAt v b ts r cap i s) => hea v i wFee h
      rw [c1] at ea1
      clear hea hpk
      generalize P.eat wFee s = u at *
      obtain ⟨u1, u2⟩ := u
      simp only at ea1 hI
      replace ea0 := Lib.hid ea0
      replace ea1 := Lib.hid ea1
      unfold P.fee at hI
      simp only at hI
      have a1 := fun v i (h : PAt v b ts r cap i u2) (hD : Dec.DT v) => number_any h hT hD 0 1000000000000
      generalize P.number npV 0 1000000000000 u2 = x at *
      obtain ⟨x1, x2⟩ := x
      simp only at hI a1
      replace a1 := Lib.hid a1
      have a2 := fun v i (h : PAt v b ts r cap i x2) => window_any h hT
      generalize P.window dp x2 = y at *
      obtain ⟨y1, y2⟩ := y
      simp only at hI a2
      replace a2 := Lib.hid a2
      have a3 := fun v i (h : PAt v b ts r cap i y2) => must1 h hT wSemi
      generalize P.must [wSemi] y2 = su at *
      generalize peek y2 = tk3 at *
      unfold tokV at a3
      replace a3 := Lib.hid a3
      replace a2 := a2.out
      unfold winV at a2
      replace a2 := Lib.hid a2
      subst hI
      go_enter Tryd.func53, Tryd.ntmps53
      go_wp2_with fail
      refine hpk0.mono ?_
      rintro e w1 ⟨rfl, hb1⟩
      have hS1 := (h.below hb1).alloc (.cells #[.int .i64 t.kind, .string t.text, .int .i64 t.line, .int .i64 t.col] 102)
      have kt1 := Blk.new w1 102 #[.int .i64 t.kind, .string t.text, .int .i64 t.line, .int .i64 t.col]
      have hlw := (h.below hb1).lt
      have hbw : b < w1.heap.size := by obtain ⟨j, hj⟩ := (h.below hb1).at_; exact hj.blk.lt
      clear hpk0 hP0 hb1
      obtain ⟨i2, hP2⟩ := hS1.at_
      go_wp2_with fail
      refine (ea0.out _ _ hP2).mono ?_
      rintro e v2 ⟨rfl, hA2, hF2⟩
      have hS2 := hS1.call hF2 hA2
      have kM2 := hF2.blk kt1 (by omega)
      clear hP2 hA2 hF2
      obtain ⟨i3, hP3⟩ := hS2.at_
      go_wp2_with fail
      refine (ea1.out _ _ hP3).mono ?_
      rintro e v3 ⟨rfl, hA3, hF3⟩
      have hS3 := hS2.call hF3 hA3
      have kM3 := hF3.blk kM2 (by omega)
      clear hP3 hA3 hF3
      have hSx : PS w0 b O ts r cap v3 u2 p mv fv cv cs := hS3
      have kt2 : Blk v3 w1.heap.size 102 #[.int .i64 t.kind, .string t.text, .int .i64 t.line, .int .i64 t.col] := kM3
      have hnb := fun g (h : blocks mv fv cv cs g) => hSx.rows.lt h
      replace hnb := Lib.hid hnb
      clear hS1 hS2 hS3 kt1 kM2 kM3 ea0 ea1 h
      go_upto_region 10 with fail
      go_cut [6] (fun vM wx => ∃ M, vM = .pointer (some ⟨M, 0, none⟩) ∧ PS w0 b O ts r cap wx x2 p mv fv cv cs ∧ Blk wx M 48 #[.int .i64 x1, .bool false, .int .i64 0, .int .i64 0, .int .i64 0, .int .i64 0, .int .i64 0, .int .i64 0, .int .i64 t.line, .int .i64 t.col] ∧ v3.heap.size ≤ M)
      case first =>
        obtain ⟨k0, k1, k2, k3, _⟩ := kt2.c4
        have hA2 : PS w0 b O ts r cap v3.drew u2 p mv fv cv cs := hSx.drew
        have hB2 : PS w0 b O ts r cap (v3.alloc (.cells #[.int .i64 0, .bool false, .int .i64 0, .int .i64 0, .int .i64 0, .int .i64 0, .int .i64 0, .int .i64 0, .int .i64 0, .int .i64 0] 48)).drew u2 p mv fv cv cs := (hSx.alloc (.cells #[.int .i64 0, .bool false, .int .i64 0, .int .i64 0, .int .i64 0, .int .i64 0, .int .i64 0, .int .i64 0, .int .i64 0, .int .i64 0] 48)).drew
        have kA2 : Blk v3.drew w1.heap.size 102 #[.int .i64 t.kind, .string t.text, .int .i64 t.line, .int .i64 t.col] := kt2.drew
        have kB2 : Blk (v3.alloc (.cells #[.int .i64 0, .bool false, .int .i64 0, .int .i64 0, .int .i64 0, .int .i64 0, .int .i64 0, .int .i64 0, .int .i64 0, .int .i64 0] 48)).drew w1.heap.size 102 #[.int .i64 t.kind, .string t.text, .int .i64 t.line, .int .i64 t.col] := (kt2.alloc (.cells #[.int .i64 0, .bool false, .int .i64 0, .int .i64 0, .int .i64 0, .int .i64 0, .int .i64 0, .int .i64 0, .int .i64 0, .int .i64 0] 48)).drew
        have kM2b : Blk (v3.alloc (.cells #[.int .i64 0, .bool false, .int .i64 0, .int .i64 0, .int .i64 0, .int .i64 0, .int .i64 0, .int .i64 0, .int .i64 0, .int .i64 0] 48)).drew v3.heap.size 48 #[.int .i64 0, .bool false, .int .i64 0, .int .i64 0, .int .i64 0, .int .i64 0, .int .i64 0, .int .i64 0, .int .i64 0, .int .i64 0] := (Blk.new v3 48 #[.int .i64 0, .bool false, .int .i64 0, .int .i64 0, .int .i64 0, .int .i64 0, .int .i64 0, .int .i64 0, .int .i64 0, .int .i64 0]).drew
        have hl2 := kt2.lt
        have hp := fun W (h : PS w0 b O ts r cap W u2 p mv fv cv cs) => (fun hA => a1.out W _ hA.choose_spec (hD.below h.bl)) h.at_
        replace hp := Lib.hid hp
        clear a1
        have k2d : v3.drew.cell? ⟨w1.heap.size, 2, none⟩ = some (.int .i64 t.line) := k2
        have k3d : v3.drew.cell? ⟨w1.heap.size, 3, none⟩ = some (.int .i64 t.col) := k3
        have l2d : w1.heap.size < v3.drew.heap.size := hl2
        obtain ⟨_, _, k2b, k3b, _⟩ := kB2.c4
        have l2b := kB2.lt
        have hsets : setsA #[.int .i64 0, .bool false, .int .i64 0, .int .i64 0, .int .i64 0, .int .i64 0, .int .i64 0, .int .i64 0, .int .i64 0, .int .i64 0] 0 [.int .i64 x1, .bool false, .int .i64 0, .int .i64 0, .int .i64 0, .int .i64 0, .int .i64 0, .int .i64 0, .int .i64 t.line, .int .i64 t.col] = #[.int .i64 x1, .bool false, .int .i64 0, .int .i64 0, .int .i64 0, .int .i64 0, .int .i64 0, .int .i64 0, .int .i64 t.line, .int .i64 t.col] := by simp [setsA]
        replace hsets := Lib.hid hsets
        go_region_held3 (fun w' => w'.cell? ⟨w1.heap.size, 2, none⟩ = some (.int .i64 t.line) ∧ w'.cell? ⟨w1.heap.size, 3, none⟩ = some (.int .i64 t.col) ∧ w1.heap.size < w'.heap.size)
          (refine ⟨?_, ?_, ?_⟩ <;> with_reducible assumption)
          ((go_at_call 91; refine (hp.out _ (by with_reducible assumption)).mono ?_; rintro e w3 ⟨rfl, hA3, hF3⟩; (have kt3 : Blk w3 w1.heap.size 102 #[.int .i64 t.kind, .string t.text, .int .i64 t.line, .int .i64 t.col] := hF3.blk (by with_reducible assumption) (by omega)); obtain ⟨j0_, j1_, j2_, j3_, _⟩ := kt3.c4; (have hl3 := kt3.lt); (have kt3a := kt3.alloc (.cells #[.int .i64 0, .bool false, .int .i64 0, .int .i64 0, .int .i64 0, .int .i64 0, .int .i64 0, .int .i64 0, .int .i64 0, .int .i64 0] 48)); obtain ⟨_, _, a2_, a3_, _⟩ := kt3a.c4; (have la_ := kt3a.lt); (have kt3b := kt3.alloc (.cells #[.int .i64 x1, .bool false, .int .i64 0, .int .i64 0, .int .i64 0, .int .i64 0, .int .i64 0, .int .i64 0, .int .i64 t.line, .int .i64 t.col] 48)); obtain ⟨_, _, b2_, b3_, _⟩ := kt3b.c4; (have lb_ := kt3b.lt); (try ((have kM3 : Blk w3 v3.heap.size 48 #[.int .i64 0, .bool false, .int .i64 0, .int .i64 0, .int .i64 0, .int .i64 0, .int .i64 0, .int .i64 0, .int .i64 0, .int .i64 0] := hF3.blk (by with_reducible assumption) (by omega)); obtain ⟨s0_, s1_, s2_, s3_, s4_, s5_, s6_, s7_, s8_, s9_, r0_, r1_, r2_, r3_, r4_, r5_, r6_, r7_, r8_, r9_⟩ := kM3.c10; (have hlM3 := kM3.lt); (have kP3 := kt3.putsFar (g' := v3.heap.size) (by omega) 0 [.int .i64 x1, .bool false, .int .i64 0, .int .i64 0, .int .i64 0, .int .i64 0, .int .i64 0, .int .i64 0, .int .i64 t.line, .int .i64 t.col]); simp only [puts, Nat.zero_add, Nat.reduceAdd] at kP3; obtain ⟨_, _, c2_, c3_, _⟩ := kP3.c4; (have lc_ := kP3.lt)))))
        all_goals
          have hsz3 := hF3.size
          go_wp2_with fail
          go_meet
          first
            | exact ⟨w3.heap.size, rfl, (hA2.call hF3 hA3).alloc _, Blk.new _ _ _, hsz3⟩
            | (have q1 := (hB2.call hF3 hA3).putM kM3 (by decide) (by decide) (by decide) (by decide) hSx.bl.size (fun h => by have := hnb.out _ h; omega) 0 [.int .i64 x1, .bool false, .int .i64 0, .int .i64 0, .int .i64 0, .int .i64 0, .int .i64 0, .int .i64 0, .int .i64 t.line, .int .i64 t.col]; have q2 := kM3.putAll [.int .i64 x1, .bool false, .int .i64 0, .int .i64 0, .int .i64 0, .int .i64 0, .int .i64 0, .int .i64 0, .int .i64 t.line, .int .i64 t.col] 0; rw [hsets.out] at q2; simp only [puts, Nat.zero_add, Nat.reduceAdd] at q1 q2; exact ⟨v3.heap.size, rfl, q1, q2, Nat.le_refl _⟩)
      case rest =>
        obtain ⟨M, rfl, hS30, kM30, hM⟩ := hcut
        have hnM : ¬ blocks mv fv cv cs M := fun h => by have := hnb.out M h; omega
        have hlx := hSx.bl.size
        have hlt2 := kt2.lt
        clear hSx kt2 a1 hnb
        obtain ⟨i31, hP31⟩ := hS30.at_
        go_wp2_with fail
        refine (a2.out _ _ hP31).mono ?_
        rintro e v31 ⟨rfl, hA31, hF31⟩
        have hS31 := hS30.call hF31 hA31
        have kM31 := hF31.blk kM30 (by omega)
        clear hP31 hA31 hF31
        obtain ⟨s0_, s1_, s2_, s3_, s4_, s5_, s6_, s7_, s8_, s9_, r0_, r1_, r2_, r3_, r4_, r5_, r6_, r7_, r8_, r9_⟩ := kM31.c10
        have hlM32 := kM31.lt
        have hS32 := hS31.putM kM31 (by decide) (by decide) (by decide) (by decide) (by have := hS31.bl.size; omega) hnM 1 [.bool y1.has, .int .i64 y1.from_.1, .int .i64 y1.from_.2.1, .int .i64 y1.from_.2.2, .int .i64 y1.to_.1, .int .i64 y1.to_.2.1, .int .i64 y1.to_.2.2]
        have kM32 : Blk _ M 48 #[.int .i64 x1, .bool y1.has, .int .i64 y1.from_.1, .int .i64 y1.from_.2.1, .int .i64 y1.from_.2.2, .int .i64 y1.to_.1, .int .i64 y1.to_.2.1, .int .i64 y1.to_.2.2, .int .i64 t.line, .int .i64 t.col] := kM31.putAll [.bool y1.has, .int .i64 y1.from_.1, .int .i64 y1.from_.2.1, .int .i64 y1.from_.2.2, .int .i64 y1.to_.1, .int .i64 y1.to_.2.1, .int .i64 y1.to_.2.2] 1
        obtain ⟨q8, q8'⟩ := hS31.cell 9 fv rfl
        have hlS := hS31.lt
        have hMO : M ≠ O := Blk.ne_ kM32 hS32.ob (by decide)
        have hS50 := (hS32.alloc (.cells #[.int .i64 x1, .bool y1.has, .int .i64 y1.from_.1, .int .i64 y1.from_.2.1, .int .i64 y1.from_.2.2, .int .i64 y1.to_.1, .int .i64 y1.to_.2.1, .int .i64 y1.to_.2.2, .int .i64 t.line, .int .i64 t.col] 48)).drew
        have hnew : ((puts v31 M 1 [.bool y1.has, .int .i64 y1.from_.1, .int .i64 y1.from_.2.1, .int .i64 y1.from_.2.2, .int .i64 y1.to_.1, .int .i64 y1.to_.2.1, .int .i64 y1.to_.2.2]).alloc (.cells #[.int .i64 x1, .bool y1.has, .int .i64 y1.from_.1, .int .i64 y1.from_.2.1, .int .i64 y1.from_.2.2, .int .i64 y1.to_.1, .int .i64 y1.to_.2.1, .int .i64 y1.to_.2.2, .int .i64 t.line, .int .i64 t.col] 48)).drew.heap[v31.heap.size]? = some (.cells #[.int .i64 x1, .bool y1.has, .int .i64 y1.from_.1, .int .i64 y1.from_.2.1, .int .i64 y1.from_.2.2, .int .i64 y1.to_.1, .int .i64 y1.to_.2.1, .int .i64 y1.to_.2.2, .int .i64 t.line, .int .i64 t.col] 48) := by
          have hq := heap_alloc_new (puts v31 M 1 [.bool y1.has, .int .i64 y1.from_.1, .int .i64 y1.from_.2.1, .int .i64 y1.from_.2.2, .int .i64 y1.to_.1, .int .i64 y1.to_.2.1, .int .i64 y1.to_.2.2]) (.cells #[.int .i64 x1, .bool y1.has, .int .i64 y1.from_.1, .int .i64 y1.from_.2.1, .int .i64 y1.from_.2.2, .int .i64 y1.to_.1, .int .i64 y1.to_.2.1, .int .i64 y1.to_.2.2, .int .i64 t.line, .int .i64 t.col] 48)
          rwa [(puts_heap [.bool y1.has, .int .i64 y1.from_.1, .int .i64 y1.from_.2.1, .int .i64 y1.from_.2.2, .int .i64 y1.to_.1, .int .i64 y1.to_.2.1, .int .i64 y1.to_.2.2] v31 1).2.1] at hq
        have hsz50 := hS50.bl.size
        obtain ⟨iM, hM0, hM1, hM2, hM3⟩ := info_parts feeInfo
        go_wp2_with fail
        go_region_law (refine step_append_lies _ rfl (.tmp 61) (.tmp 63) 26 rfl w0.heap.size 48 iM _ 10 80 Tryd.underlying26 hM0 hM1 hM2 hM3 rfl (by decide) _ _ _ rfl hS50.rows.fo ⟨v31.heap.size, 0, none⟩ 1 1 [.int .i64 x1, .bool y1.has, .int .i64 y1.from_.1, .int .i64 y1.from_.2.1, .int .i64 y1.from_.2.2, .int .i64 y1.to_.1, .int .i64 y1.to_.2.1, .int .i64 y1.to_.2.2, .int .i64 t.line, .int .i64 t.col] rfl rfl (World.news_of_block (cs := #[.int .i64 x1, .bool y1.has, .int .i64 y1.from_.1, .int .i64 y1.from_.2.1, .int .i64 y1.from_.2.2, .int .i64 y1.to_.1, .int .i64 y1.to_.2.1, .int .i64 y1.to_.2.2, .int .i64 t.line, .int .i64 t.col]) (t := 48) (fr := (0, 0)) hnew) (by simp [Value.oneCell']) (by decide) (by unfold maxLen; omega) (by omega) hsz50 _ rfl ?_; intro g cp w10 hown10 hgrow10 hat10 hlt10; obtain ⟨hob10, hS51⟩ := hS50.addFee (f := ⟨x1, y1, t.line, t.col⟩) hgrow10 hown10; (have n8 : w10.cell? ⟨O, 9, none⟩ = some fv := hob10.cell 9); (have n8' := hob10.frozen 9); have hl10 := hob10.lt)
        all_goals
          obtain ⟨i60, hP60⟩ := hS51.at_
          go_wp2_with fail
          refine (a3.out _ _ hP60 _ (by simp [puts, World.setCell])).mono ?_
          rintro e w11 ⟨rfl, hA11, hF11⟩
          go_wp2_with fail
          go_end0
          exact ⟨rfl, mv, _, cv, cs, hS51.call hF11 hA11⟩
    | false =>
      cases c2 : (P.eat wCharge s).1 with
      | true =>
        obtain ⟨i0, hP0⟩ := h.at_
        have hpk0 := hpk _ _ hP0
        have e1 : P.one [wMeter, wFee, wCharge] 0 s = (2, (P.eat wCharge s).2) := by rw [pone_drop _ _ _ _ c0, pone_drop _ _ _ _ c1, pone_hit _ _ _ _ c2] <;> rfl
        rw [P_item_chg e1 rfl, ht] at hI
        clear e1
        have ea0 := fun v i (h : PAt v b ts r cap i s) => hea v i wMeter h
        rw [c0, eat_no c0] at ea0
        have ea1 := fun v i (h : PAt v b ts r cap i s) => hea v i wFee h
        rw [c1, eat_no c1] at ea1
        have ea2 := fun v i (h : PAt v b ts r cap i s) => hea v i wCharge h
        rw [c2] at ea2
        clear hea hpk
        generalize P.eat wCharge s = u at *
        obtain ⟨u1, u2⟩ := u
        simp only at ea2 hI
        replace ea0 := Lib.hid ea0
        replace ea1 := Lib.hid ea1
        replace ea2 := Lib.hid ea2
        have a1 := fun v i (h : PAt v b ts r cap i u2) (hD : Dec.DT v) => charge_any h hT hD t
        generalize P.charge dp npV t.line t.col u2 = z at *
        obtain ⟨z, su⟩ := z
        simp only at hI a1
        unfold chgC tokV at a1
        replace a1 := Lib.hid a1
        subst hI
        go_enter Tryd.func53, Tryd.ntmps53
        go_wp2_with fail
        refine hpk0.mono ?_
        rintro e w1 ⟨rfl, hb1⟩
        have hS1 := (h.below hb1).alloc (.cells #[.int .i64 t.kind, .string t.text, .int .i64 t.line, .int .i64 t.col] 102)
        have kt1 := Blk.new w1 102 #[.int .i64 t.kind, .string t.text, .int .i64 t.line, .int .i64 t.col]
        have hlw := (h.below hb1).lt
        have hbw : b < w1.heap.size := by obtain ⟨j, hj⟩ := (h.below hb1).at_; exact hj.blk.lt
        clear hpk0 hP0 hb1
        obtain ⟨i2, hP2⟩ := hS1.at_
        go_wp2_with fail
        refine (ea0.out _ _ hP2).mono ?_
        rintro e v2 ⟨rfl, hA2, hF2⟩
        have hS2 := hS1.call hF2 hA2
        have kM2 := hF2.blk kt1 (by omega)
        clear hP2 hA2 hF2
        obtain ⟨i3, hP3⟩ := hS2.at_
        go_wp2_with fail
        refine (ea1.out _ _ hP3).mono ?_
        rintro e v3 ⟨rfl, hA3, hF3⟩
        have hS3 := hS2.call hF3 hA3
        have kM3 := hF3.blk kM2 (by omega)
        clear hP3 hA3 hF3
        obtain ⟨i4, hP4⟩ := hS3.at_
        go_wp2_with fail
        refine (ea2.out _ _ hP4).mono ?_
        rintro e v4 ⟨rfl, hA4, hF4⟩
        have hS4 := hS3.call hF4 hA4
        have kM4 := hF4.blk kM3 (by omega)
        clear hP4 hA4 hF4
        have hSx : PS w0 b O ts r cap v4 u2 p mv fv cv cs := hS4
        have kt2 : Blk v4 w1.heap.size 102 #[.int .i64 t.kind, .string t.text, .int .i64 t.line, .int .i64 t.col] := kM4
        have hnb := fun g (h : blocks mv fv cv cs g) => hSx.rows.lt h
        replace hnb := Lib.hid hnb
        clear hS1 hS2 hS3 hS4 kt1 kM2 kM3 kM4 ea0 ea1 ea2 h
        have hA2 : PS w0 b O ts r cap v4.drew u2 p mv fv cv cs := hSx.drew
        have hpd := (fun hA => a1.out v4.drew _ hA.choose_spec (hD.below hA2.bl)) hA2.at_
        replace hpd := Lib.hid hpd
        clear a1
        obtain ⟨k0, k1, k2, k3, _⟩ := kt2.c4
        obtain ⟨q10, q10'⟩ := hSx.cell 10 cv rfl
        have hl2 := kt2.lt
        have hlS := hSx.lt
        obtain ⟨iC, hC0, hC1, hC2, hC3⟩ := info_parts chgInfo
        go_wp2_with fail
        go_region_law (first | (refine step_append_lies _ rfl (.tmp 74) (.tmp 78) 27 rfl w0.heap.size 52 iC _ 16 168 Tryd.underlying27 hC0 hC1 hC2 hC3 rfl (by decide) _ _ _ rfl (hS3.rows.co.alloc _) ⟨w3.heap.size, 0, none⟩ 1 1 (chgF (z, .slice At z.tiers.length ct, .slice Aa z.adjs.length ca)) rfl rfl (World.news_of_block (cs := #[.string z.meter, .bool z.win.has, .int .i64 z.win.from_.1, .int .i64 z.win.from_.2.1, .int .i64 z.win.from_.2.2, .int .i64 z.win.to_.1, .int .i64 z.win.to_.2.1, .int .i64 z.win.to_.2.2, .int .i64 z.allow, .int .i64 z.block, .int .i64 z.kind, .slice At z.tiers.length ct, .int .i64 z.mode, .slice Aa z.adjs.length ca, .int .i64 z.line, .int .i64 z.col]) (t := 52) (fr := (0, 0)) (heap_alloc_new _ _)) (by simp [chgF, Value.oneCell']) (by decide) (by unfold maxLen; omega) (by omega) (by simp; omega) _ rfl ?_; intro g cp w10 hown10 hgrow10 hat10 hlt10; obtain ⟨hob10, hS21⟩ := (hS3.alloc _).addChg (World.ownsRow.alloc hti3 _) (World.ownsRow.alloc haj3 _) hgrow10 hown10; (have n8 : w10.cell? ⟨O, 10, none⟩ = some cv := hob10.cell 10); (have n8' := hob10.frozen 10); have hl10 := hob10.lt) | (go_simp; go_at_call 93; refine hpd.out.mono ?_; rintro e w3 ⟨tv, av, rfl, hti, haj, hA3, hF3⟩; (have hS3 := hA2.call hF3 hA3); obtain ⟨q11, q11'⟩ := hS3.cell 10 cv rfl; (have hlS3 := hS3.lt); (have hsz3 := hS3.bl.size); (have hti3 := own_base hti hA2.bl.size); (have haj3 := own_base haj hA2.bl.size); obtain ⟨At, ct, rfl, _, _, _⟩ := Lies.open (Lies.of hti); obtain ⟨Aa, ca, rfl, _, _, _⟩ := Lies.open (Lies.of haj)))
        all_goals
          go_wp2_with fail
          exact bodyPost_ret (results_none rfl _ _ _) rfl ⟨rfl, mv, fv, _, _, hS21⟩
      | false =>
        obtain ⟨i0, hP0⟩ := h.at_
        have hpk0 := hpk _ _ hP0
        have e1 : P.one [wMeter, wFee, wCharge] 0 s = (-1, s) := by rw [pone_drop _ _ _ _ c0, pone_drop _ _ _ _ c1, pone_drop _ _ _ _ c2] <;> rfl
        rw [P_item_none e1 (by show (-1 : Int) < 0; decide), ht] at hI
        clear e1
        have ea0 := fun v i (h : PAt v b ts r cap i s) => hea v i wMeter h
        rw [c0, eat_no c0] at ea0
        have ea1 := fun v i (h : PAt v b ts r cap i s) => hea v i wFee h
        rw [c1, eat_no c1] at ea1
        have ea2 := fun v i (h : PAt v b ts r cap i s) => hea v i wCharge h
        rw [c2, eat_no c2] at ea2
        clear hea hpk
        replace ea0 := Lib.hid ea0
        replace ea1 := Lib.hid ea1
        replace ea2 := Lib.hid ea2
        have a1 := fun v i (h : PAt v b ts r cap i s) => fail_any h 4 (by decide) t
        generalize fail 4 t s = f4 at *
        have a2 := fun v i (h : PAt v b ts r cap i f4) => must1 h hT wSemi
        generalize P.must [wSemi] f4 = su at *
        generalize peek f4 = tk at *
        unfold tokV at a1 a2
        replace a1 := Lib.hid a1
        replace a2 := Lib.hid a2
        subst hI
        go_enter Tryd.func53, Tryd.ntmps53
        go_wp2_with fail
        refine hpk0.mono ?_
        rintro e w1 ⟨rfl, hb1⟩
        have hS1 := (h.below hb1).alloc (.cells #[.int .i64 t.kind, .string t.text, .int .i64 t.line, .int .i64 t.col] 102)
        have kt1 := Blk.new w1 102 #[.int .i64 t.kind, .string t.text, .int .i64 t.line, .int .i64 t.col]
        have hlw := (h.below hb1).lt
        have hbw : b < w1.heap.size := by obtain ⟨j, hj⟩ := (h.below hb1).at_; exact hj.blk.lt
        clear hpk0 hP0 hb1
        obtain ⟨i2, hP2⟩ := hS1.at_
        go_wp2_with fail
        refine (ea0.out _ _ hP2).mono ?_
        rintro e v2 ⟨rfl, hA2, hF2⟩
        have hS2 := hS1.call hF2 hA2
        have kM2 := hF2.blk kt1 (by omega)
        clear hP2 hA2 hF2
        obtain ⟨i3, hP3⟩ := hS2.at_
        go_wp2_with fail
        refine (ea1.out _ _ hP3).mono ?_
        rintro e v3 ⟨rfl, hA3, hF3⟩
        have hS3 := hS2.call hF3 hA3
        have kM3 := hF3.blk kM2 (by omega)
        clear hP3 hA3 hF3
        obtain ⟨i4, hP4⟩ := hS3.at_
        go_wp2_with fail
        refine (ea2.out _ _ hP4).mono ?_
        rintro e v4 ⟨rfl, hA4, hF4⟩
        have hS4 := hS3.call hF4 hA4
        have kM4 := hF4.blk kM3 (by omega)
        clear hP4 hA4 hF4
        have hSx : PS w0 b O ts r cap v4 s p mv fv cv cs := hS4
        have kt2 : Blk v4 w1.heap.size 102 #[.int .i64 t.kind, .string t.text, .int .i64 t.line, .int .i64 t.col] := kM4
        have hnb := fun g (h : blocks mv fv cv cs g) => hSx.rows.lt h
        replace hnb := Lib.hid hnb
        clear hS1 hS2 hS3 hS4 kt1 kM2 kM3 kM4 ea0 ea1 ea2 h
        obtain ⟨k0, k1, k2, k3, _⟩ := kt2.c4
        obtain ⟨i30, hP30⟩ := hSx.at_
        go_wp2_with fail
        refine (a1.out _ _ hP30).mono ?_
        rintro e w11 ⟨rfl, hA11, hF11⟩
        have hS11 := hSx.call hF11 ⟨_, hA11⟩
        go_wp2_with fail
        refine (a2.out _ _ hA11 _ rfl).mono ?_
        rintro e w12 ⟨rfl, hA12, hF12⟩
        go_wp2_with fail
        go_end0
        exact ⟨rfl, mv, fv, cv, cs, hS11.call hF12 hA12⟩
end Go.Proofs.YtcgkfgklggjmaaaDoor.Par
end
section
namespace Go.Proofs.YtcgkfgklggjmaaaDoor.Par
set_option linter.unusedVariables false
set_option linter.unusedSimpArgs false
open Go.RowKit
/-- what the program says of a text is what the reference says -/
theorem PParse_bad {l : List UInt8} {ts : List Tok} {a b : Int} (h : lexAll l = (ts, 0, a, b)) (h0 : (P.plan dp npV ts).2.err ≠ 0) : RParse l = (noPlan, (P.plan dp npV ts).2.err, (P.plan dp npV ts).2.line, (P.plan dp npV ts).2.col) := by
  obtain ⟨e1, e2, e3, _⟩ := plan_same dp npV ts
  rw [RParse_bad h (by rw [← e1]; exact h0), e1, e2, e3]
theorem PParse_ok {l : List UInt8} {ts : List Tok} {a b : Int} (h : lexAll l = (ts, 0, a, b)) (h0 : (P.plan dp npV ts).2.err = 0) : RParse l = ((P.plan dp npV ts).1, 0, 0, 0) := by
  obtain ⟨e1, e2, e3, e4⟩ := plan_same dp npV ts
  rw [RParse_ok h (by rw [← e1]; exact h0), e4 h0]
theorem pplan_eq (ts : List Tok) : P.plan dp npV ts = P.itemsAll dp npV (P.head dp ⟨ts, 0, 0, 0⟩).1 (P.head dp ⟨ts, 0, 0, 0⟩).2 := rfl
theorem lexAll_ok {l : List UInt8} {ts : List Tok} {a b : Int} (h : lexAll l = (ts, 0, a, b)) : a = 0 ∧ b = 0 := by
  unfold lexAll at h
  split at h
  · injection h with _ h; injection h with h _; cases h
  · split at h
    · injection h with _ h; injection h with _ h; injection h with h1 h2; exact ⟨h1.symm, h2.symm⟩
    · injection h with _ h; injection h with h _; cases h
theorem own_capP {w : World} {base : Nat} {e : TypeId} {size n cap : Nat} {A : Option Addr} {xs : List Value} (h : w.ownsRow base e size (.slice A n cap) n xs) : cap ≤ maxLen := by
  rcases h.2 with ⟨h1, _⟩ | ⟨g, c, cur, h1, _, _, _, hm, _⟩
  · injection h1 with _ _ e3; subst e3; exact Nat.zero_le _
  · injection h1 with _ _ e3; subst e3; exact hm
theorem fault_neqE {er li co : Int} (h : er ≠ 0) : ∀ W, (binOp .neq 34 (.agg #[.int .i64 er, .int .i64 li, .int .i64 co]) (.agg #[.int .i64 0, .int .i64 0, .int .i64 0])).run Tryd.prog W = .ok (.bool true) W := fun W => by
  rw [fault_neq er li co 0 0 0 W, beq_eq_false_iff_ne.2 h]; rfl
theorem results_cell_cell_row {P : Program} {fn : Func} {p q : Tmp} {ty ty' : TypeId} (h : fn.results = #[.cell p ty, .cell q ty']) (tmps : Array Value) (w : World) (g g' : Nat) (t t' : TypeId) (cs cs' : Array Value) (d d' : TypeDesc)
    (hp : tmps.getD p undef = .pointer (some ⟨g, 0, none⟩)) (hg : Blk w g t cs) (hq : tmps.getD q undef = .pointer (some ⟨g', 0, none⟩)) (hg' : Blk w g' t' cs')
    (hu : P.underlying ty = some d) (hd : (match d with | .struct _ | .array _ _ => true | _ => false) = true) (hi : (P.info? ty).map (·.size) = some cs.size)
    (hu' : P.underlying ty' = some d') (hd' : (match d' with | .struct _ | .array _ _ => true | _ => false) = true) (hi' : (P.info? ty').map (·.size) = some cs'.size) :
    (results fn tmps).run P w = .ok (.tuple #[.agg cs, .agg cs']) w := by
  have hp' : tmps[p]?.getD undef = .pointer (some ⟨g, 0, none⟩) := by simpa using hp
  have hq' : tmps[q]?.getD undef = .pointer (some ⟨g', 0, none⟩) := by simpa using hq
  simp [results, h, hp', hq', asAddr, run_loadVar_row w g t ty cs (0, 0) d hg hu hd hi, run_loadVar_row w g' t' ty' cs' (0, 0) d' hg' hu' hd' hi']
/-- within the program's Parse, before there is a plan -/
structure PQ (w0 : World) (b : Nat) (ts : List Tok) (r cap : Nat) (w : World) (s : St) : Prop where
  at_ : ∃ j, PAt w b ts r cap j s
  bl : Below w0.heap.size w0 w
  rb : Blk w w0.heap.size 29 (planC noPlan (.slice none 0 0) (.slice none 0 0) (.slice none 0 0))
  fb : Blk w (w0.heap.size + 1) 34 #[.int .i64 0, .int .i64 0, .int .i64 0]
  hb : w0.heap.size ≤ b
section
variable {w0 : World} {b O : Nat} {ts : List Tok} {r cap : Nat} {w w' : World} {s s' : St} {p : Plan}
theorem PQ.nes (h : PQ w0 b ts r cap w s) : b ≠ w0.heap.size ∧ b ≠ w0.heap.size + 1 := by
  obtain ⟨j, hj⟩ := h.at_
  exact ⟨Blk.ne_ hj.blk h.rb (by decide), Blk.ne_ hj.blk h.fb (by decide)⟩
theorem PQ.call (h : PQ w0 b ts r cap w s) (hf : Fr b w w') (ha : ∃ j, PAt w' b ts r cap j s') : PQ w0 b ts r cap w' s' := by
  obtain ⟨h1, h2⟩ := h.nes
  exact ⟨ha, Fr.toBelow h.bl hf h.hb, hf.blk h.rb (Ne.symm h1), hf.blk h.fb (Ne.symm h2), h.hb⟩
theorem PQ.below (h : PQ w0 b ts r cap w s) (hf : Below w.heap.size w w') : PQ w0 b ts r cap w' s :=
  h.call (Fr.of_below hf) (by obtain ⟨j, hj⟩ := h.at_; exact ⟨j, hj.below hf⟩)
theorem PQ.alloc (h : PQ w0 b ts r cap w s) (o : Obj) : PQ w0 b ts r cap (w.alloc o) s := h.below (bl_alloc (bl_refl _) o)
theorem PQ.drew (h : PQ w0 b ts r cap w s) : PQ w0 b ts r cap w.drew s := h.below (bl_drew (bl_refl _))
theorem PQ.lt (h : PQ w0 b ts r cap w s) : w0.heap.size < w.heap.size ∧ w0.heap.size + 1 < w.heap.size := ⟨h.rb.lt, h.fb.lt⟩
theorem PQ.putM (h : PQ w0 b ts r cap w s) {g : Nat} {cells : Array Value} (hk : Blk w g 29 cells) (hg : w0.heap.size + 1 < g) (k : Nat) (vs : List Value) : PQ w0 b ts r cap (puts w g k vs) s := by
  obtain ⟨j, hj⟩ := h.at_
  exact ⟨⟨j, hj.putAll (Blk.ne_ hj.blk hk (by decide)) (fun e => own_ne_blk hj.row hk (by decide) (congrArg some e)) k vs⟩, bl_puts h.bl (by omega) k vs, h.rb.putsFar (by omega) k vs, h.fb.putsFar (by omega) k vs, h.hb⟩
theorem PQ.toPS (h : PQ w0 b ts r cap w s) (ho : Blk w O 29 (planC p (.slice none 0 0) (.slice none 0 0) (.slice none 0 0))) (hO : w0.heap.size + 1 < O) (h1 : p.mets = []) (h2 : p.fees = []) (h3 : p.chgs = []) : PS w0 b O ts r cap w s p (.slice none 0 0) (.slice none 0 0) (.slice none 0 0) [] :=
  ⟨h.at_, h.bl, h.rb, h.fb, ho, Rows.none _ _ _ h1 h2 h3, h.hb, hO⟩
end
/-- the items' loop counts down -/
def measP (s : St) : Nat := 2 * len s + (if s.err = 0 then 1 else 0)
def countP (p : Plan) : Nat := p.mets.length + p.fees.length + p.chgs.length
theorem pitem_all (p : Plan) (s : St) : countP (P.item dp npV p s).1 + len (P.item dp npV p s).2 ≤ countP p + len s ∧ len (P.item dp npV p s).2 ≤ len s := by
  have h1 := len_oned [wMeter, wFee, wCharge] 0 s (by decide)
  have h0 := len_one [wMeter, wFee, wCharge] 0 s
  unfold P.item
  simp only
  have h3 := len_meter npV (peek s).line (peek s).col (P.one [wMeter, wFee, wCharge] 0 s).2
  have h4 := len_fee dp npV (peek s).line (peek s).col (P.one [wMeter, wFee, wCharge] 0 s).2
  have h5 := len_charge dp npV (peek s).line (peek s).col (P.one [wMeter, wFee, wCharge] 0 s).2
  by_cases c0 : (P.one [wMeter, wFee, wCharge] 0 s).1 = 0
  · rw [if_pos c0]
    have h2 := h1 (by omega)
    simp only [countP, List.length_append, List.length_singleton]
    omega
  · rw [if_neg c0]
    by_cases c1 : (P.one [wMeter, wFee, wCharge] 0 s).1 = 1
    · rw [if_pos c1]
      have h2 := h1 (by omega)
      simp only [countP, List.length_append, List.length_singleton]
      omega
    · rw [if_neg c1]
      by_cases c2 : (P.one [wMeter, wFee, wCharge] 0 s).1 = 2
      · rw [if_pos c2]
        have h2 := h1 (by omega)
        simp only [countP, List.length_append, List.length_singleton]
        omega
      · rw [if_neg c2]
        have h6 := len_must [wSemi] (fail 4 (peek s) (P.one [wMeter, wFee, wCharge] 0 s).2)
        rw [len_fail] at h6
        simp only
        omega
theorem pitem_meas {p : Plan} {s : St} (h : s.err = 0) : measP (P.item dp npV p s).2 < measP s := by
  have h1 := (pitem_all p s).2
  have h2 := item_round dp npV p s
  unfold measP
  rw [if_pos h]
  by_cases h3 : (P.item dp npV p s).2.err = 0
  · rw [if_pos h3]
    rcases h2 with h2 | h2
    · exact absurd h3 h2
    · omega
  · rw [if_neg h3]; omega
theorem run_planP (w : World) (g : Nat) (old new : Array Value) (hb : Blk w g 29 old) (hl : new.toList.length = old.size) (h1 : ∀ v ∈ new.toList, v.oneCell' = true) : (storeCells ⟨g, 0, none⟩ new.toList).run Tryd.prog w = .ok () (w.setRow g new) := by
  have hq := run_storeCells_from (P := Tryd.prog) g 29 new.toList 0 old w hb (by rw [Nat.zero_add]; exact hl) h1
  simpa using hq
theorem bl_rowP {w v : World} (h : Below w.heap.size w v) {g : Nat} (hg : w.heap.size ≤ g) (cs : Array Value) : Below w.heap.size w (v.setRow g cs) :=
  ⟨h.os, h.tape, h.output, by rw [setRow_size]; exact h.size, fun i hi => (setRow_far v g i cs (by omega)).trans (h.block i hi)⟩
/-- the program's Parse -/
def ParseOutP (w : World) (l : List UInt8) (e : Ending) (w' : World) : Prop :=
  ∃ v, e = .returned (.tuple #[v, .agg #[.int .i64 (RParse l).2.1, .int .i64 (RParse l).2.2.1, .int .i64 (RParse l).2.2.2]]) ∧ PlanLies w.heap.size w' v (RParse l).1 ∧ Below w.heap.size w w'
set_option maxHeartbeats 16000000 in
set_option maxRecDepth 100000 in
theorem parse7_any (s : ByteArray) (w : World) (hD : Dec.DT w) (hs : s.size ≤ 9223372036854775807) :
    Calls Tryd.prog 19 #[.string s] w (ParseOutP w s.data.toList) := by
  unfold ParseOutP
  obtain ⟨Q, hQ⟩ : ∃ Q, Q = RParse s.data.toList := ⟨_, rfl⟩
  rw [← hQ]
  have HQ := Lib.hid hQ
  clear hQ
  have kz := (Blk.new w 29 (planC noPlan (.slice none 0 0) (.slice none 0 0) (.slice none 0 0))).alloc (.cells #[.int .i64 0, .int .i64 0, .int .i64 0] 34)
  have fz := Blk.new (w.alloc (.cells (planC noPlan (.slice none 0 0) (.slice none 0 0) (.slice none 0 0)) 29)) 34 #[.int .i64 0, .int .i64 0, .int .i64 0]
  rw [World.size_alloc] at fz
  have hbl0 := bl_alloc (bl_alloc (bl_refl w) (.cells (planC noPlan (.slice none 0 0) (.slice none 0 0) (.slice none 0 0)) 29)) (.cells #[.int .i64 0, .int .i64 0, .int .i64 0] 34)
  have hG := (hD.below hbl0).mx
  go_enter Tryd.func19, Tryd.ntmps19
  go_wp2_with fail
  refine (lex_any s _ hG hs).mono ?_
  rintro e w1 ⟨v, ts, er, li, co, rfl, hown, hb1, hall⟩
  unfold lexR
  have hbl1 := bl_call hbl0 hb1
  have kz1 := kz.call hb1
  have fz1 := fz.call hb1
  have hlt1 := kz1.lt
  have hlt1' := fz1.lt
  obtain ⟨A, cap, rfl, hcap, hA⟩ := own_slice hown
  have hcm := own_capP hown
  clear hG kz fz
  by_cases her : er = 0
  · subst her
    obtain ⟨rfl, rfl⟩ := lexAll_ok hall
    have hfn := fault_neq00
    obtain ⟨hne, hlast, hcount⟩ := all_shape hall
    have hsz := all_sizes hall
    have hlen : 0 < ts.length := List.length_pos_iff.2 hne
    obtain ⟨r, rfl⟩ := hA hlen
    obtain ⟨X, hX⟩ : ∃ X, X = P.plan dp npV ts := ⟨_, rfl⟩
    have hbad : X.2.err ≠ 0 → Q = (noPlan, X.2.err, X.2.line, X.2.col) := fun h => by rw [HQ.out, hX]; exact PParse_bad hall (hX ▸ h)
    have hok : X.2.err = 0 → Q = (X.1, 0, 0, 0) := fun h => by rw [HQ.out, hX]; exact PParse_ok hall (hX ▸ h)
    replace hbad := Lib.hid hbad
    replace hok := Lib.hid hok
    have hrlt := (hown.lt r rfl).2
    have hT : TK ts cap := ⟨by omega, by unfold maxLen at hcm; omega, hsz⟩
    have hlb := hT.lb
    have hcb := hT.capb
    have hP0 : PAt ((w1.alloc (.cells #[.int .i64 0, .int .i64 0, .int .i64 0] 34)).alloc (.cells #[.slice (some ⟨r, 0, none⟩) ts.length cap, .int .i64 0, .int .i64 0, .int .i64 0] 99)) (w1.heap.size + 1) ts r cap 0 ⟨ts, 0, 0, 0⟩ := by
      refine ⟨?_, own_base ((hown.alloc _).alloc _) (Nat.zero_le _), by omega, hcap, rfl, hlen, hlast, fun _ => ⟨rfl, rfl⟩⟩
      have := Blk.new (w1.alloc (.cells #[.int .i64 0, .int .i64 0, .int .i64 0] 34)) 99 #[.slice (some ⟨r, 0, none⟩) ts.length cap, .int .i64 0, .int .i64 0, .int .i64 0]
      rw [World.size_alloc] at this
      simpa using this
    clear HQ hall hsz hlast hne
    rw [pplan_eq] at hX
    unfold P.head at hX
    simp only at hX
    generalize ht : peek ⟨ts, 0, 0, 0⟩ = t at *
    clear hfn
    have g1 := fun v i (h : PAt v (w1.heap.size + 1) ts r cap i ⟨ts, 0, 0, 0⟩) => must1 h hT wPlan
    generalize P.must [wPlan] ⟨ts, 0, 0, 0⟩ = m1 at *
    rw [ht] at g1
    clear ht
    unfold tokV at g1
    have g2 := fun v i (h : PAt v (w1.heap.size + 1) ts r cap i m1) => kind_any h hlb hcb 1
    generalize P.kind 1 m1 = n at *
    obtain ⟨n1, n2⟩ := n
    simp only at hX g2
    have g3 := fun v i (h : PAt v (w1.heap.size + 1) ts r cap i n2) => must1 h hT wCurrency
    generalize P.must [wCurrency] n2 = m2 at *
    generalize peek n2 = tk1 at *
    unfold tokV at g3
    have g4 := fun v i (h : PAt v (w1.heap.size + 1) ts r cap i m2) => kind_any h hlb hcb 1
    generalize P.kind 1 m2 = c at *
    obtain ⟨c1, c2⟩ := c
    simp only at hX g4
    have g5 := fun v i (h : PAt v (w1.heap.size + 1) ts r cap i c2) => must2 h hT wSemi wHorizon
    generalize P.must [wSemi, wHorizon] c2 = m3 at *
    generalize peek c2 = tk2 at *
    unfold tokV at g5
    have g6 := fun v i (h : PAt v (w1.heap.size + 1) ts r cap i m3) => day_any h hlb hcb
    generalize P.day dp m3 = f at *
    obtain ⟨f1, f2⟩ := f
    simp only at hX g6
    have g7 := fun v i (h : PAt v (w1.heap.size + 1) ts r cap i f2) => day_any h hlb hcb
    generalize P.day dp f2 = z at *
    obtain ⟨z1, z2⟩ := z
    simp only at hX g7
    have g8 := fun v i (h : PAt v (w1.heap.size + 1) ts r cap i z2) => must1 h hT wSemi
    generalize P.must [wSemi] z2 = q5 at *
    generalize peek z2 = tk3 at *
    unfold tokV at g8
    unfold dayV at g6 g7
    have HX := Lib.hid hX.symm
    clear hX
    replace g1 := Lib.hid g1
    replace g2 := Lib.hid g2
    replace g3 := Lib.hid g3
    replace g4 := Lib.hid g4
    replace g5 := Lib.hid g5
    replace g6 := Lib.hid g6
    replace g7 := Lib.hid g7
    replace g8 := Lib.hid g8
    have hQ0 : PQ w (w1.heap.size + 1) ts r cap ((w1.alloc (.cells #[.int .i64 0, .int .i64 0, .int .i64 0] 34)).alloc (.cells #[.slice (some ⟨r, 0, none⟩) ts.length cap, .int .i64 0, .int .i64 0, .int .i64 0] 99)) ⟨ts, 0, 0, 0⟩ := ⟨⟨0, hP0⟩, bl_alloc (bl_alloc hbl1 _) _, (kz1.alloc _).alloc _, (fz1.alloc _).alloc _, by omega⟩
    clear hP0 kz1 fz1 hbl0 hb1 hbl1 hown
    have hfn := fault_neq00
    obtain ⟨i0, hP0⟩ := hQ0.at_
    go_wp2_with fail
    refine (g1.out _ _ hP0 _ (by simp)).mono ?_
    rintro e w2 ⟨rfl, hA2, hF2⟩
    have hQ1 := (hQ0.call hF2 hA2).alloc (.cells #[.int .i64 t.kind, .string t.text, .int .i64 t.line, .int .i64 t.col] 102)
    have kt := Blk.new w2 102 #[.int .i64 t.kind, .string t.text, .int .i64 t.line, .int .i64 t.col]
    have hsz2 := hF2.size
    simp only [World.size_alloc] at hsz2
    clear hP0 hA2 hF2 g1 hQ0 hfn
    go_upto_region 6 with fail
    generalize w2.alloc (.cells #[.int .i64 t.kind, .string t.text, .int .i64 t.line, .int .i64 t.col] 102) = W at *
    go_cut [8] (fun vM wx => ∃ M, vM = .pointer (some ⟨M, 0, none⟩) ∧ PS w (w1.heap.size + 1) M ts r cap wx n2 (⟨n1, ⟨#[]⟩, (0, 0, 0), (0, 0, 0), [], [], [], t.line, t.col⟩ : Plan) (.slice none 0 0) (.slice none 0 0) (.slice none 0 0) [] ∧ w1.heap.size < M)
    case first =>
      obtain ⟨k0, k1, k2, k3, _⟩ := kt.c4
      have hA2 : PQ w (w1.heap.size + 1) ts r cap W.drew m1 := hQ1.drew
      have hB2 : PQ w (w1.heap.size + 1) ts r cap (W.alloc (.cells #[.string ⟨#[]⟩, .string ⟨#[]⟩, .int .i64 0, .int .i64 0, .int .i64 0, .int .i64 0, .int .i64 0, .int .i64 0, .slice none 0 0, .slice none 0 0, .slice none 0 0, .int .i64 0, .int .i64 0] 29)).drew m1 := (hQ1.alloc (.cells #[.string ⟨#[]⟩, .string ⟨#[]⟩, .int .i64 0, .int .i64 0, .int .i64 0, .int .i64 0, .int .i64 0, .int .i64 0, .slice none 0 0, .slice none 0 0, .slice none 0 0, .int .i64 0, .int .i64 0] 29)).drew
      have kA2 : Blk W.drew w2.heap.size 102 #[.int .i64 t.kind, .string t.text, .int .i64 t.line, .int .i64 t.col] := kt.drew
      have kB2 : Blk (W.alloc (.cells #[.string ⟨#[]⟩, .string ⟨#[]⟩, .int .i64 0, .int .i64 0, .int .i64 0, .int .i64 0, .int .i64 0, .int .i64 0, .slice none 0 0, .slice none 0 0, .slice none 0 0, .int .i64 0, .int .i64 0] 29)).drew w2.heap.size 102 #[.int .i64 t.kind, .string t.text, .int .i64 t.line, .int .i64 t.col] := (kt.alloc (.cells #[.string ⟨#[]⟩, .string ⟨#[]⟩, .int .i64 0, .int .i64 0, .int .i64 0, .int .i64 0, .int .i64 0, .int .i64 0, .slice none 0 0, .slice none 0 0, .slice none 0 0, .int .i64 0, .int .i64 0] 29)).drew
      have kM2b : Blk (W.alloc (.cells #[.string ⟨#[]⟩, .string ⟨#[]⟩, .int .i64 0, .int .i64 0, .int .i64 0, .int .i64 0, .int .i64 0, .int .i64 0, .slice none 0 0, .slice none 0 0, .slice none 0 0, .int .i64 0, .int .i64 0] 29)).drew W.heap.size 29 #[.string ⟨#[]⟩, .string ⟨#[]⟩, .int .i64 0, .int .i64 0, .int .i64 0, .int .i64 0, .int .i64 0, .int .i64 0, .slice none 0 0, .slice none 0 0, .slice none 0 0, .int .i64 0, .int .i64 0] := (Blk.new W 29 #[.string ⟨#[]⟩, .string ⟨#[]⟩, .int .i64 0, .int .i64 0, .int .i64 0, .int .i64 0, .int .i64 0, .int .i64 0, .slice none 0 0, .slice none 0 0, .slice none 0 0, .int .i64 0, .int .i64 0]).drew
      have hl2 := kt.lt
      have hlQ := hQ1.lt
      have hp := fun V (h : PQ w (w1.heap.size + 1) ts r cap V m1) => (fun hA => g2.out V _ hA.choose_spec) h.at_
      replace hp := Lib.hid hp
      clear g2
      have k2d : W.drew.cell? ⟨w2.heap.size, 2, none⟩ = some (.int .i64 t.line) := k2
      have k3d : W.drew.cell? ⟨w2.heap.size, 3, none⟩ = some (.int .i64 t.col) := k3
      have l2d : w2.heap.size < W.drew.heap.size := hl2
      obtain ⟨_, _, k2b, k3b, _⟩ := kB2.c4
      have l2b := kB2.lt
      have hsets : setsA #[.string ⟨#[]⟩, .string ⟨#[]⟩, .int .i64 0, .int .i64 0, .int .i64 0, .int .i64 0, .int .i64 0, .int .i64 0, .slice none 0 0, .slice none 0 0, .slice none 0 0, .int .i64 0, .int .i64 0] 0 [.string n1, .string ⟨#[]⟩, .int .i64 0, .int .i64 0, .int .i64 0, .int .i64 0, .int .i64 0, .int .i64 0, .slice none 0 0, .slice none 0 0, .slice none 0 0, .int .i64 t.line, .int .i64 t.col] = #[.string n1, .string ⟨#[]⟩, .int .i64 0, .int .i64 0, .int .i64 0, .int .i64 0, .int .i64 0, .int .i64 0, .slice none 0 0, .slice none 0 0, .slice none 0 0, .int .i64 t.line, .int .i64 t.col] := by simp [setsA]
      replace hsets := Lib.hid hsets
      have hWb : (w1.heap.size + 1) < W.heap.size := by obtain ⟨j, hj⟩ := hQ1.at_; exact hj.blk.lt
      go_region_held3 (fun w' => w'.cell? ⟨w2.heap.size, 2, none⟩ = some (.int .i64 t.line) ∧ w'.cell? ⟨w2.heap.size, 3, none⟩ = some (.int .i64 t.col) ∧ w2.heap.size < w'.heap.size)
        (refine ⟨?_, ?_, ?_⟩ <;> with_reducible assumption)
        ((go_at_call 50; refine (hp.out _ (by with_reducible assumption)).mono ?_; rintro e w3 ⟨rfl, hA3, hF3⟩; (have kt3 : Blk w3 w2.heap.size 102 #[.int .i64 t.kind, .string t.text, .int .i64 t.line, .int .i64 t.col] := hF3.blk (by with_reducible assumption) (by omega)); obtain ⟨j0_, j1_, j2_, j3_, _⟩ := kt3.c4; (have hl3 := kt3.lt); (have kt3a := kt3.alloc (.cells #[.string ⟨#[]⟩, .string ⟨#[]⟩, .int .i64 0, .int .i64 0, .int .i64 0, .int .i64 0, .int .i64 0, .int .i64 0, .slice none 0 0, .slice none 0 0, .slice none 0 0, .int .i64 0, .int .i64 0] 29)); obtain ⟨_, _, a2_, a3_, _⟩ := kt3a.c4; (have la_ := kt3a.lt); (have kt3b := kt3.alloc (.cells #[.string n1, .string ⟨#[]⟩, .int .i64 0, .int .i64 0, .int .i64 0, .int .i64 0, .int .i64 0, .int .i64 0, .slice none 0 0, .slice none 0 0, .slice none 0 0, .int .i64 t.line, .int .i64 t.col] 29)); obtain ⟨_, _, b2_, b3_, _⟩ := kt3b.c4; (have lb_ := kt3b.lt); (try ((have kM3 : Blk w3 W.heap.size 29 #[.string ⟨#[]⟩, .string ⟨#[]⟩, .int .i64 0, .int .i64 0, .int .i64 0, .int .i64 0, .int .i64 0, .int .i64 0, .slice none 0 0, .slice none 0 0, .slice none 0 0, .int .i64 0, .int .i64 0] := hF3.blk (by with_reducible assumption) (by omega)); obtain ⟨z0, z1, z2, z3, z4, z5, z6, z7, z8, z9, z10, z11, z12, f0_, f1_, f2_, f3_, f4_, f5_, f6_, f7_, f8_, f9_, f10_, f11_, f12_⟩ := kM3.c13; (have hlM3 := kM3.lt); (have kP3 := kt3.putsFar (g' := W.heap.size) (by omega) 0 [.string n1, .string ⟨#[]⟩, .int .i64 0, .int .i64 0, .int .i64 0, .int .i64 0, .int .i64 0, .int .i64 0, .slice none 0 0, .slice none 0 0, .slice none 0 0, .int .i64 t.line, .int .i64 t.col]); simp only [puts, Nat.zero_add, Nat.reduceAdd] at kP3; obtain ⟨_, _, c2_, c3_, _⟩ := kP3.c4; (have lc_ := kP3.lt)))))
      all_goals
        have hsz3 := hF3.size
        go_wp2_with fail
        go_meet
        first
          | exact ⟨w3.heap.size, rfl, ((hA2.call hF3 hA3).alloc _).toPS (Blk.new w3 29 #[.string n1, .string ⟨#[]⟩, .int .i64 0, .int .i64 0, .int .i64 0, .int .i64 0, .int .i64 0, .int .i64 0, .slice none 0 0, .slice none 0 0, .slice none 0 0, .int .i64 t.line, .int .i64 t.col]) (hA2.call hF3 hA3).lt.2 rfl rfl rfl, by simp at hsz3; omega⟩
          | (have q1 := (hB2.call hF3 hA3).putM kM3 hlQ.2 0 [.string n1, .string ⟨#[]⟩, .int .i64 0, .int .i64 0, .int .i64 0, .int .i64 0, .int .i64 0, .int .i64 0, .slice none 0 0, .slice none 0 0, .slice none 0 0, .int .i64 t.line, .int .i64 t.col]; have q2 := kM3.putAll [.string n1, .string ⟨#[]⟩, .int .i64 0, .int .i64 0, .int .i64 0, .int .i64 0, .int .i64 0, .int .i64 0, .slice none 0 0, .slice none 0 0, .slice none 0 0, .int .i64 t.line, .int .i64 t.col] 0; rw [hsets.out] at q2; simp only [puts, Nat.zero_add, Nat.reduceAdd] at q1 q2; exact ⟨W.heap.size, rfl, q1.toPS (p := (⟨n1, ⟨#[]⟩, (0, 0, 0), (0, 0, 0), [], [], [], t.line, t.col⟩ : Plan)) q2 hlQ.2 rfl rfl rfl, by omega⟩)
    case rest =>
      obtain ⟨M, rfl, hS0, hM⟩ := hcut
      clear hQ1 kt g2
      obtain ⟨i1, hP1⟩ := hS0.at_
      go_wp2_with fail
      refine (g3.out _ _ hP1 _ (by simp [puts, World.setCell])).mono ?_
      rintro e v1 ⟨rfl, hA1, hF1⟩
      have hS1 := hS0.call hF1 hA1
      clear hP1 hA1 hF1 g3 hS0
      obtain ⟨i2, hP2⟩ := hS1.at_
      go_wp2_with fail
      refine (g4.out _ _ hP2).mono ?_
      rintro e v2 ⟨rfl, hA2, hF2⟩
      have hS2 := hS1.call hF2 hA2
      clear hP2 hA2 hF2 g4 hS1
      obtain ⟨x3_0, x3_0'⟩ := hS2.cell 1 _ rfl
      have hl3 := hS2.lt
      have hS3 : PS w (w1.heap.size + 1) M ts r cap _ c2 (⟨n1, c1, (0, 0, 0), (0, 0, 0), [], [], [], t.line, t.col⟩ : Plan) (.slice none 0 0) (.slice none 0 0) (.slice none 0 0) [] := hS2.putO 1 [.string c1] _ rfl rfl rfl rfl
      obtain ⟨i4, hP4⟩ := hS3.at_
      go_wp2_with fail
      refine (g5.out _ _ hP4 _ (by simp [puts, World.setCell])).mono ?_
      rintro e v4 ⟨rfl, hA4, hF4⟩
      have hS4 := hS3.call hF4 hA4
      clear hP4 hA4 hF4 g5 hS3
      obtain ⟨i5, hP5⟩ := hS4.at_
      go_wp2_with fail
      refine (g6.out _ _ hP5).mono ?_
      rintro e v5 ⟨rfl, hA5, hF5⟩
      have hS5 := hS4.call hF5 hA5
      clear hP5 hA5 hF5 g6 hS4
      obtain ⟨x6_0, x6_0'⟩ := hS5.cell 2 _ rfl
      obtain ⟨x6_1, x6_1'⟩ := hS5.cell 3 _ rfl
      obtain ⟨x6_2, x6_2'⟩ := hS5.cell 4 _ rfl
      have hl6 := hS5.lt
      have hS6 : PS w (w1.heap.size + 1) M ts r cap _ f2 (⟨n1, c1, f1, (0, 0, 0), [], [], [], t.line, t.col⟩ : Plan) (.slice none 0 0) (.slice none 0 0) (.slice none 0 0) [] := hS5.putO 2 [.int .i64 f1.1, .int .i64 f1.2.1, .int .i64 f1.2.2] _ rfl rfl rfl rfl
      obtain ⟨i7, hP7⟩ := hS6.at_
      go_wp2_with fail
      refine (g7.out _ _ hP7).mono ?_
      rintro e v7 ⟨rfl, hA7, hF7⟩
      have hS7 := hS6.call hF7 hA7
      clear hP7 hA7 hF7 g7 hS6
      obtain ⟨x8_0, x8_0'⟩ := hS7.cell 5 _ rfl
      obtain ⟨x8_1, x8_1'⟩ := hS7.cell 6 _ rfl
      obtain ⟨x8_2, x8_2'⟩ := hS7.cell 7 _ rfl
      have hl8 := hS7.lt
      have hS8 : PS w (w1.heap.size + 1) M ts r cap _ z2 (⟨n1, c1, f1, z1, [], [], [], t.line, t.col⟩ : Plan) (.slice none 0 0) (.slice none 0 0) (.slice none 0 0) [] := hS7.putO 5 [.int .i64 z1.1, .int .i64 z1.2.1, .int .i64 z1.2.2] _ rfl rfl rfl rfl
      obtain ⟨i9, hP9⟩ := hS8.at_
      go_wp2_with fail
      refine (g8.out _ _ hP9 _ (by simp [puts, World.setCell])).mono ?_
      rintro e v9 ⟨rfl, hA9, hF9⟩
      have hS9 := hS8.call hF9 hA9
      clear hP9 hA9 hF9 g8 hS8
      obtain ⟨hS, hSe⟩ : ∃ h : PS w (w1.heap.size + 1) M ts r cap v9 q5 (⟨n1, c1, f1, z1, [], [], [], t.line, t.col⟩ : Plan) (.slice none 0 0) (.slice none 0 0) (.slice none 0 0) [], h = hS9 := ⟨_, rfl⟩
      clear hSe hS9
      try clear hS3 hS6 hS8
      clear x3_0 x3_0' hl3 x6_0 x6_0' x6_1 x6_1' x6_2 x6_2' hl6 x8_0 x8_0' x8_1 x8_1' x8_2 x8_2' hl8
      have hlm : len q5 ≤ 100000 := by obtain ⟨j, hj⟩ := hS.at_; rw [hj.len]; have := hT.big; omega
      have hDh := Lib.hid hD
      clear hD
      go_wp2_with fail
      go_loopg [] (measP q5) (fun g wx => ∃ p s' mv fv cv cs, PS w (w1.heap.size + 1) M ts r cap wx s' p mv fv cv cs ∧ countP p + len s' ≤ 100000 ∧ g = measP s' ∧ Hid (P.itemsAll dp npV p s' = X))
      case atStart => exact ⟨_, q5, _, _, _, _, hS, by simpa [countP] using hlm, rfl, HX⟩
      case round =>
        obtain ⟨p, s', mv, fv, cv, cs, hS, hcnt, rfl, HK⟩ := hrel
        clear HX hlm
        obtain ⟨jr, hPr⟩ := hS.at_
        obtain ⟨c0, c1_, c2_, c3_, f0, f1_, f2_, f3_⟩ := hPr.blk.c4
        have hbb := hPr.blk.lt
        have hlS := hS.lt
        by_cases h0 : s'.err = 0
        · obtain ⟨x1, x2, x3⟩ := hPr.calm h0
          clear c1_ c2_ c3_
          have hfe : ∀ W, (binOp .eql 34 (.agg #[.int .i64 0, .int .i64 0, .int .i64 0]) (.agg #[.int .i64 0, .int .i64 0, .int .i64 0])).run Tryd.prog W = .ok (.bool true) W := fun W => fault_eql 0 0 0 0 0 0 W
          have hpk := peek_any hPr hlb hcb
          by_cases hk : (peek s').kind = 0
          · have ek : ((peek s').kind != 0) = false := by rw [hk]; rfl
            have hX2 := HK.out
            rw [itemsAll_end dp npV (.inr hk)] at hX2
            subst hX2
            have hq := hok.out h0
            subst hq
            clear hok hbad HK hk
            obtain ⟨Am, cm, rfl, _, _, _⟩ := Lies.open (f := metF) (l := p.mets) (Lies.of hS.rows.mo)
            obtain ⟨Af, cf, rfl, _, _, _⟩ := Lies.open (f := feeF) (l := p.fees) (Lies.of hS.rows.fo)
            obtain ⟨Ac, cc, rfl, _, _, _⟩ := Lies.open (f := chgF) (l := cs) (Lies.of hS.rows.co)
            generalize peek s' = tk at *
            unfold tokV at hpk
            have hfd : ∀ W, (Instr.field 102 (.agg #[.int .i64 tk.kind, .string tk.text, .int .i64 tk.line, .int .i64 tk.col]) 0).run Tryd.prog W = .ok (.int .i64 tk.kind) W := fun _ => by kernel_rfl
            replace h0 := Lib.hid h0
            go_wp2_with fail
            refine hpk.mono ?_
            rintro e v20 ⟨rfl, hb20⟩
            have hS20 := hS.below hb20
            obtain ⟨j20, hP20⟩ := hS20.at_
            obtain ⟨y1, y2, y3⟩ := hP20.calm h0.out
            obtain ⟨_, _, _, _, r0_, r1_, r2_, r3_⟩ := hP20.blk.c4
            have hfn := fault_neq00
            have hl20 := hP20.blk.lt
            have hlS20 := hS20.lt
            obtain ⟨w0, w1, w2, w0f, w1f, w2f⟩ := hS20.fb.c3
            have hlF := hS20.fb.lt
            have hsc := run_planP v20 w.heap.size (planC noPlan (.slice none 0 0) (.slice none 0 0) (.slice none 0 0)) (planC p (.slice Am p.mets.length cm) (.slice Af p.fees.length cf) (.slice Ac cs.length cc)) hS20.rb rfl (by simp [planC, Value.oneCell'])
            have hfb3 : Blk (v20.setRow w.heap.size (planC p (.slice Am p.mets.length cm) (.slice Af p.fees.length cf) (.slice Ac cs.length cc))) (w.heap.size + 1) 34 #[.int .i64 0, .int .i64 0, .int .i64 0] := (setRow_far v20 w.heap.size (w.heap.size + 1) _ (by omega)).trans hS20.fb
            obtain ⟨u0, u1, u2, u0f, u1f, u2f⟩ := hfb3.c3
            clear hPr c0 f0 f1_ f2_ f3_ hbb x1 x2 x3 hpk hb20 hfe hS hlS
            go_wp2_with (refine wpList_load_row rfl 29 (.tmp 8) rfl M rfl 29 (planC p (.slice Am p.mets.length cm) (.slice Af p.fees.length cf) (.slice Ac cs.length cc)) (0, 0) _ hS20.ob Tryd.underlying29 rfl (by kernel_rfl) ?_)
            have hs2 : setsA #[.int .i64 0, .int .i64 0, .int .i64 0] 0 [.int .i64 0, .int .i64 0, .int .i64 0] = #[.int .i64 0, .int .i64 0, .int .i64 0] := by simp [setsA]
            have qa := (Blk.row (cs' := (planC p (.slice Am p.mets.length cm) (.slice Af p.fees.length cf) (.slice Ac cs.length cc))) hS20.rb).putsFar (g' := w.heap.size + 1) (by omega) 0 [.int .i64 0, .int .i64 0, .int .i64 0]
            have qb := hfb3.putAll [.int .i64 0, .int .i64 0, .int .i64 0] 0
            have qc := bl_puts (bl_rowP hS20.bl (Nat.le_refl _) (planC p (.slice Am p.mets.length cm) (.slice Af p.fees.length cf) (.slice Ac cs.length cc))) (Nat.le_succ w.heap.size) 0 [.int .i64 0, .int .i64 0, .int .i64 0]
            have qr := (hS20.rows.setRow_ hS20.nR (planC p (.slice Am p.mets.length cm) (.slice Af p.fees.length cf) (.slice Ac cs.length cc))).puts_ (hS20.rows.apart hS20.fb (by decide) (by decide) (by decide) (by decide) (by decide)) 0 [.int .i64 0, .int .i64 0, .int .i64 0]
            rw [hs2] at qb
            simp only [puts, Nat.zero_add, Nat.reduceAdd] at qa qb qc qr
            exact bodyPost_ret (results_cell_cell_row rfl _ _ w.heap.size (w.heap.size + 1) _ _ (planC p (.slice Am p.mets.length cm) (.slice Af p.fees.length cf) (.slice Ac cs.length cc)) #[.int .i64 0, .int .i64 0, .int .i64 0] _ _ rfl qa rfl qb Tryd.underlying29 rfl (by kernel_rfl) Tryd.underlying34 rfl (by kernel_rfl)) rfl ⟨_, rfl, ⟨_, _, _, cs, rfl, qr⟩, qc⟩
          · have ek : ((peek s').kind != 0) = true := bne_iff_ne.2 hk
            have hst := itemsAll_step dp npV (p := p) h0 hk
            rw [HK.out] at hst
            have hms := pitem_meas (p := p) h0
            have hall2 := pitem_all p s'
            have hpos : 0 < len s' := by rw [hPr.len]; have := hPr.lt; omega
            have hcn2 : p.mets.length + p.fees.length + cs.length < 100000 := by
              have := congrArg List.length hS.rows.eq
              rw [List.length_map] at this
              unfold countP at hcnt
              omega
            clear hok hbad HK hk h0
            generalize peek s' = tk at *
            unfold tokV at hpk
            have hfd : ∀ W, (Instr.field 102 (.agg #[.int .i64 tk.kind, .string tk.text, .int .i64 tk.line, .int .i64 tk.col]) 0).run Tryd.prog W = .ok (.int .i64 tk.kind) W := fun _ => by kernel_rfl
            replace hst := Lib.hid hst
            replace hms := Lib.hid hms
            replace hall2 := Lib.hid hall2
            go_wp2_with fail
            refine hpk.mono ?_
            rintro e v20 ⟨rfl, hb20⟩
            have hS20 := hS.below hb20
            clear hPr c0 f0 f1_ f2_ f3_ hbb x1 x2 x3 hpk hb20 hfe hS hlS
            go_wp2_with fail
            refine (item_any hS20 hT hDh.out hcn2).mono ?_
            rintro e v21 ⟨rfl, mv', fv', cv', cs', hS21⟩
            generalize P.item dp npV p s' = pi at *
            obtain ⟨p2, s2⟩ := pi
            go_wp2_with fail
            go_roundg (measP s2)
            case measure => exact hms.out
            case rel => exact ⟨p2, s2, mv', fv', cv', cs', hS21, by have := hall2.out; omega, rfl, Lib.hid hst.out.symm⟩
        · have hfe : ∀ W, (binOp .eql 34 (.agg #[.int .i64 s'.err, .int .i64 s'.line, .int .i64 s'.col]) (.agg #[.int .i64 0, .int .i64 0, .int .i64 0])).run Tryd.prog W = .ok (.bool false) W := fun W => by
            rw [fault_eql s'.err s'.line s'.col 0 0 0 W, beq_eq_false_iff_ne.2 h0]; rfl
          have hfn := fault_neqE (er := s'.err) (li := s'.line) (co := s'.col) h0
          have hX2 := HK.out
          rw [itemsAll_end dp npV (.inl h0)] at hX2
          subst hX2
          have hq := hbad.out h0
          subst hq
          clear hok hbad HK h0
          have hrb := hS.rb
          have hfb := hS.fb
          have hbl := hS.bl
          obtain ⟨z0, z1, z2, z3, z4, z5, z6, z7, z8, z9, z10, z11, z12, f0_, f1_, f2_, f3_, f4_, f5_, f6_, f7_, f8_, f9_, f10_, f11_, f12_⟩ := hrb.c13
          obtain ⟨y0, y1, y2, y0f, y1f, y2f⟩ := hfb.c3
          have hlF := hfb.lt
          go_wp2_with fail
          go_region
          all_goals go_wp2_with fail
          have hs1 : setsA (planC noPlan (.slice none 0 0) (.slice none 0 0) (.slice none 0 0)) 0 [.string ⟨#[]⟩, .string ⟨#[]⟩, .int .i64 0, .int .i64 0, .int .i64 0, .int .i64 0, .int .i64 0, .int .i64 0, .slice none 0 0, .slice none 0 0, .slice none 0 0, .int .i64 0, .int .i64 0] = (planC noPlan (.slice none 0 0) (.slice none 0 0) (.slice none 0 0)) := by simp [setsA, planC, noPlan]
          have hs2 : setsA #[.int .i64 0, .int .i64 0, .int .i64 0] 0 [.int .i64 s'.err, .int .i64 s'.line, .int .i64 s'.col] = #[.int .i64 s'.err, .int .i64 s'.line, .int .i64 s'.col] := by simp [setsA]
          have qa := (hrb.putAll [.string ⟨#[]⟩, .string ⟨#[]⟩, .int .i64 0, .int .i64 0, .int .i64 0, .int .i64 0, .int .i64 0, .int .i64 0, .slice none 0 0, .slice none 0 0, .slice none 0 0, .int .i64 0, .int .i64 0] 0).putsFar (g' := w.heap.size + 1) (by omega) 0 [.int .i64 s'.err, .int .i64 s'.line, .int .i64 s'.col]
          have qb := (hfb.putsFar (g' := w.heap.size) (by omega) 0 [.string ⟨#[]⟩, .string ⟨#[]⟩, .int .i64 0, .int .i64 0, .int .i64 0, .int .i64 0, .int .i64 0, .int .i64 0, .slice none 0 0, .slice none 0 0, .slice none 0 0, .int .i64 0, .int .i64 0]).putAll [.int .i64 s'.err, .int .i64 s'.line, .int .i64 s'.col] 0
          have qc := bl_puts (bl_puts hbl (Nat.le_refl w.heap.size) 0 [.string ⟨#[]⟩, .string ⟨#[]⟩, .int .i64 0, .int .i64 0, .int .i64 0, .int .i64 0, .int .i64 0, .int .i64 0, .slice none 0 0, .slice none 0 0, .slice none 0 0, .int .i64 0, .int .i64 0]) (Nat.le_succ w.heap.size) 0 [.int .i64 s'.err, .int .i64 s'.line, .int .i64 s'.col]
          rw [hs1] at qa
          rw [hs2] at qb
          simp only [puts, Nat.zero_add, Nat.reduceAdd] at qa qb qc
          exact bodyPost_ret (results_cell_cell_row rfl _ _ w.heap.size (w.heap.size + 1) _ _ (planC noPlan (.slice none 0 0) (.slice none 0 0) (.slice none 0 0)) #[.int .i64 s'.err, .int .i64 s'.line, .int .i64 s'.col] _ _ rfl qa.drew rfl qb.drew Tryd.underlying29 rfl (by kernel_rfl) Tryd.underlying34 rfl (by kernel_rfl)) rfl ⟨_, rfl, ⟨(.slice none 0 0), (.slice none 0 0), (.slice none 0 0), [], rfl, Rows.none _ _ _ rfl rfl rfl⟩, bl_drew qc⟩
  · have hq := HQ.out
    rw [RParse_lex hall her] at hq
    subst hq
    have hfn := fault_neqE (li := li) (co := co) her
    clear her hall hown hb1 hbl0 hcap hA hcm
    obtain ⟨z0, z1, z2, z3, z4, z5, z6, z7, z8, z9, z10, z11, z12, f0_, f1_, f2_, f3_, f4_, f5_, f6_, f7_, f8_, f9_, f10_, f11_, f12_⟩ := kz1.c13
    obtain ⟨y0, y1, y2, y0f, y1f, y2f⟩ := fz1.c3
    go_wp2_with fail
    go_region
    all_goals go_wp2_with fail
    have hs1 : setsA (planC noPlan (.slice none 0 0) (.slice none 0 0) (.slice none 0 0)) 0 [.string ⟨#[]⟩, .string ⟨#[]⟩, .int .i64 0, .int .i64 0, .int .i64 0, .int .i64 0, .int .i64 0, .int .i64 0, .slice none 0 0, .slice none 0 0, .slice none 0 0, .int .i64 0, .int .i64 0] = (planC noPlan (.slice none 0 0) (.slice none 0 0) (.slice none 0 0)) := by simp [setsA, planC, noPlan]
    have hs2 : setsA #[.int .i64 0, .int .i64 0, .int .i64 0] 0 [.int .i64 er, .int .i64 li, .int .i64 co] = #[.int .i64 er, .int .i64 li, .int .i64 co] := by simp [setsA]
    have qa := (kz1.putAll [.string ⟨#[]⟩, .string ⟨#[]⟩, .int .i64 0, .int .i64 0, .int .i64 0, .int .i64 0, .int .i64 0, .int .i64 0, .slice none 0 0, .slice none 0 0, .slice none 0 0, .int .i64 0, .int .i64 0] 0).putsFar (g' := w.heap.size + 1) (by omega) 0 [.int .i64 er, .int .i64 li, .int .i64 co]
    have qb := (fz1.putsFar (g' := w.heap.size) (by omega) 0 [.string ⟨#[]⟩, .string ⟨#[]⟩, .int .i64 0, .int .i64 0, .int .i64 0, .int .i64 0, .int .i64 0, .int .i64 0, .slice none 0 0, .slice none 0 0, .slice none 0 0, .int .i64 0, .int .i64 0]).putAll [.int .i64 er, .int .i64 li, .int .i64 co] 0
    have qc := bl_puts (bl_puts hbl1 (Nat.le_refl w.heap.size) 0 [.string ⟨#[]⟩, .string ⟨#[]⟩, .int .i64 0, .int .i64 0, .int .i64 0, .int .i64 0, .int .i64 0, .int .i64 0, .slice none 0 0, .slice none 0 0, .slice none 0 0, .int .i64 0, .int .i64 0]) (Nat.le_succ w.heap.size) 0 [.int .i64 er, .int .i64 li, .int .i64 co]
    rw [hs1] at qa
    rw [hs2] at qb
    simp only [puts, Nat.zero_add, Nat.reduceAdd] at qa qb qc
    exact bodyPost_ret (results_cell_cell_row rfl _ _ w.heap.size (w.heap.size + 1) _ _ (planC noPlan (.slice none 0 0) (.slice none 0 0) (.slice none 0 0)) #[.int .i64 er, .int .i64 li, .int .i64 co] _ _ rfl (qa.alloc _).drew rfl (qb.alloc _).drew Tryd.underlying29 rfl (by kernel_rfl) Tryd.underlying34 rfl (by kernel_rfl)) rfl ⟨_, rfl, ⟨(.slice none 0 0), (.slice none 0 0), (.slice none 0 0), [], rfl, Rows.none _ _ _ rfl rfl rfl⟩, bl_drew (bl_alloc qc _)⟩
end Go.Proofs.YtcgkfgklggjmaaaDoor.Par
end
section
namespace Go.Proofs.YtcgkfgklggjmaaaDoor
set_option linter.unusedVariables false
set_option linter.unusedSimpArgs false
/-! two texts with a line feed between -/
def downT (d : Int) (t : Tok) : Tok := { t with line := t.line + d }
def downR (d : Int) : Except (Int × Int) (List Tok) → Except (Int × Int) (List Tok)
  | .ok ts => .ok (ts.map (downT d))
  | .error (a, b) => .error (a + d, b)
theorem downR_cons (d : Int) (t : Tok) (r : Except (Int × Int) (List Tok)) : downR d (consR t r) = consR (downT d t) (downR d r) := by cases r <;> simp [downR, consR]
theorem lexL_down : ∀ (n : Nat) (l : List UInt8) (line col d : Int), l.length ≤ n → lexL l (line + d) col = downR d (lexL l line col) := by
  intro n
  induction n with
  | zero =>
    intro l line col d hl
    obtain rfl := List.length_eq_zero_iff.1 (Nat.le_zero.1 hl)
    rw [lexL, lexL]; simp [downR, downT]
  | succ n ih =>
    intro l line col d hl
    cases l with
    | nil => rw [lexL, lexL]; simp [downR, downT]
    | cons c cs =>
      rw [List.length_cons] at hl
      rw [lexL, lexL]
      split
      · exact ih _ _ _ _ (by rw [List.length_drop]; omega)
      · split
        · rw [show line + d + 1 = line + 1 + d from by omega]; exact ih _ _ _ _ (by omega)
        · split
          · exact ih _ _ _ _ (by omega)
          · split
            · rfl
            · rw [ih _ line _ d (by rw [List.length_drop]; omega), downR_cons]; rfl
/-- lines do not go past the text's length -/
def boundR (lo hi : Int) : Except (Int × Int) (List Tok) → Prop
  | .ok ts => ∀ t ∈ ts, lo ≤ t.line ∧ t.line ≤ hi
  | .error (a, _) => lo ≤ a ∧ a ≤ hi
theorem boundR_cons {lo hi : Int} {t : Tok} {r : Except (Int × Int) (List Tok)} (h : lo ≤ t.line ∧ t.line ≤ hi) (hr : boundR lo hi r) : boundR lo hi (consR t r) := by
  cases r with
  | ok ts =>
    intro x hx
    rcases List.mem_cons.1 hx with rfl | hx
    · exact h
    · exact hr x hx
  | error e => exact hr
theorem boundR_mono {lo hi lo' hi' : Int} {r : Except (Int × Int) (List Tok)} (h : boundR lo hi r) (h1 : lo' ≤ lo) (h2 : hi ≤ hi') : boundR lo' hi' r := by
  cases r with
  | ok ts => exact fun t ht => by have := h t ht; omega
  | error e => have : lo ≤ e.1 ∧ e.1 ≤ hi := h; show lo' ≤ e.1 ∧ e.1 ≤ hi'; omega
theorem lexL_bound : ∀ (n : Nat) (l : List UInt8) (line col : Int), l.length ≤ n → boundR line (line + l.length) (lexL l line col) := by
  intro n
  induction n with
  | zero =>
    intro l line col hl
    obtain rfl := List.length_eq_zero_iff.1 (Nat.le_zero.1 hl)
    rw [lexL]; intro t ht; simp at ht; subst ht; simp
  | succ n ih =>
    intro l line col hl
    cases l with
    | nil => rw [lexL]; intro t ht; simp at ht; subst ht; simp
    | cons c cs =>
      rw [List.length_cons] at hl
      rw [lexL, List.length_cons]
      split
      · exact boundR_mono (ih _ _ _ (by rw [List.length_drop]; omega)) (by omega) (by rw [List.length_drop]; omega)
      · split
        · exact boundR_mono (ih _ _ _ (by omega)) (by omega) (by omega)
        · split
          · exact boundR_mono (ih _ _ _ (by omega)) (by omega) (by omega)
          · split
            · show line ≤ line ∧ line ≤ _; omega
            · refine boundR_cons (by simp only; omega) (boundR_mono (ih _ _ _ (by rw [List.length_drop]; omega)) (by omega) (by rw [List.length_drop]; omega))
theorem noteLen_app (cs r : List UInt8) : noteLen (cs ++ 10 :: r) = noteLen cs := by
  induction cs with
  | nil => simp [noteLen]
  | cons x cs ih =>
    by_cases hx : x = 10
    · simp [noteLen, hx]
    · simp only [noteLen, List.cons_append, List.takeWhile_cons] at ih ⊢
      simp [hx, ih]
theorem runLen_app (cs r : List UInt8) : runLen (cs ++ 10 :: r) = runLen cs := by
  have h10 : isLet 10 = false := by decide
  induction cs with
  | nil => simp [runLen, h10]
  | cons x cs ih =>
    cases hx : isLet x with
    | true => simp only [runLen, List.cons_append, List.takeWhile_cons] at ih ⊢; simp [hx, ih]
    | false => simp [runLen, hx]
theorem tokLen_app (c : UInt8) (cs r : List UInt8) : tokLen c (cs ++ 10 :: r) = tokLen c cs := by unfold tokLen; rw [runLen_app]
theorem drop_app (cs r : List UInt8) (n : Nat) (h : n ≤ cs.length) : (cs ++ 10 :: r).drop n = cs.drop n ++ 10 :: r := by rw [List.drop_append_of_le_length h]
theorem take_app (cs r : List UInt8) (n : Nat) (h : n ≤ cs.length) : (cs ++ 10 :: r).take n = cs.take n := by rw [List.take_append_of_le_length h]
/-- what follows behind a text whose tokens are told -/
def joinR (r : List UInt8) : Except (Int × Int) (List Tok) → Except (Int × Int) (List Tok) → Prop
  | .error e, x => x = .error e
  | .ok ts, x => ∃ us e, ts = us ++ [e] ∧ x = preR us (lexL r (e.line + 1) 1)
theorem joinR_cons {r : List UInt8} {t : Tok} {y x : Except (Int × Int) (List Tok)} (h : joinR r y x) : joinR r (consR t y) (consR t x) := by
  cases y with
  | error e => have : x = .error e := h; subst this; rfl
  | ok ts =>
    obtain ⟨us, e, rfl, rfl⟩ := h
    refine ⟨t :: us, e, rfl, ?_⟩
    cases lexL r (e.line + 1) 1 <;> rfl
theorem lexL_join (r : List UInt8) : ∀ (n : Nat) (l : List UInt8) (line col : Int), l.length ≤ n → joinR r (lexL l line col) (lexL (l ++ 10 :: r) line col) := by
  intro n
  induction n with
  | zero =>
    intro l line col hl
    obtain rfl := List.length_eq_zero_iff.1 (Nat.le_zero.1 hl)
    rw [List.nil_append, lexL, lexL, if_neg (by decide), if_pos rfl]
    exact ⟨[], _, rfl, by rw [preR_nil]⟩
  | succ n ih =>
    intro l line col hl
    cases l with
    | nil =>
      rw [List.nil_append, lexL, lexL, if_neg (by decide), if_pos rfl]
      exact ⟨[], _, rfl, by rw [preR_nil]⟩
    | cons c cs =>
      rw [List.length_cons] at hl
      rw [List.cons_append, lexL, lexL, noteLen_app, tokLen_app, drop_app _ _ _ (noteLen_le cs), drop_app _ _ _ (tokLen_le c cs), take_app _ _ _ (tokLen_le c cs)]
      split
      · exact ih _ _ _ (by rw [List.length_drop]; omega)
      · split
        · exact ih _ _ _ (by omega)
        · split
          · exact ih _ _ _ (by omega)
          · split
            · rfl
            · exact joinR_cons (ih _ _ _ (by rw [List.length_drop]; omega))
/-- a short text: its tokens, the last one being the end; or the place of what is none -/
theorem all_cases (l : List UInt8) (hl : l.length ≤ 8192) : (∃ us e, lexL l 1 1 = .ok (us ++ [e]) ∧ lexAll l = (us ++ [e], 0, 0, 0)) ∨ ∃ a b, lexL l 1 1 = .error (a, b) ∧ lexAll l = ([], 3, a, b) := by
  have h := lexL_join [] _ l 1 1 (Nat.le_refl _)
  rw [lexAll, if_neg (by omega)]
  cases hr : lexL l 1 1 with
  | ok ts =>
    rw [hr] at h
    obtain ⟨us, e, rfl, _⟩ := h
    exact .inl ⟨us, e, rfl, rfl⟩
  | error p => exact .inr ⟨p.1, p.2, rfl, rfl⟩
theorem all_join_err {a b : List UInt8} {p q : Int} (ha : lexL a 1 1 = .error (p, q)) (hl : (a ++ 10 :: b).length ≤ 8192) : lexAll (a ++ 10 :: b) = ([], 3, p, q) := by
  have h := lexL_join b _ a 1 1 (Nat.le_refl _)
  rw [ha] at h
  have h : lexL (a ++ 10 :: b) 1 1 = .error (p, q) := h
  rw [lexAll, if_neg (by omega), h]
theorem all_join_ok {a b : List UInt8} {us : List Tok} {e : Tok} (ha : lexL a 1 1 = .ok (us ++ [e])) (hl : (a ++ 10 :: b).length ≤ 8192) :
    lexL (a ++ 10 :: b) 1 1 = preR us (downR e.line (lexL b 1 1)) := by
  have h := lexL_join b _ a 1 1 (Nat.le_refl _)
  rw [ha] at h
  obtain ⟨us', e', he, hx⟩ := h
  obtain ⟨rfl, h2⟩ := List.append_inj' he rfl
  injection h2 with h2
  subst h2
  rw [hx, ← lexL_down _ b 1 1 e.line (Nat.le_refl _), show (1 : Int) + e.line = e.line + 1 from by omega]
theorem all_bound {l : List UInt8} {ts : List Tok} (h : lexL l 1 1 = .ok ts) : ∀ t ∈ ts, 1 ≤ t.line ∧ t.line ≤ 1 + l.length := by
  have hb := lexL_bound _ l 1 1 (Nat.le_refl _)
  rw [h] at hb
  exact hb
theorem all_bound_err {l : List UInt8} {p q : Int} (h : lexL l 1 1 = .error (p, q)) : 1 ≤ p ∧ p ≤ 1 + l.length := by
  have hb := lexL_bound _ l 1 1 (Nat.le_refl _)
  rw [h] at hb
  exact hb
theorem count_ok : ∀ (n : Nat) (l : List UInt8) (line col : Int) (ts : List Tok), l.length ≤ n → lexL l line col = .ok ts → ts.length ≤ l.length + 1 := by
  intro n
  induction n with
  | zero =>
    intro l line col ts hl h
    obtain rfl := List.length_eq_zero_iff.1 (Nat.le_zero.1 hl)
    rw [lexL] at h; injection h with h; subst h; simp
  | succ n ih =>
    intro l line col ts hl h
    cases l with
    | nil => rw [lexL] at h; injection h with h; subst h; simp
    | cons c cs =>
      rw [List.length_cons] at hl ⊢
      rw [lexL] at h
      split at h
      · have := ih _ _ _ _ (by rw [List.length_drop]; omega) h
        rw [List.length_drop] at this; omega
      · split at h
        · have := ih _ _ _ _ (by omega) h; omega
        · split at h
          · have := ih _ _ _ _ (by omega) h; omega
          · split at h
            · cases h
            · cases hr : lexL (cs.drop (tokLen c cs)) line (col + 1 + tokLen c cs) with
              | error e => rw [hr] at h; cases h
              | ok ts' =>
                rw [hr] at h
                injection h with h
                subst h
                have := ih _ _ _ _ (by rw [List.length_drop]; omega) hr
                rw [List.length_drop] at this
                rw [List.length_cons]; omega
end Go.Proofs.YtcgkfgklggjmaaaDoor
end
section
namespace Go.Proofs.YtcgkfgklggjmaaaDoor
set_option linter.unusedVariables false
set_option linter.unusedSimpArgs false
/-! tokens put one behind the other, with blanks and notes between -/
def piece (note : List UInt8) (i : Nat) (t : List UInt8) : List UInt8 := t ++ 32 :: (if i % 3 = 0 then 9 :: 35 :: (note ++ [10]) else [])
def built (note : List UInt8) : Nat → List Tok → List UInt8
  | _, [] => []
  | i, t :: ts => piece note i t.text.data.toList ++ built note (i + 1) ts
theorem built_snoc (note : List UInt8) : ∀ (ts : List Tok) (i : Nat) (t : Tok), built note i (ts ++ [t]) = built note i ts ++ piece note (i + ts.length) t.text.data.toList
  | [], i, t => by simp [built]
  | x :: ts, i, t => by
    have ih := built_snoc note ts (i + 1) t
    simp only [List.cons_append, built, ih, List.length_cons, List.append_assoc]
    rw [show i + 1 + ts.length = i + (ts.length + 1) from by omega]
theorem kind_shape {l : List UInt8} (h : kindOf l ≠ 0) : (l = [123] ∨ l = [125] ∨ l = [59]) ∨ (l ≠ [] ∧ l.all isLet = true) := by
  refine Classical.byContradiction fun hc => h ?_
  refine kind_no (fun h1 => hc (.inl h1)) ?_
  by_cases h0 : l = []
  · exact .inl h0
  · cases ha : l.all isLet with
    | false => exact .inr rfl
    | true => exact absurd (.inr ⟨h0, ha⟩) hc
theorem runLen_all (cs r : List UInt8) (h : cs.all isLet = true) : runLen (cs ++ 32 :: r) = cs.length := by
  have h32 : isLet 32 = false := by decide
  induction cs with
  | nil => simp [runLen, h32]
  | cons x cs ih =>
    simp only [List.all_cons, Bool.and_eq_true] at h
    have := ih h.2
    simp only [runLen, List.cons_append, List.takeWhile_cons, h.1, if_true, List.length_cons] at this ⊢
    omega
theorem lexL_sp (r : List UInt8) (line col : Int) : lexL (32 :: r) line col = lexL r line (col + 1) := by
  rw [lexL, if_neg (by decide), if_neg (by decide), if_pos (by decide)]
/-- a token ahead of a blank is read as it stands -/
theorem lex_tok (l r : List UInt8) (line col : Int) (h : kindOf l ≠ 0) : lexL (l ++ 32 :: r) line col = consR ⟨kindOf l, ⟨l.toArray⟩, line, col⟩ (lexL r line (col + l.length + 1)) := by
  have key : ∃ c cs, l = c :: cs ∧ c ≠ 35 ∧ c ≠ 10 ∧ ¬ (c = 32 ∨ c = 9 ∨ c = 13) ∧ tokLen c (cs ++ 32 :: r) = cs.length := by
    rcases kind_shape h with h1 | ⟨h0, h1⟩
    · rcases h1 with rfl | rfl | rfl
      · exact ⟨123, [], rfl, by decide, by decide, by decide, rfl⟩
      · exact ⟨125, [], rfl, by decide, by decide, by decide, rfl⟩
      · exact ⟨59, [], rfl, by decide, by decide, by decide, rfl⟩
    · cases l with
      | nil => exact absurd rfl h0
      | cons c cs =>
        simp only [List.all_cons, Bool.and_eq_true] at h1
        have hc := h1.1
        refine ⟨c, cs, rfl, ?_, ?_, ?_, ?_⟩
        · rintro rfl; revert hc; decide
        · rintro rfl; revert hc; decide
        · rintro (rfl | rfl | rfl) <;> revert hc <;> decide
        · rw [tokLen, if_pos hc, runLen_all cs r h1.2]
  obtain ⟨c, cs, rfl, h35, h10, h3, ht⟩ := key
  rw [List.cons_append, lexL, if_neg h35, if_neg h10, if_neg h3, ht, List.take_left', List.drop_left', if_neg h]
  · rw [lexL_sp]
    rw [List.length_cons, show col + 1 + (cs.length : Int) + 1 = col + ((cs.length + 1 : Nat) : Int) + 1 from by omega]
  · rfl
  · rfl
theorem noteLen_free (note r : List UInt8) (h : ∀ x ∈ note, x ≠ 10) : noteLen (note ++ 10 :: r) = note.length := by
  induction note with
  | nil => simp [noteLen]
  | cons x note ih =>
    have hx := h x (by simp)
    have := ih fun y hy => h y (by simp [hy])
    simp only [noteLen, List.cons_append, List.takeWhile_cons] at this ⊢
    simp [hx, this]
theorem lex_note (note r : List UInt8) (line col : Int) (h : ∀ x ∈ note, x ≠ 10) : lexL (9 :: 35 :: (note ++ 10 :: r)) line col = lexL r (line + 1) 1 := by
  rw [lexL, if_neg (by decide), if_neg (by decide), if_pos (by decide), lexL, if_pos rfl, noteLen_free note r h, List.drop_left' rfl, lexL, if_neg (by decide), if_pos rfl]
def likeR (ts : List Tok) : Except (Int × Int) (List Tok) → Prop
  | .ok us => us.map (fun t => (t.kind, t.text)) = ts.map (fun t => (t.kind, t.text))
  | .error _ => False
theorem likeR_cons {t u : Tok} {ts : List Tok} {r : Except (Int × Int) (List Tok)} (h : likeR ts r) (hk : u.kind = t.kind) (ht : u.text = t.text) : likeR (t :: ts) (consR u r) := by
  cases r with
  | error e => exact h.elim
  | ok us =>
    have h : us.map (fun t => (t.kind, t.text)) = ts.map (fun t => (t.kind, t.text)) := h
    show (u :: us).map (fun t => (t.kind, t.text)) = (t :: ts).map (fun t => (t.kind, t.text))
    rw [List.map_cons, List.map_cons, h, hk, ht]
/-- the tokens of what was put together are the same ones, but for places -/
theorem lex_built (note : List UInt8) (hn : ∀ x ∈ note, x ≠ 10) (e : Tok) (he : e.kind = 0 ∧ e.text = ⟨#[]⟩) : ∀ (us : List Tok) (i : Nat) (line col : Int), (∀ t ∈ us, kindOf t.text.data.toList = t.kind ∧ t.kind ≠ 0) →
    likeR (us ++ [e]) (lexL (built note i (us ++ [e])) line col)
  | [], i, line, col, _ => by
    have h0 : built note i ([] ++ [e]) = 32 :: (if i % 3 = 0 then 9 :: 35 :: (note ++ 10 :: []) else []) := by
      simp [built, piece, he.2]
    rw [h0, lexL_sp]
    by_cases hi : i % 3 = 0
    · rw [if_pos hi, lex_note note [] _ _ hn, lexL]
      simp [likeR, he]
    · rw [if_neg hi, lexL]
      simp [likeR, he]
  | t :: us, i, line, col, h => by
    have ht := h t (by simp)
    have hk : kindOf t.text.data.toList ≠ 0 := by rw [ht.1]; exact ht.2
    have hs : built note i (t :: us ++ [e]) = t.text.data.toList ++ 32 :: ((if i % 3 = 0 then 9 :: 35 :: (note ++ [10]) else []) ++ built note (i + 1) (us ++ [e])) := by
      simp [built, piece]
    rw [hs, lex_tok _ _ _ _ hk]
    refine likeR_cons ?_ ht.1 (by simp)
    by_cases hi : i % 3 = 0
    · rw [if_pos hi]
      have e1 : 9 :: 35 :: (note ++ [10]) ++ built note (i + 1) (us ++ [e]) = 9 :: 35 :: (note ++ 10 :: built note (i + 1) (us ++ [e])) := by simp
      rw [e1, lex_note note _ _ _ hn]
      exact lex_built note hn e he us (i + 1) _ _ fun x hx => h x (by simp [hx])
    · rw [if_neg hi, List.nil_append]
      exact lex_built note hn e he us (i + 1) _ _ fun x hx => h x (by simp [hx])
theorem shape_ok : ∀ (n : Nat) (l : List UInt8) (line col : Int) (ts : List Tok), l.length ≤ n → lexL l line col = .ok ts → ∃ us e, ts = us ++ [e] ∧ (e.kind = 0 ∧ e.text = ⟨#[]⟩) ∧ ∀ t ∈ us, kindOf t.text.data.toList = t.kind ∧ t.kind ≠ 0 := by
  intro n
  induction n with
  | zero =>
    intro l line col ts hl h
    obtain rfl := List.length_eq_zero_iff.1 (Nat.le_zero.1 hl)
    rw [lexL] at h; injection h with h; subst h
    exact ⟨[], _, rfl, ⟨rfl, rfl⟩, by simp⟩
  | succ n ih =>
    intro l line col ts hl h
    cases l with
    | nil =>
      rw [lexL] at h; injection h with h; subst h
      exact ⟨[], _, rfl, ⟨rfl, rfl⟩, by simp⟩
    | cons c cs =>
      rw [List.length_cons] at hl
      rw [lexL] at h
      split at h
      · exact ih _ _ _ _ (by rw [List.length_drop]; omega) h
      · split at h
        · exact ih _ _ _ _ (by omega) h
        · split at h
          · exact ih _ _ _ _ (by omega) h
          · split at h
            · cases h
            · rename_i hk
              cases hr : lexL (cs.drop (tokLen c cs)) line (col + 1 + tokLen c cs) with
              | error e => rw [hr] at h; cases h
              | ok ts' =>
                rw [hr] at h
                injection h with h
                subst h
                obtain ⟨us, e, rfl, he, hu⟩ := ih _ _ _ _ (by rw [List.length_drop]; omega) hr
                refine ⟨_ :: us, e, rfl, he, fun t ht => ?_⟩
                rcases List.mem_cons.1 ht with rfl | ht
                · exact ⟨rfl, hk⟩
                · exact hu t ht
/-- what LexNotes hangs on -/
theorem all_built (l note : List UInt8) (hn : ∀ x ∈ note, x ≠ 10) {ts : List Tok} (h : lexL l 1 1 = .ok ts) (hl : (built note 0 ts).length ≤ 8192) :
    ∃ us, lexAll (built note 0 ts) = (us, 0, 0, 0) ∧ us.map (fun t => (t.kind, t.text)) = ts.map (fun t => (t.kind, t.text)) := by
  obtain ⟨us, e, rfl, he, hu⟩ := shape_ok _ l 1 1 ts (Nat.le_refl _) h
  have hb := lex_built note hn e he us 0 1 1 hu
  rw [lexAll, if_neg (by omega)]
  cases hr : lexL (built note 0 (us ++ [e])) 1 1 with
  | error p => rw [hr] at hb; exact hb.elim
  | ok vs =>
    rw [hr] at hb
    exact ⟨vs, rfl, hb⟩
end Go.Proofs.YtcgkfgklggjmaaaDoor
end
section
namespace Go.Proofs.YtcgkfgklggjmaaaDoor
set_option linter.unusedVariables false
set_option linter.unusedSimpArgs false
/-! the tokens of a text that stands written out -/
def lexF : Nat → List UInt8 → Int → Int → Except (Int × Int) (List Tok)
  | 0, _, _, _ => .ok []
  | _ + 1, [], line, col => .ok [⟨0, ⟨#[]⟩, line, col⟩]
  | f + 1, c :: cs, line, col =>
    if c = 35 then lexF f (cs.drop (noteLen cs)) line (col + 1 + noteLen cs)
    else if c = 10 then lexF f cs (line + 1) 1
    else if c = 32 ∨ c = 9 ∨ c = 13 then lexF f cs line (col + 1)
    else if kindOf (c :: cs.take (tokLen c cs)) = 0 then .error (line, col)
    else consR ⟨kindOf (c :: cs.take (tokLen c cs)), ⟨(c :: cs.take (tokLen c cs)).toArray⟩, line, col⟩ (lexF f (cs.drop (tokLen c cs)) line (col + 1 + tokLen c cs))
theorem lexF_eq : ∀ (f : Nat) (l : List UInt8) (line col : Int), l.length < f → lexF f l line col = lexL l line col
  | 0, _, _, _, h => absurd h (by omega)
  | f + 1, [], line, col, _ => by rw [lexL, lexF]
  | f + 1, c :: cs, line, col, h => by
    rw [List.length_cons] at h
    rw [lexL, lexF]
    rw [lexF_eq f (cs.drop (noteLen cs)) _ _ (by rw [List.length_drop]; omega), lexF_eq f cs _ _ (by omega), lexF_eq f cs _ _ (by omega), lexF_eq f (cs.drop (tokLen c cs)) _ _ (by rw [List.length_drop]; omega)]
def aText1 : List UInt8 := [112, 108, 97, 110, 32, 112, 49, 59]
def aText2 : List UInt8 := [32, 50, 48, 50, 52, 45, 48, 50, 45, 51, 48]
def aText3 : List UInt8 := [50, 48, 50, 52, 45, 48, 50, 45, 50, 57]
def aToks1 : List Tok := [⟨2, ⟨#[112, 108, 97, 110]⟩, 1, 1⟩, ⟨1, ⟨#[112, 49]⟩, 1, 6⟩, ⟨5, ⟨#[59]⟩, 1, 8⟩, ⟨0, ⟨#[]⟩, 1, 9⟩]
theorem a_toks1 : lexAll aText1 = (aToks1, 0, 0, 0) := by
  rw [lexAll, if_neg (by decide), ← lexF_eq 20 aText1 1 1 (by decide)]
  have : lexF 20 aText1 1 1 = .ok aToks1 := by kernel_rfl
  rw [this]
theorem a_toks2 : lexAll aText2 = ([], 3, 1, 2) := by
  rw [lexAll, if_neg (by decide), ← lexF_eq 20 aText2 1 1 (by decide)]
  have : lexF 20 aText2 1 1 = .error (1, 2) := by kernel_rfl
  rw [this]
theorem a_kind3 : kindOf aText3 = 4 := by kernel_rfl
end Go.Proofs.YtcgkfgklggjmaaaDoor
end
section
namespace Go.Proofs.YtcgkfgklggjmaaaDoor.Dec
set_option linter.unusedVariables false
set_option linter.unusedSimpArgs false
open Go.RowKit
set_option maxHeartbeats 4000000 in
theorem power_any (k : Nat) (w : World) (hk : k ≤ 9) :
    Calls Tryd.prog 145 #[.int .i64 k] w fun e w' => e = .returned (.int .i64 ((10 ^ k : Nat) : Int)) ∧ w' = w := by
  obtain ⟨P, hP⟩ : ∃ P : Int, ((10 ^ k : Nat) : Int) = P := ⟨_, rfl⟩
  rw [hP]
  have HP := Lib.hid hP
  clear hP
  go_enter Tryd.func145, Tryd.ntmps145
  go_wp2_with fail
  go_loop [3, 5] (fun v3 v5 => ∃ i : Nat, i ≤ k ∧ v5 = .int .i64 i ∧ v3 = .int .i64 ((10 ^ i : Nat) : Int)) (fun _ v5 => k - (intOf v5).toNat)
  case atStart => exact ⟨0, Nat.zero_le _, rfl, rfl⟩
  case round =>
    obtain ⟨i, hi, rfl, rfl⟩ := hrel
    by_cases hlt : i < k
    · have hb := pow_bd i (by omega)
      have hs : ((10 ^ (i + 1) : Nat) : Int) = ((10 ^ i : Nat) : Int) * 10 := by rw [Nat.pow_succ]; push_cast; rfl
      have HS := Lib.hid hs
      clear hs
      generalize ((10 ^ i : Nat) : Int) = p at *
      obtain ⟨b1, b2⟩ := hb
      go_wp2
      go_round
      case rel => exact ⟨i + 1, by omega, by go_num, by rw [HS.out]⟩
      case measure => simp [intOf]; omega
    · obtain rfl : i = k := by omega
      rw [HP.out]
      go_wp2
      go_ret
      exact ⟨rfl, rfl⟩
structure LB (w w' : World) : Prop where
  out : Below w.heap.size w w'
theorem LB.drew {w v : World} (h : LB w v) : LB w v.drew := ⟨bl_drew h.out⟩
theorem LB.call {w v w' : World} (h : LB w v) (hb : Below v.heap.size v w') : LB w w' := ⟨bl_call h.out hb⟩
theorem LB.start (w : World) : LB w w := ⟨bl_refl w⟩
theorem LB.alloc {w v : World} (h : LB w v) (o : Obj) : LB w (v.alloc o) := ⟨bl_alloc h.out o⟩
theorem itoa_any (n : Nat) (w : World) (hT : DT w) (h : n < 9223372036854775808) :
    Calls Tryd.prog 22 #[.int .i64 n] w fun e w' => e = .returned (.string ⟨(Lib.decDigits n).toArray⟩) ∧ Below w.heap.size w w' := by
  refine (Tryd.strconv_Itoa n (by omega) (by omega) w hT.tab).mono ?_
  rintro e w1 ⟨rfl, q, os, rfl⟩
  rw [Lib.itoa_nonneg]
  exact ⟨rfl, bl_growN (bl_refl w) q os⟩
theorem dec_len (n k : Nat) (h : n < 10 ^ k) (hk : 1 ≤ k) : (Lib.decDigits n).length ≤ k := (pad_eq k n h hk).1
set_option maxHeartbeats 4000000 in
set_option maxRecDepth 100000 in
theorem dtext_any (n places : Int) (w : World) (hT : DT w) (hn : n ≤ 9223372036854775807) :
    Calls Tryd.prog 118 #[.int .i64 n, .int .i64 places] w fun e w' => e = .returned (.string ⟨(textL n places).toArray⟩) ∧ Below w.heap.size w w' := by
  by_cases hbad : n < 0 ∨ places < 0 ∨ 9 < places
  · have e1 : textL n places = [] := by unfold textL; rw [if_pos hbad]
    rw [e1]
    have hcc : n < 0 ∨ (0 ≤ n ∧ places < 0) ∨ (0 ≤ n ∧ 0 ≤ places ∧ 9 < places) := by omega
    clear hbad e1
    rcases hcc with h | ⟨h0, h⟩ | ⟨h0, h1, h⟩
    all_goals
      go_enter Tryd.func118, Tryd.ntmps118
      go_wp2_with fail
      go_ret
      exact ⟨rfl, bl_refl w⟩
  · obtain ⟨k, hk⟩ : ∃ k : Nat, places = (k : Int) := ⟨places.toNat, by omega⟩
    obtain ⟨N, hN⟩ : ∃ N : Nat, n = (N : Int) := ⟨n.toNat, by omega⟩
    subst hk hN
    have hk9 : k ≤ 9 := by omega
    have hN' : N < 9223372036854775808 := by omega
    have e1 : textL N k = Lib.decDigits (N / 10 ^ k) ++ tailL (fracL N k) := by unfold textL textN; rw [if_neg hbad, Int.toNat_natCast, Int.toNat_natCast]
    have hpp : 0 < 10 ^ k := Nat.pow_pos (by decide)
    have hp := pow_bd k hk9
    have hq : ((N : Int).tdiv ((10 ^ k : Nat) : Int)) = ((N / 10 ^ k : Nat) : Int) := by rw [Int.ofNat_tdiv]
    have hr : ((N : Int).tmod ((10 ^ k : Nat) : Int)) = ((N % 10 ^ k : Nat) : Int) := by rw [Int.ofNat_tmod]
    have hql : N / 10 ^ k < 9223372036854775808 := Nat.lt_of_le_of_lt (Nat.div_le_self _ _) hN'
    have hrl : N % 10 ^ k < 10 ^ k := Nat.mod_lt _ hpp
    have hrb : N % 10 ^ k < 9223372036854775808 := Nat.lt_of_le_of_lt (Nat.mod_le _ _) hN'
    have hf := frac_nil k N
    have hpd : N % 10 ^ k ≠ 0 → (Lib.decDigits (N % 10 ^ k)).length ≤ k ∧ List.replicate (k - (Lib.decDigits (N % 10 ^ k)).length) 48 ++ Lib.decDigits (N % 10 ^ k) = digL N k := fun h => by
      have hk1 : 1 ≤ k := by
        cases k with
        | zero => exact absurd (Nat.mod_one N) h
        | succ k => omega
      have := pad_eq k _ hrl hk1
      rw [digL_mod] at this
      exact this
    have hkk := fun v => power_any k v hk9
    rw [e1]
    obtain ⟨f, hfr⟩ : ∃ f, fracL N k = f := ⟨_, rfl⟩
    have hft : Lib.trimRightB (digL N k) 48 = f := hfr
    have hfl : f.length ≤ k := by rw [← hfr]; exact frac_len N k
    have hDl : (digL N k).length = k := digL_len k N
    rw [hfr] at hf ⊢
    clear e1 hbad hfr
    have hb1 : ¬ (N : Int) < 0 := by omega
    generalize hP : ((10 ^ k : Nat) : Int) = P at *
    have hPne : ¬ P = 0 := by omega
    have hPn1 : ¬ P = -1 := by omega
    clear hP hrl
    generalize N / 10 ^ k = q at *
    generalize N % 10 ^ k = r at *
    generalize digL N k = D at *
    have hwq : IntKind.i64.wrap (q : Int) = (q : Int) := by rw [IntKind.wrap_i64]; omega
    have hq21 : (Lib.decDigits q).length ≤ 20 := by rw [Lib.decDigits_length]; exact Lib.nDigits_le20 q (by omega)
    have hitq := fun v hb => itoa_any q v (hT.below hb) hql
    generalize Lib.decDigits q = Q at *
    by_cases hr0 : r = 0
    · have hf0 : f = [] := hf.2 hr0
      subst hf0 hr0
      go_enter Tryd.func118, Tryd.ntmps118
      go_wp2_with fail
      refine (hkk _).mono ?_
      rintro e w1 ⟨rfl, rfl⟩
      go_wp2_with fail
      have hLB := LB.start w1
      go_region_held3 (fun w' => LB w1 w')
        (first | exact LB.drew (by assumption) | (refine LB.call ?_ hb6; assumption))
        ((go_at_call 22; refine (hitq _ (LB.out (by assumption))).mono ?_; rintro e w6 ⟨rfl, hb6⟩))
      all_goals
        rename_i hLB2
        go_wp2_with fail
        go_ret
        refine ⟨?_, LB.out (by assumption)⟩
        simp [tailL]
    · have hf0 : f ≠ [] := fun h => hr0 (hf.1 h)
      obtain ⟨pl, pd⟩ := hpd hr0
      have hrz : ((r : Nat) : Int) ≠ 0 := by omega
      have htl : tailL f = 46 :: f := by unfold tailL; rw [if_neg hf0]
      rw [htl]
      clear hpd hf htl hf0
      obtain ⟨ds, hds⟩ : ∃ ds, Lib.decDigits r = ds := ⟨_, rfl⟩
      have hit := fun v hb => itoa_any r v (hT.below hb) hrb
      rw [hds] at pl pd hit
      have HDS := Lib.hid hds
      clear hds
      have hsz : (ByteArray.mk ds.toArray).size = ds.length := by simp [ByteArray.size]
      have hcat : (ByteArray.mk (Array.replicate (k - ds.length) (48 : UInt8))) ++ (ByteArray.mk ds.toArray) = ⟨D.toArray⟩ := by
        rw [← pd]; apply ByteArray.ext; simp
      have HC := Lib.hid hcat
      clear hcat pd
      have HFT := Lib.hid hft
      have eQ : (ByteArray.mk Q.toArray).size = Q.length := by simp [ByteArray.size]
      have eF : (ByteArray.mk f.toArray).size = f.length := by simp [ByteArray.size]
      have eD : (ByteArray.mk D.toArray).size = D.length := by simp [ByteArray.size]
      have eR : (ByteArray.mk (Array.replicate (k - ds.length) (48 : UInt8))).size = k - ds.length := by simp [ByteArray.size]
      have v1 : ¬ 9223372036854775807 < k - ds.length + ds.length := by omega
      have v2 : ¬ 9223372036854775807 < Q.length + 1 := by omega
      have v3 : ¬ 9223372036854775807 < Q.length + 1 + f.length := by omega
      clear hft
      have hc : (k : Int) - (ds.length : Int) = ((k - ds.length : Nat) : Int) := by omega
      go_enter Tryd.func118, Tryd.ntmps118
      go_wp2_with fail
      refine (hkk _).mono ?_
      rintro e w1 ⟨rfl, rfl⟩
      go_wp2_with fail
      have hLB := LB.start w1
      go_region_held3 (fun w' => LB w1 w')
        (first | exact LB.drew (by assumption) | (refine LB.call ?_ hb6; assumption))
        ((go_at_call 22; refine (hitq _ (LB.out (by assumption))).mono ?_; rintro e w6 ⟨rfl, hb6⟩))
      all_goals
        rename_i hLB2
        go_wp2_with fail
        refine (hit _ (LB.out (by assumption))).mono ?_
        rintro e w7 ⟨rfl, hb7⟩
        have hLB7 := LB.call hLB2 hb7
        go_wp2_with fail
        refine (Tryd.strings_Repeat _ (k - ds.length) _ (by omega) ?_).mono ?_
        · show 1 * (k - ds.length) ≤ _; omega
        rintro e w8 ⟨rfl, hb8⟩
        rw [repeat_char]
        have hLB8 := LB.call hLB7 hb8
        go_wp2_with fail
        rw [HC.out]
        refine (Tryd.strings_TrimRight_one ⟨D.toArray⟩ 48 (by decide) _ (by rw [eD]; omega)).mono ?_
        rintro e w9 ⟨rfl, rfl⟩
        rw [show Lib.trimRightB (ByteArray.mk D.toArray).data.toList 48 = f from HFT.out]
        go_wp2_with fail
        go_ret
        refine ⟨?_, hLB8.out⟩
        refine congrArg (fun b => Ending.returned (.string b)) ?_
        apply ByteArray.ext; simp
end Go.Proofs.YtcgkfgklggjmaaaDoor.Dec
end
section
namespace Go.Proofs.YtcgkfgklggjmaaaDoor.Par
set_option linter.unusedVariables false
set_option linter.unusedSimpArgs false
/-! the plan of one fee whose amount is a number's digits -/
def nPre : List UInt8 := [112, 108, 97, 110, 32, 112, 32, 99, 117, 114, 114, 101, 110, 99, 121, 32, 99, 59, 32, 104, 111, 114, 105, 122, 111, 110, 32, 50, 48, 50, 52, 45, 48, 49, 45, 48, 49, 32, 50, 48, 50, 52, 45, 48, 49, 45, 48, 50, 59]
def nUs : List Tok := [⟨2, ⟨#[112, 108, 97, 110]⟩, 1, 1⟩, ⟨1, ⟨#[112]⟩, 1, 6⟩, ⟨2, ⟨#[99, 117, 114, 114, 101, 110, 99, 121]⟩, 1, 8⟩, ⟨1, ⟨#[99]⟩, 1, 17⟩, ⟨5, ⟨#[59]⟩, 1, 18⟩, ⟨2, ⟨#[104, 111, 114, 105, 122, 111, 110]⟩, 1, 20⟩, ⟨4, ⟨#[50, 48, 50, 52, 45, 48, 49, 45, 48, 49]⟩, 1, 28⟩, ⟨4, ⟨#[50, 48, 50, 52, 45, 48, 49, 45, 48, 50]⟩, 1, 39⟩, ⟨5, ⟨#[59]⟩, 1, 49⟩]
def nToks (T : ByteArray) (c1 c2 : Int) : List Tok := nUs ++ [⟨2, ⟨#[102, 101, 101]⟩, 2, 1⟩, ⟨3, T, 2, 5⟩, ⟨5, ⟨#[59]⟩, 2, c1⟩, ⟨0, ⟨#[]⟩, 2, c2⟩]
def nPlan (v : Int) : Plan := ⟨⟨#[112]⟩, ⟨#[99]⟩, (2024, 1, 1), (2024, 1, 2), [], [⟨v, noWin, 2, 1⟩], [], 1, 1⟩
def nHead : Plan := ⟨⟨#[112]⟩, ⟨#[99]⟩, (2024, 1, 1), (2024, 1, 2), [], [], [], 1, 1⟩
def nS1 (T : ByteArray) (c1 c2 : Int) : St := ⟨[⟨2, ⟨#[102, 101, 101]⟩, 2, 1⟩, ⟨3, T, 2, 5⟩, ⟨5, ⟨#[59]⟩, 2, c1⟩, ⟨0, ⟨#[]⟩, 2, c2⟩], 0, 0, 0⟩
def nS2 (T : ByteArray) (c1 c2 : Int) : St := ⟨[⟨3, T, 2, 5⟩, ⟨5, ⟨#[59]⟩, 2, c1⟩, ⟨0, ⟨#[]⟩, 2, c2⟩], 0, 0, 0⟩
def nS3 (c1 c2 : Int) : St := ⟨[⟨5, ⟨#[59]⟩, 2, c1⟩, ⟨0, ⟨#[]⟩, 2, c2⟩], 0, 0, 0⟩
theorem nplan_items (T : ByteArray) (c1 c2 : Int) : P.plan dp npV (nToks T c1 c2) = P.items dp npV 3 (P.item dp npV nHead (nS1 T c1 c2)).1 (P.item dp npV nHead (nS1 T c1 c2)).2 := by
  have e : P.head dp ⟨nToks T c1 c2, 0, 0, 0⟩ = (nHead, nS1 T c1 c2) := by kernel_rfl
  unfold P.plan
  rw [e]
  show P.items dp npV 4 nHead (nS1 T c1 c2) = _
  rw [P.items]
  rw [if_pos ⟨rfl, (by decide : (2 : Int) ≠ 0)⟩]
theorem nitem (T : ByteArray) (c1 c2 : Int) (x : Fee × St) (h : P.fee dp npV 2 1 (nS2 T c1 c2) = x) : P.item dp npV nHead (nS1 T c1 c2) = ({ nHead with fees := [x.1] }, x.2) := by
  have ho : P.one [wMeter, wFee, wCharge] 0 (nS1 T c1 c2) = (1, nS2 T c1 c2) := by kernel_rfl
  rw [P_item_fee ho rfl]
  subst h
  rfl
theorem nnumber (T : ByteArray) (c1 c2 : Int) : P.number npV 0 1000000000000 (nS2 T c1 c2) = ((npV T 0 1000000000000).1, if (npV T 0 1000000000000).2 = 1 then fail 4 ⟨3, T, 2, 5⟩ (nS3 c1 c2) else if (npV T 0 1000000000000).2 = 2 then fail 6 ⟨3, T, 2, 5⟩ (nS3 c1 c2) else nS3 c1 c2) := by
  have hk : P.kind 3 (nS2 T c1 c2) = (T, nS3 c1 c2) := by kernel_rfl
  unfold P.number
  simp only [hk]
  rfl
theorem nplan_ok (T : ByteArray) (c1 c2 v : Int) (h : npV T 0 1000000000000 = (v, 0)) : (P.plan dp npV (nToks T c1 c2)).1 = nPlan v ∧ (P.plan dp npV (nToks T c1 c2)).2.err = 0 := by
  have hn := nnumber T c1 c2
  rw [h] at hn
  have hf : P.fee dp npV 2 1 (nS2 T c1 c2) = (⟨v, noWin, 2, 1⟩, ⟨[⟨0, ⟨#[]⟩, 2, c2⟩], 0, 0, 0⟩) := by
    unfold P.fee
    rw [hn]
    kernel_rfl
  rw [nplan_items, nitem _ _ _ _ hf]
  exact ⟨by kernel_rfl, by kernel_rfl⟩
theorem nplan_no (T : ByteArray) (c1 c2 v : Int) (h : npV T 0 1000000000000 = (v, 2)) : ((P.plan dp npV (nToks T c1 c2)).2.err, (P.plan dp npV (nToks T c1 c2)).2.line, (P.plan dp npV (nToks T c1 c2)).2.col) = (6, 2, 5) := by
  have hn := nnumber T c1 c2
  rw [h] at hn
  have hf : P.fee dp npV 2 1 (nS2 T c1 c2) = (⟨v, noWin, 2, 1⟩, fail 6 ⟨3, T, 2, 5⟩ (nS3 c1 c2)) := by
    unfold P.fee
    rw [hn]
    kernel_rfl
  rw [nplan_items, nitem _ _ _ _ hf]
  rfl
theorem runLen_semi (cs r : List UInt8) (h : cs.all isLet = true) : runLen (cs ++ 59 :: r) = cs.length := by
  have h32 : isLet 59 = false := by decide
  induction cs with
  | nil => simp [runLen, h32]
  | cons x cs ih =>
    simp only [List.all_cons, Bool.and_eq_true] at h
    have := ih h.2
    simp only [runLen, List.cons_append, List.takeWhile_cons, h.1, if_true, List.length_cons] at this ⊢
    omega
theorem lex_semi (l r : List UInt8) (line col : Int) (h : kindOf l ≠ 0) (h1 : l ≠ [] ∧ l.all isLet = true) : lexL (l ++ 59 :: r) line col = consR ⟨kindOf l, ⟨l.toArray⟩, line, col⟩ (consR ⟨5, ⟨#[59]⟩, line, col + l.length⟩ (lexL r line (col + l.length + 1))) := by
  obtain ⟨c, cs, rfl, h35, h10, h3, ht⟩ : ∃ c cs, l = c :: cs ∧ c ≠ 35 ∧ c ≠ 10 ∧ ¬ (c = 32 ∨ c = 9 ∨ c = 13) ∧ tokLen c (cs ++ 59 :: r) = cs.length := by
    cases l with
    | nil => exact absurd rfl h1.1
    | cons c cs =>
      have h2 := h1.2
      simp only [List.all_cons, Bool.and_eq_true] at h2
      have hc := h2.1
      refine ⟨c, cs, rfl, ?_, ?_, ?_, ?_⟩
      · rintro rfl; revert hc; decide
      · rintro rfl; revert hc; decide
      · rintro (rfl | rfl | rfl) <;> revert hc <;> decide
      · rw [tokLen, if_pos hc, runLen_semi cs r h2.2]
  rw [List.cons_append, lexL, if_neg h35, if_neg h10, if_neg h3, ht, List.take_left', List.drop_left', if_neg h]
  · have hk : kindOf [59] = 5 := by kernel_rfl
    rw [List.length_cons, lexL, if_neg (by decide), if_neg (by decide), if_neg (by decide), show tokLen 59 r = 0 from rfl, List.take_zero, List.drop_zero, if_neg (by rw [hk]; decide), hk]
    rw [show col + 1 + (cs.length : Int) = col + ((cs.length + 1 : Nat) : Int) from by omega, show col + ((cs.length + 1 : Nat) : Int) + 1 + ((0 : Nat) : Int) = col + ((cs.length + 1 : Nat) : Int) + 1 from by omega]
  · rfl
  · rfl
theorem n_pre : lexL nPre 1 1 = .ok (nUs ++ [⟨0, ⟨#[]⟩, 1, 50⟩]) := by
  rw [← lexF_eq 100 nPre 1 1 (by decide)]
  kernel_rfl
theorem n_lex (l : List UInt8) (hk : kindOf l = 3) (hl : l ≠ [] ∧ l.all isLet = true) (hn : l.length ≤ 1000) : lexAll (nPre ++ 10 :: ([102, 101, 101] ++ 32 :: (l ++ [59]))) = (nToks ⟨l.toArray⟩ (5 + l.length) (5 + l.length + 1), 0, 0, 0) := by
  have hj := lexL_join ([102, 101, 101] ++ 32 :: (l ++ [59])) _ nPre 1 1 (Nat.le_refl _)
  rw [n_pre] at hj
  obtain ⟨us, e, h1, h2⟩ := hj
  obtain ⟨h3, h4⟩ := List.append_inj' h1 rfl
  obtain rfl := h3
  obtain rfl : (⟨0, ⟨#[]⟩, 1, 50⟩ : Tok) = e := by injection h4
  have hf : kindOf [102, 101, 101] = 2 := by kernel_rfl
  rw [lex_tok [102, 101, 101] _ _ _ (by rw [hf]; decide), lex_semi l [] _ _ (by rw [hk]; decide) hl, lexL, hk, hf] at h2
  unfold lexAll
  rw [if_neg (by simp [nPre]; omega), h2]
  rfl
theorem parse_digits (n : Nat) (hn : n < 9223372036854775808) : Dec.parseL (Lib.decDigits n) 0 1000000000000 = if 1000000000000 < n then (0, 2) else ((n : Int), 0) := by
  have h : Dec.fracL n 0 = [] := rfl
  have ht : Dec.textN n 0 = Lib.decDigits n := by rw [Dec.textN, Dec.tailL, if_pos h, List.append_nil, Nat.pow_zero, Nat.div_one]
  have hf := Dec.frac_fill n 0
  have hform := Dec.form_textN n 0
  have hv := Dec.val_text n 0
  rw [ht, if_pos h] at hform
  rw [h] at hf
  unfold Dec.parseL Dec.parseW
  rw [hform, Dec.cut_whole (Dec.dec_all _), if_neg (by simp), if_neg (by simp)]
  simp only [hf]
  rw [Nat.pow_zero, Nat.div_one] at hv
  rw [show Int.toNat 0 = 0 from rfl, hf, hv]
  by_cases hm : 1000000000000 < n
  · rw [if_pos (.inr (by omega)), if_pos hm]
  · rw [if_neg (by omega), if_neg hm]
theorem dec_let (n : Nat) : (Lib.decDigits n).all isLet = true := by
  have h := Dec.dec_all n
  rw [List.all_eq_true] at h ⊢
  intro x hx
  have := h x hx
  simp only [Dec.isDig, isDig, decide_eq_true_eq, Bool.and_eq_true] at this
  simp only [isLet, decide_eq_true_eq]
  omega
theorem kind_digits (n : Nat) : kindOf (Lib.decDigits n) = 3 := by
  have hne := Dec.dec_ne n
  have hd := Dec.dec_all n
  have hlead := Dec.lead_dec n
  rw [kind_let (dec_let n) hne]
  generalize Lib.decDigits n = l at *
  have hw : isWord l = false := by
    cases h : isWord l with
    | false => rfl
    | true =>
      have hm : l ∈ wordsL := by simpa [isWord] using h
      have ha : ∀ w ∈ wordsL, w.all Dec.isDig = false := by decide
      rw [ha l hm] at hd
      cases hd
  have hd' : l.all isDig = true := hd
  have hf : digFirst l = true := by
    cases l with
    | nil => exact absurd rfl hne
    | cons c cs =>
      simp only [List.all_cons, Bool.and_eq_true] at hd'
      exact hd'.1
  have hb : digitsB l = true := by
    unfold digitsB
    rw [hd']
    cases l with
    | nil => exact absurd rfl hne
    | cons c cs => rfl
  have hn : numForm l = 1 := by
    have hl : ¬ (1 < l.length ∧ l.getD 0 0 = 48) := by
      rintro ⟨a1, a2⟩
      cases l with
      | nil => exact absurd rfl hne
      | cons c cs =>
        obtain rfl : c = 48 := a2
        unfold Dec.leadB at hlead
        rw [decide_eq_true a1] at hlead
        cases hlead
    unfold numForm
    rw [Dec.cut_whole hd]
    simp only
    rw [if_neg (by rw [hb]; exact fun h => h.elim (fun h => by cases h) hl), if_pos trivial]
  rw [hw, hf, hn]
  simp
/-- what Parse says of the plan with one fee of an amount -/
theorem n_parse (n : Nat) (hn : n < 9223372036854775808) : RParse (nPre ++ 10 :: ([102, 101, 101] ++ 32 :: (Lib.decDigits n ++ [59]))) = if 1000000000000 < n then (noPlan, 6, 2, 5) else (nPlan n, 0, 0, 0) := by
  have hlen : (Lib.decDigits n).length ≤ 19 := Dec.dec_len n 19 (by omega) (by decide)
  have hlex := n_lex (Lib.decDigits n) (kind_digits n) ⟨Dec.dec_ne n, dec_let n⟩ (by omega)
  have hp : npV ⟨(Lib.decDigits n).toArray⟩ 0 1000000000000 = if 1000000000000 < n then (0, 2) else ((n : Int), 0) := parse_digits n hn
  by_cases hm : 1000000000000 < n
  · rw [if_pos hm] at hp ⊢
    have h := nplan_no ⟨(Lib.decDigits n).toArray⟩ (5 + (Lib.decDigits n).length) (5 + (Lib.decDigits n).length + 1) 0 hp
    simp only [Prod.mk.injEq] at h
    rw [PParse_bad hlex (by rw [h.1]; decide), h.1, h.2.1, h.2.2]
  · rw [if_neg hm] at hp ⊢
    have h := nplan_ok ⟨(Lib.decDigits n).toArray⟩ (5 + (Lib.decDigits n).length) (5 + (Lib.decDigits n).length + 1) n hp
    rw [PParse_ok hlex h.2, h.1]
end Go.Proofs.YtcgkfgklggjmaaaDoor.Par
end
section
namespace Go.Proofs.YtcgkfgklggjmaaaDoor.Par
set_option linter.unusedVariables false
set_option linter.unusedSimpArgs false
open Go.RowKit
/-- a number's eight bytes -/
def octets (n : Int) : List Int := [IntKind.u64.wrap n % 256, IntKind.u64.wrap n / 256 % 256, IntKind.u64.wrap n / 65536 % 256, IntKind.u64.wrap n / 16777216 % 256, IntKind.u64.wrap n / 4294967296 % 256, IntKind.u64.wrap n / 1099511627776 % 256, IntKind.u64.wrap n / 281474976710656 % 256, IntKind.u64.wrap n / 72057594037927936 % 256]
def textB (n : Int) : ByteArray := strOfNums (octets n)
set_option maxHeartbeats 4000000 in
set_option maxRecDepth 100000 in
theorem text_any (n : Int) (w : World) : Calls Tryd.prog 95 #[.int .i64 n] w fun e w' => e = .returned (.string (textB n)) ∧ Below w.heap.size w w' := by
  have kb := Blk.new w 5 ((octets n).map (Value.int .u8)).toArray
  have hcv := run_convert_bytes_arg (P := Tryd.prog) (w.alloc (.cells ((octets n).map (Value.int .u8)).toArray 5)) 86 5 Tryd.underlying86 Tryd.underlying5 w.heap.size 0 8 8 (octets n) rfl (fun i hi => by
    rw [Nat.zero_add, kb.cell i]
    have hl : i < (octets n).length := hi
    simp [List.getElem?_eq_getElem hl, List.getD]) 9 Tryd.underlying9
  clear kb
  unfold textB
  generalize hs : strOfNums (octets n) = s at *
  clear hs
  unfold octets at hcv
  simp only [List.map_cons, List.map_nil] at hcv
  go_enter Tryd.func95, Tryd.ntmps95
  go_wp2
  go_ret
  exact ⟨rfl, bl_alloc (bl_refl w) _⟩
end Go.Proofs.YtcgkfgklggjmaaaDoor.Par
end
section
namespace Go.Proofs.YtcgkfgklggjmaaaDoor.Par
set_option linter.unusedVariables false
set_option linter.unusedSimpArgs false
open Go.RowKit
/-- what lay there stays -/
structure LB (w w' : World) : Prop where
  out : Below w.heap.size w w'
theorem LB.drew {w v : World} (h : LB w v) : LB w v.drew := ⟨bl_drew h.out⟩
theorem LB.call {w v w' : World} (h : LB w v) (hb : Below v.heap.size v w') : LB w w' := ⟨bl_call h.out hb⟩
theorem LB.alloc {w v : World} (h : LB w v) (o : Obj) : LB w (v.alloc o) := ⟨bl_alloc h.out o⟩
def wYes := str [121, 101, 115]
def wNo := str [110, 111]
def winT (x : Win) : List ByteArray := [if x.has = true then wYes else wNo, textB x.from_.1, textB x.from_.2.1, textB x.from_.2.2, textB x.to_.1, textB x.to_.2.1, textB x.to_.2.2]
set_option maxHeartbeats 4000000 in
set_option maxRecDepth 100000 in
theorem win6_any (x : Win) (w : World) : Calls Tryd.prog 94 #[.agg #[.bool x.has, .int .i64 x.from_.1, .int .i64 x.from_.2.1, .int .i64 x.from_.2.2, .int .i64 x.to_.1, .int .i64 x.to_.2.1, .int .i64 x.to_.2.2]] w fun e w' => ∃ g, e = .returned (.slice (some ⟨g, 0, none⟩) 7 7) ∧ Blk w' g 9 ((winT x).map Value.string).toArray ∧ w.heap.size ≤ g ∧ Below w.heap.size w w' := by
  have kb := Blk.new w 46 #[.bool x.has, .int .i64 x.from_.1, .int .i64 x.from_.2.1, .int .i64 x.from_.2.2, .int .i64 x.to_.1, .int .i64 x.to_.2.1, .int .i64 x.to_.2.2]
  obtain ⟨c0, _, _, _, _, _, _, _, _, _, _, _, _, _⟩ := kb.c7
  have hbl := bl_alloc (bl_refl w) (.cells #[.bool x.has, .int .i64 x.from_.1, .int .i64 x.from_.2.1, .int .i64 x.from_.2.2, .int .i64 x.to_.1, .int .i64 x.to_.2.1, .int .i64 x.to_.2.2] 46)
  unfold winT wYes wNo
  cases hh : x.has with
  | true =>
    rw [hh] at kb c0 hbl
    have kd : Blk (w.alloc (.cells #[.bool true, .int .i64 x.from_.1, .int .i64 x.from_.2.1, .int .i64 x.from_.2.2, .int .i64 x.to_.1, .int .i64 x.to_.2.1, .int .i64 x.to_.2.2] 46)).drew w.heap.size 46 #[.bool true, .int .i64 x.from_.1, .int .i64 x.from_.2.1, .int .i64 x.from_.2.2, .int .i64 x.to_.1, .int .i64 x.to_.2.1, .int .i64 x.to_.2.2] := kb.drew
    have hLd : LB w (w.alloc (.cells #[.bool true, .int .i64 x.from_.1, .int .i64 x.from_.2.1, .int .i64 x.from_.2.2, .int .i64 x.to_.1, .int .i64 x.to_.2.1, .int .i64 x.to_.2.2] 46)).drew := ⟨bl_drew hbl⟩
    obtain ⟨_, k1, k2, k3, k4, k5, k6, _, _, _, _, _, _, _⟩ := kd.c7
    clear hh hbl
    simp only [if_true, Bool.false_eq_true, if_false]
    go_enter Tryd.func94, Tryd.ntmps94
    go_wp2_with fail
    go_region_held3 (fun w' => w'.cell? ⟨w.heap.size, 1, none⟩ = some (.int .i64 x.from_.1) ∧ w'.cell? ⟨w.heap.size, 2, none⟩ = some (.int .i64 x.from_.2.1) ∧ w'.cell? ⟨w.heap.size, 3, none⟩ = some (.int .i64 x.from_.2.2) ∧ w'.cell? ⟨w.heap.size, 4, none⟩ = some (.int .i64 x.to_.1) ∧ w'.cell? ⟨w.heap.size, 5, none⟩ = some (.int .i64 x.to_.2.1) ∧ w'.cell? ⟨w.heap.size, 6, none⟩ = some (.int .i64 x.to_.2.2) ∧ LB w w')
      (refine ⟨?_, ?_, ?_, ?_, ?_, ?_, ?_⟩ <;> first | with_reducible assumption | exact LB.alloc (by with_reducible assumption) _ | (go_keep; done))
      ((go_at_call 95; refine (text_any _ _).mono ?_; rintro e w6 ⟨rfl, hb6⟩; (have kW : Blk w6 w.heap.size 46 #[.bool true, .int .i64 x.from_.1, .int .i64 x.from_.2.1, .int .i64 x.from_.2.2, .int .i64 x.to_.1, .int .i64 x.to_.2.1, .int .i64 x.to_.2.2] := Blk.call (by with_reducible assumption) hb6); obtain ⟨_, j1, j2, j3, j4, j5, j6, _, _, _, _, _, _, _⟩ := kW.c7; (have hLW : LB w w6 := LB.call (by with_reducible assumption) hb6)))
    all_goals go_split_ands
    go_wp2_with fail
    go_ret
    exact ⟨_, rfl, Blk.new _ _ _, hLW.out.size, bl_alloc hLW.out _⟩
  | false =>
    rw [hh] at kb c0 hbl
    have kd : Blk (w.alloc (.cells #[.bool false, .int .i64 x.from_.1, .int .i64 x.from_.2.1, .int .i64 x.from_.2.2, .int .i64 x.to_.1, .int .i64 x.to_.2.1, .int .i64 x.to_.2.2] 46)).drew w.heap.size 46 #[.bool false, .int .i64 x.from_.1, .int .i64 x.from_.2.1, .int .i64 x.from_.2.2, .int .i64 x.to_.1, .int .i64 x.to_.2.1, .int .i64 x.to_.2.2] := kb.drew
    have hLd : LB w (w.alloc (.cells #[.bool false, .int .i64 x.from_.1, .int .i64 x.from_.2.1, .int .i64 x.from_.2.2, .int .i64 x.to_.1, .int .i64 x.to_.2.1, .int .i64 x.to_.2.2] 46)).drew := ⟨bl_drew hbl⟩
    obtain ⟨_, k1, k2, k3, k4, k5, k6, _, _, _, _, _, _, _⟩ := kd.c7
    clear hh hbl
    simp only [if_true, Bool.false_eq_true, if_false]
    go_enter Tryd.func94, Tryd.ntmps94
    go_wp2_with fail
    go_region_held3 (fun w' => w'.cell? ⟨w.heap.size, 1, none⟩ = some (.int .i64 x.from_.1) ∧ w'.cell? ⟨w.heap.size, 2, none⟩ = some (.int .i64 x.from_.2.1) ∧ w'.cell? ⟨w.heap.size, 3, none⟩ = some (.int .i64 x.from_.2.2) ∧ w'.cell? ⟨w.heap.size, 4, none⟩ = some (.int .i64 x.to_.1) ∧ w'.cell? ⟨w.heap.size, 5, none⟩ = some (.int .i64 x.to_.2.1) ∧ w'.cell? ⟨w.heap.size, 6, none⟩ = some (.int .i64 x.to_.2.2) ∧ LB w w')
      (refine ⟨?_, ?_, ?_, ?_, ?_, ?_, ?_⟩ <;> first | with_reducible assumption | exact LB.alloc (by with_reducible assumption) _ | (go_keep; done))
      ((go_at_call 95; refine (text_any _ _).mono ?_; rintro e w6 ⟨rfl, hb6⟩; (have kW : Blk w6 w.heap.size 46 #[.bool false, .int .i64 x.from_.1, .int .i64 x.from_.2.1, .int .i64 x.from_.2.2, .int .i64 x.to_.1, .int .i64 x.to_.2.1, .int .i64 x.to_.2.2] := Blk.call (by with_reducible assumption) hb6); obtain ⟨_, j1, j2, j3, j4, j5, j6, _, _, _, _, _, _, _⟩ := kW.c7; (have hLW : LB w w6 := LB.call (by with_reducible assumption) hb6)))
    all_goals go_split_ands
    go_wp2_with fail
    go_ret
    exact ⟨_, rfl, Blk.new _ _ _, hLW.out.size, bl_alloc hLW.out _⟩
end Go.Proofs.YtcgkfgklggjmaaaDoor.Par
end
