import Derived.Test.YtcgkfgklggjmaaaDoorGe
import Derived.Deep.RegionLaw
import Derived.KernelRfl
import Derived.Lib.Builder
import Derived.Lib.OthersKept
import Derived.Lib.AppendStr
import Derived.Shelf.Strings.BuilderK
section
namespace Go.Proofs.YtcgkfgklggjmaaaDoor.Par
set_option linter.unusedVariables false
set_option linter.unusedSimpArgs false
open Go.RowKit
theorem P_item_met {p : Plan} {s : St} {o : Int × St} (h : P.one [wMeter, wFee, wCharge] 0 s = o) (h1 : o.1 = 0) : P.item dp npV p s = ({ p with mets := p.mets ++ [(P.meter npV (peek s).line (peek s).col o.2).1] }, (P.meter npV (peek s).line (peek s).col o.2).2) := by
  subst h; unfold P.item; simp only; rw [if_pos h1]
theorem P_item_fee {p : Plan} {s : St} {o : Int × St} (h : P.one [wMeter, wFee, wCharge] 0 s = o) (h1 : o.1 = 1) : P.item dp npV p s = ({ p with fees := p.fees ++ [(P.fee dp npV (peek s).line (peek s).col o.2).1] }, (P.fee dp npV (peek s).line (peek s).col o.2).2) := by
  subst h; unfold P.item; simp only; rw [if_neg (by omega), if_pos h1]
theorem P_item_chg {p : Plan} {s : St} {o : Int × St} (h : P.one [wMeter, wFee, wCharge] 0 s = o) (h1 : o.1 = 2) : P.item dp npV p s = ({ p with chgs := p.chgs ++ [(P.charge dp npV (peek s).line (peek s).col o.2).1] }, (P.charge dp npV (peek s).line (peek s).col o.2).2) := by
  subst h; unfold P.item; simp only; rw [if_neg (by omega), if_neg (by omega), if_pos h1]
theorem P_item_none {p : Plan} {s : St} {o : Int × St} (h : P.one [wMeter, wFee, wCharge] 0 s = o) (h1 : o.1 < 0) : P.item dp npV p s = (p, P.must [wSemi] (fail 4 (peek s) o.2)) := by
  subst h; unfold P.item; simp only; rw [if_neg (by omega), if_neg (by omega), if_neg (by omega)]
theorem puts_setRow {g : Nat} {T : TypeId} : ∀ (vs : List Value) (k : Nat) (cur : Array Value) (w : World), Blk w g T cur → vs ≠ [] → puts w g k vs = w.setRow g (setsA cur k vs)
  | [], _, _, _, _, h => absurd rfl h
  | [v], k, cur, w, hb, _ => setCell_eq_setRow w g k cur T (0, 0) v hb
  | v :: u :: vs, k, cur, w, hb, _ => by
    have h1 := puts_setRow (u :: vs) (k + 1) (cur.setIfInBounds k v) (w.setCell ⟨g, k, none⟩ v) (hb.set_ k v) (by simp)
    rw [puts, h1, setCell_eq_setRow w g k cur T (0, 0) v hb, setRow_setRow]
    rfl
theorem run_puts (w : World) (g : Nat) (T : TypeId) (old : Array Value) (new : List Value) (hb : Blk w g T old) (hn : new ≠ []) (hs : setsA old 0 new = new.toArray) (hl : new.length = old.size) (h1 : ∀ v ∈ new, v.oneCell' = true) : (storeCells ⟨g, 0, none⟩ new).run Tryd.prog w = .ok () (puts w g 0 new) := by
  have hq := run_storeCells_from (P := Tryd.prog) g T new 0 old w hb (by rw [Nat.zero_add]; exact hl) h1
  rw [puts_setRow new 0 old w hb hn, hs]
  simpa using hq
set_option maxHeartbeats 16000000 in
set_option maxRecDepth 100000 in
theorem item_any {w0 w : World} {b O : Nat} {ts : List Tok} {r cap : Nat} {s : St} {p : Plan} {mv fv cv : Value} {cs : List CT} (h : PS w0 b O ts r cap w s p mv fv cv cs) (hT : TK ts cap) (hD : Dec.DT w0) (hcnt : p.mets.length + p.fees.length + cs.length < 100000) :
    Calls Tryd.prog 53 #[.pointer (some ⟨b, 0, none⟩), .pointer (some ⟨O, 0, none⟩)] w fun en w' => en = .returned (.tuple #[]) ∧ ∃ mv' fv' cv' cs', PS w0 b O ts r cap w' (P.item dp npV p s).2 (P.item dp npV p s).1 mv' fv' cv' cs' := by
  have hlb := hT.lb
  have hcb := hT.capb
  obtain ⟨I, hI⟩ : ∃ I, I = P.item dp npV p s := ⟨_, rfl⟩
  rw [← hI]
  have hpk := fun v i (h : PAt v b ts r cap i s) => peek_any h hlb hcb
  have hea := fun v i (x : ByteArray) (h : PAt v b ts r cap i s) => eat_any h hlb hcb x
  generalize ht : peek s = t at *
  unfold tokV at hpk
  cases c0 : (P.eat wMeter s).1 with
  | true =>
    obtain ⟨i0, hP0⟩ := h.at_
    have hpk0 := hpk _ _ hP0
    have e1 : P.one [wMeter, wFee, wCharge] 0 s = (0, (P.eat wMeter s).2) := by rw [pone_hit _ _ _ _ c0] <;> rfl
    rw [P_item_met e1 rfl, ht] at hI
    clear e1
    have ea0 := fun v i (h : PAt v b ts r cap i s) => hea v i wMeter h
    rw [c0] at ea0
    clear hea hpk
    generalize P.eat wMeter s = u at *
    obtain ⟨u1, u2⟩ := u
    simp only at ea0 hI
    replace ea0 := Lib.hid ea0
    unfold P.meter at hI
    simp only at hI
    have a1 := fun v i (h : PAt v b ts r cap i u2) => kind_any h hlb hcb 1
    generalize P.kind 1 u2 = m at *
    obtain ⟨m1, m2⟩ := m
    simp only at hI a1
    replace a1 := Lib.hid a1
    have a2 := fun v i (h : PAt v b ts r cap i m2) => must1 h hT wUnit
    generalize P.must [wUnit] m2 = m3 at *
    generalize peek m2 = tk1 at *
    unfold tokV at a2
    replace a2 := Lib.hid a2
    have a3 := fun v i (h : PAt v b ts r cap i m3) => kind_any h hlb hcb 1
    generalize P.kind 1 m3 = y at *
    obtain ⟨y1, y2⟩ := y
    simp only at hI a3
    replace a3 := Lib.hid a3
    have a4 := fun v i (h : PAt v b ts r cap i y2) => must1 h hT wMax
    generalize P.must [wMax] y2 = m4 at *
    generalize peek y2 = tk2 at *
    unfold tokV at a4
    replace a4 := Lib.hid a4
    have a5 := fun v i (h : PAt v b ts r cap i m4) (hD : Dec.DT v) => number_any h hT hD 0 2000
    generalize P.number npV 0 2000 m4 = x at *
    obtain ⟨x1, x2⟩ := x
    simp only at hI a5
    replace a5 := Lib.hid a5
    have a6 := fun v i (h : PAt v b ts r cap i x2) => must1 h hT wSemi
    generalize P.must [wSemi] x2 = su at *
    generalize peek x2 = tk3 at *
    unfold tokV at a6
    replace a6 := Lib.hid a6
    subst hI
    go_enter Tryd.func53, Tryd.ntmps53
    go_wp2_with fail
    refine hpk0.mono ?_
    rintro e w1 ⟨rfl, hb1⟩
    have hS1 := (h.below hb1).alloc (.cells #[.int .i64 t.kind, .string t.text, .int .i64 t.line, .int .i64 t.col] 102)
    have kt1 := Blk.new w1 102 #[.int .i64 t.kind, .string t.text, .int .i64 t.line, .int .i64 t.col]
    have hlw := (h.below hb1).lt
    have hbw : b < w1.heap.size := by obtain ⟨j, hj⟩ := (h.below hb1).at_; exact hj.blk.lt
    clear hpk0 hP0 hb1
    obtain ⟨i2, hP2⟩ := hS1.at_
    go_wp2_with fail
    refine (ea0.out _ _ hP2).mono ?_
    rintro e v2 ⟨rfl, hA2, hF2⟩
    have hS2 := hS1.call hF2 hA2
    have kM2 := hF2.blk kt1 (by omega)
    clear hP2 hA2 hF2
    have hSx : PS w0 b O ts r cap v2 u2 p mv fv cv cs := hS2
    have kt2 : Blk v2 w1.heap.size 102 #[.int .i64 t.kind, .string t.text, .int .i64 t.line, .int .i64 t.col] := kM2
    have hnb := fun g (h : blocks mv fv cv cs g) => hSx.rows.lt h
    replace hnb := Lib.hid hnb
    clear hS1 hS2 kt1 kM2 ea0 h
    go_upto_region 3 with fail
    go_cut [5] (fun vM wx => ∃ M, vM = .pointer (some ⟨M, 0, none⟩) ∧ PS w0 b O ts r cap wx m2 p mv fv cv cs ∧ Blk wx M 44 #[.string m1, .string ⟨#[]⟩, .int .i64 0, .int .i64 t.line, .int .i64 t.col] ∧ v2.heap.size ≤ M)
    case first =>
      obtain ⟨k0, k1, k2, k3, _⟩ := kt2.c4
      have hA2 : PS w0 b O ts r cap v2.drew u2 p mv fv cv cs := hSx.drew
      have hB2 : PS w0 b O ts r cap (v2.alloc (.cells #[.string ⟨#[]⟩, .string ⟨#[]⟩, .int .i64 0, .int .i64 0, .int .i64 0] 44)).drew u2 p mv fv cv cs := (hSx.alloc (.cells #[.string ⟨#[]⟩, .string ⟨#[]⟩, .int .i64 0, .int .i64 0, .int .i64 0] 44)).drew
      have kA2 : Blk v2.drew w1.heap.size 102 #[.int .i64 t.kind, .string t.text, .int .i64 t.line, .int .i64 t.col] := kt2.drew
      have kB2 : Blk (v2.alloc (.cells #[.string ⟨#[]⟩, .string ⟨#[]⟩, .int .i64 0, .int .i64 0, .int .i64 0] 44)).drew w1.heap.size 102 #[.int .i64 t.kind, .string t.text, .int .i64 t.line, .int .i64 t.col] := (kt2.alloc (.cells #[.string ⟨#[]⟩, .string ⟨#[]⟩, .int .i64 0, .int .i64 0, .int .i64 0] 44)).drew
      have kM2b : Blk (v2.alloc (.cells #[.string ⟨#[]⟩, .string ⟨#[]⟩, .int .i64 0, .int .i64 0, .int .i64 0] 44)).drew v2.heap.size 44 #[.string ⟨#[]⟩, .string ⟨#[]⟩, .int .i64 0, .int .i64 0, .int .i64 0] := (Blk.new v2 44 #[.string ⟨#[]⟩, .string ⟨#[]⟩, .int .i64 0, .int .i64 0, .int .i64 0]).drew
      have hl2 := kt2.lt
      have hp := fun W (h : PS w0 b O ts r cap W u2 p mv fv cv cs) => (fun hA => a1.out W _ hA.choose_spec) h.at_
      replace hp := Lib.hid hp
      clear a1
      have k2d : v2.drew.cell? ⟨w1.heap.size, 2, none⟩ = some (.int .i64 t.line) := k2
      have k3d : v2.drew.cell? ⟨w1.heap.size, 3, none⟩ = some (.int .i64 t.col) := k3
      have l2d : w1.heap.size < v2.drew.heap.size := hl2
      obtain ⟨_, _, k2b, k3b, _⟩ := kB2.c4
      have l2b := kB2.lt
      go_region_held3 (fun w' => w'.cell? ⟨w1.heap.size, 2, none⟩ = some (.int .i64 t.line) ∧ w'.cell? ⟨w1.heap.size, 3, none⟩ = some (.int .i64 t.col) ∧ w1.heap.size < w'.heap.size)
        (refine ⟨?_, ?_, ?_⟩ <;> with_reducible assumption)
        ((go_at_call 50; refine (hp.out _ (by with_reducible assumption)).mono ?_; rintro e w3 ⟨rfl, hA3, hF3⟩; (have kt3 : Blk w3 w1.heap.size 102 #[.int .i64 t.kind, .string t.text, .int .i64 t.line, .int .i64 t.col] := hF3.blk (by with_reducible assumption) (by omega)); obtain ⟨j0_, j1_, j2_, j3_, _⟩ := kt3.c4; (have hl3 := kt3.lt); (have kt3a := kt3.alloc (.cells #[.string ⟨#[]⟩, .string ⟨#[]⟩, .int .i64 0, .int .i64 0, .int .i64 0] 44)); obtain ⟨_, _, a2_, a3_, _⟩ := kt3a.c4; (have la_ := kt3a.lt); (have kt3b := kt3.alloc (.cells #[.string m1, .string ⟨#[]⟩, .int .i64 0, .int .i64 t.line, .int .i64 t.col] 44)); obtain ⟨_, _, b2_, b3_, _⟩ := kt3b.c4; (have lb_ := kt3b.lt); (try ((have kM3 : Blk w3 v2.heap.size 44 #[.string ⟨#[]⟩, .string ⟨#[]⟩, .int .i64 0, .int .i64 0, .int .i64 0] := hF3.blk (by with_reducible assumption) (by omega)); obtain ⟨s0_, s1_, s2_, s3_, s4_, r0_, r1_, r2_, r3_, r4_⟩ := kM3.c5; (have hlM3 := kM3.lt); (have kP3 : Blk (((((w3.setCell ⟨v2.heap.size, 0, none⟩ (.string m1)).setCell ⟨v2.heap.size, 1, none⟩ (.string ⟨#[]⟩)).setCell ⟨v2.heap.size, 2, none⟩ (.int .i64 0)).setCell ⟨v2.heap.size, 3, none⟩ (.int .i64 t.line)).setCell ⟨v2.heap.size, 4, none⟩ (.int .i64 t.col)) w1.heap.size 102 #[.int .i64 t.kind, .string t.text, .int .i64 t.line, .int .i64 t.col] := kt3.putsFar (g' := v2.heap.size) (by omega) 0 [.string m1, .string ⟨#[]⟩, .int .i64 0, .int .i64 t.line, .int .i64 t.col]); obtain ⟨_, _, c2_, c3_, _⟩ := kP3.c4; (have lc_ := kP3.lt)))))
      all_goals
        have hsz3 := hF3.size
        go_wp2_with fail
        go_meet
        first
          | exact ⟨w3.heap.size, rfl, (hA2.call hF3 hA3).alloc _, Blk.new _ _ _, hsz3⟩
          | exact ⟨v2.heap.size, rfl, (hB2.call hF3 hA3).putM kM3 (by decide) (by decide) (by decide) (by decide) hSx.bl.size (fun h => by have := hnb.out _ h; omega) 0 [.string m1, .string ⟨#[]⟩, .int .i64 0, .int .i64 t.line, .int .i64 t.col], kM3.putAll [.string m1, .string ⟨#[]⟩, .int .i64 0, .int .i64 t.line, .int .i64 t.col] 0, Nat.le_refl _⟩
    case rest =>
      obtain ⟨M, rfl, hS30, kM30, hM⟩ := hcut
      have hnM : ¬ blocks mv fv cv cs M := fun h => by have := hnb.out M h; omega
      have hlx := hSx.bl.size
      have hlt2 := kt2.lt
      clear hSx kt2 a1 hnb
      obtain ⟨i31, hP31⟩ := hS30.at_
      go_wp2_with fail
      refine (a2.out _ _ hP31 _ (by simp [puts, World.setCell])).mono ?_
      rintro e v31 ⟨rfl, hA31, hF31⟩
      have hS31 := hS30.call hF31 hA31
      have kM31 := hF31.blk kM30 (by omega)
      clear hP31 hA31 hF31
      obtain ⟨i32, hP32⟩ := hS31.at_
      go_wp2_with fail
      refine (a3.out _ _ hP32).mono ?_
      rintro e v32 ⟨rfl, hA32, hF32⟩
      have hS32 := hS31.call hF32 hA32
      have kM32 := hF32.blk kM31 (by omega)
      clear hP32 hA32 hF32
      obtain ⟨s0_, s1_, s2_, s3_, s4_, r0_, r1_, r2_, r3_, r4_⟩ := kM32.c5
      have hlM33 := kM32.lt
      have hS33 := hS32.putM kM32 (by decide) (by decide) (by decide) (by decide) (by have := hS32.bl.size; omega) hnM 1 [.string y1]
      have kM33 : Blk _ M 44 #[.string m1, .string y1, .int .i64 0, .int .i64 t.line, .int .i64 t.col] := kM32.putAll [.string y1] 1
      obtain ⟨i34, hP34⟩ := hS33.at_
      go_wp2_with fail
      refine (a4.out _ _ hP34 _ (by simp [puts, World.setCell])).mono ?_
      rintro e v34 ⟨rfl, hA34, hF34⟩
      have hS34 := hS33.call hF34 hA34
      have kM34 := hF34.blk kM33 (by omega)
      clear hP34 hA34 hF34
      clear s0_ s1_ s2_ s3_ s4_ r0_ r1_ r2_ r3_ r4_
      obtain ⟨i35, hP35⟩ := hS34.at_
      go_wp2_with fail
      refine (a5.out _ _ hP35 (hD.below hS34.bl)).mono ?_
      rintro e v35 ⟨rfl, hA35, hF35⟩
      have hS35 := hS34.call hF35 hA35
      have kM35 := hF35.blk kM34 (by omega)
      clear hP35 hA35 hF35
      obtain ⟨s0_, s1_, s2_, s3_, s4_, r0_, r1_, r2_, r3_, r4_⟩ := kM35.c5
      have hlM36 := kM35.lt
      have hS36 := hS35.putM kM35 (by decide) (by decide) (by decide) (by decide) (by have := hS35.bl.size; omega) hnM 2 [.int .i64 x1]
      have kM36 : Blk _ M 44 #[.string m1, .string y1, .int .i64 x1, .int .i64 t.line, .int .i64 t.col] := kM35.putAll [.int .i64 x1] 2
      obtain ⟨q8, q8'⟩ := hS35.cell 8 mv rfl
      have hlS := hS35.lt
      have hMO : M ≠ O := Blk.ne_ kM36 hS36.ob (by decide)
      have hS50 := (hS36.alloc (.cells #[.string m1, .string y1, .int .i64 x1, .int .i64 t.line, .int .i64 t.col] 44)).drew
      have hnew : ((puts v35 M 2 [.int .i64 x1]).alloc (.cells #[.string m1, .string y1, .int .i64 x1, .int .i64 t.line, .int .i64 t.col] 44)).drew.heap[v35.heap.size]? = some (.cells #[.string m1, .string y1, .int .i64 x1, .int .i64 t.line, .int .i64 t.col] 44) := by
        have hq := heap_alloc_new (puts v35 M 2 [.int .i64 x1]) (.cells #[.string m1, .string y1, .int .i64 x1, .int .i64 t.line, .int .i64 t.col] 44)
        rwa [(puts_heap [.int .i64 x1] v35 2).2.1] at hq
      have hsz50 := hS50.bl.size
      obtain ⟨iM, hM0, hM1, hM2, hM3⟩ := info_parts metInfo
      go_wp2_with fail
      go_region_law (refine step_append_lies _ rfl (.tmp 38) (.tmp 40) 25 rfl w0.heap.size 44 iM _ 5 56 Tryd.underlying25 hM0 hM1 hM2 hM3 rfl (by decide) _ _ _ rfl hS50.rows.mo ⟨v35.heap.size, 0, none⟩ 1 1 [.string m1, .string y1, .int .i64 x1, .int .i64 t.line, .int .i64 t.col] rfl rfl (World.news_of_block (cs := #[.string m1, .string y1, .int .i64 x1, .int .i64 t.line, .int .i64 t.col]) (t := 44) (fr := (0, 0)) hnew) (by simp [Value.oneCell']) (by decide) (by unfold maxLen; omega) (by omega) hsz50 _ rfl ?_; intro g cp w10 hown10 hgrow10 hat10 hlt10; obtain ⟨hob10, hS51⟩ := hS50.addMet (m := ⟨m1, y1, x1, t.line, t.col⟩) hgrow10 hown10; (have n8 : w10.cell? ⟨O, 8, none⟩ = some mv := hob10.cell 8); (have n8' := hob10.frozen 8); have hl10 := hob10.lt)
      all_goals
        obtain ⟨i60, hP60⟩ := hS51.at_
        go_wp2_with fail
        refine (a6.out _ _ hP60 _ (by simp [puts, World.setCell])).mono ?_
        rintro e w11 ⟨rfl, hA11, hF11⟩
        go_wp2_with fail
        go_end0
        exact ⟨rfl, _, fv, cv, cs, hS51.call hF11 hA11⟩
  | false =>
    cases c1 : (P.eat wFee s).1 with
    | true =>
      obtain ⟨i0, hP0⟩ := h.at_
      have hpk0 := hpk _ _ hP0
      have e1 : P.one [wMeter, wFee, wCharge] 0 s = (1, (P.eat wFee s).2) := by rw [pone_drop _ _ _ _ c0, pone_hit _ _ _ _ c1] <;> rfl
      rw [P_item_fee e1 rfl, ht] at hI
      clear e1
      have ea0 := fun v i (h : PAt v b ts r cap i s) => hea v i wMeter h
      rw [c0, eat_no c0] at ea0
      have ea1 := fun v i (h : PAt v b ts r cap i s) => hea v i wFee h
      rw [c1] at ea1
      clear hea hpk
      generalize P.eat wFee s = u at *
      obtain ⟨u1, u2⟩ := u
      simp only at ea1 hI
      replace ea0 := Lib.hid ea0
      replace ea1 := Lib.hid ea1
      unfold P.fee at hI
      simp only at hI
      have a1 := fun v i (h : PAt v b ts r cap i u2) (hD : Dec.DT v) => number_any h hT hD 0 1000000000000
      generalize P.number npV 0 1000000000000 u2 = x at *
      obtain ⟨x1, x2⟩ := x
      simp only at hI a1
      replace a1 := Lib.hid a1
      have a2 := fun v i (h : PAt v b ts r cap i x2) => window_any h hT
      generalize P.window dp x2 = y at *
      obtain ⟨y1, y2⟩ := y
      simp only at hI a2
      replace a2 := Lib.hid a2
      have a3 := fun v i (h : PAt v b ts r cap i y2) => must1 h hT wSemi
      generalize P.must [wSemi] y2 = su at *
      generalize peek y2 = tk3 at *
      unfold tokV at a3
      replace a3 := Lib.hid a3
      replace a2 := a2.out
      unfold winV at a2
      replace a2 := Lib.hid a2
      subst hI
      go_enter Tryd.func53, Tryd.ntmps53
      go_wp2_with fail
      refine hpk0.mono ?_
      rintro e w1 ⟨rfl, hb1⟩
      have hS1 := (h.below hb1).alloc (.cells #[.int .i64 t.kind, .string t.text, .int .i64 t.line, .int .i64 t.col] 102)
      have kt1 := Blk.new w1 102 #[.int .i64 t.kind, .string t.text, .int .i64 t.line, .int .i64 t.col]
      have hlw := (h.below hb1).lt
      have hbw : b < w1.heap.size := by obtain ⟨j, hj⟩ := (h.below hb1).at_; exact hj.blk.lt
      clear hpk0 hP0 hb1
      obtain ⟨i2, hP2⟩ := hS1.at_
      go_wp2_with fail
      refine (ea0.out _ _ hP2).mono ?_
      rintro e v2 ⟨rfl, hA2, hF2⟩
      have hS2 := hS1.call hF2 hA2
      have kM2 := hF2.blk kt1 (by omega)
      clear hP2 hA2 hF2
      obtain ⟨i3, hP3⟩ := hS2.at_
      go_wp2_with fail
      refine (ea1.out _ _ hP3).mono ?_
      rintro e v3 ⟨rfl, hA3, hF3⟩
      have hS3 := hS2.call hF3 hA3
      have kM3 := hF3.blk kM2 (by omega)
      clear hP3 hA3 hF3
      have hSx : PS w0 b O ts r cap v3 u2 p mv fv cv cs := hS3
      have kt2 : Blk v3 w1.heap.size 102 #[.int .i64 t.kind, .string t.text, .int .i64 t.line, .int .i64 t.col] := kM3
      have hnb := fun g (h : blocks mv fv cv cs g) => hSx.rows.lt h
      replace hnb := Lib.hid hnb
      clear hS1 hS2 hS3 kt1 kM2 kM3 ea0 ea1 h
      go_upto_region 10 with fail
      go_cut [6] (fun vM wx => ∃ M, vM = .pointer (some ⟨M, 0, none⟩) ∧ PS w0 b O ts r cap wx x2 p mv fv cv cs ∧ Blk wx M 48 #[.int .i64 x1, .bool false, .int .i64 0, .int .i64 0, .int .i64 0, .int .i64 0, .int .i64 0, .int .i64 0, .int .i64 t.line, .int .i64 t.col] ∧ v3.heap.size ≤ M)
      case first =>
        obtain ⟨k0, k1, k2, k3, _⟩ := kt2.c4
        have hA2 : PS w0 b O ts r cap v3.drew u2 p mv fv cv cs := hSx.drew
        have hB2 : PS w0 b O ts r cap (v3.alloc (.cells #[.int .i64 0, .bool false, .int .i64 0, .int .i64 0, .int .i64 0, .int .i64 0, .int .i64 0, .int .i64 0, .int .i64 0, .int .i64 0] 48)).drew u2 p mv fv cv cs := (hSx.alloc (.cells #[.int .i64 0, .bool false, .int .i64 0, .int .i64 0, .int .i64 0, .int .i64 0, .int .i64 0, .int .i64 0, .int .i64 0, .int .i64 0] 48)).drew
        have kA2 : Blk v3.drew w1.heap.size 102 #[.int .i64 t.kind, .string t.text, .int .i64 t.line, .int .i64 t.col] := kt2.drew
        have kB2 : Blk (v3.alloc (.cells #[.int .i64 0, .bool false, .int .i64 0, .int .i64 0, .int .i64 0, .int .i64 0, .int .i64 0, .int .i64 0, .int .i64 0, .int .i64 0] 48)).drew w1.heap.size 102 #[.int .i64 t.kind, .string t.text, .int .i64 t.line, .int .i64 t.col] := (kt2.alloc (.cells #[.int .i64 0, .bool false, .int .i64 0, .int .i64 0, .int .i64 0, .int .i64 0, .int .i64 0, .int .i64 0, .int .i64 0, .int .i64 0] 48)).drew
        have kM2b : Blk (v3.alloc (.cells #[.int .i64 0, .bool false, .int .i64 0, .int .i64 0, .int .i64 0, .int .i64 0, .int .i64 0, .int .i64 0, .int .i64 0, .int .i64 0] 48)).drew v3.heap.size 48 #[.int .i64 0, .bool false, .int .i64 0, .int .i64 0, .int .i64 0, .int .i64 0, .int .i64 0, .int .i64 0, .int .i64 0, .int .i64 0] := (Blk.new v3 48 #[.int .i64 0, .bool false, .int .i64 0, .int .i64 0, .int .i64 0, .int .i64 0, .int .i64 0, .int .i64 0, .int .i64 0, .int .i64 0]).drew
        have hl2 := kt2.lt
        have hp := fun W (h : PS w0 b O ts r cap W u2 p mv fv cv cs) => (fun hA => a1.out W _ hA.choose_spec (hD.below h.bl)) h.at_
        replace hp := Lib.hid hp
        clear a1
        have k2d : v3.drew.cell? ⟨w1.heap.size, 2, none⟩ = some (.int .i64 t.line) := k2
        have k3d : v3.drew.cell? ⟨w1.heap.size, 3, none⟩ = some (.int .i64 t.col) := k3
        have l2d : w1.heap.size < v3.drew.heap.size := hl2
        obtain ⟨_, _, k2b, k3b, _⟩ := kB2.c4
        have l2b := kB2.lt
        have hsets : setsA #[.int .i64 0, .bool false, .int .i64 0, .int .i64 0, .int .i64 0, .int .i64 0, .int .i64 0, .int .i64 0, .int .i64 0, .int .i64 0] 0 [.int .i64 x1, .bool false, .int .i64 0, .int .i64 0, .int .i64 0, .int .i64 0, .int .i64 0, .int .i64 0, .int .i64 t.line, .int .i64 t.col] = #[.int .i64 x1, .bool false, .int .i64 0, .int .i64 0, .int .i64 0, .int .i64 0, .int .i64 0, .int .i64 0, .int .i64 t.line, .int .i64 t.col] := by simp [setsA]
        replace hsets := Lib.hid hsets
        go_region_held3 (fun w' => w'.cell? ⟨w1.heap.size, 2, none⟩ = some (.int .i64 t.line) ∧ w'.cell? ⟨w1.heap.size, 3, none⟩ = some (.int .i64 t.col) ∧ w1.heap.size < w'.heap.size)
          (refine ⟨?_, ?_, ?_⟩ <;> with_reducible assumption)
          ((go_at_call 91; refine (hp.out _ (by with_reducible assumption)).mono ?_; rintro e w3 ⟨rfl, hA3, hF3⟩; (have kt3 : Blk w3 w1.heap.size 102 #[.int .i64 t.kind, .string t.text, .int .i64 t.line, .int .i64 t.col] := hF3.blk (by with_reducible assumption) (by omega)); obtain ⟨j0_, j1_, j2_, j3_, _⟩ := kt3.c4; (have hl3 := kt3.lt); (have kt3a := kt3.alloc (.cells #[.int .i64 0, .bool false, .int .i64 0, .int .i64 0, .int .i64 0, .int .i64 0, .int .i64 0, .int .i64 0, .int .i64 0, .int .i64 0] 48)); obtain ⟨_, _, a2_, a3_, _⟩ := kt3a.c4; (have la_ := kt3a.lt); (have kt3b := kt3.alloc (.cells #[.int .i64 x1, .bool false, .int .i64 0, .int .i64 0, .int .i64 0, .int .i64 0, .int .i64 0, .int .i64 0, .int .i64 t.line, .int .i64 t.col] 48)); obtain ⟨_, _, b2_, b3_, _⟩ := kt3b.c4; (have lb_ := kt3b.lt); (try ((have kM3 : Blk w3 v3.heap.size 48 #[.int .i64 0, .bool false, .int .i64 0, .int .i64 0, .int .i64 0, .int .i64 0, .int .i64 0, .int .i64 0, .int .i64 0, .int .i64 0] := hF3.blk (by with_reducible assumption) (by omega)); obtain ⟨s0_, s1_, s2_, s3_, s4_, s5_, s6_, s7_, s8_, s9_, r0_, r1_, r2_, r3_, r4_, r5_, r6_, r7_, r8_, r9_⟩ := kM3.c10; (have hlM3 := kM3.lt); (have kP3 := kt3.putsFar (g' := v3.heap.size) (by omega) 0 [.int .i64 x1, .bool false, .int .i64 0, .int .i64 0, .int .i64 0, .int .i64 0, .int .i64 0, .int .i64 0, .int .i64 t.line, .int .i64 t.col]); simp only [puts, Nat.zero_add, Nat.reduceAdd] at kP3; obtain ⟨_, _, c2_, c3_, _⟩ := kP3.c4; (have lc_ := kP3.lt)))))
        all_goals
          have hsz3 := hF3.size
          go_wp2_with fail
          go_meet
          first
            | exact ⟨w3.heap.size, rfl, (hA2.call hF3 hA3).alloc _, Blk.new _ _ _, hsz3⟩
            | (have q1 := (hB2.call hF3 hA3).putM kM3 (by decide) (by decide) (by decide) (by decide) hSx.bl.size (fun h => by have := hnb.out _ h; omega) 0 [.int .i64 x1, .bool false, .int .i64 0, .int .i64 0, .int .i64 0, .int .i64 0, .int .i64 0, .int .i64 0, .int .i64 t.line, .int .i64 t.col]; have q2 := kM3.putAll [.int .i64 x1, .bool false, .int .i64 0, .int .i64 0, .int .i64 0, .int .i64 0, .int .i64 0, .int .i64 0, .int .i64 t.line, .int .i64 t.col] 0; rw [hsets.out] at q2; simp only [puts, Nat.zero_add, Nat.reduceAdd] at q1 q2; exact ⟨v3.heap.size, rfl, q1, q2, Nat.le_refl _⟩)
      case rest =>
        obtain ⟨M, rfl, hS30, kM30, hM⟩ := hcut
        have hnM : ¬ blocks mv fv cv cs M := fun h => by have := hnb.out M h; omega
        have hlx := hSx.bl.size
        have hlt2 := kt2.lt
        clear hSx kt2 a1 hnb
        obtain ⟨i31, hP31⟩ := hS30.at_
        go_wp2_with fail
        refine (a2.out _ _ hP31).mono ?_
        rintro e v31 ⟨rfl, hA31, hF31⟩
        have hS31 := hS30.call hF31 hA31
        have kM31 := hF31.blk kM30 (by omega)
        clear hP31 hA31 hF31
        obtain ⟨s0_, s1_, s2_, s3_, s4_, s5_, s6_, s7_, s8_, s9_, r0_, r1_, r2_, r3_, r4_, r5_, r6_, r7_, r8_, r9_⟩ := kM31.c10
        have hlM32 := kM31.lt
        have hS32 := hS31.putM kM31 (by decide) (by decide) (by decide) (by decide) (by have := hS31.bl.size; omega) hnM 1 [.bool y1.has, .int .i64 y1.from_.1, .int .i64 y1.from_.2.1, .int .i64 y1.from_.2.2, .int .i64 y1.to_.1, .int .i64 y1.to_.2.1, .int .i64 y1.to_.2.2]
        have kM32 : Blk _ M 48 #[.int .i64 x1, .bool y1.has, .int .i64 y1.from_.1, .int .i64 y1.from_.2.1, .int .i64 y1.from_.2.2, .int .i64 y1.to_.1, .int .i64 y1.to_.2.1, .int .i64 y1.to_.2.2, .int .i64 t.line, .int .i64 t.col] := kM31.putAll [.bool y1.has, .int .i64 y1.from_.1, .int .i64 y1.from_.2.1, .int .i64 y1.from_.2.2, .int .i64 y1.to_.1, .int .i64 y1.to_.2.1, .int .i64 y1.to_.2.2] 1
        obtain ⟨q8, q8'⟩ := hS31.cell 9 fv rfl
        have hlS := hS31.lt
        have hMO : M ≠ O := Blk.ne_ kM32 hS32.ob (by decide)
        have hS50 := (hS32.alloc (.cells #[.int .i64 x1, .bool y1.has, .int .i64 y1.from_.1, .int .i64 y1.from_.2.1, .int .i64 y1.from_.2.2, .int .i64 y1.to_.1, .int .i64 y1.to_.2.1, .int .i64 y1.to_.2.2, .int .i64 t.line, .int .i64 t.col] 48)).drew
        have hnew : ((puts v31 M 1 [.bool y1.has, .int .i64 y1.from_.1, .int .i64 y1.from_.2.1, .int .i64 y1.from_.2.2, .int .i64 y1.to_.1, .int .i64 y1.to_.2.1, .int .i64 y1.to_.2.2]).alloc (.cells #[.int .i64 x1, .bool y1.has, .int .i64 y1.from_.1, .int .i64 y1.from_.2.1, .int .i64 y1.from_.2.2, .int .i64 y1.to_.1, .int .i64 y1.to_.2.1, .int .i64 y1.to_.2.2, .int .i64 t.line, .int .i64 t.col] 48)).drew.heap[v31.heap.size]? = some (.cells #[.int .i64 x1, .bool y1.has, .int .i64 y1.from_.1, .int .i64 y1.from_.2.1, .int .i64 y1.from_.2.2, .int .i64 y1.to_.1, .int .i64 y1.to_.2.1, .int .i64 y1.to_.2.2, .int .i64 t.line, .int .i64 t.col] 48) := by
          have hq := heap_alloc_new (puts v31 M 1 [.bool y1.has, .int .i64 y1.from_.1, .int .i64 y1.from_.2.1, .int .i64 y1.from_.2.2, .int .i64 y1.to_.1, .int .i64 y1.to_.2.1, .int .i64 y1.to_.2.2]) (.cells #[.int .i64 x1, .bool y1.has, .int .i64 y1.from_.1, .int .i64 y1.from_.2.1, .int .i64 y1.from_.2.2, .int .i64 y1.to_.1, .int .i64 y1.to_.2.1, .int .i64 y1.to_.2.2, .int .i64 t.line, .int .i64 t.col] 48)
          rwa [(puts_heap [.bool y1.has, .int .i64 y1.from_.1, .int .i64 y1.from_.2.1, .int .i64 y1.from_.2.2, .int .i64 y1.to_.1, .int .i64 y1.to_.2.1, .int .i64 y1.to_.2.2] v31 1).2.1] at hq
        have hsz50 := hS50.bl.size
        obtain ⟨iM, hM0, hM1, hM2, hM3⟩ := info_parts feeInfo
        go_wp2_with fail
        go_region_law (refine step_append_lies _ rfl (.tmp 61) (.tmp 63) 26 rfl w0.heap.size 48 iM _ 10 80 Tryd.underlying26 hM0 hM1 hM2 hM3 rfl (by decide) _ _ _ rfl hS50.rows.fo ⟨v31.heap.size, 0, none⟩ 1 1 [.int .i64 x1, .bool y1.has, .int .i64 y1.from_.1, .int .i64 y1.from_.2.1, .int .i64 y1.from_.2.2, .int .i64 y1.to_.1, .int .i64 y1.to_.2.1, .int .i64 y1.to_.2.2, .int .i64 t.line, .int .i64 t.col] rfl rfl (World.news_of_block (cs := #[.int .i64 x1, .bool y1.has, .int .i64 y1.from_.1, .int .i64 y1.from_.2.1, .int .i64 y1.from_.2.2, .int .i64 y1.to_.1, .int .i64 y1.to_.2.1, .int .i64 y1.to_.2.2, .int .i64 t.line, .int .i64 t.col]) (t := 48) (fr := (0, 0)) hnew) (by simp [Value.oneCell']) (by decide) (by unfold maxLen; omega) (by omega) hsz50 _ rfl ?_; intro g cp w10 hown10 hgrow10 hat10 hlt10; obtain ⟨hob10, hS51⟩ := hS50.addFee (f := ⟨x1, y1, t.line, t.col⟩) hgrow10 hown10; (have n8 : w10.cell? ⟨O, 9, none⟩ = some fv := hob10.cell 9); (have n8' := hob10.frozen 9); have hl10 := hob10.lt)
        all_goals
          obtain ⟨i60, hP60⟩ := hS51.at_
          go_wp2_with fail
          refine (a3.out _ _ hP60 _ (by simp [puts, World.setCell])).mono ?_
          rintro e w11 ⟨rfl, hA11, hF11⟩
          go_wp2_with fail
          go_end0
          exact ⟨rfl, mv, _, cv, cs, hS51.call hF11 hA11⟩
    | false =>
      cases c2 : (P.eat wCharge s).1 with
      | true =>
        obtain ⟨i0, hP0⟩ := h.at_
        have hpk0 := hpk _ _ hP0
        have e1 : P.one [wMeter, wFee, wCharge] 0 s = (2, (P.eat wCharge s).2) := by rw [pone_drop _ _ _ _ c0, pone_drop _ _ _ _ c1, pone_hit _ _ _ _ c2] <;> rfl
        rw [P_item_chg e1 rfl, ht] at hI
        clear e1
        have ea0 := fun v i (h : PAt v b ts r cap i s) => hea v i wMeter h
        rw [c0, eat_no c0] at ea0
        have ea1 := fun v i (h : PAt v b ts r cap i s) => hea v i wFee h
        rw [c1, eat_no c1] at ea1
        have ea2 := fun v i (h : PAt v b ts r cap i s) => hea v i wCharge h
        rw [c2] at ea2
        clear hea hpk
        generalize P.eat wCharge s = u at *
        obtain ⟨u1, u2⟩ := u
        simp only at ea2 hI
        replace ea0 := Lib.hid ea0
        replace ea1 := Lib.hid ea1
        replace ea2 := Lib.hid ea2
        have a1 := fun v i (h : PAt v b ts r cap i u2) (hD : Dec.DT v) => charge_any h hT hD t
        generalize P.charge dp npV t.line t.col u2 = z at *
        obtain ⟨z, su⟩ := z
        simp only at hI a1
        unfold chgC tokV at a1
        replace a1 := Lib.hid a1
        subst hI
        go_enter Tryd.func53, Tryd.ntmps53
        go_wp2_with fail
        refine hpk0.mono ?_
        rintro e w1 ⟨rfl, hb1⟩
        have hS1 := (h.below hb1).alloc (.cells #[.int .i64 t.kind, .string t.text, .int .i64 t.line, .int .i64 t.col] 102)
        have kt1 := Blk.new w1 102 #[.int .i64 t.kind, .string t.text, .int .i64 t.line, .int .i64 t.col]
        have hlw := (h.below hb1).lt
        have hbw : b < w1.heap.size := by obtain ⟨j, hj⟩ := (h.below hb1).at_; exact hj.blk.lt
        clear hpk0 hP0 hb1
        obtain ⟨i2, hP2⟩ := hS1.at_
        go_wp2_with fail
        refine (ea0.out _ _ hP2).mono ?_
        rintro e v2 ⟨rfl, hA2, hF2⟩
        have hS2 := hS1.call hF2 hA2
        have kM2 := hF2.blk kt1 (by omega)
        clear hP2 hA2 hF2
        obtain ⟨i3, hP3⟩ := hS2.at_
        go_wp2_with fail
        refine (ea1.out _ _ hP3).mono ?_
        rintro e v3 ⟨rfl, hA3, hF3⟩
        have hS3 := hS2.call hF3 hA3
        have kM3 := hF3.blk kM2 (by omega)
        clear hP3 hA3 hF3
        obtain ⟨i4, hP4⟩ := hS3.at_
        go_wp2_with fail
        refine (ea2.out _ _ hP4).mono ?_
        rintro e v4 ⟨rfl, hA4, hF4⟩
        have hS4 := hS3.call hF4 hA4
        have kM4 := hF4.blk kM3 (by omega)
        clear hP4 hA4 hF4
        have hSx : PS w0 b O ts r cap v4 u2 p mv fv cv cs := hS4
        have kt2 : Blk v4 w1.heap.size 102 #[.int .i64 t.kind, .string t.text, .int .i64 t.line, .int .i64 t.col] := kM4
        have hnb := fun g (h : blocks mv fv cv cs g) => hSx.rows.lt h
        replace hnb := Lib.hid hnb
        clear hS1 hS2 hS3 hS4 kt1 kM2 kM3 kM4 ea0 ea1 ea2 h
        have hA2 : PS w0 b O ts r cap v4.drew u2 p mv fv cv cs := hSx.drew
        have hpd := (fun hA => a1.out v4.drew _ hA.choose_spec (hD.below hA2.bl)) hA2.at_
        replace hpd := Lib.hid hpd
        clear a1
        obtain ⟨k0, k1, k2, k3, _⟩ := kt2.c4
        obtain ⟨q10, q10'⟩ := hSx.cell 10 cv rfl
        have hl2 := kt2.lt
        have hlS := hSx.lt
        obtain ⟨iC, hC0, hC1, hC2, hC3⟩ := info_parts chgInfo
        go_wp2_with fail
        go_region_law (first | (refine step_append_lies _ rfl (.tmp 74) (.tmp 78) 27 rfl w0.heap.size 52 iC _ 16 168 Tryd.underlying27 hC0 hC1 hC2 hC3 rfl (by decide) _ _ _ rfl (hS3.rows.co.alloc _) ⟨w3.heap.size, 0, none⟩ 1 1 (chgF (z, .slice At z.tiers.length ct, .slice Aa z.adjs.length ca)) rfl rfl (World.news_of_block (cs := #[.string z.meter, .bool z.win.has, .int .i64 z.win.from_.1, .int .i64 z.win.from_.2.1, .int .i64 z.win.from_.2.2, .int .i64 z.win.to_.1, .int .i64 z.win.to_.2.1, .int .i64 z.win.to_.2.2, .int .i64 z.allow, .int .i64 z.block, .int .i64 z.kind, .slice At z.tiers.length ct, .int .i64 z.mode, .slice Aa z.adjs.length ca, .int .i64 z.line, .int .i64 z.col]) (t := 52) (fr := (0, 0)) (heap_alloc_new _ _)) (by simp [chgF, Value.oneCell']) (by decide) (by unfold maxLen; omega) (by omega) (by simp; omega) _ rfl ?_; intro g cp w10 hown10 hgrow10 hat10 hlt10; obtain ⟨hob10, hS21⟩ := (hS3.alloc _).addChg (World.ownsRow.alloc hti3 _) (World.ownsRow.alloc haj3 _) hgrow10 hown10; (have n8 : w10.cell? ⟨O, 10, none⟩ = some cv := hob10.cell 10); (have n8' := hob10.frozen 10); have hl10 := hob10.lt) | (go_simp; go_at_call 93; refine hpd.out.mono ?_; rintro e w3 ⟨tv, av, rfl, hti, haj, hA3, hF3⟩; (have hS3 := hA2.call hF3 hA3); obtain ⟨q11, q11'⟩ := hS3.cell 10 cv rfl; (have hlS3 := hS3.lt); (have hsz3 := hS3.bl.size); (have hti3 := own_base hti hA2.bl.size); (have haj3 := own_base haj hA2.bl.size); obtain ⟨At, ct, rfl, _, _, _⟩ := Lies.open (Lies.of hti); obtain ⟨Aa, ca, rfl, _, _, _⟩ := Lies.open (Lies.of haj)))
        all_goals
          go_wp2_with fail
          exact bodyPost_ret (results_none rfl _ _ _) rfl ⟨rfl, mv, fv, _, _, hS21⟩
      | false =>
        obtain ⟨i0, hP0⟩ := h.at_
        have hpk0 := hpk _ _ hP0
        have e1 : P.one [wMeter, wFee, wCharge] 0 s = (-1, s) := by rw [pone_drop _ _ _ _ c0, pone_drop _ _ _ _ c1, pone_drop _ _ _ _ c2] <;> rfl
        rw [P_item_none e1 (by show (-1 : Int) < 0; decide), ht] at hI
        clear e1
        have ea0 := fun v i (h : PAt v b ts r cap i s) => hea v i wMeter h
        rw [c0, eat_no c0] at ea0
        have ea1 := fun v i (h : PAt v b ts r cap i s) => hea v i wFee h
        rw [c1, eat_no c1] at ea1
        have ea2 := fun v i (h : PAt v b ts r cap i s) => hea v i wCharge h
        rw [c2, eat_no c2] at ea2
        clear hea hpk
        replace ea0 := Lib.hid ea0
        replace ea1 := Lib.hid ea1
        replace ea2 := Lib.hid ea2
        have a1 := fun v i (h : PAt v b ts r cap i s) => fail_any h 4 (by decide) t
        generalize fail 4 t s = f4 at *
        have a2 := fun v i (h : PAt v b ts r cap i f4) => must1 h hT wSemi
        generalize P.must [wSemi] f4 = su at *
        generalize peek f4 = tk at *
        unfold tokV at a1 a2
        replace a1 := Lib.hid a1
        replace a2 := Lib.hid a2
        subst hI
        go_enter Tryd.func53, Tryd.ntmps53
        go_wp2_with fail
        refine hpk0.mono ?_
        rintro e w1 ⟨rfl, hb1⟩
        have hS1 := (h.below hb1).alloc (.cells #[.int .i64 t.kind, .string t.text, .int .i64 t.line, .int .i64 t.col] 102)
        have kt1 := Blk.new w1 102 #[.int .i64 t.kind, .string t.text, .int .i64 t.line, .int .i64 t.col]
        have hlw := (h.below hb1).lt
        have hbw : b < w1.heap.size := by obtain ⟨j, hj⟩ := (h.below hb1).at_; exact hj.blk.lt
        clear hpk0 hP0 hb1
        obtain ⟨i2, hP2⟩ := hS1.at_
        go_wp2_with fail
        refine (ea0.out _ _ hP2).mono ?_
        rintro e v2 ⟨rfl, hA2, hF2⟩
        have hS2 := hS1.call hF2 hA2
        have kM2 := hF2.blk kt1 (by omega)
        clear hP2 hA2 hF2
        obtain ⟨i3, hP3⟩ := hS2.at_
        go_wp2_with fail
        refine (ea1.out _ _ hP3).mono ?_
        rintro e v3 ⟨rfl, hA3, hF3⟩
        have hS3 := hS2.call hF3 hA3
        have kM3 := hF3.blk kM2 (by omega)
        clear hP3 hA3 hF3
        obtain ⟨i4, hP4⟩ := hS3.at_
        go_wp2_with fail
        refine (ea2.out _ _ hP4).mono ?_
        rintro e v4 ⟨rfl, hA4, hF4⟩
        have hS4 := hS3.call hF4 hA4
        have kM4 := hF4.blk kM3 (by omega)
        clear hP4 hA4 hF4
        have hSx : PS w0 b O ts r cap v4 s p mv fv cv cs := hS4
        have kt2 : Blk v4 w1.heap.size 102 #[.int .i64 t.kind, .string t.text, .int .i64 t.line, .int .i64 t.col] := kM4
        have hnb := fun g (h : blocks mv fv cv cs g) => hSx.rows.lt h
        replace hnb := Lib.hid hnb
        clear hS1 hS2 hS3 hS4 kt1 kM2 kM3 kM4 ea0 ea1 ea2 h
        obtain ⟨k0, k1, k2, k3, _⟩ := kt2.c4
        obtain ⟨i30, hP30⟩ := hSx.at_
        go_wp2_with fail
        refine (a1.out _ _ hP30).mono ?_
        rintro e w11 ⟨rfl, hA11, hF11⟩
        have hS11 := hSx.call hF11 ⟨_, hA11⟩
        go_wp2_with fail
        refine (a2.out _ _ hA11 _ rfl).mono ?_
        rintro e w12 ⟨rfl, hA12, hF12⟩
        go_wp2_with fail
        go_end0
        exact ⟨rfl, mv, fv, cv, cs, hS11.call hF12 hA12⟩
end Go.Proofs.YtcgkfgklggjmaaaDoor.Par
end
section
namespace Go.Proofs.YtcgkfgklggjmaaaDoor.Par
set_option linter.unusedVariables false
set_option linter.unusedSimpArgs false
open Go.RowKit
/-- what the program says of a text is what the reference says -/
theorem PParse_bad {l : List UInt8} {ts : List Tok} {a b : Int} (h : lexAll l = (ts, 0, a, b)) (h0 : (P.plan dp npV ts).2.err ≠ 0) : RParse l = (noPlan, (P.plan dp npV ts).2.err, (P.plan dp npV ts).2.line, (P.plan dp npV ts).2.col) := by
  obtain ⟨e1, e2, e3, _⟩ := plan_same dp npV ts
  rw [RParse_bad h (by rw [← e1]; exact h0), e1, e2, e3]
theorem PParse_ok {l : List UInt8} {ts : List Tok} {a b : Int} (h : lexAll l = (ts, 0, a, b)) (h0 : (P.plan dp npV ts).2.err = 0) : RParse l = ((P.plan dp npV ts).1, 0, 0, 0) := by
  obtain ⟨e1, e2, e3, e4⟩ := plan_same dp npV ts
  rw [RParse_ok h (by rw [← e1]; exact h0), e4 h0]
theorem pplan_eq (ts : List Tok) : P.plan dp npV ts = P.itemsAll dp npV (P.head dp ⟨ts, 0, 0, 0⟩).1 (P.head dp ⟨ts, 0, 0, 0⟩).2 := rfl
theorem lexAll_ok {l : List UInt8} {ts : List Tok} {a b : Int} (h : lexAll l = (ts, 0, a, b)) : a = 0 ∧ b = 0 := by
  unfold lexAll at h
  split at h
  · injection h with _ h; injection h with h _; cases h
  · split at h
    · injection h with _ h; injection h with _ h; injection h with h1 h2; exact ⟨h1.symm, h2.symm⟩
    · injection h with _ h; injection h with h _; cases h
theorem own_capP {w : World} {base : Nat} {e : TypeId} {size n cap : Nat} {A : Option Addr} {xs : List Value} (h : w.ownsRow base e size (.slice A n cap) n xs) : cap ≤ maxLen := by
  rcases h.2 with ⟨h1, _⟩ | ⟨g, c, cur, h1, _, _, _, hm, _⟩
  · injection h1 with _ _ e3; subst e3; exact Nat.zero_le _
  · injection h1 with _ _ e3; subst e3; exact hm
theorem fault_neqE {er li co : Int} (h : er ≠ 0) : ∀ W, (binOp .neq 34 (.agg #[.int .i64 er, .int .i64 li, .int .i64 co]) (.agg #[.int .i64 0, .int .i64 0, .int .i64 0])).run Tryd.prog W = .ok (.bool true) W := fun W => by
  rw [fault_neq er li co 0 0 0 W, beq_eq_false_iff_ne.2 h]; rfl
theorem results_cell_cell_row {P : Program} {fn : Func} {p q : Tmp} {ty ty' : TypeId} (h : fn.results = #[.cell p ty, .cell q ty']) (tmps : Array Value) (w : World) (g g' : Nat) (t t' : TypeId) (cs cs' : Array Value) (d d' : TypeDesc)
    (hp : tmps.getD p undef = .pointer (some ⟨g, 0, none⟩)) (hg : Blk w g t cs) (hq : tmps.getD q undef = .pointer (some ⟨g', 0, none⟩)) (hg' : Blk w g' t' cs')
    (hu : P.underlying ty = some d) (hd : (match d with | .struct _ | .array _ _ => true | _ => false) = true) (hi : (P.info? ty).map (·.size) = some cs.size)
    (hu' : P.underlying ty' = some d') (hd' : (match d' with | .struct _ | .array _ _ => true | _ => false) = true) (hi' : (P.info? ty').map (·.size) = some cs'.size) :
    (results fn tmps).run P w = .ok (.tuple #[.agg cs, .agg cs']) w := by
  have hp' : tmps[p]?.getD undef = .pointer (some ⟨g, 0, none⟩) := by simpa using hp
  have hq' : tmps[q]?.getD undef = .pointer (some ⟨g', 0, none⟩) := by simpa using hq
  simp [results, h, hp', hq', asAddr, run_loadVar_row w g t ty cs (0, 0) d hg hu hd hi, run_loadVar_row w g' t' ty' cs' (0, 0) d' hg' hu' hd' hi']
/-- within the program's Parse, before there is a plan -/
structure PQ (w0 : World) (b : Nat) (ts : List Tok) (r cap : Nat) (w : World) (s : St) : Prop where
  at_ : ∃ j, PAt w b ts r cap j s
  bl : Below w0.heap.size w0 w
  rb : Blk w w0.heap.size 29 (planC noPlan (.slice none 0 0) (.slice none 0 0) (.slice none 0 0))
  fb : Blk w (w0.heap.size + 1) 34 #[.int .i64 0, .int .i64 0, .int .i64 0]
  hb : w0.heap.size ≤ b
section
variable {w0 : World} {b O : Nat} {ts : List Tok} {r cap : Nat} {w w' : World} {s s' : St} {p : Plan}
theorem PQ.nes (h : PQ w0 b ts r cap w s) : b ≠ w0.heap.size ∧ b ≠ w0.heap.size + 1 := by
  obtain ⟨j, hj⟩ := h.at_
  exact ⟨Blk.ne_ hj.blk h.rb (by decide), Blk.ne_ hj.blk h.fb (by decide)⟩
theorem PQ.call (h : PQ w0 b ts r cap w s) (hf : Fr b w w') (ha : ∃ j, PAt w' b ts r cap j s') : PQ w0 b ts r cap w' s' := by
  obtain ⟨h1, h2⟩ := h.nes
  exact ⟨ha, Fr.toBelow h.bl hf h.hb, hf.blk h.rb (Ne.symm h1), hf.blk h.fb (Ne.symm h2), h.hb⟩
theorem PQ.below (h : PQ w0 b ts r cap w s) (hf : Below w.heap.size w w') : PQ w0 b ts r cap w' s :=
  h.call (Fr.of_below hf) (by obtain ⟨j, hj⟩ := h.at_; exact ⟨j, hj.below hf⟩)
theorem PQ.alloc (h : PQ w0 b ts r cap w s) (o : Obj) : PQ w0 b ts r cap (w.alloc o) s := h.below (bl_alloc (bl_refl _) o)
theorem PQ.drew (h : PQ w0 b ts r cap w s) : PQ w0 b ts r cap w.drew s := h.below (bl_drew (bl_refl _))
theorem PQ.lt (h : PQ w0 b ts r cap w s) : w0.heap.size < w.heap.size ∧ w0.heap.size + 1 < w.heap.size := ⟨h.rb.lt, h.fb.lt⟩
theorem PQ.putM (h : PQ w0 b ts r cap w s) {g : Nat} {cells : Array Value} (hk : Blk w g 29 cells) (hg : w0.heap.size + 1 < g) (k : Nat) (vs : List Value) : PQ w0 b ts r cap (puts w g k vs) s := by
  obtain ⟨j, hj⟩ := h.at_
  exact ⟨⟨j, hj.putAll (Blk.ne_ hj.blk hk (by decide)) (fun e => own_ne_blk hj.row hk (by decide) (congrArg some e)) k vs⟩, bl_puts h.bl (by omega) k vs, h.rb.putsFar (by omega) k vs, h.fb.putsFar (by omega) k vs, h.hb⟩
theorem PQ.toPS (h : PQ w0 b ts r cap w s) (ho : Blk w O 29 (planC p (.slice none 0 0) (.slice none 0 0) (.slice none 0 0))) (hO : w0.heap.size + 1 < O) (h1 : p.mets = []) (h2 : p.fees = []) (h3 : p.chgs = []) : PS w0 b O ts r cap w s p (.slice none 0 0) (.slice none 0 0) (.slice none 0 0) [] :=
  ⟨h.at_, h.bl, h.rb, h.fb, ho, Rows.none _ _ _ h1 h2 h3, h.hb, hO⟩
end
/-- the items' loop counts down -/
def measP (s : St) : Nat := 2 * len s + (if s.err = 0 then 1 else 0)
def countP (p : Plan) : Nat := p.mets.length + p.fees.length + p.chgs.length
theorem pitem_all (p : Plan) (s : St) : countP (P.item dp npV p s).1 + len (P.item dp npV p s).2 ≤ countP p + len s ∧ len (P.item dp npV p s).2 ≤ len s := by
  have h1 := len_oned [wMeter, wFee, wCharge] 0 s (by decide)
  have h0 := len_one [wMeter, wFee, wCharge] 0 s
  unfold P.item
  simp only
  have h3 := len_meter npV (peek s).line (peek s).col (P.one [wMeter, wFee, wCharge] 0 s).2
  have h4 := len_fee dp npV (peek s).line (peek s).col (P.one [wMeter, wFee, wCharge] 0 s).2
  have h5 := len_charge dp npV (peek s).line (peek s).col (P.one [wMeter, wFee, wCharge] 0 s).2
  by_cases c0 : (P.one [wMeter, wFee, wCharge] 0 s).1 = 0
  · rw [if_pos c0]
    have h2 := h1 (by omega)
    simp only [countP, List.length_append, List.length_singleton]
    omega
  · rw [if_neg c0]
    by_cases c1 : (P.one [wMeter, wFee, wCharge] 0 s).1 = 1
    · rw [if_pos c1]
      have h2 := h1 (by omega)
      simp only [countP, List.length_append, List.length_singleton]
      omega
    · rw [if_neg c1]
      by_cases c2 : (P.one [wMeter, wFee, wCharge] 0 s).1 = 2
      · rw [if_pos c2]
        have h2 := h1 (by omega)
        simp only [countP, List.length_append, List.length_singleton]
        omega
      · rw [if_neg c2]
        have h6 := len_must [wSemi] (fail 4 (peek s) (P.one [wMeter, wFee, wCharge] 0 s).2)
        rw [len_fail] at h6
        simp only
        omega
theorem pitem_meas {p : Plan} {s : St} (h : s.err = 0) : measP (P.item dp npV p s).2 < measP s := by
  have h1 := (pitem_all p s).2
  have h2 := item_round dp npV p s
  unfold measP
  rw [if_pos h]
  by_cases h3 : (P.item dp npV p s).2.err = 0
  · rw [if_pos h3]
    rcases h2 with h2 | h2
    · exact absurd h3 h2
    · omega
  · rw [if_neg h3]; omega
theorem run_planP (w : World) (g : Nat) (old new : Array Value) (hb : Blk w g 29 old) (hl : new.toList.length = old.size) (h1 : ∀ v ∈ new.toList, v.oneCell' = true) : (storeCells ⟨g, 0, none⟩ new.toList).run Tryd.prog w = .ok () (w.setRow g new) := by
  have hq := run_storeCells_from (P := Tryd.prog) g 29 new.toList 0 old w hb (by rw [Nat.zero_add]; exact hl) h1
  simpa using hq
theorem bl_rowP {w v : World} (h : Below w.heap.size w v) {g : Nat} (hg : w.heap.size ≤ g) (cs : Array Value) : Below w.heap.size w (v.setRow g cs) :=
  ⟨h.os, h.tape, h.output, by rw [setRow_size]; exact h.size, fun i hi => (setRow_far v g i cs (by omega)).trans (h.block i hi)⟩
/-- the program's Parse -/
def ParseOutP (w : World) (l : List UInt8) (e : Ending) (w' : World) : Prop :=
  ∃ v, e = .returned (.tuple #[v, .agg #[.int .i64 (RParse l).2.1, .int .i64 (RParse l).2.2.1, .int .i64 (RParse l).2.2.2]]) ∧ PlanLies w.heap.size w' v (RParse l).1 ∧ Below w.heap.size w w'
set_option maxHeartbeats 16000000 in
set_option maxRecDepth 100000 in
theorem parse7_any (s : ByteArray) (w : World) (hD : Dec.DT w) (hs : s.size ≤ 9223372036854775807) :
    Calls Tryd.prog 19 #[.string s] w (ParseOutP w s.data.toList) := by
  unfold ParseOutP
  obtain ⟨Q, hQ⟩ : ∃ Q, Q = RParse s.data.toList := ⟨_, rfl⟩
  rw [← hQ]
  have HQ := Lib.hid hQ
  clear hQ
  have kz := (Blk.new w 29 (planC noPlan (.slice none 0 0) (.slice none 0 0) (.slice none 0 0))).alloc (.cells #[.int .i64 0, .int .i64 0, .int .i64 0] 34)
  have fz := Blk.new (w.alloc (.cells (planC noPlan (.slice none 0 0) (.slice none 0 0) (.slice none 0 0)) 29)) 34 #[.int .i64 0, .int .i64 0, .int .i64 0]
  rw [World.size_alloc] at fz
  have hbl0 := bl_alloc (bl_alloc (bl_refl w) (.cells (planC noPlan (.slice none 0 0) (.slice none 0 0) (.slice none 0 0)) 29)) (.cells #[.int .i64 0, .int .i64 0, .int .i64 0] 34)
  have hG := (hD.below hbl0).mx
  go_enter Tryd.func19, Tryd.ntmps19
  go_wp2_with fail
  refine (lex_any s _ hG hs).mono ?_
  rintro e w1 ⟨v, ts, er, li, co, rfl, hown, hb1, hall⟩
  unfold lexR
  have hbl1 := bl_call hbl0 hb1
  have kz1 := kz.call hb1
  have fz1 := fz.call hb1
  have hlt1 := kz1.lt
  have hlt1' := fz1.lt
  obtain ⟨A, cap, rfl, hcap, hA⟩ := own_slice hown
  have hcm := own_capP hown
  clear hG kz fz
  by_cases her : er = 0
  · subst her
    obtain ⟨rfl, rfl⟩ := lexAll_ok hall
    have hfn := fault_neq00
    obtain ⟨hne, hlast, hcount⟩ := all_shape hall
    have hsz := all_sizes hall
    have hlen : 0 < ts.length := List.length_pos_iff.2 hne
    obtain ⟨r, rfl⟩ := hA hlen
    obtain ⟨X, hX⟩ : ∃ X, X = P.plan dp npV ts := ⟨_, rfl⟩
    have hbad : X.2.err ≠ 0 → Q = (noPlan, X.2.err, X.2.line, X.2.col) := fun h => by rw [HQ.out, hX]; exact PParse_bad hall (hX ▸ h)
    have hok : X.2.err = 0 → Q = (X.1, 0, 0, 0) := fun h => by rw [HQ.out, hX]; exact PParse_ok hall (hX ▸ h)
    replace hbad := Lib.hid hbad
    replace hok := Lib.hid hok
    have hrlt := (hown.lt r rfl).2
    have hT : TK ts cap := ⟨by omega, by unfold maxLen at hcm; omega, hsz⟩
    have hlb := hT.lb
    have hcb := hT.capb
    have hP0 : PAt ((w1.alloc (.cells #[.int .i64 0, .int .i64 0, .int .i64 0] 34)).alloc (.cells #[.slice (some ⟨r, 0, none⟩) ts.length cap, .int .i64 0, .int .i64 0, .int .i64 0] 99)) (w1.heap.size + 1) ts r cap 0 ⟨ts, 0, 0, 0⟩ := by
      refine ⟨?_, own_base ((hown.alloc _).alloc _) (Nat.zero_le _), by omega, hcap, rfl, hlen, hlast, fun _ => ⟨rfl, rfl⟩⟩
      have := Blk.new (w1.alloc (.cells #[.int .i64 0, .int .i64 0, .int .i64 0] 34)) 99 #[.slice (some ⟨r, 0, none⟩) ts.length cap, .int .i64 0, .int .i64 0, .int .i64 0]
      rw [World.size_alloc] at this
      simpa using this
    clear HQ hall hsz hlast hne
    rw [pplan_eq] at hX
    unfold P.head at hX
    simp only at hX
    generalize ht : peek ⟨ts, 0, 0, 0⟩ = t at *
    clear hfn
    have g1 := fun v i (h : PAt v (w1.heap.size + 1) ts r cap i ⟨ts, 0, 0, 0⟩) => must1 h hT wPlan
    generalize P.must [wPlan] ⟨ts, 0, 0, 0⟩ = m1 at *
    rw [ht] at g1
    clear ht
    unfold tokV at g1
    have g2 := fun v i (h : PAt v (w1.heap.size + 1) ts r cap i m1) => kind_any h hlb hcb 1
    generalize P.kind 1 m1 = n at *
    obtain ⟨n1, n2⟩ := n
    simp only at hX g2
    have g3 := fun v i (h : PAt v (w1.heap.size + 1) ts r cap i n2) => must1 h hT wCurrency
    generalize P.must [wCurrency] n2 = m2 at *
    generalize peek n2 = tk1 at *
    unfold tokV at g3
    have g4 := fun v i (h : PAt v (w1.heap.size + 1) ts r cap i m2) => kind_any h hlb hcb 1
    generalize P.kind 1 m2 = c at *
    obtain ⟨c1, c2⟩ := c
    simp only at hX g4
    have g5 := fun v i (h : PAt v (w1.heap.size + 1) ts r cap i c2) => must2 h hT wSemi wHorizon
    generalize P.must [wSemi, wHorizon] c2 = m3 at *
    generalize peek c2 = tk2 at *
    unfold tokV at g5
    have g6 := fun v i (h : PAt v (w1.heap.size + 1) ts r cap i m3) => day_any h hlb hcb
    generalize P.day dp m3 = f at *
    obtain ⟨f1, f2⟩ := f
    simp only at hX g6
    have g7 := fun v i (h : PAt v (w1.heap.size + 1) ts r cap i f2) => day_any h hlb hcb
    generalize P.day dp f2 = z at *
    obtain ⟨z1, z2⟩ := z
    simp only at hX g7
    have g8 := fun v i (h : PAt v (w1.heap.size + 1) ts r cap i z2) => must1 h hT wSemi
    generalize P.must [wSemi] z2 = q5 at *
    generalize peek z2 = tk3 at *
    unfold tokV at g8
    unfold dayV at g6 g7
    have HX := Lib.hid hX.symm
    clear hX
    replace g1 := Lib.hid g1
    replace g2 := Lib.hid g2
    replace g3 := Lib.hid g3
    replace g4 := Lib.hid g4
    replace g5 := Lib.hid g5
    replace g6 := Lib.hid g6
    replace g7 := Lib.hid g7
    replace g8 := Lib.hid g8
    have hQ0 : PQ w (w1.heap.size + 1) ts r cap ((w1.alloc (.cells #[.int .i64 0, .int .i64 0, .int .i64 0] 34)).alloc (.cells #[.slice (some ⟨r, 0, none⟩) ts.length cap, .int .i64 0, .int .i64 0, .int .i64 0] 99)) ⟨ts, 0, 0, 0⟩ := ⟨⟨0, hP0⟩, bl_alloc (bl_alloc hbl1 _) _, (kz1.alloc _).alloc _, (fz1.alloc _).alloc _, by omega⟩
    clear hP0 kz1 fz1 hbl0 hb1 hbl1 hown
    have hfn := fault_neq00
    obtain ⟨i0, hP0⟩ := hQ0.at_
    go_wp2_with fail
    refine (g1.out _ _ hP0 _ (by simp)).mono ?_
    rintro e w2 ⟨rfl, hA2, hF2⟩
    have hQ1 := (hQ0.call hF2 hA2).alloc (.cells #[.int .i64 t.kind, .string t.text, .int .i64 t.line, .int .i64 t.col] 102)
    have kt := Blk.new w2 102 #[.int .i64 t.kind, .string t.text, .int .i64 t.line, .int .i64 t.col]
    have hsz2 := hF2.size
    simp only [World.size_alloc] at hsz2
    clear hP0 hA2 hF2 g1 hQ0 hfn
    go_upto_region 6 with fail
    generalize w2.alloc (.cells #[.int .i64 t.kind, .string t.text, .int .i64 t.line, .int .i64 t.col] 102) = W at *
    go_cut [8] (fun vM wx => ∃ M, vM = .pointer (some ⟨M, 0, none⟩) ∧ PS w (w1.heap.size + 1) M ts r cap wx n2 (⟨n1, ⟨#[]⟩, (0, 0, 0), (0, 0, 0), [], [], [], t.line, t.col⟩ : Plan) (.slice none 0 0) (.slice none 0 0) (.slice none 0 0) [] ∧ w1.heap.size < M)
    case first =>
      obtain ⟨k0, k1, k2, k3, _⟩ := kt.c4
      have hA2 : PQ w (w1.heap.size + 1) ts r cap W.drew m1 := hQ1.drew
      have hB2 : PQ w (w1.heap.size + 1) ts r cap (W.alloc (.cells #[.string ⟨#[]⟩, .string ⟨#[]⟩, .int .i64 0, .int .i64 0, .int .i64 0, .int .i64 0, .int .i64 0, .int .i64 0, .slice none 0 0, .slice none 0 0, .slice none 0 0, .int .i64 0, .int .i64 0] 29)).drew m1 := (hQ1.alloc (.cells #[.string ⟨#[]⟩, .string ⟨#[]⟩, .int .i64 0, .int .i64 0, .int .i64 0, .int .i64 0, .int .i64 0, .int .i64 0, .slice none 0 0, .slice none 0 0, .slice none 0 0, .int .i64 0, .int .i64 0] 29)).drew
      have kA2 : Blk W.drew w2.heap.size 102 #[.int .i64 t.kind, .string t.text, .int .i64 t.line, .int .i64 t.col] := kt.drew
      have kB2 : Blk (W.alloc (.cells #[.string ⟨#[]⟩, .string ⟨#[]⟩, .int .i64 0, .int .i64 0, .int .i64 0, .int .i64 0, .int .i64 0, .int .i64 0, .slice none 0 0, .slice none 0 0, .slice none 0 0, .int .i64 0, .int .i64 0] 29)).drew w2.heap.size 102 #[.int .i64 t.kind, .string t.text, .int .i64 t.line, .int .i64 t.col] := (kt.alloc (.cells #[.string ⟨#[]⟩, .string ⟨#[]⟩, .int .i64 0, .int .i64 0, .int .i64 0, .int .i64 0, .int .i64 0, .int .i64 0, .slice none 0 0, .slice none 0 0, .slice none 0 0, .int .i64 0, .int .i64 0] 29)).drew
      have kM2b : Blk (W.alloc (.cells #[.string ⟨#[]⟩, .string ⟨#[]⟩, .int .i64 0, .int .i64 0, .int .i64 0, .int .i64 0, .int .i64 0, .int .i64 0, .slice none 0 0, .slice none 0 0, .slice none 0 0, .int .i64 0, .int .i64 0] 29)).drew W.heap.size 29 #[.string ⟨#[]⟩, .string ⟨#[]⟩, .int .i64 0, .int .i64 0, .int .i64 0, .int .i64 0, .int .i64 0, .int .i64 0, .slice none 0 0, .slice none 0 0, .slice none 0 0, .int .i64 0, .int .i64 0] := (Blk.new W 29 #[.string ⟨#[]⟩, .string ⟨#[]⟩, .int .i64 0, .int .i64 0, .int .i64 0, .int .i64 0, .int .i64 0, .int .i64 0, .slice none 0 0, .slice none 0 0, .slice none 0 0, .int .i64 0, .int .i64 0]).drew
      have hl2 := kt.lt
      have hlQ := hQ1.lt
      have hp := fun V (h : PQ w (w1.heap.size + 1) ts r cap V m1) => (fun hA => g2.out V _ hA.choose_spec) h.at_
      replace hp := Lib.hid hp
      clear g2
      have k2d : W.drew.cell? ⟨w2.heap.size, 2, none⟩ = some (.int .i64 t.line) := k2
      have k3d : W.drew.cell? ⟨w2.heap.size, 3, none⟩ = some (.int .i64 t.col) := k3
      have l2d : w2.heap.size < W.drew.heap.size := hl2
      obtain ⟨_, _, k2b, k3b, _⟩ := kB2.c4
      have l2b := kB2.lt
      have hsets : setsA #[.string ⟨#[]⟩, .string ⟨#[]⟩, .int .i64 0, .int .i64 0, .int .i64 0, .int .i64 0, .int .i64 0, .int .i64 0, .slice none 0 0, .slice none 0 0, .slice none 0 0, .int .i64 0, .int .i64 0] 0 [.string n1, .string ⟨#[]⟩, .int .i64 0, .int .i64 0, .int .i64 0, .int .i64 0, .int .i64 0, .int .i64 0, .slice none 0 0, .slice none 0 0, .slice none 0 0, .int .i64 t.line, .int .i64 t.col] = #[.string n1, .string ⟨#[]⟩, .int .i64 0, .int .i64 0, .int .i64 0, .int .i64 0, .int .i64 0, .int .i64 0, .slice none 0 0, .slice none 0 0, .slice none 0 0, .int .i64 t.line, .int .i64 t.col] := by simp [setsA]
      replace hsets := Lib.hid hsets
      have hWb : (w1.heap.size + 1) < W.heap.size := by obtain ⟨j, hj⟩ := hQ1.at_; exact hj.blk.lt
      go_region_held3 (fun w' => w'.cell? ⟨w2.heap.size, 2, none⟩ = some (.int .i64 t.line) ∧ w'.cell? ⟨w2.heap.size, 3, none⟩ = some (.int .i64 t.col) ∧ w2.heap.size < w'.heap.size)
        (refine ⟨?_, ?_, ?_⟩ <;> with_reducible assumption)
        ((go_at_call 50; refine (hp.out _ (by with_reducible assumption)).mono ?_; rintro e w3 ⟨rfl, hA3, hF3⟩; (have kt3 : Blk w3 w2.heap.size 102 #[.int .i64 t.kind, .string t.text, .int .i64 t.line, .int .i64 t.col] := hF3.blk (by with_reducible assumption) (by omega)); obtain ⟨j0_, j1_, j2_, j3_, _⟩ := kt3.c4; (have hl3 := kt3.lt); (have kt3a := kt3.alloc (.cells #[.string ⟨#[]⟩, .string ⟨#[]⟩, .int .i64 0, .int .i64 0, .int .i64 0, .int .i64 0, .int .i64 0, .int .i64 0, .slice none 0 0, .slice none 0 0, .slice none 0 0, .int .i64 0, .int .i64 0] 29)); obtain ⟨_, _, a2_, a3_, _⟩ := kt3a.c4; (have la_ := kt3a.lt); (have kt3b := kt3.alloc (.cells #[.string n1, .string ⟨#[]⟩, .int .i64 0, .int .i64 0, .int .i64 0, .int .i64 0, .int .i64 0, .int .i64 0, .slice none 0 0, .slice none 0 0, .slice none 0 0, .int .i64 t.line, .int .i64 t.col] 29)); obtain ⟨_, _, b2_, b3_, _⟩ := kt3b.c4; (have lb_ := kt3b.lt); (try ((have kM3 : Blk w3 W.heap.size 29 #[.string ⟨#[]⟩, .string ⟨#[]⟩, .int .i64 0, .int .i64 0, .int .i64 0, .int .i64 0, .int .i64 0, .int .i64 0, .slice none 0 0, .slice none 0 0, .slice none 0 0, .int .i64 0, .int .i64 0] := hF3.blk (by with_reducible assumption) (by omega)); obtain ⟨z0, z1, z2, z3, z4, z5, z6, z7, z8, z9, z10, z11, z12, f0_, f1_, f2_, f3_, f4_, f5_, f6_, f7_, f8_, f9_, f10_, f11_, f12_⟩ := kM3.c13; (have hlM3 := kM3.lt); (have kP3 := kt3.putsFar (g' := W.heap.size) (by omega) 0 [.string n1, .string ⟨#[]⟩, .int .i64 0, .int .i64 0, .int .i64 0, .int .i64 0, .int .i64 0, .int .i64 0, .slice none 0 0, .slice none 0 0, .slice none 0 0, .int .i64 t.line, .int .i64 t.col]); simp only [puts, Nat.zero_add, Nat.reduceAdd] at kP3; obtain ⟨_, _, c2_, c3_, _⟩ := kP3.c4; (have lc_ := kP3.lt)))))
      all_goals
        have hsz3 := hF3.size
        go_wp2_with fail
        go_meet
        first
          | exact ⟨w3.heap.size, rfl, ((hA2.call hF3 hA3).alloc _).toPS (Blk.new w3 29 #[.string n1, .string ⟨#[]⟩, .int .i64 0, .int .i64 0, .int .i64 0, .int .i64 0, .int .i64 0, .int .i64 0, .slice none 0 0, .slice none 0 0, .slice none 0 0, .int .i64 t.line, .int .i64 t.col]) (hA2.call hF3 hA3).lt.2 rfl rfl rfl, by simp at hsz3; omega⟩
          | (have q1 := (hB2.call hF3 hA3).putM kM3 hlQ.2 0 [.string n1, .string ⟨#[]⟩, .int .i64 0, .int .i64 0, .int .i64 0, .int .i64 0, .int .i64 0, .int .i64 0, .slice none 0 0, .slice none 0 0, .slice none 0 0, .int .i64 t.line, .int .i64 t.col]; have q2 := kM3.putAll [.string n1, .string ⟨#[]⟩, .int .i64 0, .int .i64 0, .int .i64 0, .int .i64 0, .int .i64 0, .int .i64 0, .slice none 0 0, .slice none 0 0, .slice none 0 0, .int .i64 t.line, .int .i64 t.col] 0; rw [hsets.out] at q2; simp only [puts, Nat.zero_add, Nat.reduceAdd] at q1 q2; exact ⟨W.heap.size, rfl, q1.toPS (p := (⟨n1, ⟨#[]⟩, (0, 0, 0), (0, 0, 0), [], [], [], t.line, t.col⟩ : Plan)) q2 hlQ.2 rfl rfl rfl, by omega⟩)
    case rest =>
      obtain ⟨M, rfl, hS0, hM⟩ := hcut
      clear hQ1 kt g2
      obtain ⟨i1, hP1⟩ := hS0.at_
      go_wp2_with fail
      refine (g3.out _ _ hP1 _ (by simp [puts, World.setCell])).mono ?_
      rintro e v1 ⟨rfl, hA1, hF1⟩
      have hS1 := hS0.call hF1 hA1
      clear hP1 hA1 hF1 g3 hS0
      obtain ⟨i2, hP2⟩ := hS1.at_
      go_wp2_with fail
      refine (g4.out _ _ hP2).mono ?_
      rintro e v2 ⟨rfl, hA2, hF2⟩
      have hS2 := hS1.call hF2 hA2
      clear hP2 hA2 hF2 g4 hS1
      obtain ⟨x3_0, x3_0'⟩ := hS2.cell 1 _ rfl
      have hl3 := hS2.lt
      have hS3 : PS w (w1.heap.size + 1) M ts r cap _ c2 (⟨n1, c1, (0, 0, 0), (0, 0, 0), [], [], [], t.line, t.col⟩ : Plan) (.slice none 0 0) (.slice none 0 0) (.slice none 0 0) [] := hS2.putO 1 [.string c1] _ rfl rfl rfl rfl
      obtain ⟨i4, hP4⟩ := hS3.at_
      go_wp2_with fail
      refine (g5.out _ _ hP4 _ (by simp [puts, World.setCell])).mono ?_
      rintro e v4 ⟨rfl, hA4, hF4⟩
      have hS4 := hS3.call hF4 hA4
      clear hP4 hA4 hF4 g5 hS3
      obtain ⟨i5, hP5⟩ := hS4.at_
      go_wp2_with fail
      refine (g6.out _ _ hP5).mono ?_
      rintro e v5 ⟨rfl, hA5, hF5⟩
      have hS5 := hS4.call hF5 hA5
      clear hP5 hA5 hF5 g6 hS4
      obtain ⟨x6_0, x6_0'⟩ := hS5.cell 2 _ rfl
      obtain ⟨x6_1, x6_1'⟩ := hS5.cell 3 _ rfl
      obtain ⟨x6_2, x6_2'⟩ := hS5.cell 4 _ rfl
      have hl6 := hS5.lt
      have hS6 : PS w (w1.heap.size + 1) M ts r cap _ f2 (⟨n1, c1, f1, (0, 0, 0), [], [], [], t.line, t.col⟩ : Plan) (.slice none 0 0) (.slice none 0 0) (.slice none 0 0) [] := hS5.putO 2 [.int .i64 f1.1, .int .i64 f1.2.1, .int .i64 f1.2.2] _ rfl rfl rfl rfl
      obtain ⟨i7, hP7⟩ := hS6.at_
      go_wp2_with fail
      refine (g7.out _ _ hP7).mono ?_
      rintro e v7 ⟨rfl, hA7, hF7⟩
      have hS7 := hS6.call hF7 hA7
      clear hP7 hA7 hF7 g7 hS6
      obtain ⟨x8_0, x8_0'⟩ := hS7.cell 5 _ rfl
      obtain ⟨x8_1, x8_1'⟩ := hS7.cell 6 _ rfl
      obtain ⟨x8_2, x8_2'⟩ := hS7.cell 7 _ rfl
      have hl8 := hS7.lt
      have hS8 : PS w (w1.heap.size + 1) M ts r cap _ z2 (⟨n1, c1, f1, z1, [], [], [], t.line, t.col⟩ : Plan) (.slice none 0 0) (.slice none 0 0) (.slice none 0 0) [] := hS7.putO 5 [.int .i64 z1.1, .int .i64 z1.2.1, .int .i64 z1.2.2] _ rfl rfl rfl rfl
      obtain ⟨i9, hP9⟩ := hS8.at_
      go_wp2_with fail
      refine (g8.out _ _ hP9 _ (by simp [puts, World.setCell])).mono ?_
      rintro e v9 ⟨rfl, hA9, hF9⟩
      have hS9 := hS8.call hF9 hA9
      clear hP9 hA9 hF9 g8 hS8
      obtain ⟨hS, hSe⟩ : ∃ h : PS w (w1.heap.size + 1) M ts r cap v9 q5 (⟨n1, c1, f1, z1, [], [], [], t.line, t.col⟩ : Plan) (.slice none 0 0) (.slice none 0 0) (.slice none 0 0) [], h = hS9 := ⟨_, rfl⟩
      clear hSe hS9
      try clear hS3 hS6 hS8
      clear x3_0 x3_0' hl3 x6_0 x6_0' x6_1 x6_1' x6_2 x6_2' hl6 x8_0 x8_0' x8_1 x8_1' x8_2 x8_2' hl8
      have hlm : len q5 ≤ 100000 := by obtain ⟨j, hj⟩ := hS.at_; rw [hj.len]; have := hT.big; omega
      have hDh := Lib.hid hD
      clear hD
      go_wp2_with fail
      go_loopg [] (measP q5) (fun g wx => ∃ p s' mv fv cv cs, PS w (w1.heap.size + 1) M ts r cap wx s' p mv fv cv cs ∧ countP p + len s' ≤ 100000 ∧ g = measP s' ∧ Hid (P.itemsAll dp npV p s' = X))
      case atStart => exact ⟨_, q5, _, _, _, _, hS, by simpa [countP] using hlm, rfl, HX⟩
      case round =>
        obtain ⟨p, s', mv, fv, cv, cs, hS, hcnt, rfl, HK⟩ := hrel
        clear HX hlm
        obtain ⟨jr, hPr⟩ := hS.at_
        obtain ⟨c0, c1_, c2_, c3_, f0, f1_, f2_, f3_⟩ := hPr.blk.c4
        have hbb := hPr.blk.lt
        have hlS := hS.lt
        by_cases h0 : s'.err = 0
        · obtain ⟨x1, x2, x3⟩ := hPr.calm h0
          clear c1_ c2_ c3_
          have hfe : ∀ W, (binOp .eql 34 (.agg #[.int .i64 0, .int .i64 0, .int .i64 0]) (.agg #[.int .i64 0, .int .i64 0, .int .i64 0])).run Tryd.prog W = .ok (.bool true) W := fun W => fault_eql 0 0 0 0 0 0 W
          have hpk := peek_any hPr hlb hcb
          by_cases hk : (peek s').kind = 0
          · have ek : ((peek s').kind != 0) = false := by rw [hk]; rfl
            have hX2 := HK.out
            rw [itemsAll_end dp npV (.inr hk)] at hX2
            subst hX2
            have hq := hok.out h0
            subst hq
            clear hok hbad HK hk
            obtain ⟨Am, cm, rfl, _, _, _⟩ := Lies.open (f := metF) (l := p.mets) (Lies.of hS.rows.mo)
            obtain ⟨Af, cf, rfl, _, _, _⟩ := Lies.open (f := feeF) (l := p.fees) (Lies.of hS.rows.fo)
            obtain ⟨Ac, cc, rfl, _, _, _⟩ := Lies.open (f := chgF) (l := cs) (Lies.of hS.rows.co)
            generalize peek s' = tk at *
            unfold tokV at hpk
            have hfd : ∀ W, (Instr.field 102 (.agg #[.int .i64 tk.kind, .string tk.text, .int .i64 tk.line, .int .i64 tk.col]) 0).run Tryd.prog W = .ok (.int .i64 tk.kind) W := fun _ => by kernel_rfl
            replace h0 := Lib.hid h0
            go_wp2_with fail
            refine hpk.mono ?_
            rintro e v20 ⟨rfl, hb20⟩
            have hS20 := hS.below hb20
            obtain ⟨j20, hP20⟩ := hS20.at_
            obtain ⟨y1, y2, y3⟩ := hP20.calm h0.out
            obtain ⟨_, _, _, _, r0_, r1_, r2_, r3_⟩ := hP20.blk.c4
            have hfn := fault_neq00
            have hl20 := hP20.blk.lt
            have hlS20 := hS20.lt
            obtain ⟨w0, w1, w2, w0f, w1f, w2f⟩ := hS20.fb.c3
            have hlF := hS20.fb.lt
            have hsc := run_planP v20 w.heap.size (planC noPlan (.slice none 0 0) (.slice none 0 0) (.slice none 0 0)) (planC p (.slice Am p.mets.length cm) (.slice Af p.fees.length cf) (.slice Ac cs.length cc)) hS20.rb rfl (by simp [planC, Value.oneCell'])
            have hfb3 : Blk (v20.setRow w.heap.size (planC p (.slice Am p.mets.length cm) (.slice Af p.fees.length cf) (.slice Ac cs.length cc))) (w.heap.size + 1) 34 #[.int .i64 0, .int .i64 0, .int .i64 0] := (setRow_far v20 w.heap.size (w.heap.size + 1) _ (by omega)).trans hS20.fb
            obtain ⟨u0, u1, u2, u0f, u1f, u2f⟩ := hfb3.c3
            clear hPr c0 f0 f1_ f2_ f3_ hbb x1 x2 x3 hpk hb20 hfe hS hlS
            go_wp2_with (refine wpList_load_row rfl 29 (.tmp 8) rfl M rfl 29 (planC p (.slice Am p.mets.length cm) (.slice Af p.fees.length cf) (.slice Ac cs.length cc)) (0, 0) _ hS20.ob Tryd.underlying29 rfl (by kernel_rfl) ?_)
            have hs2 : setsA #[.int .i64 0, .int .i64 0, .int .i64 0] 0 [.int .i64 0, .int .i64 0, .int .i64 0] = #[.int .i64 0, .int .i64 0, .int .i64 0] := by simp [setsA]
            have qa := (Blk.row (cs' := (planC p (.slice Am p.mets.length cm) (.slice Af p.fees.length cf) (.slice Ac cs.length cc))) hS20.rb).putsFar (g' := w.heap.size + 1) (by omega) 0 [.int .i64 0, .int .i64 0, .int .i64 0]
            have qb := hfb3.putAll [.int .i64 0, .int .i64 0, .int .i64 0] 0
            have qc := bl_puts (bl_rowP hS20.bl (Nat.le_refl _) (planC p (.slice Am p.mets.length cm) (.slice Af p.fees.length cf) (.slice Ac cs.length cc))) (Nat.le_succ w.heap.size) 0 [.int .i64 0, .int .i64 0, .int .i64 0]
            have qr := (hS20.rows.setRow_ hS20.nR (planC p (.slice Am p.mets.length cm) (.slice Af p.fees.length cf) (.slice Ac cs.length cc))).puts_ (hS20.rows.apart hS20.fb (by decide) (by decide) (by decide) (by decide) (by decide)) 0 [.int .i64 0, .int .i64 0, .int .i64 0]
            rw [hs2] at qb
            simp only [puts, Nat.zero_add, Nat.reduceAdd] at qa qb qc qr
            exact bodyPost_ret (results_cell_cell_row rfl _ _ w.heap.size (w.heap.size + 1) _ _ (planC p (.slice Am p.mets.length cm) (.slice Af p.fees.length cf) (.slice Ac cs.length cc)) #[.int .i64 0, .int .i64 0, .int .i64 0] _ _ rfl qa rfl qb Tryd.underlying29 rfl (by kernel_rfl) Tryd.underlying34 rfl (by kernel_rfl)) rfl ⟨_, rfl, ⟨_, _, _, cs, rfl, qr⟩, qc⟩
          · have ek : ((peek s').kind != 0) = true := bne_iff_ne.2 hk
            have hst := itemsAll_step dp npV (p := p) h0 hk
            rw [HK.out] at hst
            have hms := pitem_meas (p := p) h0
            have hall2 := pitem_all p s'
            have hpos : 0 < len s' := by rw [hPr.len]; have := hPr.lt; omega
            have hcn2 : p.mets.length + p.fees.length + cs.length < 100000 := by
              have := congrArg List.length hS.rows.eq
              rw [List.length_map] at this
              unfold countP at hcnt
              omega
            clear hok hbad HK hk h0
            generalize peek s' = tk at *
            unfold tokV at hpk
            have hfd : ∀ W, (Instr.field 102 (.agg #[.int .i64 tk.kind, .string tk.text, .int .i64 tk.line, .int .i64 tk.col]) 0).run Tryd.prog W = .ok (.int .i64 tk.kind) W := fun _ => by kernel_rfl
            replace hst := Lib.hid hst
            replace hms := Lib.hid hms
            replace hall2 := Lib.hid hall2
            go_wp2_with fail
            refine hpk.mono ?_
            rintro e v20 ⟨rfl, hb20⟩
            have hS20 := hS.below hb20
            clear hPr c0 f0 f1_ f2_ f3_ hbb x1 x2 x3 hpk hb20 hfe hS hlS
            go_wp2_with fail
            refine (item_any hS20 hT hDh.out hcn2).mono ?_
            rintro e v21 ⟨rfl, mv', fv', cv', cs', hS21⟩
            generalize P.item dp npV p s' = pi at *
            obtain ⟨p2, s2⟩ := pi
            go_wp2_with fail
            go_roundg (measP s2)
            case measure => exact hms.out
            case rel => exact ⟨p2, s2, mv', fv', cv', cs', hS21, by have := hall2.out; omega, rfl, Lib.hid hst.out.symm⟩
        · have hfe : ∀ W, (binOp .eql 34 (.agg #[.int .i64 s'.err, .int .i64 s'.line, .int .i64 s'.col]) (.agg #[.int .i64 0, .int .i64 0, .int .i64 0])).run Tryd.prog W = .ok (.bool false) W := fun W => by
            rw [fault_eql s'.err s'.line s'.col 0 0 0 W, beq_eq_false_iff_ne.2 h0]; rfl
          have hfn := fault_neqE (er := s'.err) (li := s'.line) (co := s'.col) h0
          have hX2 := HK.out
          rw [itemsAll_end dp npV (.inl h0)] at hX2
          subst hX2
          have hq := hbad.out h0
          subst hq
          clear hok hbad HK h0
          have hrb := hS.rb
          have hfb := hS.fb
          have hbl := hS.bl
          obtain ⟨z0, z1, z2, z3, z4, z5, z6, z7, z8, z9, z10, z11, z12, f0_, f1_, f2_, f3_, f4_, f5_, f6_, f7_, f8_, f9_, f10_, f11_, f12_⟩ := hrb.c13
          obtain ⟨y0, y1, y2, y0f, y1f, y2f⟩ := hfb.c3
          have hlF := hfb.lt
          go_wp2_with fail
          go_region
          all_goals go_wp2_with fail
          have hs1 : setsA (planC noPlan (.slice none 0 0) (.slice none 0 0) (.slice none 0 0)) 0 [.string ⟨#[]⟩, .string ⟨#[]⟩, .int .i64 0, .int .i64 0, .int .i64 0, .int .i64 0, .int .i64 0, .int .i64 0, .slice none 0 0, .slice none 0 0, .slice none 0 0, .int .i64 0, .int .i64 0] = (planC noPlan (.slice none 0 0) (.slice none 0 0) (.slice none 0 0)) := by simp [setsA, planC, noPlan]
          have hs2 : setsA #[.int .i64 0, .int .i64 0, .int .i64 0] 0 [.int .i64 s'.err, .int .i64 s'.line, .int .i64 s'.col] = #[.int .i64 s'.err, .int .i64 s'.line, .int .i64 s'.col] := by simp [setsA]
          have qa := (hrb.putAll [.string ⟨#[]⟩, .string ⟨#[]⟩, .int .i64 0, .int .i64 0, .int .i64 0, .int .i64 0, .int .i64 0, .int .i64 0, .slice none 0 0, .slice none 0 0, .slice none 0 0, .int .i64 0, .int .i64 0] 0).putsFar (g' := w.heap.size + 1) (by omega) 0 [.int .i64 s'.err, .int .i64 s'.line, .int .i64 s'.col]
          have qb := (hfb.putsFar (g' := w.heap.size) (by omega) 0 [.string ⟨#[]⟩, .string ⟨#[]⟩, .int .i64 0, .int .i64 0, .int .i64 0, .int .i64 0, .int .i64 0, .int .i64 0, .slice none 0 0, .slice none 0 0, .slice none 0 0, .int .i64 0, .int .i64 0]).putAll [.int .i64 s'.err, .int .i64 s'.line, .int .i64 s'.col] 0
          have qc := bl_puts (bl_puts hbl (Nat.le_refl w.heap.size) 0 [.string ⟨#[]⟩, .string ⟨#[]⟩, .int .i64 0, .int .i64 0, .int .i64 0, .int .i64 0, .int .i64 0, .int .i64 0, .slice none 0 0, .slice none 0 0, .slice none 0 0, .int .i64 0, .int .i64 0]) (Nat.le_succ w.heap.size) 0 [.int .i64 s'.err, .int .i64 s'.line, .int .i64 s'.col]
          rw [hs1] at qa
          rw [hs2] at qb
          simp only [puts, Nat.zero_add, Nat.reduceAdd] at qa qb qc
          exact bodyPost_ret (results_cell_cell_row rfl _ _ w.heap.size (w.heap.size + 1) _ _ (planC noPlan (.slice none 0 0) (.slice none 0 0) (.slice none 0 0)) #[.int .i64 s'.err, .int .i64 s'.line, .int .i64 s'.col] _ _ rfl qa.drew rfl qb.drew Tryd.underlying29 rfl (by kernel_rfl) Tryd.underlying34 rfl (by kernel_rfl)) rfl ⟨_, rfl, ⟨(.slice none 0 0), (.slice none 0 0), (.slice none 0 0), [], rfl, Rows.none _ _ _ rfl rfl rfl⟩, bl_drew qc⟩
  · have hq := HQ.out
    rw [RParse_lex hall her] at hq
    subst hq
    have hfn := fault_neqE (li := li) (co := co) her
    clear her hall hown hb1 hbl0 hcap hA hcm
    obtain ⟨z0, z1, z2, z3, z4, z5, z6, z7, z8, z9, z10, z11, z12, f0_, f1_, f2_, f3_, f4_, f5_, f6_, f7_, f8_, f9_, f10_, f11_, f12_⟩ := kz1.c13
    obtain ⟨y0, y1, y2, y0f, y1f, y2f⟩ := fz1.c3
    go_wp2_with fail
    go_region
    all_goals go_wp2_with fail
    have hs1 : setsA (planC noPlan (.slice none 0 0) (.slice none 0 0) (.slice none 0 0)) 0 [.string ⟨#[]⟩, .string ⟨#[]⟩, .int .i64 0, .int .i64 0, .int .i64 0, .int .i64 0, .int .i64 0, .int .i64 0, .slice none 0 0, .slice none 0 0, .slice none 0 0, .int .i64 0, .int .i64 0] = (planC noPlan (.slice none 0 0) (.slice none 0 0) (.slice none 0 0)) := by simp [setsA, planC, noPlan]
    have hs2 : setsA #[.int .i64 0, .int .i64 0, .int .i64 0] 0 [.int .i64 er, .int .i64 li, .int .i64 co] = #[.int .i64 er, .int .i64 li, .int .i64 co] := by simp [setsA]
    have qa := (kz1.putAll [.string ⟨#[]⟩, .string ⟨#[]⟩, .int .i64 0, .int .i64 0, .int .i64 0, .int .i64 0, .int .i64 0, .int .i64 0, .slice none 0 0, .slice none 0 0, .slice none 0 0, .int .i64 0, .int .i64 0] 0).putsFar (g' := w.heap.size + 1) (by omega) 0 [.int .i64 er, .int .i64 li, .int .i64 co]
    have qb := (fz1.putsFar (g' := w.heap.size) (by omega) 0 [.string ⟨#[]⟩, .string ⟨#[]⟩, .int .i64 0, .int .i64 0, .int .i64 0, .int .i64 0, .int .i64 0, .int .i64 0, .slice none 0 0, .slice none 0 0, .slice none 0 0, .int .i64 0, .int .i64 0]).putAll [.int .i64 er, .int .i64 li, .int .i64 co] 0
    have qc := bl_puts (bl_puts hbl1 (Nat.le_refl w.heap.size) 0 [.string ⟨#[]⟩, .string ⟨#[]⟩, .int .i64 0, .int .i64 0, .int .i64 0, .int .i64 0, .int .i64 0, .int .i64 0, .slice none 0 0, .slice none 0 0, .slice none 0 0, .int .i64 0, .int .i64 0]) (Nat.le_succ w.heap.size) 0 [.int .i64 er, .int .i64 li, .int .i64 co]
    rw [hs1] at qa
    rw [hs2] at qb
    simp only [puts, Nat.zero_add, Nat.reduceAdd] at qa qb qc
    exact bodyPost_ret (results_cell_cell_row rfl _ _ w.heap.size (w.heap.size + 1) _ _ (planC noPlan (.slice none 0 0) (.slice none 0 0) (.slice none 0 0)) #[.int .i64 er, .int .i64 li, .int .i64 co] _ _ rfl (qa.alloc _).drew rfl (qb.alloc _).drew Tryd.underlying29 rfl (by kernel_rfl) Tryd.underlying34 rfl (by kernel_rfl)) rfl ⟨_, rfl, ⟨(.slice none 0 0), (.slice none 0 0), (.slice none 0 0), [], rfl, Rows.none _ _ _ rfl rfl rfl⟩, bl_drew (bl_alloc qc _)⟩
end Go.Proofs.YtcgkfgklggjmaaaDoor.Par
end
section
namespace Go.Proofs.YtcgkfgklggjmaaaDoor
set_option linter.unusedVariables false
set_option linter.unusedSimpArgs false
/-! the tokens of a text that stands written out -/
def lexF : Nat → List UInt8 → Int → Int → Except (Int × Int) (List Tok)
  | 0, _, _, _ => .ok []
  | _ + 1, [], line, col => .ok [⟨0, ⟨#[]⟩, line, col⟩]
  | f + 1, c :: cs, line, col =>
    if c = 35 then lexF f (cs.drop (noteLen cs)) line (col + 1 + noteLen cs)
    else if c = 10 then lexF f cs (line + 1) 1
    else if c = 32 ∨ c = 9 ∨ c = 13 then lexF f cs line (col + 1)
    else if kindOf (c :: cs.take (tokLen c cs)) = 0 then .error (line, col)
    else consR ⟨kindOf (c :: cs.take (tokLen c cs)), ⟨(c :: cs.take (tokLen c cs)).toArray⟩, line, col⟩ (lexF f (cs.drop (tokLen c cs)) line (col + 1 + tokLen c cs))
theorem lexF_eq : ∀ (f : Nat) (l : List UInt8) (line col : Int), l.length < f → lexF f l line col = lexL l line col
  | 0, _, _, _, h => absurd h (by omega)
  | f + 1, [], line, col, _ => by rw [lexL, lexF]
  | f + 1, c :: cs, line, col, h => by
    rw [List.length_cons] at h
    rw [lexL, lexF]
    rw [lexF_eq f (cs.drop (noteLen cs)) _ _ (by rw [List.length_drop]; omega), lexF_eq f cs _ _ (by omega), lexF_eq f cs _ _ (by omega), lexF_eq f (cs.drop (tokLen c cs)) _ _ (by rw [List.length_drop]; omega)]
def aText1 : List UInt8 := [112, 108, 97, 110, 32, 112, 49, 59]
def aText2 : List UInt8 := [32, 50, 48, 50, 52, 45, 48, 50, 45, 51, 48]
def aText3 : List UInt8 := [50, 48, 50, 52, 45, 48, 50, 45, 50, 57]
def aToks1 : List Tok := [⟨2, ⟨#[112, 108, 97, 110]⟩, 1, 1⟩, ⟨1, ⟨#[112, 49]⟩, 1, 6⟩, ⟨5, ⟨#[59]⟩, 1, 8⟩, ⟨0, ⟨#[]⟩, 1, 9⟩]
theorem a_toks1 : lexAll aText1 = (aToks1, 0, 0, 0) := by
  rw [lexAll, if_neg (by decide), ← lexF_eq 20 aText1 1 1 (by decide)]
  have : lexF 20 aText1 1 1 = .ok aToks1 := by kernel_rfl
  rw [this]
theorem a_toks2 : lexAll aText2 = ([], 3, 1, 2) := by
  rw [lexAll, if_neg (by decide), ← lexF_eq 20 aText2 1 1 (by decide)]
  have : lexF 20 aText2 1 1 = .error (1, 2) := by kernel_rfl
  rw [this]
theorem a_kind3 : kindOf aText3 = 4 := by kernel_rfl
end Go.Proofs.YtcgkfgklggjmaaaDoor
end
section
namespace Go.Proofs.YtcgkfgklggjmaaaDoor.Par
set_option linter.unusedVariables false
set_option linter.unusedSimpArgs false
/-! a plan that is parsed is small -/
theorem ptierLoop_len : ∀ (f : Nat) (acc : List Tier) (s : St), (P.tierLoop npV f acc s).1.length + len (P.tierLoop npV f acc s).2 ≤ acc.length + len s
  | 0, acc, s => Nat.le_refl _
  | f + 1, acc, s => by
    rw [P.tierLoop]
    by_cases hc : (P.eat wUpto s).1 = true
    · rw [if_pos hc]
      simp only
      have h1 := len_eaten hc
      have h2 := len_number npV 0 1000000 (P.eat wUpto s).2
      have h3 := len_must [wRate] (P.number npV 0 1000000 (P.eat wUpto s).2).2
      have h4 := len_number npV 6 1000000000000 (P.must [wRate] (P.number npV 0 1000000 (P.eat wUpto s).2).2)
      have h5 := len_must [wSemi] (P.number npV 6 1000000000000 (P.must [wRate] (P.number npV 0 1000000 (P.eat wUpto s).2).2)).2
      have ih := ptierLoop_len f (acc ++ [⟨(P.number npV 0 1000000 (P.eat wUpto s).2).1, (P.number npV 6 1000000000000 (P.must [wRate] (P.number npV 0 1000000 (P.eat wUpto s).2).2)).1⟩]) (P.must [wSemi] (P.number npV 6 1000000000000 (P.must [wRate] (P.number npV 0 1000000 (P.eat wUpto s).2).2)).2)
      rw [List.length_append, List.length_singleton] at ih
      omega
    · rw [if_neg hc]
      have := len_eat wUpto s
      simp only
      omega
theorem ptiers_len (s : St) : (P.tiers npV s).1.length ≤ len s + 1 := by
  have h1 := len_must [wOpen] s
  have h2 := ptierLoop_len (P.must [wOpen] s).rest.length [] (P.must [wOpen] s)
  unfold P.tiers
  simp only [List.length_append, List.length_singleton]
  rw [List.length_nil] at h2
  omega
theorem padjLoop_len : ∀ (f : Nat) (acc : List Adj) (s : St), (P.adjLoop npV f acc s).1.length + len (P.adjLoop npV f acc s).2 ≤ acc.length + len s
  | 0, acc, s => Nat.le_refl _
  | f + 1, acc, s => by
    rw [P.adjLoop]
    by_cases hc : (P.adjust npV s).1.2 = false ∨ (P.adjust npV s).2.err ≠ 0
    · rw [if_pos hc]
      have := len_adjust npV s
      simp only
      omega
    · rw [if_neg hc]
      have h1 : (P.adjust npV s).1.2 = true := by
        cases h : (P.adjust npV s).1.2 with
        | true => rfl
        | false => exact absurd (.inl h) hc
      have h2 := adj_round npV h1
      have ih := padjLoop_len f (acc ++ [(P.adjust npV s).1.1]) (P.adjust npV s).2
      rw [List.length_append, List.length_singleton] at ih
      omega
theorem pcharge_small (l c : Int) (s : St) : (P.charge dp npV l c s).1.tiers.length ≤ len s + 1 ∧ (P.charge dp npV l c s).1.adjs.length ≤ len s + 1 := by
  have h1 := len_kind 1 s
  have h2 := len_window dp (P.kind 1 s).2
  have h3 := len_must [wOpen] (P.window dp (P.kind 1 s).2).2
  have h4 := len_opt npV wAllowance 0 (P.must [wOpen] (P.window dp (P.kind 1 s).2).2)
  have h5 := len_opt npV wBlock 1 (P.opt npV wAllowance 0 (P.must [wOpen] (P.window dp (P.kind 1 s).2).2)).2
  have h6 := len_ckind (P.opt npV wBlock 1 (P.opt npV wAllowance 0 (P.must [wOpen] (P.window dp (P.kind 1 s).2).2)).2).2
  unfold P.charge
  simp only
  generalize P.ckind (P.opt npV wBlock 1 (P.opt npV wAllowance 0 (P.must [wOpen] (P.window dp (P.kind 1 s).2).2)).2).2 = k at *
  have h7 := ptiers_len k.2
  have h8 := len_tiers npV k.2
  have h9 := len_must [wRound] (P.tiers npV k.2).2
  have h10 := len_mode (P.must [wRound] (P.tiers npV k.2).2)
  have h11 := len_must [wSemi] (P.mode (P.must [wRound] (P.tiers npV k.2).2)).2
  have h12 := padjLoop_len (P.must [wSemi] (P.mode (P.must [wRound] (P.tiers npV k.2).2)).2).rest.length [] (P.must [wSemi] (P.mode (P.must [wRound] (P.tiers npV k.2).2)).2)
  rw [List.length_nil] at h12
  omega
/-- what a parse keeps: so many items, and so many parts of each, at most -/
def Bd (n : Nat) (p : Plan) (s : St) : Prop := countP p + len s ≤ n ∧ ∀ c ∈ p.chgs, c.tiers.length ≤ n + 1 ∧ c.adjs.length ≤ n + 1
theorem pitem_bd {n : Nat} {p : Plan} {s : St} (h : Bd n p s) : Bd n (P.item dp npV p s).1 (P.item dp npV p s).2 := by
  refine ⟨Nat.le_trans (pitem_all p s).1 h.1, ?_⟩
  have h0 := len_one [wMeter, wFee, wCharge] 0 s
  unfold P.item
  simp only
  split
  · exact h.2
  · split
    · exact h.2
    · split
      · intro c hc
        rcases List.mem_append.1 hc with hc | hc
        · exact h.2 c hc
        · obtain rfl := List.mem_singleton.1 hc
          have h1 := pcharge_small (peek s).line (peek s).col (P.one [wMeter, wFee, wCharge] 0 s).2
          have h2 := h.1
          omega
      · exact h.2
theorem pitems_bd {n : Nat} : ∀ (f : Nat) (p : Plan) (s : St), Bd n p s → Bd n (P.items dp npV f p s).1 (P.items dp npV f p s).2
  | 0, p, s, h => h
  | f + 1, p, s, h => by
    rw [P.items]
    split
    · exact pitems_bd f _ _ (pitem_bd h)
    · exact h
theorem phead_len (ts : List Tok) : len (P.head dp ⟨ts, 0, 0, 0⟩).2 ≤ ts.length := by
  unfold P.head
  simp only
  have g1 := len_must [wPlan] ⟨ts, 0, 0, 0⟩
  have g2 := len_kind 1 (P.must [wPlan] ⟨ts, 0, 0, 0⟩)
  generalize P.kind 1 (P.must [wPlan] ⟨ts, 0, 0, 0⟩) = n at *
  have g3 := len_must [wCurrency] n.2
  have g4 := len_kind 1 (P.must [wCurrency] n.2)
  generalize P.kind 1 (P.must [wCurrency] n.2) = c at *
  have g5 := len_must [wSemi, wHorizon] c.2
  have g6 := len_day dp (P.must [wSemi, wHorizon] c.2)
  generalize P.day dp (P.must [wSemi, wHorizon] c.2) = f at *
  have g7 := len_day dp f.2
  generalize P.day dp f.2 = t at *
  have g8 := len_must [wSemi] t.2
  have g0 : len (⟨ts, 0, 0, 0⟩ : St) = ts.length := rfl
  omega
theorem noPlan_small : Small noPlan := ⟨by decide, by decide, by decide, fun c h => (by cases h), fun c h => (by cases h)⟩
theorem RParse_small (l : List UInt8) : Small (RParse l).1 := by
  obtain ⟨ts, er, a, b, hall⟩ : ∃ ts er a b, lexAll l = (ts, er, a, b) := ⟨_, _, _, _, rfl⟩
  by_cases her : er = 0
  · subst her
    by_cases h0 : (P.plan dp npV ts).2.err = 0
    · rw [PParse_ok hall h0]
      obtain ⟨_, _, hc⟩ := all_shape hall
      have hb : Bd 8193 (P.plan dp npV ts).1 (P.plan dp npV ts).2 := by
        unfold P.plan
        refine pitems_bd _ _ _ ⟨?_, fun c hc => by cases hc⟩
        have := phead_len ts
        show 0 + 0 + 0 + len (P.head dp ⟨ts, 0, 0, 0⟩).2 ≤ 8193
        omega
      have h1 := hb.1
      unfold countP at h1
      exact ⟨by show (P.plan dp npV ts).1.mets.length ≤ 10000; omega, by show (P.plan dp npV ts).1.fees.length ≤ 10000; omega, by show (P.plan dp npV ts).1.chgs.length ≤ 10000; omega, fun c hc => Nat.le_trans (hb.2 c hc).1 (by decide), fun c hc => Nat.le_trans (hb.2 c hc).2 (by decide)⟩
    · rw [PParse_bad hall h0]; exact noPlan_small
  · rw [RParse_lex hall her]; exact noPlan_small
end Go.Proofs.YtcgkfgklggjmaaaDoor.Par
end
section
namespace Go.Proofs.YtcgkfgklggjmaaaDoor.Par
set_option linter.unusedVariables false
set_option linter.unusedSimpArgs false
open Go.RowKit
theorem ba_inj {a b : ByteArray} (h : a.data.toList = b.data.toList) : a = b := by
  apply ByteArray.ext; exact Array.toList_inj.mp h
theorem ba_beq (a : ByteArray) : (a.toList == a.toList) = true := by rw [beq_bytes]; exact beq_refl_bytes a
/-- what the reference's Parse does (RefZ) -/
def RParses8 : Prop := ∀ (s : ByteArray) (w : World), s.size ≤ 9223372036854775807 → Calls Tryd.prog 16 #[.string s] w fun e w' => ∃ v, e = .returned (.tuple #[v, .int .i64 (RParse s.data.toList).2.1, .int .i64 (RParse s.data.toList).2.2.1, .int .i64 (RParse s.data.toList).2.2.2]) ∧ PlanLies w.heap.size w' v (RParse s.data.toList).1 ∧ Below w.heap.size w w'
end Go.Proofs.YtcgkfgklggjmaaaDoor.Par
end
section
namespace Go.Proofs.YtcgkfgklggjmaaaDoor.Par
set_option linter.unusedVariables false
set_option linter.unusedSimpArgs false
open Go.RowKit
/-- within the function: the charge's own block, and what was there -/
structure HW (w0 w : World) (T : TypeId) (C : Array Value) : Prop where
  lb : Below w0.heap.size w0 w
  kp : Blk w w0.heap.size T C
  dt : Dec.GT w
section
variable {w0 w w' : World} {T : TypeId} {C : Array Value}
theorem HW.alloc (h : HW w0 w T C) (o : Obj) : HW w0 (w.alloc o) T C := ⟨bl_alloc h.lb o, h.kp.alloc o, h.dt.below (bl_alloc (bl_refl _) o)⟩
theorem HW.drew (h : HW w0 w T C) : HW w0 w.drew T C := ⟨bl_drew h.lb, h.kp.drew, h.dt.below (bl_drew (bl_refl _))⟩
theorem HW.call (h : HW w0 w T C) (hb : Below w.heap.size w w') : HW w0 w' T C := ⟨bl_call h.lb hb, h.kp.call hb, h.dt.below hb⟩
theorem HW.row (h : HW w0 w T C) {B : Nat} {e : TypeId} {size n : Nat} {v : Value} {xs : List Value} (ho : w0.ownsRow B e size v n xs) : w.ownsRow B e size v n xs := own_keep ho fun g hg => h.lb.block g (ho.lt g hg).2
theorem HW.lt (h : HW w0 w T C) : w0.heap.size < w.heap.size := h.kp.lt
end
theorem ba_app (a b : ByteArray) : (a ++ b).data.toList = a.data.toList ++ b.data.toList := by simp
theorem alw_yes {c : Chg} (h : c.allow ≠ 0) : alwL c = [9, 97, 108, 108, 111, 119, 97, 110, 99, 101, 32] ++ digT c.allow ++ [59, 10] := by unfold alwL; rw [if_pos h]
theorem blk_yes {c : Chg} (h : c.block ≠ 1) : blkL c = [9, 98, 108, 111, 99, 107, 32] ++ digT c.block ++ [59, 10] := by unfold blkL; rw [if_pos h]
set_option maxHeartbeats 16000000 in
set_option maxRecDepth 100000 in
theorem schg_any (c : Chg) (tv av : Value) {B : Nat} (w : World) (hD : Dec.GT w) (ht : TiersLie B w tv c.tiers) (ha : AdjsLie B w av c.adjs)
    (hna : 0 ≤ c.allow ∧ c.allow ≤ 1000000) (hnb : 0 ≤ c.block ∧ c.block ≤ 1000000) (hnt : ∀ t ∈ c.tiers, (0 ≤ t.upto ∧ t.upto ≤ 1000000) ∧ (0 ≤ t.rate ∧ t.rate ≤ 1000000000000)) (hnd : ∀ a ∈ c.adjs, 0 ≤ a.n ∧ a.n ≤ 1000000000000)
    (hm : c.meter.size ≤ 8192) (hl1 : c.tiers.length ≤ 10000) (hl2 : c.adjs.length ≤ 10000) :
    Calls Tryd.prog 29 #[.agg (chgC c.meter c.win c.allow c.block c.kind tv c.mode av c.line c.col)] w (Says (chgL c) 3000000 w) := by
  obtain ⟨At, ct, rfl, ht1, ht2, ht3⟩ := Lies.open (f := tierF) (l := c.tiers) (Lies.of ht)
  obtain ⟨Aa, ca, rfl, ha1, ha2, ha3⟩ := Lies.open (f := adjF) (l := c.adjs) (Lies.of ha)
  unfold chgC
  have hW0 : HW w (w.alloc (.cells #[.string c.meter, .bool c.win.has, .int .i64 c.win.from_.1, .int .i64 c.win.from_.2.1, .int .i64 c.win.from_.2.2, .int .i64 c.win.to_.1, .int .i64 c.win.to_.2.1, .int .i64 c.win.to_.2.2, .int .i64 c.allow, .int .i64 c.block, .int .i64 c.kind, .slice At c.tiers.length ct, .int .i64 c.mode, .slice Aa c.adjs.length ca, .int .i64 c.line, .int .i64 c.col] 52)) 52 #[.string c.meter, .bool c.win.has, .int .i64 c.win.from_.1, .int .i64 c.win.from_.2.1, .int .i64 c.win.from_.2.2, .int .i64 c.win.to_.1, .int .i64 c.win.to_.2.1, .int .i64 c.win.to_.2.2, .int .i64 c.allow, .int .i64 c.block, .int .i64 c.kind, .slice At c.tiers.length ct, .int .i64 c.mode, .slice Aa c.adjs.length ca, .int .i64 c.line, .int .i64 c.col] := ⟨bl_alloc (bl_refl w) _, Blk.new w _ _, hD.below (bl_alloc (bl_refl w) _)⟩
  have k1 := hW0.drew.kp
  obtain ⟨x0, x1, x2, x3, x4, x5, x6, x7, x8, x9, x10, x11, x12, x13, x14, x15, _, _, _, _, _, _, _, _, _, _, _, _, _, _, _, _⟩ := hW0.kp.c16
  have hwn := fun W => swin_any c.win W
  unfold winA at hwn
  go_enter Tryd.func29, Tryd.ntmps29
  go_upto_region 1 with fail
  generalize w.alloc (.cells #[.string c.meter, .bool c.win.has, .int .i64 c.win.from_.1, .int .i64 c.win.from_.2.1, .int .i64 c.win.from_.2.2, .int .i64 c.win.to_.1, .int .i64 c.win.to_.2.1, .int .i64 c.win.to_.2.2, .int .i64 c.allow, .int .i64 c.block, .int .i64 c.kind, .slice At c.tiers.length ct, .int .i64 c.mode, .slice Aa c.adjs.length ca, .int .i64 c.line, .int .i64 c.col] 52) = W0 at *
  have t1 : ¬ (9223372036854775807 < 7 + c.meter.size) := by omega
  go_region_held3 (fun w' => w'.cell? ⟨w.heap.size, 0, none⟩ = some (.string c.meter) ∧ w'.cell? ⟨w.heap.size, 1, none⟩ = some (.bool c.win.has) ∧ w'.cell? ⟨w.heap.size, 2, none⟩ = some (.int .i64 c.win.from_.1) ∧ w'.cell? ⟨w.heap.size, 3, none⟩ = some (.int .i64 c.win.from_.2.1) ∧ w'.cell? ⟨w.heap.size, 4, none⟩ = some (.int .i64 c.win.from_.2.2) ∧ w'.cell? ⟨w.heap.size, 5, none⟩ = some (.int .i64 c.win.to_.1) ∧ w'.cell? ⟨w.heap.size, 6, none⟩ = some (.int .i64 c.win.to_.2.1) ∧ w'.cell? ⟨w.heap.size, 7, none⟩ = some (.int .i64 c.win.to_.2.2))
    (refine ⟨?_, ?_, ?_, ?_, ?_, ?_, ?_, ?_⟩ <;> first | with_reducible assumption | (go_keep; done))
    ((first | (go_at_call 28; (with_reducible refine (hwn _).mono ?_); rintro e' w6 ⟨s1, rfl, hs1, hz1, hb6⟩; (have t2 : ¬ (9223372036854775807 < 7 + c.meter.size + s1.size) := by omega); (have t3 : ¬ (9223372036854775807 < 7 + c.meter.size + s1.size + 3) := by omega); (have hW6 := hW0.drew.call hb6); obtain ⟨y0, y1, y2, y3, y4, y5, y6, y7, y8, y9, y10, y11, y12, y13, y14, y15, _, _, _, _, _, _, _, _, _, _, _, _, _, _, _, _⟩ := hW6.kp.c16)))
  have hb1 : ((⟨#[99, 104, 97, 114, 103, 101, 32]⟩ : ByteArray) ++ c.meter ++ s1 ++ ⟨#[32, 123, 10]⟩).data.toList = chg1L c := by
    rw [ba_app, ba_app, ba_app, hs1]; rfl
  have hz1' : ((⟨#[99, 104, 97, 114, 103, 101, 32]⟩ : ByteArray) ++ c.meter ++ s1 ++ ⟨#[32, 123, 10]⟩).size ≤ 8300 := by
    simp only [ByteArray.size_append]; show 7 + c.meter.size + s1.size + 3 ≤ _; omega
  generalize (⟨#[99, 104, 97, 114, 103, 101, 32]⟩ : ByteArray) ++ c.meter ++ s1 ++ ⟨#[32, 123, 10]⟩ = b1 at *
  replace hb1 := Lib.hid hb1
  clear hwn hs1 hz1 hb6 t1 t2 t3 hW0 k1 x0 x1 x2 x3 x4 x5 x6 x7 x8 x9 x10 x11 x12 x13 x14 x15 y0 y1 y2 y3 y4 y5 y6 y7 y8 y9 y10 y11 y12 y13 y14 y15
  have q8 := (hW6.kp.c16).2.2.2.2.2.2.2.2.1
  go_upto_if 18 with fail
  go_cut [3] (fun v3 wx => ∃ b : ByteArray, v3 = .string b ∧ Hid (b.data.toList = chg1L c ++ alwL c) ∧ b.size ≤ 8400 ∧ HW w wx 52 #[.string c.meter, .bool c.win.has, .int .i64 c.win.from_.1, .int .i64 c.win.from_.2.1, .int .i64 c.win.from_.2.2, .int .i64 c.win.to_.1, .int .i64 c.win.to_.2.1, .int .i64 c.win.to_.2.2, .int .i64 c.allow, .int .i64 c.block, .int .i64 c.kind, .slice At c.tiers.length ct, .int .i64 c.mode, .slice Aa c.adjs.length ca, .int .i64 c.line, .int .i64 c.col])
  case first =>
    by_cases h : c.allow = 0
    · have hq : (c.allow != 0) = false := by simp [h]
      have ea : alwL c = [] := by unfold alwL; rw [if_neg (fun e => e h)]
      go_wp2_with fail
      go_meet
      exact ⟨b1, rfl, Lib.hid (by rw [ea, List.append_nil]; exact hb1.out), by omega, hW6⟩
    · have hq : (c.allow != 0) = true := by simp [h]
      have ea := alw_yes h
      go_wp2_with fail
      refine (sdig_any c.allow _ hW6.dt (by omega) (by omega)).mono ?_
      rintro e w7 ⟨s2, rfl, hs2, hz2, hb7⟩
      have hW7 := hW6.call hb7
      go_wp2_with fail
      go_meet
      refine ⟨_, rfl, Lib.hid ?_, ?_, hW7⟩
      · rw [ba_app, ba_app, ba_app, hb1.out, ea, hs2]; simp
      · simp only [ByteArray.size_append]; show b1.size + 11 + s2.size + 2 ≤ _; omega
  case rest =>
    obtain ⟨b2, rfl, hb2, hz2, hW7⟩ := hcut
    clear hb1 hz1' hW6 q8
    have q9 := (hW7.kp.c16).2.2.2.2.2.2.2.2.2.1
    have q5 := (hW7.kp.c16).2.2.2.2.2.2.2.2.2.2.1
    go_upto_if 28 with fail
    go_cut [3] (fun v3 wx => ∃ b : ByteArray, v3 = .string b ∧ Hid (b.data.toList = chg1L c ++ alwL c ++ blkL c) ∧ b.size ≤ 8500 ∧ HW w wx 52 #[.string c.meter, .bool c.win.has, .int .i64 c.win.from_.1, .int .i64 c.win.from_.2.1, .int .i64 c.win.from_.2.2, .int .i64 c.win.to_.1, .int .i64 c.win.to_.2.1, .int .i64 c.win.to_.2.2, .int .i64 c.allow, .int .i64 c.block, .int .i64 c.kind, .slice At c.tiers.length ct, .int .i64 c.mode, .slice Aa c.adjs.length ca, .int .i64 c.line, .int .i64 c.col])
    case first =>
      by_cases h : c.block = 1
      · have hq : (c.block != 1) = false := by simp [h]
        have ea : blkL c = [] := by unfold blkL; rw [if_neg (fun e => e h)]
        go_wp2_with fail
        go_meet
        exact ⟨b2, rfl, Lib.hid (by rw [ea, List.append_nil]; exact hb2.out), by omega, hW7⟩
      · have hq : (c.block != 1) = true := by simp [h]
        have ea := blk_yes h
        go_wp2_with fail
        refine (sdig_any c.block _ hW7.dt (by omega) (by omega)).mono ?_
        rintro e w8 ⟨s2, rfl, hs2, hz2, hb8⟩
        have hW8 := hW7.call hb8
        go_wp2_with fail
        go_meet
        refine ⟨_, rfl, Lib.hid ?_, ?_, hW8⟩
        · rw [ba_app, ba_app, ba_app, hb2.out, ea, hs2]; simp
        · simp only [ByteArray.size_append]; show b2.size + 7 + s2.size + 2 ≤ _; omega
    case rest =>
      obtain ⟨b3, rfl, hb3, hz3, hW8⟩ := hcut
      clear hb2 hz2 hW7 q9 q5
      have q10 := (hW8.kp.c16).2.2.2.2.2.2.2.2.2.2.1
      go_upto_if 38 with fail
      go_cut [3] (fun v3 wx => ∃ b : ByteArray, v3 = .string b ∧ Hid (b.data.toList = chg1L c ++ alwL c ++ blkL c ++ kindL c) ∧ b.size ≤ 8600 ∧ HW w wx 52 #[.string c.meter, .bool c.win.has, .int .i64 c.win.from_.1, .int .i64 c.win.from_.2.1, .int .i64 c.win.from_.2.2, .int .i64 c.win.to_.1, .int .i64 c.win.to_.2.1, .int .i64 c.win.to_.2.2, .int .i64 c.allow, .int .i64 c.block, .int .i64 c.kind, .slice At c.tiers.length ct, .int .i64 c.mode, .slice Aa c.adjs.length ca, .int .i64 c.line, .int .i64 c.col])
      case first =>
        by_cases h : c.kind = 2
        · have hq : (c.kind == 2) = true := by simp [h]
          have ea : kindL c = [9, 118, 111, 108, 117, 109, 101, 32, 123, 10] := by unfold kindL; rw [if_pos h]
          go_wp2_with fail
          go_meet
          refine ⟨_, rfl, Lib.hid ?_, ?_, hW8⟩
          · rw [ba_app, hb3.out, ea]
          · simp only [ByteArray.size_append]; show b3.size + 10 ≤ _; omega
        · have hq : (c.kind == 2) = false := by simp [h]
          have ea : kindL c = [9, 103, 114, 97, 100, 117, 97, 116, 101, 100, 32, 123, 10] := by unfold kindL; rw [if_neg h]
          go_wp2_with fail
          go_meet
          refine ⟨_, rfl, Lib.hid ?_, ?_, hW8⟩
          · rw [ba_app, hb3.out, ea]
          · simp only [ByteArray.size_append]; show b3.size + 13 ≤ _; omega
      case rest =>
        obtain ⟨b4, rfl, hb4, hz4, hW9⟩ := hcut
        clear hb3 hz3 hW8 q10
        have q11 := hW9.kp.c16.2.2.2.2.2.2.2.2.2.2.2.1
        go_wp2_with fail
        go_loopw [3, 46] (fun v3 v46 wr => ∃ (k : Nat) (b : ByteArray), k ≤ c.tiers.length ∧ v46 = .int .i64 k ∧ v3 = .string b ∧ Hid (b.data.toList = chg1L c ++ alwL c ++ blkL c ++ kindL c ++ tiersL c.tiers k) ∧ b.size ≤ 8600 + k * 100 ∧ HW w wr 52 #[.string c.meter, .bool c.win.has, .int .i64 c.win.from_.1, .int .i64 c.win.from_.2.1, .int .i64 c.win.from_.2.2, .int .i64 c.win.to_.1, .int .i64 c.win.to_.2.1, .int .i64 c.win.to_.2.2, .int .i64 c.allow, .int .i64 c.block, .int .i64 c.kind, .slice At c.tiers.length ct, .int .i64 c.mode, .slice Aa c.adjs.length ca, .int .i64 c.line, .int .i64 c.col]) (fun _ v46 _ => c.tiers.length - (intOf v46).toNat)
        case atStart => exact ⟨0, b4, Nat.zero_le _, rfl, rfl, Lib.hid (by rw [hb4.out]; simp [tiersL]), by omega, hW9⟩
        case round =>
          obtain ⟨k, b, hk, rfl, rfl, HB, hbs, hWr⟩ := hrel
          clear hb4 hz4 hW9 q11
          have q11 := hWr.kp.c16.2.2.2.2.2.2.2.2.2.2.2.1
          by_cases hlt : k < c.tiers.length
          · obtain ⟨gt, rfl, hgt⟩ := ht3 (by omega)
            have htk : c.tiers[k]? = some c.tiers[k] := List.getElem?_eq_getElem hlt
            have e0 : wr.cell? ⟨gt, k * 2, none⟩ = some (.int .i64 c.tiers[k].upto) := Lies.at (f := tierF) (l := c.tiers) (Lies.of (hWr.row ht)) (fun _ => rfl) (i := k) htk (j := 0) rfl
            have e1 : wr.cell? ⟨gt, k * 2 + 1, none⟩ = some (.int .i64 c.tiers[k].rate) := Lies.at (f := tierF) (l := c.tiers) (Lies.of (hWr.row ht)) (fun _ => rfl) (i := k) htk (j := 1) rfl
            have hnk := hnt _ (List.getElem_mem hlt)
            have HS := Lib.hid (tiersL_succ htk)
            generalize c.tiers[k] = t at *
            have kt := Blk.new wr 119 #[.int .i64 t.upto, .int .i64 t.rate]
            have gg0 : (0 : Int) ≤ (k : Int) := by omega
            have gg1 : (k : Int) < (c.tiers.length : Int) := by omega
            have gg2 : (k : Int) < (ct : Int) := by omega
            have hlx : gt < wr.heap.size := by have := hWr.lb.size; omega
            have hlw := hWr.lt
            clear htk
            by_cases hlast : k + 1 < c.tiers.length
            · have hli : (k : Int) + 1 < (c.tiers.length : Int) := by omega
              have hle : decide (k + 1 = c.tiers.length) = false := by simp; omega
              rw [hle] at HS
              clear hle
              go_wp2_with fail
              refine (sdig_any t.upto _ (hWr.alloc _).dt (by omega) (by omega)).mono ?_
              rintro e w7 ⟨s2, rfl, hs2, hz2, hb7⟩
              have hW7 := (hWr.alloc (.cells #[.int .i64 t.upto, .int .i64 t.rate] 119)).call hb7
              have kt7 := kt.call hb7
              obtain ⟨z0, z1, _, _⟩ := kt7.c2
              go_wp2_with fail
              refine (sdec_any t.rate 6 _ (by omega)).mono ?_
              rintro e w8 ⟨s3, rfl, hs3, hz3, hb8⟩
              have hW8 := hW7.call hb8
              go_wp2_with fail
              go_roundw
              case rel =>
                refine ⟨k + 1, _, by omega, by go_num, rfl, Lib.hid ?_, ?_, hW8⟩
                · rw [ba_app, ba_app, ba_app, ba_app, ba_app, HB.out, HS.out, hs2, hs3]; simp [tierL]
                · simp only [ByteArray.size_append]; show b.size + 7 + s2.size + 6 + s3.size + 2 ≤ _; omega
              case measure => simp [intOf]; omega
            · have hli : ¬ ((k : Int) + 1 < (c.tiers.length : Int)) := by omega
              have hle : decide (k + 1 = c.tiers.length) = true := by simp; omega
              rw [hle] at HS
              clear hle
              obtain ⟨z0, z1, _, _⟩ := kt.c2
              go_wp2_with fail
              refine (sdec_any t.rate 6 _ (by omega)).mono ?_
              rintro e w8 ⟨s3, rfl, hs3, hz3, hb8⟩
              have hW8 := (hWr.alloc (.cells #[.int .i64 t.upto, .int .i64 t.rate] 119)).call hb8
              go_wp2_with fail
              go_roundw
              case rel =>
                refine ⟨k + 1, _, by omega, by go_num, rfl, Lib.hid ?_, ?_, hW8⟩
                · rw [ba_app, ba_app, ba_app, HB.out, HS.out, hs3]; simp [tierL]
                · simp only [ByteArray.size_append]; show b.size + 12 + s3.size + 2 ≤ _; omega
              case measure => simp [intOf]; omega
          · obtain rfl : k = c.tiers.length := by omega
            have q12 := hWr.kp.c16.2.2.2.2.2.2.2.2.2.2.2.2.1
            go_wp2_with fail
            refine (smode_any c.mode _).mono ?_
            rintro e w8 ⟨s3, rfl, hs3, hz3, hb8⟩
            have hW8 := hWr.call hb8
            have hb5 : (b ++ ⟨#[9, 125, 10, 9, 114, 111, 117, 110, 100, 32]⟩ ++ s3 ++ ⟨#[59, 10]⟩).data.toList = chg1L c ++ alwL c ++ blkL c ++ kindL c ++ tiersL c.tiers c.tiers.length ++ rndL c := by
              rw [ba_app, ba_app, ba_app, HB.out, hs3]; simp [rndL]
            have hz5 : (b ++ ⟨#[9, 125, 10, 9, 114, 111, 117, 110, 100, 32]⟩ ++ s3 ++ ⟨#[59, 10]⟩).size ≤ 1100000 := by
              simp only [ByteArray.size_append]; show b.size + 10 + s3.size + 2 ≤ _; omega
            have q13 := hW8.kp.c16.2.2.2.2.2.2.2.2.2.2.2.2.2.1
            go_wp2_with fail
            generalize b ++ ⟨#[9, 125, 10, 9, 114, 111, 117, 110, 100, 32]⟩ ++ s3 ++ ⟨#[59, 10]⟩ = b5 at *
            replace hb5 := Lib.hid hb5
            clear HB hbs hWr hs3 hz3 hb8 q11 q12
            go_loopw [3, 83] (fun v3 v83 wr => ∃ (k : Nat) (b : ByteArray), k ≤ c.adjs.length ∧ v83 = .int .i64 k ∧ v3 = .string b ∧ Hid (b.data.toList = chg1L c ++ alwL c ++ blkL c ++ kindL c ++ tiersL c.tiers c.tiers.length ++ rndL c ++ (c.adjs.take k).flatMap adjL) ∧ b.size ≤ 1100000 + k * 100 ∧ HW w wr 52 #[.string c.meter, .bool c.win.has, .int .i64 c.win.from_.1, .int .i64 c.win.from_.2.1, .int .i64 c.win.from_.2.2, .int .i64 c.win.to_.1, .int .i64 c.win.to_.2.1, .int .i64 c.win.to_.2.2, .int .i64 c.allow, .int .i64 c.block, .int .i64 c.kind, .slice At c.tiers.length ct, .int .i64 c.mode, .slice Aa c.adjs.length ca, .int .i64 c.line, .int .i64 c.col]) (fun _ v83 _ => c.adjs.length - (intOf v83).toNat)
            case atStart => exact ⟨0, b5, Nat.zero_le _, rfl, rfl, Lib.hid (by rw [hb5.out]; simp), by omega, hW8⟩
            case round =>
              obtain ⟨k, b, hk, rfl, rfl, HB, hbs, hWr⟩ := hrel
              clear hb5 hz5 hW8 q13
              by_cases hlt : k < c.adjs.length
              · obtain ⟨gt, rfl, hgt⟩ := ha3 (by omega)
                have htk : c.adjs[k]? = some c.adjs[k] := List.getElem?_eq_getElem hlt
                have e0 : wr.cell? ⟨gt, k * 3, none⟩ = some (.int .i64 c.adjs[k].kind) := Lies.at (f := adjF) (l := c.adjs) (Lies.of (hWr.row ha)) (fun _ => rfl) (i := k) htk (j := 0) rfl
                have e1 : wr.cell? ⟨gt, k * 3 + 1, none⟩ = some (.int .i64 c.adjs[k].n) := Lies.at (f := adjF) (l := c.adjs) (Lies.of (hWr.row ha)) (fun _ => rfl) (i := k) htk (j := 1) rfl
                have e2 : wr.cell? ⟨gt, k * 3 + 2, none⟩ = some (.int .i64 c.adjs[k].mode) := Lies.at (f := adjF) (l := c.adjs) (Lies.of (hWr.row ha)) (fun _ => rfl) (i := k) htk (j := 2) rfl
                have hnk := hnd _ (List.getElem_mem hlt)
                have HS := Lib.hid (flat_next adjL htk)
                generalize c.adjs[k] = a at *
                have kt := Blk.new wr 121 #[.int .i64 a.kind, .int .i64 a.n, .int .i64 a.mode]
                have gg0 : (0 : Int) ≤ (k : Int) := by omega
                have gg1 : (k : Int) < (c.adjs.length : Int) := by omega
                have gg2 : (k : Int) < (ca : Int) := by omega
                have hlx : gt < wr.heap.size := by have := hWr.lb.size; omega
                clear htk
                have hkk : a.kind = 1 ∨ a.kind = 2 ∨ a.kind = 3 ∨ a.kind = 4 ∨ (a.kind ≠ 1 ∧ a.kind ≠ 2 ∧ a.kind ≠ 3 ∧ a.kind ≠ 4) := by omega
                obtain ⟨z0, z1, z2, _, _, _⟩ := kt.c3
                rcases hkk with hkk | hkk | hkk | hkk | hkk
                · have hk1 : (a.kind == 1) = true := by rw [hkk]; rfl
                  have ea : adjL a = [9, 112, 101, 114, 99, 101, 110, 116, 32] ++ Dec.textL a.n 3 ++ 32 :: (modeL a.mode ++ [59, 10]) := by unfold adjL; rw [if_pos hkk]
                  clear hkk
                  go_upto_region 23 with fail
                  have hWa := hWr.alloc (.cells #[.int .i64 a.kind, .int .i64 a.n, .int .i64 a.mode] 121)
                  generalize wr.alloc (.cells #[.int .i64 a.kind, .int .i64 a.n, .int .i64 a.mode] 121) = W2 at *
                  have hbz : b.size ≤ 2100000 := by omega
                  have t1 : ¬ (9223372036854775807 < b.size + 9) := by omega
                  go_region_held3 (fun w' => w'.cell? ⟨wr.heap.size, 1, none⟩ = some (.int .i64 a.n) ∧ w'.cell? ⟨wr.heap.size, 2, none⟩ = some (.int .i64 a.mode))
                    (refine ⟨?_, ?_⟩ <;> first | with_reducible assumption | (go_keep; done))
                    ((first | (go_at_call 64; (with_reducible refine (sdec_any a.n 3 _ (by omega)).mono ?_); rintro e' w6 ⟨s2, rfl, hs2, hz2, hb6⟩; (have t2 : ¬ (9223372036854775807 < b.size + 9 + s2.size) := by omega); (have t3 : ¬ (9223372036854775807 < b.size + 9 + s2.size + 1) := by omega); (have hW6 := hWa.drew.call hb6); (have kt6 := kt.drew.call hb6); obtain ⟨y0, y1, y2, _, _, _⟩ := kt6.c3) | (go_at_call 65; (with_reducible refine (smode_any a.mode _).mono ?_); rintro e' w7 ⟨s3, rfl, hs3, hz3, hb7⟩; (have t4 : ¬ (9223372036854775807 < b.size + 9 + s2.size + 1 + s3.size) := by omega); (have t5 : ¬ (9223372036854775807 < b.size + 9 + s2.size + 1 + s3.size + 2) := by omega); (have hW7 := hW6.call hb7); (have kt7 := kt6.call hb7); obtain ⟨x0, x1, x2, _, _, _⟩ := kt7.c3)))
                  go_wp2_with fail
                  go_roundw
                  case rel =>
                    refine ⟨k + 1, _, by omega, by go_num, rfl, Lib.hid ?_, ?_, hW7⟩
                    · rw [ba_app, ba_app, ba_app, ba_app, ba_app, HB.out, HS.out, ea, hs2, hs3]; simp
                    · simp only [ByteArray.size_append]; show b.size + 9 + s2.size + 1 + s3.size + 2 ≤ _; omega
                  case measure => simp [intOf]; omega
                · have hk1 : (a.kind == 1) = false := by rw [hkk]; rfl
                  have hk2 : (a.kind == 2) = true := by rw [hkk]; rfl
                  have hk3 : (a.kind == 3) = false := by rw [hkk]; rfl
                  have hk4 : (a.kind == 4) = false := by rw [hkk]; rfl
                  have ea : adjL a = [9, 99, 97, 112, 32] ++ digT a.n ++ [59, 10] := by unfold adjL; rw [hkk]; rfl
                  clear hkk
                  go_wp2_with fail
                  refine (sdig_any a.n _ (hWr.alloc _).dt (by omega) (by omega)).mono ?_
                  rintro e w7 ⟨s2, rfl, hs2, hz2, hb7⟩
                  have hW7 := (hWr.alloc _).call hb7
                  go_wp2_with fail
                  go_roundw
                  case rel =>
                    refine ⟨k + 1, _, by omega, by go_num, rfl, Lib.hid ?_, ?_, hW7⟩
                    · rw [ba_app, ba_app, ba_app, HB.out, HS.out, ea, hs2]; simp
                    · simp only [ByteArray.size_append]; show b.size + 5 + s2.size + 2 ≤ _; omega
                  case measure => simp [intOf]; omega
                · have hk1 : (a.kind == 1) = false := by rw [hkk]; rfl
                  have hk2 : (a.kind == 2) = false := by rw [hkk]; rfl
                  have hk3 : (a.kind == 3) = true := by rw [hkk]; rfl
                  have hk4 : (a.kind == 4) = false := by rw [hkk]; rfl
                  have ea : adjL a = [9, 109, 105, 110, 105, 109, 117, 109, 32] ++ digT a.n ++ [59, 10] := by unfold adjL; rw [hkk]; rfl
                  clear hkk
                  go_wp2_with fail
                  refine (sdig_any a.n _ (hWr.alloc _).dt (by omega) (by omega)).mono ?_
                  rintro e w7 ⟨s2, rfl, hs2, hz2, hb7⟩
                  have hW7 := (hWr.alloc _).call hb7
                  go_wp2_with fail
                  go_roundw
                  case rel =>
                    refine ⟨k + 1, _, by omega, by go_num, rfl, Lib.hid ?_, ?_, hW7⟩
                    · rw [ba_app, ba_app, ba_app, HB.out, HS.out, ea, hs2]; simp
                    · simp only [ByteArray.size_append]; show b.size + 9 + s2.size + 2 ≤ _; omega
                  case measure => simp [intOf]; omega
                · have hk1 : (a.kind == 1) = false := by rw [hkk]; rfl
                  have hk2 : (a.kind == 2) = false := by rw [hkk]; rfl
                  have hk3 : (a.kind == 3) = false := by rw [hkk]; rfl
                  have hk4 : (a.kind == 4) = true := by rw [hkk]; rfl
                  have ea : adjL a = [9, 97, 100, 100, 32] ++ digT a.n ++ [59, 10] := by unfold adjL; rw [hkk]; rfl
                  clear hkk
                  go_wp2_with fail
                  refine (sdig_any a.n _ (hWr.alloc _).dt (by omega) (by omega)).mono ?_
                  rintro e w7 ⟨s2, rfl, hs2, hz2, hb7⟩
                  have hW7 := (hWr.alloc _).call hb7
                  go_wp2_with fail
                  go_roundw
                  case rel =>
                    refine ⟨k + 1, _, by omega, by go_num, rfl, Lib.hid ?_, ?_, hW7⟩
                    · rw [ba_app, ba_app, ba_app, HB.out, HS.out, ea, hs2]; simp
                    · simp only [ByteArray.size_append]; show b.size + 5 + s2.size + 2 ≤ _; omega
                  case measure => simp [intOf]; omega
                · have hk1 : (a.kind == 1) = false := by simp [hkk]
                  have hk2 : (a.kind == 2) = false := by simp [hkk]
                  have hk3 : (a.kind == 3) = false := by simp [hkk]
                  have hk4 : (a.kind == 4) = false := by simp [hkk]
                  have ea : adjL a = [] := by unfold adjL; rw [if_neg hkk.1, if_neg hkk.2.1, if_neg hkk.2.2.1, if_neg hkk.2.2.2]
                  clear hkk
                  go_wp2_with fail
                  go_roundw
                  case rel => exact ⟨k + 1, _, by omega, by go_num, rfl, Lib.hid (by rw [HB.out, HS.out, ea]; simp), by omega, hWr.alloc _⟩
                  case measure => simp [intOf]; omega
              · obtain rfl : k = c.adjs.length := by omega
                go_wp2_with fail
                go_ret
                refine ⟨_, rfl, ?_, ?_, hWr.lb⟩
                · rw [ba_app, HB.out, List.take_length]; simp [chgL]
                · simp only [ByteArray.size_append]; show b.size + 2 ≤ _; omega
end Go.Proofs.YtcgkfgklggjmaaaDoor.Par
end
section
namespace Go.Proofs.YtcgkfgklggjmaaaDoor.Par
set_option linter.unusedVariables false
set_option linter.unusedSimpArgs false
open Go.RowKit
/-! an append of a row that may be empty -/
section
variable {P : Program} (w : World)
theorem run_append_zero (t ty : TypeId) (e : TypeId) (i : TypeInfo) (ht : P.underlying t = some (.slice e)) (hi : P.info? e = some i) (A : Option Addr) (n c : Nat) (hn : n ≤ c) (A' : Option Addr) (c' : Nat) :
    (Builtin.append_ #[t, t] ty #[.slice A n c, .slice A' 0 c']).run P w = .ok (.slice A n c) w := by
  cases A <;> cases A' <;> simp [Builtin.append_, run_underlying ht, sizeOf, typeInfo, hi, Builtin.lenOf, Builtin.firstCells, loadCells, loadCellsFrom, storeCells, hn]
theorem own_form {base : Nat} {e : TypeId} {size : Nat} {v : Value} {n : Nat} {xs : List Value} (h : w.ownsRow base e size v n xs) : ∃ A cap, v = .slice A n cap ∧ n ≤ cap := by
  rcases h.2 with ⟨rfl, rfl⟩ | ⟨g, cap, cur, rfl, _, _, hc, _⟩
  · exact ⟨_, _, rfl, Nat.le_refl _⟩
  · exact ⟨_, _, rfl, hc⟩
theorem run_append_any (t ty : TypeId) (base base' : Nat) (e : TypeId) (i : TypeInfo) (z : Value) (size bytes : Nat) (ht : P.underlying t = some (.slice e)) (hi : P.info? e = some i) (hz : i.zero = some z)
    (hsize : i.size = size) (hby : i.bytes = bytes) (hzs : z.cells.size = size) (hsz : 0 < size)
    (v : Value) (n : Nat) (xs : List Value) (hown : w.ownsRow base e size v n xs)
    (v2 : Value) (m : Nat) (news : List Value) (hown2 : w.ownsRow base' e size v2 m news) (h1 : ∀ u ∈ news, u.oneCell' = true)
    (h63 : n + m ≤ maxLen) (hbytes : (n + m) * bytes ≤ 140737488355328) (hbase : base ≤ w.heap.size) :
    ∃ A cap w', (Builtin.append_ #[t, t] ty #[v, v2]).run P w = .ok (.slice A (n + m) cap) w' ∧ w'.ownsRow base e size (.slice A (n + m) cap) (n + m) (xs ++ news) ∧ w.grownBy w' v.ownBlock := by
  by_cases hm : m = 0
  · subst hm
    obtain ⟨A, c, rfl, hc⟩ := own_form w hown
    obtain ⟨A', c', rfl, _⟩ := own_form w hown2
    have hx : news = [] := List.eq_nil_of_length_eq_zero (by simpa using hown2.1)
    subst hx
    refine ⟨A, c, w, run_append_zero w t ty e i ht hi A n c hc A' c', ?_, ⟨rfl, rfl, rfl, Nat.le_refl _, fun _ _ _ => rfl⟩⟩
    rw [List.append_nil]; exact hown
  · obtain ⟨g, c, rfl, _, _⟩ := hown2.form (by omega)
    obtain ⟨v', w', hr, h2, h3, _, _⟩ := run_append_own_at (P := P) w base t ty e i z size bytes ht hi hz hsize hby hzs hsz v n xs hown ⟨g, 0, none⟩ m c news (by have := hown2.1; omega) (hown2.cells (g := g) rfl) h1 h63 hbytes hbase
    obtain ⟨A, cap, rfl, _⟩ := own_form w' h2
    exact ⟨A, cap, w', hr, h2, h3⟩
theorem step_append_any {ops : Array Oper} {o : Oper} {a : Act} {K : Act → World → Prop} {Q : Exit → Act → World → Prop} {E : Prop} (hgd : o.guard = none) (s x : Operand) (t : TypeId)
    (ho : o.op = .call { callee := .builtin .append, args := #[s, x], argTypes := #[t, t] })
    (base base' : Nat) (e : TypeId) (i : TypeInfo) (z : Value) (size bytes : Nat) (ht : P.underlying t = some (.slice e)) (hi : P.info? e = some i) (hz : i.zero = some z)
    (hsize : i.size = size) (hby : i.bytes = bytes) (hzs : z.cells.size = size) (hsz : 0 < size)
    (v : Value) (n : Nat) (xs : List Value) (hs : a.eval s = v) (hown : w.ownsRow base e size v n xs)
    (v2 : Value) (m : Nat) (news : List Value) (hx : a.eval x = v2) (hown2 : w.ownsRow base' e size v2 m news) (h1 : ∀ u ∈ news, u.oneCell' = true)
    (h63 : n + m ≤ maxLen) (hbytes : (n + m) * bytes ≤ 140737488355328) (hbase : base ≤ w.heap.size)
    (h : ∀ A cap w', w'.ownsRow base e size (.slice A (n + m) cap) (n + m) (xs ++ news) → w.grownBy w' v.ownBlock → K (a.put o.dst (.slice A (n + m) cap)) w') :
    if Region.wanted o (yielded ops a.tmps) = true then Oper.wp P o a w K Q else E := by
  have hw : Region.wanted o (yielded ops a.tmps) = true := by simp [Region.wanted, hgd]
  rw [if_pos hw]
  obtain ⟨A, cap, w', hr, h2, h3⟩ := run_append_any (P := P) w t o.type base base' e i z size bytes ht hi hz hsize hby hzs hsz v n xs hown v2 m news hown2 h1 h63 hbytes hbase
  unfold Oper.wp execOp
  simp only [ho, resolve, invoke, builtin, Sem.run_bind, Sem.run_pure, Result.andThen_ok, List.map_toArray, List.map_cons, List.map_nil, hs, hx, hr]
  exact h A cap w' h2 h3
end
end Go.Proofs.YtcgkfgklggjmaaaDoor.Par
end
section
namespace Go.Proofs.YtcgkfgklggjmaaaDoor.Par
set_option linter.unusedVariables false
set_option linter.unusedSimpArgs false
open Go.RowKit
theorem nest_one {w : World} {B : Nat} {c : CT} (h : TiersLie B w c.2.1 c.1.tiers ∧ AdjsLie B w c.2.2 c.1.adjs) : c.2.1.oneCell' = true ∧ c.2.2.oneCell' = true := by
  obtain ⟨A, n, h1, _⟩ := own_form w h.1
  obtain ⟨A', n', h2, _⟩ := own_form w h.2
  rw [h1, h2]; exact ⟨rfl, rfl⟩
end Go.Proofs.YtcgkfgklggjmaaaDoor.Par
end
section
namespace Go.Proofs.YtcgkfgklggjmaaaDoor.Par
set_option linter.unusedVariables false
set_option linter.unusedSimpArgs false
open Go.RowKit
/-- a plan whose plain text can be told -/
structure Told (p : Plan) : Prop where
  num : NumP p
  small : Small p
  name : p.name.size ≤ 8192
  cur : p.cur.size ≤ 8192
  mets : ∀ m ∈ p.mets, m.name.size ≤ 8192 ∧ m.unit.size ≤ 8192
  chgs : ∀ c ∈ p.chgs, c.meter.size ≤ 8192
set_option maxHeartbeats 16000000 in
set_option maxRecDepth 100000 in
theorem splan_any {p : Plan} {mv fv cv : Value} {cs : List CT} {B : Nat} (w : World) (hD : Dec.GT w) (hR : Rows w B p mv fv cv cs) (hT : Told p) :
    Calls Tryd.prog 13 #[.agg (planC p mv fv cv)] w (Says (planL p) 40000000000 w) := by
  obtain ⟨Am, cm, rfl, hm1, hm2, hm3⟩ := Lies.open (f := metF) (l := p.mets) (Lies.of hR.mo)
  obtain ⟨Af, cf, rfl, hf1, hf2, hf3⟩ := Lies.open (f := feeF) (l := p.fees) (Lies.of hR.fo)
  obtain ⟨Ac, cc, rfl, hc1, hc2, hc3⟩ := Lies.open (f := chgF) (l := cs) (Lies.of hR.co)
  have hcl : cs.length ≤ 10000 := by have h := congrArg List.length hR.eq; rw [List.length_map] at h; have := hT.small.chgs; omega
  have hml := hT.small.mets
  have hfl := hT.small.fees
  have hn1 := hT.name
  have hn2 := hT.cur
  unfold planC
  have hW0 : HW w (w.alloc (.cells #[.string p.name, .string p.cur, .int .i64 p.from_.1, .int .i64 p.from_.2.1, .int .i64 p.from_.2.2, .int .i64 p.to_.1, .int .i64 p.to_.2.1, .int .i64 p.to_.2.2, .slice Am p.mets.length cm, .slice Af p.fees.length cf, .slice Ac cs.length cc, .int .i64 p.line, .int .i64 p.col] 29)) 29 #[.string p.name, .string p.cur, .int .i64 p.from_.1, .int .i64 p.from_.2.1, .int .i64 p.from_.2.2, .int .i64 p.to_.1, .int .i64 p.to_.2.1, .int .i64 p.to_.2.2, .slice Am p.mets.length cm, .slice Af p.fees.length cf, .slice Ac cs.length cc, .int .i64 p.line, .int .i64 p.col] := ⟨bl_alloc (bl_refl w) _, Blk.new w _ _, hD.below (bl_alloc (bl_refl w) _)⟩
  have k1 := hW0.drew.kp
  obtain ⟨x0, x1, x2, x3, x4, x5, x6, x7, x8, x9, x10, x11, x12, _, _, _, _, _, _, _, _, _, _, _, _, _⟩ := hW0.kp.c13
  have hd1 := fun W => sday_any p.from_ W
  have hd2 := fun W => sday_any p.to_ W
  have t1 : ¬ (9223372036854775807 < 5 + p.name.size) := by omega
  have t2 : ¬ (9223372036854775807 < 5 + p.name.size + 10) := by omega
  have t3 : ¬ (9223372036854775807 < 5 + p.name.size + 10 + p.cur.size) := by omega
  have t4 : ¬ (9223372036854775807 < 5 + p.name.size + 10 + p.cur.size + 10) := by omega
  go_enter Tryd.func13, Tryd.ntmps13
  go_upto_region 1 with fail
  generalize w.alloc (.cells #[.string p.name, .string p.cur, .int .i64 p.from_.1, .int .i64 p.from_.2.1, .int .i64 p.from_.2.2, .int .i64 p.to_.1, .int .i64 p.to_.2.1, .int .i64 p.to_.2.2, .slice Am p.mets.length cm, .slice Af p.fees.length cf, .slice Ac cs.length cc, .int .i64 p.line, .int .i64 p.col] 29) = W0 at *
  go_region_held3 (fun w' => w'.cell? ⟨w.heap.size, 0, none⟩ = some (.string p.name) ∧ w'.cell? ⟨w.heap.size, 1, none⟩ = some (.string p.cur) ∧ w'.cell? ⟨w.heap.size, 2, none⟩ = some (.int .i64 p.from_.1) ∧ w'.cell? ⟨w.heap.size, 3, none⟩ = some (.int .i64 p.from_.2.1) ∧ w'.cell? ⟨w.heap.size, 4, none⟩ = some (.int .i64 p.from_.2.2) ∧ w'.cell? ⟨w.heap.size, 5, none⟩ = some (.int .i64 p.to_.1) ∧ w'.cell? ⟨w.heap.size, 6, none⟩ = some (.int .i64 p.to_.2.1) ∧ w'.cell? ⟨w.heap.size, 7, none⟩ = some (.int .i64 p.to_.2.2))
    (refine ⟨?_, ?_, ?_, ?_, ?_, ?_, ?_, ?_⟩ <;> first | with_reducible assumption | (go_keep; done))
    ((first | (go_at_call 27; (with_reducible refine (hd1 _).mono ?_); rintro e' w6 ⟨s1, rfl, hs1, hz1, hb6⟩; (have t5 : ¬ (9223372036854775807 < 5 + p.name.size + 10 + p.cur.size + 10 + s1.size) := by omega); (have t6 : ¬ (9223372036854775807 < 5 + p.name.size + 10 + p.cur.size + 10 + s1.size + 1) := by omega); (have hW6 := hW0.drew.call hb6); obtain ⟨y0, y1, y2, y3, y4, y5, y6, y7, y8, y9, y10, y11, y12, _, _, _, _, _, _, _, _, _, _, _, _, _⟩ := hW6.kp.c13) | (go_at_call 27; (with_reducible refine (hd2 _).mono ?_); rintro e' w7 ⟨s2, rfl, hs2, hz2, hb7⟩; (have t7 : ¬ (9223372036854775807 < 5 + p.name.size + 10 + p.cur.size + 10 + s1.size + 1 + s2.size) := by omega); (have t8 : ¬ (9223372036854775807 < 5 + p.name.size + 10 + p.cur.size + 10 + s1.size + 1 + s2.size + 2) := by omega); (have hW7 := hW6.call hb7); obtain ⟨z0, z1, z2, z3, z4, z5, z6, z7, z8, z9, z10, z11, z12, _, _, _, _, _, _, _, _, _, _, _, _, _⟩ := hW7.kp.c13)))
  have hb1 : ((⟨#[112, 108, 97, 110, 32]⟩ : ByteArray) ++ p.name ++ ⟨#[32, 99, 117, 114, 114, 101, 110, 99, 121, 32]⟩ ++ p.cur ++ ⟨#[59, 10, 104, 111, 114, 105, 122, 111, 110, 32]⟩ ++ s1 ++ ⟨#[32]⟩ ++ s2 ++ ⟨#[59, 10]⟩).data.toList = headL p := by
    rw [ba_app, ba_app, ba_app, ba_app, ba_app, ba_app, ba_app, ba_app, hs1, hs2]; simp [headL]
  have hq1 : ((⟨#[112, 108, 97, 110, 32]⟩ : ByteArray) ++ p.name ++ ⟨#[32, 99, 117, 114, 114, 101, 110, 99, 121, 32]⟩ ++ p.cur ++ ⟨#[59, 10, 104, 111, 114, 105, 122, 111, 110, 32]⟩ ++ s1 ++ ⟨#[32]⟩ ++ s2 ++ ⟨#[59, 10]⟩).size ≤ 20000 := by
    simp only [ByteArray.size_append]; show 5 + p.name.size + 10 + p.cur.size + 10 + s1.size + 1 + s2.size + 2 ≤ _; omega
  generalize (⟨#[112, 108, 97, 110, 32]⟩ : ByteArray) ++ p.name ++ ⟨#[32, 99, 117, 114, 114, 101, 110, 99, 121, 32]⟩ ++ p.cur ++ ⟨#[59, 10, 104, 111, 114, 105, 122, 111, 110, 32]⟩ ++ s1 ++ ⟨#[32]⟩ ++ s2 ++ ⟨#[59, 10]⟩ = b1 at *
  replace hb1 := Lib.hid hb1
  clear hd1 hd2 hs1 hs2 hz1 hz2 hb6 hb7 t1 t2 t3 t4 t5 t6 t7 t8 hW0 k1 hW6 x0 x1 x2 x3 x4 x5 x6 x7 x8 x9 x10 x11 x12 y0 y1 y2 y3 y4 y5 y6 y7 y8 y9 y10 y11 y12 z0 z1 z2 z3 z4 z5 z6 z7 z8 z9 z10 z11 z12
  have q1 := hW7.kp.c13.2.2.2.2.2.2.2.2.1
  go_wp2_with fail
  go_loopw [3, 31] (fun v3 v31 wr => ∃ (k : Nat) (b : ByteArray), k ≤ p.mets.length ∧ v31 = .int .i64 k ∧ v3 = .string b ∧ Hid (b.data.toList = headL p ++ (p.mets.take k).flatMap metL) ∧ b.size ≤ 20000 + k * 20000 ∧ HW w wr 29 #[.string p.name, .string p.cur, .int .i64 p.from_.1, .int .i64 p.from_.2.1, .int .i64 p.from_.2.2, .int .i64 p.to_.1, .int .i64 p.to_.2.1, .int .i64 p.to_.2.2, .slice Am p.mets.length cm, .slice Af p.fees.length cf, .slice Ac cs.length cc, .int .i64 p.line, .int .i64 p.col]) (fun _ v31 _ => p.mets.length - (intOf v31).toNat)
  case atStart => exact ⟨0, b1, Nat.zero_le _, rfl, rfl, Lib.hid (by rw [hb1.out]; simp), by omega, hW7⟩
  case round =>
    obtain ⟨k, b, hk, rfl, rfl, HB, hbs, hWr⟩ := hrel
    clear hb1 hq1 hW7 q1
    by_cases hlt : k < p.mets.length
    · obtain ⟨gt, rfl, hgt⟩ := hm3 (by omega)
      have htk : p.mets[k]? = some p.mets[k] := List.getElem?_eq_getElem hlt
      have e0 : wr.cell? ⟨gt, k * 5, none⟩ = some (.string p.mets[k].name) := Lies.at (f := metF) (l := p.mets) (Lies.of (hWr.row hR.mo)) (fun _ => rfl) (i := k) htk (j := 0) rfl
      have e1 : wr.cell? ⟨gt, k * 5 + 1, none⟩ = some (.string p.mets[k].unit) := Lies.at (f := metF) (l := p.mets) (Lies.of (hWr.row hR.mo)) (fun _ => rfl) (i := k) htk (j := 1) rfl
      have e2 : wr.cell? ⟨gt, k * 5 + 2, none⟩ = some (.int .i64 p.mets[k].max) := Lies.at (f := metF) (l := p.mets) (Lies.of (hWr.row hR.mo)) (fun _ => rfl) (i := k) htk (j := 2) rfl
      have e3 : wr.cell? ⟨gt, k * 5 + 3, none⟩ = some (.int .i64 p.mets[k].line) := Lies.at (f := metF) (l := p.mets) (Lies.of (hWr.row hR.mo)) (fun _ => rfl) (i := k) htk (j := 3) rfl
      have e4 : wr.cell? ⟨gt, k * 5 + 4, none⟩ = some (.int .i64 p.mets[k].col) := Lies.at (f := metF) (l := p.mets) (Lies.of (hWr.row hR.mo)) (fun _ => rfl) (i := k) htk (j := 4) rfl
      have hnk := hT.num.mets _ (List.getElem_mem hlt)
      have hsk := hT.mets _ (List.getElem_mem hlt)
      have HS := Lib.hid (flat_next metL htk)
      generalize p.mets[k] = m at *
      have kt := Blk.new wr 44 #[.string m.name, .string m.unit, .int .i64 m.max, .int .i64 m.line, .int .i64 m.col]
      have gg0 : (0 : Int) ≤ (k : Int) := by omega
      have gg1 : (k : Int) < (p.mets.length : Int) := by omega
      have gg2 : (k : Int) < (cm : Int) := by omega
      have hlx : gt < wr.heap.size := by have := hWr.lb.size; omega
      clear htk
      have hbz : b.size ≤ 300000000 := by omega
      go_upto_region 5 with fail
      have hWa := hWr.alloc (.cells #[.string m.name, .string m.unit, .int .i64 m.max, .int .i64 m.line, .int .i64 m.col] 44)
      generalize wr.alloc (.cells #[.string m.name, .string m.unit, .int .i64 m.max, .int .i64 m.line, .int .i64 m.col] 44) = W2 at *
      obtain ⟨x0, x1, x2, x3, x4, _, _, _, _, _⟩ := kt.c5
      have t1 : ¬ (9223372036854775807 < b.size + 6) := by omega
      have t2 : ¬ (9223372036854775807 < b.size + 6 + m.name.size) := by omega
      have t3 : ¬ (9223372036854775807 < b.size + 6 + m.name.size + 6) := by omega
      have t4 : ¬ (9223372036854775807 < b.size + 6 + m.name.size + 6 + m.unit.size) := by omega
      have t5 : ¬ (9223372036854775807 < b.size + 6 + m.name.size + 6 + m.unit.size + 5) := by omega
      go_region_held3 (fun w' => w'.cell? ⟨wr.heap.size, 0, none⟩ = some (.string m.name) ∧ w'.cell? ⟨wr.heap.size, 1, none⟩ = some (.string m.unit) ∧ w'.cell? ⟨wr.heap.size, 2, none⟩ = some (.int .i64 m.max))
        (refine ⟨?_, ?_, ?_⟩ <;> first | with_reducible assumption | (go_keep; done))
        ((first | (go_at_call 22; (with_reducible refine (sdig_any m.max _ hWa.drew.dt (by omega) (by omega)).mono ?_); rintro e' w6 ⟨s1, rfl, hs1, hz1, hb6⟩; (have t6 : ¬ (9223372036854775807 < b.size + 6 + m.name.size + 6 + m.unit.size + 5 + s1.size) := by omega); (have t7 : ¬ (9223372036854775807 < b.size + 6 + m.name.size + 6 + m.unit.size + 5 + s1.size + 2) := by omega); (have hW6 := hWa.drew.call hb6); (have kt6 := kt.drew.call hb6); obtain ⟨y0, y1, y2, y3, y4, _, _, _, _, _⟩ := kt6.c5)))
      go_wp2_with fail
      go_roundw
      case rel =>
        refine ⟨k + 1, _, by omega, by go_num, rfl, Lib.hid ?_, ?_, hW6⟩
        · rw [ba_app, ba_app, ba_app, ba_app, ba_app, ba_app, ba_app, HB.out, HS.out, hs1]; simp [metL]
        · simp only [ByteArray.size_append]; show b.size + 6 + m.name.size + 6 + m.unit.size + 5 + s1.size + 2 ≤ _; omega
      case measure => simp [intOf]; omega
    · obtain rfl : k = p.mets.length := by omega
      have hb2 := HB.out
      rw [List.take_length] at hb2
      replace hb2 := Lib.hid hb2
      have hq2 : b.size ≤ 300000000 := by omega
      have q2 := hWr.kp.c13.2.2.2.2.2.2.2.2.2.1
      clear HB hbs
      go_wp2_with fail
      go_loopw [3, 54] (fun v3 v54 wr => ∃ (k : Nat) (b : ByteArray), k ≤ p.fees.length ∧ v54 = .int .i64 k ∧ v3 = .string b ∧ Hid (b.data.toList = headL p ++ p.mets.flatMap metL ++ (p.fees.take k).flatMap feeL) ∧ b.size ≤ 300000000 + k * 100 ∧ HW w wr 29 #[.string p.name, .string p.cur, .int .i64 p.from_.1, .int .i64 p.from_.2.1, .int .i64 p.from_.2.2, .int .i64 p.to_.1, .int .i64 p.to_.2.1, .int .i64 p.to_.2.2, .slice Am p.mets.length cm, .slice Af p.fees.length cf, .slice Ac cs.length cc, .int .i64 p.line, .int .i64 p.col]) (fun _ v54 _ => p.fees.length - (intOf v54).toNat)
      case atStart => exact ⟨0, b, Nat.zero_le _, rfl, rfl, Lib.hid (by rw [hb2.out]; simp), by omega, hWr⟩
      case round =>
        clear hWr hb2 hq2 q2
        obtain ⟨k, b, hk, rfl, rfl, HB, hbs, hWr⟩ := hrel
        by_cases hlt : k < p.fees.length
        · obtain ⟨gt, rfl, hgt⟩ := hf3 (by omega)
          have htk : p.fees[k]? = some p.fees[k] := List.getElem?_eq_getElem hlt
          have e0 : wr.cell? ⟨gt, k * 10, none⟩ = some (.int .i64 p.fees[k].amount) := Lies.at (f := feeF) (l := p.fees) (Lies.of (hWr.row hR.fo)) (fun _ => rfl) (i := k) htk (j := 0) rfl
          have e1 : wr.cell? ⟨gt, k * 10 + 1, none⟩ = some (.bool p.fees[k].win.has) := Lies.at (f := feeF) (l := p.fees) (Lies.of (hWr.row hR.fo)) (fun _ => rfl) (i := k) htk (j := 1) rfl
          have e2 : wr.cell? ⟨gt, k * 10 + 2, none⟩ = some (.int .i64 p.fees[k].win.from_.1) := Lies.at (f := feeF) (l := p.fees) (Lies.of (hWr.row hR.fo)) (fun _ => rfl) (i := k) htk (j := 2) rfl
          have e3 : wr.cell? ⟨gt, k * 10 + 3, none⟩ = some (.int .i64 p.fees[k].win.from_.2.1) := Lies.at (f := feeF) (l := p.fees) (Lies.of (hWr.row hR.fo)) (fun _ => rfl) (i := k) htk (j := 3) rfl
          have e4 : wr.cell? ⟨gt, k * 10 + 4, none⟩ = some (.int .i64 p.fees[k].win.from_.2.2) := Lies.at (f := feeF) (l := p.fees) (Lies.of (hWr.row hR.fo)) (fun _ => rfl) (i := k) htk (j := 4) rfl
          have e5 : wr.cell? ⟨gt, k * 10 + 5, none⟩ = some (.int .i64 p.fees[k].win.to_.1) := Lies.at (f := feeF) (l := p.fees) (Lies.of (hWr.row hR.fo)) (fun _ => rfl) (i := k) htk (j := 5) rfl
          have e6 : wr.cell? ⟨gt, k * 10 + 6, none⟩ = some (.int .i64 p.fees[k].win.to_.2.1) := Lies.at (f := feeF) (l := p.fees) (Lies.of (hWr.row hR.fo)) (fun _ => rfl) (i := k) htk (j := 6) rfl
          have e7 : wr.cell? ⟨gt, k * 10 + 7, none⟩ = some (.int .i64 p.fees[k].win.to_.2.2) := Lies.at (f := feeF) (l := p.fees) (Lies.of (hWr.row hR.fo)) (fun _ => rfl) (i := k) htk (j := 7) rfl
          have e8 : wr.cell? ⟨gt, k * 10 + 8, none⟩ = some (.int .i64 p.fees[k].line) := Lies.at (f := feeF) (l := p.fees) (Lies.of (hWr.row hR.fo)) (fun _ => rfl) (i := k) htk (j := 8) rfl
          have e9 : wr.cell? ⟨gt, k * 10 + 9, none⟩ = some (.int .i64 p.fees[k].col) := Lies.at (f := feeF) (l := p.fees) (Lies.of (hWr.row hR.fo)) (fun _ => rfl) (i := k) htk (j := 9) rfl
          have hnk := hT.num.fees _ (List.getElem_mem hlt)
          have HS := Lib.hid (flat_next feeL htk)
          generalize p.fees[k] = f at *
          have kt := Blk.new wr 48 #[.int .i64 f.amount, .bool f.win.has, .int .i64 f.win.from_.1, .int .i64 f.win.from_.2.1, .int .i64 f.win.from_.2.2, .int .i64 f.win.to_.1, .int .i64 f.win.to_.2.1, .int .i64 f.win.to_.2.2, .int .i64 f.line, .int .i64 f.col]
          have gg0 : (0 : Int) ≤ (k : Int) := by omega
          have gg1 : (k : Int) < (p.fees.length : Int) := by omega
          have gg2 : (k : Int) < (cf : Int) := by omega
          have hlx : gt < wr.heap.size := by have := hWr.lb.size; omega
          clear htk
          have hbz : b.size ≤ 400000000 := by omega
          go_upto_region 10 with fail
          have hWa := hWr.alloc (.cells #[.int .i64 f.amount, .bool f.win.has, .int .i64 f.win.from_.1, .int .i64 f.win.from_.2.1, .int .i64 f.win.from_.2.2, .int .i64 f.win.to_.1, .int .i64 f.win.to_.2.1, .int .i64 f.win.to_.2.2, .int .i64 f.line, .int .i64 f.col] 48)
          generalize wr.alloc (.cells #[.int .i64 f.amount, .bool f.win.has, .int .i64 f.win.from_.1, .int .i64 f.win.from_.2.1, .int .i64 f.win.from_.2.2, .int .i64 f.win.to_.1, .int .i64 f.win.to_.2.1, .int .i64 f.win.to_.2.2, .int .i64 f.line, .int .i64 f.col] 48) = W2 at *
          obtain ⟨x0, x1, x2, x3, x4, x5, x6, x7, x8, x9, _, _, _, _, _, _, _, _, _, _⟩ := kt.c10
          have hwn := fun W => swin_any f.win W
          unfold winA at hwn
          have t1 : ¬ (9223372036854775807 < b.size + 4) := by omega
          go_region_held3 (fun w' => w'.cell? ⟨wr.heap.size, 0, none⟩ = some (.int .i64 f.amount) ∧ w'.cell? ⟨wr.heap.size, 1, none⟩ = some (.bool f.win.has) ∧ w'.cell? ⟨wr.heap.size, 2, none⟩ = some (.int .i64 f.win.from_.1) ∧ w'.cell? ⟨wr.heap.size, 3, none⟩ = some (.int .i64 f.win.from_.2.1) ∧ w'.cell? ⟨wr.heap.size, 4, none⟩ = some (.int .i64 f.win.from_.2.2) ∧ w'.cell? ⟨wr.heap.size, 5, none⟩ = some (.int .i64 f.win.to_.1) ∧ w'.cell? ⟨wr.heap.size, 6, none⟩ = some (.int .i64 f.win.to_.2.1) ∧ w'.cell? ⟨wr.heap.size, 7, none⟩ = some (.int .i64 f.win.to_.2.2))
            (refine ⟨?_, ?_, ?_, ?_, ?_, ?_, ?_, ?_⟩ <;> first | with_reducible assumption | (go_keep; done))
            ((first | (go_at_call 22; (with_reducible refine (sdig_any f.amount _ hWa.drew.dt (by omega) (by omega)).mono ?_); rintro e' w6 ⟨s1, rfl, hs1, hz1, hb6⟩; (have t6 : ¬ (9223372036854775807 < b.size + 4 + s1.size) := by omega); (have hW6 := hWa.drew.call hb6); (have kt6 := kt.drew.call hb6); obtain ⟨y0, y1, y2, y3, y4, y5, y6, y7, y8, y9, _, _, _, _, _, _, _, _, _, _⟩ := kt6.c10) | (go_at_call 28; (with_reducible refine (hwn _).mono ?_); rintro e' w7 ⟨s2, rfl, hs2, hz2, hb7⟩; (have t7 : ¬ (9223372036854775807 < b.size + 4 + s1.size + s2.size) := by omega); (have t8 : ¬ (9223372036854775807 < b.size + 4 + s1.size + s2.size + 2) := by omega); (have hW7 := hW6.call hb7); (have kt7 := kt6.call hb7); obtain ⟨z0, z1, z2, z3, z4, z5, z6, z7, z8, z9, _, _, _, _, _, _, _, _, _, _⟩ := kt7.c10)))
          go_wp2_with fail
          go_roundw
          case rel =>
            refine ⟨k + 1, _, by omega, by go_num, rfl, Lib.hid ?_, ?_, hW7⟩
            · rw [ba_app, ba_app, ba_app, ba_app, HB.out, HS.out, hs1, hs2]; simp [feeL]
            · simp only [ByteArray.size_append]; show b.size + 4 + s1.size + s2.size + 2 ≤ _; omega
          case measure => simp [intOf]; omega
        · obtain rfl : k = p.fees.length := by omega
          have hb3 := HB.out
          rw [List.take_length] at hb3
          replace hb3 := Lib.hid hb3
          have hq3 : b.size ≤ 400000000 := by omega
          have q3 := hWr.kp.c13.2.2.2.2.2.2.2.2.2.2.1
          clear HB hbs
          go_wp2_with fail
          go_loopw [3, 73] (fun v3 v73 wr => ∃ (k : Nat) (b : ByteArray), k ≤ cs.length ∧ v73 = .int .i64 k ∧ v3 = .string b ∧ Hid (b.data.toList = headL p ++ p.mets.flatMap metL ++ p.fees.flatMap feeL ++ (cs.take k).flatMap (fun x => chgL x.1)) ∧ b.size ≤ 400000000 + k * 3000000 ∧ HW w wr 29 #[.string p.name, .string p.cur, .int .i64 p.from_.1, .int .i64 p.from_.2.1, .int .i64 p.from_.2.2, .int .i64 p.to_.1, .int .i64 p.to_.2.1, .int .i64 p.to_.2.2, .slice Am p.mets.length cm, .slice Af p.fees.length cf, .slice Ac cs.length cc, .int .i64 p.line, .int .i64 p.col]) (fun _ v73 _ => cs.length - (intOf v73).toNat)
          case atStart => exact ⟨0, b, Nat.zero_le _, rfl, rfl, Lib.hid (by rw [hb3.out]; simp), by omega, hWr⟩
          case round =>
            clear hWr hb3 hq3 q3
            obtain ⟨k, b, hk, rfl, rfl, HB, hbs, hWr⟩ := hrel
            by_cases hlt : k < cs.length
            · obtain ⟨gt, rfl, hgt⟩ := hc3 (by omega)
              have htk : cs[k]? = some cs[k] := List.getElem?_eq_getElem hlt
              have e0 : wr.cell? ⟨gt, k * 16, none⟩ = some (.string cs[k].1.meter) := Lies.at (f := chgF) (l := cs) (Lies.of (hWr.row hR.co)) (fun _ => rfl) (i := k) htk (j := 0) rfl
              have e1 : wr.cell? ⟨gt, k * 16 + 1, none⟩ = some (.bool cs[k].1.win.has) := Lies.at (f := chgF) (l := cs) (Lies.of (hWr.row hR.co)) (fun _ => rfl) (i := k) htk (j := 1) rfl
              have e2 : wr.cell? ⟨gt, k * 16 + 2, none⟩ = some (.int .i64 cs[k].1.win.from_.1) := Lies.at (f := chgF) (l := cs) (Lies.of (hWr.row hR.co)) (fun _ => rfl) (i := k) htk (j := 2) rfl
              have e3 : wr.cell? ⟨gt, k * 16 + 3, none⟩ = some (.int .i64 cs[k].1.win.from_.2.1) := Lies.at (f := chgF) (l := cs) (Lies.of (hWr.row hR.co)) (fun _ => rfl) (i := k) htk (j := 3) rfl
              have e4 : wr.cell? ⟨gt, k * 16 + 4, none⟩ = some (.int .i64 cs[k].1.win.from_.2.2) := Lies.at (f := chgF) (l := cs) (Lies.of (hWr.row hR.co)) (fun _ => rfl) (i := k) htk (j := 4) rfl
              have e5 : wr.cell? ⟨gt, k * 16 + 5, none⟩ = some (.int .i64 cs[k].1.win.to_.1) := Lies.at (f := chgF) (l := cs) (Lies.of (hWr.row hR.co)) (fun _ => rfl) (i := k) htk (j := 5) rfl
              have e6 : wr.cell? ⟨gt, k * 16 + 6, none⟩ = some (.int .i64 cs[k].1.win.to_.2.1) := Lies.at (f := chgF) (l := cs) (Lies.of (hWr.row hR.co)) (fun _ => rfl) (i := k) htk (j := 6) rfl
              have e7 : wr.cell? ⟨gt, k * 16 + 7, none⟩ = some (.int .i64 cs[k].1.win.to_.2.2) := Lies.at (f := chgF) (l := cs) (Lies.of (hWr.row hR.co)) (fun _ => rfl) (i := k) htk (j := 7) rfl
              have e8 : wr.cell? ⟨gt, k * 16 + 8, none⟩ = some (.int .i64 cs[k].1.allow) := Lies.at (f := chgF) (l := cs) (Lies.of (hWr.row hR.co)) (fun _ => rfl) (i := k) htk (j := 8) rfl
              have e9 : wr.cell? ⟨gt, k * 16 + 9, none⟩ = some (.int .i64 cs[k].1.block) := Lies.at (f := chgF) (l := cs) (Lies.of (hWr.row hR.co)) (fun _ => rfl) (i := k) htk (j := 9) rfl
              have e10 : wr.cell? ⟨gt, k * 16 + 10, none⟩ = some (.int .i64 cs[k].1.kind) := Lies.at (f := chgF) (l := cs) (Lies.of (hWr.row hR.co)) (fun _ => rfl) (i := k) htk (j := 10) rfl
              have e11 : wr.cell? ⟨gt, k * 16 + 11, none⟩ = some (cs[k].2.1) := Lies.at (f := chgF) (l := cs) (Lies.of (hWr.row hR.co)) (fun _ => rfl) (i := k) htk (j := 11) rfl
              have e12 : wr.cell? ⟨gt, k * 16 + 12, none⟩ = some (.int .i64 cs[k].1.mode) := Lies.at (f := chgF) (l := cs) (Lies.of (hWr.row hR.co)) (fun _ => rfl) (i := k) htk (j := 12) rfl
              have e13 : wr.cell? ⟨gt, k * 16 + 13, none⟩ = some (cs[k].2.2) := Lies.at (f := chgF) (l := cs) (Lies.of (hWr.row hR.co)) (fun _ => rfl) (i := k) htk (j := 13) rfl
              have e14 : wr.cell? ⟨gt, k * 16 + 14, none⟩ = some (.int .i64 cs[k].1.line) := Lies.at (f := chgF) (l := cs) (Lies.of (hWr.row hR.co)) (fun _ => rfl) (i := k) htk (j := 14) rfl
              have e15 : wr.cell? ⟨gt, k * 16 + 15, none⟩ = some (.int .i64 cs[k].1.col) := Lies.at (f := chgF) (l := cs) (Lies.of (hWr.row hR.co)) (fun _ => rfl) (i := k) htk (j := 15) rfl
              have hmem : cs[k].1 ∈ p.chgs := by rw [← hR.eq]; exact List.mem_map_of_mem (List.getElem_mem hlt)
              have hnk := hT.num.chgs _ hmem
              have hsk := hT.chgs _ hmem
              have hst := hT.small.tiers _ hmem
              have hsa := hT.small.adjs _ hmem
              have hne := hR.ne _ (List.getElem_mem hlt)
              have HS := Lib.hid (flat_next (fun x : CT => chgL x.1) htk)
              generalize cs[k] = c at *
              obtain ⟨cx, tv, av⟩ := c
              simp only at e0 e1 e2 e3 e4 e5 e6 e7 e8 e9 e10 e11 e12 e13 e14 e15 hnk hsk hst hsa hne HS
              obtain ⟨At, ct, rfl, _⟩ := own_form w hne.1
              obtain ⟨Aa, ca, rfl, _⟩ := own_form w hne.2
              have kt := Blk.new wr 52 #[.string cx.meter, .bool cx.win.has, .int .i64 cx.win.from_.1, .int .i64 cx.win.from_.2.1, .int .i64 cx.win.from_.2.2, .int .i64 cx.win.to_.1, .int .i64 cx.win.to_.2.1, .int .i64 cx.win.to_.2.2, .int .i64 cx.allow, .int .i64 cx.block, .int .i64 cx.kind, .slice At cx.tiers.length ct, .int .i64 cx.mode, .slice Aa cx.adjs.length ca, .int .i64 cx.line, .int .i64 cx.col]
              have gg0 : (0 : Int) ≤ (k : Int) := by omega
              have gg1 : (k : Int) < (cs.length : Int) := by omega
              have gg2 : (k : Int) < (cc : Int) := by omega
              have hlx : gt < wr.heap.size := by have := hWr.lb.size; omega
              clear htk hmem
              have hbz : b.size ≤ 31000000000 := by omega
              go_upto_region 15 with fail
              have hWa := hWr.alloc (.cells #[.string cx.meter, .bool cx.win.has, .int .i64 cx.win.from_.1, .int .i64 cx.win.from_.2.1, .int .i64 cx.win.from_.2.2, .int .i64 cx.win.to_.1, .int .i64 cx.win.to_.2.1, .int .i64 cx.win.to_.2.2, .int .i64 cx.allow, .int .i64 cx.block, .int .i64 cx.kind, .slice At cx.tiers.length ct, .int .i64 cx.mode, .slice Aa cx.adjs.length ca, .int .i64 cx.line, .int .i64 cx.col] 52)
              have rS := schg_any cx (.slice At cx.tiers.length ct) (.slice Aa cx.adjs.length ca) (wr.alloc (.cells #[.string cx.meter, .bool cx.win.has, .int .i64 cx.win.from_.1, .int .i64 cx.win.from_.2.1, .int .i64 cx.win.from_.2.2, .int .i64 cx.win.to_.1, .int .i64 cx.win.to_.2.1, .int .i64 cx.win.to_.2.2, .int .i64 cx.allow, .int .i64 cx.block, .int .i64 cx.kind, .slice At cx.tiers.length ct, .int .i64 cx.mode, .slice Aa cx.adjs.length ca, .int .i64 cx.line, .int .i64 cx.col] 52)) hWa.dt (hWa.row hne.1) (hWa.row hne.2) hnk.1 hnk.2.1 hnk.2.2.1 hnk.2.2.2 hsk hst hsa
              unfold chgC at rS
              generalize wr.alloc (.cells #[.string cx.meter, .bool cx.win.has, .int .i64 cx.win.from_.1, .int .i64 cx.win.from_.2.1, .int .i64 cx.win.from_.2.2, .int .i64 cx.win.to_.1, .int .i64 cx.win.to_.2.1, .int .i64 cx.win.to_.2.2, .int .i64 cx.allow, .int .i64 cx.block, .int .i64 cx.kind, .slice At cx.tiers.length ct, .int .i64 cx.mode, .slice Aa cx.adjs.length ca, .int .i64 cx.line, .int .i64 cx.col] 52) = W2 at *
              obtain ⟨x0, x1, x2, x3, x4, x5, x6, x7, x8, x9, x10, x11, x12, x13, x14, x15, _, _, _, _, _, _, _, _, _, _, _, _, _, _, _, _⟩ := kt.c16
              go_wp2_with fail
              refine rS.mono ?_
              rintro e w7 ⟨s1, rfl, hs1, hz1, hb7⟩
              have hW7 := hWa.call hb7
              go_wp2_with fail
              go_roundw
              case rel =>
                refine ⟨k + 1, _, by omega, by go_num, rfl, Lib.hid ?_, ?_, hW7⟩
                · rw [ba_app, HB.out, HS.out, hs1]; simp
                · simp only [ByteArray.size_append]; omega
              case measure => simp [intOf]; omega
            · obtain rfl : k = cs.length := by omega
              have hq : (cs.flatMap fun x => chgL x.1) = p.chgs.flatMap chgL := by rw [← hR.eq, List.flatMap_map]
              have hb4 := HB.out
              rw [List.take_length, hq] at hb4
              replace hb4 := Lib.hid hb4
              clear HB hq
              go_wp2_with fail
              go_ret
              exact ⟨_, rfl, hb4.out, by omega, hWr.lb⟩
end Go.Proofs.YtcgkfgklggjmaaaDoor.Par
end
section
namespace Go.Proofs.YtcgkfgklggjmaaaDoor.Par
set_option linter.unusedVariables false
set_option linter.unusedSimpArgs false
open Go.RowKit
/-! a pen: a strings.Builder that lies in a struct -/
structure PK (gp : Nat) (w w' : World) : Prop where
  lb : Below gp w w'
  ok : Lib.OthersKept 5 (some gp) w w'
section
variable {gp : Nat} {w w' w'' : World}
theorem PK.refl (gp : Nat) (w : World) : PK gp w w := ⟨Below.refl _ _, Lib.OthersKept.refl _ _ _⟩
theorem PK.trans (h : PK gp w w') (k : PK gp w' w'') : PK gp w w'' := ⟨h.lb.trans k.lb, h.ok.trans k.ok⟩
theorem PK.call (h : PK gp w w') (hb : Below w'.heap.size w' w'') (hg : gp < w'.heap.size) : PK gp w w'' :=
  h.trans ⟨hb.mono (Nat.le_of_lt hg), fun k o hk _ _ => (hb.block k (Array.getElem?_eq_some_iff.1 hk).1).trans hk⟩
theorem PK.alloc (h : PK gp w w') (o : Obj) (hg : gp < w'.heap.size) : PK gp w (w'.alloc o) := h.call (bl_alloc (bl_refl _) o) hg
theorem PK.drew (h : PK gp w w') (hg : gp < w'.heap.size) : PK gp w w'.drew := h.call (bl_drew (bl_refl _)) hg
theorem PK.blk (h : PK gp w w') {g : Nat} {T : TypeId} {cs : Array Value} (hb : Blk w g T cs) (hT : T ≠ 5) (hg : g ≠ gp) : Blk w' g T cs :=
  h.ok g _ hb (fun e => hg (Option.some.inj e)) (fun c fz e => by injection e with _ e _; exact hT e)
theorem PK.row (h : PK gp w w') {B : Nat} {e : TypeId} {size n : Nat} {v : Value} {xs : List Value} (ho : w.ownsRow B e size v n xs) (hg : ∀ g, v.ownBlock = some g → g < gp) : w'.ownsRow B e size v n xs :=
  own_keep ho fun g hx => h.lb.block g (hg g hx)
end
def PenAt (w : World) (gp : Nat) (l : List UInt8) (deep : Int) : Prop :=
  ∃ a v, (a = .pointer none ∨ a = .pointer (some ⟨gp, 0, none⟩)) ∧ Blk w gp 90 #[a, v, .int .i64 deep] ∧ w.ownsRow (gp + 1) 5 1 v l.length (Lib.byteCells l)
theorem builder_info : ∃ j, Tryd.prog.info? 88 = some j ∧ j.size = 2 := by
  have h : (Tryd.prog.info? 88).map (fun i => i.size) = some 2 := by kernel_rfl
  exact Option.map_eq_some_iff.1 h
theorem pen_lies : liesAt Tryd.prog Tryd.prog.depth 90 (3 / Tryd.prog.cellsOf 90) 0 88 1 = true := by kernel_rfl
set_option maxHeartbeats 4000000 in
set_option maxRecDepth 100000 in
theorem cc_used (w : World) (gp : Nat) (h0 : w.cell? ⟨gp, 0, none⟩ = some (.pointer (some ⟨gp, 0, none⟩))) :
    Calls Tryd.prog 111 #[.pointer (some ⟨gp, 0, none⟩)] w fun e w' => e = .returned (.tuple #[]) ∧ w' = w := by
  obtain ⟨j, hj, hjs⟩ := builder_info
  have hq := Lib.run_neq_ptr_same (P := Tryd.prog) w ⟨gp, 0, none⟩ Tryd.underlying85 hj
  go_enter Tryd.func111, Tryd.ntmps111
  go_wp2
  go_end0
  exact ⟨rfl, rfl⟩
set_option maxHeartbeats 4000000 in
set_option maxRecDepth 100000 in
theorem cc_fresh (w : World) (gp : Nat) (v : Value) (deep : Int) (hb : Blk w gp 90 #[.pointer none, v, .int .i64 deep]) :
    Calls Tryd.prog 111 #[.pointer (some ⟨gp, 0, none⟩)] w fun e w' => e = .returned (.tuple #[]) ∧ w' = w.setCell ⟨gp, 0, none⟩ (.pointer (some ⟨gp, 0, none⟩)) := by
  obtain ⟨j, hj, hjs⟩ := builder_info
  obtain ⟨h0, h1, h2, f0, f1, f2⟩ := hb.c3
  have hsh : w.shape? gp = some (90, 3) := by simp [World.shape?, show w.heap[gp]? = _ from hb]
  have hq1 := Lib.run_to_unsafe (P := Tryd.prog) w ⟨gp, 0, none⟩ Tryd.underlying85 Tryd.underlying185 hj (by rw [hjs]; decide) hsh (show 0 < 3 by decide)
  have hq2 := Lib.run_from_unsafe (P := Tryd.prog) w ⟨gp, 0, none⟩ Tryd.underlying185 Tryd.underlying85 hj hsh pen_lies
  go_enter Tryd.func111, Tryd.ntmps111
  go_wp2
  rw [run_callFunc_extern Tryd.func140 (by kernel_rfl) (by kernel_rfl) (by kernel_rfl) (e := Extern.AbiNoEscape.same) (by kernel_rfl)]
  rw [Lib.run_noEscape]
  simp only [Result.andThen]
  rw [Oper.upon_value]
  go_wp2
  go_end0
  exact ⟨rfl, rfl⟩
end Go.Proofs.YtcgkfgklggjmaaaDoor.Par
end
section
namespace Go.Proofs.YtcgkfgklggjmaaaDoor.Par
set_option linter.unusedVariables false
set_option linter.unusedSimpArgs false
open Go.RowKit
theorem byteInfo : (Tryd.prog.info? 5).map (fun i => (i.zero, i.size, i.bytes)) = some (some (.int .u8 0), 1, 1) := by kernel_rfl
theorem PK.set {gp : Nat} {w w' : World} (h : PK gp w w') (i : Nat) (u : Value) : PK gp w (w'.setCell ⟨gp, i, none⟩ u) :=
  ⟨h.lb.setCell (p := ⟨gp, i, none⟩) (Nat.le_refl _) u, h.ok.setCell ⟨gp, i, none⟩ rfl u⟩
/-- copyCheck: behind it the builder knows its own address -/
theorem cc_any (w : World) (gp : Nat) (a v : Value) (deep : Int) (l : List UInt8) (ha : a = .pointer none ∨ a = .pointer (some ⟨gp, 0, none⟩)) (hb : Blk w gp 90 #[a, v, .int .i64 deep]) (ho : w.ownsRow (gp + 1) 5 1 v l.length (Lib.byteCells l)) :
    Calls Tryd.prog 111 #[.pointer (some ⟨gp, 0, none⟩)] w fun e w' => e = .returned (.tuple #[]) ∧ Blk w' gp 90 #[.pointer (some ⟨gp, 0, none⟩), v, .int .i64 deep] ∧ w'.ownsRow (gp + 1) 5 1 v l.length (Lib.byteCells l) ∧ PK gp w w' := by
  rcases ha with rfl | rfl
  · refine (cc_fresh w gp v deep hb).mono ?_
    rintro e w' ⟨rfl, rfl⟩
    exact ⟨rfl, hb.set_ 0 _, own_keep ho fun k hk => Below.heap_setCell w ⟨gp, 0, none⟩ _ k (by have := (ho.lt k hk).1; show k ≠ gp; omega), (PK.refl gp w).set 0 _⟩
  · refine (cc_used w gp (hb.cell 0)).mono ?_
    rintro e w' ⟨rfl, rfl⟩
    exact ⟨rfl, hb, ho, PK.refl gp _⟩
theorem own_kind {w : World} {B : Nat} {e : TypeId} {size n : Nat} {v : Value} {xs : List Value} (h : w.ownsRow B e size v n xs) : ∀ k, v.ownBlock = some k → ∃ c fz, w.heap[k]? = some (.cells c e fz) := by
  intro k hk
  rcases h.2 with ⟨rfl, rfl⟩ | ⟨g, cap, cur, rfl, _, hg, _⟩
  · cases hk
  · have : g = k := by injection hk
    subst this
    exact ⟨cur, (0, 0), hg⟩
set_option maxHeartbeats 8000000 in
set_option maxRecDepth 100000 in
theorem ws_any (w : World) (gp : Nat) (l : List UInt8) (deep : Int) (s : ByteArray) (h : PenAt w gp l deep) (hl : l.length + s.size ≤ 140737488355328) :
    Calls Tryd.prog 74 #[.pointer (some ⟨gp, 0, none⟩), .string s] w fun e w' => e = .returned (.tuple #[.int .i64 s.size, .nilIface]) ∧ PenAt w' gp (l ++ s.data.toList) deep ∧ PK gp w w' := by
  obtain ⟨a, v, ha, hb, ho⟩ := h
  have hcc := cc_any w gp a v deep l ha hb ho
  obtain ⟨i0, hi, hz⟩ := Option.map_eq_some_iff.1 byteInfo
  obtain ⟨hz0, hz1, hz2⟩ : i0.zero = some (.int .u8 0) ∧ i0.size = 1 ∧ i0.bytes = 1 := by
    simp only [Prod.mk.injEq] at hz; exact hz
  go_enter Tryd.func74, Tryd.ntmps74
  go_wp2_with fail
  refine hcc.mono ?_
  rintro e w1 ⟨rfl, hb1, ho1, hk1⟩
  obtain ⟨c0, c1, c2, f0, f1, f2⟩ := hb1.c3
  have hlt := hb1.lt
  go_wp2_with (at_builtin; refine Lib.wpList_append_own_string _ rfl _ _ 86 9 rfl (gp + 1) 5 i0 Tryd.underlying86 Tryd.underlying9 hi hz0 hz1 hz2 _ _ _ rfl ho1 s rfl ?c3 ?c4 ?c5 ?_)
  case c3 => unfold maxLen; omega
  case c4 => omega
  case c5 => omega
  intro v' w2 hown' hgrow _
  have hne : ∀ k, v.ownBlock = some k → gp < k := fun k hk => by have := (ho1.lt k hk).1; omega
  have hb2 : Blk w2 gp 90 #[.pointer (some ⟨gp, 0, none⟩), v, .int .i64 deep] := hb1.grown hgrow (fun e => by have := hne _ e.symm; omega)
  obtain ⟨d0, d1, d2, g0, g1, g2⟩ := hb2.c3
  obtain ⟨A, cap, rfl, _⟩ := own_form w2 hown'
  have hk2 : PK gp w w2 := ⟨hk1.lb.grown hgrow (Nat.le_of_lt hlt) (fun k hk => Nat.le_of_lt (hne k hk)), hk1.ok.grown hgrow (own_kind ho1)⟩
  have hk3 := hk2.set 1 (.slice A (l.length + s.size) cap)
  have hp3 : PenAt (w2.setCell ⟨gp, 1, none⟩ (.slice A (l.length + s.size) cap)) gp (l ++ s.data.toList) deep := by
    refine ⟨_, _, .inr rfl, hb2.set_ 1 _, ?_⟩
    have h := own_keep (w' := w2.setCell ⟨gp, 1, none⟩ (.slice A (l.length + s.size) cap)) hown' fun k hk => Below.heap_setCell w2 ⟨gp, 1, none⟩ _ k (by have := (hown'.lt k hk).1; show k ≠ gp; omega)
    rw [Lib.byteCells_append, List.length_append, show s.data.toList.length = s.size from by simp]
    exact h
  go_wp2
  go_ret2
  exact ⟨rfl, hp3, hk3⟩
end Go.Proofs.YtcgkfgklggjmaaaDoor.Par
end
section
namespace Go.Proofs.YtcgkfgklggjmaaaDoor.Par
set_option linter.unusedVariables false
set_option linter.unusedSimpArgs false
open Go.RowKit
theorem cellsByte : Tryd.prog.cellsOf 5 = 1 := by kernel_rfl
set_option maxHeartbeats 8000000 in
set_option maxRecDepth 100000 in
theorem bs_any (w : World) (gp : Nat) (l : List UInt8) (deep : Int) (h : PenAt w gp l deep) (h0 : l ≠ []) (hl : l.length ≤ 140737488355328) :
    Calls Tryd.prog 47 #[.pointer (some ⟨gp, 0, none⟩)] w fun e w' => e = .returned (.string ⟨l.toArray⟩) ∧ Below gp w w' := by
  obtain ⟨a, v, ha, hb, hown⟩ := h
  have hl0 : l.length ≠ 0 := by simpa using h0
  obtain ⟨g, cap, cur, rfl, hbg, hg, hnc, hcm, hcs, htake⟩ : ∃ g cap cur, v = .slice (some ⟨g, 0, none⟩) l.length cap ∧ gp + 1 ≤ g ∧ w.heap[g]? = some (.cells cur 5 (0, 0)) ∧ l.length ≤ cap ∧ cap ≤ maxLen ∧ cur.size = cap * 1 ∧ cur.toList.take (l.length * 1) = Lib.byteCells l := by
    rcases hown.2 with ⟨_, hz⟩ | ⟨g, cap, cur, hv, r⟩
    · exact absurd hz hl0
    · exact ⟨g, cap, cur, hv, r⟩
  have c1 : w.drew.cell? ⟨gp, 1, none⟩ = some (.slice (some ⟨g, 0, none⟩) l.length cap) := hb.drew.cell 1
  have hSD : (Builtin.unsafeSliceData_ #[86] 139 #[.slice (some ⟨g, 0, none⟩) l.length cap]).run Tryd.prog w.drew = .ok (.pointer (some ⟨g, 0, none⟩)) w.drew :=
    Lib.run_unsafeSliceData_row _ _ _ _ _ _ (by omega)
  have hUS : (Builtin.unsafeString_ #[139, 3] 9 #[.pointer (some ⟨g, 0, none⟩), .int .i64 l.length]).run Tryd.prog w.drew = .ok (.string ⟨l.toArray⟩) (w.drew.freeze ⟨g, 0, none⟩ l.length) := by
    refine Lib.run_unsafeString_row w.drew 139 3 9 5 Tryd.underlying139 cellsByte g cur.size (by have hg' : w.drew.heap[g]? = some (.cells cur 5 (0, 0)) := hg; simp [World.shape?, hg']) l h0 (by omega) (by unfold maxLen at hcm; omega) ?_
    intro j x hx
    have := hown.cells (g := g) rfl j (.int .u8 x.toNat) (by simp [Lib.byteCells, hx])
    exact this
  go_enter Tryd.func47, Tryd.ntmps47
  go_wp2
  go_region
  all_goals (go_wp2; go_ret; exact ⟨rfl, Lib.below_freeze (Below.drew (Below.refl gp w)) (p := ⟨g, 0, none⟩) (show gp ≤ g by omega) _⟩)
end Go.Proofs.YtcgkfgklggjmaaaDoor.Par
end
