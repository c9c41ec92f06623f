import Derived.Test.YtcgkfgklggjmaaaDoorGg
section
namespace Go.Proofs.YtcgkfgklggjmaaaDoor.Par
set_option linter.unusedVariables false
set_option linter.unusedSimpArgs false
open Go.RowKit
/-- a plan whose plain text can be told -/
structure Told (p : Plan) : Prop where
  num : NumP p
  small : Small p
  name : p.name.size ≤ 8192
  cur : p.cur.size ≤ 8192
  mets : ∀ m ∈ p.mets, m.name.size ≤ 8192 ∧ m.unit.size ≤ 8192
  chgs : ∀ c ∈ p.chgs, c.meter.size ≤ 8192
set_option maxHeartbeats 16000000 in
set_option maxRecDepth 100000 in
theorem splan_any {p : Plan} {mv fv cv : Value} {cs : List CT} {B : Nat} (w : World) (hD : Dec.GT w) (hR : Rows w B p mv fv cv cs) (hT : Told p) :
    Calls Tryd.prog 13 #[.agg (planC p mv fv cv)] w (Says (planL p) 40000000000 w) := by
  obtain ⟨Am, cm, rfl, hm1, hm2, hm3⟩ := Lies.open (f := metF) (l := p.mets) (Lies.of hR.mo)
  obtain ⟨Af, cf, rfl, hf1, hf2, hf3⟩ := Lies.open (f := feeF) (l := p.fees) (Lies.of hR.fo)
  obtain ⟨Ac, cc, rfl, hc1, hc2, hc3⟩ := Lies.open (f := chgF) (l := cs) (Lies.of hR.co)
  have hcl : cs.length ≤ 10000 := by have h := congrArg List.length hR.eq; rw [List.length_map] at h; have := hT.small.chgs; omega
  have hml := hT.small.mets
  have hfl := hT.small.fees
  have hn1 := hT.name
  have hn2 := hT.cur
  unfold planC
  have hW0 : HW w (w.alloc (.cells #[.string p.name, .string p.cur, .int .i64 p.from_.1, .int .i64 p.from_.2.1, .int .i64 p.from_.2.2, .int .i64 p.to_.1, .int .i64 p.to_.2.1, .int .i64 p.to_.2.2, .slice Am p.mets.length cm, .slice Af p.fees.length cf, .slice Ac cs.length cc, .int .i64 p.line, .int .i64 p.col] 29)) 29 #[.string p.name, .string p.cur, .int .i64 p.from_.1, .int .i64 p.from_.2.1, .int .i64 p.from_.2.2, .int .i64 p.to_.1, .int .i64 p.to_.2.1, .int .i64 p.to_.2.2, .slice Am p.mets.length cm, .slice Af p.fees.length cf, .slice Ac cs.length cc, .int .i64 p.line, .int .i64 p.col] := ⟨bl_alloc (bl_refl w) _, Blk.new w _ _, hD.below (bl_alloc (bl_refl w) _)⟩
  have k1 := hW0.drew.kp
  obtain ⟨x0, x1, x2, x3, x4, x5, x6, x7, x8, x9, x10, x11, x12, _, _, _, _, _, _, _, _, _, _, _, _, _⟩ := hW0.kp.c13
  have hd1 := fun W => sday_any p.from_ W
  have hd2 := fun W => sday_any p.to_ W
  have t1 : ¬ (9223372036854775807 < 5 + p.name.size) := by omega
  have t2 : ¬ (9223372036854775807 < 5 + p.name.size + 10) := by omega
  have t3 : ¬ (9223372036854775807 < 5 + p.name.size + 10 + p.cur.size) := by omega
  have t4 : ¬ (9223372036854775807 < 5 + p.name.size + 10 + p.cur.size + 10) := by omega
  go_enter Tryd.func13, Tryd.ntmps13
  go_upto_region 1 with fail
  generalize w.alloc (.cells #[.string p.name, .string p.cur, .int .i64 p.from_.1, .int .i64 p.from_.2.1, .int .i64 p.from_.2.2, .int .i64 p.to_.1, .int .i64 p.to_.2.1, .int .i64 p.to_.2.2, .slice Am p.mets.length cm, .slice Af p.fees.length cf, .slice Ac cs.length cc, .int .i64 p.line, .int .i64 p.col] 29) = W0 at *
  go_region_held3 (fun w' => w'.cell? ⟨w.heap.size, 0, none⟩ = some (.string p.name) ∧ w'.cell? ⟨w.heap.size, 1, none⟩ = some (.string p.cur) ∧ w'.cell? ⟨w.heap.size, 2, none⟩ = some (.int .i64 p.from_.1) ∧ w'.cell? ⟨w.heap.size, 3, none⟩ = some (.int .i64 p.from_.2.1) ∧ w'.cell? ⟨w.heap.size, 4, none⟩ = some (.int .i64 p.from_.2.2) ∧ w'.cell? ⟨w.heap.size, 5, none⟩ = some (.int .i64 p.to_.1) ∧ w'.cell? ⟨w.heap.size, 6, none⟩ = some (.int .i64 p.to_.2.1) ∧ w'.cell? ⟨w.heap.size, 7, none⟩ = some (.int .i64 p.to_.2.2))
    (refine ⟨?_, ?_, ?_, ?_, ?_, ?_, ?_, ?_⟩ <;> first | with_reducible assumption | (go_keep; done))
    ((first | (go_at_call 27; (with_reducible refine (hd1 _).mono ?_); rintro e' w6 ⟨s1, rfl, hs1, hz1, hb6⟩; (have t5 : ¬ (9223372036854775807 < 5 + p.name.size + 10 + p.cur.size + 10 + s1.size) := by omega); (have t6 : ¬ (9223372036854775807 < 5 + p.name.size + 10 + p.cur.size + 10 + s1.size + 1) := by omega); (have hW6 := hW0.drew.call hb6); obtain ⟨y0, y1, y2, y3, y4, y5, y6, y7, y8, y9, y10, y11, y12, _, _, _, _, _, _, _, _, _, _, _, _, _⟩ := hW6.kp.c13) | (go_at_call 27; (with_reducible refine (hd2 _).mono ?_); rintro e' w7 ⟨s2, rfl, hs2, hz2, hb7⟩; (have t7 : ¬ (9223372036854775807 < 5 + p.name.size + 10 + p.cur.size + 10 + s1.size + 1 + s2.size) := by omega); (have t8 : ¬ (9223372036854775807 < 5 + p.name.size + 10 + p.cur.size + 10 + s1.size + 1 + s2.size + 2) := by omega); (have hW7 := hW6.call hb7); obtain ⟨z0, z1, z2, z3, z4, z5, z6, z7, z8, z9, z10, z11, z12, _, _, _, _, _, _, _, _, _, _, _, _, _⟩ := hW7.kp.c13)))
  have hb1 : ((⟨#[112, 108, 97, 110, 32]⟩ : ByteArray) ++ p.name ++ ⟨#[32, 99, 117, 114, 114, 101, 110, 99, 121, 32]⟩ ++ p.cur ++ ⟨#[59, 10, 104, 111, 114, 105, 122, 111, 110, 32]⟩ ++ s1 ++ ⟨#[32]⟩ ++ s2 ++ ⟨#[59, 10]⟩).data.toList = headL p := by
    rw [ba_app, ba_app, ba_app, ba_app, ba_app, ba_app, ba_app, ba_app, hs1, hs2]; simp [headL]
  have hq1 : ((⟨#[112, 108, 97, 110, 32]⟩ : ByteArray) ++ p.name ++ ⟨#[32, 99, 117, 114, 114, 101, 110, 99, 121, 32]⟩ ++ p.cur ++ ⟨#[59, 10, 104, 111, 114, 105, 122, 111, 110, 32]⟩ ++ s1 ++ ⟨#[32]⟩ ++ s2 ++ ⟨#[59, 10]⟩).size ≤ 20000 := by
    simp only [ByteArray.size_append]; show 5 + p.name.size + 10 + p.cur.size + 10 + s1.size + 1 + s2.size + 2 ≤ _; omega
  generalize (⟨#[112, 108, 97, 110, 32]⟩ : ByteArray) ++ p.name ++ ⟨#[32, 99, 117, 114, 114, 101, 110, 99, 121, 32]⟩ ++ p.cur ++ ⟨#[59, 10, 104, 111, 114, 105, 122, 111, 110, 32]⟩ ++ s1 ++ ⟨#[32]⟩ ++ s2 ++ ⟨#[59, 10]⟩ = b1 at *
  replace hb1 := Lib.hid hb1
  clear hd1 hd2 hs1 hs2 hz1 hz2 hb6 hb7 t1 t2 t3 t4 t5 t6 t7 t8 hW0 k1 hW6 x0 x1 x2 x3 x4 x5 x6 x7 x8 x9 x10 x11 x12 y0 y1 y2 y3 y4 y5 y6 y7 y8 y9 y10 y11 y12 z0 z1 z2 z3 z4 z5 z6 z7 z8 z9 z10 z11 z12
  have q1 := hW7.kp.c13.2.2.2.2.2.2.2.2.1
  go_wp2_with fail
  go_loopw [3, 31] (fun v3 v31 wr => ∃ (k : Nat) (b : ByteArray), k ≤ p.mets.length ∧ v31 = .int .i64 k ∧ v3 = .string b ∧ Hid (b.data.toList = headL p ++ (p.mets.take k).flatMap metL) ∧ b.size ≤ 20000 + k * 20000 ∧ HW w wr 29 #[.string p.name, .string p.cur, .int .i64 p.from_.1, .int .i64 p.from_.2.1, .int .i64 p.from_.2.2, .int .i64 p.to_.1, .int .i64 p.to_.2.1, .int .i64 p.to_.2.2, .slice Am p.mets.length cm, .slice Af p.fees.length cf, .slice Ac cs.length cc, .int .i64 p.line, .int .i64 p.col]) (fun _ v31 _ => p.mets.length - (intOf v31).toNat)
  case atStart => exact ⟨0, b1, Nat.zero_le _, rfl, rfl, Lib.hid (by rw [hb1.out]; simp), by omega, hW7⟩
  case round =>
    obtain ⟨k, b, hk, rfl, rfl, HB, hbs, hWr⟩ := hrel
    clear hb1 hq1 hW7 q1
    by_cases hlt : k < p.mets.length
    · obtain ⟨gt, rfl, hgt⟩ := hm3 (by omega)
      have htk : p.mets[k]? = some p.mets[k] := List.getElem?_eq_getElem hlt
      have e0 : wr.cell? ⟨gt, k * 5, none⟩ = some (.string p.mets[k].name) := Lies.at (f := metF) (l := p.mets) (Lies.of (hWr.row hR.mo)) (fun _ => rfl) (i := k) htk (j := 0) rfl
      have e1 : wr.cell? ⟨gt, k * 5 + 1, none⟩ = some (.string p.mets[k].unit) := Lies.at (f := metF) (l := p.mets) (Lies.of (hWr.row hR.mo)) (fun _ => rfl) (i := k) htk (j := 1) rfl
      have e2 : wr.cell? ⟨gt, k * 5 + 2, none⟩ = some (.int .i64 p.mets[k].max) := Lies.at (f := metF) (l := p.mets) (Lies.of (hWr.row hR.mo)) (fun _ => rfl) (i := k) htk (j := 2) rfl
      have e3 : wr.cell? ⟨gt, k * 5 + 3, none⟩ = some (.int .i64 p.mets[k].line) := Lies.at (f := metF) (l := p.mets) (Lies.of (hWr.row hR.mo)) (fun _ => rfl) (i := k) htk (j := 3) rfl
      have e4 : wr.cell? ⟨gt, k * 5 + 4, none⟩ = some (.int .i64 p.mets[k].col) := Lies.at (f := metF) (l := p.mets) (Lies.of (hWr.row hR.mo)) (fun _ => rfl) (i := k) htk (j := 4) rfl
      have hnk := hT.num.mets _ (List.getElem_mem hlt)
      have hsk := hT.mets _ (List.getElem_mem hlt)
      have HS := Lib.hid (flat_next metL htk)
      generalize p.mets[k] = m at *
      have kt := Blk.new wr 44 #[.string m.name, .string m.unit, .int .i64 m.max, .int .i64 m.line, .int .i64 m.col]
      have gg0 : (0 : Int) ≤ (k : Int) := by omega
      have gg1 : (k : Int) < (p.mets.length : Int) := by omega
      have gg2 : (k : Int) < (cm : Int) := by omega
      have hlx : gt < wr.heap.size := by have := hWr.lb.size; omega
      clear htk
      have hbz : b.size ≤ 300000000 := by omega
      go_upto_region 5 with fail
      have hWa := hWr.alloc (.cells #[.string m.name, .string m.unit, .int .i64 m.max, .int .i64 m.line, .int .i64 m.col] 44)
      generalize wr.alloc (.cells #[.string m.name, .string m.unit, .int .i64 m.max, .int .i64 m.line, .int .i64 m.col] 44) = W2 at *
      obtain ⟨x0, x1, x2, x3, x4, _, _, _, _, _⟩ := kt.c5
      have t1 : ¬ (9223372036854775807 < b.size + 6) := by omega
      have t2 : ¬ (9223372036854775807 < b.size + 6 + m.name.size) := by omega
      have t3 : ¬ (9223372036854775807 < b.size + 6 + m.name.size + 6) := by omega
      have t4 : ¬ (9223372036854775807 < b.size + 6 + m.name.size + 6 + m.unit.size) := by omega
      have t5 : ¬ (9223372036854775807 < b.size + 6 + m.name.size + 6 + m.unit.size + 5) := by omega
      go_region_held3 (fun w' => w'.cell? ⟨wr.heap.size, 0, none⟩ = some (.string m.name) ∧ w'.cell? ⟨wr.heap.size, 1, none⟩ = some (.string m.unit) ∧ w'.cell? ⟨wr.heap.size, 2, none⟩ = some (.int .i64 m.max))
        (refine ⟨?_, ?_, ?_⟩ <;> first | with_reducible assumption | (go_keep; done))
        ((first | (go_at_call 22; (with_reducible refine (sdig_any m.max _ hWa.drew.dt (by omega) (by omega)).mono ?_); rintro e' w6 ⟨s1, rfl, hs1, hz1, hb6⟩; (have t6 : ¬ (9223372036854775807 < b.size + 6 + m.name.size + 6 + m.unit.size + 5 + s1.size) := by omega); (have t7 : ¬ (9223372036854775807 < b.size + 6 + m.name.size + 6 + m.unit.size + 5 + s1.size + 2) := by omega); (have hW6 := hWa.drew.call hb6); (have kt6 := kt.drew.call hb6); obtain ⟨y0, y1, y2, y3, y4, _, _, _, _, _⟩ := kt6.c5)))
      go_wp2_with fail
      go_roundw
      case rel =>
        refine ⟨k + 1, _, by omega, by go_num, rfl, Lib.hid ?_, ?_, hW6⟩
        · rw [ba_app, ba_app, ba_app, ba_app, ba_app, ba_app, ba_app, HB.out, HS.out, hs1]; simp [metL]
        · simp only [ByteArray.size_append]; show b.size + 6 + m.name.size + 6 + m.unit.size + 5 + s1.size + 2 ≤ _; omega
      case measure => simp [intOf]; omega
    · obtain rfl : k = p.mets.length := by omega
      have hb2 := HB.out
      rw [List.take_length] at hb2
      replace hb2 := Lib.hid hb2
      have hq2 : b.size ≤ 300000000 := by omega
      have q2 := hWr.kp.c13.2.2.2.2.2.2.2.2.2.1
      clear HB hbs
      go_wp2_with fail
      go_loopw [3, 54] (fun v3 v54 wr => ∃ (k : Nat) (b : ByteArray), k ≤ p.fees.length ∧ v54 = .int .i64 k ∧ v3 = .string b ∧ Hid (b.data.toList = headL p ++ p.mets.flatMap metL ++ (p.fees.take k).flatMap feeL) ∧ b.size ≤ 300000000 + k * 100 ∧ HW w wr 29 #[.string p.name, .string p.cur, .int .i64 p.from_.1, .int .i64 p.from_.2.1, .int .i64 p.from_.2.2, .int .i64 p.to_.1, .int .i64 p.to_.2.1, .int .i64 p.to_.2.2, .slice Am p.mets.length cm, .slice Af p.fees.length cf, .slice Ac cs.length cc, .int .i64 p.line, .int .i64 p.col]) (fun _ v54 _ => p.fees.length - (intOf v54).toNat)
      case atStart => exact ⟨0, b, Nat.zero_le _, rfl, rfl, Lib.hid (by rw [hb2.out]; simp), by omega, hWr⟩
      case round =>
        clear hWr hb2 hq2 q2
        obtain ⟨k, b, hk, rfl, rfl, HB, hbs, hWr⟩ := hrel
        by_cases hlt : k < p.fees.length
        · obtain ⟨gt, rfl, hgt⟩ := hf3 (by omega)
          have htk : p.fees[k]? = some p.fees[k] := List.getElem?_eq_getElem hlt
          have e0 : wr.cell? ⟨gt, k * 10, none⟩ = some (.int .i64 p.fees[k].amount) := Lies.at (f := feeF) (l := p.fees) (Lies.of (hWr.row hR.fo)) (fun _ => rfl) (i := k) htk (j := 0) rfl
          have e1 : wr.cell? ⟨gt, k * 10 + 1, none⟩ = some (.bool p.fees[k].win.has) := Lies.at (f := feeF) (l := p.fees) (Lies.of (hWr.row hR.fo)) (fun _ => rfl) (i := k) htk (j := 1) rfl
          have e2 : wr.cell? ⟨gt, k * 10 + 2, none⟩ = some (.int .i64 p.fees[k].win.from_.1) := Lies.at (f := feeF) (l := p.fees) (Lies.of (hWr.row hR.fo)) (fun _ => rfl) (i := k) htk (j := 2) rfl
          have e3 : wr.cell? ⟨gt, k * 10 + 3, none⟩ = some (.int .i64 p.fees[k].win.from_.2.1) := Lies.at (f := feeF) (l := p.fees) (Lies.of (hWr.row hR.fo)) (fun _ => rfl) (i := k) htk (j := 3) rfl
          have e4 : wr.cell? ⟨gt, k * 10 + 4, none⟩ = some (.int .i64 p.fees[k].win.from_.2.2) := Lies.at (f := feeF) (l := p.fees) (Lies.of (hWr.row hR.fo)) (fun _ => rfl) (i := k) htk (j := 4) rfl
          have e5 : wr.cell? ⟨gt, k * 10 + 5, none⟩ = some (.int .i64 p.fees[k].win.to_.1) := Lies.at (f := feeF) (l := p.fees) (Lies.of (hWr.row hR.fo)) (fun _ => rfl) (i := k) htk (j := 5) rfl
          have e6 : wr.cell? ⟨gt, k * 10 + 6, none⟩ = some (.int .i64 p.fees[k].win.to_.2.1) := Lies.at (f := feeF) (l := p.fees) (Lies.of (hWr.row hR.fo)) (fun _ => rfl) (i := k) htk (j := 6) rfl
          have e7 : wr.cell? ⟨gt, k * 10 + 7, none⟩ = some (.int .i64 p.fees[k].win.to_.2.2) := Lies.at (f := feeF) (l := p.fees) (Lies.of (hWr.row hR.fo)) (fun _ => rfl) (i := k) htk (j := 7) rfl
          have e8 : wr.cell? ⟨gt, k * 10 + 8, none⟩ = some (.int .i64 p.fees[k].line) := Lies.at (f := feeF) (l := p.fees) (Lies.of (hWr.row hR.fo)) (fun _ => rfl) (i := k) htk (j := 8) rfl
          have e9 : wr.cell? ⟨gt, k * 10 + 9, none⟩ = some (.int .i64 p.fees[k].col) := Lies.at (f := feeF) (l := p.fees) (Lies.of (hWr.row hR.fo)) (fun _ => rfl) (i := k) htk (j := 9) rfl
          have hnk := hT.num.fees _ (List.getElem_mem hlt)
          have HS := Lib.hid (flat_next feeL htk)
          generalize p.fees[k] = f at *
          have kt := Blk.new wr 48 #[.int .i64 f.amount, .bool f.win.has, .int .i64 f.win.from_.1, .int .i64 f.win.from_.2.1, .int .i64 f.win.from_.2.2, .int .i64 f.win.to_.1, .int .i64 f.win.to_.2.1, .int .i64 f.win.to_.2.2, .int .i64 f.line, .int .i64 f.col]
          have gg0 : (0 : Int) ≤ (k : Int) := by omega
          have gg1 : (k : Int) < (p.fees.length : Int) := by omega
          have gg2 : (k : Int) < (cf : Int) := by omega
          have hlx : gt < wr.heap.size := by have := hWr.lb.size; omega
          clear htk
          have hbz : b.size ≤ 400000000 := by omega
          go_upto_region 10 with fail
          have hWa := hWr.alloc (.cells #[.int .i64 f.amount, .bool f.win.has, .int .i64 f.win.from_.1, .int .i64 f.win.from_.2.1, .int .i64 f.win.from_.2.2, .int .i64 f.win.to_.1, .int .i64 f.win.to_.2.1, .int .i64 f.win.to_.2.2, .int .i64 f.line, .int .i64 f.col] 48)
          generalize wr.alloc (.cells #[.int .i64 f.amount, .bool f.win.has, .int .i64 f.win.from_.1, .int .i64 f.win.from_.2.1, .int .i64 f.win.from_.2.2, .int .i64 f.win.to_.1, .int .i64 f.win.to_.2.1, .int .i64 f.win.to_.2.2, .int .i64 f.line, .int .i64 f.col] 48) = W2 at *
          obtain ⟨x0, x1, x2, x3, x4, x5, x6, x7, x8, x9, _, _, _, _, _, _, _, _, _, _⟩ := kt.c10
          have hwn := fun W => swin_any f.win W
          unfold winA at hwn
          have t1 : ¬ (9223372036854775807 < b.size + 4) := by omega
          go_region_held3 (fun w' => w'.cell? ⟨wr.heap.size, 0, none⟩ = some (.int .i64 f.amount) ∧ w'.cell? ⟨wr.heap.size, 1, none⟩ = some (.bool f.win.has) ∧ w'.cell? ⟨wr.heap.size, 2, none⟩ = some (.int .i64 f.win.from_.1) ∧ w'.cell? ⟨wr.heap.size, 3, none⟩ = some (.int .i64 f.win.from_.2.1) ∧ w'.cell? ⟨wr.heap.size, 4, none⟩ = some (.int .i64 f.win.from_.2.2) ∧ w'.cell? ⟨wr.heap.size, 5, none⟩ = some (.int .i64 f.win.to_.1) ∧ w'.cell? ⟨wr.heap.size, 6, none⟩ = some (.int .i64 f.win.to_.2.1) ∧ w'.cell? ⟨wr.heap.size, 7, none⟩ = some (.int .i64 f.win.to_.2.2))
            (refine ⟨?_, ?_, ?_, ?_, ?_, ?_, ?_, ?_⟩ <;> first | with_reducible assumption | (go_keep; done))
            ((first | (go_at_call 22; (with_reducible refine (sdig_any f.amount _ hWa.drew.dt (by omega) (by omega)).mono ?_); rintro e' w6 ⟨s1, rfl, hs1, hz1, hb6⟩; (have t6 : ¬ (9223372036854775807 < b.size + 4 + s1.size) := by omega); (have hW6 := hWa.drew.call hb6); (have kt6 := kt.drew.call hb6); obtain ⟨y0, y1, y2, y3, y4, y5, y6, y7, y8, y9, _, _, _, _, _, _, _, _, _, _⟩ := kt6.c10) | (go_at_call 28; (with_reducible refine (hwn _).mono ?_); rintro e' w7 ⟨s2, rfl, hs2, hz2, hb7⟩; (have t7 : ¬ (9223372036854775807 < b.size + 4 + s1.size + s2.size) := by omega); (have t8 : ¬ (9223372036854775807 < b.size + 4 + s1.size + s2.size + 2) := by omega); (have hW7 := hW6.call hb7); (have kt7 := kt6.call hb7); obtain ⟨z0, z1, z2, z3, z4, z5, z6, z7, z8, z9, _, _, _, _, _, _, _, _, _, _⟩ := kt7.c10)))
          go_wp2_with fail
          go_roundw
          case rel =>
            refine ⟨k + 1, _, by omega, by go_num, rfl, Lib.hid ?_, ?_, hW7⟩
            · rw [ba_app, ba_app, ba_app, ba_app, HB.out, HS.out, hs1, hs2]; simp [feeL]
            · simp only [ByteArray.size_append]; show b.size + 4 + s1.size + s2.size + 2 ≤ _; omega
          case measure => simp [intOf]; omega
        · obtain rfl : k = p.fees.length := by omega
          have hb3 := HB.out
          rw [List.take_length] at hb3
          replace hb3 := Lib.hid hb3
          have hq3 : b.size ≤ 400000000 := by omega
          have q3 := hWr.kp.c13.2.2.2.2.2.2.2.2.2.2.1
          clear HB hbs
          go_wp2_with fail
          go_loopw [3, 73] (fun v3 v73 wr => ∃ (k : Nat) (b : ByteArray), k ≤ cs.length ∧ v73 = .int .i64 k ∧ v3 = .string b ∧ Hid (b.data.toList = headL p ++ p.mets.flatMap metL ++ p.fees.flatMap feeL ++ (cs.take k).flatMap (fun x => chgL x.1)) ∧ b.size ≤ 400000000 + k * 3000000 ∧ HW w wr 29 #[.string p.name, .string p.cur, .int .i64 p.from_.1, .int .i64 p.from_.2.1, .int .i64 p.from_.2.2, .int .i64 p.to_.1, .int .i64 p.to_.2.1, .int .i64 p.to_.2.2, .slice Am p.mets.length cm, .slice Af p.fees.length cf, .slice Ac cs.length cc, .int .i64 p.line, .int .i64 p.col]) (fun _ v73 _ => cs.length - (intOf v73).toNat)
          case atStart => exact ⟨0, b, Nat.zero_le _, rfl, rfl, Lib.hid (by rw [hb3.out]; simp), by omega, hWr⟩
          case round =>
            clear hWr hb3 hq3 q3
            obtain ⟨k, b, hk, rfl, rfl, HB, hbs, hWr⟩ := hrel
            by_cases hlt : k < cs.length
            · obtain ⟨gt, rfl, hgt⟩ := hc3 (by omega)
              have htk : cs[k]? = some cs[k] := List.getElem?_eq_getElem hlt
              have e0 : wr.cell? ⟨gt, k * 16, none⟩ = some (.string cs[k].1.meter) := Lies.at (f := chgF) (l := cs) (Lies.of (hWr.row hR.co)) (fun _ => rfl) (i := k) htk (j := 0) rfl
              have e1 : wr.cell? ⟨gt, k * 16 + 1, none⟩ = some (.bool cs[k].1.win.has) := Lies.at (f := chgF) (l := cs) (Lies.of (hWr.row hR.co)) (fun _ => rfl) (i := k) htk (j := 1) rfl
              have e2 : wr.cell? ⟨gt, k * 16 + 2, none⟩ = some (.int .i64 cs[k].1.win.from_.1) := Lies.at (f := chgF) (l := cs) (Lies.of (hWr.row hR.co)) (fun _ => rfl) (i := k) htk (j := 2) rfl
              have e3 : wr.cell? ⟨gt, k * 16 + 3, none⟩ = some (.int .i64 cs[k].1.win.from_.2.1) := Lies.at (f := chgF) (l := cs) (Lies.of (hWr.row hR.co)) (fun _ => rfl) (i := k) htk (j := 3) rfl
              have e4 : wr.cell? ⟨gt, k * 16 + 4, none⟩ = some (.int .i64 cs[k].1.win.from_.2.2) := Lies.at (f := chgF) (l := cs) (Lies.of (hWr.row hR.co)) (fun _ => rfl) (i := k) htk (j := 4) rfl
              have e5 : wr.cell? ⟨gt, k * 16 + 5, none⟩ = some (.int .i64 cs[k].1.win.to_.1) := Lies.at (f := chgF) (l := cs) (Lies.of (hWr.row hR.co)) (fun _ => rfl) (i := k) htk (j := 5) rfl
              have e6 : wr.cell? ⟨gt, k * 16 + 6, none⟩ = some (.int .i64 cs[k].1.win.to_.2.1) := Lies.at (f := chgF) (l := cs) (Lies.of (hWr.row hR.co)) (fun _ => rfl) (i := k) htk (j := 6) rfl
              have e7 : wr.cell? ⟨gt, k * 16 + 7, none⟩ = some (.int .i64 cs[k].1.win.to_.2.2) := Lies.at (f := chgF) (l := cs) (Lies.of (hWr.row hR.co)) (fun _ => rfl) (i := k) htk (j := 7) rfl
              have e8 : wr.cell? ⟨gt, k * 16 + 8, none⟩ = some (.int .i64 cs[k].1.allow) := Lies.at (f := chgF) (l := cs) (Lies.of (hWr.row hR.co)) (fun _ => rfl) (i := k) htk (j := 8) rfl
              have e9 : wr.cell? ⟨gt, k * 16 + 9, none⟩ = some (.int .i64 cs[k].1.block) := Lies.at (f := chgF) (l := cs) (Lies.of (hWr.row hR.co)) (fun _ => rfl) (i := k) htk (j := 9) rfl
              have e10 : wr.cell? ⟨gt, k * 16 + 10, none⟩ = some (.int .i64 cs[k].1.kind) := Lies.at (f := chgF) (l := cs) (Lies.of (hWr.row hR.co)) (fun _ => rfl) (i := k) htk (j := 10) rfl
              have e11 : wr.cell? ⟨gt, k * 16 + 11, none⟩ = some (cs[k].2.1) := Lies.at (f := chgF) (l := cs) (Lies.of (hWr.row hR.co)) (fun _ => rfl) (i := k) htk (j := 11) rfl
              have e12 : wr.cell? ⟨gt, k * 16 + 12, none⟩ = some (.int .i64 cs[k].1.mode) := Lies.at (f := chgF) (l := cs) (Lies.of (hWr.row hR.co)) (fun _ => rfl) (i := k) htk (j := 12) rfl
              have e13 : wr.cell? ⟨gt, k * 16 + 13, none⟩ = some (cs[k].2.2) := Lies.at (f := chgF) (l := cs) (Lies.of (hWr.row hR.co)) (fun _ => rfl) (i := k) htk (j := 13) rfl
              have e14 : wr.cell? ⟨gt, k * 16 + 14, none⟩ = some (.int .i64 cs[k].1.line) := Lies.at (f := chgF) (l := cs) (Lies.of (hWr.row hR.co)) (fun _ => rfl) (i := k) htk (j := 14) rfl
              have e15 : wr.cell? ⟨gt, k * 16 + 15, none⟩ = some (.int .i64 cs[k].1.col) := Lies.at (f := chgF) (l := cs) (Lies.of (hWr.row hR.co)) (fun _ => rfl) (i := k) htk (j := 15) rfl
              have hmem : cs[k].1 ∈ p.chgs := by rw [← hR.eq]; exact List.mem_map_of_mem (List.getElem_mem hlt)
              have hnk := hT.num.chgs _ hmem
              have hsk := hT.chgs _ hmem
              have hst := hT.small.tiers _ hmem
              have hsa := hT.small.adjs _ hmem
              have hne := hR.ne _ (List.getElem_mem hlt)
              have HS := Lib.hid (flat_next (fun x : CT => chgL x.1) htk)
              generalize cs[k] = c at *
              obtain ⟨cx, tv, av⟩ := c
              simp only at e0 e1 e2 e3 e4 e5 e6 e7 e8 e9 e10 e11 e12 e13 e14 e15 hnk hsk hst hsa hne HS
              obtain ⟨At, ct, rfl, _⟩ := own_form w hne.1
              obtain ⟨Aa, ca, rfl, _⟩ := own_form w hne.2
              have kt := Blk.new wr 52 #[.string cx.meter, .bool cx.win.has, .int .i64 cx.win.from_.1, .int .i64 cx.win.from_.2.1, .int .i64 cx.win.from_.2.2, .int .i64 cx.win.to_.1, .int .i64 cx.win.to_.2.1, .int .i64 cx.win.to_.2.2, .int .i64 cx.allow, .int .i64 cx.block, .int .i64 cx.kind, .slice At cx.tiers.length ct, .int .i64 cx.mode, .slice Aa cx.adjs.length ca, .int .i64 cx.line, .int .i64 cx.col]
              have gg0 : (0 : Int) ≤ (k : Int) := by omega
              have gg1 : (k : Int) < (cs.length : Int) := by omega
              have gg2 : (k : Int) < (cc : Int) := by omega
              have hlx : gt < wr.heap.size := by have := hWr.lb.size; omega
              clear htk hmem
              have hbz : b.size ≤ 31000000000 := by omega
              go_upto_region 15 with fail
              have hWa := hWr.alloc (.cells #[.string cx.meter, .bool cx.win.has, .int .i64 cx.win.from_.1, .int .i64 cx.win.from_.2.1, .int .i64 cx.win.from_.2.2, .int .i64 cx.win.to_.1, .int .i64 cx.win.to_.2.1, .int .i64 cx.win.to_.2.2, .int .i64 cx.allow, .int .i64 cx.block, .int .i64 cx.kind, .slice At cx.tiers.length ct, .int .i64 cx.mode, .slice Aa cx.adjs.length ca, .int .i64 cx.line, .int .i64 cx.col] 52)
              have rS := schg_any cx (.slice At cx.tiers.length ct) (.slice Aa cx.adjs.length ca) (wr.alloc (.cells #[.string cx.meter, .bool cx.win.has, .int .i64 cx.win.from_.1, .int .i64 cx.win.from_.2.1, .int .i64 cx.win.from_.2.2, .int .i64 cx.win.to_.1, .int .i64 cx.win.to_.2.1, .int .i64 cx.win.to_.2.2, .int .i64 cx.allow, .int .i64 cx.block, .int .i64 cx.kind, .slice At cx.tiers.length ct, .int .i64 cx.mode, .slice Aa cx.adjs.length ca, .int .i64 cx.line, .int .i64 cx.col] 52)) hWa.dt (hWa.row hne.1) (hWa.row hne.2) hnk.1 hnk.2.1 hnk.2.2.1 hnk.2.2.2 hsk hst hsa
              unfold chgC at rS
              generalize wr.alloc (.cells #[.string cx.meter, .bool cx.win.has, .int .i64 cx.win.from_.1, .int .i64 cx.win.from_.2.1, .int .i64 cx.win.from_.2.2, .int .i64 cx.win.to_.1, .int .i64 cx.win.to_.2.1, .int .i64 cx.win.to_.2.2, .int .i64 cx.allow, .int .i64 cx.block, .int .i64 cx.kind, .slice At cx.tiers.length ct, .int .i64 cx.mode, .slice Aa cx.adjs.length ca, .int .i64 cx.line, .int .i64 cx.col] 52) = W2 at *
              obtain ⟨x0, x1, x2, x3, x4, x5, x6, x7, x8, x9, x10, x11, x12, x13, x14, x15, _, _, _, _, _, _, _, _, _, _, _, _, _, _, _, _⟩ := kt.c16
              go_wp2_with fail
              refine rS.mono ?_
              rintro e w7 ⟨s1, rfl, hs1, hz1, hb7⟩
              have hW7 := hWa.call hb7
              go_wp2_with fail
              go_roundw
              case rel =>
                refine ⟨k + 1, _, by omega, by go_num, rfl, Lib.hid ?_, ?_, hW7⟩
                · rw [ba_app, HB.out, HS.out, hs1]; simp
                · simp only [ByteArray.size_append]; omega
              case measure => simp [intOf]; omega
            · obtain rfl : k = cs.length := by omega
              have hq : (cs.flatMap fun x => chgL x.1) = p.chgs.flatMap chgL := by rw [← hR.eq, List.flatMap_map]
              have hb4 := HB.out
              rw [List.take_length, hq] at hb4
              replace hb4 := Lib.hid hb4
              clear HB hq
              go_wp2_with fail
              go_ret
              exact ⟨_, rfl, hb4.out, by omega, hWr.lb⟩
end Go.Proofs.YtcgkfgklggjmaaaDoor.Par
end
