import Derived.Test.YtcgkfgklggjmaaaGreatDoorGk
import Derived.KernelRfl
section
namespace Go.Proofs.YtcgkfgklggjmaaaGreatDoor.Par
set_option linter.unusedVariables false
set_option linter.unusedSimpArgs false
open Go.RowKit
/-! what chapter 08's written text is -/
def aTxt8 : List UInt8 := [112, 108, 97, 110, 32, 112, 32, 99, 117, 114, 114, 101, 110, 99, 121, 32, 69, 85, 82, 59, 10, 104, 111, 114, 105, 122, 111, 110, 32, 50, 48, 50, 52, 45, 48, 49, 45, 48, 49, 32, 50, 48, 50, 52, 45, 49, 50, 45, 51, 49, 59, 10, 109, 101, 116, 101, 114, 32, 109, 32, 117, 110, 105, 116, 32, 108, 32, 109, 97, 120, 32, 57, 59, 10, 102, 101, 101, 32, 53, 59, 10]
def aTok8 : List Tok := [⟨2, ⟨#[112, 108, 97, 110]⟩, 1, 1⟩, ⟨1, ⟨#[112]⟩, 1, 6⟩, ⟨2, ⟨#[99, 117, 114, 114, 101, 110, 99, 121]⟩, 1, 8⟩, ⟨1, ⟨#[69, 85, 82]⟩, 1, 17⟩, ⟨5, ⟨#[59]⟩, 1, 20⟩, ⟨2, ⟨#[104, 111, 114, 105, 122, 111, 110]⟩, 2, 1⟩, ⟨4, ⟨#[50, 48, 50, 52, 45, 48, 49, 45, 48, 49]⟩, 2, 9⟩, ⟨4, ⟨#[50, 48, 50, 52, 45, 49, 50, 45, 51, 49]⟩, 2, 20⟩, ⟨5, ⟨#[59]⟩, 2, 30⟩, ⟨2, ⟨#[109, 101, 116, 101, 114]⟩, 3, 1⟩, ⟨1, ⟨#[109]⟩, 3, 7⟩, ⟨2, ⟨#[117, 110, 105, 116]⟩, 3, 9⟩, ⟨1, ⟨#[108]⟩, 3, 14⟩, ⟨2, ⟨#[109, 97, 120]⟩, 3, 16⟩, ⟨3, ⟨#[57]⟩, 3, 20⟩, ⟨5, ⟨#[59]⟩, 3, 21⟩, ⟨2, ⟨#[102, 101, 101]⟩, 4, 1⟩, ⟨3, ⟨#[53]⟩, 4, 5⟩, ⟨5, ⟨#[59]⟩, 4, 6⟩, ⟨0, ⟨#[]⟩, 5, 1⟩]
def aP8 : Plan := ⟨⟨#[112]⟩, ⟨#[69, 85, 82]⟩, (2024, 1, 1), (2024, 12, 31), [⟨⟨#[109]⟩, ⟨#[108]⟩, 9, 3, 1⟩], [⟨5, noWin, 4, 1⟩], [], 1, 1⟩
theorem a8_tok : lexAll aTxt8 = (aTok8, 0, 0, 0) := by
  rw [lexAll, if_neg (by decide), ← lexF_eq 200 aTxt8 1 1 (by decide)]
  have : lexF 200 aTxt8 1 1 = .ok aTok8 := by kernel_rfl
  rw [this]
theorem a8_e : (P.plan dp npV aTok8).2.err = 0 := by kernel_rfl
theorem a8_parse : RParse aTxt8 = (aP8, 0, 0, 0) := by
  rw [PParse_ok a8_tok a8_e]
  exact congrArg (fun x => (x, (0 : Int), (0 : Int), (0 : Int))) (by kernel_rfl)
theorem a8_text : planL aP8 = aTxt8 := by kernel_rfl
theorem a8_mode : modeL 3 = [104, 97, 108, 102, 101, 118, 101, 110] := by kernel_rfl
theorem a8_lit : (⟨([112, 108, 97, 110, 32, 112, 32, 99, 117, 114, 114, 101, 110, 99, 121, 32, 69, 85, 82, 59, 10, 104, 111, 114, 105, 122, 111, 110, 32, 50, 48, 50, 52, 45, 48, 49, 45, 48, 49, 32].append [50, 48, 50, 52, 45, 49, 50, 45, 51, 49, 59, 10, 109, 101, 116, 101, 114, 32, 109, 32, 117, 110, 105, 116, 32, 108, 32, 109, 97, 120, 32, 57, 59, 10, 102, 101, 101, 32, 53, 59, 10]).toArray⟩ : ByteArray).data.toList = aTxt8 := rfl
theorem a8_told : Told aP8 := by
  have h := told_parse (l := aTxt8) (by rw [a8_parse])
  rw [a8_parse] at h
  exact h
theorem ba_inj {a b : ByteArray} (h : a.data.toList = b.data.toList) : a = b := by
  apply ByteArray.ext; exact Array.toList_inj.mp h
theorem ba_beq (a : ByteArray) : (a.toList == a.toList) = true := by rw [beq_bytes]; exact beq_refl_bytes a
/-- what the reference's Parse does (RefZ) -/
def RParses8 : Prop := ∀ (s : ByteArray) (w : World), s.size ≤ 9223372036854775807 → Calls Tryz.prog 13 #[.string s] w fun e w' => ∃ v, e = .returned (.tuple #[v, .int .i64 (RParse s.data.toList).2.1, .int .i64 (RParse s.data.toList).2.2.1, .int .i64 (RParse s.data.toList).2.2.2]) ∧ PlanLies w.heap.size w' v (RParse s.data.toList).1 ∧ Below w.heap.size w w'
set_option maxHeartbeats 16000000 in
set_option maxRecDepth 100000 in
theorem alive8_any (hRP : RParses8) (w : World) (hD : Dec.GT w) :
    Calls Tryz.prog 12 #[] w fun e w' => e = .returned (.bool true) ∧ Below w.heap.size w w' := by
  have hQ := fun W => hRP ⟨([112, 108, 97, 110, 32, 112, 32, 99, 117, 114, 114, 101, 110, 99, 121, 32, 69, 85, 82, 59, 10, 104, 111, 114, 105, 122, 111, 110, 32, 50, 48, 50, 52, 45, 48, 49, 45, 48, 49, 32].append [50, 48, 50, 52, 45, 49, 50, 45, 51, 49, 59, 10, 109, 101, 116, 101, 114, 32, 109, 32, 117, 110, 105, 116, 32, 108, 32, 109, 97, 120, 32, 57, 59, 10, 102, 101, 101, 32, 53, 59, 10]).toArray⟩ W (by decide)
  rw [a8_lit, a8_parse] at hQ
  clear hRP
  replace hQ := Lib.hid hQ
  go_enter Tryz.func12, Tryz.ntmps12
  go_wp2_with fail
  refine (hQ.out _).mono ?_
  rintro e w2 ⟨v, rfl, hv, hb2⟩
  obtain ⟨mv, fv, cv, cs, rfl, hR⟩ := hv
  obtain ⟨Am, cAm, rfl, _, _, _⟩ := Lies.open (f := metF) (l := aP8.mets) (Lies.of hR.mo)
  obtain ⟨Af, cAf, rfl, _, _, _⟩ := Lies.open (f := feeF) (l := aP8.fees) (Lies.of hR.fo)
  obtain ⟨Ac, cAc, rfl, _, _, _⟩ := Lies.open (f := chgF) (l := cs) (Lies.of hR.co)
  have k1 := Blk.new w2 29 #[.string aP8.name, .string aP8.cur, .int .i64 aP8.from_.1, .int .i64 aP8.from_.2.1, .int .i64 aP8.from_.2.2, .int .i64 aP8.to_.1, .int .i64 aP8.to_.2.1, .int .i64 aP8.to_.2.2, .slice Am aP8.mets.length cAm, .slice Af aP8.fees.length cAf, .slice Ac cs.length cAc, .int .i64 aP8.line, .int .i64 aP8.col]
  have hb3 := bl_alloc hb2 (.cells #[.string aP8.name, .string aP8.cur, .int .i64 aP8.from_.1, .int .i64 aP8.from_.2.1, .int .i64 aP8.from_.2.2, .int .i64 aP8.to_.1, .int .i64 aP8.to_.2.1, .int .i64 aP8.to_.2.2, .slice Am aP8.mets.length cAm, .slice Af aP8.fees.length cAf, .slice Ac cs.length cAc, .int .i64 aP8.line, .int .i64 aP8.col] 29)
  have rP := pplan_any (w2.alloc (.cells #[.string aP8.name, .string aP8.cur, .int .i64 aP8.from_.1, .int .i64 aP8.from_.2.1, .int .i64 aP8.from_.2.2, .int .i64 aP8.to_.1, .int .i64 aP8.to_.2.1, .int .i64 aP8.to_.2.2, .slice Am aP8.mets.length cAm, .slice Af aP8.fees.length cAf, .slice Ac cs.length cAc, .int .i64 aP8.line, .int .i64 aP8.col] 29)) (hD.below hb3) (hR.below (bl_alloc (bl_refl _) _)) a8_told
  unfold planC at rP ⊢
  clear hR hQ hb2
  obtain ⟨x0, x1, x2, x3, x4, x5, x6, x7, x8, x9, x10, x11, x12, _, _, _, _, _, _, _, _, _, _, _, _, _⟩ := k1.c13
  go_upto_region 3 with fail
  generalize w2.alloc (.cells #[.string aP8.name, .string aP8.cur, .int .i64 aP8.from_.1, .int .i64 aP8.from_.2.1, .int .i64 aP8.from_.2.2, .int .i64 aP8.to_.1, .int .i64 aP8.to_.2.1, .int .i64 aP8.to_.2.2, .slice Am aP8.mets.length cAm, .slice Af aP8.fees.length cAf, .slice Ac cs.length cAc, .int .i64 aP8.line, .int .i64 aP8.col] 29) = W3 at *
  go_wp2_with fail
  refine rP.mono ?_
  rintro e w5 ⟨s3, rfl, hs3, hz3, hb5⟩
  rw [a8_text, ← a8_lit] at hs3
  obtain rfl := ba_inj hs3
  have q1 := ba_beq ⟨([112, 108, 97, 110, 32, 112, 32, 99, 117, 114, 114, 101, 110, 99, 121, 32, 69, 85, 82, 59, 10, 104, 111, 114, 105, 122, 111, 110, 32, 50, 48, 50, 52, 45, 48, 49, 45, 48, 49, 32].append [50, 48, 50, 52, 45, 49, 50, 45, 51, 49, 59, 10, 109, 101, 116, 101, 114, 32, 109, 32, 117, 110, 105, 116, 32, 108, 32, 109, 97, 120, 32, 57, 59, 10, 102, 101, 101, 32, 53, 59, 10]).toArray⟩
  go_wp2_with fail
  refine (pmode_any 3 _).mono ?_
  rintro e w6 ⟨s4, rfl, hs4, hz4, hb6⟩
  rw [a8_mode] at hs4
  obtain rfl : s4 = ⟨#[104, 97, 108, 102, 101, 118, 101, 110]⟩ := ba_inj hs4
  have q2 := ba_beq ⟨#[104, 97, 108, 102, 101, 118, 101, 110]⟩
  go_wp2_with fail
  go_ret
  exact ⟨rfl, bl_call (bl_call hb3 hb5) hb6⟩
set_option maxHeartbeats 16000000 in
set_option maxRecDepth 100000 in
theorem showIs_any (hRP : RParses8) (s : ByteArray) (m : Int) (w : World) (hD : Dec.GT w) (hs : s.size ≤ 9223372036854775807) :
    Calls Tryz.prog 3 #[.string s, .int .i64 m] w fun e w' => e = .returned (.bool true) ∧ Below w.heap.size w w' := by
  by_cases hbig : 8192 < s.size
  · go_enter Tryz.func3, Tryz.ntmps3
    go_wp2_with (go_at_call 12; refine (alive8_any hRP _ hD).mono ?_; rintro e w1 ⟨rfl, hb1⟩)
    go_ret
    exact ⟨rfl, hb1⟩
  have hz1 : (s.size : Int) ≤ 8192 := by omega
  have hal := Lib.hid (fun W hW => alive8_any hRP W hW)
  have hQ := fun W => hRP s W hs
  have hTo := told_parse (l := s.data.toList)
  obtain ⟨p, er, li, co, hpq⟩ : ∃ p er li co, RParse s.data.toList = (p, er, li, co) := ⟨_, _, _, _, rfl⟩
  rw [hpq] at hQ hTo
  clear hpq hRP
  replace hTo : er = 0 → Told p := hTo
  replace hQ := Lib.hid hQ
  replace hTo := Lib.hid hTo
  go_enter Tryz.func3, Tryz.ntmps3
  go_wp2_with fail
  refine (hal.out _ hD).mono ?_
  rintro e w1 ⟨rfl, hb1⟩
  have hD1 := hD.below hb1
  go_wp2_with fail
  refine (hQ.out _).mono ?_
  rintro e w2 ⟨v, rfl, hv, hb2⟩
  obtain ⟨mv, fv, cv, cs, rfl, hR⟩ := hv
  obtain ⟨Am, cAm, rfl, _, _, _⟩ := Lies.open (f := metF) (l := p.mets) (Lies.of hR.mo)
  obtain ⟨Af, cAf, rfl, _, _, _⟩ := Lies.open (f := feeF) (l := p.fees) (Lies.of hR.fo)
  obtain ⟨Ac, cAc, rfl, _, _, _⟩ := Lies.open (f := chgF) (l := cs) (Lies.of hR.co)
  have hbb := bl_call hb1 hb2
  have k1 := (Blk.new w2 29 #[.string p.name, .string p.cur, .int .i64 p.from_.1, .int .i64 p.from_.2.1, .int .i64 p.from_.2.2, .int .i64 p.to_.1, .int .i64 p.to_.2.1, .int .i64 p.to_.2.2, .slice Am p.mets.length cAm, .slice Af p.fees.length cAf, .slice Ac cs.length cAc, .int .i64 p.line, .int .i64 p.col]).drew
  have hb3 := bl_drew (bl_alloc hbb (.cells #[.string p.name, .string p.cur, .int .i64 p.from_.1, .int .i64 p.from_.2.1, .int .i64 p.from_.2.2, .int .i64 p.to_.1, .int .i64 p.to_.2.1, .int .i64 p.to_.2.2, .slice Am p.mets.length cAm, .slice Af p.fees.length cAf, .slice Ac cs.length cAc, .int .i64 p.line, .int .i64 p.col] 29))
  have hD3 := (hD1.below hb2).below (bl_drew (bl_alloc (bl_refl w2) (.cells #[.string p.name, .string p.cur, .int .i64 p.from_.1, .int .i64 p.from_.2.1, .int .i64 p.from_.2.2, .int .i64 p.to_.1, .int .i64 p.to_.2.1, .int .i64 p.to_.2.2, .slice Am p.mets.length cAm, .slice Af p.fees.length cAf, .slice Ac cs.length cAc, .int .i64 p.line, .int .i64 p.col] 29)))
  have hR3 := hR.below (bl_drew (bl_alloc (bl_refl w2) (.cells #[.string p.name, .string p.cur, .int .i64 p.from_.1, .int .i64 p.from_.2.1, .int .i64 p.from_.2.2, .int .i64 p.to_.1, .int .i64 p.to_.2.1, .int .i64 p.to_.2.2, .slice Am p.mets.length cAm, .slice Af p.fees.length cAf, .slice Ac cs.length cAc, .int .i64 p.line, .int .i64 p.col] 29)))
  have kL : LB ((w2.alloc (.cells #[.string p.name, .string p.cur, .int .i64 p.from_.1, .int .i64 p.from_.2.1, .int .i64 p.from_.2.2, .int .i64 p.to_.1, .int .i64 p.to_.2.1, .int .i64 p.to_.2.2, .slice Am p.mets.length cAm, .slice Af p.fees.length cAf, .slice Ac cs.length cAc, .int .i64 p.line, .int .i64 p.col] 29)).drew) ((w2.alloc (.cells #[.string p.name, .string p.cur, .int .i64 p.from_.1, .int .i64 p.from_.2.1, .int .i64 p.from_.2.2, .int .i64 p.to_.1, .int .i64 p.to_.2.1, .int .i64 p.to_.2.2, .slice Am p.mets.length cAm, .slice Af p.fees.length cAf, .slice Ac cs.length cAc, .int .i64 p.line, .int .i64 p.col] 29)).drew) := ⟨bl_refl _⟩
  unfold planC
  obtain ⟨x0, x1, x2, x3, x4, x5, x6, x7, x8, x9, x10, x11, x12, _, _, _, _, _, _, _, _, _, _, _, _, _⟩ := k1.c13
  clear hR hQ hb1 hb2 hal
  go_upto_region 6 with fail
  generalize w2.alloc (.cells #[.string p.name, .string p.cur, .int .i64 p.from_.1, .int .i64 p.from_.2.1, .int .i64 p.from_.2.2, .int .i64 p.to_.1, .int .i64 p.to_.2.1, .int .i64 p.to_.2.2, .slice Am p.mets.length cAm, .slice Af p.fees.length cAf, .slice Ac cs.length cAc, .int .i64 p.line, .int .i64 p.col] 29) = W3 at *
  by_cases her : er = 0
  · subst her
    have hT := hTo.out rfl
    have rP := fun (W : World) (hb : LB W3.drew W) => pplan_any W (hD3.below hb.out) (hR3.below hb.out) hT
    have rQ := fun (W : World) (hb : LB W3.drew W) => splan_any W (hD3.below hb.out) (hR3.below hb.out) hT
    unfold planC at rP rQ
    replace rP := Lib.hid rP
    replace rQ := Lib.hid rQ
    clear hTo hT hD3 hR3
    go_region_held3 (fun w' => w'.cell? ⟨w2.heap.size, 0, none⟩ = some (.string p.name) ∧ w'.cell? ⟨w2.heap.size, 1, none⟩ = some (.string p.cur) ∧ w'.cell? ⟨w2.heap.size, 2, none⟩ = some (.int .i64 p.from_.1) ∧ w'.cell? ⟨w2.heap.size, 3, none⟩ = some (.int .i64 p.from_.2.1) ∧ w'.cell? ⟨w2.heap.size, 4, none⟩ = some (.int .i64 p.from_.2.2) ∧ w'.cell? ⟨w2.heap.size, 5, none⟩ = some (.int .i64 p.to_.1) ∧ w'.cell? ⟨w2.heap.size, 6, none⟩ = some (.int .i64 p.to_.2.1) ∧ w'.cell? ⟨w2.heap.size, 7, none⟩ = some (.int .i64 p.to_.2.2) ∧ w'.cell? ⟨w2.heap.size, 8, none⟩ = some (.slice Am p.mets.length cAm) ∧ w'.cell? ⟨w2.heap.size, 9, none⟩ = some (.slice Af p.fees.length cAf) ∧ w'.cell? ⟨w2.heap.size, 10, none⟩ = some (.slice Ac cs.length cAc) ∧ w'.cell? ⟨w2.heap.size, 11, none⟩ = some (.int .i64 p.line) ∧ w'.cell? ⟨w2.heap.size, 12, none⟩ = some (.int .i64 p.col))
      (refine ⟨?_, ?_, ?_, ?_, ?_, ?_, ?_, ?_, ?_, ?_, ?_, ?_, ?_⟩ <;> first | with_reducible assumption | (go_keep; done))
      ((first | (go_at_call 14; (with_reducible refine (pmode_any m _).mono ?_); rintro e' w5 ⟨s1, rfl, hs1, hz1', hb5⟩; (have j1 := k1.call hb5); (have jL := kL.call hb5); obtain ⟨y0, y1, y2, y3, y4, y5, y6, y7, y8, y9, y10, y11, y12, _, _, _, _, _, _, _, _, _, _, _, _, _⟩ := j1.c13) | (go_at_call 15; (with_reducible refine (smode_any m _).mono ?_); rintro e' w6 ⟨s2, rfl, hs2, hz2, hb6⟩; obtain rfl := ba_inj (hs2.trans hs1.symm); (have qe := ba_beq s2); (have i1 := j1.call hb6); (have iL := jL.call hb6); obtain ⟨z0, z1, z2, z3, z4, z5, z6, z7, z8, z9, z10, z11, z12, _, _, _, _, _, _, _, _, _, _, _, _, _⟩ := i1.c13) | (go_at_call 16; (with_reducible refine (rP.out _ iL).mono ?_); rintro e' w7 ⟨s3, rfl, hs3, hz3, hb7⟩; (have ku := i1.call hb7); (have uL := iL.call hb7); obtain ⟨cu_0, cu_1, cu_2, cu_3, cu_4, cu_5, cu_6, cu_7, cu_8, cu_9, cu_10, cu_11, cu_12, _, _, _, _, _, _, _, _, _, _, _, _, _⟩ := ku.c13) | (go_at_call 17; (with_reducible refine (rQ.out _ uL).mono ?_); rintro e' w8 ⟨s4, rfl, hs4, hz4, hb8⟩; obtain rfl := ba_inj (hs4.trans hs3.symm); (have qf := ba_beq s4); (have kv := ku.call hb8); (have vL := uL.call hb8); obtain ⟨cv_0, cv_1, cv_2, cv_3, cv_4, cv_5, cv_6, cv_7, cv_8, cv_9, cv_10, cv_11, cv_12, _, _, _, _, _, _, _, _, _, _, _, _, _⟩ := kv.c13)))
    all_goals go_wp2_with fail
    all_goals go_ret
    all_goals exact ⟨by first | rfl | simp [*], bl_call hb3 vL.out⟩
  · have hqq : ∀ W, (binOp .neq 3 (.int .i64 er) (.int .i64 0)).run Tryz.prog W = .ok (.bool true) W := fun W => by
      have h : (binOp .neq 3 (.int .i64 er) (.int .i64 0)).run Tryz.prog W = .ok (.bool (er != 0)) W := by go_simp
      have h2 : (er != 0) = true := by simp [her]
      rw [h, h2]
    have hq : (er != 0) = true := by simp [her]
    have hq2 : (er == 0) = false := by simp [her]
    clear hTo hD3 hR3
    go_region_with (first | (go_at_call 14; (with_reducible refine (pmode_any m _).mono ?_); rintro e' w5 ⟨s1, rfl, hs1, hz1', hb5⟩; (have j1 := k1.call hb5); (have jL := kL.call hb5)) | (go_at_call 15; (with_reducible refine (smode_any m _).mono ?_); rintro e' w6 ⟨s2, rfl, hs2, hz2, hb6⟩; obtain rfl := ba_inj (hs2.trans hs1.symm); (have qe := ba_beq s2); (have i1 := j1.call hb6); (have iL := jL.call hb6)))
    all_goals go_wp2_with fail
    all_goals go_ret
    all_goals exact ⟨by first | rfl | simp [*], bl_call hb3 iL.out⟩
end Go.Proofs.YtcgkfgklggjmaaaGreatDoor.Par
end
