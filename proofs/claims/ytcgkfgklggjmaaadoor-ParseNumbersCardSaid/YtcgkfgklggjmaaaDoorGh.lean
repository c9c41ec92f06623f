import Derived.Test.YtcgkfgklggjmaaaDoorGg
import Derived.KernelRfl
section
namespace Go.Proofs.YtcgkfgklggjmaaaDoor.Par
set_option linter.unusedVariables false
set_option linter.unusedSimpArgs false
/-! what the two written texts are -/
def aTxt1 : List UInt8 := [112, 108, 97, 110, 32, 112, 32, 99, 117, 114, 114, 101, 110, 99, 121, 32, 69, 85, 82, 59, 32, 104, 111, 114, 105, 122, 111, 110, 32, 50, 48, 50, 52, 45, 48, 49, 45, 48, 49, 32, 50, 48, 50, 52, 45, 49, 50, 45, 51, 49, 59, 32, 102, 101, 101, 32, 53, 32, 102, 114, 111, 109, 32, 50, 48, 50, 52, 45, 48, 49, 45, 48, 49, 32, 116, 111, 32, 50, 48, 50, 52, 45, 48, 49, 45, 51, 49, 59]
def aTxt2 : List UInt8 := [112, 108, 97, 110, 32, 112, 32, 99, 117, 114, 114, 101, 110, 99, 121, 32, 69, 85, 82, 59, 32, 104, 111, 114, 105, 122, 111, 110, 32, 50, 48, 50, 52, 45, 48, 49, 45, 48, 49, 32, 50, 48, 50, 52, 45, 49, 50, 45, 51, 49, 59, 32, 102, 101, 101, 32, 120, 59]
def aTok1 : List Tok := [⟨2, ⟨#[112, 108, 97, 110]⟩, 1, 1⟩, ⟨1, ⟨#[112]⟩, 1, 6⟩, ⟨2, ⟨#[99, 117, 114, 114, 101, 110, 99, 121]⟩, 1, 8⟩, ⟨1, ⟨#[69, 85, 82]⟩, 1, 17⟩, ⟨5, ⟨#[59]⟩, 1, 20⟩, ⟨2, ⟨#[104, 111, 114, 105, 122, 111, 110]⟩, 1, 22⟩, ⟨4, ⟨#[50, 48, 50, 52, 45, 48, 49, 45, 48, 49]⟩, 1, 30⟩, ⟨4, ⟨#[50, 48, 50, 52, 45, 49, 50, 45, 51, 49]⟩, 1, 41⟩, ⟨5, ⟨#[59]⟩, 1, 51⟩, ⟨2, ⟨#[102, 101, 101]⟩, 1, 53⟩, ⟨3, ⟨#[53]⟩, 1, 57⟩, ⟨2, ⟨#[102, 114, 111, 109]⟩, 1, 59⟩, ⟨4, ⟨#[50, 48, 50, 52, 45, 48, 49, 45, 48, 49]⟩, 1, 64⟩, ⟨2, ⟨#[116, 111]⟩, 1, 75⟩, ⟨4, ⟨#[50, 48, 50, 52, 45, 48, 49, 45, 51, 49]⟩, 1, 78⟩, ⟨5, ⟨#[59]⟩, 1, 88⟩, ⟨0, ⟨#[]⟩, 1, 89⟩]
def aTok2 : List Tok := [⟨2, ⟨#[112, 108, 97, 110]⟩, 1, 1⟩, ⟨1, ⟨#[112]⟩, 1, 6⟩, ⟨2, ⟨#[99, 117, 114, 114, 101, 110, 99, 121]⟩, 1, 8⟩, ⟨1, ⟨#[69, 85, 82]⟩, 1, 17⟩, ⟨5, ⟨#[59]⟩, 1, 20⟩, ⟨2, ⟨#[104, 111, 114, 105, 122, 111, 110]⟩, 1, 22⟩, ⟨4, ⟨#[50, 48, 50, 52, 45, 48, 49, 45, 48, 49]⟩, 1, 30⟩, ⟨4, ⟨#[50, 48, 50, 52, 45, 49, 50, 45, 51, 49]⟩, 1, 41⟩, ⟨5, ⟨#[59]⟩, 1, 51⟩, ⟨2, ⟨#[102, 101, 101]⟩, 1, 53⟩, ⟨1, ⟨#[120]⟩, 1, 57⟩, ⟨5, ⟨#[59]⟩, 1, 58⟩, ⟨0, ⟨#[]⟩, 1, 59⟩]
theorem a_tok1 : lexAll aTxt1 = (aTok1, 0, 0, 0) := by
  rw [lexAll, if_neg (by decide), ← lexF_eq 100 aTxt1 1 1 (by decide)]
  have : lexF 100 aTxt1 1 1 = .ok aTok1 := by kernel_rfl
  rw [this]
theorem a_tok2 : lexAll aTxt2 = (aTok2, 0, 0, 0) := by
  rw [lexAll, if_neg (by decide), ← lexF_eq 100 aTxt2 1 1 (by decide)]
  have : lexF 100 aTxt2 1 1 = .ok aTok2 := by kernel_rfl
  rw [this]
def aPlan : Plan := ⟨⟨#[112]⟩, ⟨#[69, 85, 82]⟩, (2024, 1, 1), (2024, 12, 31), [], [⟨5, ⟨true, (2024, 1, 1), (2024, 1, 31)⟩, 1, 53⟩], [], 1, 1⟩

theorem a_pl1 : P.plan dp npV aTok1 = (aPlan, (P.plan dp npV aTok1).2) := by kernel_rfl
theorem a_e1 : (P.plan dp npV aTok1).2.err = 0 := by kernel_rfl
theorem a_e2 : ((P.plan dp npV aTok2).2.err, (P.plan dp npV aTok2).2.line, (P.plan dp npV aTok2).2.col) = (4, 1, 57) := by kernel_rfl
theorem a_parse1 : RParse aTxt1 = (aPlan, 0, 0, 0) := by
  rw [PParse_ok a_tok1 a_e1]
  exact congrArg (fun x => (x, (0 : Int), (0 : Int), (0 : Int))) (by kernel_rfl)
theorem a_parse2 : RParse aTxt2 = (noPlan, 4, 1, 57) := by
  have h := a_e2
  simp only [Prod.mk.injEq] at h
  rw [PParse_bad a_tok2 (by rw [h.1]; decide), h.1, h.2.1, h.2.2]
end Go.Proofs.YtcgkfgklggjmaaaDoor.Par
end
section
namespace Go.Proofs.YtcgkfgklggjmaaaDoor.Par
set_option linter.unusedVariables false
set_option linter.unusedSimpArgs false
open Go.RowKit
theorem txt1_any (w : World) (hD : Dec.DT w) : Calls Tryd.prog 19 #[.string ⟨([112, 108, 97, 110, 32, 112, 32, 99, 117, 114, 114, 101, 110, 99, 121, 32, 69, 85, 82, 59, 32, 104, 111, 114, 105, 122, 111, 110, 32, 50, 48, 50, 52, 45, 48, 49, 45, 48, 49, 32, 50, 48, 50, 52].append [45, 49, 50, 45, 51, 49, 59, 32, 102, 101, 101, 32, 53, 32, 102, 114, 111, 109, 32, 50, 48, 50, 52, 45, 48, 49, 45, 48, 49, 32, 116, 111, 32, 50, 48, 50, 52, 45, 48, 49, 45, 51, 49, 59]).toArray⟩] w fun e w' => ∃ Am cAm g cAf Ac cAc, e = .returned (.tuple #[.agg #[.string ⟨#[112]⟩, .string ⟨#[69, 85, 82]⟩, .int .i64 2024, .int .i64 1, .int .i64 1, .int .i64 2024, .int .i64 12, .int .i64 31, .slice Am 0 cAm, .slice (some ⟨g, 0, none⟩) 1 cAf, .slice Ac 0 cAc, .int .i64 1, .int .i64 1], .agg #[.int .i64 0, .int .i64 0, .int .i64 0]]) ∧ w'.cell? ⟨g, 0, none⟩ = some (.int .i64 5) ∧ w'.cell? ⟨g, 1, none⟩ = some (.bool true) ∧ g < w'.heap.size ∧ 1 ≤ cAf ∧ Below w.heap.size w w' := by
  refine (parse7_any _ w hD (by decide)).mono ?_
  rintro e w1 ⟨v, rfl, hv, hb⟩
  have hq : RParse (⟨([112, 108, 97, 110, 32, 112, 32, 99, 117, 114, 114, 101, 110, 99, 121, 32, 69, 85, 82, 59, 32, 104, 111, 114, 105, 122, 111, 110, 32, 50, 48, 50, 52, 45, 48, 49, 45, 48, 49, 32, 50, 48, 50, 52].append [45, 49, 50, 45, 51, 49, 59, 32, 102, 101, 101, 32, 53, 32, 102, 114, 111, 109, 32, 50, 48, 50, 52, 45, 48, 49, 45, 48, 49, 32, 116, 111, 32, 50, 48, 50, 52, 45, 48, 49, 45, 51, 49, 59]).toArray⟩ : ByteArray).data.toList = (aPlan, 0, 0, 0) := (congrArg RParse (by kernel_rfl)).trans a_parse1
  rw [hq] at hv ⊢
  obtain ⟨mv, fv, cv, cs, rfl, hR⟩ := hv
  obtain ⟨Am, cAm, rfl, _, _, _⟩ := Lies.open (f := metF) (l := aPlan.mets) (Lies.of hR.mo)
  obtain ⟨Af, cAf, rfl, hc, _, hg⟩ := Lies.open (f := feeF) (l := aPlan.fees) (Lies.of hR.fo)
  obtain ⟨Ac, cAc, rfl, _, _, _⟩ := Lies.open (f := chgF) (l := cs) (Lies.of hR.co)
  obtain ⟨g, rfl, hgl⟩ := hg (by decide)
  have hcs : cs.length = 0 := by
    have h := congrArg List.length hR.eq
    rw [List.length_map] at h
    exact h
  rw [hcs]
  have c0 := Lies.at (f := feeF) (l := aPlan.fees) (Lies.of hR.fo) feeF_len (i := 0) rfl (j := 0) rfl
  have c1 := Lies.at (f := feeF) (l := aPlan.fees) (Lies.of hR.fo) feeF_len (i := 0) rfl (j := 1) rfl
  exact ⟨Am, cAm, g, cAf, Ac, cAc, rfl, c0, c1, hgl, hc, hb⟩
theorem txt2_any (w : World) (hD : Dec.DT w) : Calls Tryd.prog 19 #[.string ⟨#[112, 108, 97, 110, 32, 112, 32, 99, 117, 114, 114, 101, 110, 99, 121, 32, 69, 85, 82, 59, 32, 104, 111, 114, 105, 122, 111, 110, 32, 50, 48, 50, 52, 45, 48, 49, 45, 48, 49, 32, 50, 48, 50, 52, 45, 49, 50, 45, 51, 49, 59, 32, 102, 101, 101, 32, 120, 59]⟩] w fun e w' => ∃ Am' cAm' Af' cAf' Ac' cAc', e = .returned (.tuple #[.agg #[.string ⟨#[]⟩, .string ⟨#[]⟩, .int .i64 0, .int .i64 0, .int .i64 0, .int .i64 0, .int .i64 0, .int .i64 0, .slice Am' 0 cAm', .slice Af' 0 cAf', .slice Ac' 0 cAc', .int .i64 0, .int .i64 0], .agg #[.int .i64 4, .int .i64 1, .int .i64 57]]) ∧ Below w.heap.size w w' := by
  refine (parse7_any _ w hD (by decide)).mono ?_
  rintro e w1 ⟨v, rfl, hv, hb⟩
  have hq : RParse (⟨#[112, 108, 97, 110, 32, 112, 32, 99, 117, 114, 114, 101, 110, 99, 121, 32, 69, 85, 82, 59, 32, 104, 111, 114, 105, 122, 111, 110, 32, 50, 48, 50, 52, 45, 48, 49, 45, 48, 49, 32, 50, 48, 50, 52, 45, 49, 50, 45, 51, 49, 59, 32, 102, 101, 101, 32, 120, 59]⟩ : ByteArray).data.toList = (noPlan, 4, 1, 57) := (congrArg RParse (by kernel_rfl)).trans a_parse2
  rw [hq] at hv ⊢
  obtain ⟨mv, fv, cv, cs, rfl, hR⟩ := hv
  obtain ⟨Am, cAm, rfl, _, _, _⟩ := Lies.open (f := metF) (l := noPlan.mets) (Lies.of hR.mo)
  obtain ⟨Af, cAf, rfl, _, _, _⟩ := Lies.open (f := feeF) (l := noPlan.fees) (Lies.of hR.fo)
  obtain ⟨Ac, cAc, rfl, _, _, _⟩ := Lies.open (f := chgF) (l := cs) (Lies.of hR.co)
  have hcs : cs.length = 0 := by
    have h := congrArg List.length hR.eq
    rw [List.length_map] at h
    exact h
  rw [hcs]
  exact ⟨Am, cAm, Af, cAf, Ac, cAc, rfl, hb⟩
set_option maxHeartbeats 16000000 in
set_option maxRecDepth 100000 in
theorem alive7_any (w : World) (hD : Dec.DT w) :
    Calls Tryd.prog 18 #[] w fun e w' => e = .returned (.bool true) ∧ Below w.heap.size w w' := by
  have q0 : ∀ w, (binOp .eql 34 (.agg #[.int .i64 0, .int .i64 0, .int .i64 0]) (.agg #[.int .i64 0, .int .i64 0, .int .i64 0])).run Tryd.prog w = .ok (.bool true) w := fun _ => by kernel_rfl
  have q1 : ∀ w, (binOp .eql 34 (.agg #[.int .i64 4, .int .i64 1, .int .i64 57]) (.agg #[.int .i64 4, .int .i64 1, .int .i64 57])).run Tryd.prog w = .ok (.bool true) w := fun _ => by kernel_rfl
  go_enter Tryd.func18, Tryd.ntmps18
  go_wp2_with fail
  refine (txt1_any _ hD).mono ?_
  rintro e w1 ⟨Am, cAm, g, cAf, Ac, cAc, rfl, e0, e1, hgl, hcf, hb1⟩
  have hD1 := hD.below (bl_alloc (bl_alloc hb1 (.cells #[.string ⟨#[112]⟩, .string ⟨#[69, 85, 82]⟩, .int .i64 2024, .int .i64 1, .int .i64 1, .int .i64 2024, .int .i64 12, .int .i64 31, .slice Am 0 cAm, .slice (some ⟨g, 0, none⟩) 1 cAf, .slice Ac 0 cAc, .int .i64 1, .int .i64 1] 29)) (.cells #[.int .i64 0, .int .i64 0, .int .i64 0] 34))
  go_wp2_with fail
  refine (txt2_any _ hD1).mono ?_
  rintro e w2 ⟨Am', cAm', Af', cAf', Ac', cAc', rfl, hb2⟩
  have kp := ((Blk.new w1 29 #[.string ⟨#[112]⟩, .string ⟨#[69, 85, 82]⟩, .int .i64 2024, .int .i64 1, .int .i64 1, .int .i64 2024, .int .i64 12, .int .i64 31, .slice Am 0 cAm, .slice (some ⟨g, 0, none⟩) 1 cAf, .slice Ac 0 cAc, .int .i64 1, .int .i64 1]).alloc (.cells #[.int .i64 0, .int .i64 0, .int .i64 0] 34)).call hb2
  have kf := (Blk.new (w1.alloc (.cells #[.string ⟨#[112]⟩, .string ⟨#[69, 85, 82]⟩, .int .i64 2024, .int .i64 1, .int .i64 1, .int .i64 2024, .int .i64 12, .int .i64 31, .slice Am 0 cAm, .slice (some ⟨g, 0, none⟩) 1 cAf, .slice Ac 0 cAc, .int .i64 1, .int .i64 1] 29)) 34 #[.int .i64 0, .int .i64 0, .int .i64 0]).call hb2
  rw [World.size_alloc] at kf
  have hbb := bl_call (bl_alloc (bl_alloc hb1 (.cells #[.string ⟨#[112]⟩, .string ⟨#[69, 85, 82]⟩, .int .i64 2024, .int .i64 1, .int .i64 1, .int .i64 2024, .int .i64 12, .int .i64 31, .slice Am 0 cAm, .slice (some ⟨g, 0, none⟩) 1 cAf, .slice Ac 0 cAc, .int .i64 1, .int .i64 1] 29)) (.cells #[.int .i64 0, .int .i64 0, .int .i64 0] 34)) hb2
  obtain ⟨a0, a1, a2, _, _, _⟩ := kf.c3
  obtain ⟨x0, x1, x2, x3, x4, x5, x6, x7, x8, x9, x10, x11, x12, _, _, _, _, _, _, _, _, _, _, _, _, _⟩ := kp.c13
  have hlt2 := kf.lt
  have hlt1 := kp.lt
  have hgl2 : g < w2.heap.size := by
    have := hb2.size; rw [World.size_alloc, World.size_alloc] at this; omega
  have ck : ∀ {p : Addr} {x : Value}, w1.cell? p = some x → w2.cell? p = some x := fun {p x} h => by
    have hl := World.block_lt_of_cell? _ _ h
    refine (hb2.cell (by rw [World.size_alloc, World.size_alloc]; omega)).trans ?_
    rw [World.cell?_alloc_lt _ _ _ (by rw [World.size_alloc]; omega), World.cell?_alloc_lt _ _ _ hl]
    exact h
  have f0 := ck e0
  have f1 := ck e1
  go_wp2_with fail
  go_ret
  exact ⟨rfl, bl_alloc (bl_alloc hbb _) _⟩
end Go.Proofs.YtcgkfgklggjmaaaDoor.Par
end
section
namespace Go.Proofs.YtcgkfgklggjmaaaDoor.Par
set_option linter.unusedVariables false
set_option linter.unusedSimpArgs false
/-! the plan of one fee whose amount is a number's digits -/
def nPre : List UInt8 := [112, 108, 97, 110, 32, 112, 32, 99, 117, 114, 114, 101, 110, 99, 121, 32, 99, 59, 32, 104, 111, 114, 105, 122, 111, 110, 32, 50, 48, 50, 52, 45, 48, 49, 45, 48, 49, 32, 50, 48, 50, 52, 45, 48, 49, 45, 48, 50, 59]
def nUs : List Tok := [⟨2, ⟨#[112, 108, 97, 110]⟩, 1, 1⟩, ⟨1, ⟨#[112]⟩, 1, 6⟩, ⟨2, ⟨#[99, 117, 114, 114, 101, 110, 99, 121]⟩, 1, 8⟩, ⟨1, ⟨#[99]⟩, 1, 17⟩, ⟨5, ⟨#[59]⟩, 1, 18⟩, ⟨2, ⟨#[104, 111, 114, 105, 122, 111, 110]⟩, 1, 20⟩, ⟨4, ⟨#[50, 48, 50, 52, 45, 48, 49, 45, 48, 49]⟩, 1, 28⟩, ⟨4, ⟨#[50, 48, 50, 52, 45, 48, 49, 45, 48, 50]⟩, 1, 39⟩, ⟨5, ⟨#[59]⟩, 1, 49⟩]
def nToks (T : ByteArray) (c1 c2 : Int) : List Tok := nUs ++ [⟨2, ⟨#[102, 101, 101]⟩, 2, 1⟩, ⟨3, T, 2, 5⟩, ⟨5, ⟨#[59]⟩, 2, c1⟩, ⟨0, ⟨#[]⟩, 2, c2⟩]
def nPlan (v : Int) : Plan := ⟨⟨#[112]⟩, ⟨#[99]⟩, (2024, 1, 1), (2024, 1, 2), [], [⟨v, noWin, 2, 1⟩], [], 1, 1⟩
def nHead : Plan := ⟨⟨#[112]⟩, ⟨#[99]⟩, (2024, 1, 1), (2024, 1, 2), [], [], [], 1, 1⟩
def nS1 (T : ByteArray) (c1 c2 : Int) : St := ⟨[⟨2, ⟨#[102, 101, 101]⟩, 2, 1⟩, ⟨3, T, 2, 5⟩, ⟨5, ⟨#[59]⟩, 2, c1⟩, ⟨0, ⟨#[]⟩, 2, c2⟩], 0, 0, 0⟩
def nS2 (T : ByteArray) (c1 c2 : Int) : St := ⟨[⟨3, T, 2, 5⟩, ⟨5, ⟨#[59]⟩, 2, c1⟩, ⟨0, ⟨#[]⟩, 2, c2⟩], 0, 0, 0⟩
def nS3 (c1 c2 : Int) : St := ⟨[⟨5, ⟨#[59]⟩, 2, c1⟩, ⟨0, ⟨#[]⟩, 2, c2⟩], 0, 0, 0⟩
theorem nplan_items (T : ByteArray) (c1 c2 : Int) : P.plan dp npV (nToks T c1 c2) = P.items dp npV 3 (P.item dp npV nHead (nS1 T c1 c2)).1 (P.item dp npV nHead (nS1 T c1 c2)).2 := by
  have e : P.head dp ⟨nToks T c1 c2, 0, 0, 0⟩ = (nHead, nS1 T c1 c2) := by kernel_rfl
  unfold P.plan
  rw [e]
  show P.items dp npV 4 nHead (nS1 T c1 c2) = _
  rw [P.items]
  rw [if_pos ⟨rfl, (by decide : (2 : Int) ≠ 0)⟩]
theorem nitem (T : ByteArray) (c1 c2 : Int) (x : Fee × St) (h : P.fee dp npV 2 1 (nS2 T c1 c2) = x) : P.item dp npV nHead (nS1 T c1 c2) = ({ nHead with fees := [x.1] }, x.2) := by
  have ho : P.one [wMeter, wFee, wCharge] 0 (nS1 T c1 c2) = (1, nS2 T c1 c2) := by kernel_rfl
  rw [P_item_fee ho rfl]
  subst h
  rfl
theorem nnumber (T : ByteArray) (c1 c2 : Int) : P.number npV 0 1000000000000 (nS2 T c1 c2) = ((npV T 0 1000000000000).1, if (npV T 0 1000000000000).2 = 1 then fail 4 ⟨3, T, 2, 5⟩ (nS3 c1 c2) else if (npV T 0 1000000000000).2 = 2 then fail 6 ⟨3, T, 2, 5⟩ (nS3 c1 c2) else nS3 c1 c2) := by
  have hk : P.kind 3 (nS2 T c1 c2) = (T, nS3 c1 c2) := by kernel_rfl
  unfold P.number
  simp only [hk]
  rfl
theorem nplan_ok (T : ByteArray) (c1 c2 v : Int) (h : npV T 0 1000000000000 = (v, 0)) : (P.plan dp npV (nToks T c1 c2)).1 = nPlan v ∧ (P.plan dp npV (nToks T c1 c2)).2.err = 0 := by
  have hn := nnumber T c1 c2
  rw [h] at hn
  have hf : P.fee dp npV 2 1 (nS2 T c1 c2) = (⟨v, noWin, 2, 1⟩, ⟨[⟨0, ⟨#[]⟩, 2, c2⟩], 0, 0, 0⟩) := by
    unfold P.fee
    rw [hn]
    kernel_rfl
  rw [nplan_items, nitem _ _ _ _ hf]
  exact ⟨by kernel_rfl, by kernel_rfl⟩
theorem nplan_no (T : ByteArray) (c1 c2 v : Int) (h : npV T 0 1000000000000 = (v, 2)) : ((P.plan dp npV (nToks T c1 c2)).2.err, (P.plan dp npV (nToks T c1 c2)).2.line, (P.plan dp npV (nToks T c1 c2)).2.col) = (6, 2, 5) := by
  have hn := nnumber T c1 c2
  rw [h] at hn
  have hf : P.fee dp npV 2 1 (nS2 T c1 c2) = (⟨v, noWin, 2, 1⟩, fail 6 ⟨3, T, 2, 5⟩ (nS3 c1 c2)) := by
    unfold P.fee
    rw [hn]
    kernel_rfl
  rw [nplan_items, nitem _ _ _ _ hf]
  rfl
theorem runLen_semi (cs r : List UInt8) (h : cs.all isLet = true) : runLen (cs ++ 59 :: r) = cs.length := by
  have h32 : isLet 59 = false := by decide
  induction cs with
  | nil => simp [runLen, h32]
  | cons x cs ih =>
    simp only [List.all_cons, Bool.and_eq_true] at h
    have := ih h.2
    simp only [runLen, List.cons_append, List.takeWhile_cons, h.1, if_true, List.length_cons] at this ⊢
    omega
theorem lex_semi (l r : List UInt8) (line col : Int) (h : kindOf l ≠ 0) (h1 : l ≠ [] ∧ l.all isLet = true) : lexL (l ++ 59 :: r) line col = consR ⟨kindOf l, ⟨l.toArray⟩, line, col⟩ (consR ⟨5, ⟨#[59]⟩, line, col + l.length⟩ (lexL r line (col + l.length + 1))) := by
  obtain ⟨c, cs, rfl, h35, h10, h3, ht⟩ : ∃ c cs, l = c :: cs ∧ c ≠ 35 ∧ c ≠ 10 ∧ ¬ (c = 32 ∨ c = 9 ∨ c = 13) ∧ tokLen c (cs ++ 59 :: r) = cs.length := by
    cases l with
    | nil => exact absurd rfl h1.1
    | cons c cs =>
      have h2 := h1.2
      simp only [List.all_cons, Bool.and_eq_true] at h2
      have hc := h2.1
      refine ⟨c, cs, rfl, ?_, ?_, ?_, ?_⟩
      · rintro rfl; revert hc; decide
      · rintro rfl; revert hc; decide
      · rintro (rfl | rfl | rfl) <;> revert hc <;> decide
      · rw [tokLen, if_pos hc, runLen_semi cs r h2.2]
  rw [List.cons_append, lexL, if_neg h35, if_neg h10, if_neg h3, ht, List.take_left', List.drop_left', if_neg h]
  · have hk : kindOf [59] = 5 := by kernel_rfl
    rw [List.length_cons, lexL, if_neg (by decide), if_neg (by decide), if_neg (by decide), show tokLen 59 r = 0 from rfl, List.take_zero, List.drop_zero, if_neg (by rw [hk]; decide), hk]
    rw [show col + 1 + (cs.length : Int) = col + ((cs.length + 1 : Nat) : Int) from by omega, show col + ((cs.length + 1 : Nat) : Int) + 1 + ((0 : Nat) : Int) = col + ((cs.length + 1 : Nat) : Int) + 1 from by omega]
  · rfl
  · rfl
theorem n_pre : lexL nPre 1 1 = .ok (nUs ++ [⟨0, ⟨#[]⟩, 1, 50⟩]) := by
  rw [← lexF_eq 100 nPre 1 1 (by decide)]
  kernel_rfl
theorem n_lex (l : List UInt8) (hk : kindOf l = 3) (hl : l ≠ [] ∧ l.all isLet = true) (hn : l.length ≤ 1000) : lexAll (nPre ++ 10 :: ([102, 101, 101] ++ 32 :: (l ++ [59]))) = (nToks ⟨l.toArray⟩ (5 + l.length) (5 + l.length + 1), 0, 0, 0) := by
  have hj := lexL_join ([102, 101, 101] ++ 32 :: (l ++ [59])) _ nPre 1 1 (Nat.le_refl _)
  rw [n_pre] at hj
  obtain ⟨us, e, h1, h2⟩ := hj
  obtain ⟨h3, h4⟩ := List.append_inj' h1 rfl
  obtain rfl := h3
  obtain rfl : (⟨0, ⟨#[]⟩, 1, 50⟩ : Tok) = e := by injection h4
  have hf : kindOf [102, 101, 101] = 2 := by kernel_rfl
  rw [lex_tok [102, 101, 101] _ _ _ (by rw [hf]; decide), lex_semi l [] _ _ (by rw [hk]; decide) hl, lexL, hk, hf] at h2
  unfold lexAll
  rw [if_neg (by simp [nPre]; omega), h2]
  rfl
theorem parse_digits (n : Nat) (hn : n < 9223372036854775808) : Dec.parseL (Lib.decDigits n) 0 1000000000000 = if 1000000000000 < n then (0, 2) else ((n : Int), 0) := by
  have h : Dec.fracL n 0 = [] := rfl
  have ht : Dec.textN n 0 = Lib.decDigits n := by rw [Dec.textN, Dec.tailL, if_pos h, List.append_nil, Nat.pow_zero, Nat.div_one]
  have hf := Dec.frac_fill n 0
  have hform := Dec.form_textN n 0
  have hv := Dec.val_text n 0
  rw [ht, if_pos h] at hform
  rw [h] at hf
  unfold Dec.parseL Dec.parseW
  rw [hform, Dec.cut_whole (Dec.dec_all _), if_neg (by simp), if_neg (by simp)]
  simp only [hf]
  rw [Nat.pow_zero, Nat.div_one] at hv
  rw [show Int.toNat 0 = 0 from rfl, hf, hv]
  by_cases hm : 1000000000000 < n
  · rw [if_pos (.inr (by omega)), if_pos hm]
  · rw [if_neg (by omega), if_neg hm]
theorem dec_let (n : Nat) : (Lib.decDigits n).all isLet = true := by
  have h := Dec.dec_all n
  rw [List.all_eq_true] at h ⊢
  intro x hx
  have := h x hx
  simp only [Dec.isDig, isDig, decide_eq_true_eq, Bool.and_eq_true] at this
  simp only [isLet, decide_eq_true_eq]
  omega
theorem kind_digits (n : Nat) : kindOf (Lib.decDigits n) = 3 := by
  have hne := Dec.dec_ne n
  have hd := Dec.dec_all n
  have hlead := Dec.lead_dec n
  rw [kind_let (dec_let n) hne]
  generalize Lib.decDigits n = l at *
  have hw : isWord l = false := by
    cases h : isWord l with
    | false => rfl
    | true =>
      have hm : l ∈ wordsL := by simpa [isWord] using h
      have ha : ∀ w ∈ wordsL, w.all Dec.isDig = false := by decide
      rw [ha l hm] at hd
      cases hd
  have hd' : l.all isDig = true := hd
  have hf : digFirst l = true := by
    cases l with
    | nil => exact absurd rfl hne
    | cons c cs =>
      simp only [List.all_cons, Bool.and_eq_true] at hd'
      exact hd'.1
  have hb : digitsB l = true := by
    unfold digitsB
    rw [hd']
    cases l with
    | nil => exact absurd rfl hne
    | cons c cs => rfl
  have hn : numForm l = 1 := by
    have hl : ¬ (1 < l.length ∧ l.getD 0 0 = 48) := by
      rintro ⟨a1, a2⟩
      cases l with
      | nil => exact absurd rfl hne
      | cons c cs =>
        obtain rfl : c = 48 := a2
        unfold Dec.leadB at hlead
        rw [decide_eq_true a1] at hlead
        cases hlead
    unfold numForm
    rw [Dec.cut_whole hd]
    simp only
    rw [if_neg (by rw [hb]; exact fun h => h.elim (fun h => by cases h) hl), if_pos trivial]
  rw [hw, hf, hn]
  simp
/-- what Parse says of the plan with one fee of an amount -/
theorem n_parse (n : Nat) (hn : n < 9223372036854775808) : RParse (nPre ++ 10 :: ([102, 101, 101] ++ 32 :: (Lib.decDigits n ++ [59]))) = if 1000000000000 < n then (noPlan, 6, 2, 5) else (nPlan n, 0, 0, 0) := by
  have hlen : (Lib.decDigits n).length ≤ 19 := Dec.dec_len n 19 (by omega) (by decide)
  have hlex := n_lex (Lib.decDigits n) (kind_digits n) ⟨Dec.dec_ne n, dec_let n⟩ (by omega)
  have hp : npV ⟨(Lib.decDigits n).toArray⟩ 0 1000000000000 = if 1000000000000 < n then (0, 2) else ((n : Int), 0) := parse_digits n hn
  by_cases hm : 1000000000000 < n
  · rw [if_pos hm] at hp ⊢
    have h := nplan_no ⟨(Lib.decDigits n).toArray⟩ (5 + (Lib.decDigits n).length) (5 + (Lib.decDigits n).length + 1) 0 hp
    simp only [Prod.mk.injEq] at h
    rw [PParse_bad hlex (by rw [h.1]; decide), h.1, h.2.1, h.2.2]
  · rw [if_neg hm] at hp ⊢
    have h := nplan_ok ⟨(Lib.decDigits n).toArray⟩ (5 + (Lib.decDigits n).length) (5 + (Lib.decDigits n).length + 1) n hp
    rw [PParse_ok hlex h.2, h.1]
end Go.Proofs.YtcgkfgklggjmaaaDoor.Par
end
section
namespace Go.Proofs.YtcgkfgklggjmaaaDoor.Par
set_option linter.unusedVariables false
set_option linter.unusedSimpArgs false
open Go.RowKit
theorem num_text (n : Nat) : ((⟨#[112, 108, 97, 110, 32, 112, 32, 99, 117, 114, 114, 101, 110, 99, 121, 32, 99, 59, 32, 104, 111, 114, 105, 122, 111, 110, 32, 50, 48, 50, 52, 45, 48, 49, 45, 48, 49, 32, 50, 48, 50, 52, 45, 48, 49, 45, 48, 50, 59, 10, 102, 101, 101, 32]⟩ : ByteArray) ++ ⟨(Lib.decDigits n).toArray⟩ ++ ⟨#[59]⟩).data.toList = nPre ++ 10 :: ([102, 101, 101] ++ 32 :: (Lib.decDigits n ++ [59])) := by
  simp [nPre]
theorem num_size (n : Nat) (hn : n < 9223372036854775808) : ((⟨#[112, 108, 97, 110, 32, 112, 32, 99, 117, 114, 114, 101, 110, 99, 121, 32, 99, 59, 32, 104, 111, 114, 105, 122, 111, 110, 32, 50, 48, 50, 52, 45, 48, 49, 45, 48, 49, 32, 50, 48, 50, 52, 45, 48, 49, 45, 48, 50, 59, 10, 102, 101, 101, 32]⟩ : ByteArray) ++ ⟨(Lib.decDigits n).toArray⟩ ++ ⟨#[59]⟩).size ≤ 9223372036854775807 := by
  have hlen : (Lib.decDigits n).length ≤ 19 := Dec.dec_len n 19 (by omega) (by decide)
  rw [ByteArray.size_append, ByteArray.size_append]
  have : (⟨(Lib.decDigits n).toArray⟩ : ByteArray).size = (Lib.decDigits n).length := by simp [ByteArray.size]
  rw [this]
  have h1 : (⟨#[112, 108, 97, 110, 32, 112, 32, 99, 117, 114, 114, 101, 110, 99, 121, 32, 99, 59, 32, 104, 111, 114, 105, 122, 111, 110, 32, 50, 48, 50, 52, 45, 48, 49, 45, 48, 49, 32, 50, 48, 50, 52, 45, 48, 49, 45, 48, 50, 59, 10, 102, 101, 101, 32]⟩ : ByteArray).size = 54 := rfl
  have h2 : (⟨#[59]⟩ : ByteArray).size = 1 := rfl
  omega
theorem num_ok (n : Nat) (w : World) (hD : Dec.DT w) (hn : n < 9223372036854775808) (hm : ¬ 1000000000000 < n) : Calls Tryd.prog 19 #[.string ((⟨#[112, 108, 97, 110, 32, 112, 32, 99, 117, 114, 114, 101, 110, 99, 121, 32, 99, 59, 32, 104, 111, 114, 105, 122, 111, 110, 32, 50, 48, 50, 52, 45, 48, 49, 45, 48, 49, 32, 50, 48, 50, 52, 45, 48, 49, 45, 48, 50, 59, 10, 102, 101, 101, 32]⟩ : ByteArray) ++ ⟨(Lib.decDigits n).toArray⟩ ++ ⟨#[59]⟩)] w fun e w' => ∃ Am cAm g cAf Ac cAc, e = .returned (.tuple #[.agg #[.string ⟨#[112]⟩, .string ⟨#[99]⟩, .int .i64 2024, .int .i64 1, .int .i64 1, .int .i64 2024, .int .i64 1, .int .i64 2, .slice Am 0 cAm, .slice (some ⟨g, 0, none⟩) 1 cAf, .slice Ac 0 cAc, .int .i64 1, .int .i64 1], .agg #[.int .i64 0, .int .i64 0, .int .i64 0]]) ∧ w'.cell? ⟨g, 0, none⟩ = some (.int .i64 n) ∧ g < w'.heap.size ∧ 1 ≤ cAf ∧ Below w.heap.size w w' := by
  refine (parse7_any _ w hD (num_size n hn)).mono ?_
  rintro e w1 ⟨v, rfl, hv, hb⟩
  have hq := n_parse n hn
  rw [if_neg hm] at hq
  rw [num_text, hq] at hv ⊢
  obtain ⟨mv, fv, cv, cs, rfl, hR⟩ := hv
  obtain ⟨Am, cAm, rfl, _, _, _⟩ := Lies.open (f := metF) (l := (nPlan n).mets) (Lies.of hR.mo)
  obtain ⟨Af, cAf, rfl, hc, _, hg⟩ := Lies.open (f := feeF) (l := (nPlan n).fees) (Lies.of hR.fo)
  obtain ⟨Ac, cAc, rfl, _, _, _⟩ := Lies.open (f := chgF) (l := cs) (Lies.of hR.co)
  have hcs : cs.length = 0 := by
    have h := congrArg List.length hR.eq
    rw [List.length_map] at h
    exact h
  rw [hcs]
  obtain ⟨g, rfl, hgl⟩ := hg (Nat.lt_succ_self 0)
  have c0 := Lies.at (f := feeF) (l := (nPlan n).fees) (Lies.of hR.fo) feeF_len (i := 0) rfl (j := 0) rfl
  exact ⟨Am, cAm, g, cAf, Ac, cAc, rfl, c0, hgl, hc, hb⟩
theorem num_no (n : Nat) (w : World) (hD : Dec.DT w) (hn : n < 9223372036854775808) (hm : 1000000000000 < n) : Calls Tryd.prog 19 #[.string ((⟨#[112, 108, 97, 110, 32, 112, 32, 99, 117, 114, 114, 101, 110, 99, 121, 32, 99, 59, 32, 104, 111, 114, 105, 122, 111, 110, 32, 50, 48, 50, 52, 45, 48, 49, 45, 48, 49, 32, 50, 48, 50, 52, 45, 48, 49, 45, 48, 50, 59, 10, 102, 101, 101, 32]⟩ : ByteArray) ++ ⟨(Lib.decDigits n).toArray⟩ ++ ⟨#[59]⟩)] w fun e w' => ∃ Am cAm Af cAf Ac cAc, e = .returned (.tuple #[.agg #[.string ⟨#[]⟩, .string ⟨#[]⟩, .int .i64 0, .int .i64 0, .int .i64 0, .int .i64 0, .int .i64 0, .int .i64 0, .slice Am 0 cAm, .slice Af 0 cAf, .slice Ac 0 cAc, .int .i64 0, .int .i64 0], .agg #[.int .i64 6, .int .i64 2, .int .i64 5]]) ∧ Below w.heap.size w w' := by
  refine (parse7_any _ w hD (num_size n hn)).mono ?_
  rintro e w1 ⟨v, rfl, hv, hb⟩
  have hq := n_parse n hn
  rw [if_pos hm] at hq
  rw [num_text, hq] at hv ⊢
  obtain ⟨mv, fv, cv, cs, rfl, hR⟩ := hv
  obtain ⟨Am, cAm, rfl, _, _, _⟩ := Lies.open (f := metF) (l := noPlan.mets) (Lies.of hR.mo)
  obtain ⟨Af, cAf, rfl, hc, _, hg⟩ := Lies.open (f := feeF) (l := noPlan.fees) (Lies.of hR.fo)
  obtain ⟨Ac, cAc, rfl, _, _, _⟩ := Lies.open (f := chgF) (l := cs) (Lies.of hR.co)
  have hcs : cs.length = 0 := by
    have h := congrArg List.length hR.eq
    rw [List.length_map] at h
    exact h
  rw [hcs]
  exact ⟨Am, cAm, Af, cAf, Ac, cAc, rfl, hb⟩
set_option maxHeartbeats 16000000 in
set_option maxRecDepth 100000 in
theorem numbers_any (n : Int) (w : World) (hD : Dec.DT w) (hn : n ≤ 9223372036854775807) :
    Calls Tryd.prog 9 #[.int .i64 n] w fun e w' => e = .returned (.bool true) ∧ Below w.heap.size w w' := by
  by_cases hneg : n < 0
  · go_enter Tryd.func9, Tryd.ntmps9
    go_wp2_with (go_at_call 18; refine (alive7_any _ hD).mono ?_; rintro e w1 ⟨rfl, hb1⟩)
    go_ret
    exact ⟨rfl, hb1⟩
  · obtain ⟨m, rfl⟩ : ∃ m : Nat, n = m := ⟨n.toNat, by omega⟩
    have hm63 : m < 9223372036854775808 := by omega
    have q0 : ∀ w, (binOp .eql 34 (.agg #[.int .i64 0, .int .i64 0, .int .i64 0]) (.agg #[.int .i64 0, .int .i64 0, .int .i64 0])).run Tryd.prog w = .ok (.bool true) w := fun _ => by kernel_rfl
    have q1 : ∀ w, (binOp .eql 34 (.agg #[.int .i64 6, .int .i64 2, .int .i64 5]) (.agg #[.int .i64 6, .int .i64 2, .int .i64 5])).run Tryd.prog w = .ok (.bool true) w := fun _ => by kernel_rfl
    go_enter Tryd.func9, Tryd.ntmps9
    go_wp2_with fail
    refine (alive7_any _ hD).mono ?_
    rintro e w1 ⟨rfl, hb1⟩
    have hD1 := hD.below hb1
    go_wp2_with fail
    refine (Dec.itoa_any m _ hD1 hm63).mono ?_
    rintro e w2 ⟨rfl, hb2⟩
    have hD2 := hD1.below hb2
    have hbb2 := bl_call hb1 hb2
    have hlen : (Lib.decDigits m).length ≤ 19 := Dec.dec_len m 19 (by omega) (by decide)
    have hdz : (ByteArray.mk (Lib.decDigits m).toArray).size = (Lib.decDigits m).length := by simp [ByteArray.size]
    by_cases hm : 1000000000000 < m
    · have hmi : (1000000000000 : Int) < (m : Int) := by omega
      have hP := num_no m w2 hD2 hm63 hm
      go_wp2_with fail
      refine hP.mono ?_
      rintro e w3 ⟨Am, cAm, Af, cAf, Ac, cAc, rfl, hb3'⟩
      have hb3 := bl_call hbb2 hb3'
      have kp := (Blk.new w3 29 #[.string ⟨#[]⟩, .string ⟨#[]⟩, .int .i64 0, .int .i64 0, .int .i64 0, .int .i64 0, .int .i64 0, .int .i64 0, .slice Am 0 cAm, .slice Af 0 cAf, .slice Ac 0 cAc, .int .i64 0, .int .i64 0]).alloc (.cells #[.int .i64 6, .int .i64 2, .int .i64 5] 34)
      have kf := Blk.new (w3.alloc (.cells #[.string ⟨#[]⟩, .string ⟨#[]⟩, .int .i64 0, .int .i64 0, .int .i64 0, .int .i64 0, .int .i64 0, .int .i64 0, .slice Am 0 cAm, .slice Af 0 cAf, .slice Ac 0 cAc, .int .i64 0, .int .i64 0] 29)) 34 #[.int .i64 6, .int .i64 2, .int .i64 5]
      rw [World.size_alloc] at kf
      have hbb := bl_alloc (bl_alloc hb3 (.cells #[.string ⟨#[]⟩, .string ⟨#[]⟩, .int .i64 0, .int .i64 0, .int .i64 0, .int .i64 0, .int .i64 0, .int .i64 0, .slice Am 0 cAm, .slice Af 0 cAf, .slice Ac 0 cAc, .int .i64 0, .int .i64 0] 29)) (.cells #[.int .i64 6, .int .i64 2, .int .i64 5] 34)
      obtain ⟨z0, z1, z2, _, _, _⟩ := kf.c3
      obtain ⟨x0, x1, x2, x3, x4, x5, x6, x7, x8, x9, x10, x11, x12, _, _, _, _, _, _, _, _, _, _, _, _, _⟩ := kp.c13
      go_wp2_with fail
      go_ret
      exact ⟨rfl, hbb⟩
    · have hmi : ¬ (1000000000000 : Int) < (m : Int) := by omega
      have hP := num_ok m w2 hD2 hm63 hm
      go_wp2_with fail
      refine hP.mono ?_
      rintro e w3 ⟨Am, cAm, g, cAf, Ac, cAc, rfl, e0, hgl, hcf, hb3'⟩
      have hb3 := bl_call hbb2 hb3'
      have q2 : ∀ w, (binOp .eql 3 (.int .i64 m) (.int .i64 m)).run Tryd.prog w = .ok (.bool true) w := fun _ => by go_simp
      have kp := (Blk.new w3 29 #[.string ⟨#[112]⟩, .string ⟨#[99]⟩, .int .i64 2024, .int .i64 1, .int .i64 1, .int .i64 2024, .int .i64 1, .int .i64 2, .slice Am 0 cAm, .slice (some ⟨g, 0, none⟩) 1 cAf, .slice Ac 0 cAc, .int .i64 1, .int .i64 1]).alloc (.cells #[.int .i64 0, .int .i64 0, .int .i64 0] 34)
      have kf := Blk.new (w3.alloc (.cells #[.string ⟨#[112]⟩, .string ⟨#[99]⟩, .int .i64 2024, .int .i64 1, .int .i64 1, .int .i64 2024, .int .i64 1, .int .i64 2, .slice Am 0 cAm, .slice (some ⟨g, 0, none⟩) 1 cAf, .slice Ac 0 cAc, .int .i64 1, .int .i64 1] 29)) 34 #[.int .i64 0, .int .i64 0, .int .i64 0]
      rw [World.size_alloc] at kf
      have hbb := bl_alloc (bl_alloc hb3 (.cells #[.string ⟨#[112]⟩, .string ⟨#[99]⟩, .int .i64 2024, .int .i64 1, .int .i64 1, .int .i64 2024, .int .i64 1, .int .i64 2, .slice Am 0 cAm, .slice (some ⟨g, 0, none⟩) 1 cAf, .slice Ac 0 cAc, .int .i64 1, .int .i64 1] 29)) (.cells #[.int .i64 0, .int .i64 0, .int .i64 0] 34)
      obtain ⟨z0, z1, z2, _, _, _⟩ := kf.c3
      obtain ⟨x0, x1, x2, x3, x4, x5, x6, x7, x8, x9, x10, x11, x12, _, _, _, _, _, _, _, _, _, _, _, _, _⟩ := kp.c13
      have f0 : ((w3.alloc (.cells #[.string ⟨#[112]⟩, .string ⟨#[99]⟩, .int .i64 2024, .int .i64 1, .int .i64 1, .int .i64 2024, .int .i64 1, .int .i64 2, .slice Am 0 cAm, .slice (some ⟨g, 0, none⟩) 1 cAf, .slice Ac 0 cAc, .int .i64 1, .int .i64 1] 29)).alloc (.cells #[.int .i64 0, .int .i64 0, .int .i64 0] 34)).cell? ⟨g, 0, none⟩ = some (.int .i64 m) := by
        rw [World.cell?_alloc_lt _ _ _ (show g < (w3.alloc _).heap.size from by rw [World.size_alloc]; omega), World.cell?_alloc_lt _ _ _ hgl]
        exact e0
      go_wp2_with fail
      go_ret
      exact ⟨rfl, hbb⟩
end Go.Proofs.YtcgkfgklggjmaaaDoor.Par
end
