import Derived.Test.YtapdepjkcbipaaaLexH
import Derived.Test.YtapdepjkcbipaaaLexQ
namespace Go.Proofs.Ytapdepjkcbipaaa
set_option linter.unusedVariables false
set_option linter.unusedSimpArgs false
open Go.RowKit
set_option maxHeartbeats 4000000 in
set_option maxRecDepth 100000 in
theorem alive_any (w : World) (hG : GL w) :
    Calls Try.prog 6 #[] w fun e w' => e = .returned (.bool true) ∧ Below w.heap.size w w' := by
  have q0 : ∀ w, (binOp .eql 26 (.agg #[.int .i64 0, .int .i64 0, .int .i64 0]) (.agg #[.int .i64 0, .int .i64 0, .int .i64 0])).run Try.prog w = .ok (.bool true) w := fun _ => by kernel_rfl
  have q1 : ∀ w, (binOp .eql 26 (.agg #[.int .i64 3, .int .i64 1, .int .i64 2]) (.agg #[.int .i64 3, .int .i64 1, .int .i64 2])).run Try.prog w = .ok (.bool true) w := fun _ => by kernel_rfl
  go_enter Try.func6, Try.ntmps6
  go_wp2_with fail
  refine (lex_any ⟨#[112, 108, 97, 110, 32, 112, 49, 59]⟩ _ hG (by decide)).mono ?_
  rintro e w1 ⟨v, ts, er, l, c, rfl, hown, hb1, hall⟩
  have h1 := hall.symm.trans a_toks1
  simp only [Prod.mk.injEq] at h1
  obtain ⟨rfl, rfl, rfl, rfl⟩ := h1
  clear hall
  have hG1 := hG.below hb1
  change w1.ownsRow w.heap.size 36 4 v 4 (toksCells aToks1) at hown
  obtain ⟨g, cap, rfl, _, hgl⟩ := hown.form (by decide)
  unfold lexR
  go_wp2_with fail
  refine (lex_any ⟨#[32, 50, 48, 50, 52, 45, 48, 50, 45, 51, 48]⟩ _ (hG1.alloc _) (by decide)).mono ?_
  rintro e w2 ⟨v2, ts2, er2, l2, c2, rfl, hown2, hb2, hall2⟩
  have h2 := hall2.symm.trans a_toks2
  simp only [Prod.mk.injEq] at h2
  obtain ⟨rfl, rfl, rfl, rfl⟩ := h2
  clear hall2
  have hG2 := (hG1.alloc (.cells #[.int .i64 0, .int .i64 0, .int .i64 0] 26)).below hb2
  have hownb := ownsRow_below (w := w1.alloc (.cells #[.int .i64 0, .int .i64 0, .int .i64 0] 26)) (hown.alloc _) hb2
  have kf := (Blk.new w1 26 #[.int .i64 0, .int .i64 0, .int .i64 0]).call hb2
  have hbb := bl_call (bl_alloc hb1 _) hb2
  obtain ⟨a0, a1, a2, b0, b1, b2⟩ := kf.c3
  have hlt2 := kf.lt
  have hgl2 := (hownb.lt g rfl).2
  have e0 := (hownb.cellAt 0 (by decide)).trans (show _ = some (Value.int .i64 2) from rfl)
  have e5 := (hownb.cellAt 5 (by decide)).trans (show _ = some (Value.string ⟨#[112, 49]⟩) from rfl)
  have e8 := (hownb.cellAt 8 (by decide)).trans (show _ = some (Value.int .i64 5) from rfl)
  unfold lexR
  go_wp2_with fail
  have HK := Lib.hid a_kind3
  refine (lexOf_any ⟨#[50, 48, 50, 52, 45, 48, 50, 45, 50, 57]⟩ _ (hG2.alloc _) (by decide)).mono ?_
  rw [show (⟨#[50, 48, 50, 52, 45, 48, 50, 45, 50, 57]⟩ : ByteArray).data.toList = aText3 from rfl, HK.out]
  rintro e w3 ⟨rfl, hb3⟩
  go_wp2_with fail
  go_ret
  exact ⟨rfl, bl_call (bl_alloc hbb _) hb3⟩
end Go.Proofs.Ytapdepjkcbipaaa
