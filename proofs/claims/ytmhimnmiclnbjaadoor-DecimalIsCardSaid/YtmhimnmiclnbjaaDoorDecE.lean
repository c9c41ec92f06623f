import Derived.Test.YtmhimnmiclnbjaaDoorDecD
namespace Go.Proofs.YtmhimnmiclnbjaaDoor
set_option linter.unusedVariables false
set_option linter.unusedSimpArgs false
open Go.RowKit
theorem al_parse : parseL (ByteArray.mk #[48, 46, 48, 49, 50, 53]).data.toList 6 1099511627776 = (12500, 0) := by decide +kernel
theorem al_text : textL 12500 6 = [48, 46, 48, 49, 50, 53] := by decide +kernel
theorem al_of1 : formL (ByteArray.mk #[49, 46]).data.toList = 0 := by decide +kernel
theorem al_of2 : formL (ByteArray.mk #[49, 46, 48]).data.toList = 2 := by decide +kernel
set_option maxHeartbeats 2000000 in
set_option maxRecDepth 100000 in
theorem alive_any (w : World) (hT : DT w) :
    Calls Tryd.prog 7 #[] w fun e w' => e = .returned (.bool true) ∧ Below w.heap.size w w' := by
  go_enter Tryd.func7, Tryd.ntmps7
  go_wp2_with fail
  refine (dparse_any _ _ _ _ hT (by decide)).mono ?_
  rintro e w1 ⟨rfl, hb1⟩
  rw [al_parse]
  go_wp2_with fail
  refine (dtext_any _ _ _ (hT.below hb1) (by decide)).mono ?_
  rintro e w2 ⟨rfl, hb2⟩
  rw [al_text]
  have hbb2 := bl_call hb1 hb2
  go_wp2_with fail
  refine (dof_any _ _ (hT.below hbb2) (by decide)).mono ?_
  rintro e w3 ⟨rfl, hb3⟩
  rw [al_of1]
  have hbb3 := bl_call hbb2 hb3
  go_wp2_with fail
  refine (dof_any _ _ (hT.below hbb3) (by decide)).mono ?_
  rintro e w4 ⟨rfl, hb4⟩
  rw [al_of2]
  have hbb4 := bl_call hbb3 hb4
  go_wp2_with fail
  go_ret
  exact ⟨by rfl, hbb4⟩
end Go.Proofs.YtmhimnmiclnbjaaDoor
