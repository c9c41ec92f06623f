import Derived.Test.YtmhimnmiclnbjaaDoorDecN
import Derived.Test.YtmhimnmiclnbjaaDoorDecE
namespace Go.Proofs.YtmhimnmiclnbjaaDoor
set_option linter.unusedVariables false
set_option linter.unusedSimpArgs false
open Go.RowKit
set_option maxHeartbeats 4000000 in
set_option maxRecDepth 100000 in
theorem decimalIs_any (s : ByteArray) (places most n : Int) (w : World) (hT : DT w) (hn : n ≤ 9223372036854775807) :
    Calls Tryd.prog 3 #[.string s, .int .i64 places, .int .i64 most, .int .i64 n] w fun e w' => e = .returned (.bool true) ∧ Below w.heap.size w w' := by
  by_cases hbig : 100 < s.size
  · have hb : 100 < (s.size : Int) := by omega
    go_enter Tryd.func3, Tryd.ntmps3
    go_wp2_with fail
    refine (alive_any _ hT).mono ?_
    rintro e w1 ⟨rfl, hb1⟩
    go_wp2_with fail
    go_ret
    exact ⟨by rfl, hb1⟩
  · have hb : (s.size : Int) ≤ 100 := by omega
    have hs : s.size ≤ 100 := by omega
    have hp := fun v hv => dparse_any s places most v (hT.below hv) hs
    have hr := fun v => rparse_any s places most v hs
    generalize parseL s.data.toList places most = pr at *
    have hf3 := form_three s.data.toList
    have ho := fun v hv => dof_any s v (hT.below hv) (by omega)
    have hro := fun v => rof_any s v hs
    generalize formL s.data.toList = f at *
    have ht := fun v hv => dtext_any n places v (hT.below hv) hn
    have hrt := fun v => rtext_any n places v hn
    have htl : (textL n places).length ≤ 30 := by
      by_cases hbad : n < 0 ∨ places < 0 ∨ 9 < places
      · rw [text_bad hbad]; simp
      · have := text_len n.toNat places.toNat (by omega) (by omega)
        rw [← text_good _ _ (by omega), Int.toNat_of_nonneg (by omega), Int.toNat_of_nonneg (by omega)] at this
        exact this
    generalize textL n places = T at *
    have hw64 : IntKind.i64.wrap f = f := by rw [IntKind.wrap_i64]; omega
    have hv : pr.2 = 0 ∨ pr.2 = 1 ∨ pr.2 = 2 ∨ True := .inr (.inr (.inr trivial))
    obtain ⟨x, y⟩ := pr
    clear hv
    go_enter Tryd.func3, Tryd.ntmps3
    go_wp2_with fail
    refine (alive_any _ hT).mono ?_
    rintro e w1 ⟨rfl, hb1⟩
    go_wp2_with fail
    refine (hp _ hb1).mono ?_
    rintro e w2 ⟨rfl, hb2⟩
    have hbb2 := bl_call hb1 hb2
    go_wp2_with fail
    refine (hr _).mono ?_
    rintro e w3 ⟨rfl, hb3⟩
    have hbb3 := bl_call hbb2 hb3
    go_wp2_with fail
    refine (ho _ hbb3).mono ?_
    rintro e w4 ⟨rfl, hb4⟩
    have hbb4 := bl_call hbb3 hb4
    go_wp2_with fail
    refine (hro _).mono ?_
    rintro e w5 ⟨rfl, hb5⟩
    have hbb5 := bl_call hbb4 hb5
    go_wp2_with fail
    refine (ht _ hbb5).mono ?_
    rintro e w6 ⟨rfl, hb6⟩
    have hbb6 := bl_call hbb5 hb6
    go_wp2_with fail
    refine (hrt _).mono ?_
    rintro e w7 ⟨rfl, hb7⟩
    have hbb7 := bl_call hbb6 hb7
    go_wp2_with fail
    go_ret
    exact ⟨by first | rfl | simp, hbb7⟩
end Go.Proofs.YtmhimnmiclnbjaaDoor
