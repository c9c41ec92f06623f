import Derived.Test.YtaccanfjplgfnaaDoorDateM
namespace Go.Proofs.YtaccanfjplgfnaaDoor
set_option linter.unusedVariables false
set_option linter.unusedSimpArgs false
open Go.RowKit
set_option maxHeartbeats 4000000 in
set_option maxRecDepth 100000 in
theorem dateTexts_any (s : ByteArray) (w : World) (hT : GT w) :
    Calls Tryd.prog 8 #[.string s] w fun e w' => e = .returned (.bool true) ∧ Below w.heap.size w w' := by
  have q0 := date_same 0 0 0
  go_enter Tryd.func8, Tryd.ntmps8
  go_wp2_with fail
  refine (alive_any _ hT).mono ?_
  rintro e w1 ⟨rfl, hb1⟩
  by_cases hbig : 100 < s.size
  · have hb : 100 < (s.size : Int) := by omega
    go_wp2_with fail
    go_ret
    exact ⟨rfl, hb1⟩
  · have hb : (s.size : Int) ≤ 100 := by omega
    cases hp : parseOk s.data.toList with
    | false =>
      obtain ⟨p1, p2, p3, p4⟩ := p_no hp
      go_wp2_with fail
      refine (dparse_any s _).mono ?_
      rintro e w2 ⟨rfl, hb2⟩
      rw [p1, p2, p3, p4]
      have hbb2 := bl_call hb1 hb2
      go_wp2_with fail
      go_ret
      exact ⟨rfl, bl_alloc hbb2 _⟩
    | true =>
      obtain ⟨hl, hg, ht⟩ := parse_text hp
      obtain ⟨p1, p2, p3, p4⟩ := p_yes hp
      have hD := fun w0 => dparse_any s w0
      have hsl : s.data.toList.length = s.size := by simp
      have hs10 : (s.size : Int) = 10 := by omega
      rw [← p1, ← p2, ← p3] at hg ht
      have hts : (⟨(dayL (pY s) (pM s) (pD s)).toArray⟩ : ByteArray) = s := by rw [ht]
      rw [p4] at hD
      clear p1 p2 p3 p4 hp hl ht hsl
      generalize pY s = y at *
      generalize pM s = m at *
      generalize pD s = d at *
      go_wp2_with fail
      refine (hD _).mono ?_
      rintro e w2 ⟨rfl, hb2⟩
      have hbb2 := bl_call hb1 hb2
      have kx := Blk.new w2 23 #[.int .i64 y, .int .i64 m, .int .i64 d]
      have hbb3 := bl_alloc hbb2 (.cells #[.int .i64 y, .int .i64 m, .int .i64 d] 23)
      go_wp2_with fail
      refine (good_any _ _ _ _).mono ?_
      rintro e w3 ⟨rfl, hb3⟩
      rw [hg]
      have hbb4 := bl_call hbb3 hb3
      have kx3 := kx.call hb3
      obtain ⟨x0, x1, x2, _, _, _⟩ := kx3.c3
      go_wp2_with fail
      refine (text_yes _ _ _ _ (hT.below hbb4) hg).mono ?_
      rintro e w4 ⟨rfl, hb4⟩
      rw [hts]
      go_wp2_with fail
      go_ret
      exact ⟨by simp, bl_call hbb4 hb4⟩
end Go.Proofs.YtaccanfjplgfnaaDoor
