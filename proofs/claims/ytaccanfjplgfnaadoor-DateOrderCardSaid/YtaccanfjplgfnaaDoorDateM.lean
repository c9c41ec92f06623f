import Derived.Test.YtaccanfjplgfnaaDoorDateL
import Derived.Test.YtaccanfjplgfnaaDoorDateP
namespace Go.Proofs.YtaccanfjplgfnaaDoor
set_option linter.unusedVariables false
set_option linter.unusedSimpArgs false
open Go.RowKit
theorem p_day {y m d : Int} (h : goodB y m d = true) : pY ⟨(dayL y m d).toArray⟩ = y ∧ pM ⟨(dayL y m d).toArray⟩ = m ∧ pD ⟨(dayL y m d).toArray⟩ = d ∧ pOk ⟨(dayL y m d).toArray⟩ = true := by
  obtain ⟨h1, h2, h3, h4⟩ := text_parse h
  obtain ⟨e1, e2, e3, e4⟩ := p_yes (s := ⟨(dayL y m d).toArray⟩) h1
  exact ⟨e1.trans h2, e2.trans h3, e3.trans h4, e4⟩
set_option maxHeartbeats 4000000 in
set_option maxRecDepth 100000 in
theorem dateBack_any (n : Int) (w : World) (hT : GT w) :
    Calls Tryd.prog 7 #[.int .i64 n] w fun e w' => e = .returned (.bool true) ∧ Below w.heap.size w w' := by
  obtain ⟨y, m, d, ok, hO⟩ := of_is n
  go_enter Tryd.func7, Tryd.ntmps7
  go_wp2_with fail
  refine (alive_any _ hT).mono ?_
  rintro e w1 ⟨rfl, hb1⟩
  go_wp2_with fail
  refine (hO.prog _).mono ?_
  rintro e w2 ⟨rfl, hb2⟩
  have hbb2 := bl_call hb1 hb2
  cases ok with
  | false =>
    rcases hO.no rfl with hn | hn
    · go_wp2_with fail
      go_ret
      exact ⟨by first | rfl | simp | (simp; omega), bl_alloc hbb2 _⟩
    · have hn0 : 0 ≤ n := by omega
      go_wp2_with fail
      go_ret
      exact ⟨by first | rfl | simp | (simp; omega), bl_alloc hbb2 _⟩
  | true =>
    obtain ⟨hg, hN⟩ := hO.yes rfl
    have q1 := date_same y m d
    have hz := (nN_yes hg).trans hN
    obtain ⟨p1, p2, p3, p4⟩ := p_day hg
    have kx := Blk.new w2 23 #[.int .i64 y, .int .i64 m, .int .i64 d]
    go_wp2_with fail
    refine (number_any _ _ _ _).mono ?_
    rintro e w3 ⟨rfl, hb3⟩
    rw [hz, hg]
    have hbb3 := bl_call (bl_alloc hbb2 _) hb3
    have kx3 := kx.call hb3
    obtain ⟨x0, x1, x2, _, _, _⟩ := kx3.c3
    go_wp2_with fail
    refine (text_yes _ _ _ _ (hT.below hbb3) hg).mono ?_
    rintro e w4 ⟨rfl, hb4⟩
    have hbb4 := bl_call hbb3 hb4
    have kx4 := kx3.call hb4
    go_wp2_with fail
    refine (dparse_any _ _).mono ?_
    rintro e w5 ⟨rfl, hb5⟩
    rw [p1, p2, p3, p4]
    have hbb5 := bl_call hbb4 hb5
    have kx5 := kx4.call hb5
    obtain ⟨z0, z1, z2, _, _, _⟩ := kx5.c3
    have l1 := kx5.lt
    go_wp2_with fail
    go_ret
    exact ⟨by simp, bl_alloc hbb5 _⟩
end Go.Proofs.YtaccanfjplgfnaaDoor
