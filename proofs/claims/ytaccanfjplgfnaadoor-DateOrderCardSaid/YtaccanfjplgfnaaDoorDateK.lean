import Derived.Test.YtaccanfjplgfnaaDoorDateJ
namespace Go.Proofs.YtaccanfjplgfnaaDoor
set_option linter.unusedVariables false
set_option linter.unusedSimpArgs false
open Go.RowKit
theorem good_leapday : goodB 2024 2 29 = true := by decide
theorem n_leapday : nN 2024 2 29 = 738944 := by decide
theorem good_111 : goodB 1 1 1 = true := by decide
theorem num_111 : numD 1 1 1 = 0 := by decide
theorem text_111 : textL 1 1 1 = [48, 48, 48, 49, 45, 48, 49, 45, 48, 49] := by decide
theorem leap_2000 : leapB 2000 = true := by decide
theorem days_1900 : daysI 1900 2 = 28 := by decide
theorem of_zero (w : World) : Calls Tryd.prog 20 #[.int .i64 0] w fun e w' => e = .returned (.tuple #[.agg #[.int .i64 1, .int .i64 1, .int .i64 1], .bool true]) ∧ Below w.heap.size w w' := by
  have h := of_yes 1 1 1 w good_111
  rwa [num_111] at h
set_option maxHeartbeats 2000000 in
set_option maxRecDepth 100000 in
theorem alive_any (w : World) (hT : GT w) :
    Calls Tryd.prog 9 #[] w fun e w' => e = .returned (.bool true) ∧ Below w.heap.size w w' := by
  go_enter Tryd.func9, Tryd.ntmps9
  go_wp2_with fail
  refine (number_any _ _ _ _).mono ?_
  rintro e w1 ⟨rfl, hb1⟩
  have hT1 := hT.below hb1
  rw [n_leapday, good_leapday]
  go_wp2_with fail
  refine (of_zero _).mono ?_
  rintro e w2 ⟨rfl, hb2⟩
  have hb := bl_call hb1 hb2
  have hT2 := hT.below hb
  go_wp2_with fail
  refine (text_any 1 1 1 _ (GT.below hT2 (bl_alloc (bl_refl w2) _))).mono ?_
  rintro e w3 ⟨rfl, hb3⟩
  have hb' := bl_call (bl_alloc hb _) hb3
  rw [text_111]
  go_wp2_with fail
  refine (leap_any _ _).mono ?_
  rintro e w' ⟨rfl, rfl⟩
  rw [leap_2000]
  go_wp2_with fail
  refine (days_any _ _ _).mono ?_
  rintro e w' ⟨rfl, rfl⟩
  rw [days_1900]
  go_wp2_with fail
  go_ret
  exact ⟨by rfl, hb'⟩
set_option maxHeartbeats 2000000 in
set_option maxRecDepth 100000 in
theorem dateIs_any (y m d : Int) (w : World) (hT : GT w) :
    Calls Tryd.prog 3 #[.agg #[.int .i64 y, .int .i64 m, .int .i64 d]] w fun e w' => e = .returned (.bool true) ∧ Below w.heap.size w w' := by
  go_enter Tryd.func3, Tryd.ntmps3
  have kb := Blk.new w 23 #[.int .i64 y, .int .i64 m, .int .i64 d]
  have hb0 := bl_alloc (bl_refl w) (.cells #[.int .i64 y, .int .i64 m, .int .i64 d] 23)
  go_wp2_with fail
  refine (alive_any _ (hT.below hb0)).mono ?_
  rintro e w1 ⟨rfl, hb1⟩
  have hb1' := bl_call hb0 hb1
  have kb1 := kb.call hb1
  obtain ⟨c0, c1, c2, _, _, _⟩ := kb1.c3
  go_wp2_with fail
  have hbw := LB.mk hb1'
  clear kb kb1 hb0 hb1 hb1'
  go_region_held3 (fun w' => w'.cell? ⟨w.heap.size, 0, none⟩ = some (.int .i64 y) ∧ w'.cell? ⟨w.heap.size, 1, none⟩ = some (.int .i64 m) ∧ w'.cell? ⟨w.heap.size, 2, none⟩ = some (.int .i64 d) ∧ LB w w')
    (first
      | (refine ⟨?_, ?_, ?_, ?_⟩ <;> (first | assumption | (go_keep; done) | exact LB.drew (by assumption) | (refine cell_keep ?_ hb6; assumption) | (refine LB.call ?_ hb6; assumption))))
    ((first | (go_at_call 10; go_split_ands; refine (leap_any _ _).mono ?_; rintro e w6 ⟨rfl, rfl⟩) | (go_at_call 11; go_split_ands; refine (rleap_any _ _).mono ?_; rintro e w6 ⟨rfl, rfl⟩) | (go_at_call 12; go_split_ands; refine (days_any _ _ _).mono ?_; rintro e w6 ⟨rfl, rfl⟩) | (go_at_call 13; go_split_ands; refine (rdays_any _ _ _).mono ?_; rintro e w6 ⟨rfl, hb6⟩) | (go_at_call 14; go_split_ands; refine (good_any _ _ _ _).mono ?_; rintro e w6 ⟨rfl, hb6⟩) | (go_at_call 15; go_split_ands; refine (rgood_any _ _ _ _).mono ?_; rintro e w6 ⟨rfl, hb6⟩) | (go_at_call 16; go_split_ands; refine (text_any _ _ _ _ (hT.below (LB.out (by assumption)))).mono ?_; rintro e w6 ⟨rfl, hb6⟩) | (go_at_call 17; go_split_ands; refine (rtext_any _ _ _ _).mono ?_; rintro e w6 ⟨rfl, hb6⟩)))
  all_goals
    go_split_ands
    rename_i hk0 hk1 hk2 hLB
    cases hg : goodB y m d with
    | false =>
      have hz := nN_no hg
      go_wp2_with fail
      refine (number_any _ _ _ _).mono ?_
      rintro e w2 ⟨rfl, hb2⟩
      rw [hz, hg]
      have x0 := cell_keep hk0 hb2
      have x1 := cell_keep hk1 hb2
      have x2 := cell_keep hk2 hb2
      have hLB2 := hLB.call hb2
      go_wp2_with fail
      refine (rgood_any _ _ _ _).mono ?_
      rintro e w3 ⟨rfl, hb3⟩
      rw [hg]
      go_wp2_with fail
      go_ret
      exact ⟨by rfl, (hLB2.call hb3).out⟩
    | true =>
      have hz := nN_yes hg
      go_wp2_with fail
      refine (number_any _ _ _ _).mono ?_
      rintro e w2 ⟨rfl, hb2⟩
      rw [hz, hg]
      have x0 := cell_keep hk0 hb2
      have x1 := cell_keep hk1 hb2
      have x2 := cell_keep hk2 hb2
      have hLB2 := hLB.call hb2
      go_wp2_with fail
      refine (rgood_any _ _ _ _).mono ?_
      rintro e w3 ⟨rfl, hb3⟩
      rw [hg]
      have x0 := cell_keep x0 hb3
      have x1 := cell_keep x1 hb3
      have x2 := cell_keep x2 hb3
      have hLB3 := hLB2.call hb3
      go_wp2_with fail
      refine (rnumber_any _ _ _ _ hg).mono ?_
      rintro e w4 ⟨rfl, hb4⟩
      go_wp2_with fail
      go_ret
      exact ⟨by simp, (hLB3.call hb4).out⟩
end Go.Proofs.YtaccanfjplgfnaaDoor
