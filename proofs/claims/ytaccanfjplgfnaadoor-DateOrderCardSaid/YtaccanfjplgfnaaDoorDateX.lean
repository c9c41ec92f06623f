import Derived.Test.YtaccanfjplgfnaaDoorDateV
namespace Go.Proofs.YtaccanfjplgfnaaDoor
set_option linter.unusedVariables false
set_option linter.unusedSimpArgs false
open Go.RowKit
section
variable {P : Program} {md : Region.Mode} {ops : Array Oper} {Q : Exit → Act → World → Prop} {S : World → Prop}
theorem take_want {i d : Nat} {oi : Oper} {v : Value} {fuel : Nat} {listed : Array Bool} {a : Act} {w : World} (hi : ops[i]? = some oi) (hd : oi.dst = some d)
    (hs : Region.noSelect ops = true) (hf : Region.free md ops listed i = true) (hr : (Region.ready md ops listed).contains i = true)
    (hQ : ∀ c a w, Q (.panic c) (a.put oi.dst v) w → Q (.panic c) a w) (hw : Region.wanted oi (yielded ops a.tmps) = true) (hy : ∀ w, S w → (execOp a.eval oi).run P w = .ok (.value v) w) (hS : S w)
    (h : wpAnyH P md ops Q S fuel (listed.setIfInBounds i true) { a with tmps := a.tmps.setIfInBounds d v } w) : wpAnyH P md ops Q S (fuel + 1) listed a w :=
  wpAnyH_take hi hs hf hr hQ (.inl ⟨hw, hy⟩) hS (by rw [hd]; exact h)
theorem take_skip {i d : Nat} {oi : Oper} {fuel : Nat} {listed : Array Bool} {a : Act} {w : World} (hi : ops[i]? = some oi) (hd : oi.dst = some d)
    (hs : Region.noSelect ops = true) (hf : Region.free md ops listed i = true) (hr : (Region.ready md ops listed).contains i = true)
    (hQ : ∀ c a w, Q (.panic c) (a.put oi.dst undef) w → Q (.panic c) a w) (hw : Region.wanted oi (yielded ops a.tmps) = false) (hS : S w)
    (h : wpAnyH P md ops Q S fuel (listed.setIfInBounds i true) { a with tmps := a.tmps.setIfInBounds d undef } w) : wpAnyH P md ops Q S (fuel + 1) listed a w :=
  wpAnyH_take hi hs hf hr hQ (.inr ⟨hw, rfl⟩) hS (by rw [hd]; exact h)
end
theorem gtr_str (t : TypeId) (L1 L2 : List UInt8) (w : World) : (binOp .gtr t (.string ⟨L1.toArray⟩) (.string ⟨L2.toArray⟩)).run Tryd.prog w = .ok (.bool (!Op.bytesLess L1 L2 && !L1 == L2)) w := by
  simp [binOp, Op.stringOp]
theorem text_gt {y m d y' m' d' : Int} (h : goodB y m d = true) (h' : goodB y' m' d' = true) : (!Op.bytesLess (dayL y m d) (dayL y' m' d') && !dayL y m d == dayL y' m' d') = decide (laterP y m d y' m' d') := by
  have t1 := text_later h h'
  have t2 := text_later h' h
  rw [t2]
  rcases (by unfold laterP; omega : (laterP y m d y' m' d' ∧ ¬ laterP y' m' d' y m d) ∨ laterP y' m' d' y m d ∧ ¬ laterP y m d y' m' d' ∨ (¬ laterP y m d y' m' d' ∧ ¬ laterP y' m' d' y m d ∧ y = y' ∧ m = m' ∧ d = d')) with ⟨h1, h2⟩ | ⟨h1, h2⟩ | ⟨h1, h2, rfl, rfl, rfl⟩
  · have hne : (dayL y m d == dayL y' m' d') = false := by
      rw [beq_eq_false_iff_ne]
      intro he
      rw [he] at t1 t2
      rw [t1] at t2
      simp [h1, h2] at t2
    simp [h1, h2, hne]
  · simp [h1, h2]
  · simp [h1]
theorem size_alloc (w : World) (o : Obj) : (w.alloc o).heap.size = w.heap.size + 1 := Array.size_push _
theorem Blk.new2 (w : World) (o : Obj) (t : TypeId) (cs : Array Value) : Blk ((w.alloc o).alloc (.cells cs t)) (w.heap.size + 1) t cs := by
  have h := Blk.new (w.alloc o) t cs
  rwa [size_alloc] at h
set_option maxHeartbeats 4000000 in
set_option maxRecDepth 100000 in
theorem order_bad (y m d y' m' d' : Int) (w : World) (hT : GT w) (hb : goodB y m d = false ∨ (goodB y m d = true ∧ goodB y' m' d' = false)) :
    Calls Tryd.prog 4 #[.agg #[.int .i64 y, .int .i64 m, .int .i64 d], .agg #[.int .i64 y', .int .i64 m', .int .i64 d']] w fun e w' => e = .returned (.bool true) ∧ Below w.heap.size w w' := by
  rcases hb with g1 | ⟨g1, g2⟩
  all_goals
    go_enter Tryd.func4, Tryd.ntmps4
    have ka := Blk.new w 23 #[.int .i64 y, .int .i64 m, .int .i64 d]
    have kb := Blk.new2 w (.cells #[.int .i64 y, .int .i64 m, .int .i64 d] 23) 23 #[.int .i64 y', .int .i64 m', .int .i64 d']
    have hbb0 := bl_alloc (bl_alloc (bl_refl w) (.cells #[.int .i64 y, .int .i64 m, .int .i64 d] 23)) (.cells #[.int .i64 y', .int .i64 m', .int .i64 d'] 23)
    go_wp2_with fail
    refine (alive_any _ (hT.below hbb0)).mono ?_
    rintro e w1 ⟨rfl, hb1⟩
    have hbb1 := bl_call hbb0 hb1
    have ka1 := (ka.alloc (.cells #[.int .i64 y', .int .i64 m', .int .i64 d'] 23)).call hb1
    have kb1 := kb.call hb1
    obtain ⟨x0, x1, x2, _, _, _⟩ := ka1.c3
    go_wp2_with fail
    refine (rgood_any _ _ _ _).mono ?_
    rintro e w2 ⟨rfl, hb2⟩
    rw [g1]
    have hbb2 := bl_call hbb1 hb2
  · go_wp2_with fail
    go_ret
    exact ⟨rfl, hbb2⟩
  · have kb2 := kb1.call hb2
    obtain ⟨y0, y1, y2, _, _, _⟩ := kb2.c3
    go_wp2_with fail
    refine (rgood_any _ _ _ _).mono ?_
    rintro e w3 ⟨rfl, hb3⟩
    rw [g2]
    go_wp2_with fail
    go_ret
    exact ⟨rfl, bl_call hbb2 hb3⟩
set_option maxHeartbeats 20000000 in
set_option maxRecDepth 100000 in
theorem order_good (y m d y' m' d' : Int) (w : World) (hT : GT w) (g1 : goodB y m d = true) (g2 : goodB y' m' d' = true) :
    Calls Tryd.prog 4 #[.agg #[.int .i64 y, .int .i64 m, .int .i64 d], .agg #[.int .i64 y', .int .i64 m', .int .i64 d']] w fun e w' => e = .returned (.bool true) ∧ Below w.heap.size w w' := by
  have q1 := num_later g1 g2
  have q2 := num_same g1 g2
  have q3 := text_gt g1 g2
  have z1 := nN_yes g1
  have z2 := nN_yes g2
  have q4 := date_eql y m d y' m' d'
  have q5 := date_eql y m d 9999 12 31
  have r1 := num_bd g1
  obtain ⟨ny, nm, nd, ok, hO⟩ := of_is (numD y m d + 1)
  have nx := fun (h : ok = true) => num_next g1 (hO.yes h).1 (hO.yes h).2
  have nl : ok = false → y = 9999 ∧ m = 12 ∧ d = 31 := fun h => by
    have := hO.no h
    exact (num_same g1 good_last).mp (by rw [num_last]; omega)
  obtain ⟨_, _, dy1, _, _, _, dy2⟩ := good_of g1
  obtain ⟨r1, r2⟩ := r1
  have nx' : ok = false ∨ (ok = true ∧ nd = d + 1 ∧ nm = m ∧ ny = y) ∨ (ok = true ∧ nd = 1 ∧ d = daysI y m) := by
    cases ok with
    | false => exact .inl rfl
    | true => rcases nx rfl with h | h
              · exact .inr (.inl ⟨rfl, h⟩)
              · exact .inr (.inr ⟨rfl, h⟩)
  clear nx
  have hcase : (laterP y m d y' m' d' ∧ y' < y) ∨ (laterP y m d y' m' d' ∧ y = y' ∧ m' < m) ∨ (laterP y m d y' m' d' ∧ y = y' ∧ m = m' ∧ d' < d) ∨ (¬ laterP y m d y' m' d' ∧ y < y') ∨ (¬ laterP y m d y' m' d' ∧ y = y' ∧ m < m') ∨ (¬ laterP y m d y' m' d' ∧ y = y' ∧ m = m' ∧ d ≤ d') := by
    unfold laterP; omega
  have hnum : ∃ N1 N2 : Int, ∃ L1 L2 : List UInt8, ∃ lt : Bool, ∃ sm : Bool, nN y m d = N1 ∧ nN y' m' d' = N2 ∧ dayL y m d = L1 ∧ dayL y' m' d' = L2 ∧ (!Op.bytesLess L1 L2 && !L1 == L2) = lt ∧ (decide (N2 < N1) = lt) ∧ (N1 == N2) = sm ∧ (y == y' && (m == m' && (d == d' && true))) = sm ∧ 0 ≤ N1 ∧ N1 < 3652059 ∧ IntKind.i64.wrap (N1 + 1) = numD y m d + 1 ∧ decide (laterP y m d y' m' d') = lt := by
    refine ⟨numD y m d, numD y' m' d', _, _, _, numD y m d == numD y' m' d', z1, z2, rfl, rfl, q3, ?_, rfl, ?_, r1, r2, ?_, rfl⟩
    · simp only [q1]
    · rw [Bool.eq_iff_iff, beq_iff_eq]; simp [q2]
    · rw [IntKind.wrap_i64]; omega
  obtain ⟨N1, N2, L1, L2, lt, sm, e1, e2, e3, e4, e5, e6, e7, e8, e9, e10, e11, e12⟩ := hnum
  have hcase' : (lt = true ∧ y' < y) ∨ (lt = true ∧ decide (y' < y) = false ∧ (y == y') = true ∧ m' < m) ∨ (lt = true ∧ decide (y' < y) = false ∧ (y == y') = true ∧ decide (m' < m) = false ∧ (m == m') = true ∧ d' < d) ∨ (lt = false ∧ decide (y' < y) = false ∧ (y == y') = false) ∨ (lt = false ∧ decide (y' < y) = false ∧ (y == y') = true ∧ decide (m' < m) = false ∧ (m == m') = false) ∨ (lt = false ∧ decide (y' < y) = false ∧ (y == y') = true ∧ decide (m' < m) = false ∧ (m == m') = true ∧ decide (d' < d) = false) := by
    rw [← e12]
    simp only [decide_eq_true_eq, decide_eq_false_iff_not, beq_iff_eq, beq_eq_false_iff_ne]
    rcases hcase with ⟨h, c⟩ | ⟨h, c⟩ | ⟨h, c⟩ | ⟨h, c⟩ | ⟨h, c⟩ | ⟨h, c⟩
    · exact .inl ⟨h, c⟩
    · exact .inr (.inl ⟨h, by omega, c.1, c.2⟩)
    · exact .inr (.inr (.inl ⟨h, by omega, c.1, by omega, c.2.1, c.2.2⟩))
    · exact .inr (.inr (.inr (.inl ⟨h, by omega, by omega⟩)))
    · exact .inr (.inr (.inr (.inr (.inl ⟨h, by omega, c.1, by omega, by omega⟩))))
    · exact .inr (.inr (.inr (.inr (.inr ⟨h, by omega, c.1, by omega, c.2.1, by omega⟩))))
  clear hcase e12 q1 q2 q3 z1 z2
  rw [e8] at q4
  clear e8
  have hsm : (lt = true ∧ sm = false) ∨ (lt = false ∧ sm = true) ∨ (lt = false ∧ sm = false) := by
    cases lt with
    | true => left; refine ⟨rfl, ?_⟩; rw [← e7]; have := of_decide_eq_true e6; exact beq_eq_false_iff_ne.mpr (by omega)
    | false => cases sm with
               | true => exact .inr (.inl ⟨rfl, rfl⟩)
               | false => exact .inr (.inr ⟨rfl, rfl⟩)
  rcases hsm with ⟨rfl, rfl⟩ | ⟨rfl, rfl⟩ | ⟨rfl, rfl⟩
  all_goals rcases hcase' with ⟨hlt, c1⟩ | ⟨hlt, c1, c2, c3⟩ | ⟨hlt, c1, c2, c3, c4, c5⟩ | ⟨hlt, c1, c2⟩ | ⟨hlt, c1, c2, c3, c4⟩ | ⟨hlt, c1, c2, c3, c4, c5⟩
  all_goals (first | exact absurd hlt (by decide) | clear hlt)
  all_goals
    go_enter Tryd.func4, Tryd.ntmps4
    have ka := Blk.new w 23 #[.int .i64 y, .int .i64 m, .int .i64 d]
    have kb := Blk.new2 w (.cells #[.int .i64 y, .int .i64 m, .int .i64 d] 23) 23 #[.int .i64 y', .int .i64 m', .int .i64 d']
    have hbb0 := bl_alloc (bl_alloc (bl_refl w) (.cells #[.int .i64 y, .int .i64 m, .int .i64 d] 23)) (.cells #[.int .i64 y', .int .i64 m', .int .i64 d'] 23)
    go_wp2_with fail
    refine (alive_any _ (hT.below hbb0)).mono ?_
    rintro e w1 ⟨rfl, hb1⟩
    have hbb1 := bl_call hbb0 hb1
    have ka1 := (ka.alloc (.cells #[.int .i64 y', .int .i64 m', .int .i64 d'] 23)).call hb1
    have kb1 := kb.call hb1
    obtain ⟨x0, x1, x2, _, _, _⟩ := ka1.c3
    go_wp2_with fail
    refine (rgood_any _ _ _ _).mono ?_
    rintro e w2 ⟨rfl, hb2⟩
    rw [g1]
    have hbb2 := bl_call hbb1 hb2
    have ka2 := ka1.call hb2
    have kb2 := kb1.call hb2
    obtain ⟨y0, y1, y2, _, _, _⟩ := kb2.c3
    go_wp2_with fail
    refine (rgood_any _ _ _ _).mono ?_
    rintro e w3 ⟨rfl, hb3⟩
    rw [g2]
    have hbb3 := bl_call hbb2 hb3
    have ka3 := ka2.call hb3
    have kb3 := kb2.call hb3
    clear x0 x1 x2 y0 y1 y2
    obtain ⟨x0, x1, x2, _, _, _⟩ := ka3.c3
    obtain ⟨y0, y1, y2, _, _, _⟩ := kb3.c3
    go_wp2_with fail
    refine (number_any _ _ _ _).mono ?_
    rintro e w4 ⟨rfl, hb4⟩
    rw [e1, g1]
    have hbb4 := bl_call hbb3 hb4
    have kb4 := kb3.call hb4
    have ka4 := ka3.call hb4
    clear y0 y1 y2
    obtain ⟨y0, y1, y2, _, _, _⟩ := kb4.c3
    go_wp2_with fail
    refine (number_any _ _ _ _).mono ?_
    rintro e w5 ⟨rfl, hb5⟩
    rw [e2, g2]
    have hbb5 := bl_call hbb4 hb5
    have kb5 := kb4.call hb5
    have ka5 := ka4.call hb5
    clear x0 x1 x2
    obtain ⟨x0, x1, x2, _, _, _⟩ := ka5.c3
    clear y0 y1 y2
    obtain ⟨y0, y1, y2, _, _, _⟩ := kb5.c3
    have t1 : textL y m d = L1 := by simp [textL, g1, e3]
    have t2 : textL y' m' d' = L2 := by simp [textL, g2, e4]
    have q6 : ∀ w, (binOp .gtr 9 (.string ⟨L1.toArray⟩) (.string ⟨L2.toArray⟩)).run Tryd.prog w = .ok (.bool (!Op.bytesLess L1 L2 && !L1 == L2)) w := gtr_str _ L1 L2
    rw [e5] at q6
    have hbw := LB.mk hbb5
    clear ka ka1 ka2 ka3 ka4 ka5 kb kb1 kb2 kb3 kb4 kb5 hbb0 hbb1 hbb2 hbb3 hbb4 hbb5 hb1 hb2 hb3 hb4 hb5
    go_wp2_with fail
    go_region_held3 (fun w' => w'.cell? ⟨w.heap.size, 0, none⟩ = some (.int .i64 y) ∧ w'.cell? ⟨w.heap.size, 1, none⟩ = some (.int .i64 m) ∧ w'.cell? ⟨w.heap.size, 2, none⟩ = some (.int .i64 d) ∧ w'.cell? ⟨w.heap.size + 1, 0, none⟩ = some (.int .i64 y') ∧ w'.cell? ⟨w.heap.size + 1, 1, none⟩ = some (.int .i64 m') ∧ w'.cell? ⟨w.heap.size + 1, 2, none⟩ = some (.int .i64 d') ∧ LB w w')
      (first
        | (refine ⟨?_, ?_, ?_, ?_, ?_, ?_, ?_⟩ <;> (first | assumption | (go_keep; done) | exact LB.drew (by assumption) | (refine cell_keep ?_ hb6; assumption) | (refine LB.call ?_ hb6; assumption))))
      ((go_at_call 16; go_split_ands; refine (text_any _ _ _ _ (hT.below (LB.out (by assumption)))).mono ?_; rintro e w6 ⟨rfl, hb6⟩; (first | rw [t1] | rw [t2])))
    all_goals
      go_split_ands
      rename_i hk0 hk1 hk2 hk3 hk4 hk5 hLB
      go_wp2_with fail
      refine (hO.prog _).mono ?_
      rintro e w8 ⟨rfl, hb8⟩
      have z0 := cell_keep hk0 hb8
      have z1 := cell_keep hk1 hb8
      have z2 := cell_keep hk2 hb8
      have hLB8 := hLB.call hb8
      have l1 : w.heap.size < w8.heap.size := World.block_lt_of_cell? _ _ z0
      have hLB9 := hLB8.alloc (.cells #[.int .i64 ny, .int .i64 nm, .int .i64 nd] 23)
      rcases nx' with h | ⟨h, h1, h2, h3⟩ | ⟨h, h1, h2⟩
      · have hq : (y == 9999 && (m == 12 && (d == 31 && true))) = true := by
          obtain ⟨a, b, c⟩ := nl h
          simp [a, b, c]
        rw [hq] at q5
        clear nl
        rw [h]
        go_wp2_with fail
        go_ret
        exact ⟨rfl, hLB9.out⟩
      · have hd1 : IntKind.i64.wrap (d + 1) = d + 1 := by rw [IntKind.wrap_i64]; omega
        have hd2 : (nd == d + 1) = true := beq_iff_eq.mpr h1
        have hd3 : (nm == m) = true := beq_iff_eq.mpr h2
        have hd4 : (ny == y) = true := beq_iff_eq.mpr h3
        rw [h]
        clear nl h1 h2 h3
        have kx := (Blk.new w8 23 #[.int .i64 ny, .int .i64 nm, .int .i64 nd]).c3
        obtain ⟨n0, n1, n2, _, _, _⟩ := kx
        have u0 := cell_keep z0 (Below.refl _ _ |>.alloc (Nat.le_refl _) (.cells #[.int .i64 ny, .int .i64 nm, .int .i64 nd] 23))
        have u1 := cell_keep z1 (Below.refl _ _ |>.alloc (Nat.le_refl _) (.cells #[.int .i64 ny, .int .i64 nm, .int .i64 nd] 23))
        have u2 := cell_keep z2 (Below.refl _ _ |>.alloc (Nat.le_refl _) (.cells #[.int .i64 ny, .int .i64 nm, .int .i64 nd] 23))
        have hLB9 := hLB8.alloc (.cells #[.int .i64 ny, .int .i64 nm, .int .i64 nd] 23)
        go_wp2_with fail
        clear z0 z1 z2 hk0 hk1 hk2 hk3 hk4 hk5 x0 x1 x2 y0 y1 y2
        go_quiet (fail)
        go_wp2_with fail
        go_ret
        exact ⟨by rfl, bl_drewN hLB9.out _⟩
      · have hd1 : IntKind.i64.wrap (d + 1) = d + 1 := by rw [IntKind.wrap_i64]; omega
        have hd2 : (nd == d + 1) = false := beq_eq_false_iff_ne.mpr (by omega)
        have hd4 : (nd == 1) = true := beq_iff_eq.mpr h1
        have hd3 : (d == daysI y m) = true := beq_iff_eq.mpr h2
        rw [h]
        clear nl h1 h2
        have kx := (Blk.new w8 23 #[.int .i64 ny, .int .i64 nm, .int .i64 nd]).c3
        obtain ⟨n0, n1, n2, _, _, _⟩ := kx
        have u0 := cell_keep z0 (Below.refl _ _ |>.alloc (Nat.le_refl _) (.cells #[.int .i64 ny, .int .i64 nm, .int .i64 nd] 23))
        have u1 := cell_keep z1 (Below.refl _ _ |>.alloc (Nat.le_refl _) (.cells #[.int .i64 ny, .int .i64 nm, .int .i64 nd] 23))
        have u2 := cell_keep z2 (Below.refl _ _ |>.alloc (Nat.le_refl _) (.cells #[.int .i64 ny, .int .i64 nm, .int .i64 nd] 23))
        have hLB9 := hLB8.alloc (.cells #[.int .i64 ny, .int .i64 nm, .int .i64 nd] 23)
        go_wp2_with fail
        clear z0 z1 z2 hk0 hk1 hk2 hk3 hk4 hk5 x0 x1 x2 y0 y1 y2
        refine wp_region_held_drew (S := (fun w' => w'.cell? ⟨w.heap.size, 0, none⟩ = some (.int .i64 y) ∧ w'.cell? ⟨w.heap.size, 1, none⟩ = some (.int .i64 m) ∧ w'.cell? ⟨w.heap.size, 2, none⟩ = some (.int .i64 d) ∧ w'.cell? ⟨w8.heap.size, 0, none⟩ = some (.int .i64 ny) ∧ w'.cell? ⟨w8.heap.size, 1, none⟩ = some (.int .i64 nm) ∧ w'.cell? ⟨w8.heap.size, 2, none⟩ = some (.int .i64 nd) ∧ LB w w')) (by kernel_rfl) ?_ (fun hHeld => ?_)
        · refine ⟨?_, ?_, ?_, ?_, ?_, ?_, ?_⟩ <;> (first | assumption | (go_keep; done) | exact LB.drew (by assumption))
        refine take_want (i := 0) (d := 99) (v := ?_) rfl rfl (by kernel_rfl) (by kernel_rfl) (by kernel_rfl) (fun _ _ _ h => h) (by rfl) ?_ hHeld ?_
        rotate_left
        · intro w hSw; (try dsimp only at hSw); go_simp; try with_reducible rfl
        simp only [List.setIfInBounds_toArray, List.set_cons_zero, List.set_cons_succ]
        refine take_want (i := 1) (d := 100) (v := ?_) rfl rfl (by kernel_rfl) (by kernel_rfl) (by kernel_rfl) (fun _ _ _ h => h) (by rfl) ?_ hHeld ?_
        rotate_left
        · intro w hSw; (try dsimp only at hSw); go_simp; try with_reducible rfl
        simp only [List.setIfInBounds_toArray, List.set_cons_zero, List.set_cons_succ]
        refine take_want (i := 2) (d := 101) (v := ?_) rfl rfl (by kernel_rfl) (by kernel_rfl) (by kernel_rfl) (fun _ _ _ h => h) (by rfl) ?_ hHeld ?_
        rotate_left
        · intro w hSw; (try dsimp only at hSw); go_simp; try with_reducible rfl
        simp only [List.setIfInBounds_toArray, List.set_cons_zero, List.set_cons_succ]
        refine take_want (i := 3) (d := 102) (v := ?_) rfl rfl (by kernel_rfl) (by kernel_rfl) (by kernel_rfl) (fun _ _ _ h => h) (by rfl) ?_ hHeld ?_
        rotate_left
        · intro w hSw; (try dsimp only at hSw); go_simp; try with_reducible rfl
        simp only [List.setIfInBounds_toArray, List.set_cons_zero, List.set_cons_succ]
        refine take_want (i := 4) (d := 103) (v := ?_) rfl rfl (by kernel_rfl) (by kernel_rfl) (by kernel_rfl) (fun _ _ _ h => h) (by rfl) ?_ hHeld ?_
        rotate_left
        · intro w hSw; (try dsimp only at hSw); go_simp; try with_reducible rfl
        simp only [List.setIfInBounds_toArray, List.set_cons_zero, List.set_cons_succ]
        refine take_want (i := 5) (d := 104) (v := ?_) rfl rfl (by kernel_rfl) (by kernel_rfl) (by kernel_rfl) (fun _ _ _ h => h) (by rfl) ?_ hHeld ?_
        rotate_left
        · intro w hSw; (try dsimp only at hSw); go_simp; try with_reducible rfl
        simp only [List.setIfInBounds_toArray, List.set_cons_zero, List.set_cons_succ]
        refine take_want (i := 6) (d := 105) (v := ?_) rfl rfl (by kernel_rfl) (by kernel_rfl) (by kernel_rfl) (fun _ _ _ h => h) (by rfl) ?_ hHeld ?_
        rotate_left
        · intro w hSw; (try dsimp only at hSw); go_simp; try with_reducible rfl
        simp only [List.setIfInBounds_toArray, List.set_cons_zero, List.set_cons_succ]
        refine take_skip (i := 7) (d := 106) rfl rfl (by kernel_rfl) (by kernel_rfl) (by kernel_rfl) (fun _ _ _ h => h) (by rfl) hHeld ?_
        simp only [List.setIfInBounds_toArray, List.set_cons_zero, List.set_cons_succ]
        refine take_skip (i := 8) (d := 107) rfl rfl (by kernel_rfl) (by kernel_rfl) (by kernel_rfl) (fun _ _ _ h => h) (by rfl) hHeld ?_
        simp only [List.setIfInBounds_toArray, List.set_cons_zero, List.set_cons_succ]
        refine take_skip (i := 9) (d := 108) rfl rfl (by kernel_rfl) (by kernel_rfl) (by kernel_rfl) (fun _ _ _ h => h) (by rfl) hHeld ?_
        simp only [List.setIfInBounds_toArray, List.set_cons_zero, List.set_cons_succ]
        refine take_skip (i := 10) (d := 109) rfl rfl (by kernel_rfl) (by kernel_rfl) (by kernel_rfl) (fun _ _ _ h => h) (by rfl) hHeld ?_
        simp only [List.setIfInBounds_toArray, List.set_cons_zero, List.set_cons_succ]
        refine take_skip (i := 11) (d := 110) rfl rfl (by kernel_rfl) (by kernel_rfl) (by kernel_rfl) (fun _ _ _ h => h) (by rfl) hHeld ?_
        simp only [List.setIfInBounds_toArray, List.set_cons_zero, List.set_cons_succ]
        refine take_want (i := 12) (d := 111) (v := ?_) rfl rfl (by kernel_rfl) (by kernel_rfl) (by kernel_rfl) (fun _ _ _ h => h) (by rfl) ?_ hHeld ?_
        rotate_left
        · intro w hSw; (try dsimp only at hSw); go_simp; try with_reducible rfl
        simp only [List.setIfInBounds_toArray, List.set_cons_zero, List.set_cons_succ]
        refine take_want (i := 13) (d := 112) (v := ?_) rfl rfl (by kernel_rfl) (by kernel_rfl) (by kernel_rfl) (fun _ _ _ h => h) (by rfl) ?_ hHeld ?_
        rotate_left
        · intro w hSw; (try dsimp only at hSw); go_simp; try with_reducible rfl
        simp only [List.setIfInBounds_toArray, List.set_cons_zero, List.set_cons_succ]
        refine take_skip (i := 14) (d := 113) rfl rfl (by kernel_rfl) (by kernel_rfl) (by kernel_rfl) (fun _ _ _ h => h) (by rfl) hHeld ?_
        simp only [List.setIfInBounds_toArray, List.set_cons_zero, List.set_cons_succ]
        refine take_skip (i := 15) (d := 114) rfl rfl (by kernel_rfl) (by kernel_rfl) (by kernel_rfl) (fun _ _ _ h => h) (by rfl) hHeld ?_
        simp only [List.setIfInBounds_toArray, List.set_cons_zero, List.set_cons_succ]
        refine take_skip (i := 16) (d := 115) rfl rfl (by kernel_rfl) (by kernel_rfl) (by kernel_rfl) (fun _ _ _ h => h) (by rfl) hHeld ?_
        simp only [List.setIfInBounds_toArray, List.set_cons_zero, List.set_cons_succ]
        refine take_skip (i := 17) (d := 116) rfl rfl (by kernel_rfl) (by kernel_rfl) (by kernel_rfl) (fun _ _ _ h => h) (by rfl) hHeld ?_
        simp only [List.setIfInBounds_toArray, List.set_cons_zero, List.set_cons_succ]
        refine take_skip (i := 18) (d := 117) rfl rfl (by kernel_rfl) (by kernel_rfl) (by kernel_rfl) (fun _ _ _ h => h) (by rfl) hHeld ?_
        simp only [List.setIfInBounds_toArray, List.set_cons_zero, List.set_cons_succ]
        refine take_want (i := 19) (d := 118) (v := ?_) rfl rfl (by kernel_rfl) (by kernel_rfl) (by kernel_rfl) (fun _ _ _ h => h) (by rfl) ?_ hHeld ?_
        rotate_left
        · intro w hSw; (try dsimp only at hSw); go_simp; try with_reducible rfl
        simp only [List.setIfInBounds_toArray, List.set_cons_zero, List.set_cons_succ]
        refine take_want (i := 20) (d := 119) (v := ?_) rfl rfl (by kernel_rfl) (by kernel_rfl) (by kernel_rfl) (fun _ _ _ h => h) (by rfl) ?_ hHeld ?_
        rotate_left
        · intro w hSw; (try dsimp only at hSw); go_simp; try with_reducible rfl
        simp only [List.setIfInBounds_toArray, List.set_cons_zero, List.set_cons_succ]
        refine take_want (i := 21) (d := 120) (v := ?_) rfl rfl (by kernel_rfl) (by kernel_rfl) (by kernel_rfl) (fun _ _ _ h => h) (by rfl) ?_ hHeld ?_
        rotate_left
        · intro w hSw; (try dsimp only at hSw); go_simp; try with_reducible rfl
        simp only [List.setIfInBounds_toArray, List.set_cons_zero, List.set_cons_succ]
        refine take_want (i := 22) (d := 121) (v := ?_) rfl rfl (by kernel_rfl) (by kernel_rfl) (by kernel_rfl) (fun _ _ _ h => h) (by rfl) ?_ hHeld ?_
        rotate_left
        · intro w hSw; (try dsimp only at hSw); go_simp; try with_reducible rfl
        simp only [List.setIfInBounds_toArray, List.set_cons_zero, List.set_cons_succ]
        refine take_want (i := 23) (d := 122) (v := ?_) rfl rfl (by kernel_rfl) (by kernel_rfl) (by kernel_rfl) (fun _ _ _ h => h) (by rfl) ?_ hHeld ?_
        rotate_left
        · intro w hSw; (try dsimp only at hSw); go_simp; try with_reducible rfl
        simp only [List.setIfInBounds_toArray, List.set_cons_zero, List.set_cons_succ]
        refine take_want (i := 24) (d := 123) (v := ?_) rfl rfl (by kernel_rfl) (by kernel_rfl) (by kernel_rfl) (fun _ _ _ h => h) (by rfl) ?_ hHeld ?_
        rotate_left
        · intro w hSw; (try dsimp only at hSw); go_simp; try with_reducible rfl
        simp only [List.setIfInBounds_toArray, List.set_cons_zero, List.set_cons_succ]
        refine take_want (i := 25) (d := 124) (v := ?_) rfl rfl (by kernel_rfl) (by kernel_rfl) (by kernel_rfl) (fun _ _ _ h => h) (by rfl) ?_ hHeld ?_
        rotate_left
        · intro w hSw; (try dsimp only at hSw); go_simp; try with_reducible rfl
        simp only [List.setIfInBounds_toArray, List.set_cons_zero, List.set_cons_succ]
        refine take_want (i := 26) (d := 125) (v := ?_) rfl rfl (by kernel_rfl) (by kernel_rfl) (by kernel_rfl) (fun _ _ _ h => h) (by rfl) ?_ hHeld ?_
        rotate_left
        · intro w hSw; (try dsimp only at hSw); go_simp; try with_reducible rfl
        simp only [List.setIfInBounds_toArray, List.set_cons_zero, List.set_cons_succ]
        refine take_want (i := 27) (d := 126) (v := ?_) rfl rfl (by kernel_rfl) (by kernel_rfl) (by kernel_rfl) (fun _ _ _ h => h) (by rfl) ?_ hHeld ?_
        rotate_left
        · intro w hSw; (try dsimp only at hSw); go_simp; try with_reducible rfl
        simp only [List.setIfInBounds_toArray, List.set_cons_zero, List.set_cons_succ]
        refine take_want (i := 28) (d := 127) (v := ?_) rfl rfl (by kernel_rfl) (by kernel_rfl) (by kernel_rfl) (fun _ _ _ h => h) (by rfl) ?_ hHeld ?_
        rotate_left
        · intro w hSw; (try dsimp only at hSw); go_simp; try with_reducible rfl
        simp only [List.setIfInBounds_toArray, List.set_cons_zero, List.set_cons_succ]
        refine take_want (i := 29) (d := 128) (v := ?_) rfl rfl (by kernel_rfl) (by kernel_rfl) (by kernel_rfl) (fun _ _ _ h => h) (by rfl) ?_ hHeld ?_
        rotate_left
        · intro w hSw; (try dsimp only at hSw); go_simp; try with_reducible rfl
        simp only [List.setIfInBounds_toArray, List.set_cons_zero, List.set_cons_succ]
        refine take_want (i := 30) (d := 129) (v := ?_) rfl rfl (by kernel_rfl) (by kernel_rfl) (by kernel_rfl) (fun _ _ _ h => h) (by rfl) ?_ hHeld ?_
        rotate_left
        · intro w hSw; (try dsimp only at hSw); go_simp; try with_reducible rfl
        simp only [List.setIfInBounds_toArray, List.set_cons_zero, List.set_cons_succ]
        refine wpAnyH_ready (rs := [31]) (by kernel_rfl) (by simp) ?_
        refine AllReadyH.cons rfl (fun K hK => ?_) AllReadyH.nil
        go_simp
        go_at_call 13
        refine (rdays_any _ _ _).mono ?_
        rintro e w6 ⟨rfl, hb6⟩
        go_wp2_with fail
        refine hK.out _ _ ?_ (fun hHeld => ?_)
        · (try dsimp only at hHeld); go_split_ands; refine ⟨?_, ?_, ?_, ?_, ?_, ?_, ?_⟩ <;> (first | (refine cell_keep ?_ hb6; assumption) | (refine LB.call ?_ hb6; assumption))
        clear hK K
        refine take_want (i := 32) (d := 131) (v := ?_) rfl rfl (by kernel_rfl) (by kernel_rfl) (by kernel_rfl) (fun _ _ _ h => h) (by rfl) ?_ hHeld ?_
        rotate_left
        · intro w hSw; (try dsimp only at hSw); go_simp; try with_reducible rfl
        simp only [List.setIfInBounds_toArray, List.set_cons_zero, List.set_cons_succ]
        refine take_want (i := 33) (d := 132) (v := ?_) rfl rfl (by kernel_rfl) (by kernel_rfl) (by kernel_rfl) (fun _ _ _ h => h) (by rfl) ?_ hHeld ?_
        rotate_left
        · intro w hSw; (try dsimp only at hSw); go_simp; try with_reducible rfl
        simp only [List.setIfInBounds_toArray, List.set_cons_zero, List.set_cons_succ]
        refine take_want (i := 34) (d := 133) (v := ?_) rfl rfl (by kernel_rfl) (by kernel_rfl) (by kernel_rfl) (fun _ _ _ h => h) (by rfl) ?_ hHeld ?_
        rotate_left
        · intro w hSw; (try dsimp only at hSw); go_simp; try with_reducible rfl
        simp only [List.setIfInBounds_toArray, List.set_cons_zero, List.set_cons_succ]
        refine take_want (i := 35) (d := 4) (v := ?_) rfl rfl (by kernel_rfl) (by kernel_rfl) (by kernel_rfl) (fun _ _ _ h => h) (by rfl) ?_ hHeld ?_
        rotate_left
        · intro w hSw; (try dsimp only at hSw); go_simp; try with_reducible rfl
        simp only [List.setIfInBounds_toArray, List.set_cons_zero, List.set_cons_succ]
        refine wpAnyH_done (by kernel_rfl) ?_ _
        (try dsimp only at hHeld); go_split_ands
        rename_i hk0 hk1 hk2 hk3 hk4 hk5 hLB
        go_wp2_with fail
        go_ret
        exact ⟨by rfl, LB.out (by assumption)⟩
theorem dateOrder_any (y m d y' m' d' : Int) (w : World) (hT : GT w) :
    Calls Tryd.prog 4 #[.agg #[.int .i64 y, .int .i64 m, .int .i64 d], .agg #[.int .i64 y', .int .i64 m', .int .i64 d']] w fun e w' => e = .returned (.bool true) ∧ Below w.heap.size w w' := by
  cases h1 : goodB y m d with
  | false => exact order_bad y m d y' m' d' w hT (.inl h1)
  | true =>
    cases h2 : goodB y' m' d' with
    | false => exact order_bad y m d y' m' d' w hT (.inr ⟨h1, h2⟩)
    | true => exact order_good y m d y' m' d' w hT h1 h2
end Go.Proofs.YtaccanfjplgfnaaDoor
