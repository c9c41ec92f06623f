import Derived.Test.YtaccanfjplgfnaaDoorDateB
namespace Go.Proofs.YtaccanfjplgfnaaDoor
set_option linter.unusedVariables false
set_option linter.unusedSimpArgs false
open Go.RowKit
theorem width_one (s : ByteArray) (pos : Nat) (h : pos < s.size) : ((s[pos]'h).toNat < 128 ∧ Utf8.decode s pos = ((s[pos]'h).toNat, 1)) ∨ (128 ≤ (s[pos]'h).toNat ∧ 128 ≤ (Utf8.decode s pos).1 ∧ (Utf8.decode s pos).1 ≤ 2147483647) := by
  by_cases ha : (s[pos]'h).toNat < 128
  · exact .inl ⟨ha, decode_ascii s pos h ha⟩
  · exact .inr ⟨by omega, (decode_high s pos h (by omega)).1, decode_le s pos⟩
def pOk (s : ByteArray) : Bool := parseOk s.data.toList
def pY (s : ByteArray) : Int := if parseOk s.data.toList then parseY s.data.toList else 0
def pM (s : ByteArray) : Int := if parseOk s.data.toList then parseM s.data.toList else 0
def pD (s : ByteArray) : Int := if parseOk s.data.toList then parseD s.data.toList else 0
theorem p_no {s : ByteArray} (h : parseOk s.data.toList = false) : pY s = 0 ∧ pM s = 0 ∧ pD s = 0 ∧ pOk s = false := by simp [pY, pM, pD, pOk, h]
theorem p_yes {s : ByteArray} (h : parseOk s.data.toList = true) : pY s = parseY s.data.toList ∧ pM s = parseM s.data.toList ∧ pD s = parseD s.data.toList ∧ pOk s = true := by simp [pY, pM, pD, pOk, h]
theorem shape_no {l : List UInt8} (h : dateShape l = false) : parseOk l = false := by simp [parseOk, h]
theorem shape_n0 {l t : List UInt8} (e : t = l.take 4) (h : t.all isDig = false) : dateShape l = false := by subst e; simp only [dateShape, h, Bool.and_false, Bool.false_and]
theorem shape_n1 {l t : List UInt8} (e : t = (l.drop 5).take 2) (h : t.all isDig = false) : dateShape l = false := by subst e; simp only [dateShape, h, Bool.and_false, Bool.false_and]
theorem shape_n2 {l t : List UInt8} (e : t = l.drop 8) (h : t.all isDig = false) : dateShape l = false := by subst e; simp only [dateShape, h, Bool.and_false]
theorem all_no (t : ByteArray) (pos : Nat) (hp : pos < t.size) (h : isDig (t[pos]'hp) = false) : t.data.toList.all isDig = false := by
  rw [List.all_eq_false]
  refine ⟨t[pos], ?_, by simp [h]⟩
  have : t[pos] = t.data.toList[pos]'(by simpa using hp) := rfl
  rw [this]
  exact List.getElem_mem _
theorem shape_yes {l : List UInt8} (h0 : l.length = 10) (h4 : ((l.getD 4 0).toNat : Int) = 45) (h7 : ((l.getD 7 0).toNat : Int) = 45) (a0 : (l.take 4).all isDig = true) (a1 : ((l.drop 5).take 2).all isDig = true) (a2 : (l.drop 8).all isDig = true) : dateShape l = true := by
  have e4 : l.getD 4 0 = 45 := UInt8.toNat.inj (by show _ = 45; omega)
  have e7 : l.getD 7 0 = 45 := UInt8.toNat.inj (by show _ = 45; omega)
  simp only [dateShape, h0, e4, e7, a0, a1, a2]; rfl
def DigN (t : ByteArray) (n : Int) : Prop := t.data.toList.all isDig = true ∧ n = numL t.data.toList
def OutRel (t0 t1 t2 : ByteArray) (i n0 n1 n2 : Int) : Prop :=
  (i = 0 ∧ n0 = 0 ∧ n1 = 0 ∧ n2 = 0) ∨ (i = 1 ∧ DigN t0 n0 ∧ n1 = 0 ∧ n2 = 0) ∨ (i = 2 ∧ DigN t0 n0 ∧ DigN t1 n1 ∧ n2 = 0) ∨ (i = 3 ∧ DigN t0 n0 ∧ DigN t1 n1 ∧ DigN t2 n2)
theorem numL_lt4 (t : ByteArray) (pos : Nat) (h : (t.data.toList.take pos).all isDig = true) (hp : pos ≤ 4) : 0 ≤ numL (t.data.toList.take pos) ∧ numL (t.data.toList.take pos) < 10000 := by
  have := numL_bd _ h
  have hl : (t.data.toList.take pos).length ≤ 4 := Nat.le_trans (List.length_take_le _ _) hp
  rcases (by omega : (t.data.toList.take pos).length = 0 ∨ (t.data.toList.take pos).length = 1 ∨ (t.data.toList.take pos).length = 2 ∨ (t.data.toList.take pos).length = 3 ∨ (t.data.toList.take pos).length = 4) with h | h | h | h | h
  all_goals
    rw [h] at this
    omega
set_option maxHeartbeats 4000000 in
theorem dparse_any (s : ByteArray) (w : World) :
    Calls Tryd.prog 22 #[.string s] w fun e w' => e = .returned (.tuple #[.agg #[.int .i64 (pY s), .int .i64 (pM s), .int .i64 (pD s)], .bool (pOk s)]) ∧ Below w.heap.size w w' := by
  by_cases hz : s.size = 10
  · have b4 : 4 < s.size := by omega
    have b7 : 7 < s.size := by omega
    have h4 : ∃ x : Int, ((s[4]'b4).toNat : Int) = x ∧ (s.data.toList.getD 4 0).toNat = x := ⟨_, rfl, by simp [List.getD, hz]; rfl⟩
    have h7 : ∃ x : Int, ((s[7]'b7).toNat : Int) = x ∧ (s.data.toList.getD 7 0).toNat = x := ⟨_, rfl, by simp [List.getD, hz]; rfl⟩
    obtain ⟨x4, hx4, hy4⟩ := h4
    obtain ⟨x7, hx7, hy7⟩ := h7
    have HY4 := Lib.hid hy4
    have HY7 := Lib.hid hy7
    clear hy4 hy7
    by_cases c4 : x4 = 45
    · by_cases c7 : x7 = 45
      · subst c4 c7
        go_enter Tryd.func22, Tryd.ntmps22
        go_wp2_with fail
        go_quiet (fail)
        go_wp2_with fail
        have z0 : (s.extract 0 4).size = 4 := by simp; omega
        have z1 : (s.extract 5 7).size = 2 := by simp; omega
        have z2 : (s.extract 8 10).size = 2 := by simp; omega
        have l0 : (s.extract 0 4).data.toList = s.data.toList.take 4 := by simp [Lib.extract_data]
        have l1 : (s.extract 5 7).data.toList = (s.data.toList.drop 5).take 2 := by simp [Lib.extract_data]
        have l2 : (s.extract 8 10).data.toList = s.data.toList.drop 8 := by
          simp [Lib.extract_data]
          exact List.take_of_length_le (by simp [hz])
        generalize s.extract 0 4 = t0 at *
        generalize s.extract 5 7 = t1 at *
        generalize s.extract 8 10 = t2 at *
        have L0 := Lib.hid l0
        have L1 := Lib.hid l1
        have L2 := Lib.hid l2
        have Z0 := Lib.hid z0
        have Z1 := Lib.hid z1
        have Z2 := Lib.hid z2
        clear l0 l1 l2 z0 z1 z2
        go_loopw [31] (fun v wr => ∃ i n0 n1 n2 : Int, v = .int .i64 i ∧ Blk wr w.heap.size 23 #[.int .i64 0, .int .i64 0, .int .i64 0] ∧ Blk wr (w.heap.size + 1) 40 #[.int .i64 n0, .int .i64 n1, .int .i64 n2] ∧ Below w.heap.size w wr ∧ OutRel t0 t1 t2 i n0 n1 n2) (fun v _ => (3 - intOf v).toNat)
        case atStart => exact ⟨0, 0, 0, 0, rfl, ((Blk.new _ _ _).alloc _).drewN _, Blk.drewN (by have := Blk.new (w.alloc (Obj.cells #[.int .i64 0, .int .i64 0, .int .i64 0] 23)) 40 #[.int .i64 0, .int .i64 0, .int .i64 0]; simpa using this) _, bl_drewN (bl_alloc (bl_alloc (bl_refl _) _) _) _, .inl ⟨rfl, rfl, rfl, rfl⟩⟩
        case round =>
          obtain ⟨i, n0, n1, n2, rfl, hb0, hb1, hbw, hor⟩ := hrel
          have i0 : ∀ w, (Instr.index 41 (.agg #[.string t0, .string t1, .string t2]) (.int .i64 0)).run Tryd.prog w = .ok (.string t0) w := fun _ => by kernel_rfl
          have i1 : ∀ w, (Instr.index 41 (.agg #[.string t0, .string t1, .string t2]) (.int .i64 1)).run Tryd.prog w = .ok (.string t1) w := fun _ => by kernel_rfl
          have i2 : ∀ w, (Instr.index 41 (.agg #[.string t0, .string t1, .string t2]) (.int .i64 2)).run Tryd.prog w = .ok (.string t2) w := fun _ => by kernel_rfl
          rcases hor with ⟨rfl, rfl, rfl, rfl⟩ | ⟨rfl, hd0, rfl, rfl⟩ | ⟨rfl, hd0, hd1, rfl⟩ | ⟨rfl, hd0, hd1, hd2⟩
          · obtain ⟨wo, rfl⟩ : ∃ wo : World, wo = wr := ⟨_, rfl⟩
            have hlt0 := hb0.lt
            have hlt1 := hb1.lt
            have hbo := hbw.size
            go_wp2_with fail
            go_loopw [8] (fun _ wi => ∃ pos : Nat, wi.heap[wo.heap.size]? = some (.stringIter t0 pos) ∧ Blk wi w.heap.size 23 #[.int .i64 0, .int .i64 0, .int .i64 0] ∧ Blk wi (w.heap.size + 1) 40 #[.int .i64 (numL (t0.data.toList.take pos)), .int .i64 0, .int .i64 0] ∧ Below w.heap.size w wi ∧ Hid ((t0.data.toList.take pos).all isDig = true) ∧ pos ≤ t0.size) (fun _ wi => t0.size - wi.iterPos wo.heap.size)
            case atStart => exact ⟨0, World.iter_heap wo t0 0, hb0.alloc _, (hb1.alloc _), bl_alloc hbw _, by simp [Hid], Nat.zero_le _⟩
            case round =>
              obtain ⟨pos, hit, hi0, hi1, hbi, HA, hpl⟩ := hrel
              have hpos0 := iterPos_of hit
              clear hb0 hb1 hbw
              by_cases hp : pos < t0.size
              · have hnx : ∀ ty, (Instr.next (.pointer (some ⟨wo.heap.size, 0, none⟩)) true ty).run Tryd.prog wr = _ := fun ty => Lib.run_next_any_at wr wo.heap.size t0 pos ty hit hp
                have hit2 := Lib.iterAt_heap wr wo.heap.size t0 pos (pos + (Utf8.decode t0 pos).2) hit
                have hbw2 := Lib.below_iterAt hbi (k := wo.heap.size) hbo t0 (pos + (Utf8.decode t0 pos).2)
                have hj0 := hi0.iterAt (k := wo.heap.size) (by omega) t0 (pos + (Utf8.decode t0 pos).2)
                have hj1 := hi1.iterAt (k := wo.heap.size) (by omega) t0 (pos + (Utf8.decode t0 pos).2)
                have hsn := take_snoc t0 pos hp
                obtain ⟨W1, hW1⟩ : ∃ W1, W1 = wr.iterAt wo.heap.size t0 (pos + (Utf8.decode t0 pos).2) := ⟨_, rfl⟩
                rw [← hW1] at hnx hit2 hbw2 hj0 hj1
                clear hW1 hit hi0 hi1 hbi
                have HS := Lib.hid hsn
                clear hsn
                have hlj1 := hj1.lt
                rcases width_one t0 pos hp with ⟨ha, hde⟩ | ⟨ha, hde, hde2⟩
                · rw [hde] at hnx hit2
                  simp only at hnx hit2
                  clear hde
                  have hc1 : W1.cell? ⟨w.heap.size + 1, 0, none⟩ = some (.int .i64 (numL (t0.data.toList.take pos))) := hj1.cell 0
                  have hf1 : W1.frozen? ⟨w.heap.size + 1, 0, none⟩ = false := hj1.frozen 0
                  have hnb := numL_lt4 t0 pos HA.out (by have := Z0.out; omega)
                  obtain ⟨hnb1, hnb2⟩ := hnb
                  have hbad := all_no t0 pos hp
                  generalize hby : (t0[pos]'hp) = by_ at *
                  have hbl := by_.toNat_lt
                  by_cases hg : 48 ≤ by_.toNat ∧ by_.toNat ≤ 57
                  · obtain ⟨hg1, hg2⟩ := hg
                    have hgi : isDig by_ = true := by simp [isDig, hg1, hg2]
                    have HG := Lib.hid hgi
                    clear hgi hby hbad
                    go_wp2
                    go_roundw
                    case rel =>
                      refine ⟨pos + 1, ?_, ?_, ?_, ?_, ?_, by omega⟩
                      · exact (Below.heap_setCell _ _ _ _ (by simp; omega)).trans hit2
                      · exact hj0.far (by simp) _
                      · rw [HS.out, numL_snoc]
                        have hz := hj1.set_ 0 (.int .i64 (10 * numL (t0.data.toList.take pos) + digI by_))
                        simpa [digI] using hz
                      · exact bl_set hbw2 (by simp) _
                      · show _ = _
                        rw [HS.out]
                        simp [HG.out, HA.out]
                    case measure =>
                      rw [iterPos_of ((Below.heap_setCell _ _ _ _ (by simp; omega)).trans hit2), hpos0]
                      omega
                  · have hnd : isDig by_ = false := by simp [isDig]; omega
                    have hno : parseOk s.data.toList = false := shape_no (shape_n0 L0.out (hbad hnd))
                    obtain ⟨e1, e2, e3, e4⟩ := p_no hno
                    have EH := Lib.hid (And.intro e1 (And.intro e2 (And.intro e3 e4)))
                    clear e1 e2 e3 e4 hno hbad hnd
                    have hcc0 := hj0.cell 0
                    have hcc1 := hj0.cell 1
                    have hcc2 := hj0.cell 2
                    have hff0 := hj0.frozen
                    have hl0 := hj0.lt
                    by_cases hg1 : 48 ≤ by_.toNat
                    all_goals
                      go_wp2
                      rw [EH.out.1, EH.out.2.1, EH.out.2.2.1, EH.out.2.2.2]
                      exact bodyPost_ret (results_cell_tmp_row rfl _ _ w.heap.size _ #[.int .i64 0, .int .i64 0, .int .i64 0] _ rfl (((hj0.set_ 0 _).set_ 1 _).set_ 2 _) Tryd.underlying23 rfl (by kernel_rfl)) rfl ⟨rfl, bl_set (bl_set (bl_set hbw2 (Nat.le_refl _) _) (Nat.le_refl _) _) (Nat.le_refl _) _⟩
                · have hnd : isDig (t0[pos]'hp) = false := by simp [isDig]; omega
                  have hno : parseOk s.data.toList = false := shape_no (shape_n0 L0.out (all_no t0 pos hp hnd))
                  obtain ⟨e1, e2, e3, e4⟩ := p_no hno
                  have EH := Lib.hid (And.intro e1 (And.intro e2 (And.intro e3 e4)))
                  clear e1 e2 e3 e4 hno hnd
                  have hcc0 := hj0.cell 0
                  have hcc1 := hj0.cell 1
                  have hcc2 := hj0.cell 2
                  have hff0 := hj0.frozen
                  have hl0 := hj0.lt
                  generalize (Utf8.decode t0 pos).1 = rr at *
                  go_wp2
                  rw [EH.out.1, EH.out.2.1, EH.out.2.2.1, EH.out.2.2.2]
                  exact bodyPost_ret (results_cell_tmp_row rfl _ _ w.heap.size _ #[.int .i64 0, .int .i64 0, .int .i64 0] _ rfl (((hj0.set_ 0 _).set_ 1 _).set_ 2 _) Tryd.underlying23 rfl (by kernel_rfl)) rfl ⟨rfl, bl_set (bl_set (bl_set hbw2 (Nat.le_refl _) _) (Nat.le_refl _) _) (Nat.le_refl _) _⟩
              · have hpe : pos = t0.size := by omega
                have hnx : ∀ ty, (Instr.next (.pointer (some ⟨wo.heap.size, 0, none⟩)) true ty).run Tryd.prog wr = _ := fun ty => Lib.run_next_end_at wr wo.heap.size t0 pos ty hit hp
                subst hpe
                go_wp2
                go_roundw
                case rel =>
                  have hN : numL (t0.data.toList.take t0.size) = numL t0.data.toList := by rw [List.take_of_length_le (by simp)]
                  have hA : t0.data.toList.all isDig = true := by have := HA.out; rwa [List.take_of_length_le (by simp)] at this
                  exact ⟨0 + 1, _, _, _, by go_num, hi0, hi1, hbi, .inr (.inl ⟨rfl, ⟨hA, hN⟩, rfl, rfl⟩)⟩
                case measure => simp [intOf]
          · obtain ⟨wo, rfl⟩ : ∃ wo : World, wo = wr := ⟨_, rfl⟩
            have hlt0 := hb0.lt
            have hlt1 := hb1.lt
            have hbo := hbw.size
            go_wp2_with fail
            go_loopw [8] (fun _ wi => ∃ pos : Nat, wi.heap[wo.heap.size]? = some (.stringIter t1 pos) ∧ Blk wi w.heap.size 23 #[.int .i64 0, .int .i64 0, .int .i64 0] ∧ Blk wi (w.heap.size + 1) 40 #[.int .i64 n0, .int .i64 (numL (t1.data.toList.take pos)), .int .i64 0] ∧ Below w.heap.size w wi ∧ Hid ((t1.data.toList.take pos).all isDig = true) ∧ pos ≤ t1.size) (fun _ wi => t1.size - wi.iterPos wo.heap.size)
            case atStart => exact ⟨0, World.iter_heap wo t1 0, hb0.alloc _, (hb1.alloc _), bl_alloc hbw _, by simp [Hid], Nat.zero_le _⟩
            case round =>
              obtain ⟨pos, hit, hi0, hi1, hbi, HA, hpl⟩ := hrel
              have hpos0 := iterPos_of hit
              clear hb0 hb1 hbw
              by_cases hp : pos < t1.size
              · have hnx : ∀ ty, (Instr.next (.pointer (some ⟨wo.heap.size, 0, none⟩)) true ty).run Tryd.prog wr = _ := fun ty => Lib.run_next_any_at wr wo.heap.size t1 pos ty hit hp
                have hit2 := Lib.iterAt_heap wr wo.heap.size t1 pos (pos + (Utf8.decode t1 pos).2) hit
                have hbw2 := Lib.below_iterAt hbi (k := wo.heap.size) hbo t1 (pos + (Utf8.decode t1 pos).2)
                have hj0 := hi0.iterAt (k := wo.heap.size) (by omega) t1 (pos + (Utf8.decode t1 pos).2)
                have hj1 := hi1.iterAt (k := wo.heap.size) (by omega) t1 (pos + (Utf8.decode t1 pos).2)
                have hsn := take_snoc t1 pos hp
                obtain ⟨W1, hW1⟩ : ∃ W1, W1 = wr.iterAt wo.heap.size t1 (pos + (Utf8.decode t1 pos).2) := ⟨_, rfl⟩
                rw [← hW1] at hnx hit2 hbw2 hj0 hj1
                clear hW1 hit hi0 hi1 hbi
                have HS := Lib.hid hsn
                clear hsn
                have hlj1 := hj1.lt
                rcases width_one t1 pos hp with ⟨ha, hde⟩ | ⟨ha, hde, hde2⟩
                · rw [hde] at hnx hit2
                  simp only at hnx hit2
                  clear hde
                  have hc1 : W1.cell? ⟨w.heap.size + 1, 1, none⟩ = some (.int .i64 (numL (t1.data.toList.take pos))) := hj1.cell 1
                  have hf1 : W1.frozen? ⟨w.heap.size + 1, 1, none⟩ = false := hj1.frozen 1
                  have hnb := numL_lt4 t1 pos HA.out (by have := Z1.out; omega)
                  obtain ⟨hnb1, hnb2⟩ := hnb
                  have hbad := all_no t1 pos hp
                  generalize hby : (t1[pos]'hp) = by_ at *
                  have hbl := by_.toNat_lt
                  by_cases hg : 48 ≤ by_.toNat ∧ by_.toNat ≤ 57
                  · obtain ⟨hg1, hg2⟩ := hg
                    have hgi : isDig by_ = true := by simp [isDig, hg1, hg2]
                    have HG := Lib.hid hgi
                    clear hgi hby hbad
                    go_wp2
                    go_roundw
                    case rel =>
                      refine ⟨pos + 1, ?_, ?_, ?_, ?_, ?_, by omega⟩
                      · exact (Below.heap_setCell _ _ _ _ (by simp; omega)).trans hit2
                      · exact hj0.far (by simp) _
                      · rw [HS.out, numL_snoc]
                        have hz := hj1.set_ 1 (.int .i64 (10 * numL (t1.data.toList.take pos) + digI by_))
                        simpa [digI] using hz
                      · exact bl_set hbw2 (by simp) _
                      · show _ = _
                        rw [HS.out]
                        simp [HG.out, HA.out]
                    case measure =>
                      rw [iterPos_of ((Below.heap_setCell _ _ _ _ (by simp; omega)).trans hit2), hpos0]
                      omega
                  · have hnd : isDig by_ = false := by simp [isDig]; omega
                    have hno : parseOk s.data.toList = false := shape_no (shape_n1 L1.out (hbad hnd))
                    obtain ⟨e1, e2, e3, e4⟩ := p_no hno
                    have EH := Lib.hid (And.intro e1 (And.intro e2 (And.intro e3 e4)))
                    clear e1 e2 e3 e4 hno hbad hnd
                    have hcc0 := hj0.cell 0
                    have hcc1 := hj0.cell 1
                    have hcc2 := hj0.cell 2
                    have hff0 := hj0.frozen
                    have hl0 := hj0.lt
                    by_cases hg1 : 48 ≤ by_.toNat
                    all_goals
                      go_wp2
                      rw [EH.out.1, EH.out.2.1, EH.out.2.2.1, EH.out.2.2.2]
                      exact bodyPost_ret (results_cell_tmp_row rfl _ _ w.heap.size _ #[.int .i64 0, .int .i64 0, .int .i64 0] _ rfl (((hj0.set_ 0 _).set_ 1 _).set_ 2 _) Tryd.underlying23 rfl (by kernel_rfl)) rfl ⟨rfl, bl_set (bl_set (bl_set hbw2 (Nat.le_refl _) _) (Nat.le_refl _) _) (Nat.le_refl _) _⟩
                · have hnd : isDig (t1[pos]'hp) = false := by simp [isDig]; omega
                  have hno : parseOk s.data.toList = false := shape_no (shape_n1 L1.out (all_no t1 pos hp hnd))
                  obtain ⟨e1, e2, e3, e4⟩ := p_no hno
                  have EH := Lib.hid (And.intro e1 (And.intro e2 (And.intro e3 e4)))
                  clear e1 e2 e3 e4 hno hnd
                  have hcc0 := hj0.cell 0
                  have hcc1 := hj0.cell 1
                  have hcc2 := hj0.cell 2
                  have hff0 := hj0.frozen
                  have hl0 := hj0.lt
                  generalize (Utf8.decode t1 pos).1 = rr at *
                  go_wp2
                  rw [EH.out.1, EH.out.2.1, EH.out.2.2.1, EH.out.2.2.2]
                  exact bodyPost_ret (results_cell_tmp_row rfl _ _ w.heap.size _ #[.int .i64 0, .int .i64 0, .int .i64 0] _ rfl (((hj0.set_ 0 _).set_ 1 _).set_ 2 _) Tryd.underlying23 rfl (by kernel_rfl)) rfl ⟨rfl, bl_set (bl_set (bl_set hbw2 (Nat.le_refl _) _) (Nat.le_refl _) _) (Nat.le_refl _) _⟩
              · have hpe : pos = t1.size := by omega
                have hnx : ∀ ty, (Instr.next (.pointer (some ⟨wo.heap.size, 0, none⟩)) true ty).run Tryd.prog wr = _ := fun ty => Lib.run_next_end_at wr wo.heap.size t1 pos ty hit hp
                subst hpe
                go_wp2
                go_roundw
                case rel =>
                  have hN : numL (t1.data.toList.take t1.size) = numL t1.data.toList := by rw [List.take_of_length_le (by simp)]
                  have hA : t1.data.toList.all isDig = true := by have := HA.out; rwa [List.take_of_length_le (by simp)] at this
                  exact ⟨1 + 1, _, _, _, by go_num, hi0, hi1, hbi, .inr (.inr (.inl ⟨rfl, hd0, ⟨hA, hN⟩, rfl⟩))⟩
                case measure => simp [intOf]
          · obtain ⟨wo, rfl⟩ : ∃ wo : World, wo = wr := ⟨_, rfl⟩
            have hlt0 := hb0.lt
            have hlt1 := hb1.lt
            have hbo := hbw.size
            go_wp2_with fail
            go_loopw [8] (fun _ wi => ∃ pos : Nat, wi.heap[wo.heap.size]? = some (.stringIter t2 pos) ∧ Blk wi w.heap.size 23 #[.int .i64 0, .int .i64 0, .int .i64 0] ∧ Blk wi (w.heap.size + 1) 40 #[.int .i64 n0, .int .i64 n1, .int .i64 (numL (t2.data.toList.take pos))] ∧ Below w.heap.size w wi ∧ Hid ((t2.data.toList.take pos).all isDig = true) ∧ pos ≤ t2.size) (fun _ wi => t2.size - wi.iterPos wo.heap.size)
            case atStart => exact ⟨0, World.iter_heap wo t2 0, hb0.alloc _, (hb1.alloc _), bl_alloc hbw _, by simp [Hid], Nat.zero_le _⟩
            case round =>
              obtain ⟨pos, hit, hi0, hi1, hbi, HA, hpl⟩ := hrel
              have hpos0 := iterPos_of hit
              clear hb0 hb1 hbw
              by_cases hp : pos < t2.size
              · have hnx : ∀ ty, (Instr.next (.pointer (some ⟨wo.heap.size, 0, none⟩)) true ty).run Tryd.prog wr = _ := fun ty => Lib.run_next_any_at wr wo.heap.size t2 pos ty hit hp
                have hit2 := Lib.iterAt_heap wr wo.heap.size t2 pos (pos + (Utf8.decode t2 pos).2) hit
                have hbw2 := Lib.below_iterAt hbi (k := wo.heap.size) hbo t2 (pos + (Utf8.decode t2 pos).2)
                have hj0 := hi0.iterAt (k := wo.heap.size) (by omega) t2 (pos + (Utf8.decode t2 pos).2)
                have hj1 := hi1.iterAt (k := wo.heap.size) (by omega) t2 (pos + (Utf8.decode t2 pos).2)
                have hsn := take_snoc t2 pos hp
                obtain ⟨W1, hW1⟩ : ∃ W1, W1 = wr.iterAt wo.heap.size t2 (pos + (Utf8.decode t2 pos).2) := ⟨_, rfl⟩
                rw [← hW1] at hnx hit2 hbw2 hj0 hj1
                clear hW1 hit hi0 hi1 hbi
                have HS := Lib.hid hsn
                clear hsn
                have hlj1 := hj1.lt
                rcases width_one t2 pos hp with ⟨ha, hde⟩ | ⟨ha, hde, hde2⟩
                · rw [hde] at hnx hit2
                  simp only at hnx hit2
                  clear hde
                  have hc1 : W1.cell? ⟨w.heap.size + 1, 2, none⟩ = some (.int .i64 (numL (t2.data.toList.take pos))) := hj1.cell 2
                  have hf1 : W1.frozen? ⟨w.heap.size + 1, 2, none⟩ = false := hj1.frozen 2
                  have hnb := numL_lt4 t2 pos HA.out (by have := Z2.out; omega)
                  obtain ⟨hnb1, hnb2⟩ := hnb
                  have hbad := all_no t2 pos hp
                  generalize hby : (t2[pos]'hp) = by_ at *
                  have hbl := by_.toNat_lt
                  by_cases hg : 48 ≤ by_.toNat ∧ by_.toNat ≤ 57
                  · obtain ⟨hg1, hg2⟩ := hg
                    have hgi : isDig by_ = true := by simp [isDig, hg1, hg2]
                    have HG := Lib.hid hgi
                    clear hgi hby hbad
                    go_wp2
                    go_roundw
                    case rel =>
                      refine ⟨pos + 1, ?_, ?_, ?_, ?_, ?_, by omega⟩
                      · exact (Below.heap_setCell _ _ _ _ (by simp; omega)).trans hit2
                      · exact hj0.far (by simp) _
                      · rw [HS.out, numL_snoc]
                        have hz := hj1.set_ 2 (.int .i64 (10 * numL (t2.data.toList.take pos) + digI by_))
                        simpa [digI] using hz
                      · exact bl_set hbw2 (by simp) _
                      · show _ = _
                        rw [HS.out]
                        simp [HG.out, HA.out]
                    case measure =>
                      rw [iterPos_of ((Below.heap_setCell _ _ _ _ (by simp; omega)).trans hit2), hpos0]
                      omega
                  · have hnd : isDig by_ = false := by simp [isDig]; omega
                    have hno : parseOk s.data.toList = false := shape_no (shape_n2 L2.out (hbad hnd))
                    obtain ⟨e1, e2, e3, e4⟩ := p_no hno
                    have EH := Lib.hid (And.intro e1 (And.intro e2 (And.intro e3 e4)))
                    clear e1 e2 e3 e4 hno hbad hnd
                    have hcc0 := hj0.cell 0
                    have hcc1 := hj0.cell 1
                    have hcc2 := hj0.cell 2
                    have hff0 := hj0.frozen
                    have hl0 := hj0.lt
                    by_cases hg1 : 48 ≤ by_.toNat
                    all_goals
                      go_wp2
                      rw [EH.out.1, EH.out.2.1, EH.out.2.2.1, EH.out.2.2.2]
                      exact bodyPost_ret (results_cell_tmp_row rfl _ _ w.heap.size _ #[.int .i64 0, .int .i64 0, .int .i64 0] _ rfl (((hj0.set_ 0 _).set_ 1 _).set_ 2 _) Tryd.underlying23 rfl (by kernel_rfl)) rfl ⟨rfl, bl_set (bl_set (bl_set hbw2 (Nat.le_refl _) _) (Nat.le_refl _) _) (Nat.le_refl _) _⟩
                · have hnd : isDig (t2[pos]'hp) = false := by simp [isDig]; omega
                  have hno : parseOk s.data.toList = false := shape_no (shape_n2 L2.out (all_no t2 pos hp hnd))
                  obtain ⟨e1, e2, e3, e4⟩ := p_no hno
                  have EH := Lib.hid (And.intro e1 (And.intro e2 (And.intro e3 e4)))
                  clear e1 e2 e3 e4 hno hnd
                  have hcc0 := hj0.cell 0
                  have hcc1 := hj0.cell 1
                  have hcc2 := hj0.cell 2
                  have hff0 := hj0.frozen
                  have hl0 := hj0.lt
                  generalize (Utf8.decode t2 pos).1 = rr at *
                  go_wp2
                  rw [EH.out.1, EH.out.2.1, EH.out.2.2.1, EH.out.2.2.2]
                  exact bodyPost_ret (results_cell_tmp_row rfl _ _ w.heap.size _ #[.int .i64 0, .int .i64 0, .int .i64 0] _ rfl (((hj0.set_ 0 _).set_ 1 _).set_ 2 _) Tryd.underlying23 rfl (by kernel_rfl)) rfl ⟨rfl, bl_set (bl_set (bl_set hbw2 (Nat.le_refl _) _) (Nat.le_refl _) _) (Nat.le_refl _) _⟩
              · have hpe : pos = t2.size := by omega
                have hnx : ∀ ty, (Instr.next (.pointer (some ⟨wo.heap.size, 0, none⟩)) true ty).run Tryd.prog wr = _ := fun ty => Lib.run_next_end_at wr wo.heap.size t2 pos ty hit hp
                subst hpe
                go_wp2
                go_roundw
                case rel =>
                  have hN : numL (t2.data.toList.take t2.size) = numL t2.data.toList := by rw [List.take_of_length_le (by simp)]
                  have hA : t2.data.toList.all isDig = true := by have := HA.out; rwa [List.take_of_length_le (by simp)] at this
                  exact ⟨2 + 1, _, _, _, by go_num, hi0, hi1, hbi, .inr (.inr (.inr ⟨rfl, hd0, hd1, ⟨hA, hN⟩⟩))⟩
                case measure => simp [intOf]
          · have hc0 : wr.cell? ⟨w.heap.size + 1, 0, none⟩ = some (.int .i64 n0) := hb1.cell 0
            have hc1 : wr.cell? ⟨w.heap.size + 1, 1, none⟩ = some (.int .i64 n1) := hb1.cell 1
            have hc2 : wr.cell? ⟨w.heap.size + 1, 2, none⟩ = some (.int .i64 n2) := hb1.cell 2
            have hyk : parseY s.data.toList = n0 := by rw [hd0.2, L0.out]; rfl
            have hmk : parseM s.data.toList = n1 := by rw [hd1.2, L1.out]; rfl
            have hdk : parseD s.data.toList = n2 := by rw [hd2.2, L2.out]; rfl
            have hsh : dateShape s.data.toList = true := shape_yes (by simpa using hz) (by simpa using HY4.out) (by simpa using HY7.out) (by rw [← L0.out]; exact hd0.1) (by rw [← L1.out]; exact hd1.1) (by rw [← L2.out]; exact hd2.1)
            have hpo : parseOk s.data.toList = goodB n0 n1 n2 := by rw [← hyk, ← hmk, ← hdk]; simp [parseOk, hsh]
            have HP := Lib.hid hpo
            have HK := Lib.hid (And.intro hyk (And.intro hmk hdk))
            clear hyk hmk hdk hsh hpo
            cases hgd : goodB n0 n1 n2 with
            | true =>
              have HY := Lib.hid (p_yes (HP.out.trans hgd))
              go_wp2_with (go_at_call 14; refine (good_any _ _ _ _).mono ?_; rintro e w' ⟨rfl, hgb⟩; (have k0 := (hb0.alloc _).call hgb); (have kd := (Blk.new _ _ _).call hgb); obtain ⟨_, _, _, _, _, _⟩ := k0.c3; obtain ⟨_, _, _, _, _, _⟩ := kd.c3)
              rw [HY.out.1, HY.out.2.1, HY.out.2.2.1, HY.out.2.2.2, HK.out.1, HK.out.2.1, HK.out.2.2]
              exact bodyPost_ret (results_cell_tmp_row rfl _ _ w.heap.size _ #[.int .i64 n0, .int .i64 n1, .int .i64 n2] _ rfl (((k0.set_ 0 _).set_ 1 _).set_ 2 _) Tryd.underlying23 rfl (by kernel_rfl)) rfl ⟨rfl, bl_set (bl_set (bl_set (bl_call (bl_alloc hbw _) hgb) (Nat.le_refl _) _) (Nat.le_refl _) _) (Nat.le_refl _) _⟩
            | false =>
              have HY := Lib.hid (p_no (HP.out.trans hgd))
              go_wp2_with (go_at_call 14; refine (good_any _ _ _ _).mono ?_; rintro e w' ⟨rfl, hgb⟩; (have k0 := (hb0.alloc _).call hgb); (have kd := (Blk.new _ _ _).call hgb); obtain ⟨_, _, _, _, _, _⟩ := k0.c3; obtain ⟨_, _, _, _, _, _⟩ := kd.c3)
              rw [HY.out.1, HY.out.2.1, HY.out.2.2.1, HY.out.2.2.2]
              exact bodyPost_ret (results_cell_tmp_row rfl _ _ w.heap.size _ #[.int .i64 0, .int .i64 0, .int .i64 0] _ rfl (((k0.set_ 0 _).set_ 1 _).set_ 2 _) Tryd.underlying23 rfl (by kernel_rfl)) rfl ⟨rfl, bl_set (bl_set (bl_set (bl_call (bl_alloc hbw _) hgb) (Nat.le_refl _) _) (Nat.le_refl _) _) (Nat.le_refl _) _⟩
      · have hn : parseOk s.data.toList = false := shape_no (by
          have hu : ¬ s.data.toList.getD 7 0 = 45 := fun he => c7 (by rw [← HY7.out, he]; rfl)
          have he := beq_eq_false_iff_ne.2 hu
          simp only [dateShape, he, Bool.and_false, Bool.false_and])
        obtain ⟨e1, e2, e3, e4⟩ := p_no hn
        rw [e1, e2, e3, e4]
        clear e1 e2 e3 e4 hn
        have c7b : (x7 != 45) = true := by simpa using c7
        subst c4
        go_enter Tryd.func22, Tryd.ntmps22
        go_wp2
        exact bodyPost_ret (v := .tuple #[.agg #[.int .i64 0, .int .i64 0, .int .i64 0], .bool false]) (by simp [results, Tryd.results22, go_sem]) rfl ⟨rfl, bl_alloc (bl_refl _) _⟩
    · have hn : parseOk s.data.toList = false := shape_no (by
        have hu : ¬ s.data.toList.getD 4 0 = 45 := fun he => c4 (by rw [← HY4.out, he]; rfl)
        have he := beq_eq_false_iff_ne.2 hu
        simp only [dateShape, he, Bool.and_false, Bool.false_and])
      obtain ⟨e1, e2, e3, e4⟩ := p_no hn
      rw [e1, e2, e3, e4]
      clear e1 e2 e3 e4 hn
      have c4b : (x4 != 45) = true := by simpa using c4
      go_enter Tryd.func22, Tryd.ntmps22
      go_wp2
      exact bodyPost_ret (v := .tuple #[.agg #[.int .i64 0, .int .i64 0, .int .i64 0], .bool false]) (by simp [results, Tryd.results22, go_sem]) rfl ⟨rfl, bl_alloc (bl_refl _) _⟩
  · have hn : parseOk s.data.toList = false := shape_no (by
      have he : (s.data.toList.length == 10) = false := beq_eq_false_iff_ne.2 (by simpa using hz)
      simp only [dateShape, he, Bool.false_and])
    obtain ⟨e1, e2, e3, e4⟩ := p_no hn
    rw [e1, e2, e3, e4]
    clear e1 e2 e3 e4 hn
    have h1 : ((s.size : Int) != 10) = true := by simp; omega
    go_enter Tryd.func22, Tryd.ntmps22
    go_wp2
    exact bodyPost_ret (v := .tuple #[.agg #[.int .i64 0, .int .i64 0, .int .i64 0], .bool false]) (by simp [results, Tryd.results22, go_sem]) rfl ⟨rfl, bl_alloc (bl_refl _) _⟩
end Go.Proofs.YtaccanfjplgfnaaDoor
