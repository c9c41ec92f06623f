import Derived.Test.YtmhimnmiclnbjaaDoorDecA
namespace Go.Proofs.YtmhimnmiclnbjaaDoor
set_option linter.unusedVariables false
set_option linter.unusedSimpArgs false
open Go.RowKit
def GT (w : World) : Prop := Lib.TabIs Tryd.prog w "internal/strconv.uint64pow10" .u64 Lib.pow10Tab
theorem gT : Tryd.prog.globalNamed "internal/strconv.uint64pow10" = some 3 := by kernel_rfl
theorem GT.below {w v : World} (h : GT w) (hb : Below w.heap.size w v) : GT v := Go.Joins.tab_stays gT h hb (Nat.le_refl _)
theorem cell_keep {v w' : World} {p : Addr} {x : Value} (h : v.cell? p = some x) (hb : Below v.heap.size v w') : w'.cell? p = some x := (hb.cell (World.block_lt_of_cell? v _ h)).trans h
/-- what the library's variables hold -/
structure DT (w : World) : Prop where
  tab : GT w
  mx : ∃ m, w.cell? ⟨0, 0, none⟩ = some (.int .i64 m)
  er : ∃ ev, w.cell? ⟨2, 0, none⟩ = some ev ∧ (ev = .nilIface ∨ ∃ te pe, ev = .iface te pe)
theorem DT.below {w v : World} (h : DT w) (hb : Below w.heap.size w v) : DT v := by
  obtain ⟨h1, ⟨m, h2⟩, ⟨ev, h3, h4⟩⟩ := h
  exact ⟨h1.below hb, ⟨m, cell_keep h2 hb⟩, ⟨ev, cell_keep h3 hb, h4⟩⟩
theorem bl_growN {w v : World} (h : Below w.heap.size w v) (k : Nat) (os : Array Obj) : Below w.heap.size w (Go.Sort.grow (v.drewN k) os) :=
  bl_call h ⟨rfl, rfl, rfl, by simp [Go.Sort.grow], fun i hi => by
    show ((v.drewN k).heap ++ os)[i]? = _
    rw [Array.getElem?_append_left (by show i < v.heap.size; omega)]
    rfl⟩
/-- strings.Cut at a point -/
theorem cut_any (s : ByteArray) (w : World) (hT : DT w) (hs : s.size < 4294967281) :
    Calls Tryd.prog 14 #[.string s, .string ⟨#[46]⟩] w fun e w' => e = .returned (.tuple #[.string ⟨(Lib.cut s.data.toList [46]).1.toArray⟩, .string ⟨(Lib.cut s.data.toList [46]).2.1.toArray⟩, .bool (Lib.cut s.data.toList [46]).2.2]) ∧ Below w.heap.size w w' := by
  obtain ⟨m, hm⟩ := hT.mx
  refine (Tryd.strings_Cut s ⟨#[46]⟩ m w hs hm).mono ?_
  rintro e w' ⟨rfl, n, rfl⟩
  exact ⟨rfl, bl_drewN (bl_refl w) n⟩
theorem str_index (s : ByteArray) (k : Nat) (h : k < s.size) (w : World) : (Instr.index 9 (.string s) (.int .i64 k)).run Tryd.prog w = .ok (.int .u8 ((s[k]'h).toNat : Int)) w := by
  go_simp
set_option maxHeartbeats 4000000 in
theorem dof_any (s : ByteArray) (w : World) (hT : DT w) (hs : s.size < 4294967281) :
    Calls Tryd.prog 10 #[.string s] w fun e w' => e = .returned (.int .i64 (formL s.data.toList)) ∧ Below w.heap.size w w' := by
  unfold formL
  have hcut := cut_any s w hT hs
  generalize (Lib.cut s.data.toList [46]).1 = a at *
  generalize (Lib.cut s.data.toList [46]).2.1 = b at *
  generalize (Lib.cut s.data.toList [46]).2.2 = p at *
  obtain ⟨f, hf⟩ : ∃ f, formW a b p = f := ⟨_, rfl⟩
  rw [hf]
  have HF := Lib.hid hf
  clear hf
  have ea : (⟨a.toArray⟩ : ByteArray).size = a.length := by simp [ByteArray.size]
  cases da : digitsB a with
  | false =>
    have hf : f = 0 := by rw [← HF.out, formW, da]; rfl
    subst hf
    clear HF
    go_enter Tryd.func10, Tryd.ntmps10
    go_wp2_with fail
    refine hcut.mono ?_
    rintro e w1 ⟨rfl, hb1⟩
    go_wp2_with fail
    refine (digits_any _ _).mono ?_
    rintro e w2 ⟨rfl, hb2⟩
    rw [show digitsB (ByteArray.mk a.toArray).data.toList = false from da]
    go_wp2_with fail
    go_ret
    exact ⟨rfl, bl_call hb1 hb2⟩
  | true =>
    have hl : leadB a = true ∨ (leadB a = false ∧ p = false) ∨ (leadB a = false ∧ p = true ∧ digitsB b = true) ∨ (leadB a = false ∧ p = true ∧ digitsB b = false) := by
      cases leadB a <;> cases p <;> cases digitsB b <;> simp
    have hcase : (1 < a.length ∧ (a.headD 0 == 48) = true ∧ f = 0) ∨ ((a.length ≤ 1 ∨ (1 < a.length ∧ (a.headD 0 == 48) = false)) ∧ ((p = false ∧ f = 1) ∨ (p = true ∧ digitsB b = true ∧ f = 2) ∨ (p = true ∧ digitsB b = false ∧ f = 0))) := by
      rw [← HF.out, formW, da]
      unfold leadB
      by_cases h1 : 1 < a.length
      · cases h2 : (a.headD 0 == 48) <;> cases p <;> cases digitsB b <;> simp [h1, h2]
      · cases p <;> cases digitsB b <;> simp [h1] <;> omega
    clear HF hl
    have hidx : ∀ (h : 1 < a.length) w, (Instr.index 9 (.string ⟨a.toArray⟩) (.int .i64 0)).run Tryd.prog w = .ok (.int .u8 ((a.headD 0).toNat : Int)) w := by
      intro h w
      cases a with
      | nil => simp at h
      | cons c r => exact str_index (ByteArray.mk (c :: r).toArray) 0 (by rw [ea]; omega) w
    rcases hcase with ⟨h1, h2, rfl⟩ | ⟨h12 | ⟨h1, h2⟩, hf⟩
    · have hi := hidx h1
      have hl : (1 : Int) < (a.length : Int) := by omega
      have h48 : ((a.headD 0).toNat : Int) = 48 := by rw [beq_iff_eq.1 h2]; rfl
      rw [h48] at hi
      clear hidx h48 h2
      go_enter Tryd.func10, Tryd.ntmps10
      go_wp2_with fail
      refine hcut.mono ?_
      rintro e w1 ⟨rfl, hb1⟩
      go_wp2_with fail
      refine (digits_any _ _).mono ?_
      rintro e w2 ⟨rfl, hb2⟩
      rw [show digitsB (ByteArray.mk a.toArray).data.toList = true from da]
      have hb12 := bl_call hb1 hb2
      go_wp2_with fail
      go_ret
      exact ⟨rfl, hb12⟩
    · have hl : (a.length : Int) ≤ 1 := by omega
      rcases hf with ⟨rfl, rfl⟩ | ⟨rfl, db, rfl⟩ | ⟨rfl, db, rfl⟩
      · go_enter Tryd.func10, Tryd.ntmps10
        go_wp2_with fail
        refine hcut.mono ?_
        rintro e w1 ⟨rfl, hb1⟩
        go_wp2_with fail
        refine (digits_any _ _).mono ?_
        rintro e w2 ⟨rfl, hb2⟩
        rw [show digitsB (ByteArray.mk a.toArray).data.toList = true from da]
        have hb12 := bl_call hb1 hb2
        go_wp2_with fail
        go_ret
        exact ⟨rfl, hb12⟩
      · go_enter Tryd.func10, Tryd.ntmps10
        go_wp2_with fail
        refine hcut.mono ?_
        rintro e w1 ⟨rfl, hb1⟩
        go_wp2_with fail
        refine (digits_any _ _).mono ?_
        rintro e w2 ⟨rfl, hb2⟩
        rw [show digitsB (ByteArray.mk a.toArray).data.toList = true from da]
        have hb12 := bl_call hb1 hb2
        go_wp2_with fail
        refine (digits_any _ _).mono ?_
        rintro e w3 ⟨rfl, hb3⟩
        rw [show digitsB (ByteArray.mk b.toArray).data.toList = true from db]
        go_wp2_with fail
        go_ret
        exact ⟨rfl, bl_call hb12 hb3⟩
      · go_enter Tryd.func10, Tryd.ntmps10
        go_wp2_with fail
        refine hcut.mono ?_
        rintro e w1 ⟨rfl, hb1⟩
        go_wp2_with fail
        refine (digits_any _ _).mono ?_
        rintro e w2 ⟨rfl, hb2⟩
        rw [show digitsB (ByteArray.mk a.toArray).data.toList = true from da]
        have hb12 := bl_call hb1 hb2
        go_wp2_with fail
        refine (digits_any _ _).mono ?_
        rintro e w3 ⟨rfl, hb3⟩
        rw [show digitsB (ByteArray.mk b.toArray).data.toList = false from db]
        go_wp2_with fail
        go_ret
        exact ⟨rfl, bl_call hb12 hb3⟩
    · have hi := hidx h1
      have hl : (1 : Int) < (a.length : Int) := by omega
      have h48 : (((a.headD 0).toNat : Int) == 48) = false := by
        rw [beq_eq_false_iff_ne] at h2 ⊢
        intro e
        exact h2 (UInt8.toNat.inj (by show _ = 48; omega))
      clear hidx h2
      generalize ((a.headD 0).toNat : Int) = h0 at *
      rcases hf with ⟨rfl, rfl⟩ | ⟨rfl, db, rfl⟩ | ⟨rfl, db, rfl⟩
      · go_enter Tryd.func10, Tryd.ntmps10
        go_wp2_with fail
        refine hcut.mono ?_
        rintro e w1 ⟨rfl, hb1⟩
        go_wp2_with fail
        refine (digits_any _ _).mono ?_
        rintro e w2 ⟨rfl, hb2⟩
        rw [show digitsB (ByteArray.mk a.toArray).data.toList = true from da]
        have hb12 := bl_call hb1 hb2
        go_wp2_with fail
        go_ret
        exact ⟨rfl, hb12⟩
      · go_enter Tryd.func10, Tryd.ntmps10
        go_wp2_with fail
        refine hcut.mono ?_
        rintro e w1 ⟨rfl, hb1⟩
        go_wp2_with fail
        refine (digits_any _ _).mono ?_
        rintro e w2 ⟨rfl, hb2⟩
        rw [show digitsB (ByteArray.mk a.toArray).data.toList = true from da]
        have hb12 := bl_call hb1 hb2
        go_wp2_with fail
        refine (digits_any _ _).mono ?_
        rintro e w3 ⟨rfl, hb3⟩
        rw [show digitsB (ByteArray.mk b.toArray).data.toList = true from db]
        go_wp2_with fail
        go_ret
        exact ⟨rfl, bl_call hb12 hb3⟩
      · go_enter Tryd.func10, Tryd.ntmps10
        go_wp2_with fail
        refine hcut.mono ?_
        rintro e w1 ⟨rfl, hb1⟩
        go_wp2_with fail
        refine (digits_any _ _).mono ?_
        rintro e w2 ⟨rfl, hb2⟩
        rw [show digitsB (ByteArray.mk a.toArray).data.toList = true from da]
        have hb12 := bl_call hb1 hb2
        go_wp2_with fail
        refine (digits_any _ _).mono ?_
        rintro e w3 ⟨rfl, hb3⟩
        rw [show digitsB (ByteArray.mk b.toArray).data.toList = false from db]
        go_wp2_with fail
        go_ret
        exact ⟨rfl, bl_call hb12 hb3⟩
end Go.Proofs.YtmhimnmiclnbjaaDoor
