import Derived.Test.YtapdepjkcbipaaaDateD
import Derived.Test.YtapdepjkcbipaaaLexS
import Derived.Test.YtapdepjkcbipaaaShelf
namespace Go.Proofs.Ytapdepjkcbipaaa
set_option linter.unusedVariables false
set_option linter.unusedSimpArgs false
open Go.RowKit
def GL (w : World) : Prop := ∃ m, w.cell? ⟨0, 0, none⟩ = some (.int .i64 m)
theorem GL.drewN {w : World} (h : GL w) (n : Nat) : GL (w.drewN n) := h
theorem GL.drew {w : World} (h : GL w) : GL w.drew := h
theorem GL.lt {w : World} (h : GL w) : 0 < w.heap.size := let ⟨_, hm⟩ := h; World.block_lt_of_cell? w _ hm
theorem GL.below {w v : World} (h : GL w) (hb : Below w.heap.size w v) : GL v := let ⟨m, hm⟩ := h; ⟨m, (hb.cell (p := ⟨0, 0, none⟩) h.lt).trans hm⟩

theorem let_idx (c : UInt8) : decide (0 ≤ Lib.indexByte [95, 46, 45] c) = (c == 95 || c == 46 || c == 45) := by
  by_cases h1 : c = 95
  · subst h1; decide
  · by_cases h2 : c = 46
    · subst h2; decide
    · by_cases h3 : c = 45
      · subst h3; decide
      · have e1 : (95 == c) = false := beq_eq_false_iff_ne.2 (Ne.symm h1)
        have e2 : (46 == c) = false := beq_eq_false_iff_ne.2 (Ne.symm h2)
        have e3 : (45 == c) = false := beq_eq_false_iff_ne.2 (Ne.symm h3)
        simp [Lib.indexByte, e1, e2, e3, h1, h2, h3]
theorem u8_eq (c : UInt8) (n : Nat) (h : n < 256) : (c == UInt8.ofNat n) = decide (c.toNat = n) := by
  rw [Bool.eq_iff_iff, beq_iff_eq, decide_eq_true_eq]
  constructor
  · rintro rfl; simp; omega
  · intro he; apply UInt8.toNat.inj; simp; omega
theorem letter_any (c : UInt8) (w : World) :
    Calls Try.prog 15 #[.int .u8 c.toNat] w fun e w' => e = .returned (.bool (isLet c)) ∧ w = w' := by
  have hc := c.toNat_lt
  have hi := let_idx c
  have e1 := u8_eq c 95 (by omega)
  have e2 := u8_eq c 46 (by omega)
  have e3 := u8_eq c 45 (by omega)
  have HI := Lib.hid (hi.trans (by rw [show (95 : UInt8) = UInt8.ofNat 95 from rfl, show (46 : UInt8) = UInt8.ofNat 46 from rfl, show (45 : UInt8) = UInt8.ofNat 45 from rfl, e1, e2, e3]))
  clear hi e1 e2 e3
  go_enter Try.func15, Try.ntmps15
  go_wp2_with (go_at_call 23; refine (Try.strings_IndexByte _ _ _).mono ?_; rintro e w' ⟨rfl, rfl⟩)
  all_goals
    go_ret
    refine ⟨ret_bool ?_, rfl⟩
    rw [Bool.eq_iff_iff]
    simp [isLet, HI.out]
    try omega
theorem rletter_any (c : UInt8) (w : World) :
    Calls Try.prog 14 #[.int .u8 c.toNat] w fun e w' => e = .returned (.bool (isLet c)) ∧ w = w' := by
  have hc := c.toNat_lt
  go_enter Try.func14, Try.ntmps14
  go_wp2
  all_goals
    go_ret
    refine ⟨ret_bool ?_, rfl⟩
    rw [Bool.eq_iff_iff]
    simp [isLet] at *
    try omega
theorem rdigit_any (c : UInt8) (w : World) :
    Calls Try.prog 28 #[.int .u8 c.toNat] w fun e w' => e = .returned (.bool (isDig c)) ∧ w = w' := by
  have hc := c.toNat_lt
  go_enter Try.func28, Try.ntmps28
  go_wp2
  all_goals
    go_ret
    refine ⟨ret_bool ?_, rfl⟩
    rw [Bool.eq_iff_iff]
    simp [isDig]
    try omega
end Go.Proofs.Ytapdepjkcbipaaa
