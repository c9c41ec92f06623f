import Derived.Test.YtmhimnmiclnbjaaDoorBase
import Derived.Test.YtmhimnmiclnbjaaDoorDecU
import Derived.Test.YtmhimnmiclnbjaaDoorShelf
import Derived.Lib.SmallJoins
namespace Go.Proofs.YtmhimnmiclnbjaaDoor
set_option linter.unusedVariables false
set_option linter.unusedSimpArgs false
open Go.RowKit
theorem width_one (s : ByteArray) (pos : Nat) (h : pos < s.size) : ((s[pos]'h).toNat < 128 ∧ Utf8.decode s pos = ((s[pos]'h).toNat, 1)) ∨ (128 ≤ (s[pos]'h).toNat ∧ 128 ≤ (Utf8.decode s pos).1 ∧ (Utf8.decode s pos).1 ≤ 2147483647) := by
  by_cases ha : (s[pos]'h).toNat < 128
  · exact .inl ⟨ha, decode_ascii s pos h ha⟩
  · exact .inr ⟨by omega, (decode_high s pos h (by omega)).1, decode_le s pos⟩
theorem all_no (t : ByteArray) (pos : Nat) (hp : pos < t.size) (h : isDig (t[pos]'hp) = false) : t.data.toList.all isDig = false := by
  rw [List.all_eq_false]
  refine ⟨t[pos], ?_, by simp [h]⟩
  have : t[pos] = t.data.toList[pos]'(by simpa using hp) := rfl
  rw [this]
  exact List.getElem_mem _
theorem digs_no {t : ByteArray} (h : t.data.toList.all isDig = false) : digitsB t.data.toList = false := by simp only [digitsB, h, Bool.false_and]
theorem pow_bd (i : Nat) (h : i ≤ 9) : (0 : Int) ≤ ((10 ^ i : Nat) : Int) ∧ ((10 ^ i : Nat) : Int) ≤ 1000000000 := by
  have h1 : 10 ^ i ≤ 1000000000 := Nat.pow_le_pow_right (n := 10) (j := 9) (by decide) h
  exact ⟨Int.natCast_nonneg _, Int.ofNat_le.2 h1⟩
set_option maxHeartbeats 4000000 in
theorem digits_any (s : ByteArray) (w : World) :
    Calls Tryd.prog 18 #[.string s] w fun e w' => e = .returned (.bool (digitsB s.data.toList)) ∧ Below w.heap.size w w' := by
  obtain ⟨b, hb⟩ : ∃ b, digitsB s.data.toList = b := ⟨_, rfl⟩
  rw [hb]
  have HB := Lib.hid hb
  clear hb
  go_enter Tryd.func18, Tryd.ntmps18
  go_wp2_with fail
  go_loopw [7] (fun _ wi => ∃ pos : Nat, wi.heap[w.heap.size]? = some (.stringIter s pos) ∧ Below w.heap.size w wi ∧ Hid ((s.data.toList.take pos).all isDig = true) ∧ pos ≤ s.size) (fun _ wi => s.size - wi.iterPos w.heap.size)
  case atStart => exact ⟨0, World.iter_heap w s 0, bl_alloc (bl_refl w) _, by simp [Hid], Nat.zero_le _⟩
  case round =>
    obtain ⟨pos, hit, hbi, HA, hpl⟩ := hrel
    have hpos0 := iterPos_of hit
    by_cases hp : pos < s.size
    · have hnx : ∀ ty, (Instr.next (.pointer (some ⟨w.heap.size, 0, none⟩)) true ty).run Tryd.prog wr = _ := fun ty => Lib.run_next_any_at wr w.heap.size s pos ty hit hp
      have hit2 := Lib.iterAt_heap wr w.heap.size s pos (pos + (Utf8.decode s pos).2) hit
      have hbw2 := Lib.below_iterAt hbi (k := w.heap.size) (Nat.le_refl _) s (pos + (Utf8.decode s pos).2)
      have hsn := take_snoc s pos hp
      obtain ⟨W1, hW1⟩ : ∃ W1, W1 = wr.iterAt w.heap.size s (pos + (Utf8.decode s pos).2) := ⟨_, rfl⟩
      rw [← hW1] at hnx hit2 hbw2
      clear hW1 hit hbi
      have HS := Lib.hid hsn
      clear hsn
      rcases width_one s pos hp with ⟨ha, hde⟩ | ⟨ha, hde, hde2⟩
      · rw [hde] at hnx hit2
        simp only at hnx hit2
        clear hde
        have hbad := all_no s pos hp
        generalize hby : (s[pos]'hp) = by_ at *
        have hbl := by_.toNat_lt
        by_cases hg : 48 ≤ by_.toNat ∧ by_.toNat ≤ 57
        · obtain ⟨hg1, hg2⟩ := hg
          have hgi : isDig by_ = true := by simp [isDig, hg1, hg2]
          have HG := Lib.hid hgi
          clear hgi hby hbad
          go_wp2
          go_roundw
          case rel =>
            refine ⟨pos + 1, hit2, hbw2, ?_, by omega⟩
            show _ = _
            rw [HS.out]
            simp [HG.out, HA.out]
          case measure =>
            rw [iterPos_of hit2, hpos0]
            omega
        · have hnd : isDig by_ = false := by simp [isDig]; omega
          have hno : b = false := HB.out.symm.trans (digs_no (hbad hnd))
          subst hno
          clear hbad hnd
          by_cases hg1 : 48 ≤ by_.toNat
          all_goals
            go_wp2
            go_ret
            exact ⟨rfl, hbw2⟩
      · have hnd : isDig (s[pos]'hp) = false := by simp [isDig]; omega
        have hno : b = false := HB.out.symm.trans (digs_no (all_no s pos hp hnd))
        subst hno
        clear hnd
        generalize (Utf8.decode s pos).1 = rr at *
        go_wp2
        go_ret
        exact ⟨rfl, hbw2⟩
    · have hpe : pos = s.size := by omega
      have hnx : ∀ ty, (Instr.next (.pointer (some ⟨w.heap.size, 0, none⟩)) true ty).run Tryd.prog wr = _ := fun ty => Lib.run_next_end_at wr w.heap.size s pos ty hit hp
      subst hpe
      have hA : s.data.toList.all isDig = true := by have := HA.out; rwa [List.take_of_length_le (by simp)] at this
      have hres : b = !s.toList.isEmpty := by rw [← HB.out, digitsB, hA, Bool.true_and, Lib.toList_data]
      subst hres
      clear HB hA HA
      go_wp2
      go_ret
      exact ⟨rfl, hbi⟩
set_option maxHeartbeats 4000000 in
theorem power_any (k : Nat) (w : World) (hk : k ≤ 9) :
    Calls Tryd.prog 20 #[.int .i64 k] w fun e w' => e = .returned (.int .i64 ((10 ^ k : Nat) : Int)) ∧ w' = w := by
  obtain ⟨P, hP⟩ : ∃ P : Int, ((10 ^ k : Nat) : Int) = P := ⟨_, rfl⟩
  rw [hP]
  have HP := Lib.hid hP
  clear hP
  go_enter Tryd.func20, Tryd.ntmps20
  go_wp2_with fail
  go_loop [3, 5] (fun v3 v5 => ∃ i : Nat, i ≤ k ∧ v5 = .int .i64 i ∧ v3 = .int .i64 ((10 ^ i : Nat) : Int)) (fun _ v5 => k - (intOf v5).toNat)
  case atStart => exact ⟨0, Nat.zero_le _, rfl, rfl⟩
  case round =>
    obtain ⟨i, hi, rfl, rfl⟩ := hrel
    by_cases hlt : i < k
    · have hb := pow_bd i (by omega)
      have hs : ((10 ^ (i + 1) : Nat) : Int) = ((10 ^ i : Nat) : Int) * 10 := by rw [Nat.pow_succ]; push_cast; rfl
      have HS := Lib.hid hs
      clear hs
      generalize ((10 ^ i : Nat) : Int) = p at *
      obtain ⟨b1, b2⟩ := hb
      go_wp2
      go_round
      case rel => exact ⟨i + 1, by omega, by go_num, by rw [HS.out]⟩
      case measure => simp [intOf]; omega
    · obtain rfl : i = k := by omega
      rw [HP.out]
      go_wp2
      go_ret
      exact ⟨rfl, rfl⟩
end Go.Proofs.YtmhimnmiclnbjaaDoor
