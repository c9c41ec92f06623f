import Derived.Test.YtaccanfjplgfnaaDoorDateI
namespace Go.Proofs.YtaccanfjplgfnaaDoor
set_option linter.unusedVariables false
set_option linter.unusedSimpArgs false
open Go.RowKit
theorem one_byte (w : World) (N : Nat) (h : (48 + (N : Int) % 10) = ((UInt8.ofNat (48 + N % 10)).toNat : Int)) :
    (convert 44 9 (.slice (some ⟨w.heap.size, 0, none⟩) 1 1)).run Tryd.prog (w.alloc (.cells #[.int .u8 (48 + (N : Int) % 10)] 5)) = .ok (.string ⟨#[UInt8.ofNat (48 + N % 10)]⟩) (w.alloc (.cells #[.int .u8 (48 + (N : Int) % 10)] 5)) := by
  refine run_convert_bytes_back _ _ _ 5 ⟨w.heap.size, 0, none⟩ 1 [UInt8.ofNat (48 + N % 10)] Tryd.underlying44 Tryd.underlying5 Tryd.underlying9 fun j hj => ?_
  obtain rfl : j = 0 := by simpa using hj
  have hb := (Blk.new w 5 #[.int .u8 (48 + (N : Int) % 10)]).cell 0
  simp only [List.getElem_cons_zero, ← h]
  exact hb
set_option maxHeartbeats 2000000 in
set_option maxRecDepth 100000 in
theorem rdigits_any (n k : Nat) (w : World) (hn : n ≤ 9999) (hk : k ≤ 4) :
    Calls Tryd.prog 25 #[.int .i64 n, .int .i64 k] w fun e w' => e = .returned (.string ⟨(digL n k).toArray⟩) ∧ Below w.heap.size w w' := by
  obtain ⟨ds, hds⟩ : ∃ ds, digL n k = ds := ⟨_, rfl⟩
  rw [hds]
  have HD := Lib.hid hds
  clear hds
  go_enter Tryd.func25, Tryd.ntmps25
  go_wp2_with fail
  go_loopw [0, 5, 6] (fun v0 v5 v6 wr => ∃ (i N : Nat) (s : List UInt8), i ≤ k ∧ N ≤ 9999 ∧ s.length ≤ i ∧ v6 = .int .i64 i ∧ v0 = .int .i64 N ∧ v5 = .string ⟨s.toArray⟩ ∧ Hid (digL N (k - i) ++ s = ds) ∧ Below w.heap.size w wr) (fun _ _ v6 _ => k - (intOf v6).toNat)
  case atStart => exact ⟨0, n, [], Nat.zero_le _, hn, Nat.le_refl _, rfl, rfl, rfl, Lib.hid (by rw [Nat.sub_zero, List.append_nil]; exact HD.out), bl_refl w⟩
  case round =>
    obtain ⟨i, N, s, hi, hN, hsl, rfl, rfl, rfl, HI, hbw⟩ := hrel
    by_cases hlt : i < k
    · have hu : (48 + (N : Int) % 10) = ((UInt8.ofNat (48 + N % 10)).toNat : Int) := by
        rw [UInt8.toNat_ofNat_of_lt' (show 48 + N % 10 < 256 by omega)]; omega
      have hcv := one_byte wr N hu
      clear hu
      have hov : ¬ 9223372036854775807 < 1 + s.length := by omega
      go_wp2_with fail
      go_roundw
      case rel =>
        refine ⟨i + 1, N / 10, UInt8.ofNat (48 + N % 10) :: s, by omega, by omega, by simpa using hsl, by go_num, by go_num, ?_, Lib.hid ?_, bl_alloc hbw _⟩
        · refine congrArg Value.string ?_
          apply ByteArray.ext; simp
        · rw [← HI.out, show k - i = (k - (i + 1)) + 1 from by omega, digL, List.append_assoc]
          rfl
      case measure => simp [intOf]; omega
    · obtain rfl : i = k := by omega
      have hf := HI.out
      rw [Nat.sub_self, digL, List.nil_append] at hf
      subst hf
      go_wp2_with fail
      go_ret
      exact ⟨rfl, hbw⟩
theorem rdigits_int (n k : Int) (w : World) (h : PadOk n k) :
    Calls Tryd.prog 25 #[.int .i64 n, .int .i64 k] w fun e w' => e = .returned (.string ⟨(digL n.toNat k.toNat).toArray⟩) ∧ Below w.heap.size w w' := by
  have h1 := h.hk
  have h2 := h.hk4
  have h3 := lt_ten h.hn (show k.toNat ≤ 4 by omega)
  have hp := rdigits_any n.toNat k.toNat w (by omega) (by omega)
  rwa [Int.toNat_of_nonneg h.h0, Int.toNat_of_nonneg (by omega)] at hp
set_option maxHeartbeats 400000 in
set_option maxRecDepth 100000 in
theorem rtext_yes (y m d : Int) (w : World) (hg : goodB y m d = true) :
    Calls Tryd.prog 17 #[.agg #[.int .i64 y, .int .i64 m, .int .i64 d]] w fun e w' => e = .returned (.string ⟨(dayL y m d).toArray⟩) ∧ Below w.heap.size w w' := by
  obtain ⟨g1, g2, g3, g4, g5, g6, g7⟩ := good_of hg
  go_enter Tryd.func17, Tryd.ntmps17
  go_wp2_with (go_at_call 15; refine (rgood_any _ _ _ _).mono ?_; rintro e w1 ⟨rfl, hb1⟩; rw [hg]; (have kb := (Blk.new w 23 #[.int .i64 y, .int .i64 m, .int .i64 d]).call hb1); obtain ⟨c0, c1, c2, _, _, _⟩ := kb.c3)
  have hbw := LB.mk (bl_call (bl_alloc (bl_refl w) _) hb1)
  have hlen := digL_len
  have py := pad4 (n := y) (by omega) (by omega)
  have pm := pad2 (n := m) (by omega) (by omega)
  have pd := pad2 (n := d) (by omega) (by omega)
  clear kb g1 g3 g4 g5 g6 g7 hb1
  go_region_held3 (fun w' => w'.cell? ⟨w.heap.size, 0, none⟩ = some (.int .i64 y) ∧ w'.cell? ⟨w.heap.size, 1, none⟩ = some (.int .i64 m) ∧ w'.cell? ⟨w.heap.size, 2, none⟩ = some (.int .i64 d) ∧ LB w w')
    (first
      | (refine ⟨?_, ?_, ?_, ?_⟩ <;> (first | assumption | (go_keep; done) | exact LB.drew (by assumption) | (refine cell_keep ?_ hb6; assumption) | (refine LB.call ?_ hb6; assumption))))
    ((go_at_call 25; go_split_ands; refine (rdigits_int _ _ _ (by assumption)).mono ?_; rintro e w6 ⟨rfl, hb6⟩))
  all_goals
    go_split_ands
    go_wp2_with fail
    go_ret
    refine ⟨?_, LB.out (by assumption)⟩
    exact congrArg (fun b => Ending.returned (.string b)) (text_cat _ _ _)
set_option maxRecDepth 100000 in
theorem rtext_no (y m d : Int) (w : World) (hg : goodB y m d = false) :
    Calls Tryd.prog 17 #[.agg #[.int .i64 y, .int .i64 m, .int .i64 d]] w fun e w' => e = .returned (.string ⟨#[]⟩) ∧ Below w.heap.size w w' := by
  go_enter Tryd.func17, Tryd.ntmps17
  go_wp2_with (go_at_call 15; refine (rgood_any _ _ _ _).mono ?_; rintro e w1 ⟨rfl, hb1⟩; rw [hg])
  go_ret
  exact ⟨rfl, bl_call (bl_alloc (bl_refl w) _) hb1⟩
theorem rtext_any (y m d : Int) (w : World) :
    Calls Tryd.prog 17 #[.agg #[.int .i64 y, .int .i64 m, .int .i64 d]] w fun e w' => e = .returned (.string ⟨(textL y m d).toArray⟩) ∧ Below w.heap.size w w' := by
  cases hg : goodB y m d with
  | true => simpa only [textL, hg, if_true] using rtext_yes y m d w hg
  | false =>
    have h := rtext_no y m d w hg
    simpa [textL, hg] using h
end Go.Proofs.YtaccanfjplgfnaaDoor
