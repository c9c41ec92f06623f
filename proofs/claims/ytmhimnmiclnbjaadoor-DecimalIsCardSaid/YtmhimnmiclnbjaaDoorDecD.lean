import Derived.Test.YtmhimnmiclnbjaaDoorDecC
import Derived.Lib.ItoaLen
namespace Go.Proofs.YtmhimnmiclnbjaaDoor
set_option linter.unusedVariables false
set_option linter.unusedSimpArgs false
open Go.RowKit
structure LB (w w' : World) : Prop where
  out : Below w.heap.size w w'
theorem LB.drew {w v : World} (h : LB w v) : LB w v.drew := ⟨bl_drew h.out⟩
theorem LB.call {w v w' : World} (h : LB w v) (hb : Below v.heap.size v w') : LB w w' := ⟨bl_call h.out hb⟩
theorem LB.start (w : World) : LB w w := ⟨bl_refl w⟩
theorem LB.alloc {w v : World} (h : LB w v) (o : Obj) : LB w (v.alloc o) := ⟨bl_alloc h.out o⟩
theorem itoa_any (n : Nat) (w : World) (hT : DT w) (h : n < 9223372036854775808) :
    Calls Tryd.prog 21 #[.int .i64 n] w fun e w' => e = .returned (.string ⟨(Lib.decDigits n).toArray⟩) ∧ Below w.heap.size w w' := by
  refine (Tryd.strconv_Itoa n (by omega) (by omega) w hT.tab).mono ?_
  rintro e w1 ⟨rfl, q, os, rfl⟩
  rw [Lib.itoa_nonneg]
  exact ⟨rfl, bl_growN (bl_refl w) q os⟩
theorem dec_len (n k : Nat) (h : n < 10 ^ k) (hk : 1 ≤ k) : (Lib.decDigits n).length ≤ k := (pad_eq k n h hk).1
set_option maxHeartbeats 4000000 in
set_option maxRecDepth 100000 in
theorem dtext_any (n places : Int) (w : World) (hT : DT w) (hn : n ≤ 9223372036854775807) :
    Calls Tryd.prog 12 #[.int .i64 n, .int .i64 places] w fun e w' => e = .returned (.string ⟨(textL n places).toArray⟩) ∧ Below w.heap.size w w' := by
  by_cases hbad : n < 0 ∨ places < 0 ∨ 9 < places
  · have e1 : textL n places = [] := by unfold textL; rw [if_pos hbad]
    rw [e1]
    have hcc : n < 0 ∨ (0 ≤ n ∧ places < 0) ∨ (0 ≤ n ∧ 0 ≤ places ∧ 9 < places) := by omega
    clear hbad e1
    rcases hcc with h | ⟨h0, h⟩ | ⟨h0, h1, h⟩
    all_goals
      go_enter Tryd.func12, Tryd.ntmps12
      go_wp2_with fail
      go_ret
      exact ⟨rfl, bl_refl w⟩
  · obtain ⟨k, hk⟩ : ∃ k : Nat, places = (k : Int) := ⟨places.toNat, by omega⟩
    obtain ⟨N, hN⟩ : ∃ N : Nat, n = (N : Int) := ⟨n.toNat, by omega⟩
    subst hk hN
    have hk9 : k ≤ 9 := by omega
    have hN' : N < 9223372036854775808 := by omega
    have e1 : textL N k = Lib.decDigits (N / 10 ^ k) ++ tailL (fracL N k) := by unfold textL textN; rw [if_neg hbad, Int.toNat_natCast, Int.toNat_natCast]
    have hpp : 0 < 10 ^ k := Nat.pow_pos (by decide)
    have hp := pow_bd k hk9
    have hq : ((N : Int).tdiv ((10 ^ k : Nat) : Int)) = ((N / 10 ^ k : Nat) : Int) := by rw [Int.ofNat_tdiv]
    have hr : ((N : Int).tmod ((10 ^ k : Nat) : Int)) = ((N % 10 ^ k : Nat) : Int) := by rw [Int.ofNat_tmod]
    have hql : N / 10 ^ k < 9223372036854775808 := Nat.lt_of_le_of_lt (Nat.div_le_self _ _) hN'
    have hrl : N % 10 ^ k < 10 ^ k := Nat.mod_lt _ hpp
    have hrb : N % 10 ^ k < 9223372036854775808 := Nat.lt_of_le_of_lt (Nat.mod_le _ _) hN'
    have hf := frac_nil k N
    have hpd : N % 10 ^ k ≠ 0 → (Lib.decDigits (N % 10 ^ k)).length ≤ k ∧ List.replicate (k - (Lib.decDigits (N % 10 ^ k)).length) 48 ++ Lib.decDigits (N % 10 ^ k) = digL N k := fun h => by
      have hk1 : 1 ≤ k := by
        cases k with
        | zero => exact absurd (Nat.mod_one N) h
        | succ k => omega
      have := pad_eq k _ hrl hk1
      rw [digL_mod] at this
      exact this
    have hkk := fun v => power_any k v hk9
    rw [e1]
    obtain ⟨f, hfr⟩ : ∃ f, fracL N k = f := ⟨_, rfl⟩
    have hft : Lib.trimRightB (digL N k) 48 = f := hfr
    have hfl : f.length ≤ k := by rw [← hfr]; exact frac_len N k
    have hDl : (digL N k).length = k := digL_len k N
    rw [hfr] at hf ⊢
    clear e1 hbad hfr
    have hb1 : ¬ (N : Int) < 0 := by omega
    generalize hP : ((10 ^ k : Nat) : Int) = P at *
    have hPne : ¬ P = 0 := by omega
    have hPn1 : ¬ P = -1 := by omega
    clear hP hrl
    generalize N / 10 ^ k = q at *
    generalize N % 10 ^ k = r at *
    generalize digL N k = D at *
    have hwq : IntKind.i64.wrap (q : Int) = (q : Int) := by rw [IntKind.wrap_i64]; omega
    have hq21 : (Lib.decDigits q).length ≤ 20 := by rw [Lib.decDigits_length]; exact Lib.nDigits_le20 q (by omega)
    have hitq := fun v hb => itoa_any q v (hT.below hb) hql
    generalize Lib.decDigits q = Q at *
    by_cases hr0 : r = 0
    · have hf0 : f = [] := hf.2 hr0
      subst hf0 hr0
      go_enter Tryd.func12, Tryd.ntmps12
      go_wp2_with fail
      refine (hkk _).mono ?_
      rintro e w1 ⟨rfl, rfl⟩
      go_wp2_with fail
      have hLB := LB.start w1
      go_region_held3 (fun w' => LB w1 w')
        (first | exact LB.drew (by assumption) | (refine LB.call ?_ hb6; assumption))
        ((go_at_call 21; refine (hitq _ (LB.out (by assumption))).mono ?_; rintro e w6 ⟨rfl, hb6⟩))
      all_goals
        rename_i hLB2
        go_wp2_with fail
        go_ret
        refine ⟨?_, LB.out (by assumption)⟩
        simp [tailL]
    · have hf0 : f ≠ [] := fun h => hr0 (hf.1 h)
      obtain ⟨pl, pd⟩ := hpd hr0
      have hrz : ((r : Nat) : Int) ≠ 0 := by omega
      have htl : tailL f = 46 :: f := by unfold tailL; rw [if_neg hf0]
      rw [htl]
      clear hpd hf htl hf0
      obtain ⟨ds, hds⟩ : ∃ ds, Lib.decDigits r = ds := ⟨_, rfl⟩
      have hit := fun v hb => itoa_any r v (hT.below hb) hrb
      rw [hds] at pl pd hit
      have HDS := Lib.hid hds
      clear hds
      have hsz : (ByteArray.mk ds.toArray).size = ds.length := by simp [ByteArray.size]
      have hcat : (ByteArray.mk (Array.replicate (k - ds.length) (48 : UInt8))) ++ (ByteArray.mk ds.toArray) = ⟨D.toArray⟩ := by
        rw [← pd]; apply ByteArray.ext; simp
      have HC := Lib.hid hcat
      clear hcat pd
      have HFT := Lib.hid hft
      have eQ : (ByteArray.mk Q.toArray).size = Q.length := by simp [ByteArray.size]
      have eF : (ByteArray.mk f.toArray).size = f.length := by simp [ByteArray.size]
      have eD : (ByteArray.mk D.toArray).size = D.length := by simp [ByteArray.size]
      have eR : (ByteArray.mk (Array.replicate (k - ds.length) (48 : UInt8))).size = k - ds.length := by simp [ByteArray.size]
      have v1 : ¬ 9223372036854775807 < k - ds.length + ds.length := by omega
      have v2 : ¬ 9223372036854775807 < Q.length + 1 := by omega
      have v3 : ¬ 9223372036854775807 < Q.length + 1 + f.length := by omega
      clear hft
      have hc : (k : Int) - (ds.length : Int) = ((k - ds.length : Nat) : Int) := by omega
      go_enter Tryd.func12, Tryd.ntmps12
      go_wp2_with fail
      refine (hkk _).mono ?_
      rintro e w1 ⟨rfl, rfl⟩
      go_wp2_with fail
      have hLB := LB.start w1
      go_region_held3 (fun w' => LB w1 w')
        (first | exact LB.drew (by assumption) | (refine LB.call ?_ hb6; assumption))
        ((go_at_call 21; refine (hitq _ (LB.out (by assumption))).mono ?_; rintro e w6 ⟨rfl, hb6⟩))
      all_goals
        rename_i hLB2
        go_wp2_with fail
        refine (hit _ (LB.out (by assumption))).mono ?_
        rintro e w7 ⟨rfl, hb7⟩
        have hLB7 := LB.call hLB2 hb7
        go_wp2_with fail
        refine (Tryd.strings_Repeat _ (k - ds.length) _ (by omega) ?_).mono ?_
        · show 1 * (k - ds.length) ≤ _; omega
        rintro e w8 ⟨rfl, hb8⟩
        rw [repeat_char]
        have hLB8 := LB.call hLB7 hb8
        go_wp2_with fail
        rw [HC.out]
        refine (Tryd.strings_TrimRight_one ⟨D.toArray⟩ 48 (by decide) _ (by rw [eD]; omega)).mono ?_
        rintro e w9 ⟨rfl, rfl⟩
        rw [show Lib.trimRightB (ByteArray.mk D.toArray).data.toList 48 = f from HFT.out]
        go_wp2_with fail
        go_ret
        refine ⟨?_, hLB8.out⟩
        refine congrArg (fun b => Ending.returned (.string b)) ?_
        apply ByteArray.ext; simp
end Go.Proofs.YtmhimnmiclnbjaaDoor
