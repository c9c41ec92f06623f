import Derived.Test.YtcgkfgklggjmaaaDoorGb
import Derived.Lib.ItoaLen
import Derived.Lib.ConvBytes
import Derived.Laws.BytesArg
import Derived.Deep.RegionLaw
section
namespace Go.Proofs.YtcgkfgklggjmaaaDoor.Dec
set_option linter.unusedVariables false
set_option linter.unusedSimpArgs false
open Go.RowKit
set_option maxHeartbeats 4000000 in
theorem power_any (k : Nat) (w : World) (hk : k ≤ 9) :
    Calls Tryd.prog 145 #[.int .i64 k] w fun e w' => e = .returned (.int .i64 ((10 ^ k : Nat) : Int)) ∧ w' = w := by
  obtain ⟨P, hP⟩ : ∃ P : Int, ((10 ^ k : Nat) : Int) = P := ⟨_, rfl⟩
  rw [hP]
  have HP := Lib.hid hP
  clear hP
  go_enter Tryd.func145, Tryd.ntmps145
  go_wp2_with fail
  go_loop [3, 5] (fun v3 v5 => ∃ i : Nat, i ≤ k ∧ v5 = .int .i64 i ∧ v3 = .int .i64 ((10 ^ i : Nat) : Int)) (fun _ v5 => k - (intOf v5).toNat)
  case atStart => exact ⟨0, Nat.zero_le _, rfl, rfl⟩
  case round =>
    obtain ⟨i, hi, rfl, rfl⟩ := hrel
    by_cases hlt : i < k
    · have hb := pow_bd i (by omega)
      have hs : ((10 ^ (i + 1) : Nat) : Int) = ((10 ^ i : Nat) : Int) * 10 := by rw [Nat.pow_succ]; push_cast; rfl
      have HS := Lib.hid hs
      clear hs
      generalize ((10 ^ i : Nat) : Int) = p at *
      obtain ⟨b1, b2⟩ := hb
      go_wp2
      go_round
      case rel => exact ⟨i + 1, by omega, by go_num, by rw [HS.out]⟩
      case measure => simp [intOf]; omega
    · obtain rfl : i = k := by omega
      rw [HP.out]
      go_wp2
      go_ret
      exact ⟨rfl, rfl⟩
structure LB (w w' : World) : Prop where
  out : Below w.heap.size w w'
theorem LB.drew {w v : World} (h : LB w v) : LB w v.drew := ⟨bl_drew h.out⟩
theorem LB.call {w v w' : World} (h : LB w v) (hb : Below v.heap.size v w') : LB w w' := ⟨bl_call h.out hb⟩
theorem LB.start (w : World) : LB w w := ⟨bl_refl w⟩
theorem LB.alloc {w v : World} (h : LB w v) (o : Obj) : LB w (v.alloc o) := ⟨bl_alloc h.out o⟩
theorem itoa_any (n : Nat) (w : World) (hT : DT w) (h : n < 9223372036854775808) :
    Calls Tryd.prog 22 #[.int .i64 n] w fun e w' => e = .returned (.string ⟨(Lib.decDigits n).toArray⟩) ∧ Below w.heap.size w w' := by
  refine (Tryd.strconv_Itoa n (by omega) (by omega) w hT.tab).mono ?_
  rintro e w1 ⟨rfl, q, os, rfl⟩
  rw [Lib.itoa_nonneg]
  exact ⟨rfl, bl_growN (bl_refl w) q os⟩
theorem dec_len (n k : Nat) (h : n < 10 ^ k) (hk : 1 ≤ k) : (Lib.decDigits n).length ≤ k := (pad_eq k n h hk).1
set_option maxHeartbeats 4000000 in
set_option maxRecDepth 100000 in
theorem dtext_any (n places : Int) (w : World) (hT : DT w) (hn : n ≤ 9223372036854775807) :
    Calls Tryd.prog 118 #[.int .i64 n, .int .i64 places] w fun e w' => e = .returned (.string ⟨(textL n places).toArray⟩) ∧ Below w.heap.size w w' := by
  by_cases hbad : n < 0 ∨ places < 0 ∨ 9 < places
  · have e1 : textL n places = [] := by unfold textL; rw [if_pos hbad]
    rw [e1]
    have hcc : n < 0 ∨ (0 ≤ n ∧ places < 0) ∨ (0 ≤ n ∧ 0 ≤ places ∧ 9 < places) := by omega
    clear hbad e1
    rcases hcc with h | ⟨h0, h⟩ | ⟨h0, h1, h⟩
    all_goals
      go_enter Tryd.func118, Tryd.ntmps118
      go_wp2_with fail
      go_ret
      exact ⟨rfl, bl_refl w⟩
  · obtain ⟨k, hk⟩ : ∃ k : Nat, places = (k : Int) := ⟨places.toNat, by omega⟩
    obtain ⟨N, hN⟩ : ∃ N : Nat, n = (N : Int) := ⟨n.toNat, by omega⟩
    subst hk hN
    have hk9 : k ≤ 9 := by omega
    have hN' : N < 9223372036854775808 := by omega
    have e1 : textL N k = Lib.decDigits (N / 10 ^ k) ++ tailL (fracL N k) := by unfold textL textN; rw [if_neg hbad, Int.toNat_natCast, Int.toNat_natCast]
    have hpp : 0 < 10 ^ k := Nat.pow_pos (by decide)
    have hp := pow_bd k hk9
    have hq : ((N : Int).tdiv ((10 ^ k : Nat) : Int)) = ((N / 10 ^ k : Nat) : Int) := by rw [Int.ofNat_tdiv]
    have hr : ((N : Int).tmod ((10 ^ k : Nat) : Int)) = ((N % 10 ^ k : Nat) : Int) := by rw [Int.ofNat_tmod]
    have hql : N / 10 ^ k < 9223372036854775808 := Nat.lt_of_le_of_lt (Nat.div_le_self _ _) hN'
    have hrl : N % 10 ^ k < 10 ^ k := Nat.mod_lt _ hpp
    have hrb : N % 10 ^ k < 9223372036854775808 := Nat.lt_of_le_of_lt (Nat.mod_le _ _) hN'
    have hf := frac_nil k N
    have hpd : N % 10 ^ k ≠ 0 → (Lib.decDigits (N % 10 ^ k)).length ≤ k ∧ List.replicate (k - (Lib.decDigits (N % 10 ^ k)).length) 48 ++ Lib.decDigits (N % 10 ^ k) = digL N k := fun h => by
      have hk1 : 1 ≤ k := by
        cases k with
        | zero => exact absurd (Nat.mod_one N) h
        | succ k => omega
      have := pad_eq k _ hrl hk1
      rw [digL_mod] at this
      exact this
    have hkk := fun v => power_any k v hk9
    rw [e1]
    obtain ⟨f, hfr⟩ : ∃ f, fracL N k = f := ⟨_, rfl⟩
    have hft : Lib.trimRightB (digL N k) 48 = f := hfr
    have hfl : f.length ≤ k := by rw [← hfr]; exact frac_len N k
    have hDl : (digL N k).length = k := digL_len k N
    rw [hfr] at hf ⊢
    clear e1 hbad hfr
    have hb1 : ¬ (N : Int) < 0 := by omega
    generalize hP : ((10 ^ k : Nat) : Int) = P at *
    have hPne : ¬ P = 0 := by omega
    have hPn1 : ¬ P = -1 := by omega
    clear hP hrl
    generalize N / 10 ^ k = q at *
    generalize N % 10 ^ k = r at *
    generalize digL N k = D at *
    have hwq : IntKind.i64.wrap (q : Int) = (q : Int) := by rw [IntKind.wrap_i64]; omega
    have hq21 : (Lib.decDigits q).length ≤ 20 := by rw [Lib.decDigits_length]; exact Lib.nDigits_le20 q (by omega)
    have hitq := fun v hb => itoa_any q v (hT.below hb) hql
    generalize Lib.decDigits q = Q at *
    by_cases hr0 : r = 0
    · have hf0 : f = [] := hf.2 hr0
      subst hf0 hr0
      go_enter Tryd.func118, Tryd.ntmps118
      go_wp2_with fail
      refine (hkk _).mono ?_
      rintro e w1 ⟨rfl, rfl⟩
      go_wp2_with fail
      have hLB := LB.start w1
      go_region_held3 (fun w' => LB w1 w')
        (first | exact LB.drew (by assumption) | (refine LB.call ?_ hb6; assumption))
        ((go_at_call 22; refine (hitq _ (LB.out (by assumption))).mono ?_; rintro e w6 ⟨rfl, hb6⟩))
      all_goals
        rename_i hLB2
        go_wp2_with fail
        go_ret
        refine ⟨?_, LB.out (by assumption)⟩
        simp [tailL]
    · have hf0 : f ≠ [] := fun h => hr0 (hf.1 h)
      obtain ⟨pl, pd⟩ := hpd hr0
      have hrz : ((r : Nat) : Int) ≠ 0 := by omega
      have htl : tailL f = 46 :: f := by unfold tailL; rw [if_neg hf0]
      rw [htl]
      clear hpd hf htl hf0
      obtain ⟨ds, hds⟩ : ∃ ds, Lib.decDigits r = ds := ⟨_, rfl⟩
      have hit := fun v hb => itoa_any r v (hT.below hb) hrb
      rw [hds] at pl pd hit
      have HDS := Lib.hid hds
      clear hds
      have hsz : (ByteArray.mk ds.toArray).size = ds.length := by simp [ByteArray.size]
      have hcat : (ByteArray.mk (Array.replicate (k - ds.length) (48 : UInt8))) ++ (ByteArray.mk ds.toArray) = ⟨D.toArray⟩ := by
        rw [← pd]; apply ByteArray.ext; simp
      have HC := Lib.hid hcat
      clear hcat pd
      have HFT := Lib.hid hft
      have eQ : (ByteArray.mk Q.toArray).size = Q.length := by simp [ByteArray.size]
      have eF : (ByteArray.mk f.toArray).size = f.length := by simp [ByteArray.size]
      have eD : (ByteArray.mk D.toArray).size = D.length := by simp [ByteArray.size]
      have eR : (ByteArray.mk (Array.replicate (k - ds.length) (48 : UInt8))).size = k - ds.length := by simp [ByteArray.size]
      have v1 : ¬ 9223372036854775807 < k - ds.length + ds.length := by omega
      have v2 : ¬ 9223372036854775807 < Q.length + 1 := by omega
      have v3 : ¬ 9223372036854775807 < Q.length + 1 + f.length := by omega
      clear hft
      have hc : (k : Int) - (ds.length : Int) = ((k - ds.length : Nat) : Int) := by omega
      go_enter Tryd.func118, Tryd.ntmps118
      go_wp2_with fail
      refine (hkk _).mono ?_
      rintro e w1 ⟨rfl, rfl⟩
      go_wp2_with fail
      have hLB := LB.start w1
      go_region_held3 (fun w' => LB w1 w')
        (first | exact LB.drew (by assumption) | (refine LB.call ?_ hb6; assumption))
        ((go_at_call 22; refine (hitq _ (LB.out (by assumption))).mono ?_; rintro e w6 ⟨rfl, hb6⟩))
      all_goals
        rename_i hLB2
        go_wp2_with fail
        refine (hit _ (LB.out (by assumption))).mono ?_
        rintro e w7 ⟨rfl, hb7⟩
        have hLB7 := LB.call hLB2 hb7
        go_wp2_with fail
        refine (Tryd.strings_Repeat _ (k - ds.length) _ (by omega) ?_).mono ?_
        · show 1 * (k - ds.length) ≤ _; omega
        rintro e w8 ⟨rfl, hb8⟩
        rw [repeat_char]
        have hLB8 := LB.call hLB7 hb8
        go_wp2_with fail
        rw [HC.out]
        refine (Tryd.strings_TrimRight_one ⟨D.toArray⟩ 48 (by decide) _ (by rw [eD]; omega)).mono ?_
        rintro e w9 ⟨rfl, rfl⟩
        rw [show Lib.trimRightB (ByteArray.mk D.toArray).data.toList 48 = f from HFT.out]
        go_wp2_with fail
        go_ret
        refine ⟨?_, hLB8.out⟩
        refine congrArg (fun b => Ending.returned (.string b)) ?_
        apply ByteArray.ext; simp
end Go.Proofs.YtcgkfgklggjmaaaDoor.Dec
end
section
namespace Go.Proofs.YtcgkfgklggjmaaaDoor.Dec
set_option linter.unusedVariables false
set_option linter.unusedSimpArgs false
open Go.RowKit
theorem text_len (N k : Nat) (h : N < 9223372036854775808) (hk : k ≤ 9) : (textN N k).length ≤ 30 := by
  have h1 := frac_len N k
  have h2 : (Lib.decDigits (N / 10 ^ k)).length ≤ 20 := by
    rw [Lib.decDigits_length]
    exact Lib.nDigits_le20 _ (Nat.lt_of_le_of_lt (Nat.div_le_self _ _) (by omega))
  unfold textN tailL
  rw [List.length_append]
  split
  · simp; omega
  · simp; omega
theorem text_bad {n places : Int} (h : n < 0 ∨ places < 0 ∨ 9 < places) : textL n places = [] := by unfold textL; rw [if_pos h]
theorem text_good (N k : Nat) (hk : k ≤ 9) : textL (N : Int) (k : Int) = textN N k := by
  unfold textL; rw [if_neg (by omega), Int.toNat_natCast, Int.toNat_natCast]
end Go.Proofs.YtcgkfgklggjmaaaDoor.Dec
end
section
namespace Go.Proofs.YtcgkfgklggjmaaaDoor.Dec
set_option linter.unusedVariables false
set_option linter.unusedSimpArgs false
open Go.RowKit
theorem one_byte (w : World) (N : Nat) (h : (48 + (N : Int) % 10) = ((UInt8.ofNat (48 + N % 10)).toNat : Int)) :
    (convert 86 9 (.slice (some ⟨w.heap.size, 0, none⟩) 1 1)).run Tryd.prog (w.alloc (.cells #[.int .u8 (48 + (N : Int) % 10)] 5)) = .ok (.string ⟨#[UInt8.ofNat (48 + N % 10)]⟩) (w.alloc (.cells #[.int .u8 (48 + (N : Int) % 10)] 5)) := by
  refine run_convert_bytes_back _ _ _ 5 ⟨w.heap.size, 0, none⟩ 1 [UInt8.ofNat (48 + N % 10)] Tryd.underlying86 Tryd.underlying5 Tryd.underlying9 fun j hj => ?_
  obtain rfl : j = 0 := by simpa using hj
  have hb := (Blk.new w 5 #[.int .u8 (48 + (N : Int) % 10)]).cell 0
  simp only [List.getElem_cons_zero, ← h]
  exact hb
set_option maxHeartbeats 4000000 in
set_option maxRecDepth 100000 in
theorem rtext_any (n places : Int) (w : World) (hn : n ≤ 9223372036854775807) :
    Calls Tryd.prog 64 #[.int .i64 n, .int .i64 places] w fun e w' => e = .returned (.string ⟨(textL n places).toArray⟩) ∧ Below w.heap.size w w' := by
  by_cases hbad : n < 0 ∨ places < 0 ∨ 9 < places
  · have e1 := text_bad hbad
    rw [e1]
    have hcc : n < 0 ∨ (0 ≤ n ∧ places < 0) ∨ (0 ≤ n ∧ 0 ≤ places ∧ 9 < places) := by omega
    clear hbad e1
    rcases hcc with h | ⟨h0, h⟩ | ⟨h0, h1, h⟩
    all_goals
      go_enter Tryd.func64, Tryd.ntmps64
      go_wp2_with fail
      go_ret
      exact ⟨rfl, bl_refl w⟩
  · obtain ⟨k, hk⟩ : ∃ k : Nat, places = (k : Int) := ⟨places.toNat, by omega⟩
    obtain ⟨N, hN⟩ : ∃ N : Nat, n = (N : Int) := ⟨n.toNat, by omega⟩
    subst hk hN
    rw [text_good N k (by omega)]
    obtain ⟨T, hT⟩ : ∃ T, textN N k = T := ⟨_, rfl⟩
    rw [hT]
    have HT := Lib.hid hT
    clear hT
    have hk9 : ¬ 9 < (k : Int) := by omega
    go_enter Tryd.func64, Tryd.ntmps64
    go_wp2_with fail
    go_loopw [0, 5, 6] (fun v0 v5 v6 wr => ∃ i : Nat, i ≤ k ∧ v6 = .int .i64 i ∧ v0 = .int .i64 ((N / 10 ^ i : Nat) : Int) ∧ v5 = .string ⟨(fracL N i).toArray⟩ ∧ Below w.heap.size w wr) (fun _ _ v6 _ => k - (intOf v6).toNat)
    case atStart => exact ⟨0, Nat.zero_le _, rfl, by simp, rfl, bl_refl w⟩
    case round =>
      obtain ⟨i, hi, rfl, rfl, rfl, hbw⟩ := hrel
      by_cases hlt : i < k
      · have hfs := frac_succ N i
        have hdv : N / 10 ^ (i + 1) = N / 10 ^ i / 10 := by rw [Nat.pow_succ, Nat.div_div_eq_div_mul]
        have hMb : N / 10 ^ i < 9223372036854775808 := Nat.lt_of_le_of_lt (Nat.div_le_self _ _) (by omega)
        have hfl := frac_len N i
        generalize N / 10 ^ i = M at *
        have HDV := Lib.hid hdv
        clear hdv
        by_cases hz : fracL N i = [] ∧ M % 10 = 0
        · rw [if_pos hz] at hfs
          have HFS := Lib.hid hfs
          rw [hz.1]
          have hm0 : ((M : Int) % 10) = 0 := by omega
          clear hfs hz hfl
          go_wp2_with fail
          go_roundw
          case rel => exact ⟨i + 1, by omega, by go_num, by rw [HDV.out]; go_num, by rw [HFS.out], hbw⟩
          case measure => simp [intOf]; omega
        · rw [if_neg hz] at hfs
          have HFS := Lib.hid hfs
          have hu : (48 + (M : Int) % 10) = ((UInt8.ofNat (48 + M % 10)).toNat : Int) := by
            rw [UInt8.toNat_ofNat_of_lt' (show 48 + M % 10 < 256 by omega)]; omega
          have hcv := one_byte wr M hu
          clear hu hfs
          have hcase : (fracL N i = [] ∧ ((M : Int) % 10 != 0) = true) ∨ ∃ c r, fracL N i = c :: r ∧ r.length ≤ 9 := by
            cases hF : fracL N i with
            | nil => exact .inl ⟨rfl, by rw [bne_iff_ne]; intro e; exact hz ⟨hF, by omega⟩⟩
            | cons c r => exact .inr ⟨c, r, rfl, by rw [hF] at hfl; simp at hfl; omega⟩
          clear hz hfl
          rcases hcase with ⟨hF, hm⟩ | ⟨c, r, hF, hrl⟩
          · rw [hF] at HFS ⊢
            go_wp2_with fail
            go_roundw
            case rel =>
              refine ⟨i + 1, by omega, by go_num, by rw [HDV.out]; go_num, ?_, bl_alloc hbw _⟩
              rw [HFS.out]
              refine congrArg Value.string ?_
              apply ByteArray.ext; simp
            case measure => simp [intOf]; omega
          · rw [hF] at HFS ⊢
            have hov : ¬ 9223372036854775807 < 1 + (r.length + 1) := by omega
            go_wp2_with fail
            go_roundw
            case rel =>
              refine ⟨i + 1, by omega, by go_num, by rw [HDV.out]; go_num, ?_, bl_alloc hbw _⟩
              rw [HFS.out]
              refine congrArg Value.string ?_
              apply ByteArray.ext; simp
            case measure => simp [intOf]; omega
      · obtain rfl : i = k := by omega
        have hT := HT.out
        unfold textN at hT
        have hMb : N / 10 ^ i < 9223372036854775808 := Nat.lt_of_le_of_lt (Nat.div_le_self _ _) (by omega)
        have hfl := frac_len N i
        generalize N / 10 ^ i = M at *
        have hcase : (fracL N i = [] ∧ tailL (fracL N i) = []) ∨ ∃ c r, fracL N i = c :: r ∧ r.length ≤ 9 ∧ tailL (fracL N i) = 46 :: c :: r := by
          cases hF : fracL N i with
          | nil => exact .inl ⟨rfl, rfl⟩
          | cons c r => exact .inr ⟨c, r, rfl, by rw [hF] at hfl; simp at hfl; omega, by unfold tailL; rw [if_neg (by simp)]⟩
        have hTl : T.length ≤ 40 := by
          rw [← hT, List.length_append]
          have h1 : (Lib.decDigits M).length ≤ 20 := by rw [Lib.decDigits_length]; exact Lib.nDigits_le20 _ (by omega)
          have h2 : (tailL (fracL N i)).length ≤ 11 := by
            rcases hcase with ⟨_, h⟩ | ⟨c, r, _, h1, h⟩
            · rw [h]; simp
            · rw [h]; simp; omega
          omega
        clear HT hfl
        rcases hcase with ⟨hF, hL⟩ | ⟨c, r, hF, hrl, hL⟩
        · rw [hL] at hT
          rw [hF]
          have HT := Lib.hid hT
          clear hT hL hF
          go_wp2_with fail
          go_loopw [0, 5] (fun v0 v5 wq => ∃ (m : Nat) (R : List UInt8), m < 9223372036854775808 ∧ R.length ≤ 40 ∧ v0 = .int .i64 m ∧ v5 = .string ⟨R.toArray⟩ ∧ Hid (Lib.decDigits m ++ R = T) ∧ Below w.heap.size w wq) (fun v0 _ _ => (intOf v0).toNat)
          case atStart => exact ⟨M, [], hMb, by simp; try omega, rfl, rfl, HT, hbw⟩
          case round =>
            obtain ⟨m, R, hm, hRl, rfl, rfl, HR, hbq⟩ := hrel
            have hu : (48 + (m : Int) % 10) = ((UInt8.ofNat (48 + m % 10)).toNat : Int) := by
              rw [UInt8.toNat_ofNat_of_lt' (show 48 + m % 10 < 256 by omega)]; omega
            have hcv := one_byte wr m hu
            clear hu
            have hov : ¬ 9223372036854775807 < 1 + R.length := by omega
            by_cases hm10 : m < 10
            · have hr := HR.out
              rw [Lib.decDigits_one hm10] at hr
              have hmm : m % 10 = m := Nat.mod_eq_of_lt hm10
              have hfin : (ByteArray.mk #[UInt8.ofNat (48 + m % 10)]) ++ (ByteArray.mk R.toArray) = ⟨T.toArray⟩ := by
                rw [← hr, hmm]; apply ByteArray.ext; simp
              have HFIN := Lib.hid hfin
              have hmd : (m : Int) / 10 = 0 := by omega
              clear hr hmm hfin HR
              go_wp2_with fail
              go_ret
              refine ⟨?_, bl_alloc hbq _⟩
              refine congrArg (fun b => Ending.returned (.string b)) ?_
              have h := HFIN.out
              rw [UInt8.ofNat_add] at h
              exact h
            · have hr := HR.out
              rw [Lib.decDigits, dif_neg hm10, List.append_assoc] at hr
              have HR2 := Lib.hid hr
              have hlen2 : R.length + 1 ≤ 40 := by
                have := congrArg List.length hr
                simp only [List.length_append, List.length_cons, List.length_nil] at this
                have h1 : 1 ≤ (Lib.decDigits (m / 10)).length := List.length_pos_iff.2 (dec_ne _)
                omega
              have hmd : (((m : Int) / 10) == 0) = false := by rw [beq_eq_false_iff_ne]; omega
              clear hr HR
              go_wp2_with fail
              go_roundw
              case rel =>
                refine ⟨m / 10, UInt8.ofNat (48 + m % 10) :: R, by omega, by simp; omega, by go_num, ?_, HR2, bl_alloc hbq _⟩
                refine congrArg Value.string ?_
                apply ByteArray.ext; simp
              case measure => simp [intOf]; omega
        · rw [hL] at hT
          rw [hF]
          have HT := Lib.hid hT
          clear hT hL hF
          have hov0 : ¬ 9223372036854775807 < 1 + (r.length + 1) := by omega
          go_wp2_with fail
          go_loopw [0, 5] (fun v0 v5 wq => ∃ (m : Nat) (R : List UInt8), m < 9223372036854775808 ∧ R.length ≤ 40 ∧ v0 = .int .i64 m ∧ v5 = .string ⟨R.toArray⟩ ∧ Hid (Lib.decDigits m ++ R = T) ∧ Below w.heap.size w wq) (fun v0 _ _ => (intOf v0).toNat)
          case atStart => exact ⟨M, 46 :: c :: r, hMb, by simp; try omega, rfl, by refine congrArg Value.string ?_; apply ByteArray.ext; simp, HT, hbw⟩
          case round =>
            obtain ⟨m, R, hm, hRl, rfl, rfl, HR, hbq⟩ := hrel
            have hu : (48 + (m : Int) % 10) = ((UInt8.ofNat (48 + m % 10)).toNat : Int) := by
              rw [UInt8.toNat_ofNat_of_lt' (show 48 + m % 10 < 256 by omega)]; omega
            have hcv := one_byte wr m hu
            clear hu
            have hov : ¬ 9223372036854775807 < 1 + R.length := by omega
            by_cases hm10 : m < 10
            · have hr := HR.out
              rw [Lib.decDigits_one hm10] at hr
              have hmm : m % 10 = m := Nat.mod_eq_of_lt hm10
              have hfin : (ByteArray.mk #[UInt8.ofNat (48 + m % 10)]) ++ (ByteArray.mk R.toArray) = ⟨T.toArray⟩ := by
                rw [← hr, hmm]; apply ByteArray.ext; simp
              have HFIN := Lib.hid hfin
              have hmd : (m : Int) / 10 = 0 := by omega
              clear hr hmm hfin HR
              go_wp2_with fail
              go_ret
              refine ⟨?_, bl_alloc hbq _⟩
              refine congrArg (fun b => Ending.returned (.string b)) ?_
              have h := HFIN.out
              rw [UInt8.ofNat_add] at h
              exact h
            · have hr := HR.out
              rw [Lib.decDigits, dif_neg hm10, List.append_assoc] at hr
              have HR2 := Lib.hid hr
              have hlen2 : R.length + 1 ≤ 40 := by
                have := congrArg List.length hr
                simp only [List.length_append, List.length_cons, List.length_nil] at this
                have h1 : 1 ≤ (Lib.decDigits (m / 10)).length := List.length_pos_iff.2 (dec_ne _)
                omega
              have hmd : (((m : Int) / 10) == 0) = false := by rw [beq_eq_false_iff_ne]; omega
              clear hr HR
              go_wp2_with fail
              go_roundw
              case rel =>
                refine ⟨m / 10, UInt8.ofNat (48 + m % 10) :: R, by omega, by simp; omega, by go_num, ?_, HR2, bl_alloc hbq _⟩
                refine congrArg Value.string ?_
                apply ByteArray.ext; simp
              case measure => simp [intOf]; omega
end Go.Proofs.YtcgkfgklggjmaaaDoor.Dec
end
section
namespace Go.Proofs.YtcgkfgklggjmaaaDoor.Dec
set_option linter.unusedVariables false
set_option linter.unusedSimpArgs false
open Go.RowKit
theorem itoaG_any (n : Nat) (w : World) (hT : GT w) (h : n < 9223372036854775808) :
    Calls Tryd.prog 22 #[.int .i64 n] w fun e w' => e = .returned (.string ⟨(Lib.decDigits n).toArray⟩) ∧ Below w.heap.size w w' := by
  refine (Tryd.strconv_Itoa n (by omega) (by omega) w hT).mono ?_
  rintro e w1 ⟨rfl, q, os, rfl⟩
  rw [Lib.itoa_nonneg]
  exact ⟨rfl, bl_growN (bl_refl w) q os⟩
set_option maxHeartbeats 4000000 in
set_option maxRecDepth 100000 in
theorem dtextG_any (n places : Int) (w : World) (hT : GT w) (hn : n ≤ 9223372036854775807) :
    Calls Tryd.prog 118 #[.int .i64 n, .int .i64 places] w fun e w' => e = .returned (.string ⟨(textL n places).toArray⟩) ∧ Below w.heap.size w w' := by
  by_cases hbad : n < 0 ∨ places < 0 ∨ 9 < places
  · have e1 : textL n places = [] := by unfold textL; rw [if_pos hbad]
    rw [e1]
    have hcc : n < 0 ∨ (0 ≤ n ∧ places < 0) ∨ (0 ≤ n ∧ 0 ≤ places ∧ 9 < places) := by omega
    clear hbad e1
    rcases hcc with h | ⟨h0, h⟩ | ⟨h0, h1, h⟩
    all_goals
      go_enter Tryd.func118, Tryd.ntmps118
      go_wp2_with fail
      go_ret
      exact ⟨rfl, bl_refl w⟩
  · obtain ⟨k, hk⟩ : ∃ k : Nat, places = (k : Int) := ⟨places.toNat, by omega⟩
    obtain ⟨N, hN⟩ : ∃ N : Nat, n = (N : Int) := ⟨n.toNat, by omega⟩
    subst hk hN
    have hk9 : k ≤ 9 := by omega
    have hN' : N < 9223372036854775808 := by omega
    have e1 : textL N k = Lib.decDigits (N / 10 ^ k) ++ tailL (fracL N k) := by unfold textL textN; rw [if_neg hbad, Int.toNat_natCast, Int.toNat_natCast]
    have hpp : 0 < 10 ^ k := Nat.pow_pos (by decide)
    have hp := pow_bd k hk9
    have hq : ((N : Int).tdiv ((10 ^ k : Nat) : Int)) = ((N / 10 ^ k : Nat) : Int) := by rw [Int.ofNat_tdiv]
    have hr : ((N : Int).tmod ((10 ^ k : Nat) : Int)) = ((N % 10 ^ k : Nat) : Int) := by rw [Int.ofNat_tmod]
    have hql : N / 10 ^ k < 9223372036854775808 := Nat.lt_of_le_of_lt (Nat.div_le_self _ _) hN'
    have hrl : N % 10 ^ k < 10 ^ k := Nat.mod_lt _ hpp
    have hrb : N % 10 ^ k < 9223372036854775808 := Nat.lt_of_le_of_lt (Nat.mod_le _ _) hN'
    have hf := frac_nil k N
    have hpd : N % 10 ^ k ≠ 0 → (Lib.decDigits (N % 10 ^ k)).length ≤ k ∧ List.replicate (k - (Lib.decDigits (N % 10 ^ k)).length) 48 ++ Lib.decDigits (N % 10 ^ k) = digL N k := fun h => by
      have hk1 : 1 ≤ k := by
        cases k with
        | zero => exact absurd (Nat.mod_one N) h
        | succ k => omega
      have := pad_eq k _ hrl hk1
      rw [digL_mod] at this
      exact this
    have hkk := fun v => power_any k v hk9
    rw [e1]
    obtain ⟨f, hfr⟩ : ∃ f, fracL N k = f := ⟨_, rfl⟩
    have hft : Lib.trimRightB (digL N k) 48 = f := hfr
    have hfl : f.length ≤ k := by rw [← hfr]; exact frac_len N k
    have hDl : (digL N k).length = k := digL_len k N
    rw [hfr] at hf ⊢
    clear e1 hbad hfr
    have hb1 : ¬ (N : Int) < 0 := by omega
    generalize hP : ((10 ^ k : Nat) : Int) = P at *
    have hPne : ¬ P = 0 := by omega
    have hPn1 : ¬ P = -1 := by omega
    clear hP hrl
    generalize N / 10 ^ k = q at *
    generalize N % 10 ^ k = r at *
    generalize digL N k = D at *
    have hwq : IntKind.i64.wrap (q : Int) = (q : Int) := by rw [IntKind.wrap_i64]; omega
    have hq21 : (Lib.decDigits q).length ≤ 20 := by rw [Lib.decDigits_length]; exact Lib.nDigits_le20 q (by omega)
    have hitq := fun v hb => itoaG_any q v (hT.below hb) hql
    generalize Lib.decDigits q = Q at *
    by_cases hr0 : r = 0
    · have hf0 : f = [] := hf.2 hr0
      subst hf0 hr0
      go_enter Tryd.func118, Tryd.ntmps118
      go_wp2_with fail
      refine (hkk _).mono ?_
      rintro e w1 ⟨rfl, rfl⟩
      go_wp2_with fail
      have hLB := LB.start w1
      go_region_held3 (fun w' => LB w1 w')
        (first | exact LB.drew (by assumption) | (refine LB.call ?_ hb6; assumption))
        ((go_at_call 22; refine (hitq _ (LB.out (by assumption))).mono ?_; rintro e w6 ⟨rfl, hb6⟩))
      all_goals
        rename_i hLB2
        go_wp2_with fail
        go_ret
        refine ⟨?_, LB.out (by assumption)⟩
        simp [tailL]
    · have hf0 : f ≠ [] := fun h => hr0 (hf.1 h)
      obtain ⟨pl, pd⟩ := hpd hr0
      have hrz : ((r : Nat) : Int) ≠ 0 := by omega
      have htl : tailL f = 46 :: f := by unfold tailL; rw [if_neg hf0]
      rw [htl]
      clear hpd hf htl hf0
      obtain ⟨ds, hds⟩ : ∃ ds, Lib.decDigits r = ds := ⟨_, rfl⟩
      have hit := fun v hb => itoaG_any r v (hT.below hb) hrb
      rw [hds] at pl pd hit
      have HDS := Lib.hid hds
      clear hds
      have hsz : (ByteArray.mk ds.toArray).size = ds.length := by simp [ByteArray.size]
      have hcat : (ByteArray.mk (Array.replicate (k - ds.length) (48 : UInt8))) ++ (ByteArray.mk ds.toArray) = ⟨D.toArray⟩ := by
        rw [← pd]; apply ByteArray.ext; simp
      have HC := Lib.hid hcat
      clear hcat pd
      have HFT := Lib.hid hft
      have eQ : (ByteArray.mk Q.toArray).size = Q.length := by simp [ByteArray.size]
      have eF : (ByteArray.mk f.toArray).size = f.length := by simp [ByteArray.size]
      have eD : (ByteArray.mk D.toArray).size = D.length := by simp [ByteArray.size]
      have eR : (ByteArray.mk (Array.replicate (k - ds.length) (48 : UInt8))).size = k - ds.length := by simp [ByteArray.size]
      have v1 : ¬ 9223372036854775807 < k - ds.length + ds.length := by omega
      have v2 : ¬ 9223372036854775807 < Q.length + 1 := by omega
      have v3 : ¬ 9223372036854775807 < Q.length + 1 + f.length := by omega
      clear hft
      have hc : (k : Int) - (ds.length : Int) = ((k - ds.length : Nat) : Int) := by omega
      go_enter Tryd.func118, Tryd.ntmps118
      go_wp2_with fail
      refine (hkk _).mono ?_
      rintro e w1 ⟨rfl, rfl⟩
      go_wp2_with fail
      have hLB := LB.start w1
      go_region_held3 (fun w' => LB w1 w')
        (first | exact LB.drew (by assumption) | (refine LB.call ?_ hb6; assumption))
        ((go_at_call 22; refine (hitq _ (LB.out (by assumption))).mono ?_; rintro e w6 ⟨rfl, hb6⟩))
      all_goals
        rename_i hLB2
        go_wp2_with fail
        refine (hit _ (LB.out (by assumption))).mono ?_
        rintro e w7 ⟨rfl, hb7⟩
        have hLB7 := LB.call hLB2 hb7
        go_wp2_with fail
        refine (Tryd.strings_Repeat _ (k - ds.length) _ (by omega) ?_).mono ?_
        · show 1 * (k - ds.length) ≤ _; omega
        rintro e w8 ⟨rfl, hb8⟩
        rw [repeat_char]
        have hLB8 := LB.call hLB7 hb8
        go_wp2_with fail
        rw [HC.out]
        refine (Tryd.strings_TrimRight_one ⟨D.toArray⟩ 48 (by decide) _ (by rw [eD]; omega)).mono ?_
        rintro e w9 ⟨rfl, rfl⟩
        rw [show Lib.trimRightB (ByteArray.mk D.toArray).data.toList 48 = f from HFT.out]
        go_wp2_with fail
        go_ret
        refine ⟨?_, hLB8.out⟩
        refine congrArg (fun b => Ending.returned (.string b)) ?_
        apply ByteArray.ext; simp
end Go.Proofs.YtcgkfgklggjmaaaDoor.Dec
end
section
namespace Go.Proofs.YtcgkfgklggjmaaaDoor
set_option linter.unusedVariables false
set_option linter.unusedSimpArgs false
open Go.RowKit
def tokCells (t : Tok) : List Value := [.int .i64 t.kind, .string t.text, .int .i64 t.line, .int .i64 t.col]
def toksCells (ts : List Tok) : List Value := ts.flatMap tokCells
theorem toks_snoc (ts : List Tok) (t : Tok) : toksCells (ts ++ [t]) = toksCells ts ++ tokCells t := by simp [toksCells]
theorem ownsRow_below {w w' : World} {base : Nat} {e : TypeId} {size : Nat} {v : Value} {n : Nat} {xs : List Value} (h : w.ownsRow base e size v n xs) (hb : Below w.heap.size w w') : w'.ownsRow base e size v n xs := by
  obtain ⟨h1, h2⟩ := h
  refine ⟨h1, ?_⟩
  rcases h2 with h2 | ⟨g, cap, cur, a, b, c, d⟩
  · exact .inl h2
  · exact .inr ⟨g, cap, cur, a, b, (hb.block g (Blk.lt (t := e) (cs := cur) c)).trans c, d⟩
theorem ownsRow_set {w : World} {base : Nat} {e : TypeId} {size : Nat} {v : Value} {n : Nat} {xs : List Value} (h : w.ownsRow base e size v n xs) {p : Addr} (hp : p.block < base) (u : Value) : (w.setCell p u).ownsRow base e size v n xs := by
  obtain ⟨h1, h2⟩ := h
  refine ⟨h1, ?_⟩
  rcases h2 with h2 | ⟨g, cap, cur, a, b, c, d⟩
  · exact .inl h2
  · exact .inr ⟨g, cap, cur, a, b, (Below.heap_setCell w p u g (by omega)).trans c, d⟩
theorem ownsRow_drewN {w : World} {base : Nat} {e : TypeId} {size : Nat} {v : Value} {n : Nat} {xs : List Value} (h : w.ownsRow base e size v n xs) (k : Nat) : (w.drewN k).ownsRow base e size v n xs := h
theorem ownsRow_far {w : World} {base : Nat} {e : TypeId} {size : Nat} {v : Value} {n : Nat} {xs : List Value} (h : w.ownsRow base e size v n xs) {p : Addr} (hp : ∀ g, v.ownBlock = some g → g ≠ p.block) (u : Value) : (w.setCell p u).ownsRow base e size v n xs := by
  obtain ⟨h1, h2⟩ := h
  refine ⟨h1, ?_⟩
  rcases h2 with h2 | ⟨g, cap, cur, a, b, c, d⟩
  · exact .inl h2
  · exact .inr ⟨g, cap, cur, a, b, (Below.heap_setCell w p u g (hp g (by rw [a]; rfl))).trans c, d⟩
theorem blk_23 {w : World} {g : Nat} {t : TypeId} {a b c d : Value} (h : Blk w g t #[a, b, c, d]) : w.cell? ⟨g, 2, none⟩ = some c ∧ w.cell? ⟨g, 3, none⟩ = some d := ⟨h.cell 2, h.cell 3⟩
theorem ownsRow_base {w : World} {base base' : Nat} {e : TypeId} {size : Nat} {v : Value} {n : Nat} {xs : List Value} (h : w.ownsRow base e size v n xs) (hb : base' ≤ base) : w.ownsRow base' e size v n xs := by
  obtain ⟨h1, h2⟩ := h
  refine ⟨h1, ?_⟩
  rcases h2 with h2 | ⟨g, cap, cur, a, b, c, d⟩
  · exact .inl h2
  · exact .inr ⟨g, cap, cur, a, by omega, c, d⟩
theorem bl_grown {w v w' : World} {row : Option Nat} (h : Below w.heap.size w v) (hg : v.grownBy w' row) (hr : ∀ k, row = some k → w.heap.size ≤ k) : Below w.heap.size w w' := h.grown hg h.size hr
theorem ext_drop (s : ByteArray) (a : Nat) : (s.extract a s.size).data.toList = s.data.toList.drop a := by
  rw [Lib.extract_data]; exact List.take_of_length_le (by simp)
theorem ext_take (s : ByteArray) (a n : Nat) : (s.extract a (a + n)).data.toList = (s.data.toList.drop a).take n := by
  rw [Lib.extract_data, show a + n - a = n from by omega]
def LexIn (l : List UInt8) (ts : List Tok) (a : Nat) (line col : Int) : Prop := lexL l 1 1 = preR ts (lexL (l.drop a) line col)
def posOf (w : World) (b : Nat) : Nat := (intOf ((w.cell? ⟨b, 0, none⟩).getD undef)).toNat
theorem posOf_blk {w : World} {b : Nat} {t : TypeId} {a : Nat} {x y : Value} (h : Blk w b t #[.int .i64 a, x, y]) : posOf w b = a := by
  simp [posOf, h.c3.1, intOf]
/-- what a call of Lex leaves -/
def LexOut (E : TypeId) (s : ByteArray) (w : World) (r : Value → Int → Int → Int → Value) (e : Ending) (w' : World) : Prop :=
  ∃ (v : Value) (ts : List Tok) (er l c : Int), e = .returned (r v er l c) ∧ w'.ownsRow w.heap.size E 4 v ts.length (toksCells ts) ∧ Below w.heap.size w w' ∧ lexAll s.data.toList = (ts, er, l, c)
end Go.Proofs.YtcgkfgklggjmaaaDoor
end
section
namespace Go.Proofs.YtcgkfgklggjmaaaDoor
set_option linter.unusedVariables false
set_option linter.unusedSimpArgs false
open Go.RowKit
theorem Blk.c5 {w : World} {g : Nat} {t : TypeId} {a b c d e : Value} (h : Blk w g t #[a, b, c, d, e]) : w.cell? ⟨g, 0, none⟩ = some a ∧ w.cell? ⟨g, 1, none⟩ = some b ∧ w.cell? ⟨g, 2, none⟩ = some c ∧ w.cell? ⟨g, 3, none⟩ = some d ∧ w.cell? ⟨g, 4, none⟩ = some e ∧ w.frozen? ⟨g, 0, none⟩ = false ∧ w.frozen? ⟨g, 1, none⟩ = false ∧ w.frozen? ⟨g, 2, none⟩ = false ∧ w.frozen? ⟨g, 3, none⟩ = false ∧ w.frozen? ⟨g, 4, none⟩ = false := ⟨h.cell 0, h.cell 1, h.cell 2, h.cell 3, h.cell 4, h.frozen 0, h.frozen 1, h.frozen 2, h.frozen 3, h.frozen 4⟩
theorem Blk.c6 {w : World} {g : Nat} {t : TypeId} {a0 a1 a2 a3 a4 a5 : Value} (h : Blk w g t #[a0, a1, a2, a3, a4, a5]) : w.cell? ⟨g, 0, none⟩ = some a0 ∧ w.cell? ⟨g, 1, none⟩ = some a1 ∧ w.cell? ⟨g, 2, none⟩ = some a2 ∧ w.cell? ⟨g, 3, none⟩ = some a3 ∧ w.cell? ⟨g, 4, none⟩ = some a4 ∧ w.cell? ⟨g, 5, none⟩ = some a5 ∧ w.frozen? ⟨g, 0, none⟩ = false ∧ w.frozen? ⟨g, 1, none⟩ = false ∧ w.frozen? ⟨g, 2, none⟩ = false ∧ w.frozen? ⟨g, 3, none⟩ = false ∧ w.frozen? ⟨g, 4, none⟩ = false ∧ w.frozen? ⟨g, 5, none⟩ = false := ⟨h.cell 0, h.cell 1, h.cell 2, h.cell 3, h.cell 4, h.cell 5, h.frozen 0, h.frozen 1, h.frozen 2, h.frozen 3, h.frozen 4, h.frozen 5⟩
theorem Blk.c7 {w : World} {g : Nat} {t : TypeId} {a0 a1 a2 a3 a4 a5 a6 : Value} (h : Blk w g t #[a0, a1, a2, a3, a4, a5, a6]) : w.cell? ⟨g, 0, none⟩ = some a0 ∧ w.cell? ⟨g, 1, none⟩ = some a1 ∧ w.cell? ⟨g, 2, none⟩ = some a2 ∧ w.cell? ⟨g, 3, none⟩ = some a3 ∧ w.cell? ⟨g, 4, none⟩ = some a4 ∧ w.cell? ⟨g, 5, none⟩ = some a5 ∧ w.cell? ⟨g, 6, none⟩ = some a6 ∧ w.frozen? ⟨g, 0, none⟩ = false ∧ w.frozen? ⟨g, 1, none⟩ = false ∧ w.frozen? ⟨g, 2, none⟩ = false ∧ w.frozen? ⟨g, 3, none⟩ = false ∧ w.frozen? ⟨g, 4, none⟩ = false ∧ w.frozen? ⟨g, 5, none⟩ = false ∧ w.frozen? ⟨g, 6, none⟩ = false := ⟨h.cell 0, h.cell 1, h.cell 2, h.cell 3, h.cell 4, h.cell 5, h.cell 6, h.frozen 0, h.frozen 1, h.frozen 2, h.frozen 3, h.frozen 4, h.frozen 5, h.frozen 6⟩
theorem Blk.c8 {w : World} {g : Nat} {t : TypeId} {a0 a1 a2 a3 a4 a5 a6 a7 : Value} (h : Blk w g t #[a0, a1, a2, a3, a4, a5, a6, a7]) : w.cell? ⟨g, 0, none⟩ = some a0 ∧ w.cell? ⟨g, 1, none⟩ = some a1 ∧ w.cell? ⟨g, 2, none⟩ = some a2 ∧ w.cell? ⟨g, 3, none⟩ = some a3 ∧ w.cell? ⟨g, 4, none⟩ = some a4 ∧ w.cell? ⟨g, 5, none⟩ = some a5 ∧ w.cell? ⟨g, 6, none⟩ = some a6 ∧ w.cell? ⟨g, 7, none⟩ = some a7 ∧ w.frozen? ⟨g, 0, none⟩ = false ∧ w.frozen? ⟨g, 1, none⟩ = false ∧ w.frozen? ⟨g, 2, none⟩ = false ∧ w.frozen? ⟨g, 3, none⟩ = false ∧ w.frozen? ⟨g, 4, none⟩ = false ∧ w.frozen? ⟨g, 5, none⟩ = false ∧ w.frozen? ⟨g, 6, none⟩ = false ∧ w.frozen? ⟨g, 7, none⟩ = false := ⟨h.cell 0, h.cell 1, h.cell 2, h.cell 3, h.cell 4, h.cell 5, h.cell 6, h.cell 7, h.frozen 0, h.frozen 1, h.frozen 2, h.frozen 3, h.frozen 4, h.frozen 5, h.frozen 6, h.frozen 7⟩
theorem Blk.c9 {w : World} {g : Nat} {t : TypeId} {a0 a1 a2 a3 a4 a5 a6 a7 a8 : Value} (h : Blk w g t #[a0, a1, a2, a3, a4, a5, a6, a7, a8]) : w.cell? ⟨g, 0, none⟩ = some a0 ∧ w.cell? ⟨g, 1, none⟩ = some a1 ∧ w.cell? ⟨g, 2, none⟩ = some a2 ∧ w.cell? ⟨g, 3, none⟩ = some a3 ∧ w.cell? ⟨g, 4, none⟩ = some a4 ∧ w.cell? ⟨g, 5, none⟩ = some a5 ∧ w.cell? ⟨g, 6, none⟩ = some a6 ∧ w.cell? ⟨g, 7, none⟩ = some a7 ∧ w.cell? ⟨g, 8, none⟩ = some a8 ∧ w.frozen? ⟨g, 0, none⟩ = false ∧ w.frozen? ⟨g, 1, none⟩ = false ∧ w.frozen? ⟨g, 2, none⟩ = false ∧ w.frozen? ⟨g, 3, none⟩ = false ∧ w.frozen? ⟨g, 4, none⟩ = false ∧ w.frozen? ⟨g, 5, none⟩ = false ∧ w.frozen? ⟨g, 6, none⟩ = false ∧ w.frozen? ⟨g, 7, none⟩ = false ∧ w.frozen? ⟨g, 8, none⟩ = false := ⟨h.cell 0, h.cell 1, h.cell 2, h.cell 3, h.cell 4, h.cell 5, h.cell 6, h.cell 7, h.cell 8, h.frozen 0, h.frozen 1, h.frozen 2, h.frozen 3, h.frozen 4, h.frozen 5, h.frozen 6, h.frozen 7, h.frozen 8⟩
theorem Blk.c10 {w : World} {g : Nat} {t : TypeId} {a0 a1 a2 a3 a4 a5 a6 a7 a8 a9 : Value} (h : Blk w g t #[a0, a1, a2, a3, a4, a5, a6, a7, a8, a9]) : w.cell? ⟨g, 0, none⟩ = some a0 ∧ w.cell? ⟨g, 1, none⟩ = some a1 ∧ w.cell? ⟨g, 2, none⟩ = some a2 ∧ w.cell? ⟨g, 3, none⟩ = some a3 ∧ w.cell? ⟨g, 4, none⟩ = some a4 ∧ w.cell? ⟨g, 5, none⟩ = some a5 ∧ w.cell? ⟨g, 6, none⟩ = some a6 ∧ w.cell? ⟨g, 7, none⟩ = some a7 ∧ w.cell? ⟨g, 8, none⟩ = some a8 ∧ w.cell? ⟨g, 9, none⟩ = some a9 ∧ w.frozen? ⟨g, 0, none⟩ = false ∧ w.frozen? ⟨g, 1, none⟩ = false ∧ w.frozen? ⟨g, 2, none⟩ = false ∧ w.frozen? ⟨g, 3, none⟩ = false ∧ w.frozen? ⟨g, 4, none⟩ = false ∧ w.frozen? ⟨g, 5, none⟩ = false ∧ w.frozen? ⟨g, 6, none⟩ = false ∧ w.frozen? ⟨g, 7, none⟩ = false ∧ w.frozen? ⟨g, 8, none⟩ = false ∧ w.frozen? ⟨g, 9, none⟩ = false := ⟨h.cell 0, h.cell 1, h.cell 2, h.cell 3, h.cell 4, h.cell 5, h.cell 6, h.cell 7, h.cell 8, h.cell 9, h.frozen 0, h.frozen 1, h.frozen 2, h.frozen 3, h.frozen 4, h.frozen 5, h.frozen 6, h.frozen 7, h.frozen 8, h.frozen 9⟩
theorem Blk.c11 {w : World} {g : Nat} {t : TypeId} {a0 a1 a2 a3 a4 a5 a6 a7 a8 a9 a10 : Value} (h : Blk w g t #[a0, a1, a2, a3, a4, a5, a6, a7, a8, a9, a10]) : w.cell? ⟨g, 0, none⟩ = some a0 ∧ w.cell? ⟨g, 1, none⟩ = some a1 ∧ w.cell? ⟨g, 2, none⟩ = some a2 ∧ w.cell? ⟨g, 3, none⟩ = some a3 ∧ w.cell? ⟨g, 4, none⟩ = some a4 ∧ w.cell? ⟨g, 5, none⟩ = some a5 ∧ w.cell? ⟨g, 6, none⟩ = some a6 ∧ w.cell? ⟨g, 7, none⟩ = some a7 ∧ w.cell? ⟨g, 8, none⟩ = some a8 ∧ w.cell? ⟨g, 9, none⟩ = some a9 ∧ w.cell? ⟨g, 10, none⟩ = some a10 ∧ w.frozen? ⟨g, 0, none⟩ = false ∧ w.frozen? ⟨g, 1, none⟩ = false ∧ w.frozen? ⟨g, 2, none⟩ = false ∧ w.frozen? ⟨g, 3, none⟩ = false ∧ w.frozen? ⟨g, 4, none⟩ = false ∧ w.frozen? ⟨g, 5, none⟩ = false ∧ w.frozen? ⟨g, 6, none⟩ = false ∧ w.frozen? ⟨g, 7, none⟩ = false ∧ w.frozen? ⟨g, 8, none⟩ = false ∧ w.frozen? ⟨g, 9, none⟩ = false ∧ w.frozen? ⟨g, 10, none⟩ = false := ⟨h.cell 0, h.cell 1, h.cell 2, h.cell 3, h.cell 4, h.cell 5, h.cell 6, h.cell 7, h.cell 8, h.cell 9, h.cell 10, h.frozen 0, h.frozen 1, h.frozen 2, h.frozen 3, h.frozen 4, h.frozen 5, h.frozen 6, h.frozen 7, h.frozen 8, h.frozen 9, h.frozen 10⟩
theorem Blk.c12 {w : World} {g : Nat} {t : TypeId} {a0 a1 a2 a3 a4 a5 a6 a7 a8 a9 a10 a11 : Value} (h : Blk w g t #[a0, a1, a2, a3, a4, a5, a6, a7, a8, a9, a10, a11]) : w.cell? ⟨g, 0, none⟩ = some a0 ∧ w.cell? ⟨g, 1, none⟩ = some a1 ∧ w.cell? ⟨g, 2, none⟩ = some a2 ∧ w.cell? ⟨g, 3, none⟩ = some a3 ∧ w.cell? ⟨g, 4, none⟩ = some a4 ∧ w.cell? ⟨g, 5, none⟩ = some a5 ∧ w.cell? ⟨g, 6, none⟩ = some a6 ∧ w.cell? ⟨g, 7, none⟩ = some a7 ∧ w.cell? ⟨g, 8, none⟩ = some a8 ∧ w.cell? ⟨g, 9, none⟩ = some a9 ∧ w.cell? ⟨g, 10, none⟩ = some a10 ∧ w.cell? ⟨g, 11, none⟩ = some a11 ∧ w.frozen? ⟨g, 0, none⟩ = false ∧ w.frozen? ⟨g, 1, none⟩ = false ∧ w.frozen? ⟨g, 2, none⟩ = false ∧ w.frozen? ⟨g, 3, none⟩ = false ∧ w.frozen? ⟨g, 4, none⟩ = false ∧ w.frozen? ⟨g, 5, none⟩ = false ∧ w.frozen? ⟨g, 6, none⟩ = false ∧ w.frozen? ⟨g, 7, none⟩ = false ∧ w.frozen? ⟨g, 8, none⟩ = false ∧ w.frozen? ⟨g, 9, none⟩ = false ∧ w.frozen? ⟨g, 10, none⟩ = false ∧ w.frozen? ⟨g, 11, none⟩ = false := ⟨h.cell 0, h.cell 1, h.cell 2, h.cell 3, h.cell 4, h.cell 5, h.cell 6, h.cell 7, h.cell 8, h.cell 9, h.cell 10, h.cell 11, h.frozen 0, h.frozen 1, h.frozen 2, h.frozen 3, h.frozen 4, h.frozen 5, h.frozen 6, h.frozen 7, h.frozen 8, h.frozen 9, h.frozen 10, h.frozen 11⟩
theorem Blk.c13 {w : World} {g : Nat} {t : TypeId} {a0 a1 a2 a3 a4 a5 a6 a7 a8 a9 a10 a11 a12 : Value} (h : Blk w g t #[a0, a1, a2, a3, a4, a5, a6, a7, a8, a9, a10, a11, a12]) : w.cell? ⟨g, 0, none⟩ = some a0 ∧ w.cell? ⟨g, 1, none⟩ = some a1 ∧ w.cell? ⟨g, 2, none⟩ = some a2 ∧ w.cell? ⟨g, 3, none⟩ = some a3 ∧ w.cell? ⟨g, 4, none⟩ = some a4 ∧ w.cell? ⟨g, 5, none⟩ = some a5 ∧ w.cell? ⟨g, 6, none⟩ = some a6 ∧ w.cell? ⟨g, 7, none⟩ = some a7 ∧ w.cell? ⟨g, 8, none⟩ = some a8 ∧ w.cell? ⟨g, 9, none⟩ = some a9 ∧ w.cell? ⟨g, 10, none⟩ = some a10 ∧ w.cell? ⟨g, 11, none⟩ = some a11 ∧ w.cell? ⟨g, 12, none⟩ = some a12 ∧ w.frozen? ⟨g, 0, none⟩ = false ∧ w.frozen? ⟨g, 1, none⟩ = false ∧ w.frozen? ⟨g, 2, none⟩ = false ∧ w.frozen? ⟨g, 3, none⟩ = false ∧ w.frozen? ⟨g, 4, none⟩ = false ∧ w.frozen? ⟨g, 5, none⟩ = false ∧ w.frozen? ⟨g, 6, none⟩ = false ∧ w.frozen? ⟨g, 7, none⟩ = false ∧ w.frozen? ⟨g, 8, none⟩ = false ∧ w.frozen? ⟨g, 9, none⟩ = false ∧ w.frozen? ⟨g, 10, none⟩ = false ∧ w.frozen? ⟨g, 11, none⟩ = false ∧ w.frozen? ⟨g, 12, none⟩ = false := ⟨h.cell 0, h.cell 1, h.cell 2, h.cell 3, h.cell 4, h.cell 5, h.cell 6, h.cell 7, h.cell 8, h.cell 9, h.cell 10, h.cell 11, h.cell 12, h.frozen 0, h.frozen 1, h.frozen 2, h.frozen 3, h.frozen 4, h.frozen 5, h.frozen 6, h.frozen 7, h.frozen 8, h.frozen 9, h.frozen 10, h.frozen 11, h.frozen 12⟩
theorem Blk.c14 {w : World} {g : Nat} {t : TypeId} {a0 a1 a2 a3 a4 a5 a6 a7 a8 a9 a10 a11 a12 a13 : Value} (h : Blk w g t #[a0, a1, a2, a3, a4, a5, a6, a7, a8, a9, a10, a11, a12, a13]) : w.cell? ⟨g, 0, none⟩ = some a0 ∧ w.cell? ⟨g, 1, none⟩ = some a1 ∧ w.cell? ⟨g, 2, none⟩ = some a2 ∧ w.cell? ⟨g, 3, none⟩ = some a3 ∧ w.cell? ⟨g, 4, none⟩ = some a4 ∧ w.cell? ⟨g, 5, none⟩ = some a5 ∧ w.cell? ⟨g, 6, none⟩ = some a6 ∧ w.cell? ⟨g, 7, none⟩ = some a7 ∧ w.cell? ⟨g, 8, none⟩ = some a8 ∧ w.cell? ⟨g, 9, none⟩ = some a9 ∧ w.cell? ⟨g, 10, none⟩ = some a10 ∧ w.cell? ⟨g, 11, none⟩ = some a11 ∧ w.cell? ⟨g, 12, none⟩ = some a12 ∧ w.cell? ⟨g, 13, none⟩ = some a13 ∧ w.frozen? ⟨g, 0, none⟩ = false ∧ w.frozen? ⟨g, 1, none⟩ = false ∧ w.frozen? ⟨g, 2, none⟩ = false ∧ w.frozen? ⟨g, 3, none⟩ = false ∧ w.frozen? ⟨g, 4, none⟩ = false ∧ w.frozen? ⟨g, 5, none⟩ = false ∧ w.frozen? ⟨g, 6, none⟩ = false ∧ w.frozen? ⟨g, 7, none⟩ = false ∧ w.frozen? ⟨g, 8, none⟩ = false ∧ w.frozen? ⟨g, 9, none⟩ = false ∧ w.frozen? ⟨g, 10, none⟩ = false ∧ w.frozen? ⟨g, 11, none⟩ = false ∧ w.frozen? ⟨g, 12, none⟩ = false ∧ w.frozen? ⟨g, 13, none⟩ = false := ⟨h.cell 0, h.cell 1, h.cell 2, h.cell 3, h.cell 4, h.cell 5, h.cell 6, h.cell 7, h.cell 8, h.cell 9, h.cell 10, h.cell 11, h.cell 12, h.cell 13, h.frozen 0, h.frozen 1, h.frozen 2, h.frozen 3, h.frozen 4, h.frozen 5, h.frozen 6, h.frozen 7, h.frozen 8, h.frozen 9, h.frozen 10, h.frozen 11, h.frozen 12, h.frozen 13⟩
theorem Blk.c15 {w : World} {g : Nat} {t : TypeId} {a0 a1 a2 a3 a4 a5 a6 a7 a8 a9 a10 a11 a12 a13 a14 : Value} (h : Blk w g t #[a0, a1, a2, a3, a4, a5, a6, a7, a8, a9, a10, a11, a12, a13, a14]) : w.cell? ⟨g, 0, none⟩ = some a0 ∧ w.cell? ⟨g, 1, none⟩ = some a1 ∧ w.cell? ⟨g, 2, none⟩ = some a2 ∧ w.cell? ⟨g, 3, none⟩ = some a3 ∧ w.cell? ⟨g, 4, none⟩ = some a4 ∧ w.cell? ⟨g, 5, none⟩ = some a5 ∧ w.cell? ⟨g, 6, none⟩ = some a6 ∧ w.cell? ⟨g, 7, none⟩ = some a7 ∧ w.cell? ⟨g, 8, none⟩ = some a8 ∧ w.cell? ⟨g, 9, none⟩ = some a9 ∧ w.cell? ⟨g, 10, none⟩ = some a10 ∧ w.cell? ⟨g, 11, none⟩ = some a11 ∧ w.cell? ⟨g, 12, none⟩ = some a12 ∧ w.cell? ⟨g, 13, none⟩ = some a13 ∧ w.cell? ⟨g, 14, none⟩ = some a14 ∧ w.frozen? ⟨g, 0, none⟩ = false ∧ w.frozen? ⟨g, 1, none⟩ = false ∧ w.frozen? ⟨g, 2, none⟩ = false ∧ w.frozen? ⟨g, 3, none⟩ = false ∧ w.frozen? ⟨g, 4, none⟩ = false ∧ w.frozen? ⟨g, 5, none⟩ = false ∧ w.frozen? ⟨g, 6, none⟩ = false ∧ w.frozen? ⟨g, 7, none⟩ = false ∧ w.frozen? ⟨g, 8, none⟩ = false ∧ w.frozen? ⟨g, 9, none⟩ = false ∧ w.frozen? ⟨g, 10, none⟩ = false ∧ w.frozen? ⟨g, 11, none⟩ = false ∧ w.frozen? ⟨g, 12, none⟩ = false ∧ w.frozen? ⟨g, 13, none⟩ = false ∧ w.frozen? ⟨g, 14, none⟩ = false := ⟨h.cell 0, h.cell 1, h.cell 2, h.cell 3, h.cell 4, h.cell 5, h.cell 6, h.cell 7, h.cell 8, h.cell 9, h.cell 10, h.cell 11, h.cell 12, h.cell 13, h.cell 14, h.frozen 0, h.frozen 1, h.frozen 2, h.frozen 3, h.frozen 4, h.frozen 5, h.frozen 6, h.frozen 7, h.frozen 8, h.frozen 9, h.frozen 10, h.frozen 11, h.frozen 12, h.frozen 13, h.frozen 14⟩
theorem Blk.c16 {w : World} {g : Nat} {t : TypeId} {a0 a1 a2 a3 a4 a5 a6 a7 a8 a9 a10 a11 a12 a13 a14 a15 : Value} (h : Blk w g t #[a0, a1, a2, a3, a4, a5, a6, a7, a8, a9, a10, a11, a12, a13, a14, a15]) : w.cell? ⟨g, 0, none⟩ = some a0 ∧ w.cell? ⟨g, 1, none⟩ = some a1 ∧ w.cell? ⟨g, 2, none⟩ = some a2 ∧ w.cell? ⟨g, 3, none⟩ = some a3 ∧ w.cell? ⟨g, 4, none⟩ = some a4 ∧ w.cell? ⟨g, 5, none⟩ = some a5 ∧ w.cell? ⟨g, 6, none⟩ = some a6 ∧ w.cell? ⟨g, 7, none⟩ = some a7 ∧ w.cell? ⟨g, 8, none⟩ = some a8 ∧ w.cell? ⟨g, 9, none⟩ = some a9 ∧ w.cell? ⟨g, 10, none⟩ = some a10 ∧ w.cell? ⟨g, 11, none⟩ = some a11 ∧ w.cell? ⟨g, 12, none⟩ = some a12 ∧ w.cell? ⟨g, 13, none⟩ = some a13 ∧ w.cell? ⟨g, 14, none⟩ = some a14 ∧ w.cell? ⟨g, 15, none⟩ = some a15 ∧ w.frozen? ⟨g, 0, none⟩ = false ∧ w.frozen? ⟨g, 1, none⟩ = false ∧ w.frozen? ⟨g, 2, none⟩ = false ∧ w.frozen? ⟨g, 3, none⟩ = false ∧ w.frozen? ⟨g, 4, none⟩ = false ∧ w.frozen? ⟨g, 5, none⟩ = false ∧ w.frozen? ⟨g, 6, none⟩ = false ∧ w.frozen? ⟨g, 7, none⟩ = false ∧ w.frozen? ⟨g, 8, none⟩ = false ∧ w.frozen? ⟨g, 9, none⟩ = false ∧ w.frozen? ⟨g, 10, none⟩ = false ∧ w.frozen? ⟨g, 11, none⟩ = false ∧ w.frozen? ⟨g, 12, none⟩ = false ∧ w.frozen? ⟨g, 13, none⟩ = false ∧ w.frozen? ⟨g, 14, none⟩ = false ∧ w.frozen? ⟨g, 15, none⟩ = false := ⟨h.cell 0, h.cell 1, h.cell 2, h.cell 3, h.cell 4, h.cell 5, h.cell 6, h.cell 7, h.cell 8, h.cell 9, h.cell 10, h.cell 11, h.cell 12, h.cell 13, h.cell 14, h.cell 15, h.frozen 0, h.frozen 1, h.frozen 2, h.frozen 3, h.frozen 4, h.frozen 5, h.frozen 6, h.frozen 7, h.frozen 8, h.frozen 9, h.frozen 10, h.frozen 11, h.frozen 12, h.frozen 13, h.frozen 14, h.frozen 15⟩
theorem Blk.c17 {w : World} {g : Nat} {t : TypeId} {a0 a1 a2 a3 a4 a5 a6 a7 a8 a9 a10 a11 a12 a13 a14 a15 a16 : Value} (h : Blk w g t #[a0, a1, a2, a3, a4, a5, a6, a7, a8, a9, a10, a11, a12, a13, a14, a15, a16]) : w.cell? ⟨g, 0, none⟩ = some a0 ∧ w.cell? ⟨g, 1, none⟩ = some a1 ∧ w.cell? ⟨g, 2, none⟩ = some a2 ∧ w.cell? ⟨g, 3, none⟩ = some a3 ∧ w.cell? ⟨g, 4, none⟩ = some a4 ∧ w.cell? ⟨g, 5, none⟩ = some a5 ∧ w.cell? ⟨g, 6, none⟩ = some a6 ∧ w.cell? ⟨g, 7, none⟩ = some a7 ∧ w.cell? ⟨g, 8, none⟩ = some a8 ∧ w.cell? ⟨g, 9, none⟩ = some a9 ∧ w.cell? ⟨g, 10, none⟩ = some a10 ∧ w.cell? ⟨g, 11, none⟩ = some a11 ∧ w.cell? ⟨g, 12, none⟩ = some a12 ∧ w.cell? ⟨g, 13, none⟩ = some a13 ∧ w.cell? ⟨g, 14, none⟩ = some a14 ∧ w.cell? ⟨g, 15, none⟩ = some a15 ∧ w.cell? ⟨g, 16, none⟩ = some a16 ∧ w.frozen? ⟨g, 0, none⟩ = false ∧ w.frozen? ⟨g, 1, none⟩ = false ∧ w.frozen? ⟨g, 2, none⟩ = false ∧ w.frozen? ⟨g, 3, none⟩ = false ∧ w.frozen? ⟨g, 4, none⟩ = false ∧ w.frozen? ⟨g, 5, none⟩ = false ∧ w.frozen? ⟨g, 6, none⟩ = false ∧ w.frozen? ⟨g, 7, none⟩ = false ∧ w.frozen? ⟨g, 8, none⟩ = false ∧ w.frozen? ⟨g, 9, none⟩ = false ∧ w.frozen? ⟨g, 10, none⟩ = false ∧ w.frozen? ⟨g, 11, none⟩ = false ∧ w.frozen? ⟨g, 12, none⟩ = false ∧ w.frozen? ⟨g, 13, none⟩ = false ∧ w.frozen? ⟨g, 14, none⟩ = false ∧ w.frozen? ⟨g, 15, none⟩ = false ∧ w.frozen? ⟨g, 16, none⟩ = false := ⟨h.cell 0, h.cell 1, h.cell 2, h.cell 3, h.cell 4, h.cell 5, h.cell 6, h.cell 7, h.cell 8, h.cell 9, h.cell 10, h.cell 11, h.cell 12, h.cell 13, h.cell 14, h.cell 15, h.cell 16, h.frozen 0, h.frozen 1, h.frozen 2, h.frozen 3, h.frozen 4, h.frozen 5, h.frozen 6, h.frozen 7, h.frozen 8, h.frozen 9, h.frozen 10, h.frozen 11, h.frozen 12, h.frozen 13, h.frozen 14, h.frozen 15, h.frozen 16⟩
/-- several cells of a block, one behind the other -/
def puts (w : World) (g : Nat) : Nat → List Value → World
  | _, [] => w
  | k, v :: vs => puts (w.setCell ⟨g, k, none⟩ v) g (k + 1) vs
def setsA (cs : Array Value) : Nat → List Value → Array Value
  | _, [] => cs
  | k, v :: vs => setsA (cs.setIfInBounds k v) (k + 1) vs
theorem Blk.putAll {g : Nat} {t : TypeId} : ∀ (vs : List Value) {w : World} {cs : Array Value} (k : Nat), Blk w g t cs → Blk (puts w g k vs) g t (setsA cs k vs)
  | [], _, _, _, h => h
  | v :: vs, _, _, k, h => Blk.putAll vs (k + 1) (h.set_ k v)
theorem puts_heap {g : Nat} : ∀ (vs : List Value) (w : World) (k : Nat), (∀ x, x ≠ g → (puts w g k vs).heap[x]? = w.heap[x]?) ∧ (puts w g k vs).heap.size = w.heap.size ∧ (puts w g k vs).os = w.os ∧ (puts w g k vs).tape = w.tape ∧ (puts w g k vs).output = w.output
  | [], _, _ => ⟨fun _ _ => rfl, rfl, rfl, rfl, rfl⟩
  | v :: vs, w, k => by
    obtain ⟨h1, h2, h3, h4, h5⟩ := puts_heap (g := g) vs (w.setCell ⟨g, k, none⟩ v) (k + 1)
    exact ⟨fun x hx => (h1 x hx).trans (Below.heap_setCell w ⟨g, k, none⟩ v x hx), h2.trans (by simp [World.setCell]), h3, h4, h5⟩
theorem Blk.putsFar {g g' : Nat} {t : TypeId} {w : World} {cs : Array Value} (h : Blk w g t cs) (hne : g ≠ g') (k : Nat) (vs : List Value) : Blk (puts w g' k vs) g t cs := ((puts_heap vs w k).1 g hne).trans h
theorem bl_puts {w v : World} (h : Below w.heap.size w v) {g : Nat} (hg : w.heap.size ≤ g) (k : Nat) (vs : List Value) : Below w.heap.size w (puts v g k vs) := by
  obtain ⟨h1, h2, h3, h4, h5⟩ := puts_heap (g := g) vs v k
  exact ⟨h3.trans h.os, h4.trans h.tape, h5.trans h.output, by rw [h2]; exact h.size, fun i hi => (h1 i (by omega)).trans (h.block i hi)⟩
/-! rows of things of several cells each -/
section
variable {α : Type} {f : α → List Value} {k : Nat}
theorem flat_len (h : ∀ a, (f a).length = k) : ∀ l : List α, (l.flatMap f).length = l.length * k
  | [] => by simp
  | a :: l => by rw [List.flatMap_cons, List.length_append, h, flat_len h l, List.length_cons, Nat.succ_mul, Nat.add_comm]
theorem flat_at (h : ∀ a, (f a).length = k) : ∀ (l : List α) (i : Nat) (a : α), l[i]? = some a → ∀ j u, (f a)[j]? = some u → (l.flatMap f)[i * k + j]? = some u
  | [], i, a, hi => by simp at hi
  | x :: l, 0, a, hi => by
    intro j u hu
    simp at hi
    subst hi
    have hj : j < (f x).length := (List.getElem?_eq_some_iff.1 hu).1
    rw [List.flatMap_cons, Nat.zero_mul, Nat.zero_add, List.getElem?_append_left hj]
    exact hu
  | x :: l, i + 1, a, hi => by
    intro j u hu
    have ih := flat_at h l i a (by simpa using hi) j u hu
    rw [List.flatMap_cons, List.getElem?_append_right (by rw [h, Nat.succ_mul]; omega), h, show (i + 1) * k + j - k = i * k + j from by rw [Nat.succ_mul]; omega]
    exact ih
theorem flat_snoc (l : List α) (a : α) : (l ++ [a]).flatMap f = l.flatMap f ++ f a := by simp
end
theorem own_base {w : World} {base base' : Nat} {e : TypeId} {size : Nat} {v : Value} {n : Nat} {xs : List Value} (h : w.ownsRow base e size v n xs) (hb : base' ≤ base) : w.ownsRow base' e size v n xs := by
  refine ⟨h.1, ?_⟩
  rcases h.2 with hn | ⟨g, cap, cur, rfl, hg, rest⟩
  · exact .inl hn
  · exact .inr ⟨g, cap, cur, rfl, Nat.le_trans hb hg, rest⟩
theorem own_keep {w w' : World} {base : Nat} {e : TypeId} {size : Nat} {v : Value} {n : Nat} {xs : List Value} (h : w.ownsRow base e size v n xs) (hk : ∀ g, v.ownBlock = some g → w'.heap[g]? = w.heap[g]?) : w'.ownsRow base e size v n xs := by
  refine ⟨h.1, ?_⟩
  rcases h.2 with hn | ⟨g, cap, cur, rfl, hb, hgg, rest⟩
  · exact .inl hn
  · exact .inr ⟨g, cap, cur, rfl, hb, (hk g rfl).trans hgg, rest⟩
/-- two rows of unlike elements lie apart; a row and a block of another type too -/
theorem own_ne_blk {w : World} {base : Nat} {e t : TypeId} {size : Nat} {v : Value} {n : Nat} {xs : List Value} {g : Nat} {cs : Array Value} (h : w.ownsRow base e size v n xs) (hb : Blk w g t cs) (hne : e ≠ t) : v.ownBlock ≠ some g := by
  intro hg
  rcases h.2 with ⟨rfl, _⟩ | ⟨g', cap, cur, rfl, _, hgg, _⟩
  · cases hg
  · obtain rfl : g' = g := Option.some.inj hg
    unfold Blk at hb
    rw [hgg] at hb
    injection hb with hb
    injection hb with _ ht
    exact hne ht
theorem own_ne_own {w : World} {base base' : Nat} {e e' : TypeId} {size size' : Nat} {v v' : Value} {n n' : Nat} {xs xs' : List Value} (h : w.ownsRow base e size v n xs) (h' : w.ownsRow base' e' size' v' n' xs') (hne : e ≠ e') {g : Nat} (hg : v.ownBlock = some g) : v'.ownBlock ≠ some g := by
  intro hg'
  rcases h.2 with ⟨rfl, _⟩ | ⟨g1, cap, cur, rfl, _, hgg, _⟩
  · cases hg
  · rcases h'.2 with ⟨rfl, _⟩ | ⟨g2, cap', cur', rfl, _, hgg', _⟩
    · cases hg'
    · obtain rfl : g1 = g := Option.some.inj hg
      obtain rfl : g2 = g1 := Option.some.inj hg'
      rw [hgg] at hgg'
      injection hgg' with hb
      injection hb with _ ht
      exact hne ht
/-- a slice from its row's begin on that holds these things -/
def Lies {α : Type} (f : α → List Value) (e : TypeId) (k : Nat) (w : World) (v : Value) (l : List α) : Prop := w.ownsRow 0 e k v l.length (l.flatMap f)
section
variable {α : Type} {f : α → List Value} {e : TypeId} {k : Nat} {w w' : World} {v : Value} {l : List α}
theorem Lies.nil : Lies f e k w (.slice none 0 0) [] := World.ownsRow_nil w 0 e k
theorem Lies.of {base : Nat} (h : w.ownsRow base e k v l.length (l.flatMap f)) : Lies f e k w v l := own_base h (Nat.zero_le _)
theorem Lies.below (h : Lies f e k w v l) (hb : Below w.heap.size w w') : Lies f e k w' v l := own_keep h fun g hg => hb.block g (h.lt g hg).2
theorem Lies.keep (h : Lies f e k w v l) (hk : ∀ g, v.ownBlock = some g → w'.heap[g]? = w.heap[g]?) : Lies f e k w' v l := own_keep h hk
theorem Lies.far (h : Lies f e k w v l) {p : Addr} (hp : v.ownBlock ≠ some p.block) (u : Value) : Lies f e k (w.setCell p u) v l :=
  own_keep h fun g hg => Below.heap_setCell _ _ _ _ (fun e => hp (by rw [hg, e]))
theorem Lies.putsFar (h : Lies f e k w v l) {g : Nat} (hg : v.ownBlock ≠ some g) (j : Nat) (vs : List Value) : Lies f e k (puts w g j vs) v l :=
  own_keep h fun x hx => (puts_heap vs w j).1 x (fun e => hg (by rw [hx, e]))
theorem Lies.alloc (h : Lies f e k w v l) (o : Obj) : Lies f e k (w.alloc o) v l := World.ownsRow.alloc h o
theorem Lies.ends {A : Option Addr} {n c : Nat} (h : Lies f e k w (.slice A n c) l) : n = l.length ∧ n ≤ c ∧ c ≤ maxLen ∧ (0 < n → ∃ g, A = some ⟨g, 0, none⟩ ∧ g < w.heap.size) := by
  rcases h.2 with ⟨h1, h2⟩ | ⟨g, cap, cur, h1, _, hg, hc, hm, _⟩
  · injection h1 with e1 e2 e3
    subst e1 e2 e3
    exact ⟨h2.symm, Nat.le_refl _, Nat.zero_le _, fun h => absurd h (Nat.lt_irrefl 0)⟩
  · injection h1 with e1 e2 e3
    subst e1 e2 e3
    exact ⟨rfl, hc, hm, fun _ => ⟨g, rfl, (Array.getElem?_eq_some_iff.1 hg).1⟩⟩
theorem Lies.open (h : Lies f e k w v l) : ∃ A c, v = .slice A l.length c ∧ l.length ≤ c ∧ c ≤ maxLen ∧ (0 < l.length → ∃ g, A = some ⟨g, 0, none⟩ ∧ g < w.heap.size) := by
  rcases h.2 with ⟨rfl, h2⟩ | ⟨g, cap, cur, rfl, _, hg, hc, hm, _⟩
  · rw [h2]
    exact ⟨none, 0, rfl, Nat.le_refl _, Nat.zero_le _, fun h => absurd h (Nat.lt_irrefl 0)⟩
  · exact ⟨_, cap, rfl, hc, hm, fun _ => ⟨g, rfl, (Array.getElem?_eq_some_iff.1 hg).1⟩⟩
theorem Lies.at {g n c : Nat} (h : Lies f e k w (.slice (some ⟨g, 0, none⟩) n c) l) (hf : ∀ a, (f a).length = k) {i : Nat} {a : α} (hi : l[i]? = some a) {j : Nat} {u : Value} (hu : (f a)[j]? = some u) : w.cell? ⟨g, i * k + j, none⟩ = some u := by
  have h1 := World.ownsRow.cells h (g := g) rfl (i * k + j) u (flat_at hf l i a hi j u hu)
  have hadd : (⟨g, 0, none⟩ : Addr).add (i * k + j) = ⟨g, i * k + j, none⟩ := by unfold Addr.add; split <;> simp_all
  rwa [hadd] at h1
end
end Go.Proofs.YtcgkfgklggjmaaaDoor
end
section
namespace Go.Proofs.YtcgkfgklggjmaaaDoor.Par
set_option linter.unusedVariables false
set_option linter.unusedSimpArgs false
open Go.RowKit
theorem own_slice {w : World} {base : Nat} {e : TypeId} {size : Nat} {v : Value} {n : Nat} {xs : List Value} (h : w.ownsRow base e size v n xs) : ∃ A cap, v = .slice A n cap ∧ n ≤ cap ∧ (0 < n → ∃ g, A = some ⟨g, 0, none⟩) := by
  rcases h.2 with ⟨rfl, rfl⟩ | ⟨g, cap, cur, rfl, _, _, hc, _⟩
  · exact ⟨none, 0, rfl, Nat.le_refl _, fun h => absurd h (by omega)⟩
  · exact ⟨_, cap, rfl, hc, fun _ => ⟨g, rfl⟩⟩
theorem toks_len : ∀ ts : List Tok, (toksCells ts).length = ts.length * 4
  | [] => rfl
  | t :: ts => by
    have := toks_len ts
    simp only [toksCells, List.flatMap_cons, List.length_append, List.length_cons] at this ⊢
    simp only [tokCells, List.length_cons, List.length_nil]
    omega
theorem toks_at : ∀ (ts : List Tok) (k : Nat) (t : Tok), ts[k]? = some t → ∀ j u, (tokCells t)[j]? = some u → (toksCells ts)[k * 4 + j]? = some u
  | [], k, t, h => by simp at h
  | x :: ts, 0, t, h => by
    intro j u hu
    simp at h
    subst h
    have hj : j < 4 := by
      have := (List.getElem?_eq_some_iff.1 hu).1
      simpa [tokCells] using this
    simp only [toksCells, List.flatMap_cons]
    rw [List.getElem?_append_left (by simp [tokCells]; omega)]
    simpa using hu
  | x :: ts, k + 1, t, h => by
    intro j u hu
    have ih := toks_at ts k t (by simpa using h) j u hu
    simp only [toksCells, List.flatMap_cons] at ih ⊢
    rw [List.getElem?_append_right (by simp [tokCells]; omega)]
    rw [show (k + 1) * 4 + j - (tokCells x).length = k * 4 + j from by simp [tokCells]; omega]
    exact ih
theorem tok_cells {w : World} {base : Nat} {e : TypeId} {g n cap : Nat} {ts : List Tok} (h : w.ownsRow base e 4 (.slice (some ⟨g, 0, none⟩) n cap) n (toksCells ts)) {k : Nat} {t : Tok} (hk : ts[k]? = some t) (hn : n = ts.length) :
    w.cell? ⟨g, k * 4, none⟩ = some (.int .i64 t.kind) ∧ w.cell? ⟨g, k * 4 + 1, none⟩ = some (.string t.text) ∧ w.cell? ⟨g, k * 4 + 2, none⟩ = some (.int .i64 t.line) ∧ w.cell? ⟨g, k * 4 + 3, none⟩ = some (.int .i64 t.col) := by
  have hl := (List.getElem?_eq_some_iff.1 hk).1
  refine ⟨?_, ?_, ?_, ?_⟩
  · exact (h.cellAt (k * 4 + 0) (by omega)).trans (toks_at ts k t hk 0 _ rfl)
  · exact (h.cellAt (k * 4 + 1) (by omega)).trans (toks_at ts k t hk 1 _ rfl)
  · exact (h.cellAt (k * 4 + 2) (by omega)).trans (toks_at ts k t hk 2 _ rfl)
  · exact (h.cellAt (k * 4 + 3) (by omega)).trans (toks_at ts k t hk 3 _ rfl)
/-- what a method of the parser leaves as it was: every old block but the parser's -/
structure Fr (b : Nat) (w w' : World) : Prop where
  os : w'.os = w.os
  tape : w'.tape = w.tape
  output : w'.output = w.output
  size : w.heap.size ≤ w'.heap.size
  block : ∀ g, g < w.heap.size → g ≠ b → w'.heap[g]? = w.heap[g]?
theorem Fr.refl (b : Nat) (w : World) : Fr b w w := ⟨rfl, rfl, rfl, Nat.le_refl _, fun _ _ _ => rfl⟩
theorem Fr.trans {b : Nat} {u v w : World} (h : Fr b u v) (h' : Fr b v w) : Fr b u w :=
  ⟨h'.os.trans h.os, h'.tape.trans h.tape, h'.output.trans h.output, Nat.le_trans h.size h'.size, fun g hg hb => (h'.block g (Nat.lt_of_lt_of_le hg h.size) hb).trans (h.block g hg hb)⟩
theorem Fr.drew {b : Nat} {w v : World} (h : Fr b w v) : Fr b w v.drew := ⟨h.os, h.tape, h.output, h.size, h.block⟩
theorem Fr.drewN {b : Nat} {w v : World} (h : Fr b w v) (n : Nat) : Fr b w (v.drewN n) := ⟨h.os, h.tape, h.output, h.size, h.block⟩
theorem Fr.ofDrew {b : Nat} {w v : World} (h : Fr b w.drew v) : Fr b w v := ⟨h.os, h.tape, h.output, h.size, h.block⟩
theorem Fr.ofDrewN {b n : Nat} {w v : World} (h : Fr b (w.drewN n) v) : Fr b w v := ⟨h.os, h.tape, h.output, h.size, h.block⟩
theorem Fr.of_below {b : Nat} {w w' : World} (h : Below w.heap.size w w') : Fr b w w' := ⟨h.os, h.tape, h.output, h.size, fun g hg _ => h.block g hg⟩
theorem Fr.set {b : Nat} {w v : World} (h : Fr b w v) (p : Addr) (hp : p.block = b) (u : Value) : Fr b w (v.setCell p u) :=
  h.trans ⟨rfl, rfl, rfl, by simp [World.setCell], fun g _ hb => Below.heap_setCell _ _ _ _ (by rw [hp]; exact hb)⟩
theorem Fr.blk {b : Nat} {w w' : World} {g : Nat} {t : TypeId} {cs : Array Value} (h : Fr b w w') (hk : Blk w g t cs) (hg : g ≠ b) : Blk w' g t cs := (h.block g hk.lt hg).trans hk
theorem Fr.setNew {b : Nat} {w v : World} (h : Fr b w v) (p : Addr) (hp : w.heap.size ≤ p.block) (u : Value) : Fr b w (v.setCell p u) :=
  ⟨h.os, h.tape, h.output, Nat.le_trans h.size (by simp [World.setCell]), fun g hg hb => (Below.heap_setCell _ _ _ _ (by omega)).trans (h.block g hg hb)⟩
theorem Fr.putsNew {b : Nat} {w v : World} (h : Fr b w v) {g : Nat} (hg : w.heap.size ≤ g) (k : Nat) (vs : List Value) : Fr b w (puts v g k vs) := by
  obtain ⟨h1, h2, h3, h4, h5⟩ := puts_heap (g := g) vs v k
  exact ⟨h3.trans h.os, h4.trans h.tape, h5.trans h.output, by rw [h2]; exact h.size, fun i hi hb => (h1 i (by omega)).trans (h.block i hi hb)⟩
theorem Fr.trans_grown {b : Nat} {w v w' : World} {row : Option Nat} (h : Fr b w v) (hg : v.grownBy w' row) (hr : ∀ g, g < w.heap.size → row ≠ some g) : Fr b w w' :=
  ⟨hg.os.trans h.os, hg.tape.trans h.tape, hg.output.trans h.output, Nat.le_trans h.size hg.size, fun g hgl hb => (hg.block g (Nat.lt_of_lt_of_le hgl h.size) (fun e => hr g hgl e.symm)).trans (h.block g hgl hb)⟩
theorem beq_refl_bytes (a : ByteArray) : (a == a) = true := by
  cases a with
  | mk d => exact beq_self_eq_true d
theorem beq_bytes (a b : ByteArray) : (a.toList == b.toList) = (a == b) := by
  rw [Lib.toList_data, Lib.toList_data]
  by_cases h : a = b
  · subst h
    rw [beq_refl_bytes, beq_self_eq_true]
  · have h1 : (a == b) = false := by
      cases hh : (a == b) with
      | true => exact absurd (text_eq hh) h
      | false => rfl
    have h2 : (a.data.toList == b.data.toList) = false := beq_eq_false_iff_ne.2 (fun e => h (by apply ByteArray.ext; exact Array.toList_inj.mp e))
    rw [h1, h2]
end Go.Proofs.YtcgkfgklggjmaaaDoor.Par
end
section
namespace Go.Proofs.YtcgkfgklggjmaaaDoor.Par
set_option linter.unusedVariables false
set_option linter.unusedSimpArgs false
open Go.RowKit
/-- the reference's parser in memory -/
structure RAt (w : World) (b : Nat) (ts : List Tok) (r cap i : Nat) (s : St) : Prop where
  blk : Blk w b 75 #[.slice (some ⟨r, 0, none⟩) ts.length cap, .int .i64 i, .int .i64 s.err, .int .i64 s.line, .int .i64 s.col]
  row : w.ownsRow 0 61 4 (.slice (some ⟨r, 0, none⟩) ts.length cap) ts.length (toksCells ts)
  ne : r ≠ b
  rest : s.rest = ts.drop i
  lt : i < ts.length
  last : ∀ t, ts.getLast? = some t → t.kind = 0
  big : ts.length < 100000
  ends : ∀ t ∈ ts, t.text.size ≤ 8192
theorem RAt.peek_at {w : World} {b : Nat} {ts : List Tok} {r cap i : Nat} {s : St} (h : RAt w b ts r cap i s) : ts[i]? = some (peek s) := by
  unfold peek
  rw [h.rest, List.getElem?_eq_getElem h.lt, List.drop_eq_getElem_cons h.lt]
  rfl
theorem RAt.tok {w : World} {b : Nat} {ts : List Tok} {r cap i : Nat} {s : St} (h : RAt w b ts r cap i s) :
    w.cell? ⟨r, i * 4, none⟩ = some (.int .i64 (peek s).kind) ∧ w.cell? ⟨r, i * 4 + 1, none⟩ = some (.string (peek s).text) ∧ w.cell? ⟨r, i * 4 + 2, none⟩ = some (.int .i64 (peek s).line) ∧ w.cell? ⟨r, i * 4 + 3, none⟩ = some (.int .i64 (peek s).col) :=
  tok_cells h.row h.peek_at rfl
theorem RAt.below {w w' : World} {b : Nat} {ts : List Tok} {r cap i : Nat} {s : St} (h : RAt w b ts r cap i s) (hb : Below w.heap.size w w') : RAt w' b ts r cap i s :=
  ⟨h.blk.call hb, own_base (ownsRow_below h.row hb) (Nat.zero_le _), h.ne, h.rest, h.lt, h.last, h.big, h.ends⟩
theorem RAt.far {w : World} {b : Nat} {ts : List Tok} {r cap i : Nat} {s : St} (h : RAt w b ts r cap i s) (p : Addr) (hb : b ≠ p.block) (hr : r ≠ p.block) (u : Value) : RAt (w.setCell p u) b ts r cap i s :=
  ⟨h.blk.far hb u, own_keep h.row (fun g hg => by obtain rfl : r = g := Option.some.inj hg; exact Below.heap_setCell _ _ _ _ hr), h.ne, h.rest, h.lt, h.last, h.big, h.ends⟩
theorem RAt.putAll {w : World} {b : Nat} {ts : List Tok} {r cap i : Nat} {s : St} (h : RAt w b ts r cap i s) {g : Nat} (hb : b ≠ g) (hr : r ≠ g) (k : Nat) (vs : List Value) : RAt (puts w g k vs) b ts r cap i s :=
  ⟨h.blk.putsFar hb k vs, own_keep h.row (fun x hx => by obtain rfl : r = x := Option.some.inj hx; exact (puts_heap vs w k).1 r hr), h.ne, h.rest, h.lt, h.last, h.big, h.ends⟩
theorem RAt.drew {w : World} {b : Nat} {ts : List Tok} {r cap i : Nat} {s : St} (h : RAt w b ts r cap i s) : RAt w.drew b ts r cap i s := ⟨h.blk, h.row, h.ne, h.rest, h.lt, h.last, h.big, h.ends⟩
theorem RAt.drewN {w : World} {b : Nat} {ts : List Tok} {r cap i : Nat} {s : St} (h : RAt w b ts r cap i s) (n : Nat) : RAt (w.drewN n) b ts r cap i s := ⟨h.blk, h.row, h.ne, h.rest, h.lt, h.last, h.big, h.ends⟩
theorem RAt.rlt {w : World} {b : Nat} {ts : List Tok} {r cap i : Nat} {s : St} (h : RAt w b ts r cap i s) : r < w.heap.size := World.block_lt_of_cell? w _ h.tok.1
theorem RAt.size {w : World} {b : Nat} {ts : List Tok} {r cap i : Nat} {s : St} (h : RAt w b ts r cap i s) : (peek s).text.size ≤ 8192 := h.ends _ (List.mem_of_getElem? h.peek_at)
theorem RAt.next {w : World} {b : Nat} {ts : List Tok} {r cap i : Nat} {s : St} (h : RAt w b ts r cap i s) (hk : (peek s).kind ≠ 0) : i + 1 < ts.length := by
  have hlt := h.lt
  rcases Nat.lt_or_ge (i + 1) ts.length with h2 | h2
  · exact h2
  · exfalso
    have hl : ts.getLast? = some (peek s) := by
      rw [List.getLast?_eq_getElem?, show ts.length - 1 = i by omega]
      exact h.peek_at
    exact hk (h.last _ hl)
/-- a step on -/
theorem RAt.step {w : World} {b : Nat} {ts : List Tok} {r cap i : Nat} {s : St} (h : RAt w b ts r cap i s) (hk : (peek s).kind ≠ 0) : RAt (w.setCell ⟨b, 1, none⟩ (.int .i64 ((i + 1 : Nat) : Int))) b ts r cap (i + 1) (drop1 s) :=
  ⟨h.blk.set_ 1 _, own_keep h.row (fun g hg => by obtain rfl : r = g := Option.some.inj hg; exact Below.heap_setCell _ _ _ _ h.ne), h.ne, by show s.rest.tail = _; rw [h.rest, List.tail_drop], h.next hk, h.last, h.big, h.ends⟩
/-- a fault -/
theorem RAt.fault {w : World} {b : Nat} {ts : List Tok} {r cap i : Nat} {s : St} (h : RAt w b ts r cap i s) (e : Int) (h0 : s.err = 0) : RAt (((w.setCell ⟨b, 2, none⟩ (.int .i64 e)).setCell ⟨b, 3, none⟩ (.int .i64 (peek s).line)).setCell ⟨b, 4, none⟩ (.int .i64 (peek s).col)) b ts r cap i (R.wrong e s) := by
  have hf : R.wrong e s = { s with err := e, line := (peek s).line, col := (peek s).col } := by unfold R.wrong Par.fail; rw [if_pos h0]
  rw [hf]
  have hrow := fun (v : World) (u : Nat) (x : Value) (hv : v.ownsRow 0 61 4 (.slice (some ⟨r, 0, none⟩) ts.length cap) ts.length (toksCells ts)) => own_keep (w' := v.setCell ⟨b, u, none⟩ x) hv (fun g hg => by obtain rfl : r = g := Option.some.inj hg; exact Below.heap_setCell _ _ _ _ h.ne)
  exact ⟨((h.blk.set_ 2 _).set_ 3 _).set_ 4 _, hrow _ 4 _ (hrow _ 3 _ (hrow _ 2 _ h.row)), h.ne, h.rest, h.lt, h.last, h.big, h.ends⟩
set_option maxHeartbeats 2000000 in
set_option maxRecDepth 100000 in
theorem wrong_any {w : World} {b : Nat} {ts : List Tok} {r cap i : Nat} {s : St} (h : RAt w b ts r cap i s) (e : Int) :
    Calls Tryd.prog 42 #[.pointer (some ⟨b, 0, none⟩), .int .i64 e] w fun en w' => en = .returned (.tuple #[]) ∧ RAt w' b ts r cap i (R.wrong e s) ∧ Fr b w w' := by
  obtain ⟨t0, t1, t2, t3⟩ := h.tok
  obtain ⟨c0, c1, c2, c3, c4, f0, f1, f2, f3, f4⟩ := h.blk.c5
  have hb := h.blk.lt
  have hr := h.rlt
  have hne := h.ne
  have hlt := h.lt
  have hbig := h.big
  have b0 : (0 : Int) ≤ (i : Int) := by omega
  have b1 : (i : Int) < (ts.length : Int) := by omega
  by_cases h0 : s.err = 0
  · have hF := h.fault e h0
    rw [h0] at c2
    generalize R.wrong e s = s' at *
    generalize peek s = t at *
    clear h0
    go_enter Tryd.func42, Tryd.ntmps42
    go_wp2_with fail
    go_region
    all_goals go_wp2_with fail
    all_goals go_region
    all_goals go_wp2_with fail
    all_goals go_end0
    exact ⟨rfl, hF.drew.drew, (((((Fr.refl b w).set ⟨b, 2, none⟩ rfl (.int .i64 e)).set ⟨b, 3, none⟩ rfl (.int .i64 t.line)).set ⟨b, 4, none⟩ rfl (.int .i64 t.col)).drew).drew⟩
  · have hn : (s.err == 0) = false := beq_eq_false_iff_ne.2 h0
    have hw : R.wrong e s = s := fail_keep h0
    rw [hw]
    go_enter Tryd.func42, Tryd.ntmps42
    go_wp2_with fail
    go_end0
    exact ⟨rfl, h, Fr.refl b w⟩
set_option maxHeartbeats 2000000 in
set_option maxRecDepth 100000 in
theorem on_any {w : World} {b : Nat} {ts : List Tok} {r cap i : Nat} {s : St} (h : RAt w b ts r cap i s) (x : ByteArray) :
    Calls Tryd.prog 109 #[.pointer (some ⟨b, 0, none⟩), .string x] w fun en w' => en = .returned (.bool (s.err == 0 && on x s)) ∧ Below w.heap.size w w' := by
  obtain ⟨t0, t1, t2, t3⟩ := h.tok
  obtain ⟨c0, c1, c2, c3, c4, f0, f1, f2, f3, f4⟩ := h.blk.c5
  have hb := h.blk.lt
  have hr := h.rlt
  have hlt := h.lt
  have hbig := h.big
  have b0 : (0 : Int) ≤ (i : Int) := by omega
  have b1 : (i : Int) < (ts.length : Int) := by omega
  have hon : on x s = (((peek s).kind == 2 || (peek s).kind == 5) && (peek s).text == x) := rfl
  rw [hon]
  clear hon
  have kz := Blk.new w 61 #[.int .i64 0, .string ⟨#[]⟩, .int .i64 0, .int .i64 0]
  obtain ⟨z0, z1, z2, z3, _⟩ := kz.c4
  generalize peek s = t at *
  have hcase : (s.err == 0) = false ∨ ((s.err == 0) = true ∧ (t.kind == 2) = true) ∨ ((s.err == 0) = true ∧ (t.kind == 2) = false ∧ (t.kind == 5) = true) ∨ ((s.err == 0) = true ∧ (t.kind == 2) = false ∧ (t.kind == 5) = false) := by
    cases (s.err == 0) <;> cases (t.kind == 2) <;> cases (t.kind == 5) <;> simp
  rcases hcase with h0 | ⟨h0, h2⟩ | ⟨h0, h2, h5⟩ | ⟨h0, h2, h5⟩
  all_goals
    go_enter Tryd.func109, Tryd.ntmps109
    go_wp2_with fail
    go_region
    all_goals go_wp2_with fail
    all_goals go_ret
    refine ⟨?_, bl_drew (bl_alloc (bl_refl w) _)⟩
  · rw [h0]; rfl
  · rw [h0, h2, ← beq_bytes]; rfl
  · rw [h0, h2, h5, ← beq_bytes]; rfl
  · rw [h0, h2, h5]; rfl
end Go.Proofs.YtcgkfgklggjmaaaDoor.Par
end
section
namespace Go.Proofs.YtcgkfgklggjmaaaDoor.Par
set_option linter.unusedVariables false
set_option linter.unusedSimpArgs false
open Go.RowKit
set_option maxHeartbeats 2000000 in
set_option maxRecDepth 100000 in
theorem take_any {w : World} {b : Nat} {ts : List Tok} {r cap i : Nat} {s : St} (h : RAt w b ts r cap i s) (x : ByteArray) :
    Calls Tryd.prog 70 #[.pointer (some ⟨b, 0, none⟩), .string x] w fun en w' => en = .returned (.bool (R.take x s).1) ∧ (∃ j, RAt w' b ts r cap j (R.take x s).2) ∧ Fr b w w' := by
  have hb := h.blk.lt
  have hlt := h.lt
  have hbig := h.big
  have hon := on_any h x
  by_cases hc : s.err = 0 ∧ on x s = true
  · have e0 : R.take x s = (true, drop1 s) := by unfold R.take; rw [if_pos hc]
    have e1 : (s.err == 0 && on x s) = true := by rw [hc.1, hc.2]; rfl
    rw [e0]
    rw [e1] at hon
    have hst := fun v (hv : Below w.heap.size w v) => (h.below hv).step (on_kind hc.2)
    have hnx := h.next (on_kind hc.2)
    clear e0 e1 hc
    go_enter Tryd.func70, Tryd.ntmps70
    go_wp2_with fail
    refine hon.mono ?_
    rintro e w1 ⟨rfl, hb1⟩
    have h1 := h.below hb1
    obtain ⟨c0, c1, c2, c3, c4, f0, f1, f2, f3, f4⟩ := h1.blk.c5
    have hbl1 := h1.blk.lt
    go_wp2_with fail
    go_ret
    refine ⟨rfl, ⟨i + 1, ?_⟩, (Fr.of_below hb1).set ⟨b, 1, none⟩ rfl _⟩
    exact hst w1 hb1
  · have e0 : R.take x s = (false, s) := by unfold R.take; rw [if_neg hc]
    have e1 : (s.err == 0 && on x s) = false := by
      cases h1 : (s.err == 0) with
      | false => rfl
      | true => cases h2 : on x s with
        | false => rfl
        | true => exact absurd ⟨by simpa using h1, h2⟩ hc
    rw [e0]
    rw [e1] at hon
    clear e0 e1 hc
    go_enter Tryd.func70, Tryd.ntmps70
    go_wp2_with fail
    refine hon.mono ?_
    rintro e w1 ⟨rfl, hb1⟩
    go_wp2_with fail
    go_ret
    exact ⟨rfl, ⟨i, h.below hb1⟩, Fr.of_below hb1⟩
set_option maxHeartbeats 2000000 in
set_option maxRecDepth 100000 in
theorem want_any {w : World} {b : Nat} {ts : List Tok} {r cap i : Nat} {s : St} (h : RAt w b ts r cap i s) (x : ByteArray) :
    Calls Tryd.prog 35 #[.pointer (some ⟨b, 0, none⟩), .string x] w fun en w' => en = .returned (.tuple #[]) ∧ (∃ j, RAt w' b ts r cap j (R.want x s)) ∧ Fr b w w' := by
  have ht := take_any h x
  unfold R.want
  generalize R.take x s = y at *
  obtain ⟨y1, y2⟩ := y
  cases y1 with
  | true =>
    rw [if_pos rfl]
    go_enter Tryd.func35, Tryd.ntmps35
    go_wp2_with fail
    refine ht.mono ?_
    rintro e w1 ⟨rfl, hP, hF⟩
    go_wp2_with fail
    go_end0
    exact ⟨rfl, hP, hF⟩
  | false =>
    rw [if_neg (fun e => Bool.false_ne_true e)]
    go_enter Tryd.func35, Tryd.ntmps35
    go_wp2_with fail
    refine ht.mono ?_
    rintro e w1 ⟨rfl, ⟨j, hP⟩, hF⟩
    go_wp2_with fail
    refine (wrong_any hP 4).mono ?_
    rintro e w2 ⟨rfl, hP2, hF2⟩
    go_wp2_with fail
    go_end0
    exact ⟨rfl, ⟨j, hP2⟩, hF.trans hF2⟩
set_option maxHeartbeats 2000000 in
set_option maxRecDepth 100000 in
theorem token_any {w : World} {b : Nat} {ts : List Tok} {r cap i : Nat} {s : St} (h : RAt w b ts r cap i s) (k : Int) (hk0 : k ≠ 0) :
    Calls Tryd.prog 36 #[.pointer (some ⟨b, 0, none⟩), .int .i64 k] w fun en w' => en = .returned (.string (R.token k s).1) ∧ (∃ j, RAt w' b ts r cap j (R.token k s).2) ∧ Fr b w w' := by
  obtain ⟨t0, t1, t2, t3⟩ := h.tok
  obtain ⟨c0, c1, c2, c3, c4, f0, f1, f2, f3, f4⟩ := h.blk.c5
  have hb := h.blk.lt
  have hr := h.rlt
  have hlt := h.lt
  have hbig := h.big
  have b0 : (0 : Int) ≤ (i : Int) := by omega
  have b1 : (i : Int) < (ts.length : Int) := by omega
  have kz := Blk.new w 61 #[.int .i64 0, .string ⟨#[]⟩, .int .i64 0, .int .i64 0]
  obtain ⟨z0, z1, z2, z3, _⟩ := kz.c4
  have hbl := bl_drew (bl_alloc (bl_refl w) (.cells #[.int .i64 (peek s).kind, .string (peek s).text, .int .i64 (peek s).line, .int .i64 (peek s).col] 61))
  have h1 := h.below hbl
  have hw := wrong_any h1 4
  by_cases hc : s.err ≠ 0 ∨ (peek s).kind ≠ k
  · have e0 : R.token k s = (⟨#[]⟩, R.wrong 4 s) := by unfold R.token; rw [if_pos hc]
    rw [e0]
    have hcase : (s.err != 0) = true ∨ ((s.err != 0) = false ∧ ((peek s).kind != k) = true) := by
      by_cases h0 : s.err = 0
      · right
        rw [h0]
        exact ⟨rfl, bne_iff_ne.2 (hc.resolve_left (fun e => e h0))⟩
      · left; exact bne_iff_ne.2 h0
    generalize R.wrong 4 s = s' at *
    generalize peek s = t at *
    clear e0 hc
    rcases hcase with g0 | ⟨g0, g1⟩
    all_goals
      go_enter Tryd.func36, Tryd.ntmps36
      go_wp2_with fail
      go_region
      go_wp2_with fail
      refine hw.mono ?_
      rintro e w1 ⟨rfl, hP, hF⟩
      go_wp2_with fail
      go_ret
      exact ⟨rfl, ⟨i, hP⟩, (Fr.of_below hbl).trans hF⟩
  · have hc1 : s.err = 0 := Classical.byContradiction fun e => hc (.inl e)
    have hc2 : (peek s).kind = k := Classical.byContradiction fun e => hc (.inr e)
    have e0 : R.token k s = ((peek s).text, drop1 s) := by unfold R.token; rw [if_neg hc]
    rw [e0]
    have g0 : (s.err != 0) = false := by rw [hc1]; rfl
    have g1 : ((peek s).kind != k) = false := by rw [hc2]; simp
    have hst := ((h.step (by rw [hc2]; exact hk0)).below (bl_alloc (bl_refl _) (.cells #[.int .i64 (peek s).kind, .string (peek s).text, .int .i64 (peek s).line, .int .i64 (peek s).col] 61))).drew
    generalize peek s = t at *
    clear e0 hc hc1 hc2
    go_enter Tryd.func36, Tryd.ntmps36
    go_wp2_with fail
    go_region
    go_wp2_with fail
    go_ret
    exact ⟨rfl, ⟨i + 1, hst⟩, (((Fr.refl b w).set ⟨b, 1, none⟩ rfl _).trans (Fr.of_below (bl_alloc (bl_refl _) _))).drew⟩
end Go.Proofs.YtcgkfgklggjmaaaDoor.Par
end
section
namespace Go.Proofs.YtcgkfgklggjmaaaDoor.Par
set_option linter.unusedVariables false
set_option linter.unusedSimpArgs false
open Go.RowKit
/-- a day's values, as date.Parse says them -/
def dp (t : ByteArray) : Day := (pY t, pM t, pD t)
def dayV (d : Day) : Value := .agg #[.int .i64 d.1, .int .i64 d.2.1, .int .i64 d.2.2]
end Go.Proofs.YtcgkfgklggjmaaaDoor.Par
end
section
namespace Go.Proofs.YtcgkfgklggjmaaaDoor.Par
set_option linter.unusedVariables false
set_option linter.unusedSimpArgs false
open Go.RowKit
def strF (s : ByteArray) : List Value := [.string s]
theorem strF_len (s : ByteArray) : (strF s).length = 1 := rfl
theorem strs_blk {w : World} {g n c : Nat} {cs : Array Value} {ws : List ByteArray} (h : Blk w g 9 cs) (hc : cs.toList = ws.flatMap strF) (hn : ws.length = n) (hcc : cs.size = c) (hnc : n ≤ c) (hm : c ≤ maxLen) : Lies strF 9 1 w (.slice (some ⟨g, 0, none⟩) n c) ws := by
  subst hn
  refine ⟨by rw [flat_len strF_len], .inr ⟨g, c, cs, rfl, Nat.zero_le _, h, hnc, hm, by omega, ?_⟩⟩
  rw [hc]
  apply List.take_of_length_le
  rw [flat_len strF_len]
  omega
theorem Fr.lies {α : Type} {f : α → List Value} {e : TypeId} {k b : Nat} {w w' : World} {v : Value} {l : List α} (h : Fr b w w') (hl : Lies f e k w v l) (hb : v.ownBlock ≠ some b) : Lies f e k w' v l :=
  hl.keep fun g hg => h.block g (hl.lt g hg).2 (fun e => hb (by rw [hg, e]))
theorem one_drop (w : ByteArray) (ws : List ByteArray) (i : Int) (s : St) (h : (R.take w s).1 = false) : R.one (w :: ws) i s = R.one ws (i + 1) s := by
  rw [R.one, if_neg (by rw [h]; exact Bool.false_ne_true), take_no h]
set_option maxHeartbeats 2000000 in
set_option maxRecDepth 100000 in
theorem one_any {w : World} {b : Nat} {ts : List Tok} {r cap i : Nat} {s : St} (h : RAt w b ts r cap i s) (g c : Nat) (ws : List ByteArray) (hg : g ≠ b) (hl : Lies strF 9 1 w (.slice (some ⟨g, 0, none⟩) ws.length c) ws) (h0 : ws ≠ []) :
    Calls Tryd.prog 38 #[.pointer (some ⟨b, 0, none⟩), .slice (some ⟨g, 0, none⟩) ws.length c] w fun en w' => en = .returned (.int .i64 (R.one ws 0 s).1) ∧ (∃ j, RAt w' b ts r cap j (R.one ws 0 s).2) ∧ Fr b w w' := by
  have hcm : ws.length ≤ c ∧ c ≤ maxLen := by
    obtain ⟨_, h2, h3, _⟩ := hl.ends
    exact ⟨h2, h3⟩
  obtain ⟨hc1, hc2⟩ := hcm
  unfold maxLen at hc2
  obtain ⟨R0, hR0⟩ : ∃ R0, R0 = R.one ws 0 s := ⟨_, rfl⟩
  rw [← hR0]
  have HR := Lib.hid (show R.one (ws.drop 0) ((0 : Nat) : Int) s = R0 from hR0.symm)
  clear hR0
  go_enter Tryd.func38, Tryd.ntmps38
  go_wp2_with fail
  go_loopw [9] (fun v9 wr => ∃ k j : Nat, k ≤ ws.length ∧ v9 = .int .i64 k ∧ RAt wr b ts r cap j s ∧ Fr b w wr ∧ Hid (R.one (ws.drop k) (k : Int) s = R0)) (fun v9 _ => ws.length - (intOf v9).toNat)
  case atStart => exact ⟨0, i, Nat.zero_le _, rfl, h, Fr.refl b w, HR⟩
  case round =>
    obtain ⟨k, j, hk, rfl, hP, hF, HK⟩ := hrel
    by_cases hlt : k < ws.length
    · have hl1 := hF.lies hl (by intro e; exact hg (Option.some.inj e))
      obtain ⟨x, hx⟩ : ∃ x, ws[k]? = some x := ⟨_, List.getElem?_eq_getElem hlt⟩
      have hcell := hl1.at strF_len hx (j := 0) (u := .string x) rfl
      rw [Nat.mul_one, Nat.add_zero] at hcell
      have hgl := World.block_lt_of_cell? wr _ hcell
      have hdr : ws.drop k = x :: ws.drop (k + 1) := by
        rw [List.drop_eq_getElem_cons hlt]
        congr 1
        rw [List.getElem?_eq_getElem hlt] at hx
        exact Option.some.inj hx
      have b0 : (0 : Int) ≤ (k : Int) := by omega
      have b1 : (k : Int) < (ws.length : Int) := by omega
      have ht := take_any hP x
      have HD := Lib.hid hdr
      have HX := Lib.hid hx
      clear hdr hx
      cases hc : (R.take x s).1 with
      | true =>
        have h2 : R0 = ((k : Int), (R.take x s).2) := by rw [← HK.out, HD.out, R.one, if_pos hc]
        rw [hc] at ht
        clear HK HR
        subst h2
        go_wp2_with (go_at_call 70; refine ht.mono ?_; rintro e w1 ⟨rfl, hP1, hF1⟩)
        go_ret
        exact ⟨rfl, hP1, hF.trans hF1⟩
      | false =>
        have h2 : R.one (ws.drop (k + 1)) (((k + 1 : Nat)) : Int) s = R0 := by
          rw [← HK.out, HD.out, one_drop _ _ _ _ hc]; rfl
        have H2 := Lib.hid h2
        rw [hc, take_no hc] at ht
        clear HK HR h2 hc
        go_wp2_with (go_at_call 70; refine ht.mono ?_; rintro e w1 ⟨rfl, hP1, hF1⟩)
        go_roundw
        case rel =>
          obtain ⟨j1, hP1⟩ := hP1
          exact ⟨k + 1, j1, by omega, by go_num, hP1, hF.trans hF1, H2⟩
        case measure => simp [intOf]; omega
    · obtain rfl : k = ws.length := by omega
      have h2 : R0 = (-1, s) := by rw [← HK.out, List.drop_length]; rfl
      clear HK HR
      subst h2
      go_wp2_with fail
      go_ret
      exact ⟨rfl, ⟨j, hP⟩, hF⟩
end Go.Proofs.YtcgkfgklggjmaaaDoor.Par
end
section
namespace Go.Proofs.YtcgkfgklggjmaaaDoor.Par
set_option linter.unusedVariables false
set_option linter.unusedSimpArgs false
open Go.RowKit
set_option maxHeartbeats 2000000 in
set_option maxRecDepth 100000 in
theorem rmode_any {w : World} {b : Nat} {ts : List Tok} {r cap i : Nat} {s : St} (h : RAt w b ts r cap i s) :
    Calls Tryd.prog 73 #[.pointer (some ⟨b, 0, none⟩)] w fun en w' => en = .returned (.int .i64 (R.mode s).1) ∧ (∃ j, RAt w' b ts r cap j (R.mode s).2) ∧ Fr b w w' := by
  have hbl := bl_alloc (bl_refl w) (.cells #[.string wFloor, .string wCeil, .string wHalfup, .string wHalfeven] 9)
  have hb := h.blk.lt
  have ho := one_any (h.below hbl) w.heap.size 4 [wFloor, wCeil, wHalfup, wHalfeven] (by omega) (strs_blk (Blk.new w _ _) rfl rfl rfl (Nat.le_refl _) (by decide)) (by simp)
  have hrg := one_range [wFloor, wCeil, wHalfup, wHalfeven] 0 s
  rw [← rone_eq] at hrg
  unfold R.mode
  generalize R.one [wFloor, wCeil, wHalfup, wHalfeven] 0 s = o at *
  obtain ⟨o1, o2⟩ := o
  simp only [List.length_cons, List.length_nil] at ho hrg
  by_cases hn : o1 < 0
  · have hm : max o1 0 = 0 := by omega
    simp only [if_pos hn]
    go_enter Tryd.func73, Tryd.ntmps73
    go_wp2_with fail
    refine ho.mono ?_
    rintro e w1 ⟨rfl, ⟨j, hP⟩, hF⟩
    go_wp2_with fail
    refine (wrong_any hP 4).mono ?_
    rintro e w2 ⟨rfl, hP2, hF2⟩
    go_wp2_with fail
    go_ret
    exact ⟨by rw [hm]; rfl, ⟨j, hP2⟩, ((Fr.of_below hbl).trans hF).trans hF2⟩
  · have hm : max o1 0 = o1 := by omega
    simp only [if_neg hn]
    go_enter Tryd.func73, Tryd.ntmps73
    go_wp2_with fail
    refine ho.mono ?_
    rintro e w1 ⟨rfl, ⟨j, hP⟩, hF⟩
    go_wp2_with fail
    go_ret
    exact ⟨by rw [hm]; rfl, ⟨j, hP⟩, (Fr.of_below hbl).trans hF⟩
set_option maxHeartbeats 2000000 in
set_option maxRecDepth 100000 in
theorem rday_any {w : World} {b : Nat} {ts : List Tok} {r cap i : Nat} {s : St} (h : RAt w b ts r cap i s) :
    Calls Tryd.prog 37 #[.pointer (some ⟨b, 0, none⟩)] w fun en w' => en = .returned (dayV (R.day dp s).1) ∧ (∃ j, RAt w' b ts r cap j (R.day dp s).2) ∧ Fr b w w' := by
  have hbl := bl_alloc (bl_refl w) (.cells #[.int .i64 0, .int .i64 0, .int .i64 0] 24)
  have hk := token_any (h.below hbl) 4 (by decide)
  have hb := h.blk.lt
  have kr := Blk.new w 24 #[.int .i64 0, .int .i64 0, .int .i64 0]
  have e1 : R.day dp s = (dp (R.token 4 s).1, (R.token 4 s).2) := rfl
  rw [e1]
  generalize R.token 4 s = x at *
  obtain ⟨x1, x2⟩ := x
  unfold dayV dp
  clear e1
  go_enter Tryd.func37, Tryd.ntmps37
  go_wp2_with fail
  refine hk.mono ?_
  rintro e w1 ⟨rfl, ⟨j, hP⟩, hF⟩
  have kr1 := hF.blk kr (by omega)
  go_wp2_with fail
  refine (rparse_any _ _).mono ?_
  rintro e w2 ⟨rfl, hb2⟩
  have kr2 := kr1.call hb2
  have hP2 := hP.below hb2
  have hlr := kr2.lt
  obtain ⟨r0, r1, r2, g0, g1, g2⟩ := kr2.c3
  have hr := h.rlt
  go_wp2_with fail
  have hF2 := ((Fr.of_below (b := b) hbl).trans hF).trans (Fr.of_below hb2)
  exact bodyPost_ret (results_cell_row rfl _ _ w.heap.size _ #[.int .i64 (pY x1), .int .i64 (pM x1), .int .i64 (pD x1)] (0, 0) _ rfl ((((kr2.set_ 0 _).set_ 1 _).set_ 2 _).alloc _) Tryd.underlying24 rfl (by kernel_rfl)) rfl
    ⟨rfl, ⟨j, (((hP2.far ⟨w.heap.size, 0, none⟩ (by (try dsimp only); omega) (by (try dsimp only); omega) _).far ⟨w.heap.size, 1, none⟩ (by (try dsimp only); omega) (by (try dsimp only); omega) _).far ⟨w.heap.size, 2, none⟩ (by (try dsimp only); omega) (by (try dsimp only); omega) _).below (bl_alloc (bl_refl _) _)⟩,
      (((hF2.setNew ⟨w.heap.size, 0, none⟩ (Nat.le_refl _) _).setNew ⟨w.heap.size, 1, none⟩ (Nat.le_refl _) _).setNew ⟨w.heap.size, 2, none⟩ (Nat.le_refl _) _).trans (Fr.of_below (bl_alloc (bl_refl _) _))⟩
end Go.Proofs.YtcgkfgklggjmaaaDoor.Par
end
section
namespace Go.Proofs.YtcgkfgklggjmaaaDoor.Par
set_option linter.unusedVariables false
set_option linter.unusedSimpArgs false
open Go.RowKit
def winC (x : Win) : List Value := [.bool x.has, .int .i64 x.from_.1, .int .i64 x.from_.2.1, .int .i64 x.from_.2.2, .int .i64 x.to_.1, .int .i64 x.to_.2.1, .int .i64 x.to_.2.2]
def winV (x : Win) : Value := .agg #[.bool x.has, .int .i64 x.from_.1, .int .i64 x.from_.2.1, .int .i64 x.from_.2.2, .int .i64 x.to_.1, .int .i64 x.to_.2.1, .int .i64 x.to_.2.2]
set_option maxHeartbeats 4000000 in
set_option maxRecDepth 100000 in
theorem rwindow_any {w : World} {b : Nat} {ts : List Tok} {r cap i : Nat} {s : St} (h : RAt w b ts r cap i s) :
    Calls Tryd.prog 40 #[.pointer (some ⟨b, 0, none⟩)] w fun en w' => en = .returned (winV (R.window dp s).1) ∧ (∃ j, RAt w' b ts r cap j (R.window dp s).2) ∧ Fr b w w' := by
  have hbl := bl_alloc (bl_refl w) (.cells #[.bool false, .int .i64 0, .int .i64 0, .int .i64 0, .int .i64 0, .int .i64 0, .int .i64 0] 46)
  have ht := take_any (h.below hbl) wFrom
  have hb := h.blk.lt
  have hr := h.rlt
  have kr := Blk.new w 46 #[.bool false, .int .i64 0, .int .i64 0, .int .i64 0, .int .i64 0, .int .i64 0, .int .i64 0]
  unfold R.window
  simp only
  generalize R.take wFrom s = x at *
  obtain ⟨x1, x2⟩ := x
  cases x1 with
  | false =>
    simp only [Bool.false_eq_true, if_false]
    go_enter Tryd.func40, Tryd.ntmps40
    go_wp2_with fail
    refine ht.mono ?_
    rintro e w1 ⟨rfl, ⟨j, hP⟩, hF⟩
    have kr1 := hF.blk kr (by omega)
    have hF1 := (Fr.of_below (b := b) hbl).trans hF
    obtain ⟨d0, d1, d2, d3, d4, d5, d6, g0, g1, g2, g3, g4, g5, g6⟩ := kr1.c7
    have hlr := kr1.lt
    go_wp2_with fail
    exact bodyPost_ret (results_cell_row rfl _ _ w.heap.size _ #[.bool false, .int .i64 0, .int .i64 0, .int .i64 0, .int .i64 0, .int .i64 0, .int .i64 0] (0, 0) _ rfl (kr1.putAll [_, _, _, _, _, _, _] 0) Tryd.underlying46 rfl (by kernel_rfl)) rfl
      ⟨rfl, ⟨j, hP.putAll (by omega) (by omega) 0 [_, _, _, _, _, _, _]⟩, hF1.putsNew (Nat.le_refl _) 0 [_, _, _, _, _, _, _]⟩
  | true =>
    simp only [if_true]
    have hd := fun v i (h : RAt v b ts r cap i x2) => rday_any h
    generalize R.day dp x2 = y at *
    obtain ⟨y1, y2⟩ := y
    have hw := fun v i (h : RAt v b ts r cap i y2) => want_any h wTo
    generalize R.want wTo y2 = s3 at *
    have hd4 := fun v i (h : RAt v b ts r cap i s3) => rday_any h
    generalize R.day dp s3 = z at *
    obtain ⟨z1, z2⟩ := z
    unfold dayV at hd hd4
    go_enter Tryd.func40, Tryd.ntmps40
    go_wp2_with fail
    refine ht.mono ?_
    rintro e w1 ⟨rfl, ⟨j, hP⟩, hF⟩
    have kr1 := hF.blk kr (by omega)
    have hF1 := (Fr.of_below (b := b) hbl).trans hF
    go_wp2_with fail
    refine (hd _ _ hP).mono ?_
    rintro e w2 ⟨rfl, ⟨j2, hP2⟩, hF2⟩
    have kr2 := hF2.blk kr1 (by omega)
    have hF02 := hF1.trans hF2
    have kf := Blk.new w2 24 #[.int .i64 y1.1, .int .i64 y1.2.1, .int .i64 y1.2.2]
    have hbl2 := bl_alloc (bl_refl w2) (.cells #[.int .i64 y1.1, .int .i64 y1.2.1, .int .i64 y1.2.2] 24)
    have kr3 := kr2.call hbl2
    have hP3 := hP2.below hbl2
    have hl2 := kr2.lt
    have hbb2 := hP2.blk.lt
    have hrr2 := hP2.rlt
    go_wp2_with fail
    refine (hw _ _ hP3).mono ?_
    rintro e w4 ⟨rfl, ⟨j4, hP4⟩, hF4⟩
    have kf4 := hF4.blk kf (by omega)
    have kr4 := hF4.blk kr3 (by omega)
    have hF04 := (hF02.trans (Fr.of_below hbl2)).trans hF4
    obtain ⟨f0, f1, f2, _⟩ := kf4.c3
    have hlf := kf4.lt
    obtain ⟨d0, d1, d2, d3, d4, d5, d6, g0, g1, g2, g3, g4, g5, g6⟩ := kr4.c7
    have hlr := kr4.lt
    go_wp2_with fail
    go_region_with (go_at_call 37; refine (hd4 _ _ hP4.drew).mono ?_; rintro e w5 ⟨rfl, ⟨j5, hP5⟩, hF5⟩; (have kf5 := hF5.blk kf4.drew (by omega)); (have kr5 := hF5.blk kr4.drew (by omega)); obtain ⟨f50, f51, f52, _⟩ := kf5.c3; obtain ⟨d50, d51, d52, d53, d54, d55, d56, g50, g51, g52, g53, g54, g55, g56⟩ := kr5.c7)
    all_goals
      go_wp2_with fail
      exact bodyPost_ret (results_cell_row rfl _ _ w.heap.size _ #[.bool true, .int .i64 y1.1, .int .i64 y1.2.1, .int .i64 y1.2.2, .int .i64 z1.1, .int .i64 z1.2.1, .int .i64 z1.2.2] (0, 0) _ rfl (kr5.putAll [_, _, _, _, _, _, _] 0) Tryd.underlying46 rfl (by kernel_rfl)) rfl
        ⟨rfl, ⟨j5, hP5.putAll (g := w.heap.size) (by omega) (by omega) 0 [_, _, _, _, _, _, _]⟩, (hF04.trans (hF5.ofDrew)).putsNew (Nat.le_refl _) 0 [_, _, _, _, _, _, _]⟩
end Go.Proofs.YtcgkfgklggjmaaaDoor.Par
end
section
namespace Go.Proofs.YtcgkfgklggjmaaaDoor.Par
set_option linter.unusedVariables false
set_option linter.unusedSimpArgs false
open Go.RowKit
def tierF (t : Tier) : List Value := [.int .i64 t.upto, .int .i64 t.rate]
def adjF (a : Adj) : List Value := [.int .i64 a.kind, .int .i64 a.n, .int .i64 a.mode]
theorem tierF_len (t : Tier) : (tierF t).length = 2 := rfl
theorem adjF_len (a : Adj) : (adjF a).length = 3 := rfl
abbrev TiersLie (B : Nat) (w : World) (v : Value) (l : List Tier) : Prop := w.ownsRow B 119 2 v l.length (l.flatMap tierF)
abbrev AdjsLie (B : Nat) (w : World) (v : Value) (l : List Adj) : Prop := w.ownsRow B 121 3 v l.length (l.flatMap adjF)
/-- a charge's cells, with the values of its two slices -/
def chgC (m : ByteArray) (x : Win) (al bl ki : Int) (tv : Value) (mo : Int) (av : Value) (li co : Int) : Array Value :=
  #[.string m, .bool x.has, .int .i64 x.from_.1, .int .i64 x.from_.2.1, .int .i64 x.from_.2.2, .int .i64 x.to_.1, .int .i64 x.to_.2.1, .int .i64 x.to_.2.2, .int .i64 al, .int .i64 bl, .int .i64 ki, tv, .int .i64 mo, av, .int .i64 li, .int .i64 co]
theorem own_fr {w0 w w' : World} {b : Nat} {e : TypeId} {size n : Nat} {v : Value} {xs : List Value} (ho : w.ownsRow w0.heap.size e size v n xs) (hf : Fr b w w') (hb : b < w0.heap.size) : w'.ownsRow w0.heap.size e size v n xs :=
  own_keep ho fun g hg => hf.block g (ho.lt g hg).2 (by have := (ho.lt g hg).1; omega)
theorem own_put {w : World} {base g : Nat} {e : TypeId} {size n : Nat} {v : Value} {xs : List Value} (ho : w.ownsRow base e size v n xs) (hg : v.ownBlock ≠ some g) (k : Nat) (vs : List Value) : (puts w g k vs).ownsRow base e size v n xs :=
  own_keep ho fun x hx => (puts_heap vs w k).1 x (fun e => hg (by rw [hx, e]))
theorem tierInfo : (Tryd.prog.info? 119).map (fun i => (i.zero, i.size, i.bytes)) = some (some (.agg #[.int .i64 0, .int .i64 0]), 2, 16) := by kernel_rfl
theorem adjInfo : (Tryd.prog.info? 121).map (fun i => (i.zero, i.size, i.bytes)) = some (some (.agg #[.int .i64 0, .int .i64 0, .int .i64 0]), 3, 24) := by kernel_rfl
theorem setRow_far (w : World) (g x : Nat) (cs : Array Value) (hx : x ≠ g) : (w.setRow g cs).heap[x]? = w.heap[x]? := by
  simp [World.setRow, Array.getElem?_modify, Ne.symm hx]
theorem setRow_size (w : World) (g : Nat) (cs : Array Value) : (w.setRow g cs).heap.size = w.heap.size := by simp [World.setRow]
theorem Blk.row {w : World} {g : Nat} {t : TypeId} {cs cs' : Array Value} (h : Blk w g t cs) : Blk (w.setRow g cs') g t cs' := setRow_heap w g cs cs' t (0, 0) h
theorem own_row {w : World} {base g : Nat} {e : TypeId} {size n : Nat} {v : Value} {xs : List Value} {cs : Array Value} (ho : w.ownsRow base e size v n xs) (hg : v.ownBlock ≠ some g) : (w.setRow g cs).ownsRow base e size v n xs :=
  own_keep ho fun x hx => setRow_far w g x cs (fun e => hg (by rw [hx, e]))
theorem Fr.row {b : Nat} {w v : World} (h : Fr b w v) {g : Nat} {cs : Array Value} (hg : w.heap.size ≤ g) : Fr b w (v.setRow g cs) :=
  ⟨h.os, h.tape, h.output, by rw [setRow_size]; exact h.size, fun i hi hb => (setRow_far v g i cs (by omega)).trans (h.block i hi hb)⟩
theorem RAt.row_ {w : World} {b : Nat} {ts : List Tok} {r cap i : Nat} {s : St} (h : RAt w b ts r cap i s) {g : Nat} {cs : Array Value} (hb : b ≠ g) (hr : r ≠ g) : RAt (w.setRow g cs) b ts r cap i s :=
  ⟨(setRow_far w g b cs hb).trans h.blk, own_keep h.row (fun x hx => by obtain rfl : r = x := Option.some.inj hx; exact setRow_far w g r cs hr), h.ne, h.rest, h.lt, h.last, h.big, h.ends⟩
end Go.Proofs.YtcgkfgklggjmaaaDoor.Par
end
section
namespace Go.Proofs.YtcgkfgklggjmaaaDoor.Par
set_option linter.unusedVariables false
set_option linter.unusedSimpArgs false
open Go.RowKit
/-! a plan in memory -/
def metF (m : Met) : List Value := [.string m.name, .string m.unit, .int .i64 m.max, .int .i64 m.line, .int .i64 m.col]
def feeF (f : Fee) : List Value := [.int .i64 f.amount, .bool f.win.has, .int .i64 f.win.from_.1, .int .i64 f.win.from_.2.1, .int .i64 f.win.from_.2.2, .int .i64 f.win.to_.1, .int .i64 f.win.to_.2.1, .int .i64 f.win.to_.2.2, .int .i64 f.line, .int .i64 f.col]
abbrev CT := Chg × Value × Value
def chgF (x : CT) : List Value := [.string x.1.meter, .bool x.1.win.has, .int .i64 x.1.win.from_.1, .int .i64 x.1.win.from_.2.1, .int .i64 x.1.win.from_.2.2, .int .i64 x.1.win.to_.1, .int .i64 x.1.win.to_.2.1, .int .i64 x.1.win.to_.2.2, .int .i64 x.1.allow, .int .i64 x.1.block, .int .i64 x.1.kind, x.2.1, .int .i64 x.1.mode, x.2.2, .int .i64 x.1.line, .int .i64 x.1.col]
theorem metF_len (m : Met) : (metF m).length = 5 := rfl
theorem feeF_len (f : Fee) : (feeF f).length = 10 := rfl
theorem chgF_len (x : CT) : (chgF x).length = 16 := rfl
def planC (p : Plan) (mv fv cv : Value) : Array Value := #[.string p.name, .string p.cur, .int .i64 p.from_.1, .int .i64 p.from_.2.1, .int .i64 p.from_.2.2, .int .i64 p.to_.1, .int .i64 p.to_.2.1, .int .i64 p.to_.2.2, mv, fv, cv, .int .i64 p.line, .int .i64 p.col]
def Nest (B : Nat) (w : World) (cs : List CT) : Prop := ∀ c ∈ cs, TiersLie B w c.2.1 c.1.tiers ∧ AdjsLie B w c.2.2 c.1.adjs
/-- the blocks in which a plan's rows lie -/
def blocks (mv fv cv : Value) (cs : List CT) (g : Nat) : Prop := mv.ownBlock = some g ∨ fv.ownBlock = some g ∨ cv.ownBlock = some g ∨ ∃ c ∈ cs, c.2.1.ownBlock = some g ∨ c.2.2.ownBlock = some g
structure Rows (w : World) (B : Nat) (p : Plan) (mv fv cv : Value) (cs : List CT) : Prop where
  mo : w.ownsRow B 44 5 mv p.mets.length (p.mets.flatMap metF)
  fo : w.ownsRow B 48 10 fv p.fees.length (p.fees.flatMap feeF)
  co : w.ownsRow B 52 16 cv cs.length (cs.flatMap chgF)
  eq : cs.map (·.1) = p.chgs
  ne : Nest B w cs
/-- a value that is a plan -/
def PlanLies (B : Nat) (w : World) (v : Value) (p : Plan) : Prop := ∃ mv fv cv cs, v = .agg (planC p mv fv cv) ∧ Rows w B p mv fv cv cs
section
variable {w w' : World} {B : Nat} {p : Plan} {mv fv cv : Value} {cs : List CT}
theorem Rows.lt (h : Rows w B p mv fv cv cs) {g : Nat} (hg : blocks mv fv cv cs g) : g < w.heap.size := by
  rcases hg with hg | hg | hg | ⟨c, hc, hg | hg⟩
  · exact (h.mo.lt g hg).2
  · exact (h.fo.lt g hg).2
  · exact (h.co.lt g hg).2
  · exact (World.ownsRow.lt (h.ne c hc).1 g hg).2
  · exact (World.ownsRow.lt (h.ne c hc).2 g hg).2
theorem Rows.keep (h : Rows w B p mv fv cv cs) (hk : ∀ g, blocks mv fv cv cs g → w'.heap[g]? = w.heap[g]?) : Rows w' B p mv fv cv cs :=
  ⟨own_keep h.mo fun g hg => hk g (.inl hg), own_keep h.fo fun g hg => hk g (.inr (.inl hg)), own_keep h.co fun g hg => hk g (.inr (.inr (.inl hg))), h.eq,
    fun c hc => ⟨own_keep (h.ne c hc).1 fun g hg => hk g (.inr (.inr (.inr ⟨c, hc, .inl hg⟩))), own_keep (h.ne c hc).2 fun g hg => hk g (.inr (.inr (.inr ⟨c, hc, .inr hg⟩)))⟩⟩
theorem Rows.below (h : Rows w B p mv fv cv cs) (hb : Below w.heap.size w w') : Rows w' B p mv fv cv cs := h.keep fun g hg => hb.block g (h.lt hg)
theorem Rows.base {B' : Nat} (h : Rows w B p mv fv cv cs) (hB : B' ≤ B) : Rows w B' p mv fv cv cs := ⟨own_base h.mo hB, own_base h.fo hB, own_base h.co hB, h.eq, fun c hc => ⟨own_base (h.ne c hc).1 hB, own_base (h.ne c hc).2 hB⟩⟩
/-- a block of another type is none of a plan's -/
theorem Rows.apart (h : Rows w B p mv fv cv cs) {g : Nat} {T : TypeId} {cells : Array Value} (hb : Blk w g T cells) (h1 : 44 ≠ T) (h2 : 48 ≠ T) (h3 : 52 ≠ T) (h4 : 119 ≠ T) (h5 : 121 ≠ T) : ¬ blocks mv fv cv cs g := by
  rintro (hg | hg | hg | ⟨c, hc, hg | hg⟩)
  · exact own_ne_blk h.mo hb h1 hg
  · exact own_ne_blk h.fo hb h2 hg
  · exact own_ne_blk h.co hb h3 hg
  · exact own_ne_blk (h.ne c hc).1 hb h4 hg
  · exact own_ne_blk (h.ne c hc).2 hb h5 hg
theorem Rows.fr {b : Nat} (h : Rows w B p mv fv cv cs) (hf : Fr b w w') (hb : ¬ blocks mv fv cv cs b) : Rows w' B p mv fv cv cs :=
  h.keep fun g hg => hf.block g (h.lt hg) (fun e => hb (e ▸ hg))
theorem Rows.puts_ (h : Rows w B p mv fv cv cs) {g : Nat} (hg : ¬ blocks mv fv cv cs g) (k : Nat) (vs : List Value) : Rows (puts w g k vs) B p mv fv cv cs :=
  h.keep fun x hx => (puts_heap vs w k).1 x (fun e => hg (e ▸ hx))
theorem Rows.setRow_ (h : Rows w B p mv fv cv cs) {g : Nat} (hg : ¬ blocks mv fv cv cs g) (cells : Array Value) : Rows (w.setRow g cells) B p mv fv cv cs :=
  h.keep fun x hx => setRow_far w g x cells (fun e => hg (e ▸ hx))
/-- a row's append leaves all others -/
theorem own_grown {w w' : World} {B B' : Nat} {e e' : TypeId} {k k' n n' : Nat} {v v' : Value} {xs xs' : List Value} (h : w.ownsRow B e k v n xs) (h' : w.ownsRow B' e' k' v' n' xs') (hne : e ≠ e') (hg : w.grownBy w' v'.ownBlock) : w'.ownsRow B e k v n xs :=
  own_keep h fun g hx => hg.block g (h.lt g hx).2 (fun eq => own_ne_own h h' hne hx eq.symm)
theorem Nest.grown {B B' : Nat} {e' : TypeId} {k' n' : Nat} {v' : Value} {xs' : List Value} (h : Nest B w cs) (h' : w.ownsRow B' e' k' v' n' xs') (h4 : 119 ≠ e') (h5 : 121 ≠ e') (hg : w.grownBy w' v'.ownBlock) : Nest B w' cs :=
  fun c hc => ⟨own_grown (h c hc).1 h' h4 hg, own_grown (h c hc).2 h' h5 hg⟩
theorem Rows.addMet {mv' : Value} {m : Met} (h : Rows w B p mv fv cv cs) (hg : w.grownBy w' mv.ownBlock) (ho : w'.ownsRow B 44 5 mv' (p.mets.length + 1) (p.mets.flatMap metF ++ metF m)) : Rows w' B { p with mets := p.mets ++ [m] } mv' fv cv cs :=
  ⟨by show w'.ownsRow _ _ _ _ (p.mets ++ [m]).length ((p.mets ++ [m]).flatMap metF); rw [flat_snoc, List.length_append]; exact ho, own_grown h.fo h.mo (by decide) hg, own_grown h.co h.mo (by decide) hg, h.eq, h.ne.grown h.mo (by decide) (by decide) hg⟩
theorem Rows.addFee {fv' : Value} {f : Fee} (h : Rows w B p mv fv cv cs) (hg : w.grownBy w' fv.ownBlock) (ho : w'.ownsRow B 48 10 fv' (p.fees.length + 1) (p.fees.flatMap feeF ++ feeF f)) : Rows w' B { p with fees := p.fees ++ [f] } mv fv' cv cs :=
  ⟨own_grown h.mo h.fo (by decide) hg, by show w'.ownsRow _ _ _ _ (p.fees ++ [f]).length ((p.fees ++ [f]).flatMap feeF); rw [flat_snoc, List.length_append]; exact ho, own_grown h.co h.fo (by decide) hg, h.eq, h.ne.grown h.fo (by decide) (by decide) hg⟩
theorem Rows.addChg {cv' tv av : Value} {c : Chg} (h : Rows w B p mv fv cv cs) (ht : TiersLie B w tv c.tiers) (ha : AdjsLie B w av c.adjs) (hg : w.grownBy w' cv.ownBlock) (ho : w'.ownsRow B 52 16 cv' (cs.length + 1) (cs.flatMap chgF ++ chgF (c, tv, av))) : Rows w' B { p with chgs := p.chgs ++ [c] } mv fv cv' (cs ++ [(c, tv, av)]) :=
  ⟨own_grown h.mo h.co (by decide) hg, own_grown h.fo h.co (by decide) hg, by rw [flat_snoc, List.length_append]; exact ho, by rw [List.map_append, h.eq]; rfl, fun x hx => by
    rcases List.mem_append.1 hx with hx | hx
    · exact (h.ne.grown h.co (by decide) (by decide) hg) x hx
    · obtain rfl := List.mem_singleton.1 hx
      exact ⟨own_grown ht h.co (by decide) hg, own_grown ha h.co (by decide) hg⟩⟩
theorem Rows.none (w : World) (B : Nat) (p : Plan) (h1 : p.mets = []) (h2 : p.fees = []) (h3 : p.chgs = []) : Rows w B p (.slice none 0 0) (.slice none 0 0) (.slice none 0 0) [] :=
  ⟨by rw [h1]; exact World.ownsRow_nil _ _ _ _, by rw [h2]; exact World.ownsRow_nil _ _ _ _, World.ownsRow_nil _ _ _ _, by rw [h3]; rfl, fun c hc => by cases hc⟩
end
theorem PlanLies.below {B : Nat} {w w' : World} {v : Value} {p : Plan} (h : PlanLies B w v p) (hb : Below w.heap.size w w') : PlanLies B w' v p := by
  obtain ⟨mv, fv, cv, cs, h1, h2⟩ := h
  exact ⟨mv, fv, cv, cs, h1, h2.below hb⟩
theorem metInfo : (Tryd.prog.info? 44).map (fun i => (i.zero, i.size, i.bytes)) = some (some (.agg #[.string ⟨#[]⟩, .string ⟨#[]⟩, .int .i64 0, .int .i64 0, .int .i64 0]), 5, 56) := by kernel_rfl
theorem feeInfo : (Tryd.prog.info? 48).map (fun i => (i.zero, i.size, i.bytes)) = some (some (.agg #[.int .i64 0, .bool false, .int .i64 0, .int .i64 0, .int .i64 0, .int .i64 0, .int .i64 0, .int .i64 0, .int .i64 0, .int .i64 0]), 10, 80) := by kernel_rfl
theorem chgInfo : (Tryd.prog.info? 52).map (fun i => (i.zero, i.size, i.bytes)) = some (some (.agg (chgC ⟨#[]⟩ noWin 0 0 0 (.slice none 0 0) 0 (.slice none 0 0) 0 0)), 16, 168) := by kernel_rfl
theorem Fr.toBelow {b : Nat} {w0 w w' : World} (h : Below w0.heap.size w0 w) (hf : Fr b w w') (hb : w0.heap.size ≤ b) : Below w0.heap.size w0 w' :=
  ⟨hf.os.trans h.os, hf.tape.trans h.tape, hf.output.trans h.output, Nat.le_trans h.size hf.size, fun g hg => (hf.block g (Nat.lt_of_lt_of_le hg h.size) (by omega)).trans (h.block g hg)⟩
end Go.Proofs.YtcgkfgklggjmaaaDoor.Par
end
section
namespace Go.Proofs.YtcgkfgklggjmaaaDoor.Par
set_option linter.unusedVariables false
set_option linter.unusedSimpArgs false
open Go.RowKit
/-- a number's eight bytes -/
def octets (n : Int) : List Int := [IntKind.u64.wrap n % 256, IntKind.u64.wrap n / 256 % 256, IntKind.u64.wrap n / 65536 % 256, IntKind.u64.wrap n / 16777216 % 256, IntKind.u64.wrap n / 4294967296 % 256, IntKind.u64.wrap n / 1099511627776 % 256, IntKind.u64.wrap n / 281474976710656 % 256, IntKind.u64.wrap n / 72057594037927936 % 256]
def textB (n : Int) : ByteArray := strOfNums (octets n)
set_option maxHeartbeats 4000000 in
set_option maxRecDepth 100000 in
theorem text_any (n : Int) (w : World) : Calls Tryd.prog 95 #[.int .i64 n] w fun e w' => e = .returned (.string (textB n)) ∧ Below w.heap.size w w' := by
  have kb := Blk.new w 5 ((octets n).map (Value.int .u8)).toArray
  have hcv := run_convert_bytes_arg (P := Tryd.prog) (w.alloc (.cells ((octets n).map (Value.int .u8)).toArray 5)) 86 5 Tryd.underlying86 Tryd.underlying5 w.heap.size 0 8 8 (octets n) rfl (fun i hi => by
    rw [Nat.zero_add, kb.cell i]
    have hl : i < (octets n).length := hi
    simp [List.getElem?_eq_getElem hl, List.getD]) 9 Tryd.underlying9
  clear kb
  unfold textB
  generalize hs : strOfNums (octets n) = s at *
  clear hs
  unfold octets at hcv
  simp only [List.map_cons, List.map_nil] at hcv
  go_enter Tryd.func95, Tryd.ntmps95
  go_wp2
  go_ret
  exact ⟨rfl, bl_alloc (bl_refl w) _⟩
end Go.Proofs.YtcgkfgklggjmaaaDoor.Par
end
section
namespace Go.Proofs.YtcgkfgklggjmaaaDoor.Par
set_option linter.unusedVariables false
set_option linter.unusedSimpArgs false
open Go.RowKit
/-- what lay there stays -/
structure LB (w w' : World) : Prop where
  out : Below w.heap.size w w'
theorem LB.drew {w v : World} (h : LB w v) : LB w v.drew := ⟨bl_drew h.out⟩
theorem LB.call {w v w' : World} (h : LB w v) (hb : Below v.heap.size v w') : LB w w' := ⟨bl_call h.out hb⟩
theorem LB.alloc {w v : World} (h : LB w v) (o : Obj) : LB w (v.alloc o) := ⟨bl_alloc h.out o⟩
def wYes := str [121, 101, 115]
def wNo := str [110, 111]
def winT (x : Win) : List ByteArray := [if x.has = true then wYes else wNo, textB x.from_.1, textB x.from_.2.1, textB x.from_.2.2, textB x.to_.1, textB x.to_.2.1, textB x.to_.2.2]
set_option maxHeartbeats 4000000 in
set_option maxRecDepth 100000 in
theorem win6_any (x : Win) (w : World) : Calls Tryd.prog 94 #[.agg #[.bool x.has, .int .i64 x.from_.1, .int .i64 x.from_.2.1, .int .i64 x.from_.2.2, .int .i64 x.to_.1, .int .i64 x.to_.2.1, .int .i64 x.to_.2.2]] w fun e w' => ∃ g, e = .returned (.slice (some ⟨g, 0, none⟩) 7 7) ∧ Blk w' g 9 ((winT x).map Value.string).toArray ∧ w.heap.size ≤ g ∧ Below w.heap.size w w' := by
  have kb := Blk.new w 46 #[.bool x.has, .int .i64 x.from_.1, .int .i64 x.from_.2.1, .int .i64 x.from_.2.2, .int .i64 x.to_.1, .int .i64 x.to_.2.1, .int .i64 x.to_.2.2]
  obtain ⟨c0, _, _, _, _, _, _, _, _, _, _, _, _, _⟩ := kb.c7
  have hbl := bl_alloc (bl_refl w) (.cells #[.bool x.has, .int .i64 x.from_.1, .int .i64 x.from_.2.1, .int .i64 x.from_.2.2, .int .i64 x.to_.1, .int .i64 x.to_.2.1, .int .i64 x.to_.2.2] 46)
  unfold winT wYes wNo
  cases hh : x.has with
  | true =>
    rw [hh] at kb c0 hbl
    have kd : Blk (w.alloc (.cells #[.bool true, .int .i64 x.from_.1, .int .i64 x.from_.2.1, .int .i64 x.from_.2.2, .int .i64 x.to_.1, .int .i64 x.to_.2.1, .int .i64 x.to_.2.2] 46)).drew w.heap.size 46 #[.bool true, .int .i64 x.from_.1, .int .i64 x.from_.2.1, .int .i64 x.from_.2.2, .int .i64 x.to_.1, .int .i64 x.to_.2.1, .int .i64 x.to_.2.2] := kb.drew
    have hLd : LB w (w.alloc (.cells #[.bool true, .int .i64 x.from_.1, .int .i64 x.from_.2.1, .int .i64 x.from_.2.2, .int .i64 x.to_.1, .int .i64 x.to_.2.1, .int .i64 x.to_.2.2] 46)).drew := ⟨bl_drew hbl⟩
    obtain ⟨_, k1, k2, k3, k4, k5, k6, _, _, _, _, _, _, _⟩ := kd.c7
    clear hh hbl
    simp only [if_true, Bool.false_eq_true, if_false]
    go_enter Tryd.func94, Tryd.ntmps94
    go_wp2_with fail
    go_region_held3 (fun w' => w'.cell? ⟨w.heap.size, 1, none⟩ = some (.int .i64 x.from_.1) ∧ w'.cell? ⟨w.heap.size, 2, none⟩ = some (.int .i64 x.from_.2.1) ∧ w'.cell? ⟨w.heap.size, 3, none⟩ = some (.int .i64 x.from_.2.2) ∧ w'.cell? ⟨w.heap.size, 4, none⟩ = some (.int .i64 x.to_.1) ∧ w'.cell? ⟨w.heap.size, 5, none⟩ = some (.int .i64 x.to_.2.1) ∧ w'.cell? ⟨w.heap.size, 6, none⟩ = some (.int .i64 x.to_.2.2) ∧ LB w w')
      (refine ⟨?_, ?_, ?_, ?_, ?_, ?_, ?_⟩ <;> first | with_reducible assumption | exact LB.alloc (by with_reducible assumption) _ | (go_keep; done))
      ((go_at_call 95; refine (text_any _ _).mono ?_; rintro e w6 ⟨rfl, hb6⟩; (have kW : Blk w6 w.heap.size 46 #[.bool true, .int .i64 x.from_.1, .int .i64 x.from_.2.1, .int .i64 x.from_.2.2, .int .i64 x.to_.1, .int .i64 x.to_.2.1, .int .i64 x.to_.2.2] := Blk.call (by with_reducible assumption) hb6); obtain ⟨_, j1, j2, j3, j4, j5, j6, _, _, _, _, _, _, _⟩ := kW.c7; (have hLW : LB w w6 := LB.call (by with_reducible assumption) hb6)))
    all_goals go_split_ands
    go_wp2_with fail
    go_ret
    exact ⟨_, rfl, Blk.new _ _ _, hLW.out.size, bl_alloc hLW.out _⟩
  | false =>
    rw [hh] at kb c0 hbl
    have kd : Blk (w.alloc (.cells #[.bool false, .int .i64 x.from_.1, .int .i64 x.from_.2.1, .int .i64 x.from_.2.2, .int .i64 x.to_.1, .int .i64 x.to_.2.1, .int .i64 x.to_.2.2] 46)).drew w.heap.size 46 #[.bool false, .int .i64 x.from_.1, .int .i64 x.from_.2.1, .int .i64 x.from_.2.2, .int .i64 x.to_.1, .int .i64 x.to_.2.1, .int .i64 x.to_.2.2] := kb.drew
    have hLd : LB w (w.alloc (.cells #[.bool false, .int .i64 x.from_.1, .int .i64 x.from_.2.1, .int .i64 x.from_.2.2, .int .i64 x.to_.1, .int .i64 x.to_.2.1, .int .i64 x.to_.2.2] 46)).drew := ⟨bl_drew hbl⟩
    obtain ⟨_, k1, k2, k3, k4, k5, k6, _, _, _, _, _, _, _⟩ := kd.c7
    clear hh hbl
    simp only [if_true, Bool.false_eq_true, if_false]
    go_enter Tryd.func94, Tryd.ntmps94
    go_wp2_with fail
    go_region_held3 (fun w' => w'.cell? ⟨w.heap.size, 1, none⟩ = some (.int .i64 x.from_.1) ∧ w'.cell? ⟨w.heap.size, 2, none⟩ = some (.int .i64 x.from_.2.1) ∧ w'.cell? ⟨w.heap.size, 3, none⟩ = some (.int .i64 x.from_.2.2) ∧ w'.cell? ⟨w.heap.size, 4, none⟩ = some (.int .i64 x.to_.1) ∧ w'.cell? ⟨w.heap.size, 5, none⟩ = some (.int .i64 x.to_.2.1) ∧ w'.cell? ⟨w.heap.size, 6, none⟩ = some (.int .i64 x.to_.2.2) ∧ LB w w')
      (refine ⟨?_, ?_, ?_, ?_, ?_, ?_, ?_⟩ <;> first | with_reducible assumption | exact LB.alloc (by with_reducible assumption) _ | (go_keep; done))
      ((go_at_call 95; refine (text_any _ _).mono ?_; rintro e w6 ⟨rfl, hb6⟩; (have kW : Blk w6 w.heap.size 46 #[.bool false, .int .i64 x.from_.1, .int .i64 x.from_.2.1, .int .i64 x.from_.2.2, .int .i64 x.to_.1, .int .i64 x.to_.2.1, .int .i64 x.to_.2.2] := Blk.call (by with_reducible assumption) hb6); obtain ⟨_, j1, j2, j3, j4, j5, j6, _, _, _, _, _, _, _⟩ := kW.c7; (have hLW : LB w w6 := LB.call (by with_reducible assumption) hb6)))
    all_goals go_split_ands
    go_wp2_with fail
    go_ret
    exact ⟨_, rfl, Blk.new _ _ _, hLW.out.size, bl_alloc hLW.out _⟩
end Go.Proofs.YtcgkfgklggjmaaaDoor.Par
end
