import Derived.Test.YtcgkfgklggjmaaaGb
import Derived.Lib.Repeat
import Derived.Lib.IndexMore
import Derived.Lib.ItoaLen
import Derived.Lib.AtoiAllCases
import Derived.Test.YtcgkfgklggjmaaaShelf
import Derived.Lib.SmallJoins
import Derived.Deep.DeepCutAuto
import Derived.Deep.RegionLaw
import Derived.KernelRfl
import Derived.Laws.BytesArg
section
namespace Go.Proofs.Ytcgkfgklggjmaaa.Dec
set_option linter.unusedVariables false
set_option linter.unusedSimpArgs false
/-! the plain laws of a number's text -/
theorem cut_whole {l : List UInt8} (h : l.all isDig = true) : Lib.cut l [46] = (l, [], false) := by
  rcases cut_spec l with ⟨e, _⟩ | ⟨a, b, e', ha, e⟩
  · exact e
  · exact absurd (by rw [e']; simp) (all_none h)
theorem cut_point {a b : List UInt8} (h : a.all isDig = true) : Lib.cut (a ++ 46 :: b) [46] = (a, b, true) := by
  rcases cut_spec (a ++ 46 :: b) with ⟨e, hn⟩ | ⟨a', b', e', ha, e⟩
  · exact absurd (by simp) hn
  · rw [e]
    have : a = a' ∧ b = b' := by
      rcases List.append_eq_append_iff.1 e' with ⟨c, h1, h2⟩ | ⟨c, h1, h2⟩
      · cases c with
        | nil => simp at h1 h2; exact ⟨h1.symm, h2⟩
        | cons x c => simp at h2; rw [h1, ← h2.1] at ha; exact absurd (by simp) ha
      · cases c with
        | nil => simp at h1 h2; exact ⟨h1, h2.symm⟩
        | cons x c => simp at h2; rw [h1, ← h2.1] at h; exact absurd (by simp) (all_none h)
    rw [this.1, this.2]
theorem head_dec : ∀ (n : Nat), 1 ≤ n → (Lib.decDigits n).headD 0 ≠ 48
  | n, h => by
    by_cases h10 : n < 10
    · rw [Lib.decDigits_one h10]
      intro e
      have := (ofNat48 n h10).1 e
      omega
    · rw [Lib.decDigits, dif_neg h10]
      have ih := head_dec (n / 10) (by omega)
      cases hh : Lib.decDigits (n / 10) with
      | nil => exact absurd hh (dec_ne _)
      | cons c r => rw [hh] at ih; simpa using ih
theorem lead_dec (n : Nat) : leadB (Lib.decDigits n) = false := by
  unfold leadB
  by_cases h10 : n < 10
  · rw [Lib.decDigits_one h10]; rfl
  · have := head_dec n (by omega)
    simp only [Bool.and_eq_false_iff, beq_eq_false_iff_ne]
    exact .inr this
theorem trim_fill : ∀ (l : List UInt8), Lib.trimRightB l 48 ++ List.replicate (l.length - (Lib.trimRightB l 48).length) 48 = l
  | [] => rfl
  | c :: l => by
    have ih := trim_fill l
    rw [trim_cons]
    by_cases h : Lib.trimRightB l 48 = []
    · rw [h] at ih
      simp only [List.nil_append, List.length_nil, Nat.sub_zero] at ih
      by_cases hc : c = 48
      · rw [if_pos h, if_pos hc, hc]
        simp only [List.nil_append, List.length_nil, Nat.sub_zero, List.length_cons, List.replicate_succ]
        rw [ih]
      · rw [if_pos h, if_neg hc]
        simp only [List.length_cons, List.length_nil, Nat.add_sub_cancel, Nat.zero_add]
        rw [List.cons_append, List.nil_append, ih]
    · rw [if_neg h]
      simp only [List.length_cons, List.cons_append]
      rw [Nat.add_sub_add_right, ih]
theorem trim_last : ∀ (l : List UInt8) (h : Lib.trimRightB l 48 ≠ []), (Lib.trimRightB l 48).getLast h ≠ 48
  | [], h => absurd rfl h
  | c :: l, h => by
    have ih := trim_last l
    by_cases h0 : Lib.trimRightB l 48 = []
    · by_cases hc : c = 48
      · exact absurd (by rw [trim_cons, if_pos h0, if_pos hc]) h
      · have e : Lib.trimRightB (c :: l) 48 = [c] := by rw [trim_cons, if_pos h0, if_neg hc]
        simp only [e, List.getLast_singleton]
        exact hc
    · have e : Lib.trimRightB (c :: l) 48 = c :: Lib.trimRightB l 48 := by rw [trim_cons, if_neg h0]
      simp only [e, List.getLast_cons h0]
      exact ih h0
theorem frac_fill (n k : Nat) : fillL (fracL n k) k = digL n k := by
  have := trim_fill (digL n k)
  rw [digL_len] at this
  exact this
theorem frac_all (n k : Nat) : (fracL n k).all isDig = true := by
  have h := digL_all k n
  rw [← frac_fill, fillL, List.all_append, Bool.and_eq_true] at h
  exact h.1
theorem frac_len (n k : Nat) : (fracL n k).length ≤ k := by
  have h := congrArg List.length (frac_fill n k)
  rw [digL_len, fillL, List.length_append] at h
  omega
theorem val_digL : ∀ (k n acc : Nat), valN acc (digL n k) = acc * 10 ^ k + n % 10 ^ k
  | 0, n, acc => by simp [digL, valN, Nat.mod_one]
  | k + 1, n, acc => by
    rw [digL, valN_append, val_digL k]
    have hd := (dig_ofNat (n % 10) (by omega)).2
    simp only [valN, List.foldl_cons, List.foldl_nil, hd]
    have e : n % 10 ^ (k + 1) = n % 10 + 10 * (n / 10 % 10 ^ k) := by rw [Nat.pow_succ, Nat.mul_comm, Nat.mod_mul]
    rw [e, Nat.pow_succ, ← Nat.mul_assoc, Nat.add_mul]
    omega
theorem val_dec (n : Nat) : valN 0 (Lib.decDigits n) = n := by
  induction n using Nat.strongRecOn with
  | ind n ih =>
    by_cases h10 : n < 10
    · have hd := (dig_ofNat n h10).2
      rw [Lib.decDigits_one h10]
      simp only [valN, List.foldl_cons, List.foldl_nil, hd]
      omega
    · have hd := (dig_ofNat (n % 10) (by omega)).2
      rw [Lib.decDigits, dif_neg h10, valN_append, ih (n / 10) (by omega)]
      simp only [valN, List.foldl_cons, List.foldl_nil, hd]
      omega
theorem val_text (n k : Nat) : valN 0 (Lib.decDigits (n / 10 ^ k) ++ digL n k) = n := by
  rw [valN_append, val_dec, val_digL]
  have := Nat.div_add_mod n (10 ^ k)
  rw [Nat.mul_comm] at this
  exact this
theorem val_more (l : List UInt8) (k : Nat) : valN 0 (l ++ List.replicate k 48) = valN 0 l * 10 ^ k := by
  rw [valN_append]
  induction k with
  | zero => simp [valN]
  | succ k ih => rw [List.replicate_succ', valN_append, ih, Nat.pow_succ, ← Nat.mul_assoc]; simp [valN]
/-- the form of a text that begins with a number -/
theorem form_textN (n k : Nat) : formL (textN n k) = if fracL n k = [] then 1 else 2 := by
  unfold textN tailL
  by_cases h : fracL n k = []
  · rw [if_pos h, if_pos h, List.append_nil, form_whole (dec_all _) (dec_ne _), lead_dec]; rfl
  · rw [if_neg h, if_neg h, form_point (dec_all _) (dec_ne _) (frac_all n k) h, lead_dec]; rfl
/-- a number with noughts behind it -/
theorem parse_point {a b : List UInt8} (ha : a.all isDig = true) (hne : a ≠ []) (hl : leadB a = false) (hb : b.all isDig = true) (hbe : b ≠ []) (k : Nat) (most : Int) (h1 : 1 ≤ k) (h9 : k ≤ 9) :
    parseL (a ++ 46 :: b) k most = if k < b.length then (0, 1) else if 9223372036854775808 ≤ valN 0 (a ++ fillL b k) ∨ most < (valN 0 (a ++ fillL b k) : Int) then (0, 2) else ((valN 0 (a ++ fillL b k) : Int), 0) := by
  have hf : formL (a ++ 46 :: b) = 2 := by rw [form_point ha hne hb hbe, hl]; rfl
  unfold parseL parseW
  rw [cut_point ha, hf, if_neg (by omega), Int.toNat_natCast]
  by_cases h : k < b.length
  · rw [if_pos h, if_pos (by exact_mod_cast h)]
  · rw [if_neg h, if_neg (by exact_mod_cast h)]
theorem parse_back (n k : Nat) (hn : n < 9223372036854775808) (hk : k ≤ 9) : parseL (textN n k) k 9223372036854775807 = ((n : Int), 0) := by
  by_cases h : fracL n k = []
  · have ht : textN n k = Lib.decDigits (n / 10 ^ k) := by rw [textN, tailL, if_pos h, List.append_nil]
    have hf := frac_fill n k
    rw [h] at hf
    unfold parseL parseW
    rw [form_textN, if_pos h, ht, cut_whole (dec_all _), if_neg (by simp; omega), if_neg (by simp), Int.toNat_natCast]
    simp only [hf, val_text]
    rw [if_neg (by omega)]
  · rw [textN, tailL, if_neg h, parse_point (dec_all _) (dec_ne _) (lead_dec _) (frac_all n k) h k _ ?_ hk]
    · have := frac_len n k
      rw [if_neg (by omega), frac_fill, val_text, if_neg (by omega)]
    · cases k with
      | zero => exact absurd rfl h
      | succ k => omega
theorem text_last (n k : Nat) (h : fracL n k ≠ []) : ∃ hne : textN n k ≠ [], (textN n k).getLast hne ≠ 48 := by
  have e : textN n k = (Lib.decDigits (n / 10 ^ k) ++ [46]) ++ fracL n k := by rw [textN, tailL, if_neg h]; simp
  rw [e]
  refine ⟨by simp, ?_⟩
  rw [List.getLast_append_of_ne_nil _ h]
  exact trim_last _ h
/-- noughts more -/
theorem noughts (n k more : Nat) (b : List UInt8) (hn : n < 9223372036854775808) (h1 : 1 ≤ k) (h9 : k ≤ 9) (hb : (fracL n k = [] ∧ b = [48]) ∨ (fracL n k ≠ [] ∧ b = fracL n k)) :
    parseL (Lib.decDigits (n / 10 ^ k) ++ 46 :: (b ++ List.replicate more 48)) k 9223372036854775807 = if k < b.length + more then (0, 1) else ((n : Int), 0) := by
  have hball : b.all isDig = true ∧ b ≠ [] := by
    rcases hb with ⟨_, rfl⟩ | ⟨h, rfl⟩
    · exact ⟨by decide, by simp⟩
    · exact ⟨frac_all n k, h⟩
  have hz : (List.replicate more (48 : UInt8)).all isDig = true := by simp [isDig]
  rw [parse_point (dec_all _) (dec_ne _) (lead_dec _) (by rw [List.all_append, hball.1, hz]; rfl) (by simp [hball.2]) k _ h1 h9]
  rw [List.length_append, List.length_replicate]
  by_cases h : k < b.length + more
  · rw [if_pos h, if_pos h]
  · rw [if_neg h, if_neg h]
    have e : fillL (b ++ List.replicate more 48) k = digL n k := by
      rw [← frac_fill]
      unfold fillL
      rw [List.length_append, List.length_replicate, List.append_assoc, List.replicate_append_replicate, show more + (k - (b.length + more)) = k - b.length by omega]
      rcases hb with ⟨h0, rfl⟩ | ⟨h0, rfl⟩
      · rw [h0, List.nil_append, List.length_nil, Nat.sub_zero, List.length_singleton]
        rw [show ([48] : List UInt8) = List.replicate 1 48 from rfl, List.replicate_append_replicate, show 1 + (k - 1) = k by omega]
      · rfl
    rw [e, val_text, if_neg (by omega)]
/-- a place more -/
theorem places_more (l : List UInt8) (k : Nat) (hk : k ≤ 8) (most : Int) :
    ((parseL l k most) = (0, 1)) ∨ ((parseL l k most) = (0, 2) ∧ (0 ≤ most → parseL l ((k : Int) + 1) most = (0, 2))) ∨
      (∃ v : Nat, v < 9223372036854775808 ∧ (v : Int) ≤ most ∧ parseL l k most = ((v : Int), 0) ∧ parseL l ((k : Int) + 1) most = if 9223372036854775808 ≤ 10 * v ∨ most < 10 * (v : Int) then (0, 2) else (10 * (v : Int), 0)) := by
  have e : parseL l ((k : Int) + 1) most = parseL l ((k + 1 : Nat) : Int) most := by simp
  rw [e]
  unfold parseL parseW
  generalize formL l = f
  generalize (Lib.cut l [46]).1 = a
  generalize (Lib.cut l [46]).2.1 = b
  by_cases c1 : f = 0 ∨ (k : Int) < 0 ∨ 9 < (k : Int) ∨ f = 2 ∧ (k : Int) = 0
  · left; rw [if_pos c1]
  · by_cases c2 : (k : Int) < (b.length : Int)
    · left; rw [if_neg c1, if_pos c2]
    · have c1' : ¬ (f = 0 ∨ ((k + 1 : Nat) : Int) < 0 ∨ 9 < ((k + 1 : Nat) : Int) ∨ f = 2 ∧ ((k + 1 : Nat) : Int) = 0) := by omega
      have c2' : ¬ ((k + 1 : Nat) : Int) < (b.length : Int) := by omega
      right
      rw [if_neg c1, if_neg c2, if_neg c1', if_neg c2', Int.toNat_natCast, Int.toNat_natCast]
      have ev : valN 0 (a ++ fillL b (k + 1)) = 10 * valN 0 (a ++ fillL b k) := by
        unfold fillL
        rw [show k + 1 - b.length = (k - b.length) + 1 by omega, List.replicate_succ', ← List.append_assoc, ← List.append_assoc, valN_append]
        simp only [valN, List.foldl_cons, List.foldl_nil, List.append_assoc]
        have : (48 : UInt8).toNat = 48 := rfl
        omega
      rw [ev]
      generalize valN 0 (a ++ fillL b k) = v
      by_cases c3 : 9223372036854775808 ≤ v ∨ most < (v : Int)
      · left
        rw [if_pos c3]
        refine ⟨rfl, fun hm => ?_⟩
        rw [if_pos (by omega)]
      · right
        refine ⟨v, by omega, by omega, by rw [if_neg c3], ?_⟩
        push_cast
        rfl
end Go.Proofs.Ytcgkfgklggjmaaa.Dec
end
section
namespace Go.Proofs.Ytcgkfgklggjmaaa.Dec
set_option linter.unusedVariables false
set_option linter.unusedSimpArgs false
open Go.RowKit
theorem width_one (s : ByteArray) (pos : Nat) (h : pos < s.size) : ((s[pos]'h).toNat < 128 ∧ Utf8.decode s pos = ((s[pos]'h).toNat, 1)) ∨ (128 ≤ (s[pos]'h).toNat ∧ 128 ≤ (Utf8.decode s pos).1 ∧ (Utf8.decode s pos).1 ≤ 2147483647) := by
  by_cases ha : (s[pos]'h).toNat < 128
  · exact .inl ⟨ha, decode_ascii s pos h ha⟩
  · exact .inr ⟨by omega, (decode_high s pos h (by omega)).1, decode_le s pos⟩
theorem all_no (t : ByteArray) (pos : Nat) (hp : pos < t.size) (h : isDig (t[pos]'hp) = false) : t.data.toList.all isDig = false := by
  rw [List.all_eq_false]
  refine ⟨t[pos], ?_, by simp [h]⟩
  have : t[pos] = t.data.toList[pos]'(by simpa using hp) := rfl
  rw [this]
  exact List.getElem_mem _
theorem digs_no {t : ByteArray} (h : t.data.toList.all isDig = false) : digitsB t.data.toList = false := by simp only [digitsB, h, Bool.false_and]
theorem pow_bd (i : Nat) (h : i ≤ 9) : (0 : Int) ≤ ((10 ^ i : Nat) : Int) ∧ ((10 ^ i : Nat) : Int) ≤ 1000000000 := by
  have h1 : 10 ^ i ≤ 1000000000 := Nat.pow_le_pow_right (n := 10) (j := 9) (by decide) h
  exact ⟨Int.natCast_nonneg _, Int.ofNat_le.2 h1⟩
end Go.Proofs.Ytcgkfgklggjmaaa.Dec
end
section
namespace Go.Proofs.Ytcgkfgklggjmaaa.Dec
set_option linter.unusedVariables false
set_option linter.unusedSimpArgs false
open Go.RowKit
def GT (w : World) : Prop := Lib.TabIs Try.prog w "internal/strconv.uint64pow10" .u64 Lib.pow10Tab
theorem cell_keep {v w' : World} {p : Addr} {x : Value} (h : v.cell? p = some x) (hb : Below v.heap.size v w') : w'.cell? p = some x := (hb.cell (World.block_lt_of_cell? v _ h)).trans h
theorem bl_growN {w v : World} (h : Below w.heap.size w v) (k : Nat) (os : Array Obj) : Below w.heap.size w (Go.Sort.grow (v.drewN k) os) :=
  bl_call h ⟨rfl, rfl, rfl, by simp [Go.Sort.grow], fun i hi => by
    show ((v.drewN k).heap ++ os)[i]? = _
    rw [Array.getElem?_append_left (by show i < v.heap.size; omega)]
    rfl⟩
theorem str_index (s : ByteArray) (k : Nat) (h : k < s.size) (w : World) : (Instr.index 9 (.string s) (.int .i64 k)).run Try.prog w = .ok (.int .u8 ((s[k]'h).toNat : Int)) w := by
  go_simp
end Go.Proofs.Ytcgkfgklggjmaaa.Dec
end
section
namespace Go.Proofs.Ytcgkfgklggjmaaa.Dec
set_option linter.unusedVariables false
set_option linter.unusedSimpArgs false
open Go.RowKit
theorem form_three (l : List UInt8) : formL l = 0 ∨ formL l = 1 ∨ formL l = 2 := by
  unfold formL formW
  split
  · exact .inl rfl
  · split
    · exact .inr (.inl rfl)
    · split
      · exact .inr (.inr rfl)
      · exact .inl rfl
theorem form_digits {l : List UInt8} (h : formL l ≠ 0) : (Lib.cut l [46]).1.all isDig = true ∧ (Lib.cut l [46]).1 ≠ [] ∧ (Lib.cut l [46]).2.1.all isDig = true := by
  have h0 := h
  unfold formL formW at h
  have hd : digitsB (Lib.cut l [46]).1 = true := by
    cases hh : digitsB (Lib.cut l [46]).1 with
    | true => rfl
    | false => rw [hh] at h; exact absurd rfl h
  have h1 : (Lib.cut l [46]).1.all isDig = true ∧ (Lib.cut l [46]).1 ≠ [] := by
    unfold digitsB at hd
    rw [Bool.and_eq_true] at hd
    refine ⟨hd.1, fun e => ?_⟩
    rw [e] at hd
    exact absurd hd.2 (by decide)
  refine ⟨h1.1, h1.2, ?_⟩
  rcases cut_spec l with ⟨e, _⟩ | ⟨a, b, e', ha, e⟩
  · rw [e]; rfl
  · rw [e] at h ⊢
    cases hh : digitsB b with
    | true => unfold digitsB at hh; rw [Bool.and_eq_true] at hh; exact hh.1
    | false =>
      rw [hh] at h
      exact absurd (by split <;> rfl) h
theorem cut_len (l : List UInt8) : (Lib.cut l [46]).1.length + (Lib.cut l [46]).2.1.length ≤ l.length := by
  rcases cut_spec l with ⟨e, _⟩ | ⟨a, b, e', ha, e⟩
  · rw [e]; simp
  · rw [e, e']; simp
theorem repeat_char (c : Nat) : Lib.repeatL (ByteArray.mk #[48]).data.toList c = List.replicate c 48 := by
  have := Lib.repeatL_replicate 48 1 c
  rw [Nat.mul_one] at this
  exact this
end Go.Proofs.Ytcgkfgklggjmaaa.Dec
end
section
namespace Go.Proofs.Ytcgkfgklggjmaaa.Dec
set_option linter.unusedVariables false
set_option linter.unusedSimpArgs false
open Go.RowKit
theorem size_alloc (w : World) (o : Obj) : (w.alloc o).heap.size = w.heap.size + 1 := Array.size_push _
theorem Blk.new2 (w : World) (o : Obj) (t : TypeId) (cs : Array Value) : Blk ((w.alloc o).alloc (.cells cs t)) (w.heap.size + 1) t cs := by
  have h := Blk.new (w.alloc o) t cs
  rwa [size_alloc] at h
set_option maxHeartbeats 4000000 in
theorem wof_any (a : Int) (w : World) (h0 : 0 ≤ a) (h1 : a < 9223372036854775808) :
    Calls Try.prog 58 #[.int .i64 a] w fun e w' => e = .returned (.agg #[.bool false, .int .u64 0, .int .u64 a]) ∧ Below w.heap.size w w' := by
  have hu : IntKind.u64.wrap a = a := by rw [IntKind.wrap_u64]; omega
  go_enter Try.func58, Try.ntmps58
  go_wp2_with fail
  exact bodyPost_ret (results_cell_row rfl _ _ w.heap.size _ #[.bool false, .int .u64 0, .int .u64 a] (0, 0) _ rfl (Blk.new w _ _) Try.underlying108 rfl (by kernel_rfl)) rfl ⟨rfl, bl_alloc (bl_refl w) _⟩
set_option maxHeartbeats 4000000 in
theorem wzero_any (b : Bool) (hi lo : Int) (w : World) :
    Calls Try.prog 78 #[.agg #[.bool b, .int .u64 hi, .int .u64 lo]] w fun e w' => e = .returned (.bool (hi == 0 && lo == 0)) ∧ Below w.heap.size w w' := by
  by_cases h : hi = 0
  · subst h
    go_enter Try.func78, Try.ntmps78
    go_wp2_with fail
    go_ret
    exact ⟨by first | rfl | simp, bl_alloc (bl_refl w) _⟩
  · have hb : (hi == 0) = false := beq_eq_false_iff_ne.mpr h
    go_enter Try.func78, Try.ntmps78
    go_wp2_with fail
    go_ret
    exact ⟨by rw [hb]; rfl, bl_alloc (bl_refl w) _⟩
set_option maxHeartbeats 4000000 in
theorem wint_ok (lo : Int) (w : World) (l0 : 0 ≤ lo) (l1 : lo < 9223372036854775808) :
    Calls Try.prog 56 #[.agg #[.bool false, .int .u64 0, .int .u64 lo]] w fun e w' => e = .returned (.tuple #[.int .i64 lo, .bool true]) ∧ Below w.heap.size w w' := by
  have hu : IntKind.i64.wrap lo = lo := by rw [IntKind.wrap_i64]; omega
  go_enter Try.func56, Try.ntmps56
  go_wp2_with fail
  go_ret2
  exact ⟨rfl, bl_alloc (bl_refl w) _⟩
set_option maxHeartbeats 4000000 in
theorem wint_no (hi lo : Int) (w : World) (h : hi ≠ 0 ∨ (hi = 0 ∧ 9223372036854775808 ≤ lo)) :
    Calls Try.prog 56 #[.agg #[.bool false, .int .u64 hi, .int .u64 lo]] w fun e w' => e = .returned (.tuple #[.int .i64 0, .bool false]) ∧ Below w.heap.size w w' := by
  rcases h with h | ⟨rfl, h⟩
  · have hb : (hi != 0) = true := bne_iff_ne.mpr h
    go_enter Try.func56, Try.ntmps56
    go_wp2_with fail
    go_ret2
    exact ⟨rfl, bl_alloc (bl_refl w) _⟩
  · go_enter Try.func56, Try.ntmps56
    go_wp2_with fail
    go_ret2
    exact ⟨rfl, bl_alloc (bl_refl w) _⟩
set_option maxHeartbeats 4000000 in
theorem wplus_any (b c : Bool) (ah al bh bl hi lo : Int) (w : World) (a0 : 0 ≤ ah) (a1 : 0 ≤ al) (a2 : al < 18446744073709551616) (b0 : 0 ≤ bh) (b1 : 0 ≤ bl) (b2 : bl < 18446744073709551616) (hh : ah + bh + 1 < 18446744073709551616)
    (hhi : hi = ah + bh + (al + bl) / 18446744073709551616) (hlo : lo = (al + bl) % 18446744073709551616) :
    Calls Try.prog 77 #[.agg #[.bool b, .int .u64 ah, .int .u64 al], .agg #[.bool c, .int .u64 bh, .int .u64 bl]] w fun e w' => e = .returned (.agg #[.bool false, .int .u64 hi, .int .u64 lo]) ∧ Below w.heap.size w w' := by
  have hw1 : IntKind.u64.wrap (al + bl) = lo := by rw [IntKind.wrap_u64]; omega
  have hw2 : IntKind.u64.wrap (ah + bh) = ah + bh := by rw [IntKind.wrap_u64]; omega
  have hw3 : IntKind.u64.wrap (ah + bh + 1) = ah + bh + 1 := by rw [IntKind.wrap_u64]; omega
  by_cases hc : lo < al
  · have hx : hi = ah + bh + 1 := by omega
    rw [hx]
    clear hhi hlo hx hi
    go_enter Try.func77, Try.ntmps77
    go_wp2_with fail
    exact bodyPost_ret (results_cell_row rfl _ _ (w.heap.size + 1 + 1) _ #[.bool false, .int .u64 (ah + bh + 1), .int .u64 lo] (0, 0) _ rfl (by have hz := Blk.new2 (w.alloc (.cells #[.bool b, .int .u64 ah, .int .u64 al] 108)) (.cells #[.bool c, .int .u64 bh, .int .u64 bl] 108) 108 #[.bool false, .int .u64 (ah + bh + 1), .int .u64 lo]; rwa [size_alloc] at hz) Try.underlying108 rfl (by kernel_rfl)) rfl ⟨rfl, bl_alloc (bl_alloc (bl_alloc (bl_refl w) _) _) _⟩
  · have hx : hi = ah + bh := by omega
    rw [hx]
    clear hhi hlo hx hi
    go_enter Try.func77, Try.ntmps77
    go_wp2_with fail
    exact bodyPost_ret (results_cell_row rfl _ _ (w.heap.size + 1 + 1) _ #[.bool false, .int .u64 (ah + bh), .int .u64 lo] (0, 0) _ rfl (by have hz := Blk.new2 (w.alloc (.cells #[.bool b, .int .u64 ah, .int .u64 al] 108)) (.cells #[.bool c, .int .u64 bh, .int .u64 bl] 108) 108 #[.bool false, .int .u64 (ah + bh), .int .u64 lo]; rwa [size_alloc] at hz) Try.underlying108 rfl (by kernel_rfl)) rfl ⟨rfl, bl_alloc (bl_alloc (bl_alloc (bl_refl w) _) _) _⟩
set_option maxHeartbeats 4000000 in
/-- the sum of two that are not below 0 -/
theorem wadd_any (ah al bh bl hi lo : Int) (w : World) (a0 : 0 ≤ ah) (a1 : 0 ≤ al) (a2 : al < 18446744073709551616) (b0 : 0 ≤ bh) (b1 : 0 ≤ bl) (b2 : bl < 18446744073709551616) (hh : ah + bh + 1 < 18446744073709551616)
    (hhi : hi = ah + bh + (al + bl) / 18446744073709551616) (hlo : lo = (al + bl) % 18446744073709551616) :
    Calls Try.prog 57 #[.agg #[.bool false, .int .u64 ah, .int .u64 al], .agg #[.bool false, .int .u64 bh, .int .u64 bl]] w fun e w' => e = .returned (.agg #[.bool false, .int .u64 hi, .int .u64 lo]) ∧ Below w.heap.size w w' := by
  have hpl := fun v => wplus_any false false ah al bh bl hi lo v a0 a1 a2 b0 b1 b2 hh hhi hlo
  clear hhi hlo
  go_enter Try.func57, Try.ntmps57
  go_wp2_with fail
  refine (hpl _).mono ?_
  rintro e w1 ⟨rfl, hb1⟩
  have ka := (((Blk.new w 108 #[.bool false, .int .u64 ah, .int .u64 al]).alloc (.cells #[.bool false, .int .u64 bh, .int .u64 bl] 108)).alloc (.cells #[.bool false, .int .u64 0, .int .u64 0] 108)).call hb1
  have hbb1 := bl_call (bl_alloc (bl_alloc (bl_alloc (bl_refl w) (.cells #[.bool false, .int .u64 ah, .int .u64 al] 108)) (.cells #[.bool false, .int .u64 bh, .int .u64 bl] 108)) (.cells #[.bool false, .int .u64 0, .int .u64 0] 108)) hb1
  have hl := ka.lt
  obtain ⟨x0, x1, x2, _, _, _⟩ := ka.c3
  have kr0 := Blk.new2 (w.alloc (.cells #[.bool false, .int .u64 ah, .int .u64 al] 108)) (.cells #[.bool false, .int .u64 bh, .int .u64 bl] 108) 108 #[.bool false, .int .u64 0, .int .u64 0]
  rw [size_alloc] at kr0
  have kr := kr0.call hb1
  have hl2 := kr.lt
  obtain ⟨r0, r1, r2, s0, s1, s2⟩ := kr.c3
  have kx := Blk.new w1 108 #[.bool false, .int .u64 hi, .int .u64 lo]
  obtain ⟨y0, y1, y2, _, _, _⟩ := kx.c3
  go_wp2_with fail
  exact bodyPost_ret (results_cell_row rfl _ _ (w.heap.size + 1 + 1) _ #[.bool false, .int .u64 hi, .int .u64 lo] (0, 0) _ rfl ((((kr.set_ 0 (.bool false)).set_ 1 (.int .u64 hi)).set_ 2 (.int .u64 lo)).alloc _) Try.underlying108 rfl (by kernel_rfl)) rfl
    ⟨rfl, bl_alloc (bl_set (bl_set (bl_set hbb1 (by show w.heap.size ≤ w.heap.size + 1 + 1; omega) _) (by show w.heap.size ≤ w.heap.size + 1 + 1; omega) _) (by show w.heap.size ≤ w.heap.size + 1 + 1; omega) _) _⟩
end Go.Proofs.Ytcgkfgklggjmaaa.Dec
end
section
namespace Go.Proofs.Ytcgkfgklggjmaaa.Dec
set_option linter.unusedVariables false
set_option linter.unusedSimpArgs false
open Go.RowKit
theorem mul_parts (a p q : Int) (h : a = 4294967296 * q + p) (p0 : 0 ≤ p) (p1 : p < 4294967296) (q0 : 0 ≤ q) :
    10 * a / 18446744073709551616 = 0 + q * 10 / 4294967296 + (p * 10 + q * 10 * 4294967296 % 18446744073709551616) / 18446744073709551616 ∧ 10 * a % 18446744073709551616 = (p * 10 + q * 10 * 4294967296 % 18446744073709551616) % 18446744073709551616 := by
  have hr : q * 10 * 4294967296 % 18446744073709551616 = 4294967296 * (q * 10 % 4294967296) := by omega
  rw [hr]
  have hd := Int.mul_ediv_add_emod (q * 10) 4294967296
  have h1 := Int.emod_nonneg (q * 10) (show (4294967296 : Int) ≠ 0 by decide)
  have h2 := Int.emod_lt_of_pos (q * 10) (show (0 : Int) < 4294967296 by decide)
  generalize q * 10 / 4294967296 = i at *
  generalize q * 10 % 4294967296 = r at *
  have e : 10 * a = 18446744073709551616 * i + (p * 10 + 4294967296 * r) := by omega
  rw [e]
  generalize p * 10 + 4294967296 * r = z
  omega
theorem Blk.new_at (w : World) (t : TypeId) (cs : Array Value) (g : Nat) (h : w.heap.size = g) : Blk (w.alloc (.cells cs t)) g t cs := h ▸ Blk.new w t cs
set_option maxHeartbeats 4000000 in
set_option maxRecDepth 100000 in
theorem wmul_any (a : Int) (w : World) (h0 : 0 ≤ a) (h1 : a < 9223372036854775808) :
    Calls Try.prog 73 #[.int .i64 a, .int .i64 10] w fun e w' => e = .returned (.agg #[.bool false, .int .u64 (10 * a / 18446744073709551616), .int .u64 (10 * a % 18446744073709551616)]) ∧ Below w.heap.size w w' := by
  obtain ⟨H, hH⟩ : ∃ H, 10 * a / 18446744073709551616 = H := ⟨_, rfl⟩
  obtain ⟨L, hL⟩ : ∃ L, 10 * a % 18446744073709551616 = L := ⟨_, rfl⟩
  rw [hH, hL]
  have HH := Lib.hid hH
  have HL := Lib.hid hL
  clear hH hL
  go_enter Try.func73, Try.ntmps73
  go_wp2_with fail
  refine (wof_any a _ h0 h1).mono ?_
  rintro e w1 ⟨rfl, hb1⟩
  go_wp2_with fail
  refine (wof_any 10 _ (by omega) (by omega)).mono ?_
  rintro e w2 ⟨rfl, hb2⟩
  have kr := ((Blk.new w 108 #[.bool false, .int .u64 0, .int .u64 0]).call hb1).call hb2
  have hbb2 := bl_call (bl_call (bl_alloc (bl_refl w) (.cells #[.bool false, .int .u64 0, .int .u64 0] 108)) hb1) hb2
  have hl0 := kr.lt
  have kx := (Blk.new w2 108 #[.bool false, .int .u64 0, .int .u64 a]).alloc (.cells #[.bool false, .int .u64 0, .int .u64 10] 108)
  have ky := Blk.new2 w2 (.cells #[.bool false, .int .u64 0, .int .u64 a] 108) 108 #[.bool false, .int .u64 0, .int .u64 10]
  obtain ⟨x0, x1, x2, _, _, _⟩ := kx.c3
  obtain ⟨y0, y1, y2, _, _, _⟩ := ky.c3
  go_wp2_with fail
  go_quiet (fail)
  obtain ⟨p, hp⟩ : ∃ p, a % 4294967296 = p := ⟨_, rfl⟩
  obtain ⟨q, hq⟩ : ∃ q, a / 4294967296 = q := ⟨_, rfl⟩
  rw [hp, hq]
  have hpq : a = 4294967296 * q + p ∧ 0 ≤ p ∧ p < 4294967296 ∧ 0 ≤ q ∧ q < 2147483648 := by omega
  obtain ⟨ha, p0, p1, q0, q1⟩ := hpq
  have HA := Lib.hid ha
  clear ha
  clear hp hq
  have hw1 : IntKind.u64.wrap (p * 10) = p * 10 := by rw [IntKind.wrap_u64]; omega
  have hw2 : IntKind.u64.wrap (q * 10) = q * 10 := by rw [IntKind.wrap_u64]; omega
  have kx1 := kx.drewN nq
  have ky1 := ky.drewN nq
  obtain ⟨x0, x1, x2, _, _, _⟩ := kx1.c3
  obtain ⟨y0, y1, y2, _, _, _⟩ := ky1.c3
  go_wp2_with fail
  go_quiet (fail)
  go_wp2_with fail
  clear x0 x1 x2 y0 y1 y2
  go_loopw [45] (fun v wr => ∃ (i hi lo : Int), v = .int .i64 i ∧ ((i = 0 ∧ hi = 0 ∧ lo = p * 10) ∨ (i = 1 ∧ hi = 0 ∧ lo = p * 10) ∨ (i = 2 ∧ hi = H ∧ lo = L)) ∧
      Blk wr w.heap.size 108 #[.bool false, .int .u64 0, .int .u64 0] ∧ Blk wr (w2.heap.size) 108 #[.bool false, .int .u64 0, .int .u64 a] ∧ Blk wr (w2.heap.size + 1) 108 #[.bool false, .int .u64 0, .int .u64 10] ∧
      Blk wr (w2.heap.size + 1 + 1) 108 #[.bool false, .int .u64 hi, .int .u64 lo] ∧ Blk wr (w2.heap.size + 1 + 1 + 1) 106 #[.int .u64 0, .int .u64 (q * 10)] ∧ Below w.heap.size w wr) (fun v _ => (2 - intOf v).toNat)
  case atStart =>
    refine ⟨0, 0, p * 10, rfl, .inl ⟨rfl, rfl, rfl⟩, ?_, ?_, ?_, ?_, ?_, ?_⟩
    · exact (((((kr.alloc _).alloc _).drewN _).alloc _).alloc _)
    · exact ((kx.drewN _).alloc _).alloc _
    · exact ((ky.drewN _).alloc _).alloc _
    · exact (Blk.new_at _ _ _ _ (by show ((w2.alloc _).alloc _).heap.size = _; rw [size_alloc, size_alloc])).alloc _
    · exact Blk.new_at _ _ _ _ (by rw [size_alloc]; show ((w2.alloc _).alloc _).heap.size + 1 = _; rw [size_alloc, size_alloc])
    · exact bl_alloc (bl_alloc (bl_drewN (bl_alloc (bl_alloc hbb2 _) _) _) _) _
  case round =>
    obtain ⟨i, hi, lo, rfl, hcase, kr', kx', ky', ko', ks', hbw⟩ := hrel
    have ho := ko'.lt
    have hs := ks'.lt
    obtain ⟨o0, o1, o2, _, _, _⟩ := ko'.c3
    obtain ⟨s0, s1, _, _⟩ := ks'.c2
    rcases hcase with ⟨rfl, rfl, rfl⟩ | ⟨rfl, rfl, rfl⟩ | ⟨rfl, rfl, rfl⟩
    · go_wp2_with fail
      refine (wplus_any false false 0 (p * 10) 0 0 0 (p * 10) _ (by omega) (by omega) (by omega) (by omega) (by omega) (by omega) (by omega) (by omega) (by omega)).mono ?_
      rintro e w3 ⟨rfl, hb3⟩
      have ko3 := ko'.call hb3
      have ks3 := ks'.call hb3
      have kx3 := kx'.call hb3
      have ky3 := ky'.call hb3
      have kr3 := kr'.call hb3
      have hbw3 := bl_call hbw hb3
      have ho3 := ko3.lt
      clear o0 o1 o2 s0 s1
      obtain ⟨o0, o1, o2, f0, f1, f2⟩ := ko3.c3
      go_wp2
      go_roundw
      case rel =>
        refine ⟨_, 0, p * 10, rfl, .inr (.inl ⟨by go_num, rfl, rfl⟩), ?_, ?_, ?_, ?_, ?_, ?_⟩
        · exact ((kr3.far (by (try dsimp only); omega) _).far (by (try dsimp only); omega) _).far (by (try dsimp only); omega) _
        · exact ((kx3.far (by (try dsimp only); omega) _).far (by (try dsimp only); omega) _).far (by (try dsimp only); omega) _
        · exact ((ky3.far (by (try dsimp only); omega) _).far (by (try dsimp only); omega) _).far (by (try dsimp only); omega) _
        · exact ((ko3.set_ 0 (.bool false)).set_ 1 (.int .u64 0)).set_ 2 (.int .u64 (p * 10))
        · exact ((ks3.far (by (try dsimp only); omega) _).far (by (try dsimp only); omega) _).far (by (try dsimp only); omega) _
        · exact bl_set (bl_set (bl_set hbw3 (by (try dsimp only); omega) _) (by (try dsimp only); omega) _) (by (try dsimp only); omega) _
      case measure => simp [intOf]
    · have hw9 : IntKind.u64.wrap (q * 10 * 4294967296) = q * 10 * 4294967296 % 18446744073709551616 := by rw [IntKind.wrap_u64]
      have hai := HA.out
      obtain ⟨e1, e2⟩ := mul_parts a p q hai p0 p1 q0
      rw [HH.out] at e1
      rw [HL.out] at e2
      have E1 := Lib.hid e1
      have E2 := Lib.hid e2
      clear e1 e2 hai
      go_wp2_with fail
      refine (wplus_any false false 0 (p * 10) (q * 10 / 4294967296) (q * 10 * 4294967296 % 18446744073709551616) H L _ (by omega) (by omega) (by omega) (by omega) (by omega) (by omega) (by omega) E1.out E2.out).mono ?_
      rintro e w3 ⟨rfl, hb3⟩
      have ko3 := ko'.call hb3
      have ks3 := ks'.call hb3
      have kx3 := kx'.call hb3
      have ky3 := ky'.call hb3
      have kr3 := kr'.call hb3
      have hbw3 := bl_call hbw hb3
      have ho3 := ko3.lt
      clear o0 o1 o2 s0 s1
      obtain ⟨o0, o1, o2, f0, f1, f2⟩ := ko3.c3
      go_wp2
      go_roundw
      case rel =>
        refine ⟨_, H, L, rfl, .inr (.inr ⟨by go_num, rfl, rfl⟩), ?_, ?_, ?_, ?_, ?_, ?_⟩
        · exact ((kr3.far (by (try dsimp only); omega) _).far (by (try dsimp only); omega) _).far (by (try dsimp only); omega) _
        · exact ((kx3.far (by (try dsimp only); omega) _).far (by (try dsimp only); omega) _).far (by (try dsimp only); omega) _
        · exact ((ky3.far (by (try dsimp only); omega) _).far (by (try dsimp only); omega) _).far (by (try dsimp only); omega) _
        · exact ((ko3.set_ 0 (.bool false)).set_ 1 (.int .u64 H)).set_ 2 (.int .u64 L)
        · exact ((ks3.far (by (try dsimp only); omega) _).far (by (try dsimp only); omega) _).far (by (try dsimp only); omega) _
        · exact bl_set (bl_set (bl_set hbw3 (by (try dsimp only); omega) _) (by (try dsimp only); omega) _) (by (try dsimp only); omega) _
      case measure => simp [intOf]
    · obtain ⟨z0, z1, z2, _, _, _⟩ := kx'.c3
      obtain ⟨t0, t1, t2, _, _, _⟩ := ky'.c3
      obtain ⟨v0, v1, v2, _, _, _⟩ := kr'.c3
      go_wp2_with fail
      exact bodyPost_ret (results_cell_row rfl _ _ w.heap.size _ #[.bool false, .int .u64 hi, .int .u64 lo] (0, 0) _ rfl ((((kr'.far (by (try dsimp only); omega) _).set_ 0 (.bool false)).set_ 1 (.int .u64 hi)).set_ 2 (.int .u64 lo)) Try.underlying108 rfl (by kernel_rfl)) rfl
        ⟨rfl, bl_set (bl_set (bl_set (bl_set hbw (by (try dsimp only); omega) _) (Nat.le_refl _) _) (Nat.le_refl _) _) (Nat.le_refl _) _⟩
end Go.Proofs.Ytcgkfgklggjmaaa.Dec
end
section
namespace Go.Proofs.Ytcgkfgklggjmaaa.Dec
set_option linter.unusedVariables false
set_option linter.unusedSimpArgs false
open Go.RowKit
/-- a number that is kept as long as it fits -/
def satV (v : Nat) : Int := if v < 9223372036854775808 then (v : Int) else 0
def satB (v : Nat) : Bool := decide (v < 9223372036854775808)
theorem sat_yes {v : Nat} (h : v < 9223372036854775808) : satV v = (v : Int) ∧ satB v = true := by simp [satV, satB, h]
theorem sat_no {v : Nat} (h : ¬ v < 9223372036854775808) : satV v = 0 ∧ satB v = false := by simp [satV, satB, h]
theorem sat_bd (v : Nat) : 0 ≤ satV v ∧ satV v < 9223372036854775808 := by unfold satV; split <;> omega
set_option maxHeartbeats 4000000 in
set_option maxRecDepth 100000 in
theorem more_any (v d : Nat) (w : World) (hd : d ≤ 9) :
    Calls Try.prog 70 #[.int .i64 (satV v), .int .i64 d, .bool (satB v)] w fun e w' => e = .returned (.tuple #[.int .i64 (satV (10 * v + d)), .bool (satB (10 * v + d))]) ∧ Below w.heap.size w w' := by
  obtain ⟨b0, b1⟩ := sat_bd v
  obtain ⟨x, hx⟩ : ∃ x, satV v = x := ⟨_, rfl⟩
  rw [hx] at b0 b1 ⊢
  have hmul := fun u => wmul_any x u b0 b1
  have hof := fun u => wof_any (d : Int) u (by omega) (by omega)
  obtain ⟨H, hH⟩ : ∃ H, 10 * x / 18446744073709551616 = H := ⟨_, rfl⟩
  obtain ⟨L, hL⟩ : ∃ L, 10 * x % 18446744073709551616 = L := ⟨_, rfl⟩
  rw [hH, hL] at hmul
  have hadd := fun u => wadd_any H L 0 d (H + (L + d) / 18446744073709551616) ((L + d) % 18446744073709551616) u (by omega) (by omega) (by omega) (by omega) (by omega) (by omega) (by omega) (by omega) rfl
  have hfit : (10 * x + d < 9223372036854775808 ∧ H + (L + d) / 18446744073709551616 = 0 ∧ (L + d) % 18446744073709551616 = 10 * x + d) ∨ (9223372036854775808 ≤ 10 * x + d ∧ (H + (L + d) / 18446744073709551616 ≠ 0 ∨ (H + (L + d) / 18446744073709551616 = 0 ∧ 9223372036854775808 ≤ (L + d) % 18446744073709551616))) := by omega
  generalize H + (L + d) / 18446744073709551616 = H2 at *
  generalize (L + d) % 18446744073709551616 = L2 at *
  have hres : (satB v = true ∧ 10 * x + d < 9223372036854775808 ∧ H2 = 0 ∧ L2 = 10 * x + d ∧ satV (10 * v + d) = 10 * x + d ∧ satB (10 * v + d) = true) ∨ ((satB v = false ∨ satB v = true) ∧ ((10 * x + d < 9223372036854775808 ∧ satB v = false ∧ H2 = 0 ∧ L2 = 10 * x + d) ∨ (9223372036854775808 ≤ 10 * x + d ∧ (H2 ≠ 0 ∨ (H2 = 0 ∧ 9223372036854775808 ≤ L2)))) ∧ satV (10 * v + d) = 0 ∧ satB (10 * v + d) = false) := by
    by_cases hv : v < 9223372036854775808
    · obtain ⟨s1, s2⟩ := sat_yes hv
      have hxv : x = (v : Int) := by rw [← hx, s1]
      by_cases h2 : 10 * v + d < 9223372036854775808
      · obtain ⟨t1, t2⟩ := sat_yes h2
        left
        refine ⟨s2, by omega, ?_, ?_, by rw [t1, hxv]; push_cast; rfl, t2⟩
        · rcases hfit with h | h
          · exact h.2.1
          · omega
        · rcases hfit with h | h
          · exact h.2.2
          · omega
      · obtain ⟨t1, t2⟩ := sat_no h2
        right
        refine ⟨.inr s2, .inr ?_, t1, t2⟩
        rcases hfit with h | h
        · omega
        · exact h
    · obtain ⟨s1, s2⟩ := sat_no hv
      have hxv : x = 0 := by rw [← hx, s1]
      obtain ⟨t1, t2⟩ := sat_no (v := 10 * v + d) (by omega)
      right
      refine ⟨.inl s2, .inl ?_, t1, t2⟩
      rcases hfit with h | h
      · exact ⟨h.1, s2, h.2⟩
      · omega
  clear hfit
  generalize satB v = bb at *
  generalize satV (10 * v + d) = rv at *
  generalize satB (10 * v + d) = rb at *
  clear hx hH hL b1
  rcases hres with ⟨rfl, h1, rfl, rfl, rfl, rfl⟩ | ⟨hbb, hin, rfl, rfl⟩
  · have hint := fun u => wint_ok (10 * x + d) u (by omega) h1
    go_enter Try.func70, Try.ntmps70
    go_wp2_with fail
    refine (hmul _).mono ?_
    rintro e w1 ⟨rfl, hb1⟩
    go_wp2_with fail
    refine (hof _).mono ?_
    rintro e w2 ⟨rfl, hb2⟩
    have hbb2 := bl_call hb1 hb2
    go_wp2_with fail
    refine (hadd _).mono ?_
    rintro e w3 ⟨rfl, hb3⟩
    have hbb3 := bl_call hbb2 hb3
    go_wp2_with fail
    refine (hint _).mono ?_
    rintro e w4 ⟨rfl, hb4⟩
    have hbb4 := bl_call hbb3 hb4
    go_wp2_with fail
    go_ret2
    exact ⟨rfl, hbb4⟩
  · rcases hin with ⟨h1, rfl, rfl, rfl⟩ | ⟨h1, h2⟩
    · have hint := fun u => wint_ok (10 * x + d) u (by omega) h1
      go_enter Try.func70, Try.ntmps70
      go_wp2_with fail
      refine (hmul _).mono ?_
      rintro e w1 ⟨rfl, hb1⟩
      go_wp2_with fail
      refine (hof _).mono ?_
      rintro e w2 ⟨rfl, hb2⟩
      have hbb2 := bl_call hb1 hb2
      go_wp2_with fail
      refine (hadd _).mono ?_
      rintro e w3 ⟨rfl, hb3⟩
      have hbb3 := bl_call hbb2 hb3
      go_wp2_with fail
      refine (hint _).mono ?_
      rintro e w4 ⟨rfl, hb4⟩
      have hbb4 := bl_call hbb3 hb4
      go_wp2_with fail
      go_ret2
      exact ⟨rfl, hbb4⟩
    · have hint := fun u => wint_no H2 L2 u h2
      rcases hbb with rfl | rfl
      all_goals
        go_enter Try.func70, Try.ntmps70
        go_wp2_with fail
        refine (hmul _).mono ?_
        rintro e w1 ⟨rfl, hb1⟩
        go_wp2_with fail
        refine (hof _).mono ?_
        rintro e w2 ⟨rfl, hb2⟩
        have hbb2 := bl_call hb1 hb2
        go_wp2_with fail
        refine (hadd _).mono ?_
        rintro e w3 ⟨rfl, hb3⟩
        have hbb3 := bl_call hbb2 hb3
        go_wp2_with fail
        refine (hint _).mono ?_
        rintro e w4 ⟨rfl, hb4⟩
        have hbb4 := bl_call hbb3 hb4
        go_wp2_with fail
        go_ret2
        exact ⟨rfl, hbb4⟩
set_option maxHeartbeats 4000000 in
/-- a byte is a digit -/
theorem rdigit_any (c : UInt8) (w : World) :
    Calls Try.prog 82 #[.int .u8 c.toNat] w fun e w' => e = .returned (.bool (isDig c)) ∧ w = w' := by
  by_cases h1 : c.toNat < 48
  · have hd : isDig c = false := by simp [isDig]; omega
    rw [hd]
    go_enter Try.func82, Try.ntmps82
    go_wp2_with fail
    go_ret
    exact ⟨by simp; try omega, rfl⟩
  · by_cases h2 : c.toNat ≤ 57
    · have hd : isDig c = true := by simp [isDig]; omega
      rw [hd]
      go_enter Try.func82, Try.ntmps82
      go_wp2_with fail
      go_ret
      exact ⟨by simp; try omega, rfl⟩
    · have hd : isDig c = false := by simp [isDig]; omega
      rw [hd]
      go_enter Try.func82, Try.ntmps82
      go_wp2_with fail
      go_ret
      exact ⟨by simp; try omega, rfl⟩
end Go.Proofs.Ytcgkfgklggjmaaa.Dec
end
section
namespace Go.Proofs.Ytcgkfgklggjmaaa.Dec
set_option linter.unusedVariables false
set_option linter.unusedSimpArgs false
open Go.RowKit
def RInv (l : List UInt8) (i : Nat) (pts : Int) : Prop :=
  (pts = 0 ∧ (l.take i).all isDig = true) ∨ (pts = 1 ∧ ∃ a r, l.take i = a ++ 46 :: r ∧ a.all isDig = true ∧ r.all isDig = true ∧ a.length + 1 < l.length)
theorem RInv.start (l : List UInt8) : RInv l 0 0 := .inl ⟨rfl, rfl⟩
theorem RInv.digit {l : List UInt8} {i : Nat} {pts : Int} {c : UInt8} (h : RInv l i pts) (ht : l.take (i + 1) = l.take i ++ [c]) (hc : isDig c = true) : RInv l (i + 1) pts := by
  rcases h with ⟨h, h'⟩ | ⟨h, a, r, h1, h2, h3, h4⟩
  · exact .inl ⟨h, by rw [ht, List.all_append, h', List.all_cons, hc]; rfl⟩
  · exact .inr ⟨h, a, r ++ [c], by rw [ht, h1, List.append_assoc, List.cons_append], h2, by rw [List.all_append, h3, List.all_cons, hc]; rfl, h4⟩
theorem RInv.point {l : List UInt8} {i : Nat} (h : RInv l i 0) (ht : l.take (i + 1) = l.take i ++ [46]) (hi : i + 1 < l.length) : RInv l (i + 1) 1 := by
  rcases h with ⟨h, h'⟩ | ⟨h, _⟩
  · exact .inr ⟨rfl, l.take i, [], ht, h', rfl, by rw [List.length_take]; omega⟩
  · omega
theorem split_at {l : List UInt8} {i : Nat} {c : UInt8} (hi : i < l.length) (ht : l.take (i + 1) = l.take i ++ [c]) : l = l.take i ++ c :: l.drop (i + 1) := by
  have := List.take_append_drop (i + 1) l
  rw [ht, List.append_assoc, List.cons_append, List.nil_append] at this
  exact this.symm
theorem RInv.two {l : List UInt8} {i : Nat} (h : RInv l i 1) (hi : i < l.length) (ht : l.take (i + 1) = l.take i ++ [46]) : formL l = 0 := by
  rcases h with ⟨h, _⟩ | ⟨_, a, r, h1, _⟩
  · omega
  · rw [split_at hi ht]
    exact form_two (.inl (by rw [h1]; simp))
theorem form_last {l : List UInt8} {i : Nat} (hi : i + 1 = l.length) (ht : l.take (i + 1) = l.take i ++ [46]) : formL l = 0 := by
  rw [split_at (by omega) ht]
  exact form_two (.inr (by rw [hi, List.drop_length]))
theorem form_odd {l : List UInt8} {i : Nat} {c : UInt8} (hi : i < l.length) (ht : l.take (i + 1) = l.take i ++ [c]) (h1 : isDig c = false) (h2 : c ≠ 46) : formL l = 0 :=
  form_bad (c := c) (by rw [split_at hi ht]; simp) h1 h2
theorem rof_end {l : List UInt8} {pts : Int} (h : RInv l l.length pts) (hne : l ≠ []) (hd : isDig (l.headD 0) = true) :
    formL l = if l.headD 0 = 48 ∧ 1 < l.length ∧ l.getD 1 0 ≠ 46 then 0 else 1 + pts := by
  rcases h with ⟨rfl, h⟩ | ⟨rfl, a, r, h1, h2, h3, h4⟩
  · rw [List.take_length] at h
    rw [form_whole h hne]
    have h46 : 1 < l.length → l.getD 1 0 ≠ 46 := fun hl e => by
      have : (46 : UInt8) ∈ l := by
        rw [List.getD_eq_getElem?_getD, List.getElem?_eq_getElem hl, Option.getD_some] at e
        rw [← e]
        exact List.getElem_mem _
      exact all_none h this
    cases l with
    | nil => exact absurd rfl hne
    | cons c l' =>
      have hlb : leadB (c :: l') = (decide (1 < (c :: l').length) && (c == 48)) := rfl
      rw [List.headD_cons]
      by_cases c1 : c = 48
      · by_cases c2 : 1 < (c :: l').length
        · have e : leadB (c :: l') = true := by rw [hlb, decide_eq_true c2, beq_iff_eq.2 c1]; rfl
          rw [e, if_pos rfl, if_pos ⟨c1, c2, h46 c2⟩]
        · have e : leadB (c :: l') = false := by rw [hlb, decide_eq_false c2]; rfl
          rw [e, if_neg Bool.false_ne_true, if_neg (fun e => c2 e.2.1)]; rfl
      · have e : leadB (c :: l') = false := by rw [hlb, beq_eq_false_iff_ne.2 c1, Bool.and_false]
        rw [e, if_neg Bool.false_ne_true, if_neg (fun e => c1 e.1)]; rfl
  · rw [List.take_length] at h1
    have hane : a ≠ [] := fun e => by
      rw [h1, e] at hd
      have hd : isDig 46 = true := hd
      exact absurd hd (by decide)
    have hrne : r ≠ [] := fun e => by
      rw [h1, e] at h4
      simp at h4
    rw [h1, form_point h2 hane h3 hrne]
    unfold leadB
    cases a with
    | nil => exact absurd rfl hane
    | cons c a =>
      cases a with
      | nil => simp
      | cons c2 a =>
        have hc2 : c2 ≠ 46 := fun e => all_none h2 (by rw [e]; simp)
        by_cases c1 : c = 48
        · simp [c1, hc2]
        · simp [c1]
theorem get_one (l : List UInt8) (h : 1 < l.length) : l.getD 1 0 = l[1] := by
  rw [List.getD_eq_getElem?_getD, List.getElem?_eq_getElem h, Option.getD_some]
theorem head_get (l : List UInt8) (h : 0 < l.length) : l.headD 0 = l[0] := by
  cases l with
  | nil => exact absurd h (by simp)
  | cons a b => rfl
set_option maxHeartbeats 4000000 in
set_option maxRecDepth 100000 in
theorem rof_any (s : ByteArray) (w : World) (hs : s.size ≤ 20000) :
    Calls Try.prog 68 #[.string s] w fun e w' => e = .returned (.int .i64 (formL s.data.toList)) ∧ Below w.heap.size w w' := by
  obtain ⟨f, hf⟩ : ∃ f, formL s.data.toList = f := ⟨_, rfl⟩
  rw [hf]
  have HF := Lib.hid hf
  clear hf
  have hsz := (Lib.size_eq s).symm
  by_cases h0 : s.size = 0
  · have hs0 : s.data.toList = [] := List.length_eq_zero_iff.1 (by omega)
    have hf0 : f = 0 := by rw [← HF.out, hs0]; exact form_head (.inl rfl)
    have hse : s = ⟨#[]⟩ := by apply ByteArray.ext; apply Array.toList_inj.mp; exact hs0
    subst hf0 hse
    clear HF
    go_enter Try.func68, Try.ntmps68
    go_wp2_with fail
    go_ret
    exact ⟨rfl, bl_refl w⟩
  · have hp : 0 < s.size := by omega
    have hse : s.toList.isEmpty = false := by
      rw [Lib.toList_data]
      cases hh : s.data.toList with
      | nil => rw [hh] at hsz; simp at hsz; omega
      | cons a b => rfl
    have hh0 : s.data.toList.headD 0 = s[0] := head_get s.data.toList (by omega)
    go_enter Try.func68, Try.ntmps68
    go_wp2_with fail
    refine (rdigit_any _ _).mono ?_
    rintro e w1 ⟨rfl, rfl⟩
    cases hd0 : isDig s[0] with
    | false =>
      have hf0 : f = 0 := by rw [← HF.out]; exact form_head (.inr (by rw [hh0]; exact hd0))
      subst hf0
      go_wp2_with fail
      go_ret
      exact ⟨rfl, bl_refl w⟩
    | true =>
      have HD0 := Lib.hid hd0
      have HH0 := Lib.hid hh0
      clear hd0 hh0
      go_wp2_with fail
      go_loop [3, 4] (fun v3 v4 => ∃ (i : Nat) (pts : Int), i ≤ s.size ∧ v4 = .int .i64 i ∧ v3 = .int .i64 pts ∧ (pts = 0 ∨ pts = 1) ∧ Hid (RInv s.data.toList i pts)) (fun _ v4 => s.size - (intOf v4).toNat)
      case atStart => exact ⟨0, 0, Nat.zero_le _, rfl, rfl, .inl rfl, RInv.start _⟩
      case round =>
        obtain ⟨i, pts, hi, rfl, rfl, hpt, HR⟩ := hrel
        by_cases hlt : i < s.size
        · have hsn := take_snoc s i hlt
          have hil : i < s.data.toList.length := by omega
          by_cases hc : (s[i]'hlt) = 46
          · rw [hc] at hsn
            have hc' : (((s[i]'hlt).toNat : Nat) : Int) = 46 := by rw [hc]; rfl
            have hcase : (f = 0 ∧ pts = 1) ∨ (f = 0 ∧ pts = 0 ∧ ((i : Int) == (s.size : Int) - 1) = true) ∨ (pts = 0 ∧ ((i : Int) == (s.size : Int) - 1) = false ∧ Hid (RInv s.data.toList (i + 1) 1)) := by
              rcases hpt with rfl | rfl
              · by_cases he : i + 1 = s.size
                · exact .inr (.inl ⟨by rw [← HF.out]; exact form_last (by omega) hsn, rfl, by rw [beq_iff_eq]; omega⟩)
                · exact .inr (.inr ⟨rfl, by rw [beq_eq_false_iff_ne]; omega, RInv.point HR.out hsn (by omega)⟩)
              · exact .inl ⟨by rw [← HF.out]; exact RInv.two HR.out hil hsn, rfl⟩
            clear hpt HR hsn hc HF HD0 HH0
            rcases hcase with ⟨rfl, rfl⟩ | ⟨rfl, rfl, he⟩ | ⟨rfl, he, HR⟩
            · go_wp2
              go_ret
              exact ⟨rfl, bl_refl w⟩
            · go_wp2
              go_ret
              exact ⟨rfl, bl_refl w⟩
            · go_wp2
              go_round
              case rel => exact ⟨i + 1, 1, by omega, by go_num, rfl, .inr rfl, HR⟩
              case measure => simp [intOf]; omega
          · have hc' : ((((s[i]'hlt).toNat : Nat) : Int) == 46) = false := by
              rw [beq_eq_false_iff_ne]
              exact fun e => hc (UInt8.toNat.inj (by show _ = 46; omega))
            have hdg := fun u => rdigit_any (s[i]'hlt) u
            cases hd : isDig (s[i]'hlt) with
            | true =>
              rw [hd] at hdg
              have HR2 : Hid (RInv s.data.toList (i + 1) pts) := RInv.digit HR.out hsn hd
              clear hd hsn hc HR
              go_wp2_with fail
              refine (hdg _).mono ?_
              rintro e w2 ⟨rfl, rfl⟩
              go_wp2_with fail
              go_round
              case rel => exact ⟨i + 1, pts, by omega, by go_num, rfl, hpt, HR2⟩
              case measure => simp [intOf]; omega
            | false =>
              rw [hd] at hdg
              have hf0 : f = 0 := by rw [← HF.out]; exact form_odd hil hsn hd hc
              subst hf0
              clear hd hsn hc HR
              go_wp2_with fail
              refine (hdg _).mono ?_
              rintro e w2 ⟨rfl, rfl⟩
              go_wp2_with fail
              go_ret
              exact ⟨rfl, bl_refl w⟩
        · obtain rfl : i = s.size := by omega
          have hR := HR.out
          rw [← hsz] at hR
          have hend := rof_end hR (fun e => by rw [e] at hsz; simp at hsz; omega) (by rw [HH0.out]; exact HD0.out)
          rw [HF.out, HH0.out] at hend
          have hcase : (((s[0].toNat : Int) == 48) = false ∧ f = 1 + pts) ∨ ((s[0].toNat : Int) = 48 ∧ (s.size : Int) ≤ 1 ∧ f = 1 + pts) ∨ (∃ h1 : 1 < s.size, (s[0].toNat : Int) = 48 ∧ (((s[1]'h1).toNat : Int) != 46) = false ∧ f = 1 + pts) ∨ (∃ h1 : 1 < s.size, (s[0].toNat : Int) = 48 ∧ (((s[1]'h1).toNat : Int) != 46) = true ∧ f = 0) := by
            by_cases a1 : (s[0].toNat : Int) = 48
            · have e0 : s[0] = 48 := UInt8.toNat.inj (by show _ = 48; omega)
              by_cases a2 : 1 < s.size
              · have hg : s.data.toList.getD 1 0 = s[1]'a2 := get_one s.data.toList (by omega)
                by_cases a3 : s[1]'a2 = 46
                · refine .inr (.inr (.inl ⟨a2, a1, by rw [a3]; rfl, ?_⟩))
                  rw [hend, if_neg (fun e => e.2.2 (by rw [hg, a3]))]
                · refine .inr (.inr (.inr ⟨a2, a1, ?_, ?_⟩))
                  · rw [bne_iff_ne]; exact fun e => a3 (UInt8.toNat.inj (by show _ = 46; omega))
                  · rw [hend, if_pos ⟨e0, by omega, by rw [hg]; exact a3⟩]
              · exact .inr (.inl ⟨a1, by omega, by rw [hend, if_neg (fun e => a2 (by have := e.2.1; omega))]⟩)
            · exact .inl ⟨beq_eq_false_iff_ne.2 a1, by rw [hend, if_neg (fun e => a1 (by rw [e.1]; rfl))]⟩
          clear hend hR HF HD0 HH0 HR
          rcases hcase with ⟨c1, rfl⟩ | ⟨c1, c2, rfl⟩ | ⟨c2, c1, c3, rfl⟩ | ⟨c2, c1, c3, rfl⟩
          · rcases hpt with rfl | rfl
            all_goals
              go_wp2_with fail
              go_ret
              exact ⟨rfl, bl_refl w⟩
          · rcases hpt with rfl | rfl
            all_goals
              go_wp2_with fail
              go_ret
              exact ⟨rfl, bl_refl w⟩
          · have c2' : (1 : Int) < (s.size : Int) := by omega
            rcases hpt with rfl | rfl
            all_goals
              go_wp2_with fail
              go_ret
              exact ⟨rfl, bl_refl w⟩
          · have c2' : (1 : Int) < (s.size : Int) := by omega
            rcases hpt with rfl | rfl
            all_goals
              go_wp2_with fail
              go_ret
              exact ⟨rfl, bl_refl w⟩
end Go.Proofs.Ytcgkfgklggjmaaa.Dec
end
section
namespace Go.Proofs.Ytcgkfgklggjmaaa.Dec
set_option linter.unusedVariables false
set_option linter.unusedSimpArgs false
open Go.RowKit
theorem form_struct {l : List UInt8} (h : formL l ≠ 0) : ∃ a b, (Lib.cut l [46]).1 = a ∧ (Lib.cut l [46]).2.1 = b ∧ a.all isDig = true ∧ b.all isDig = true ∧ ((l = a ∧ b = [] ∧ formL l = 1) ∨ (l = a ++ 46 :: b ∧ b ≠ [])) := by
  obtain ⟨d1, d2, d3⟩ := form_digits h
  refine ⟨_, _, rfl, rfl, d1, d3, ?_⟩
  rcases cut_spec l with ⟨e, _⟩ | ⟨a, b, e', ha, e⟩
  · left
    rw [e]
    refine ⟨rfl, rfl, ?_⟩
    rcases form_three l with h0 | h1 | h2
    · exact absurd h0 h
    · exact h1
    · rw [e] at d1 d2
      have := form_whole d1 d2
      rw [h2] at this
      split at this <;> omega
  · right
    rw [e] at d3 ⊢
    refine ⟨e', fun hb => h ?_⟩
    have hb : b = [] := hb
    rw [e', hb]
    exact form_two (.inr rfl)
theorem parse_form {l : List UInt8} (h : formL l ≠ 0) (k : Nat) (hk : k ≤ 9) (most : Int) {a b : List UInt8} (ha : (Lib.cut l [46]).1 = a) (hb : (Lib.cut l [46]).2.1 = b) (hs : (l = a ∧ b = [] ∧ formL l = 1) ∨ (l = a ++ 46 :: b ∧ b ≠ [])) :
    parseL l k most = if k < b.length then (0, 1) else if 9223372036854775808 ≤ valN 0 (a ++ fillL b k) ∨ most < (valN 0 (a ++ fillL b k) : Int) then (0, 2) else ((valN 0 (a ++ fillL b k) : Int), 0) := by
  unfold parseL parseW
  rw [ha, hb, Int.toNat_natCast]
  by_cases hk0 : k < b.length
  · rw [if_pos hk0]
    by_cases c : formL l = 0 ∨ (k : Int) < 0 ∨ 9 < (k : Int) ∨ formL l = 2 ∧ (k : Int) = 0
    · rw [if_pos c]
    · rw [if_neg c, if_pos (by exact_mod_cast hk0)]
  · rw [if_neg hk0, if_neg, if_neg (by exact_mod_cast hk0)]
    intro c
    rcases c with c | c | c | ⟨c1, c2⟩
    · exact h c
    · omega
    · omega
    · rcases hs with ⟨_, _, h1⟩ | ⟨_, h2⟩
      · omega
      · have : 0 < b.length := List.length_pos_iff.2 h2
        omega
def digs (l : List UInt8) (i : Nat) : List UInt8 := (l.take i).filter (· != 46)
theorem digs_snoc {l : List UInt8} {i : Nat} {c : UInt8} (ht : l.take (i + 1) = l.take i ++ [c]) (hc : c ≠ 46) : digs l (i + 1) = digs l i ++ [c] := by
  unfold digs; rw [ht, List.filter_append]; simp [hc]
theorem digs_point {l : List UInt8} {i : Nat} (ht : l.take (i + 1) = l.take i ++ [46]) : digs l (i + 1) = digs l i := by
  unfold digs; rw [ht, List.filter_append]; simp
theorem filter_digs {a : List UInt8} (h : a.all isDig = true) : a.filter (· != 46) = a := by
  rw [List.filter_eq_self]
  intro c hc
  have := List.all_eq_true.1 h c hc
  rw [bne_iff_ne]
  intro e
  rw [e] at this
  exact absurd this (by decide)
theorem digs_end {l a b : List UInt8} (ha : a.all isDig = true) (hb : b.all isDig = true) (h : (l = a ∧ b = []) ∨ l = a ++ 46 :: b) : digs l l.length = a ++ b := by
  unfold digs
  rw [List.take_length]
  rcases h with ⟨rfl, rfl⟩ | rfl
  · rw [filter_digs ha, List.append_nil]
  · rw [List.filter_append, filter_digs ha]
    simp [filter_digs hb]
/-- each byte: the point, or a digit -/
theorem byte_of {l a b : List UInt8} (ha : a.all isDig = true) (hb : b.all isDig = true) (h : (l = a ∧ b = []) ∨ l = a ++ 46 :: b) (i : Nat) (hi : i < l.length) :
    (i = a.length ∧ l[i] = 46 ∧ l = a ++ 46 :: b) ∨ (i ≠ a.length ∧ isDig l[i] = true) := by
  rcases h with ⟨rfl, rfl⟩ | rfl
  · exact .inr ⟨by omega, List.all_eq_true.1 ha _ (List.getElem_mem _)⟩
  · rcases Nat.lt_trichotomy i a.length with h1 | h1 | h1
    · right
      refine ⟨by omega, ?_⟩
      rw [List.getElem_append_left h1]
      exact List.all_eq_true.1 ha _ (List.getElem_mem _)
    · left
      subst h1
      simp
    · right
      refine ⟨by omega, ?_⟩
      rw [List.getElem_append_right (by omega)]
      obtain ⟨j, hj⟩ : ∃ j, i - a.length = j + 1 := ⟨i - a.length - 1, by omega⟩
      simp only [hj, List.getElem_cons_succ]
      exact List.all_eq_true.1 hb _ (List.getElem_mem _)
theorem val_snoc (l : List UInt8) (c : UInt8) : valN 0 (l ++ [c]) = 10 * valN 0 l + (c.toNat - 48) := by
  rw [valN_append]; simp only [valN, List.foldl_cons, List.foldl_nil]; omega
/-- how many stand behind the point -/
def beh (al i : Nat) : Int := if i ≤ al then -1 else (i : Int) - al - 1
set_option maxHeartbeats 4000000 in
set_option maxRecDepth 100000 in
theorem rparse_any (s : ByteArray) (places most : Int) (w : World) (hs : s.size ≤ 20000) :
    Calls Try.prog 52 #[.string s, .int .i64 places, .int .i64 most] w fun e w' => e = .returned (.tuple #[.int .i64 (parseL s.data.toList places most).1, .int .i64 (parseL s.data.toList places most).2]) ∧ Below w.heap.size w w' := by
  have hof := fun u => rof_any s u hs
  by_cases hbad : formL s.data.toList = 0 ∨ places < 0 ∨ 9 < places
  · have e1 : parseL s.data.toList places most = (0, 1) := by
      unfold parseL parseW; rw [if_pos (by rcases hbad with h | h | h; exact .inl h; exact .inr (.inl h); exact .inr (.inr (.inl h)))]
    rw [e1]
    clear e1
    have hb0 : ((formL s.data.toList == 0) = true) ∨ (((formL s.data.toList == 0) = false) ∧ places < 0) ∨ (((formL s.data.toList == 0) = false) ∧ 0 ≤ places ∧ 9 < places) := by
      by_cases h : formL s.data.toList = 0
      · exact .inl (beq_iff_eq.2 h)
      · have h' := beq_eq_false_iff_ne.2 h
        rcases (by omega : places < 0 ∨ (0 ≤ places ∧ 9 < places)) with h2 | h2
        · exact .inr (.inl ⟨h', h2⟩)
        · exact .inr (.inr ⟨h', h2⟩)
    generalize formL s.data.toList = f at *
    clear hbad
    rcases hb0 with h | ⟨h, h1⟩ | ⟨h, h1, h2⟩
    all_goals
      go_enter Try.func52, Try.ntmps52
      go_wp2_with fail
      refine (hof _).mono ?_
      rintro e w1 ⟨rfl, hb1⟩
      go_wp2_with fail
      go_ret2
      exact ⟨rfl, hb1⟩
  · obtain ⟨k, hk⟩ : ∃ k : Nat, places = (k : Int) := ⟨places.toNat, by omega⟩
    subst hk
    have hfn : formL s.data.toList ≠ 0 := by omega
    obtain ⟨a, b, ea, eb, da, db, hst⟩ := form_struct hfn
    have hpf := parse_form hfn k (by omega) most ea eb hst
    have hst' : (s.data.toList = a ∧ b = []) ∨ s.data.toList = a ++ 46 :: b := by
      rcases hst with ⟨h1, h2, _⟩ | ⟨h1, _⟩
      · exact .inl ⟨h1, h2⟩
      · exact .inr h1
    have hf0 : (formL s.data.toList == 0) = false := beq_eq_false_iff_ne.2 hfn
    generalize formL s.data.toList = f at *
    obtain ⟨r1, hr1⟩ : ∃ r, (parseL s.data.toList k most).1 = r := ⟨_, rfl⟩
    obtain ⟨r2, hr2⟩ : ∃ r, (parseL s.data.toList k most).2 = r := ⟨_, rfl⟩
    rw [hr1, hr2]
    have HR := Lib.hid (And.intro hpf (And.intro hr1 hr2))
    clear hpf hr1 hr2 hst ea eb hfn
    have hk9 : ¬ (9 < (k : Int)) := by omega
    go_enter Try.func52, Try.ntmps52
    go_wp2_with fail
    refine (hof _).mono ?_
    rintro e w1 ⟨rfl, hb1⟩
    go_wp2_with fail
    have hsz := (Lib.size_eq s).symm
    obtain ⟨al, hal⟩ : ∃ al, a.length = al := ⟨_, rfl⟩
    go_loopw [8, 9, 10, 11] (fun v8 v9 v10 v11 wr => ∃ i : Nat, i ≤ s.size ∧ v11 = .int .i64 i ∧ v8 = .int .i64 (beh al i) ∧ v9 = .int .i64 (satV (valN 0 (digs s.data.toList i))) ∧ v10 = .bool (satB (valN 0 (digs s.data.toList i))) ∧ Below w.heap.size w wr) (fun _ _ _ v11 _ => s.size - (intOf v11).toNat)
    case atStart => exact ⟨0, Nat.zero_le _, rfl, by unfold beh; rw [if_pos (Nat.zero_le _)], rfl, rfl, hb1⟩
    case round =>
      obtain ⟨i, hi, rfl, rfl, rfl, rfl, hbw⟩ := hrel
      by_cases hlt : i < s.size
      · have hil : i < s.data.toList.length := by omega
        have hby := byte_of da db hst' i hil
        have hsn := take_snoc s i hlt
        have hse : s.data.toList[i]'hil = s[i]'hlt := rfl
        rw [hse, hal] at hby
        obtain ⟨x, hx⟩ : ∃ x, satV (valN 0 (digs s.data.toList i)) = x := ⟨_, rfl⟩
        obtain ⟨y, hy⟩ : ∃ y, satB (valN 0 (digs s.data.toList i)) = y := ⟨_, rfl⟩
        rw [hx, hy]
        rcases hby with ⟨hia, hc, _⟩ | ⟨hia, hc⟩
        · subst hia
          rw [hc] at hsn
          have hd := digs_point hsn
          rw [← hd] at hx hy
          have hc' : (((s[i]'hlt).toNat : Nat) : Int) = 46 := by rw [hc]; rfl
          have hb' : beh i (i + 1) = 0 := by unfold beh; rw [if_neg (by omega)]; omega
          have HB := Lib.hid hb'
          have VX := Lib.hid (And.intro hx hy)
          clear hb' hx hy hd hsn hc hse hst' da db
          generalize beh i i = bh at *
          go_wp2
          go_roundw
          case rel => exact ⟨i + 1, by omega, by go_num, by rw [HB.out], by rw [VX.out.1], by rw [VX.out.2], hbw⟩
          case measure => simp [intOf]; omega
        · have hg := dig_of hc
          have hne : s[i]'hlt ≠ 46 := fun e => by rw [e] at hc; exact absurd hc (by decide)
          have hd := digs_snoc hsn hne
          have hv := val_snoc (digs s.data.toList i) (s[i]'hlt)
          rw [← hd] at hv
          have hm := fun u => more_any (valN 0 (digs s.data.toList i)) ((s[i]'hlt).toNat - 48) u (by omega)
          rw [← hv, hx, hy] at hm
          obtain ⟨x', hx'⟩ : ∃ x, satV (valN 0 (digs s.data.toList (i + 1))) = x := ⟨_, rfl⟩
          obtain ⟨y', hy'⟩ : ∃ y, satB (valN 0 (digs s.data.toList (i + 1))) = y := ⟨_, rfl⟩
          rw [hx', hy'] at hm
          have VX := Lib.hid (And.intro hx' hy')
          have hc' : ((((s[i]'hlt).toNat : Nat) : Int) == 46) = false := by rw [beq_eq_false_iff_ne]; omega
          have hw8 : IntKind.u8.wrap (((s[i]'hlt).toNat : Int) - 48) = (((s[i]'hlt).toNat - 48 : Nat) : Int) := by rw [IntKind.wrap_u8]; omega
          have hw64 : IntKind.i64.wrap (((s[i]'hlt).toNat - 48 : Nat) : Int) = (((s[i]'hlt).toNat - 48 : Nat) : Int) := by rw [IntKind.wrap_i64]; omega
          clear hx hy hx' hy' hd hv hsn hse hst' da db hc
          by_cases hlo : i < al
          · have hb0 : beh al i = -1 := by unfold beh; rw [if_pos (by omega)]
            have hb1' : beh al (i + 1) = -1 := by unfold beh; rw [if_pos (by omega)]
            have HB := Lib.hid hb1'
            rw [hb0]
            clear hb0 hb1'
            go_wp2_with fail
            refine (hm _).mono ?_
            rintro e w2 ⟨rfl, hb2⟩
            go_wp2_with fail
            go_roundw
            case rel => exact ⟨i + 1, by omega, by go_num, by rw [HB.out], by rw [VX.out.1], by rw [VX.out.2], bl_call hbw hb2⟩
            case measure => simp [intOf]; omega
          · have hb0 : beh al i = (i : Int) - al - 1 := by unfold beh; rw [if_neg (by omega)]
            have hb1' : beh al (i + 1) = (i : Int) - al - 1 + 1 := by unfold beh; rw [if_neg (by omega)]; omega
            have HB := Lib.hid hb1'
            obtain ⟨bh, hbh⟩ : ∃ bh, (i : Int) - al - 1 = bh := ⟨_, rfl⟩
            rw [hb0, hbh]
            rw [hbh] at HB
            have hbh0 : 0 ≤ bh := by omega
            have hbh1 : bh ≤ 20000 := by omega
            clear hb0 hb1' hbh
            go_wp2_with fail
            refine (hm _).mono ?_
            rintro e w2 ⟨rfl, hb2⟩
            go_wp2_with fail
            go_roundw
            case rel => exact ⟨i + 1, by omega, by go_num, by rw [HB.out], by rw [VX.out.1], by rw [VX.out.2], bl_call hbw hb2⟩
            case measure => simp [intOf]; omega
      · obtain rfl : i = s.size := by omega
        have hde := digs_end da db hst'
        rw [hsz] at hde
        rw [hde]
        have hbe : beh al s.size = -1 ∧ b = [] ∨ beh al s.size = (b.length : Int) := by
          rcases hst' with ⟨h1, h2⟩ | h1
          · left
            refine ⟨?_, h2⟩
            unfold beh
            rw [if_pos]
            rw [← hsz, h1]; omega
          · right
            have hl := congrArg List.length h1
            simp only [List.length_append, List.length_cons] at hl
            unfold beh
            rw [if_neg (by omega)]
            omega
        clear hst' hde da db hal
        by_cases hkb : k < b.length
        · have hbb : beh al s.size = (b.length : Int) := by
            rcases hbe with ⟨_, h⟩ | h
            · rw [h] at hkb; simp at hkb
            · exact h
          have hr := HR.out
          rw [if_pos hkb] at hr
          obtain ⟨g0, g1, g2⟩ := hr
          rw [g0] at g1 g2
          obtain rfl : r1 = 0 := g1.symm
          obtain rfl : r2 = 1 := g2.symm
          rw [hbb]
          clear hbe HR g0 g1 g2
          have hkb' : (k : Int) < (b.length : Int) := by omega
          go_wp2_with fail
          go_ret2
          exact ⟨rfl, hbw⟩
        · have hr := HR.out
          rw [if_neg hkb] at hr
          obtain ⟨bh, hbh⟩ : ∃ bh, beh al s.size = bh := ⟨_, rfl⟩
          rw [hbh] at hbe ⊢
          have hbm : max bh 0 = (b.length : Int) := by
            rcases hbe with ⟨h1, h2⟩ | h
            · rw [h1, h2]; rfl
            · rw [h]; omega
          have hbk : ¬ (k : Int) < bh := by
            rcases hbe with ⟨h1, h2⟩ | h <;> omega
          clear hbe hbh
          have HR2 := Lib.hid hr
          clear HR hr
          go_wp2_with fail
          go_loopw [9, 10, 12] (fun v9 v10 v12 wr => ∃ j : Nat, b.length ≤ j ∧ j ≤ k ∧ v12 = .int .i64 j ∧ v9 = .int .i64 (satV (valN 0 (a ++ fillL b j))) ∧ v10 = .bool (satB (valN 0 (a ++ fillL b j))) ∧ Below w.heap.size w wr) (fun _ _ v12 _ => k - (intOf v12).toNat)
          case atStart => exact ⟨b.length, Nat.le_refl _, by omega, rfl, by simp [fillL], by simp [fillL], hbw⟩
          case round =>
            obtain ⟨j, hj0, hj1, rfl, rfl, rfl, hbw'⟩ := hrel
            by_cases hjk : j < k
            · have hfl : a ++ fillL b (j + 1) = (a ++ fillL b j) ++ [48] := by
                unfold fillL
                rw [show j + 1 - b.length = (j - b.length) + 1 by omega, List.replicate_succ', List.append_assoc, List.append_assoc]
              have hv : valN 0 (a ++ fillL b (j + 1)) = 10 * valN 0 (a ++ fillL b j) + 0 := by
                rw [hfl, val_snoc]; rfl
              have hm := fun u => more_any (valN 0 (a ++ fillL b j)) 0 u (by omega)
              rw [← hv] at hm
              obtain ⟨x', hx'⟩ : ∃ x, satV (valN 0 (a ++ fillL b (j + 1))) = x := ⟨_, rfl⟩
              obtain ⟨y', hy'⟩ : ∃ y, satB (valN 0 (a ++ fillL b (j + 1))) = y := ⟨_, rfl⟩
              rw [hx', hy'] at hm
              have VX := Lib.hid (And.intro hx' hy')
              clear hx' hy' hv hfl
              generalize satV (valN 0 (a ++ fillL b j)) = x at *
              generalize satB (valN 0 (a ++ fillL b j)) = y at *
              go_wp2_with fail
              refine (hm _).mono ?_
              rintro e w2 ⟨rfl, hb2⟩
              go_wp2_with fail
              go_roundw
              case rel => exact ⟨j + 1, by omega, by omega, by go_num, by rw [VX.out.1], by rw [VX.out.2], bl_call hbw' hb2⟩
              case measure => simp [intOf]; omega
            · obtain rfl : j = k := by omega
              obtain ⟨g0, g1, g2⟩ := HR2.out
              generalize valN 0 (a ++ fillL b j) = V at *
              have hcase : (satB V = false ∧ r1 = 0 ∧ r2 = 2) ∨ (satB V = true ∧ satV V = (V : Int) ∧ most < (V : Int) ∧ r1 = 0 ∧ r2 = 2) ∨ (satB V = true ∧ satV V = (V : Int) ∧ (V : Int) ≤ most ∧ r1 = (V : Int) ∧ r2 = 0) := by
                by_cases hv : V < 9223372036854775808
                · obtain ⟨s1, s2⟩ := sat_yes hv
                  by_cases hm : most < (V : Int)
                  · rw [if_pos (.inr hm)] at g0
                    rw [g0] at g1 g2
                    exact .inr (.inl ⟨s2, s1, hm, g1.symm, g2.symm⟩)
                  · rw [if_neg (by omega)] at g0
                    rw [g0] at g1 g2
                    exact .inr (.inr ⟨s2, s1, by omega, g1.symm, g2.symm⟩)
                · obtain ⟨s1, s2⟩ := sat_no hv
                  rw [if_pos (.inl (by omega))] at g0
                  rw [g0] at g1 g2
                  exact .inl ⟨s2, g1.symm, g2.symm⟩
              clear g0 g1 g2 HR2
              rcases hcase with ⟨s2, rfl, rfl⟩ | ⟨s2, s1, hm, rfl, rfl⟩ | ⟨s2, s1, hm, rfl, rfl⟩
              · rw [s2]
                go_wp2_with fail
                go_ret2
                exact ⟨rfl, hbw'⟩
              · rw [s2, s1]
                go_wp2_with fail
                go_ret2
                exact ⟨rfl, hbw'⟩
              · rw [s2, s1]
                go_wp2_with fail
                go_ret2
                exact ⟨rfl, hbw'⟩
end Go.Proofs.Ytcgkfgklggjmaaa.Dec
end
section
namespace Go.Proofs.Ytcgkfgklggjmaaa.Par
set_option linter.unusedVariables false
set_option linter.unusedSimpArgs false
open Go.RowKit
/-- a number's values, as decimal.Parse says them -/
def npV (t : ByteArray) (places most : Int) : Int × Int := Dec.parseL t.data.toList places most
theorem peek_fail (e : Int) (t : Tok) (s : St) : peek (fail e t s) = peek s := by unfold fail; split <;> rfl
set_option maxHeartbeats 4000000 in
set_option maxRecDepth 100000 in
theorem rnumber_any {w : World} {b : Nat} {ts : List Tok} {r cap i : Nat} {s : St} (h : RAt w b ts r cap i s) (places most : Int) :
    Calls Try.prog 35 #[.pointer (some ⟨b, 0, none⟩), .int .i64 places, .int .i64 most] w fun en w' => en = .returned (.int .i64 (R.number npV places most s).1) ∧ (∃ j, RAt w' b ts r cap j (R.number npV places most s).2) ∧ Fr b w w' := by
  obtain ⟨t0, t1, t2, t3⟩ := h.tok
  obtain ⟨c0, c1, c2, c3, c4, f0, f1, f2, f3, f4⟩ := h.blk.c5
  have hb := h.blk.lt
  have hr := h.rlt
  have hlt := h.lt
  have hbig := h.big
  have b0 : (0 : Int) ≤ (i : Int) := by omega
  have b1 : (i : Int) < (ts.length : Int) := by omega
  have hbl := bl_drew (bl_alloc (bl_refl w) (.cells #[.int .i64 (peek s).kind, .string (peek s).text, .int .i64 (peek s).line, .int .i64 (peek s).col] 77))
  have h1 := h.below hbl
  by_cases hc : s.err ≠ 0 ∨ (peek s).kind ≠ 3
  · have e0 : R.number npV places most s = (0, R.wrong 4 s) := by unfold R.number; rw [if_pos hc]
    rw [e0]
    have hw := wrong_any h1 4
    have hcase : (s.err != 0) = true ∨ ((s.err != 0) = false ∧ ((peek s).kind != 3) = true) := by
      by_cases h0 : s.err = 0
      · right
        rw [h0]
        exact ⟨rfl, bne_iff_ne.2 (hc.resolve_left (fun e => e h0))⟩
      · left; exact bne_iff_ne.2 h0
    generalize R.wrong 4 s = s' at *
    generalize peek s = t at *
    clear e0 hc
    rcases hcase with g0 | ⟨g0, g1⟩
    all_goals
      go_enter Try.func35, Try.ntmps35
      go_wp2_with fail
      go_region
      go_wp2_with fail
      refine hw.mono ?_
      rintro e w1 ⟨rfl, hP, hF⟩
      go_wp2_with fail
      go_ret
      exact ⟨rfl, ⟨i, hP⟩, (Fr.of_below hbl).trans hF⟩
  · have hc1 : s.err = 0 := Classical.byContradiction fun e => hc (.inl e)
    have hc2 : (peek s).kind = 3 := Classical.byContradiction fun e => hc (.inr e)
    have e0 : R.number npV places most s = ((npV (peek s).text places most).1, drop1 (if (npV (peek s).text places most).2 = 1 then R.wrong 4 s else if (npV (peek s).text places most).2 = 2 then R.wrong 6 s else s)) := by unfold R.number; rw [if_neg hc]
    rw [e0]
    have g0 : (s.err != 0) = false := by rw [hc1]; rfl
    have g1 : ((peek s).kind != 3) = false := by rw [hc2]; simp
    have hsz := h.size
    have hparse := fun v => Dec.rparse_any (peek s).text places most v (by omega)
    have hnp : ∀ v, Calls Try.prog 52 #[.string (peek s).text, .int .i64 places, .int .i64 most] v fun e w' => e = .returned (.tuple #[.int .i64 (npV (peek s).text places most).1, .int .i64 (npV (peek s).text places most).2]) ∧ Below v.heap.size v w' := hparse
    clear hparse
    have hk4 : (peek (R.wrong 4 s)).kind ≠ 0 := by unfold R.wrong; rw [peek_fail, hc2]; decide
    have hk6 : (peek (R.wrong 6 s)).kind ≠ 0 := by unfold R.wrong; rw [peek_fail, hc2]; decide
    have hk0 : (peek s).kind ≠ 0 := by rw [hc2]; decide
    have hstep := fun v (h : RAt v b ts r cap i s) => h.step hk0
    have hstep4 := fun v (h : RAt v b ts r cap i (R.wrong 4 s)) => h.step hk4
    have hstep6 := fun v (h : RAt v b ts r cap i (R.wrong 6 s)) => h.step hk6
    have hw := fun v e (h : RAt v b ts r cap i s) => wrong_any h e
    generalize npV (peek s).text places most = n at *
    obtain ⟨n1, n2⟩ := n
    generalize peek s = t at *
    clear e0 hc hc2 hk4 hk6 hk0
    by_cases h1' : n2 = 1
    · subst h1'
      simp only [if_true]
      have hw4 := fun v (h : RAt v b ts r cap i s) => hw v 4 h
      generalize R.wrong 4 s = s' at *
      go_enter Try.func35, Try.ntmps35
      go_wp2_with fail
      go_region
      go_wp2_with fail
      refine (hnp _).mono ?_
      rintro e w1 ⟨rfl, hb1⟩
      have hP1 := h1.below hb1
      go_wp2_with fail
      refine (hw4 _ hP1).mono ?_
      rintro e w2 ⟨rfl, hP2, hF2⟩
      obtain ⟨d0, d1, d2, d3, d4, e0, e1, e2, e3, e4⟩ := hP2.blk.c5
      have hbb := hP2.blk.lt
      go_wp2_with fail
      go_ret
      exact ⟨rfl, ⟨i + 1, hstep4 _ hP2⟩, (((Fr.of_below hbl).trans (Fr.of_below hb1)).trans hF2).set ⟨b, 1, none⟩ rfl _⟩
    · by_cases h2' : n2 = 2
      · subst h2'
        simp only [if_neg h1', if_true]
        have hw6 := fun v (h : RAt v b ts r cap i s) => hw v 6 h
        generalize R.wrong 6 s = s' at *
        go_enter Try.func35, Try.ntmps35
        go_wp2_with fail
        go_region
        go_wp2_with fail
        refine (hnp _).mono ?_
        rintro e w1 ⟨rfl, hb1⟩
        have hP1 := h1.below hb1
        go_wp2_with fail
        refine (hw6 _ hP1).mono ?_
        rintro e w2 ⟨rfl, hP2, hF2⟩
        obtain ⟨d0, d1, d2, d3, d4, e0, e1, e2, e3, e4⟩ := hP2.blk.c5
        have hbb := hP2.blk.lt
        go_wp2_with fail
        go_ret
        exact ⟨rfl, ⟨i + 1, hstep6 _ hP2⟩, (((Fr.of_below hbl).trans (Fr.of_below hb1)).trans hF2).set ⟨b, 1, none⟩ rfl _⟩
      · have hz1 : (n2 == 1) = false := beq_eq_false_iff_ne.2 h1'
        have hz2 : (n2 == 2) = false := beq_eq_false_iff_ne.2 h2'
        simp only [if_neg h1', if_neg h2']
        go_enter Try.func35, Try.ntmps35
        go_wp2_with fail
        go_region
        go_wp2_with fail
        refine (hnp _).mono ?_
        rintro e w1 ⟨rfl, hb1⟩
        have hP1 := h1.below hb1
        obtain ⟨d0, d1, d2, d3, d4, e0, e1, e2, e3, e4⟩ := hP1.blk.c5
        have hbb := hP1.blk.lt
        go_wp2_with fail
        go_ret
        exact ⟨rfl, ⟨i + 1, hstep _ hP1⟩, ((Fr.of_below hbl).trans (Fr.of_below hb1)).set ⟨b, 1, none⟩ rfl _⟩
end Go.Proofs.Ytcgkfgklggjmaaa.Par
end
section
namespace Go.Proofs.Ytcgkfgklggjmaaa.Par
set_option linter.unusedVariables false
set_option linter.unusedSimpArgs false
open Go.RowKit
/-- what does not change of the program's parser -/
structure TK (ts : List Tok) (cap : Nat) : Prop where
  big : ts.length < 100000
  capb : cap < 9223372036854775808
  ends : ∀ t ∈ ts, t.text.size ≤ 8192
theorem TK.lb {ts : List Tok} {cap : Nat} (h : TK ts cap) : ts.length < 9223372036854775808 := Nat.lt_trans h.big (by decide)
theorem must_step {w : ByteArray} {ws : List ByteArray} {s : St} (h : (P.eat w s).1 = true) : P.must (w :: ws) s = P.must ws (P.eat w s).2 := by rw [P.must, if_pos h]
theorem must_stop {w : ByteArray} {ws : List ByteArray} {s : St} (h : (P.eat w s).1 = false) : P.must (w :: ws) s = fail 4 (peek s) (P.eat w s).2 := by rw [P.must, if_neg (by rw [h]; exact Bool.false_ne_true)]
theorem drop_at {ws : List ByteArray} {k : Nat} {x : ByteArray} (h : ws[k]? = some x) : ws.drop k = x :: ws.drop (k + 1) := by
  obtain ⟨hlt, he⟩ := List.getElem?_eq_some_iff.1 h
  rw [List.drop_eq_getElem_cons hlt, he]
end Go.Proofs.Ytcgkfgklggjmaaa.Par
end
section
namespace Go.Proofs.Ytcgkfgklggjmaaa.Par
set_option linter.unusedVariables false
set_option linter.unusedSimpArgs false
open Go.RowKit
theorem fault_neq (a b c a' b' c' : Int) (W : World) : (binOp .neq 34 (.agg #[.int .i64 a, .int .i64 b, .int .i64 c]) (.agg #[.int .i64 a', .int .i64 b', .int .i64 c'])).run Try.prog W = .ok (.bool (!(a == a' && (b == b' && (c == c' && true))))) W := by
  refine neq_S (fun d => ?_)
  refine eqS_of _ _ _ _ _ _ Try.underlying34 (by kernel_rfl) ?_
  refine eqF_cons _ _ _ _ _ (.int .i64 a) (.int .i64 a') _ _ rfl (by go_simp) (by go_simp) (by go_simp) ?_
  refine eqF_cons _ _ _ _ _ (.int .i64 b) (.int .i64 b') _ _ rfl (by go_simp) (by go_simp) (by go_simp) ?_
  refine eqF_cons _ _ _ _ _ (.int .i64 c) (.int .i64 c') _ _ rfl (by go_simp) (by go_simp) (by go_simp) ?_
  exact eqF_nil _ _ _
theorem fault_neq0 {s : St} (hok : s.err = 0 → s.line = 0 ∧ s.col = 0) : ∀ W, (binOp .neq 34 (.agg #[.int .i64 s.err, .int .i64 s.line, .int .i64 s.col]) (.agg #[.int .i64 0, .int .i64 0, .int .i64 0])).run Try.prog W = .ok (.bool (s.err != 0)) W := by
  intro W
  rw [fault_neq]
  by_cases h : s.err = 0
  · obtain ⟨h1, h2⟩ := hok h
    rw [h, h1, h2]; rfl
  · have hn : (s.err == 0) = false := beq_eq_false_iff_ne.2 h
    have hn2 : (s.err != 0) = true := bne_iff_ne.2 h
    rw [hn, hn2]; rfl
theorem fault_neq00 (W : World) : (binOp .neq 34 (.agg #[.int .i64 0, .int .i64 0, .int .i64 0]) (.agg #[.int .i64 0, .int .i64 0, .int .i64 0])).run Try.prog W = .ok (.bool false) W := fault_neq 0 0 0 0 0 0 W
end Go.Proofs.Ytcgkfgklggjmaaa.Par
end
section
namespace Go.Proofs.Ytcgkfgklggjmaaa.Par
set_option linter.unusedVariables false
set_option linter.unusedSimpArgs false
open Go.RowKit
theorem pone_drop (w : ByteArray) (ws : List ByteArray) (i : Int) (s : St) (h : (P.eat w s).1 = false) : P.one (w :: ws) i s = P.one ws (i + 1) s := by
  rw [P.one, if_neg (by rw [h]; exact Bool.false_ne_true), eat_no h]
theorem pone_hit (w : ByteArray) (ws : List ByteArray) (i : Int) (s : St) (h : (P.eat w s).1 = true) : P.one (w :: ws) i s = (i, (P.eat w s).2) := by
  rw [P.one, if_pos h]
end Go.Proofs.Ytcgkfgklggjmaaa.Par
end
section
namespace Go.Proofs.Ytcgkfgklggjmaaa.Par
set_option linter.unusedVariables false
set_option linter.unusedSimpArgs false
open Go.RowKit
def tierF (t : Tier) : List Value := [.int .i64 t.upto, .int .i64 t.rate]
def adjF (a : Adj) : List Value := [.int .i64 a.kind, .int .i64 a.n, .int .i64 a.mode]
theorem tierF_len (t : Tier) : (tierF t).length = 2 := rfl
theorem adjF_len (a : Adj) : (adjF a).length = 3 := rfl
abbrev TiersLie (B : Nat) (w : World) (v : Value) (l : List Tier) : Prop := w.ownsRow B 94 2 v l.length (l.flatMap tierF)
abbrev AdjsLie (B : Nat) (w : World) (v : Value) (l : List Adj) : Prop := w.ownsRow B 97 3 v l.length (l.flatMap adjF)
/-- a charge's cells, with the values of its two slices -/
def chgC (m : ByteArray) (x : Win) (al bl ki : Int) (tv : Value) (mo : Int) (av : Value) (li co : Int) : Array Value :=
  #[.string m, .bool x.has, .int .i64 x.from_.1, .int .i64 x.from_.2.1, .int .i64 x.from_.2.2, .int .i64 x.to_.1, .int .i64 x.to_.2.1, .int .i64 x.to_.2.2, .int .i64 al, .int .i64 bl, .int .i64 ki, tv, .int .i64 mo, av, .int .i64 li, .int .i64 co]
theorem own_fr {w0 w w' : World} {b : Nat} {e : TypeId} {size n : Nat} {v : Value} {xs : List Value} (ho : w.ownsRow w0.heap.size e size v n xs) (hf : Fr b w w') (hb : b < w0.heap.size) : w'.ownsRow w0.heap.size e size v n xs :=
  own_keep ho fun g hg => hf.block g (ho.lt g hg).2 (by have := (ho.lt g hg).1; omega)
theorem own_put {w : World} {base g : Nat} {e : TypeId} {size n : Nat} {v : Value} {xs : List Value} (ho : w.ownsRow base e size v n xs) (hg : v.ownBlock ≠ some g) (k : Nat) (vs : List Value) : (puts w g k vs).ownsRow base e size v n xs :=
  own_keep ho fun x hx => (puts_heap vs w k).1 x (fun e => hg (by rw [hx, e]))
theorem tierInfo : (Try.prog.info? 94).map (fun i => (i.zero, i.size, i.bytes)) = some (some (.agg #[.int .i64 0, .int .i64 0]), 2, 16) := by kernel_rfl
theorem adjInfo : (Try.prog.info? 97).map (fun i => (i.zero, i.size, i.bytes)) = some (some (.agg #[.int .i64 0, .int .i64 0, .int .i64 0]), 3, 24) := by kernel_rfl
theorem setRow_far (w : World) (g x : Nat) (cs : Array Value) (hx : x ≠ g) : (w.setRow g cs).heap[x]? = w.heap[x]? := by
  simp [World.setRow, Array.getElem?_modify, Ne.symm hx]
theorem setRow_size (w : World) (g : Nat) (cs : Array Value) : (w.setRow g cs).heap.size = w.heap.size := by simp [World.setRow]
theorem Blk.row {w : World} {g : Nat} {t : TypeId} {cs cs' : Array Value} (h : Blk w g t cs) : Blk (w.setRow g cs') g t cs' := setRow_heap w g cs cs' t (0, 0) h
theorem own_row {w : World} {base g : Nat} {e : TypeId} {size n : Nat} {v : Value} {xs : List Value} {cs : Array Value} (ho : w.ownsRow base e size v n xs) (hg : v.ownBlock ≠ some g) : (w.setRow g cs).ownsRow base e size v n xs :=
  own_keep ho fun x hx => setRow_far w g x cs (fun e => hg (by rw [hx, e]))
theorem Fr.row {b : Nat} {w v : World} (h : Fr b w v) {g : Nat} {cs : Array Value} (hg : w.heap.size ≤ g) : Fr b w (v.setRow g cs) :=
  ⟨h.os, h.tape, h.output, by rw [setRow_size]; exact h.size, fun i hi hb => (setRow_far v g i cs (by omega)).trans (h.block i hi hb)⟩
theorem RAt.row_ {w : World} {b : Nat} {ts : List Tok} {r cap i : Nat} {s : St} (h : RAt w b ts r cap i s) {g : Nat} {cs : Array Value} (hb : b ≠ g) (hr : r ≠ g) : RAt (w.setRow g cs) b ts r cap i s :=
  ⟨(setRow_far w g b cs hb).trans h.blk, own_keep h.row (fun x hx => by obtain rfl : r = x := Option.some.inj hx; exact setRow_far w g r cs hr), h.ne, h.rest, h.lt, h.last, h.big, h.ends⟩
end Go.Proofs.Ytcgkfgklggjmaaa.Par
end
section
namespace Go.Proofs.Ytcgkfgklggjmaaa.Par
set_option linter.unusedVariables false
set_option linter.unusedSimpArgs false
open Go.RowKit
/-- how many tokens are left to the program's parser -/
def leftOf (w : World) (b : Nat) : Nat := match w.cell? ⟨b, 0, none⟩ with | some (.slice _ n _) => n | _ => 0
/-- the one word's slice -/
theorem lies1 {w : World} (x : ByteArray) : Lies strF 9 1 (w.alloc (.cells #[.string x] 9)) (.slice (some ⟨w.heap.size, 0, none⟩) 1 1) [x] := strs_blk (Blk.new w _ _) rfl rfl rfl (Nat.le_refl _) (by decide)
theorem lies2 {w : World} (x y : ByteArray) : Lies strF 9 1 (w.alloc (.cells #[.string x, .string y] 9)) (.slice (some ⟨w.heap.size, 0, none⟩) 2 2) [x, y] := strs_blk (Blk.new w _ _) rfl rfl rfl (Nat.le_refl _) (by decide)
end Go.Proofs.Ytcgkfgklggjmaaa.Par
end
section
namespace Go.Proofs.Ytcgkfgklggjmaaa.Par
set_option linter.unusedVariables false
set_option linter.unusedSimpArgs false
open Go.RowKit
section
variable {T : TypeId} {R C : Nat} {rc : Array Value} {w0 : World} {b : Nat} {ts : List Tok} {r cap : Nat} {w w' : World} {s s' : St} {cells : Array Value}
end
end Go.Proofs.Ytcgkfgklggjmaaa.Par
end
section
namespace Go.Proofs.Ytcgkfgklggjmaaa.Par
set_option linter.unusedVariables false
set_option linter.unusedSimpArgs false
open Go.RowKit
theorem popt_yes {w : ByteArray} {d : Int} {s : St} (h : (P.eat w s).1 = true) : P.opt npV w d s = ((P.number npV 0 1000000 (P.eat w s).2).1, P.must [wSemi] (P.number npV 0 1000000 (P.eat w s).2).2) := by unfold P.opt; rw [if_pos h]
theorem popt_no {w : ByteArray} {d : Int} {s : St} (h : (P.eat w s).1 = false) : P.opt npV w d s = (d, (P.eat w s).2) := by unfold P.opt; rw [if_neg (by rw [h]; exact Bool.false_ne_true)]
theorem pck_yes {s : St} (h : (P.eat wVolume s).1 = true) : P.ckind s = (2, (P.eat wVolume s).2) := by unfold P.ckind; rw [if_pos h]
theorem pck_no {s : St} (h : (P.eat wVolume s).1 = false) : P.ckind s = (1, P.must [wGraduated] (P.eat wVolume s).2) := by unfold P.ckind; rw [if_neg (by rw [h]; exact Bool.false_ne_true)]
end Go.Proofs.Ytcgkfgklggjmaaa.Par
end
section
namespace Go.Proofs.Ytcgkfgklggjmaaa.Par
set_option linter.unusedVariables false
set_option linter.unusedSimpArgs false
open Go.RowKit
/-! a plan in memory -/
def metF (m : Met) : List Value := [.string m.name, .string m.unit, .int .i64 m.max, .int .i64 m.line, .int .i64 m.col]
def feeF (f : Fee) : List Value := [.int .i64 f.amount, .bool f.win.has, .int .i64 f.win.from_.1, .int .i64 f.win.from_.2.1, .int .i64 f.win.from_.2.2, .int .i64 f.win.to_.1, .int .i64 f.win.to_.2.1, .int .i64 f.win.to_.2.2, .int .i64 f.line, .int .i64 f.col]
abbrev CT := Chg × Value × Value
def chgF (x : CT) : List Value := [.string x.1.meter, .bool x.1.win.has, .int .i64 x.1.win.from_.1, .int .i64 x.1.win.from_.2.1, .int .i64 x.1.win.from_.2.2, .int .i64 x.1.win.to_.1, .int .i64 x.1.win.to_.2.1, .int .i64 x.1.win.to_.2.2, .int .i64 x.1.allow, .int .i64 x.1.block, .int .i64 x.1.kind, x.2.1, .int .i64 x.1.mode, x.2.2, .int .i64 x.1.line, .int .i64 x.1.col]
theorem metF_len (m : Met) : (metF m).length = 5 := rfl
theorem feeF_len (f : Fee) : (feeF f).length = 10 := rfl
theorem chgF_len (x : CT) : (chgF x).length = 16 := rfl
def planC (p : Plan) (mv fv cv : Value) : Array Value := #[.string p.name, .string p.cur, .int .i64 p.from_.1, .int .i64 p.from_.2.1, .int .i64 p.from_.2.2, .int .i64 p.to_.1, .int .i64 p.to_.2.1, .int .i64 p.to_.2.2, mv, fv, cv, .int .i64 p.line, .int .i64 p.col]
def Nest (B : Nat) (w : World) (cs : List CT) : Prop := ∀ c ∈ cs, TiersLie B w c.2.1 c.1.tiers ∧ AdjsLie B w c.2.2 c.1.adjs
/-- the blocks in which a plan's rows lie -/
def blocks (mv fv cv : Value) (cs : List CT) (g : Nat) : Prop := mv.ownBlock = some g ∨ fv.ownBlock = some g ∨ cv.ownBlock = some g ∨ ∃ c ∈ cs, c.2.1.ownBlock = some g ∨ c.2.2.ownBlock = some g
structure Rows (w : World) (B : Nat) (p : Plan) (mv fv cv : Value) (cs : List CT) : Prop where
  mo : w.ownsRow B 49 5 mv p.mets.length (p.mets.flatMap metF)
  fo : w.ownsRow B 54 10 fv p.fees.length (p.fees.flatMap feeF)
  co : w.ownsRow B 58 16 cv cs.length (cs.flatMap chgF)
  eq : cs.map (·.1) = p.chgs
  ne : Nest B w cs
/-- a value that is a plan -/
def PlanLies (B : Nat) (w : World) (v : Value) (p : Plan) : Prop := ∃ mv fv cv cs, v = .agg (planC p mv fv cv) ∧ Rows w B p mv fv cv cs
section
variable {w w' : World} {B : Nat} {p : Plan} {mv fv cv : Value} {cs : List CT}
theorem Rows.lt (h : Rows w B p mv fv cv cs) {g : Nat} (hg : blocks mv fv cv cs g) : g < w.heap.size := by
  rcases hg with hg | hg | hg | ⟨c, hc, hg | hg⟩
  · exact (h.mo.lt g hg).2
  · exact (h.fo.lt g hg).2
  · exact (h.co.lt g hg).2
  · exact (World.ownsRow.lt (h.ne c hc).1 g hg).2
  · exact (World.ownsRow.lt (h.ne c hc).2 g hg).2
theorem Rows.keep (h : Rows w B p mv fv cv cs) (hk : ∀ g, blocks mv fv cv cs g → w'.heap[g]? = w.heap[g]?) : Rows w' B p mv fv cv cs :=
  ⟨own_keep h.mo fun g hg => hk g (.inl hg), own_keep h.fo fun g hg => hk g (.inr (.inl hg)), own_keep h.co fun g hg => hk g (.inr (.inr (.inl hg))), h.eq,
    fun c hc => ⟨own_keep (h.ne c hc).1 fun g hg => hk g (.inr (.inr (.inr ⟨c, hc, .inl hg⟩))), own_keep (h.ne c hc).2 fun g hg => hk g (.inr (.inr (.inr ⟨c, hc, .inr hg⟩)))⟩⟩
theorem Rows.below (h : Rows w B p mv fv cv cs) (hb : Below w.heap.size w w') : Rows w' B p mv fv cv cs := h.keep fun g hg => hb.block g (h.lt hg)
theorem Rows.base {B' : Nat} (h : Rows w B p mv fv cv cs) (hB : B' ≤ B) : Rows w B' p mv fv cv cs := ⟨own_base h.mo hB, own_base h.fo hB, own_base h.co hB, h.eq, fun c hc => ⟨own_base (h.ne c hc).1 hB, own_base (h.ne c hc).2 hB⟩⟩
/-- a block of another type is none of a plan's -/
theorem Rows.apart (h : Rows w B p mv fv cv cs) {g : Nat} {T : TypeId} {cells : Array Value} (hb : Blk w g T cells) (h1 : 49 ≠ T) (h2 : 54 ≠ T) (h3 : 58 ≠ T) (h4 : 94 ≠ T) (h5 : 97 ≠ T) : ¬ blocks mv fv cv cs g := by
  rintro (hg | hg | hg | ⟨c, hc, hg | hg⟩)
  · exact own_ne_blk h.mo hb h1 hg
  · exact own_ne_blk h.fo hb h2 hg
  · exact own_ne_blk h.co hb h3 hg
  · exact own_ne_blk (h.ne c hc).1 hb h4 hg
  · exact own_ne_blk (h.ne c hc).2 hb h5 hg
theorem Rows.fr {b : Nat} (h : Rows w B p mv fv cv cs) (hf : Fr b w w') (hb : ¬ blocks mv fv cv cs b) : Rows w' B p mv fv cv cs :=
  h.keep fun g hg => hf.block g (h.lt hg) (fun e => hb (e ▸ hg))
theorem Rows.puts_ (h : Rows w B p mv fv cv cs) {g : Nat} (hg : ¬ blocks mv fv cv cs g) (k : Nat) (vs : List Value) : Rows (puts w g k vs) B p mv fv cv cs :=
  h.keep fun x hx => (puts_heap vs w k).1 x (fun e => hg (e ▸ hx))
theorem Rows.setRow_ (h : Rows w B p mv fv cv cs) {g : Nat} (hg : ¬ blocks mv fv cv cs g) (cells : Array Value) : Rows (w.setRow g cells) B p mv fv cv cs :=
  h.keep fun x hx => setRow_far w g x cells (fun e => hg (e ▸ hx))
/-- a row's append leaves all others -/
theorem own_grown {w w' : World} {B B' : Nat} {e e' : TypeId} {k k' n n' : Nat} {v v' : Value} {xs xs' : List Value} (h : w.ownsRow B e k v n xs) (h' : w.ownsRow B' e' k' v' n' xs') (hne : e ≠ e') (hg : w.grownBy w' v'.ownBlock) : w'.ownsRow B e k v n xs :=
  own_keep h fun g hx => hg.block g (h.lt g hx).2 (fun eq => own_ne_own h h' hne hx eq.symm)
theorem Nest.grown {B B' : Nat} {e' : TypeId} {k' n' : Nat} {v' : Value} {xs' : List Value} (h : Nest B w cs) (h' : w.ownsRow B' e' k' v' n' xs') (h4 : 94 ≠ e') (h5 : 97 ≠ e') (hg : w.grownBy w' v'.ownBlock) : Nest B w' cs :=
  fun c hc => ⟨own_grown (h c hc).1 h' h4 hg, own_grown (h c hc).2 h' h5 hg⟩
theorem Rows.addMet {mv' : Value} {m : Met} (h : Rows w B p mv fv cv cs) (hg : w.grownBy w' mv.ownBlock) (ho : w'.ownsRow B 49 5 mv' (p.mets.length + 1) (p.mets.flatMap metF ++ metF m)) : Rows w' B { p with mets := p.mets ++ [m] } mv' fv cv cs :=
  ⟨by show w'.ownsRow _ _ _ _ (p.mets ++ [m]).length ((p.mets ++ [m]).flatMap metF); rw [flat_snoc, List.length_append]; exact ho, own_grown h.fo h.mo (by decide) hg, own_grown h.co h.mo (by decide) hg, h.eq, h.ne.grown h.mo (by decide) (by decide) hg⟩
theorem Rows.addFee {fv' : Value} {f : Fee} (h : Rows w B p mv fv cv cs) (hg : w.grownBy w' fv.ownBlock) (ho : w'.ownsRow B 54 10 fv' (p.fees.length + 1) (p.fees.flatMap feeF ++ feeF f)) : Rows w' B { p with fees := p.fees ++ [f] } mv fv' cv cs :=
  ⟨own_grown h.mo h.fo (by decide) hg, by show w'.ownsRow _ _ _ _ (p.fees ++ [f]).length ((p.fees ++ [f]).flatMap feeF); rw [flat_snoc, List.length_append]; exact ho, own_grown h.co h.fo (by decide) hg, h.eq, h.ne.grown h.fo (by decide) (by decide) hg⟩
theorem Rows.addChg {cv' tv av : Value} {c : Chg} (h : Rows w B p mv fv cv cs) (ht : TiersLie B w tv c.tiers) (ha : AdjsLie B w av c.adjs) (hg : w.grownBy w' cv.ownBlock) (ho : w'.ownsRow B 58 16 cv' (cs.length + 1) (cs.flatMap chgF ++ chgF (c, tv, av))) : Rows w' B { p with chgs := p.chgs ++ [c] } mv fv cv' (cs ++ [(c, tv, av)]) :=
  ⟨own_grown h.mo h.co (by decide) hg, own_grown h.fo h.co (by decide) hg, by rw [flat_snoc, List.length_append]; exact ho, by rw [List.map_append, h.eq]; rfl, fun x hx => by
    rcases List.mem_append.1 hx with hx | hx
    · exact (h.ne.grown h.co (by decide) (by decide) hg) x hx
    · obtain rfl := List.mem_singleton.1 hx
      exact ⟨own_grown ht h.co (by decide) hg, own_grown ha h.co (by decide) hg⟩⟩
theorem Rows.none (w : World) (B : Nat) (p : Plan) (h1 : p.mets = []) (h2 : p.fees = []) (h3 : p.chgs = []) : Rows w B p (.slice none 0 0) (.slice none 0 0) (.slice none 0 0) [] :=
  ⟨by rw [h1]; exact World.ownsRow_nil _ _ _ _, by rw [h2]; exact World.ownsRow_nil _ _ _ _, World.ownsRow_nil _ _ _ _, by rw [h3]; rfl, fun c hc => by cases hc⟩
end
theorem PlanLies.below {B : Nat} {w w' : World} {v : Value} {p : Plan} (h : PlanLies B w v p) (hb : Below w.heap.size w w') : PlanLies B w' v p := by
  obtain ⟨mv, fv, cv, cs, h1, h2⟩ := h
  exact ⟨mv, fv, cv, cs, h1, h2.below hb⟩
theorem metInfo : (Try.prog.info? 49).map (fun i => (i.zero, i.size, i.bytes)) = some (some (.agg #[.string ⟨#[]⟩, .string ⟨#[]⟩, .int .i64 0, .int .i64 0, .int .i64 0]), 5, 56) := by kernel_rfl
theorem feeInfo : (Try.prog.info? 54).map (fun i => (i.zero, i.size, i.bytes)) = some (some (.agg #[.int .i64 0, .bool false, .int .i64 0, .int .i64 0, .int .i64 0, .int .i64 0, .int .i64 0, .int .i64 0, .int .i64 0, .int .i64 0]), 10, 80) := by kernel_rfl
theorem chgInfo : (Try.prog.info? 58).map (fun i => (i.zero, i.size, i.bytes)) = some (some (.agg (chgC ⟨#[]⟩ noWin 0 0 0 (.slice none 0 0) 0 (.slice none 0 0) 0 0)), 16, 168) := by kernel_rfl
theorem Fr.toBelow {b : Nat} {w0 w w' : World} (h : Below w0.heap.size w0 w) (hf : Fr b w w') (hb : w0.heap.size ≤ b) : Below w0.heap.size w0 w' :=
  ⟨hf.os.trans h.os, hf.tape.trans h.tape, hf.output.trans h.output, Nat.le_trans h.size hf.size, fun g hg => (hf.block g (Nat.lt_of_lt_of_le hg h.size) (by omega)).trans (h.block g hg)⟩
end Go.Proofs.Ytcgkfgklggjmaaa.Par
end
section
namespace Go.Proofs.Ytcgkfgklggjmaaa.Par
set_option linter.unusedVariables false
set_option linter.unusedSimpArgs false
/-- the tokens of a text end with the end -/
theorem lex_shape : ∀ (n : Nat) (l : List UInt8) (line col : Int) (ts : List Tok), l.length ≤ n → lexL l line col = .ok ts → ts ≠ [] ∧ (∀ t, ts.getLast? = some t → t.kind = 0) ∧ ts.length ≤ l.length + 1 := by
  intro n
  induction n with
  | zero =>
    intro l line col ts hn h
    obtain rfl : l = [] := List.eq_nil_of_length_eq_zero (by omega)
    rw [lexL] at h
    injection h with h
    subst h
    refine ⟨by simp, ?_, by simp⟩
    intro t ht
    simp at ht
    subst ht; rfl
  | succ n ih =>
    intro l line col ts hn h
    cases l with
    | nil =>
      rw [lexL] at h
      injection h with h
      subst h
      refine ⟨by simp, ?_, by simp⟩
      intro t ht
      simp at ht
      subst ht; rfl
    | cons c cs =>
      rw [lexL] at h
      rw [List.length_cons] at hn
      split at h
      · have := ih _ _ _ _ (by rw [List.length_drop]; omega) h
        rw [List.length_drop] at this
        rw [List.length_cons]
        exact ⟨this.1, this.2.1, by omega⟩
      · split at h
        · have := ih _ _ _ _ (by omega) h
          rw [List.length_cons]
          exact ⟨this.1, this.2.1, by omega⟩
        · split at h
          · have := ih _ _ _ _ (by omega) h
            rw [List.length_cons]
            exact ⟨this.1, this.2.1, by omega⟩
          · split at h
            · cases h
            · cases hr : lexL (cs.drop (tokLen c cs)) line (col + 1 + tokLen c cs) with
              | error e => rw [hr] at h; cases h
              | ok ts' =>
                rw [hr] at h
                injection h with h
                subst h
                have := ih _ _ _ _ (by rw [List.length_drop]; omega) hr
                rw [List.length_drop] at this
                refine ⟨by simp, ?_, by rw [List.length_cons, List.length_cons]; omega⟩
                intro t ht
                cases ts' with
                | nil => exact absurd rfl this.1
                | cons a rs =>
                  rw [List.getLast?_cons_cons] at ht
                  exact this.2.1 t ht
theorem all_shape {l : List UInt8} {ts : List Tok} {a b : Int} (h : lexAll l = (ts, 0, a, b)) : ts ≠ [] ∧ (∀ t, ts.getLast? = some t → t.kind = 0) ∧ ts.length ≤ 8193 := by
  unfold lexAll at h
  split at h
  · injection h with _ h
    injection h with h _
    cases h
  · cases hr : lexL l 1 1 with
    | ok ts' =>
      rw [hr] at h
      injection h with h _
      subst h
      have := lex_shape _ l 1 1 _ (Nat.le_refl _) hr
      exact ⟨this.1, this.2.1, by omega⟩
    | error e =>
      rw [hr] at h
      injection h with _ h
      injection h with h _
      cases h
/-- what the reference says of a text -/
def RParse (l : List UInt8) : Plan × Int × Int × Int :=
  if (lexAll l).2.1 ≠ 0 then (noPlan, (lexAll l).2.1, (lexAll l).2.2.1, (lexAll l).2.2.2)
  else if (R.plan dp npV (lexAll l).1).2.err ≠ 0 then (noPlan, (R.plan dp npV (lexAll l).1).2.err, (R.plan dp npV (lexAll l).1).2.line, (R.plan dp npV (lexAll l).1).2.col)
  else ((R.plan dp npV (lexAll l).1).1, 0, 0, 0)
theorem RParse_lex {l : List UInt8} {ts : List Tok} {er a b : Int} (h : lexAll l = (ts, er, a, b)) (h0 : er ≠ 0) : RParse l = (noPlan, er, a, b) := by unfold RParse; rw [h]; exact if_pos h0
theorem RParse_bad {l : List UInt8} {ts : List Tok} {a b : Int} (h : lexAll l = (ts, 0, a, b)) (h0 : (R.plan dp npV ts).2.err ≠ 0) : RParse l = (noPlan, (R.plan dp npV ts).2.err, (R.plan dp npV ts).2.line, (R.plan dp npV ts).2.col) := by
  unfold RParse; rw [h]
  simp only [ne_eq, not_true_eq_false, if_false]
  rw [if_pos h0]
theorem RParse_ok {l : List UInt8} {ts : List Tok} {a b : Int} (h : lexAll l = (ts, 0, a, b)) (h0 : (R.plan dp npV ts).2.err = 0) : RParse l = ((R.plan dp npV ts).1, 0, 0, 0) := by
  unfold RParse; rw [h]
  simp only [ne_eq, not_true_eq_false, if_false]
  rw [if_neg (fun e => e h0)]
theorem rplan_eq (ts : List Tok) : R.plan dp npV ts = R.itemsAll dp npV (R.head dp ⟨ts, 0, 0, 0⟩).1 (R.head dp ⟨ts, 0, 0, 0⟩).2 := rfl
end Go.Proofs.Ytcgkfgklggjmaaa.Par
end
section
namespace Go.Proofs.Ytcgkfgklggjmaaa.Par
set_option linter.unusedVariables false
set_option linter.unusedSimpArgs false
open Go.RowKit
section
variable {w0 : World} {b O : Nat} {ts : List Tok} {r cap : Nat} {w w' : World} {s s' : St} {p : Plan} {mv fv cv : Value} {cs : List CT}
end
end Go.Proofs.Ytcgkfgklggjmaaa.Par
end
section
namespace Go.Proofs.Ytcgkfgklggjmaaa.Par
set_option linter.unusedVariables false
set_option linter.unusedSimpArgs false
open Go.RowKit
theorem P_item_met {p : Plan} {s : St} {o : Int × St} (h : P.one [wMeter, wFee, wCharge] 0 s = o) (h1 : o.1 = 0) : P.item dp npV p s = ({ p with mets := p.mets ++ [(P.meter npV (peek s).line (peek s).col o.2).1] }, (P.meter npV (peek s).line (peek s).col o.2).2) := by
  subst h; unfold P.item; simp only; rw [if_pos h1]
theorem P_item_fee {p : Plan} {s : St} {o : Int × St} (h : P.one [wMeter, wFee, wCharge] 0 s = o) (h1 : o.1 = 1) : P.item dp npV p s = ({ p with fees := p.fees ++ [(P.fee dp npV (peek s).line (peek s).col o.2).1] }, (P.fee dp npV (peek s).line (peek s).col o.2).2) := by
  subst h; unfold P.item; simp only; rw [if_neg (by omega), if_pos h1]
theorem P_item_chg {p : Plan} {s : St} {o : Int × St} (h : P.one [wMeter, wFee, wCharge] 0 s = o) (h1 : o.1 = 2) : P.item dp npV p s = ({ p with chgs := p.chgs ++ [(P.charge dp npV (peek s).line (peek s).col o.2).1] }, (P.charge dp npV (peek s).line (peek s).col o.2).2) := by
  subst h; unfold P.item; simp only; rw [if_neg (by omega), if_neg (by omega), if_pos h1]
theorem P_item_none {p : Plan} {s : St} {o : Int × St} (h : P.one [wMeter, wFee, wCharge] 0 s = o) (h1 : o.1 < 0) : P.item dp npV p s = (p, P.must [wSemi] (fail 4 (peek s) o.2)) := by
  subst h; unfold P.item; simp only; rw [if_neg (by omega), if_neg (by omega), if_neg (by omega)]
theorem puts_setRow {g : Nat} {T : TypeId} : ∀ (vs : List Value) (k : Nat) (cur : Array Value) (w : World), Blk w g T cur → vs ≠ [] → puts w g k vs = w.setRow g (setsA cur k vs)
  | [], _, _, _, _, h => absurd rfl h
  | [v], k, cur, w, hb, _ => setCell_eq_setRow w g k cur T (0, 0) v hb
  | v :: u :: vs, k, cur, w, hb, _ => by
    have h1 := puts_setRow (u :: vs) (k + 1) (cur.setIfInBounds k v) (w.setCell ⟨g, k, none⟩ v) (hb.set_ k v) (by simp)
    rw [puts, h1, setCell_eq_setRow w g k cur T (0, 0) v hb, setRow_setRow]
    rfl
theorem run_puts (w : World) (g : Nat) (T : TypeId) (old : Array Value) (new : List Value) (hb : Blk w g T old) (hn : new ≠ []) (hs : setsA old 0 new = new.toArray) (hl : new.length = old.size) (h1 : ∀ v ∈ new, v.oneCell' = true) : (storeCells ⟨g, 0, none⟩ new).run Try.prog w = .ok () (puts w g 0 new) := by
  have hq := run_storeCells_from (P := Try.prog) g T new 0 old w hb (by rw [Nat.zero_add]; exact hl) h1
  rw [puts_setRow new 0 old w hb hn, hs]
  simpa using hq
end Go.Proofs.Ytcgkfgklggjmaaa.Par
end
section
namespace Go.Proofs.Ytcgkfgklggjmaaa.Par
set_option linter.unusedVariables false
set_option linter.unusedSimpArgs false
open Go.RowKit
/-- what the program says of a text is what the reference says -/
theorem PParse_bad {l : List UInt8} {ts : List Tok} {a b : Int} (h : lexAll l = (ts, 0, a, b)) (h0 : (P.plan dp npV ts).2.err ≠ 0) : RParse l = (noPlan, (P.plan dp npV ts).2.err, (P.plan dp npV ts).2.line, (P.plan dp npV ts).2.col) := by
  obtain ⟨e1, e2, e3, _⟩ := plan_same dp npV ts
  rw [RParse_bad h (by rw [← e1]; exact h0), e1, e2, e3]
theorem PParse_ok {l : List UInt8} {ts : List Tok} {a b : Int} (h : lexAll l = (ts, 0, a, b)) (h0 : (P.plan dp npV ts).2.err = 0) : RParse l = ((P.plan dp npV ts).1, 0, 0, 0) := by
  obtain ⟨e1, e2, e3, e4⟩ := plan_same dp npV ts
  rw [RParse_ok h (by rw [← e1]; exact h0), e4 h0]
theorem pplan_eq (ts : List Tok) : P.plan dp npV ts = P.itemsAll dp npV (P.head dp ⟨ts, 0, 0, 0⟩).1 (P.head dp ⟨ts, 0, 0, 0⟩).2 := rfl
theorem lexAll_ok {l : List UInt8} {ts : List Tok} {a b : Int} (h : lexAll l = (ts, 0, a, b)) : a = 0 ∧ b = 0 := by
  unfold lexAll at h
  split at h
  · injection h with _ h; injection h with h _; cases h
  · split at h
    · injection h with _ h; injection h with _ h; injection h with h1 h2; exact ⟨h1.symm, h2.symm⟩
    · injection h with _ h; injection h with h _; cases h
theorem own_capP {w : World} {base : Nat} {e : TypeId} {size n cap : Nat} {A : Option Addr} {xs : List Value} (h : w.ownsRow base e size (.slice A n cap) n xs) : cap ≤ maxLen := by
  rcases h.2 with ⟨h1, _⟩ | ⟨g, c, cur, h1, _, _, _, hm, _⟩
  · injection h1 with _ _ e3; subst e3; exact Nat.zero_le _
  · injection h1 with _ _ e3; subst e3; exact hm
theorem fault_neqE {er li co : Int} (h : er ≠ 0) : ∀ W, (binOp .neq 34 (.agg #[.int .i64 er, .int .i64 li, .int .i64 co]) (.agg #[.int .i64 0, .int .i64 0, .int .i64 0])).run Try.prog W = .ok (.bool true) W := fun W => by
  rw [fault_neq er li co 0 0 0 W, beq_eq_false_iff_ne.2 h]; rfl
theorem results_cell_cell_row {P : Program} {fn : Func} {p q : Tmp} {ty ty' : TypeId} (h : fn.results = #[.cell p ty, .cell q ty']) (tmps : Array Value) (w : World) (g g' : Nat) (t t' : TypeId) (cs cs' : Array Value) (d d' : TypeDesc)
    (hp : tmps.getD p undef = .pointer (some ⟨g, 0, none⟩)) (hg : Blk w g t cs) (hq : tmps.getD q undef = .pointer (some ⟨g', 0, none⟩)) (hg' : Blk w g' t' cs')
    (hu : P.underlying ty = some d) (hd : (match d with | .struct _ | .array _ _ => true | _ => false) = true) (hi : (P.info? ty).map (·.size) = some cs.size)
    (hu' : P.underlying ty' = some d') (hd' : (match d' with | .struct _ | .array _ _ => true | _ => false) = true) (hi' : (P.info? ty').map (·.size) = some cs'.size) :
    (results fn tmps).run P w = .ok (.tuple #[.agg cs, .agg cs']) w := by
  have hp' : tmps[p]?.getD undef = .pointer (some ⟨g, 0, none⟩) := by simpa using hp
  have hq' : tmps[q]?.getD undef = .pointer (some ⟨g', 0, none⟩) := by simpa using hq
  simp [results, h, hp', hq', asAddr, run_loadVar_row w g t ty cs (0, 0) d hg hu hd hi, run_loadVar_row w g' t' ty' cs' (0, 0) d' hg' hu' hd' hi']
section
variable {w0 : World} {b O : Nat} {ts : List Tok} {r cap : Nat} {w w' : World} {s s' : St} {p : Plan}
end
/-- the items' loop counts down -/
def measP (s : St) : Nat := 2 * len s + (if s.err = 0 then 1 else 0)
def countP (p : Plan) : Nat := p.mets.length + p.fees.length + p.chgs.length
theorem pitem_all (p : Plan) (s : St) : countP (P.item dp npV p s).1 + len (P.item dp npV p s).2 ≤ countP p + len s ∧ len (P.item dp npV p s).2 ≤ len s := by
  have h1 := len_oned [wMeter, wFee, wCharge] 0 s (by decide)
  have h0 := len_one [wMeter, wFee, wCharge] 0 s
  unfold P.item
  simp only
  have h3 := len_meter npV (peek s).line (peek s).col (P.one [wMeter, wFee, wCharge] 0 s).2
  have h4 := len_fee dp npV (peek s).line (peek s).col (P.one [wMeter, wFee, wCharge] 0 s).2
  have h5 := len_charge dp npV (peek s).line (peek s).col (P.one [wMeter, wFee, wCharge] 0 s).2
  by_cases c0 : (P.one [wMeter, wFee, wCharge] 0 s).1 = 0
  · rw [if_pos c0]
    have h2 := h1 (by omega)
    simp only [countP, List.length_append, List.length_singleton]
    omega
  · rw [if_neg c0]
    by_cases c1 : (P.one [wMeter, wFee, wCharge] 0 s).1 = 1
    · rw [if_pos c1]
      have h2 := h1 (by omega)
      simp only [countP, List.length_append, List.length_singleton]
      omega
    · rw [if_neg c1]
      by_cases c2 : (P.one [wMeter, wFee, wCharge] 0 s).1 = 2
      · rw [if_pos c2]
        have h2 := h1 (by omega)
        simp only [countP, List.length_append, List.length_singleton]
        omega
      · rw [if_neg c2]
        have h6 := len_must [wSemi] (fail 4 (peek s) (P.one [wMeter, wFee, wCharge] 0 s).2)
        rw [len_fail] at h6
        simp only
        omega
theorem pitem_meas {p : Plan} {s : St} (h : s.err = 0) : measP (P.item dp npV p s).2 < measP s := by
  have h1 := (pitem_all p s).2
  have h2 := item_round dp npV p s
  unfold measP
  rw [if_pos h]
  by_cases h3 : (P.item dp npV p s).2.err = 0
  · rw [if_pos h3]
    rcases h2 with h2 | h2
    · exact absurd h3 h2
    · omega
  · rw [if_neg h3]; omega
theorem run_planP (w : World) (g : Nat) (old new : Array Value) (hb : Blk w g 29 old) (hl : new.toList.length = old.size) (h1 : ∀ v ∈ new.toList, v.oneCell' = true) : (storeCells ⟨g, 0, none⟩ new.toList).run Try.prog w = .ok () (w.setRow g new) := by
  have hq := run_storeCells_from (P := Try.prog) g 29 new.toList 0 old w hb (by rw [Nat.zero_add]; exact hl) h1
  simpa using hq
theorem bl_rowP {w v : World} (h : Below w.heap.size w v) {g : Nat} (hg : w.heap.size ≤ g) (cs : Array Value) : Below w.heap.size w (v.setRow g cs) :=
  ⟨h.os, h.tape, h.output, by rw [setRow_size]; exact h.size, fun i hi => (setRow_far v g i cs (by omega)).trans (h.block i hi)⟩
/-- the program's Parse -/
def ParseOutP (w : World) (l : List UInt8) (e : Ending) (w' : World) : Prop :=
  ∃ v, e = .returned (.tuple #[v, .agg #[.int .i64 (RParse l).2.1, .int .i64 (RParse l).2.2.1, .int .i64 (RParse l).2.2.2]]) ∧ PlanLies w.heap.size w' v (RParse l).1 ∧ Below w.heap.size w w'
end Go.Proofs.Ytcgkfgklggjmaaa.Par
end
section
namespace Go.Proofs.Ytcgkfgklggjmaaa
set_option linter.unusedVariables false
set_option linter.unusedSimpArgs false
/-! two texts with a line feed between -/
def downT (d : Int) (t : Tok) : Tok := { t with line := t.line + d }
def downR (d : Int) : Except (Int × Int) (List Tok) → Except (Int × Int) (List Tok)
  | .ok ts => .ok (ts.map (downT d))
  | .error (a, b) => .error (a + d, b)
theorem downR_cons (d : Int) (t : Tok) (r : Except (Int × Int) (List Tok)) : downR d (consR t r) = consR (downT d t) (downR d r) := by cases r <;> simp [downR, consR]
theorem lexL_down : ∀ (n : Nat) (l : List UInt8) (line col d : Int), l.length ≤ n → lexL l (line + d) col = downR d (lexL l line col) := by
  intro n
  induction n with
  | zero =>
    intro l line col d hl
    obtain rfl := List.length_eq_zero_iff.1 (Nat.le_zero.1 hl)
    rw [lexL, lexL]; simp [downR, downT]
  | succ n ih =>
    intro l line col d hl
    cases l with
    | nil => rw [lexL, lexL]; simp [downR, downT]
    | cons c cs =>
      rw [List.length_cons] at hl
      rw [lexL, lexL]
      split
      · exact ih _ _ _ _ (by rw [List.length_drop]; omega)
      · split
        · rw [show line + d + 1 = line + 1 + d from by omega]; exact ih _ _ _ _ (by omega)
        · split
          · exact ih _ _ _ _ (by omega)
          · split
            · rfl
            · rw [ih _ line _ d (by rw [List.length_drop]; omega), downR_cons]; rfl
/-- lines do not go past the text's length -/
def boundR (lo hi : Int) : Except (Int × Int) (List Tok) → Prop
  | .ok ts => ∀ t ∈ ts, lo ≤ t.line ∧ t.line ≤ hi
  | .error (a, _) => lo ≤ a ∧ a ≤ hi
theorem boundR_cons {lo hi : Int} {t : Tok} {r : Except (Int × Int) (List Tok)} (h : lo ≤ t.line ∧ t.line ≤ hi) (hr : boundR lo hi r) : boundR lo hi (consR t r) := by
  cases r with
  | ok ts =>
    intro x hx
    rcases List.mem_cons.1 hx with rfl | hx
    · exact h
    · exact hr x hx
  | error e => exact hr
theorem boundR_mono {lo hi lo' hi' : Int} {r : Except (Int × Int) (List Tok)} (h : boundR lo hi r) (h1 : lo' ≤ lo) (h2 : hi ≤ hi') : boundR lo' hi' r := by
  cases r with
  | ok ts => exact fun t ht => by have := h t ht; omega
  | error e => have : lo ≤ e.1 ∧ e.1 ≤ hi := h; show lo' ≤ e.1 ∧ e.1 ≤ hi'; omega
theorem lexL_bound : ∀ (n : Nat) (l : List UInt8) (line col : Int), l.length ≤ n → boundR line (line + l.length) (lexL l line col) := by
  intro n
  induction n with
  | zero =>
    intro l line col hl
    obtain rfl := List.length_eq_zero_iff.1 (Nat.le_zero.1 hl)
    rw [lexL]; intro t ht; simp at ht; subst ht; simp
  | succ n ih =>
    intro l line col hl
    cases l with
    | nil => rw [lexL]; intro t ht; simp at ht; subst ht; simp
    | cons c cs =>
      rw [List.length_cons] at hl
      rw [lexL, List.length_cons]
      split
      · exact boundR_mono (ih _ _ _ (by rw [List.length_drop]; omega)) (by omega) (by rw [List.length_drop]; omega)
      · split
        · exact boundR_mono (ih _ _ _ (by omega)) (by omega) (by omega)
        · split
          · exact boundR_mono (ih _ _ _ (by omega)) (by omega) (by omega)
          · split
            · show line ≤ line ∧ line ≤ _; omega
            · refine boundR_cons (by simp only; omega) (boundR_mono (ih _ _ _ (by rw [List.length_drop]; omega)) (by omega) (by rw [List.length_drop]; omega))
theorem noteLen_app (cs r : List UInt8) : noteLen (cs ++ 10 :: r) = noteLen cs := by
  induction cs with
  | nil => simp [noteLen]
  | cons x cs ih =>
    by_cases hx : x = 10
    · simp [noteLen, hx]
    · simp only [noteLen, List.cons_append, List.takeWhile_cons] at ih ⊢
      simp [hx, ih]
theorem runLen_app (cs r : List UInt8) : runLen (cs ++ 10 :: r) = runLen cs := by
  have h10 : isLet 10 = false := by decide
  induction cs with
  | nil => simp [runLen, h10]
  | cons x cs ih =>
    cases hx : isLet x with
    | true => simp only [runLen, List.cons_append, List.takeWhile_cons] at ih ⊢; simp [hx, ih]
    | false => simp [runLen, hx]
theorem tokLen_app (c : UInt8) (cs r : List UInt8) : tokLen c (cs ++ 10 :: r) = tokLen c cs := by unfold tokLen; rw [runLen_app]
theorem drop_app (cs r : List UInt8) (n : Nat) (h : n ≤ cs.length) : (cs ++ 10 :: r).drop n = cs.drop n ++ 10 :: r := by rw [List.drop_append_of_le_length h]
theorem take_app (cs r : List UInt8) (n : Nat) (h : n ≤ cs.length) : (cs ++ 10 :: r).take n = cs.take n := by rw [List.take_append_of_le_length h]
/-- what follows behind a text whose tokens are told -/
def joinR (r : List UInt8) : Except (Int × Int) (List Tok) → Except (Int × Int) (List Tok) → Prop
  | .error e, x => x = .error e
  | .ok ts, x => ∃ us e, ts = us ++ [e] ∧ x = preR us (lexL r (e.line + 1) 1)
theorem joinR_cons {r : List UInt8} {t : Tok} {y x : Except (Int × Int) (List Tok)} (h : joinR r y x) : joinR r (consR t y) (consR t x) := by
  cases y with
  | error e => have : x = .error e := h; subst this; rfl
  | ok ts =>
    obtain ⟨us, e, rfl, rfl⟩ := h
    refine ⟨t :: us, e, rfl, ?_⟩
    cases lexL r (e.line + 1) 1 <;> rfl
theorem lexL_join (r : List UInt8) : ∀ (n : Nat) (l : List UInt8) (line col : Int), l.length ≤ n → joinR r (lexL l line col) (lexL (l ++ 10 :: r) line col) := by
  intro n
  induction n with
  | zero =>
    intro l line col hl
    obtain rfl := List.length_eq_zero_iff.1 (Nat.le_zero.1 hl)
    rw [List.nil_append, lexL, lexL, if_neg (by decide), if_pos rfl]
    exact ⟨[], _, rfl, by rw [preR_nil]⟩
  | succ n ih =>
    intro l line col hl
    cases l with
    | nil =>
      rw [List.nil_append, lexL, lexL, if_neg (by decide), if_pos rfl]
      exact ⟨[], _, rfl, by rw [preR_nil]⟩
    | cons c cs =>
      rw [List.length_cons] at hl
      rw [List.cons_append, lexL, lexL, noteLen_app, tokLen_app, drop_app _ _ _ (noteLen_le cs), drop_app _ _ _ (tokLen_le c cs), take_app _ _ _ (tokLen_le c cs)]
      split
      · exact ih _ _ _ (by rw [List.length_drop]; omega)
      · split
        · exact ih _ _ _ (by omega)
        · split
          · exact ih _ _ _ (by omega)
          · split
            · rfl
            · exact joinR_cons (ih _ _ _ (by rw [List.length_drop]; omega))
/-- a short text: its tokens, the last one being the end; or the place of what is none -/
theorem all_cases (l : List UInt8) (hl : l.length ≤ 8192) : (∃ us e, lexL l 1 1 = .ok (us ++ [e]) ∧ lexAll l = (us ++ [e], 0, 0, 0)) ∨ ∃ a b, lexL l 1 1 = .error (a, b) ∧ lexAll l = ([], 3, a, b) := by
  have h := lexL_join [] _ l 1 1 (Nat.le_refl _)
  rw [lexAll, if_neg (by omega)]
  cases hr : lexL l 1 1 with
  | ok ts =>
    rw [hr] at h
    obtain ⟨us, e, rfl, _⟩ := h
    exact .inl ⟨us, e, rfl, rfl⟩
  | error p => exact .inr ⟨p.1, p.2, rfl, rfl⟩
theorem all_join_err {a b : List UInt8} {p q : Int} (ha : lexL a 1 1 = .error (p, q)) (hl : (a ++ 10 :: b).length ≤ 8192) : lexAll (a ++ 10 :: b) = ([], 3, p, q) := by
  have h := lexL_join b _ a 1 1 (Nat.le_refl _)
  rw [ha] at h
  have h : lexL (a ++ 10 :: b) 1 1 = .error (p, q) := h
  rw [lexAll, if_neg (by omega), h]
theorem all_join_ok {a b : List UInt8} {us : List Tok} {e : Tok} (ha : lexL a 1 1 = .ok (us ++ [e])) (hl : (a ++ 10 :: b).length ≤ 8192) :
    lexL (a ++ 10 :: b) 1 1 = preR us (downR e.line (lexL b 1 1)) := by
  have h := lexL_join b _ a 1 1 (Nat.le_refl _)
  rw [ha] at h
  obtain ⟨us', e', he, hx⟩ := h
  obtain ⟨rfl, h2⟩ := List.append_inj' he rfl
  injection h2 with h2
  subst h2
  rw [hx, ← lexL_down _ b 1 1 e.line (Nat.le_refl _), show (1 : Int) + e.line = e.line + 1 from by omega]
theorem all_bound {l : List UInt8} {ts : List Tok} (h : lexL l 1 1 = .ok ts) : ∀ t ∈ ts, 1 ≤ t.line ∧ t.line ≤ 1 + l.length := by
  have hb := lexL_bound _ l 1 1 (Nat.le_refl _)
  rw [h] at hb
  exact hb
theorem all_bound_err {l : List UInt8} {p q : Int} (h : lexL l 1 1 = .error (p, q)) : 1 ≤ p ∧ p ≤ 1 + l.length := by
  have hb := lexL_bound _ l 1 1 (Nat.le_refl _)
  rw [h] at hb
  exact hb
theorem count_ok : ∀ (n : Nat) (l : List UInt8) (line col : Int) (ts : List Tok), l.length ≤ n → lexL l line col = .ok ts → ts.length ≤ l.length + 1 := by
  intro n
  induction n with
  | zero =>
    intro l line col ts hl h
    obtain rfl := List.length_eq_zero_iff.1 (Nat.le_zero.1 hl)
    rw [lexL] at h; injection h with h; subst h; simp
  | succ n ih =>
    intro l line col ts hl h
    cases l with
    | nil => rw [lexL] at h; injection h with h; subst h; simp
    | cons c cs =>
      rw [List.length_cons] at hl ⊢
      rw [lexL] at h
      split at h
      · have := ih _ _ _ _ (by rw [List.length_drop]; omega) h
        rw [List.length_drop] at this; omega
      · split at h
        · have := ih _ _ _ _ (by omega) h; omega
        · split at h
          · have := ih _ _ _ _ (by omega) h; omega
          · split at h
            · cases h
            · cases hr : lexL (cs.drop (tokLen c cs)) line (col + 1 + tokLen c cs) with
              | error e => rw [hr] at h; cases h
              | ok ts' =>
                rw [hr] at h
                injection h with h
                subst h
                have := ih _ _ _ _ (by rw [List.length_drop]; omega) hr
                rw [List.length_drop] at this
                rw [List.length_cons]; omega
end Go.Proofs.Ytcgkfgklggjmaaa
end
section
namespace Go.Proofs.Ytcgkfgklggjmaaa
set_option linter.unusedVariables false
set_option linter.unusedSimpArgs false
/-! tokens put one behind the other, with blanks and notes between -/
def piece (note : List UInt8) (i : Nat) (t : List UInt8) : List UInt8 := t ++ 32 :: (if i % 3 = 0 then 9 :: 35 :: (note ++ [10]) else [])
def built (note : List UInt8) : Nat → List Tok → List UInt8
  | _, [] => []
  | i, t :: ts => piece note i t.text.data.toList ++ built note (i + 1) ts
theorem built_snoc (note : List UInt8) : ∀ (ts : List Tok) (i : Nat) (t : Tok), built note i (ts ++ [t]) = built note i ts ++ piece note (i + ts.length) t.text.data.toList
  | [], i, t => by simp [built]
  | x :: ts, i, t => by
    have ih := built_snoc note ts (i + 1) t
    simp only [List.cons_append, built, ih, List.length_cons, List.append_assoc]
    rw [show i + 1 + ts.length = i + (ts.length + 1) from by omega]
theorem kind_shape {l : List UInt8} (h : kindOf l ≠ 0) : (l = [123] ∨ l = [125] ∨ l = [59]) ∨ (l ≠ [] ∧ l.all isLet = true) := by
  refine Classical.byContradiction fun hc => h ?_
  refine kind_no (fun h1 => hc (.inl h1)) ?_
  by_cases h0 : l = []
  · exact .inl h0
  · cases ha : l.all isLet with
    | false => exact .inr rfl
    | true => exact absurd (.inr ⟨h0, ha⟩) hc
theorem runLen_all (cs r : List UInt8) (h : cs.all isLet = true) : runLen (cs ++ 32 :: r) = cs.length := by
  have h32 : isLet 32 = false := by decide
  induction cs with
  | nil => simp [runLen, h32]
  | cons x cs ih =>
    simp only [List.all_cons, Bool.and_eq_true] at h
    have := ih h.2
    simp only [runLen, List.cons_append, List.takeWhile_cons, h.1, if_true, List.length_cons] at this ⊢
    omega
theorem lexL_sp (r : List UInt8) (line col : Int) : lexL (32 :: r) line col = lexL r line (col + 1) := by
  rw [lexL, if_neg (by decide), if_neg (by decide), if_pos (by decide)]
/-- a token ahead of a blank is read as it stands -/
theorem lex_tok (l r : List UInt8) (line col : Int) (h : kindOf l ≠ 0) : lexL (l ++ 32 :: r) line col = consR ⟨kindOf l, ⟨l.toArray⟩, line, col⟩ (lexL r line (col + l.length + 1)) := by
  have key : ∃ c cs, l = c :: cs ∧ c ≠ 35 ∧ c ≠ 10 ∧ ¬ (c = 32 ∨ c = 9 ∨ c = 13) ∧ tokLen c (cs ++ 32 :: r) = cs.length := by
    rcases kind_shape h with h1 | ⟨h0, h1⟩
    · rcases h1 with rfl | rfl | rfl
      · exact ⟨123, [], rfl, by decide, by decide, by decide, rfl⟩
      · exact ⟨125, [], rfl, by decide, by decide, by decide, rfl⟩
      · exact ⟨59, [], rfl, by decide, by decide, by decide, rfl⟩
    · cases l with
      | nil => exact absurd rfl h0
      | cons c cs =>
        simp only [List.all_cons, Bool.and_eq_true] at h1
        have hc := h1.1
        refine ⟨c, cs, rfl, ?_, ?_, ?_, ?_⟩
        · rintro rfl; revert hc; decide
        · rintro rfl; revert hc; decide
        · rintro (rfl | rfl | rfl) <;> revert hc <;> decide
        · rw [tokLen, if_pos hc, runLen_all cs r h1.2]
  obtain ⟨c, cs, rfl, h35, h10, h3, ht⟩ := key
  rw [List.cons_append, lexL, if_neg h35, if_neg h10, if_neg h3, ht, List.take_left', List.drop_left', if_neg h]
  · rw [lexL_sp]
    rw [List.length_cons, show col + 1 + (cs.length : Int) + 1 = col + ((cs.length + 1 : Nat) : Int) + 1 from by omega]
  · rfl
  · rfl
theorem noteLen_free (note r : List UInt8) (h : ∀ x ∈ note, x ≠ 10) : noteLen (note ++ 10 :: r) = note.length := by
  induction note with
  | nil => simp [noteLen]
  | cons x note ih =>
    have hx := h x (by simp)
    have := ih fun y hy => h y (by simp [hy])
    simp only [noteLen, List.cons_append, List.takeWhile_cons] at this ⊢
    simp [hx, this]
theorem lex_note (note r : List UInt8) (line col : Int) (h : ∀ x ∈ note, x ≠ 10) : lexL (9 :: 35 :: (note ++ 10 :: r)) line col = lexL r (line + 1) 1 := by
  rw [lexL, if_neg (by decide), if_neg (by decide), if_pos (by decide), lexL, if_pos rfl, noteLen_free note r h, List.drop_left' rfl, lexL, if_neg (by decide), if_pos rfl]
def likeR (ts : List Tok) : Except (Int × Int) (List Tok) → Prop
  | .ok us => us.map (fun t => (t.kind, t.text)) = ts.map (fun t => (t.kind, t.text))
  | .error _ => False
theorem likeR_cons {t u : Tok} {ts : List Tok} {r : Except (Int × Int) (List Tok)} (h : likeR ts r) (hk : u.kind = t.kind) (ht : u.text = t.text) : likeR (t :: ts) (consR u r) := by
  cases r with
  | error e => exact h.elim
  | ok us =>
    have h : us.map (fun t => (t.kind, t.text)) = ts.map (fun t => (t.kind, t.text)) := h
    show (u :: us).map (fun t => (t.kind, t.text)) = (t :: ts).map (fun t => (t.kind, t.text))
    rw [List.map_cons, List.map_cons, h, hk, ht]
/-- the tokens of what was put together are the same ones, but for places -/
theorem lex_built (note : List UInt8) (hn : ∀ x ∈ note, x ≠ 10) (e : Tok) (he : e.kind = 0 ∧ e.text = ⟨#[]⟩) : ∀ (us : List Tok) (i : Nat) (line col : Int), (∀ t ∈ us, kindOf t.text.data.toList = t.kind ∧ t.kind ≠ 0) →
    likeR (us ++ [e]) (lexL (built note i (us ++ [e])) line col)
  | [], i, line, col, _ => by
    have h0 : built note i ([] ++ [e]) = 32 :: (if i % 3 = 0 then 9 :: 35 :: (note ++ 10 :: []) else []) := by
      simp [built, piece, he.2]
    rw [h0, lexL_sp]
    by_cases hi : i % 3 = 0
    · rw [if_pos hi, lex_note note [] _ _ hn, lexL]
      simp [likeR, he]
    · rw [if_neg hi, lexL]
      simp [likeR, he]
  | t :: us, i, line, col, h => by
    have ht := h t (by simp)
    have hk : kindOf t.text.data.toList ≠ 0 := by rw [ht.1]; exact ht.2
    have hs : built note i (t :: us ++ [e]) = t.text.data.toList ++ 32 :: ((if i % 3 = 0 then 9 :: 35 :: (note ++ [10]) else []) ++ built note (i + 1) (us ++ [e])) := by
      simp [built, piece]
    rw [hs, lex_tok _ _ _ _ hk]
    refine likeR_cons ?_ ht.1 (by simp)
    by_cases hi : i % 3 = 0
    · rw [if_pos hi]
      have e1 : 9 :: 35 :: (note ++ [10]) ++ built note (i + 1) (us ++ [e]) = 9 :: 35 :: (note ++ 10 :: built note (i + 1) (us ++ [e])) := by simp
      rw [e1, lex_note note _ _ _ hn]
      exact lex_built note hn e he us (i + 1) _ _ fun x hx => h x (by simp [hx])
    · rw [if_neg hi, List.nil_append]
      exact lex_built note hn e he us (i + 1) _ _ fun x hx => h x (by simp [hx])
theorem shape_ok : ∀ (n : Nat) (l : List UInt8) (line col : Int) (ts : List Tok), l.length ≤ n → lexL l line col = .ok ts → ∃ us e, ts = us ++ [e] ∧ (e.kind = 0 ∧ e.text = ⟨#[]⟩) ∧ ∀ t ∈ us, kindOf t.text.data.toList = t.kind ∧ t.kind ≠ 0 := by
  intro n
  induction n with
  | zero =>
    intro l line col ts hl h
    obtain rfl := List.length_eq_zero_iff.1 (Nat.le_zero.1 hl)
    rw [lexL] at h; injection h with h; subst h
    exact ⟨[], _, rfl, ⟨rfl, rfl⟩, by simp⟩
  | succ n ih =>
    intro l line col ts hl h
    cases l with
    | nil =>
      rw [lexL] at h; injection h with h; subst h
      exact ⟨[], _, rfl, ⟨rfl, rfl⟩, by simp⟩
    | cons c cs =>
      rw [List.length_cons] at hl
      rw [lexL] at h
      split at h
      · exact ih _ _ _ _ (by rw [List.length_drop]; omega) h
      · split at h
        · exact ih _ _ _ _ (by omega) h
        · split at h
          · exact ih _ _ _ _ (by omega) h
          · split at h
            · cases h
            · rename_i hk
              cases hr : lexL (cs.drop (tokLen c cs)) line (col + 1 + tokLen c cs) with
              | error e => rw [hr] at h; cases h
              | ok ts' =>
                rw [hr] at h
                injection h with h
                subst h
                obtain ⟨us, e, rfl, he, hu⟩ := ih _ _ _ _ (by rw [List.length_drop]; omega) hr
                refine ⟨_ :: us, e, rfl, he, fun t ht => ?_⟩
                rcases List.mem_cons.1 ht with rfl | ht
                · exact ⟨rfl, hk⟩
                · exact hu t ht
/-- what LexNotes hangs on -/
theorem all_built (l note : List UInt8) (hn : ∀ x ∈ note, x ≠ 10) {ts : List Tok} (h : lexL l 1 1 = .ok ts) (hl : (built note 0 ts).length ≤ 8192) :
    ∃ us, lexAll (built note 0 ts) = (us, 0, 0, 0) ∧ us.map (fun t => (t.kind, t.text)) = ts.map (fun t => (t.kind, t.text)) := by
  obtain ⟨us, e, rfl, he, hu⟩ := shape_ok _ l 1 1 ts (Nat.le_refl _) h
  have hb := lex_built note hn e he us 0 1 1 hu
  rw [lexAll, if_neg (by omega)]
  cases hr : lexL (built note 0 (us ++ [e])) 1 1 with
  | error p => rw [hr] at hb; exact hb.elim
  | ok vs =>
    rw [hr] at hb
    exact ⟨vs, rfl, hb⟩
end Go.Proofs.Ytcgkfgklggjmaaa
end
section
namespace Go.Proofs.Ytcgkfgklggjmaaa
set_option linter.unusedVariables false
set_option linter.unusedSimpArgs false
/-! the tokens of a text that stands written out -/
def lexF : Nat → List UInt8 → Int → Int → Except (Int × Int) (List Tok)
  | 0, _, _, _ => .ok []
  | _ + 1, [], line, col => .ok [⟨0, ⟨#[]⟩, line, col⟩]
  | f + 1, c :: cs, line, col =>
    if c = 35 then lexF f (cs.drop (noteLen cs)) line (col + 1 + noteLen cs)
    else if c = 10 then lexF f cs (line + 1) 1
    else if c = 32 ∨ c = 9 ∨ c = 13 then lexF f cs line (col + 1)
    else if kindOf (c :: cs.take (tokLen c cs)) = 0 then .error (line, col)
    else consR ⟨kindOf (c :: cs.take (tokLen c cs)), ⟨(c :: cs.take (tokLen c cs)).toArray⟩, line, col⟩ (lexF f (cs.drop (tokLen c cs)) line (col + 1 + tokLen c cs))
theorem lexF_eq : ∀ (f : Nat) (l : List UInt8) (line col : Int), l.length < f → lexF f l line col = lexL l line col
  | 0, _, _, _, h => absurd h (by omega)
  | f + 1, [], line, col, _ => by rw [lexL, lexF]
  | f + 1, c :: cs, line, col, h => by
    rw [List.length_cons] at h
    rw [lexL, lexF]
    rw [lexF_eq f (cs.drop (noteLen cs)) _ _ (by rw [List.length_drop]; omega), lexF_eq f cs _ _ (by omega), lexF_eq f cs _ _ (by omega), lexF_eq f (cs.drop (tokLen c cs)) _ _ (by rw [List.length_drop]; omega)]
def aText1 : List UInt8 := [112, 108, 97, 110, 32, 112, 49, 59]
def aText2 : List UInt8 := [32, 50, 48, 50, 52, 45, 48, 50, 45, 51, 48]
def aText3 : List UInt8 := [50, 48, 50, 52, 45, 48, 50, 45, 50, 57]
def aToks1 : List Tok := [⟨2, ⟨#[112, 108, 97, 110]⟩, 1, 1⟩, ⟨1, ⟨#[112, 49]⟩, 1, 6⟩, ⟨5, ⟨#[59]⟩, 1, 8⟩, ⟨0, ⟨#[]⟩, 1, 9⟩]
theorem a_toks1 : lexAll aText1 = (aToks1, 0, 0, 0) := by
  rw [lexAll, if_neg (by decide), ← lexF_eq 20 aText1 1 1 (by decide)]
  have : lexF 20 aText1 1 1 = .ok aToks1 := by kernel_rfl
  rw [this]
theorem a_toks2 : lexAll aText2 = ([], 3, 1, 2) := by
  rw [lexAll, if_neg (by decide), ← lexF_eq 20 aText2 1 1 (by decide)]
  have : lexF 20 aText2 1 1 = .error (1, 2) := by kernel_rfl
  rw [this]
theorem a_kind3 : kindOf aText3 = 4 := by kernel_rfl
end Go.Proofs.Ytcgkfgklggjmaaa
end
section
namespace Go.Proofs.Ytcgkfgklggjmaaa.Dec
set_option linter.unusedVariables false
set_option linter.unusedSimpArgs false
open Go.RowKit
structure LB (w w' : World) : Prop where
  out : Below w.heap.size w w'
theorem LB.drew {w v : World} (h : LB w v) : LB w v.drew := ⟨bl_drew h.out⟩
theorem LB.call {w v w' : World} (h : LB w v) (hb : Below v.heap.size v w') : LB w w' := ⟨bl_call h.out hb⟩
theorem LB.start (w : World) : LB w w := ⟨bl_refl w⟩
theorem LB.alloc {w v : World} (h : LB w v) (o : Obj) : LB w (v.alloc o) := ⟨bl_alloc h.out o⟩
theorem dec_len (n k : Nat) (h : n < 10 ^ k) (hk : 1 ≤ k) : (Lib.decDigits n).length ≤ k := (pad_eq k n h hk).1
end Go.Proofs.Ytcgkfgklggjmaaa.Dec
end
section
namespace Go.Proofs.Ytcgkfgklggjmaaa.Par
set_option linter.unusedVariables false
set_option linter.unusedSimpArgs false
/-! the plan of one fee whose amount is a number's digits -/
def nPre : List UInt8 := [112, 108, 97, 110, 32, 112, 32, 99, 117, 114, 114, 101, 110, 99, 121, 32, 99, 59, 32, 104, 111, 114, 105, 122, 111, 110, 32, 50, 48, 50, 52, 45, 48, 49, 45, 48, 49, 32, 50, 48, 50, 52, 45, 48, 49, 45, 48, 50, 59]
def nUs : List Tok := [⟨2, ⟨#[112, 108, 97, 110]⟩, 1, 1⟩, ⟨1, ⟨#[112]⟩, 1, 6⟩, ⟨2, ⟨#[99, 117, 114, 114, 101, 110, 99, 121]⟩, 1, 8⟩, ⟨1, ⟨#[99]⟩, 1, 17⟩, ⟨5, ⟨#[59]⟩, 1, 18⟩, ⟨2, ⟨#[104, 111, 114, 105, 122, 111, 110]⟩, 1, 20⟩, ⟨4, ⟨#[50, 48, 50, 52, 45, 48, 49, 45, 48, 49]⟩, 1, 28⟩, ⟨4, ⟨#[50, 48, 50, 52, 45, 48, 49, 45, 48, 50]⟩, 1, 39⟩, ⟨5, ⟨#[59]⟩, 1, 49⟩]
def nToks (T : ByteArray) (c1 c2 : Int) : List Tok := nUs ++ [⟨2, ⟨#[102, 101, 101]⟩, 2, 1⟩, ⟨3, T, 2, 5⟩, ⟨5, ⟨#[59]⟩, 2, c1⟩, ⟨0, ⟨#[]⟩, 2, c2⟩]
def nPlan (v : Int) : Plan := ⟨⟨#[112]⟩, ⟨#[99]⟩, (2024, 1, 1), (2024, 1, 2), [], [⟨v, noWin, 2, 1⟩], [], 1, 1⟩
def nHead : Plan := ⟨⟨#[112]⟩, ⟨#[99]⟩, (2024, 1, 1), (2024, 1, 2), [], [], [], 1, 1⟩
def nS1 (T : ByteArray) (c1 c2 : Int) : St := ⟨[⟨2, ⟨#[102, 101, 101]⟩, 2, 1⟩, ⟨3, T, 2, 5⟩, ⟨5, ⟨#[59]⟩, 2, c1⟩, ⟨0, ⟨#[]⟩, 2, c2⟩], 0, 0, 0⟩
def nS2 (T : ByteArray) (c1 c2 : Int) : St := ⟨[⟨3, T, 2, 5⟩, ⟨5, ⟨#[59]⟩, 2, c1⟩, ⟨0, ⟨#[]⟩, 2, c2⟩], 0, 0, 0⟩
def nS3 (c1 c2 : Int) : St := ⟨[⟨5, ⟨#[59]⟩, 2, c1⟩, ⟨0, ⟨#[]⟩, 2, c2⟩], 0, 0, 0⟩
theorem nplan_items (T : ByteArray) (c1 c2 : Int) : P.plan dp npV (nToks T c1 c2) = P.items dp npV 3 (P.item dp npV nHead (nS1 T c1 c2)).1 (P.item dp npV nHead (nS1 T c1 c2)).2 := by
  have e : P.head dp ⟨nToks T c1 c2, 0, 0, 0⟩ = (nHead, nS1 T c1 c2) := by kernel_rfl
  unfold P.plan
  rw [e]
  show P.items dp npV 4 nHead (nS1 T c1 c2) = _
  rw [P.items]
  rw [if_pos ⟨rfl, (by decide : (2 : Int) ≠ 0)⟩]
theorem nitem (T : ByteArray) (c1 c2 : Int) (x : Fee × St) (h : P.fee dp npV 2 1 (nS2 T c1 c2) = x) : P.item dp npV nHead (nS1 T c1 c2) = ({ nHead with fees := [x.1] }, x.2) := by
  have ho : P.one [wMeter, wFee, wCharge] 0 (nS1 T c1 c2) = (1, nS2 T c1 c2) := by kernel_rfl
  rw [P_item_fee ho rfl]
  subst h
  rfl
theorem nnumber (T : ByteArray) (c1 c2 : Int) : P.number npV 0 1000000000000 (nS2 T c1 c2) = ((npV T 0 1000000000000).1, if (npV T 0 1000000000000).2 = 1 then fail 4 ⟨3, T, 2, 5⟩ (nS3 c1 c2) else if (npV T 0 1000000000000).2 = 2 then fail 6 ⟨3, T, 2, 5⟩ (nS3 c1 c2) else nS3 c1 c2) := by
  have hk : P.kind 3 (nS2 T c1 c2) = (T, nS3 c1 c2) := by kernel_rfl
  unfold P.number
  simp only [hk]
  rfl
theorem nplan_ok (T : ByteArray) (c1 c2 v : Int) (h : npV T 0 1000000000000 = (v, 0)) : (P.plan dp npV (nToks T c1 c2)).1 = nPlan v ∧ (P.plan dp npV (nToks T c1 c2)).2.err = 0 := by
  have hn := nnumber T c1 c2
  rw [h] at hn
  have hf : P.fee dp npV 2 1 (nS2 T c1 c2) = (⟨v, noWin, 2, 1⟩, ⟨[⟨0, ⟨#[]⟩, 2, c2⟩], 0, 0, 0⟩) := by
    unfold P.fee
    rw [hn]
    kernel_rfl
  rw [nplan_items, nitem _ _ _ _ hf]
  exact ⟨by kernel_rfl, by kernel_rfl⟩
theorem nplan_no (T : ByteArray) (c1 c2 v : Int) (h : npV T 0 1000000000000 = (v, 2)) : ((P.plan dp npV (nToks T c1 c2)).2.err, (P.plan dp npV (nToks T c1 c2)).2.line, (P.plan dp npV (nToks T c1 c2)).2.col) = (6, 2, 5) := by
  have hn := nnumber T c1 c2
  rw [h] at hn
  have hf : P.fee dp npV 2 1 (nS2 T c1 c2) = (⟨v, noWin, 2, 1⟩, fail 6 ⟨3, T, 2, 5⟩ (nS3 c1 c2)) := by
    unfold P.fee
    rw [hn]
    kernel_rfl
  rw [nplan_items, nitem _ _ _ _ hf]
  rfl
theorem runLen_semi (cs r : List UInt8) (h : cs.all isLet = true) : runLen (cs ++ 59 :: r) = cs.length := by
  have h32 : isLet 59 = false := by decide
  induction cs with
  | nil => simp [runLen, h32]
  | cons x cs ih =>
    simp only [List.all_cons, Bool.and_eq_true] at h
    have := ih h.2
    simp only [runLen, List.cons_append, List.takeWhile_cons, h.1, if_true, List.length_cons] at this ⊢
    omega
theorem lex_semi (l r : List UInt8) (line col : Int) (h : kindOf l ≠ 0) (h1 : l ≠ [] ∧ l.all isLet = true) : lexL (l ++ 59 :: r) line col = consR ⟨kindOf l, ⟨l.toArray⟩, line, col⟩ (consR ⟨5, ⟨#[59]⟩, line, col + l.length⟩ (lexL r line (col + l.length + 1))) := by
  obtain ⟨c, cs, rfl, h35, h10, h3, ht⟩ : ∃ c cs, l = c :: cs ∧ c ≠ 35 ∧ c ≠ 10 ∧ ¬ (c = 32 ∨ c = 9 ∨ c = 13) ∧ tokLen c (cs ++ 59 :: r) = cs.length := by
    cases l with
    | nil => exact absurd rfl h1.1
    | cons c cs =>
      have h2 := h1.2
      simp only [List.all_cons, Bool.and_eq_true] at h2
      have hc := h2.1
      refine ⟨c, cs, rfl, ?_, ?_, ?_, ?_⟩
      · rintro rfl; revert hc; decide
      · rintro rfl; revert hc; decide
      · rintro (rfl | rfl | rfl) <;> revert hc <;> decide
      · rw [tokLen, if_pos hc, runLen_semi cs r h2.2]
  rw [List.cons_append, lexL, if_neg h35, if_neg h10, if_neg h3, ht, List.take_left', List.drop_left', if_neg h]
  · have hk : kindOf [59] = 5 := by kernel_rfl
    rw [List.length_cons, lexL, if_neg (by decide), if_neg (by decide), if_neg (by decide), show tokLen 59 r = 0 from rfl, List.take_zero, List.drop_zero, if_neg (by rw [hk]; decide), hk]
    rw [show col + 1 + (cs.length : Int) = col + ((cs.length + 1 : Nat) : Int) from by omega, show col + ((cs.length + 1 : Nat) : Int) + 1 + ((0 : Nat) : Int) = col + ((cs.length + 1 : Nat) : Int) + 1 from by omega]
  · rfl
  · rfl
theorem n_pre : lexL nPre 1 1 = .ok (nUs ++ [⟨0, ⟨#[]⟩, 1, 50⟩]) := by
  rw [← lexF_eq 100 nPre 1 1 (by decide)]
  kernel_rfl
theorem n_lex (l : List UInt8) (hk : kindOf l = 3) (hl : l ≠ [] ∧ l.all isLet = true) (hn : l.length ≤ 1000) : lexAll (nPre ++ 10 :: ([102, 101, 101] ++ 32 :: (l ++ [59]))) = (nToks ⟨l.toArray⟩ (5 + l.length) (5 + l.length + 1), 0, 0, 0) := by
  have hj := lexL_join ([102, 101, 101] ++ 32 :: (l ++ [59])) _ nPre 1 1 (Nat.le_refl _)
  rw [n_pre] at hj
  obtain ⟨us, e, h1, h2⟩ := hj
  obtain ⟨h3, h4⟩ := List.append_inj' h1 rfl
  obtain rfl := h3
  obtain rfl : (⟨0, ⟨#[]⟩, 1, 50⟩ : Tok) = e := by injection h4
  have hf : kindOf [102, 101, 101] = 2 := by kernel_rfl
  rw [lex_tok [102, 101, 101] _ _ _ (by rw [hf]; decide), lex_semi l [] _ _ (by rw [hk]; decide) hl, lexL, hk, hf] at h2
  unfold lexAll
  rw [if_neg (by simp [nPre]; omega), h2]
  rfl
theorem parse_digits (n : Nat) (hn : n < 9223372036854775808) : Dec.parseL (Lib.decDigits n) 0 1000000000000 = if 1000000000000 < n then (0, 2) else ((n : Int), 0) := by
  have h : Dec.fracL n 0 = [] := rfl
  have ht : Dec.textN n 0 = Lib.decDigits n := by rw [Dec.textN, Dec.tailL, if_pos h, List.append_nil, Nat.pow_zero, Nat.div_one]
  have hf := Dec.frac_fill n 0
  have hform := Dec.form_textN n 0
  have hv := Dec.val_text n 0
  rw [ht, if_pos h] at hform
  rw [h] at hf
  unfold Dec.parseL Dec.parseW
  rw [hform, Dec.cut_whole (Dec.dec_all _), if_neg (by simp), if_neg (by simp)]
  simp only [hf]
  rw [Nat.pow_zero, Nat.div_one] at hv
  rw [show Int.toNat 0 = 0 from rfl, hf, hv]
  by_cases hm : 1000000000000 < n
  · rw [if_pos (.inr (by omega)), if_pos hm]
  · rw [if_neg (by omega), if_neg hm]
theorem dec_let (n : Nat) : (Lib.decDigits n).all isLet = true := by
  have h := Dec.dec_all n
  rw [List.all_eq_true] at h ⊢
  intro x hx
  have := h x hx
  simp only [Dec.isDig, isDig, decide_eq_true_eq, Bool.and_eq_true] at this
  simp only [isLet, decide_eq_true_eq]
  omega
theorem kind_digits (n : Nat) : kindOf (Lib.decDigits n) = 3 := by
  have hne := Dec.dec_ne n
  have hd := Dec.dec_all n
  have hlead := Dec.lead_dec n
  rw [kind_let (dec_let n) hne]
  generalize Lib.decDigits n = l at *
  have hw : isWord l = false := by
    cases h : isWord l with
    | false => rfl
    | true =>
      have hm : l ∈ wordsL := by simpa [isWord] using h
      have ha : ∀ w ∈ wordsL, w.all Dec.isDig = false := by decide
      rw [ha l hm] at hd
      cases hd
  have hd' : l.all isDig = true := hd
  have hf : digFirst l = true := by
    cases l with
    | nil => exact absurd rfl hne
    | cons c cs =>
      simp only [List.all_cons, Bool.and_eq_true] at hd'
      exact hd'.1
  have hb : digitsB l = true := by
    unfold digitsB
    rw [hd']
    cases l with
    | nil => exact absurd rfl hne
    | cons c cs => rfl
  have hn : numForm l = 1 := by
    have hl : ¬ (1 < l.length ∧ l.getD 0 0 = 48) := by
      rintro ⟨a1, a2⟩
      cases l with
      | nil => exact absurd rfl hne
      | cons c cs =>
        obtain rfl : c = 48 := a2
        unfold Dec.leadB at hlead
        rw [decide_eq_true a1] at hlead
        cases hlead
    unfold numForm
    rw [Dec.cut_whole hd]
    simp only
    rw [if_neg (by rw [hb]; exact fun h => h.elim (fun h => by cases h) hl), if_pos trivial]
  rw [hw, hf, hn]
  simp
/-- what Parse says of the plan with one fee of an amount -/
theorem n_parse (n : Nat) (hn : n < 9223372036854775808) : RParse (nPre ++ 10 :: ([102, 101, 101] ++ 32 :: (Lib.decDigits n ++ [59]))) = if 1000000000000 < n then (noPlan, 6, 2, 5) else (nPlan n, 0, 0, 0) := by
  have hlen : (Lib.decDigits n).length ≤ 19 := Dec.dec_len n 19 (by omega) (by decide)
  have hlex := n_lex (Lib.decDigits n) (kind_digits n) ⟨Dec.dec_ne n, dec_let n⟩ (by omega)
  have hp : npV ⟨(Lib.decDigits n).toArray⟩ 0 1000000000000 = if 1000000000000 < n then (0, 2) else ((n : Int), 0) := parse_digits n hn
  by_cases hm : 1000000000000 < n
  · rw [if_pos hm] at hp ⊢
    have h := nplan_no ⟨(Lib.decDigits n).toArray⟩ (5 + (Lib.decDigits n).length) (5 + (Lib.decDigits n).length + 1) 0 hp
    simp only [Prod.mk.injEq] at h
    rw [PParse_bad hlex (by rw [h.1]; decide), h.1, h.2.1, h.2.2]
  · rw [if_neg hm] at hp ⊢
    have h := nplan_ok ⟨(Lib.decDigits n).toArray⟩ (5 + (Lib.decDigits n).length) (5 + (Lib.decDigits n).length + 1) n hp
    rw [PParse_ok hlex h.2, h.1]
end Go.Proofs.Ytcgkfgklggjmaaa.Par
end
section
namespace Go.Proofs.Ytcgkfgklggjmaaa.Par
set_option linter.unusedVariables false
set_option linter.unusedSimpArgs false
open Go.RowKit
/-- a number's eight bytes -/
def octets (n : Int) : List Int := [IntKind.u64.wrap n % 256, IntKind.u64.wrap n / 256 % 256, IntKind.u64.wrap n / 65536 % 256, IntKind.u64.wrap n / 16777216 % 256, IntKind.u64.wrap n / 4294967296 % 256, IntKind.u64.wrap n / 1099511627776 % 256, IntKind.u64.wrap n / 281474976710656 % 256, IntKind.u64.wrap n / 72057594037927936 % 256]
def textB (n : Int) : ByteArray := strOfNums (octets n)
end Go.Proofs.Ytcgkfgklggjmaaa.Par
end
section
namespace Go.Proofs.Ytcgkfgklggjmaaa.Par
set_option linter.unusedVariables false
set_option linter.unusedSimpArgs false
open Go.RowKit
/-- what lay there stays -/
structure LB (w w' : World) : Prop where
  out : Below w.heap.size w w'
theorem LB.drew {w v : World} (h : LB w v) : LB w v.drew := ⟨bl_drew h.out⟩
theorem LB.call {w v w' : World} (h : LB w v) (hb : Below v.heap.size v w') : LB w w' := ⟨bl_call h.out hb⟩
theorem LB.alloc {w v : World} (h : LB w v) (o : Obj) : LB w (v.alloc o) := ⟨bl_alloc h.out o⟩
def wYes := str [121, 101, 115]
def wNo := str [110, 111]
def winT (x : Win) : List ByteArray := [if x.has = true then wYes else wNo, textB x.from_.1, textB x.from_.2.1, textB x.from_.2.2, textB x.to_.1, textB x.to_.2.1, textB x.to_.2.2]
end Go.Proofs.Ytcgkfgklggjmaaa.Par
end
section
namespace Go.Proofs.Ytcgkfgklggjmaaa.Par
set_option linter.unusedVariables false
set_option linter.unusedSimpArgs false
open Go.RowKit
/-! a plan as a row of texts -/
def metT (m : Met) : List ByteArray := [m.name, m.unit, textB m.max]
def feeT (f : Fee) : List ByteArray := [textB f.amount] ++ winT f.win
def tierT (t : Tier) : List ByteArray := [textB t.upto, textB t.rate]
def adjT (a : Adj) : List ByteArray := [textB a.kind, textB a.n, textB a.mode]
def chgH (c : Chg) : List ByteArray := [c.meter] ++ winT c.win ++ [textB c.allow, textB c.block, textB c.kind, textB c.mode, textB c.tiers.length, textB c.adjs.length]
def chgT (c : Chg) : List ByteArray := chgH c ++ c.tiers.flatMap tierT ++ c.adjs.flatMap adjT
def headT (p : Plan) : List ByteArray := [p.name, p.cur] ++ winT ⟨false, p.from_, p.to_⟩ ++ [textB p.mets.length, textB p.fees.length, textB p.chgs.length]
def rowT (p : Plan) : List ByteArray := headT p ++ p.mets.flatMap metT ++ p.fees.flatMap feeT ++ p.chgs.flatMap chgT
/-- no row of a plan is longer than this -/
structure Small (p : Plan) : Prop where
  mets : p.mets.length ≤ 10000
  fees : p.fees.length ≤ 10000
  chgs : p.chgs.length ≤ 10000
  tiers : ∀ c ∈ p.chgs, c.tiers.length ≤ 10000
  adjs : ∀ c ∈ p.chgs, c.adjs.length ≤ 10000
theorem flat_take {α β : Type} (f : α → List β) {l : List α} {k : Nat} {a : α} (h : l[k]? = some a) : (l.take (k + 1)).flatMap f = (l.take k).flatMap f ++ f a := by
  rw [List.take_add_one, List.flatMap_append, h]
  simp
theorem flat_le {α β : Type} (f : α → List β) (n : Nat) : ∀ l : List α, (∀ a ∈ l, (f a).length ≤ n) → (l.flatMap f).length ≤ l.length * n
  | [], _ => by simp
  | a :: l, h => by
    have h1 := flat_le f n l (fun b hb => h b (by simp [hb]))
    have h2 := h a (by simp)
    rw [List.flatMap_cons, List.length_append, List.length_cons, Nat.succ_mul]
    omega
theorem winT_len (x : Win) : (winT x).length = 7 := rfl
theorem str_flat (l : List ByteArray) : l.flatMap strF = l.map Value.string := by
  induction l with
  | nil => rfl
  | cons a l ih => simp [strF, ih]
theorem strInfo : (Try.prog.info? 9).map (fun i => (i.zero, i.size, i.bytes)) = some (some (.string ⟨#[]⟩), 1, 16) := by kernel_rfl
/-- within Row: the plan's own block, and what has been written -/
structure RW (w0 w : World) (C : Array Value) (v : Value) (l : List ByteArray) : Prop where
  lb : LB w0 w
  kp : Blk w w0.heap.size 29 C
  out : w.ownsRow w0.heap.size 9 1 v l.length (l.flatMap strF)
section
variable {w0 w w' : World} {C : Array Value} {v : Value} {l : List ByteArray}
theorem RW.below (h : RW w0 w C v l) (hb : Below w.heap.size w w') : RW w0 w' C v l := ⟨h.lb.call hb, h.kp.call hb, own_keep h.out fun g hg => hb.block g (h.out.lt g hg).2⟩
theorem RW.alloc (h : RW w0 w C v l) (o : Obj) : RW w0 (w.alloc o) C v l := h.below (bl_alloc (bl_refl _) o)
theorem RW.drew (h : RW w0 w C v l) : RW w0 w.drew C v l := h.below (bl_drew (bl_refl _))
theorem RW.add {v' : Value} {m : Nat} {news : List Value} {l' : List ByteArray} (h : RW w0 w C v l) (hg : w.grownBy w' v.ownBlock) (ho : w'.ownsRow w0.heap.size 9 1 v' (l.length + m) (l.flatMap strF ++ news)) (hm : l'.length = m) (hn : l'.flatMap strF = news) : RW w0 w' C v' (l ++ l') :=
  ⟨⟨h.lb.out.grown hg h.lb.out.size (fun k hk => (h.out.lt k hk).1)⟩, h.kp.grown hg (fun e => own_ne_blk h.out h.kp (by decide) e.symm), by rw [List.length_append, hm, List.flatMap_append, hn]; exact ho⟩
theorem RW.apart (h : RW w0 w C v l) {g : Nat} {T : TypeId} {cells : Array Value} (hk : Blk w g T cells) (hT : 9 ≠ T) : some g ≠ v.ownBlock := fun e => own_ne_blk h.out hk hT e.symm
theorem RW.lt (h : RW w0 w C v l) : w0.heap.size < w.heap.size := h.kp.lt
end
end Go.Proofs.Ytcgkfgklggjmaaa.Par
end
section
namespace Go.Proofs.Ytcgkfgklggjmaaa.Par
set_option linter.unusedVariables false
set_option linter.unusedSimpArgs false
/-! a plan that is parsed is small -/
theorem ptierLoop_len : ∀ (f : Nat) (acc : List Tier) (s : St), (P.tierLoop npV f acc s).1.length + len (P.tierLoop npV f acc s).2 ≤ acc.length + len s
  | 0, acc, s => Nat.le_refl _
  | f + 1, acc, s => by
    rw [P.tierLoop]
    by_cases hc : (P.eat wUpto s).1 = true
    · rw [if_pos hc]
      simp only
      have h1 := len_eaten hc
      have h2 := len_number npV 0 1000000 (P.eat wUpto s).2
      have h3 := len_must [wRate] (P.number npV 0 1000000 (P.eat wUpto s).2).2
      have h4 := len_number npV 6 1000000000000 (P.must [wRate] (P.number npV 0 1000000 (P.eat wUpto s).2).2)
      have h5 := len_must [wSemi] (P.number npV 6 1000000000000 (P.must [wRate] (P.number npV 0 1000000 (P.eat wUpto s).2).2)).2
      have ih := ptierLoop_len f (acc ++ [⟨(P.number npV 0 1000000 (P.eat wUpto s).2).1, (P.number npV 6 1000000000000 (P.must [wRate] (P.number npV 0 1000000 (P.eat wUpto s).2).2)).1⟩]) (P.must [wSemi] (P.number npV 6 1000000000000 (P.must [wRate] (P.number npV 0 1000000 (P.eat wUpto s).2).2)).2)
      rw [List.length_append, List.length_singleton] at ih
      omega
    · rw [if_neg hc]
      have := len_eat wUpto s
      simp only
      omega
theorem ptiers_len (s : St) : (P.tiers npV s).1.length ≤ len s + 1 := by
  have h1 := len_must [wOpen] s
  have h2 := ptierLoop_len (P.must [wOpen] s).rest.length [] (P.must [wOpen] s)
  unfold P.tiers
  simp only [List.length_append, List.length_singleton]
  rw [List.length_nil] at h2
  omega
theorem padjLoop_len : ∀ (f : Nat) (acc : List Adj) (s : St), (P.adjLoop npV f acc s).1.length + len (P.adjLoop npV f acc s).2 ≤ acc.length + len s
  | 0, acc, s => Nat.le_refl _
  | f + 1, acc, s => by
    rw [P.adjLoop]
    by_cases hc : (P.adjust npV s).1.2 = false ∨ (P.adjust npV s).2.err ≠ 0
    · rw [if_pos hc]
      have := len_adjust npV s
      simp only
      omega
    · rw [if_neg hc]
      have h1 : (P.adjust npV s).1.2 = true := by
        cases h : (P.adjust npV s).1.2 with
        | true => rfl
        | false => exact absurd (.inl h) hc
      have h2 := adj_round npV h1
      have ih := padjLoop_len f (acc ++ [(P.adjust npV s).1.1]) (P.adjust npV s).2
      rw [List.length_append, List.length_singleton] at ih
      omega
theorem pcharge_small (l c : Int) (s : St) : (P.charge dp npV l c s).1.tiers.length ≤ len s + 1 ∧ (P.charge dp npV l c s).1.adjs.length ≤ len s + 1 := by
  have h1 := len_kind 1 s
  have h2 := len_window dp (P.kind 1 s).2
  have h3 := len_must [wOpen] (P.window dp (P.kind 1 s).2).2
  have h4 := len_opt npV wAllowance 0 (P.must [wOpen] (P.window dp (P.kind 1 s).2).2)
  have h5 := len_opt npV wBlock 1 (P.opt npV wAllowance 0 (P.must [wOpen] (P.window dp (P.kind 1 s).2).2)).2
  have h6 := len_ckind (P.opt npV wBlock 1 (P.opt npV wAllowance 0 (P.must [wOpen] (P.window dp (P.kind 1 s).2).2)).2).2
  unfold P.charge
  simp only
  generalize P.ckind (P.opt npV wBlock 1 (P.opt npV wAllowance 0 (P.must [wOpen] (P.window dp (P.kind 1 s).2).2)).2).2 = k at *
  have h7 := ptiers_len k.2
  have h8 := len_tiers npV k.2
  have h9 := len_must [wRound] (P.tiers npV k.2).2
  have h10 := len_mode (P.must [wRound] (P.tiers npV k.2).2)
  have h11 := len_must [wSemi] (P.mode (P.must [wRound] (P.tiers npV k.2).2)).2
  have h12 := padjLoop_len (P.must [wSemi] (P.mode (P.must [wRound] (P.tiers npV k.2).2)).2).rest.length [] (P.must [wSemi] (P.mode (P.must [wRound] (P.tiers npV k.2).2)).2)
  rw [List.length_nil] at h12
  omega
/-- what a parse keeps: so many items, and so many parts of each, at most -/
def Bd (n : Nat) (p : Plan) (s : St) : Prop := countP p + len s ≤ n ∧ ∀ c ∈ p.chgs, c.tiers.length ≤ n + 1 ∧ c.adjs.length ≤ n + 1
theorem pitem_bd {n : Nat} {p : Plan} {s : St} (h : Bd n p s) : Bd n (P.item dp npV p s).1 (P.item dp npV p s).2 := by
  refine ⟨Nat.le_trans (pitem_all p s).1 h.1, ?_⟩
  have h0 := len_one [wMeter, wFee, wCharge] 0 s
  unfold P.item
  simp only
  split
  · exact h.2
  · split
    · exact h.2
    · split
      · intro c hc
        rcases List.mem_append.1 hc with hc | hc
        · exact h.2 c hc
        · obtain rfl := List.mem_singleton.1 hc
          have h1 := pcharge_small (peek s).line (peek s).col (P.one [wMeter, wFee, wCharge] 0 s).2
          have h2 := h.1
          omega
      · exact h.2
theorem pitems_bd {n : Nat} : ∀ (f : Nat) (p : Plan) (s : St), Bd n p s → Bd n (P.items dp npV f p s).1 (P.items dp npV f p s).2
  | 0, p, s, h => h
  | f + 1, p, s, h => by
    rw [P.items]
    split
    · exact pitems_bd f _ _ (pitem_bd h)
    · exact h
theorem phead_len (ts : List Tok) : len (P.head dp ⟨ts, 0, 0, 0⟩).2 ≤ ts.length := by
  unfold P.head
  simp only
  have g1 := len_must [wPlan] ⟨ts, 0, 0, 0⟩
  have g2 := len_kind 1 (P.must [wPlan] ⟨ts, 0, 0, 0⟩)
  generalize P.kind 1 (P.must [wPlan] ⟨ts, 0, 0, 0⟩) = n at *
  have g3 := len_must [wCurrency] n.2
  have g4 := len_kind 1 (P.must [wCurrency] n.2)
  generalize P.kind 1 (P.must [wCurrency] n.2) = c at *
  have g5 := len_must [wSemi, wHorizon] c.2
  have g6 := len_day dp (P.must [wSemi, wHorizon] c.2)
  generalize P.day dp (P.must [wSemi, wHorizon] c.2) = f at *
  have g7 := len_day dp f.2
  generalize P.day dp f.2 = t at *
  have g8 := len_must [wSemi] t.2
  have g0 : len (⟨ts, 0, 0, 0⟩ : St) = ts.length := rfl
  omega
theorem noPlan_small : Small noPlan := ⟨by decide, by decide, by decide, fun c h => (by cases h), fun c h => (by cases h)⟩
theorem RParse_small (l : List UInt8) : Small (RParse l).1 := by
  obtain ⟨ts, er, a, b, hall⟩ : ∃ ts er a b, lexAll l = (ts, er, a, b) := ⟨_, _, _, _, rfl⟩
  by_cases her : er = 0
  · subst her
    by_cases h0 : (P.plan dp npV ts).2.err = 0
    · rw [PParse_ok hall h0]
      obtain ⟨_, _, hc⟩ := all_shape hall
      have hb : Bd 8193 (P.plan dp npV ts).1 (P.plan dp npV ts).2 := by
        unfold P.plan
        refine pitems_bd _ _ _ ⟨?_, fun c hc => by cases hc⟩
        have := phead_len ts
        show 0 + 0 + 0 + len (P.head dp ⟨ts, 0, 0, 0⟩).2 ≤ 8193
        omega
      have h1 := hb.1
      unfold countP at h1
      exact ⟨by show (P.plan dp npV ts).1.mets.length ≤ 10000; omega, by show (P.plan dp npV ts).1.fees.length ≤ 10000; omega, by show (P.plan dp npV ts).1.chgs.length ≤ 10000; omega, fun c hc => Nat.le_trans (hb.2 c hc).1 (by decide), fun c hc => Nat.le_trans (hb.2 c hc).2 (by decide)⟩
    · rw [PParse_bad hall h0]; exact noPlan_small
  · rw [RParse_lex hall her]; exact noPlan_small
end Go.Proofs.Ytcgkfgklggjmaaa.Par
end
