import Derived.Test.YtmhimnmiclnbjaaDoorDecS
namespace Go.Proofs.YtmhimnmiclnbjaaDoor
set_option linter.unusedVariables false
set_option linter.unusedSimpArgs false
/-! the text of a number, and what a text is parsed to -/
def digL (n : Nat) : Nat → List UInt8
  | 0 => []
  | k + 1 => digL (n / 10) k ++ [UInt8.ofNat (48 + n % 10)]
theorem digL_len : ∀ (k n : Nat), (digL n k).length = k
  | 0, _ => rfl
  | k + 1, n => by simp [digL, digL_len k]
theorem digL_zero : ∀ k, digL 0 k = List.replicate k 48
  | 0 => rfl
  | k + 1 => by
    rw [digL, Nat.zero_div, digL_zero k, List.replicate_succ']
    rfl
theorem pad_eq : ∀ (k n : Nat), n < 10 ^ k → 1 ≤ k → (Lib.decDigits n).length ≤ k ∧ List.replicate (k - (Lib.decDigits n).length) 48 ++ Lib.decDigits n = digL n k
  | 0, _, _, h => absurd h (by omega)
  | k + 1, n, h, _ => by
    by_cases h10 : n < 10
    · rw [Lib.decDigits_one h10, digL, Nat.div_eq_of_lt h10, digL_zero, Nat.mod_eq_of_lt h10]
      exact ⟨by simp, by simp⟩
    · have hk : 1 ≤ k := by
        cases k with
        | zero => simp at h; omega
        | succ k => omega
      obtain ⟨h1, h2⟩ := pad_eq k (n / 10) (by rw [Nat.pow_succ] at h; omega) hk
      rw [Lib.decDigits, dif_neg h10, digL, ← h2]
      refine ⟨by simp; exact h1, ?_⟩
      rw [List.length_append, List.length_singleton, show k + 1 - ((Lib.decDigits (n / 10)).length + 1) = k - (Lib.decDigits (n / 10)).length from by omega, List.append_assoc]
theorem digL_top : ∀ (k n : Nat), digL n (k + 1) = UInt8.ofNat (48 + n / 10 ^ k % 10) :: digL n k
  | 0, n => by simp [digL]
  | k + 1, n => by
    rw [digL, digL_top k (n / 10), Nat.div_div_eq_div_mul, Nat.mul_comm 10 (10 ^ k), ← Nat.pow_succ]
    rfl
theorem digL_mod : ∀ (k n : Nat), digL (n % 10 ^ k) k = digL n k
  | 0, n => rfl
  | k + 1, n => by
    have e1 : n % 10 ^ (k + 1) / 10 = (n / 10) % 10 ^ k := by
      rw [Nat.pow_succ, Nat.mul_comm, Nat.mod_mul_right_div_self]
    have e2 : n % 10 ^ (k + 1) % 10 = n % 10 := by
      rw [Nat.pow_succ, Nat.mod_mul_left_mod]
    rw [digL, digL, e1, e2, digL_mod k]
theorem dig_ofNat (d : Nat) (h : d < 10) : isDig (UInt8.ofNat (48 + d)) = true ∧ (UInt8.ofNat (48 + d)).toNat = 48 + d := by
  have e : (UInt8.ofNat (48 + d)).toNat = 48 + d := by
    rw [UInt8.toNat_ofNat']; omega
  exact ⟨by simp [isDig, e]; omega, e⟩
theorem digL_all : ∀ (k n : Nat), (digL n k).all isDig = true
  | 0, _ => rfl
  | k + 1, n => by
    have h := (dig_ofNat (n % 10) (by omega)).1
    rw [digL, List.all_append, digL_all k, List.all_cons, h]
    rfl
theorem dec_all : ∀ (n : Nat), (Lib.decDigits n).all isDig = true
  | n => by
    by_cases h : n < 10
    · rw [Lib.decDigits_one h, List.all_cons, (dig_ofNat n h).1]; rfl
    · rw [Lib.decDigits, dif_neg h]
      rw [List.all_append, dec_all (n / 10), List.all_cons, (dig_ofNat (n % 10) (by omega)).1]
      rfl
theorem dec_ne (n : Nat) : Lib.decDigits n ≠ [] := by
  rw [Lib.decDigits]; split <;> simp
theorem trim_cons (c : UInt8) (l : List UInt8) : Lib.trimRightB (c :: l) 48 = if Lib.trimRightB l 48 = [] then (if c = 48 then [] else [c]) else c :: Lib.trimRightB l 48 := by
  unfold Lib.trimRightB
  rw [List.reverse_cons, List.dropWhile_append]
  by_cases h : (l.reverse.dropWhile fun x => x == 48) = []
  · have h2 : (List.dropWhile (fun x => x == 48) l.reverse).isEmpty = true := by rw [h]; rfl
    rw [if_pos h2, if_pos (by rw [h]; rfl)]
    by_cases hc : c = 48
    · simp [hc]
    · simp [hc]
  · have h2 : (List.dropWhile (fun x => x == 48) l.reverse).isEmpty = false := by
      cases hh : List.dropWhile (fun x => x == 48) l.reverse with
      | nil => exact absurd hh h
      | cons a b => rfl
    rw [if_neg (by simp [h2]), if_neg (by simpa using h)]
    simp
def fracL (n k : Nat) : List UInt8 := Lib.trimRightB (digL n k) 48
theorem frac_zero (n : Nat) : fracL n 0 = [] := rfl
theorem ofNat48 (d : Nat) (h : d < 10) : UInt8.ofNat (48 + d) = 48 ↔ d = 0 := by
  have := (dig_ofNat d h).2
  constructor
  · intro e; rw [e] at this; have : (48 : UInt8).toNat = 48 := rfl; omega
  · rintro rfl; rfl
theorem frac_succ (n k : Nat) : fracL n (k + 1) = if fracL n k = [] ∧ n / 10 ^ k % 10 = 0 then [] else UInt8.ofNat (48 + n / 10 ^ k % 10) :: fracL n k := by
  have h48 := ofNat48 (n / 10 ^ k % 10) (by omega)
  unfold fracL
  rw [digL_top, trim_cons]
  by_cases h : Lib.trimRightB (digL n k) 48 = []
  · by_cases hd : n / 10 ^ k % 10 = 0
    · rw [if_pos h, if_pos (h48.2 hd), if_pos ⟨h, hd⟩]
    · rw [if_pos h, if_neg (fun e => hd (h48.1 e)), if_neg (fun e => hd e.2), h]
  · rw [if_neg h, if_neg (fun e => h e.1)]
theorem frac_nil : ∀ (k n : Nat), fracL n k = [] ↔ n % 10 ^ k = 0
  | 0, n => by simp [frac_zero, Nat.mod_one]
  | k + 1, n => by
    have ih := frac_nil k n
    have e : n % 10 ^ (k + 1) = n % 10 ^ k + 10 ^ k * (n / 10 ^ k % 10) := by rw [Nat.pow_succ, Nat.mod_mul]
    have hp : 0 < 10 ^ k := Nat.pow_pos (by omega)
    rw [frac_succ]
    by_cases h : fracL n k = [] ∧ n / 10 ^ k % 10 = 0
    · rw [if_pos h, e, h.2, ih.1 h.1]; simp
    · rw [if_neg h, e]
      constructor
      · intro hh; cases hh
      · intro hh
        exfalso
        apply h
        have h1 : n % 10 ^ k = 0 := by omega
        have h2 : 10 ^ k * (n / 10 ^ k % 10) = 0 := by omega
        rcases Nat.mul_eq_zero.1 h2 with h3 | h3
        · omega
        · exact ⟨ih.2 h1, h3⟩
def tailL (f : List UInt8) : List UInt8 := if f = [] then [] else 46 :: f
def textN (n k : Nat) : List UInt8 := Lib.decDigits (n / 10 ^ k) ++ tailL (fracL n k)
def textL (n places : Int) : List UInt8 := if n < 0 ∨ places < 0 ∨ 9 < places then [] else textN n.toNat places.toNat
def fillL (b : List UInt8) (k : Nat) : List UInt8 := b ++ List.replicate (k - b.length) 48
def parseW (form : Int) (a b : List UInt8) (places most : Int) : Int × Int :=
  if form = 0 ∨ places < 0 ∨ 9 < places ∨ (form = 2 ∧ places = 0) then (0, 1)
  else if places < (b.length : Int) then (0, 1)
  else if 9223372036854775808 ≤ valN 0 (a ++ fillL b places.toNat) ∨ most < (valN 0 (a ++ fillL b places.toNat) : Int) then (0, 2)
  else ((valN 0 (a ++ fillL b places.toNat) : Int), 0)
def parseL (l : List UInt8) (places most : Int) : Int × Int := parseW (formL l) (Lib.cut l [46]).1 (Lib.cut l [46]).2.1 places most
end Go.Proofs.YtmhimnmiclnbjaaDoor
