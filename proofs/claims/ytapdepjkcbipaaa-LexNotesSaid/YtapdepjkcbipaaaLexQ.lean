import Derived.Test.YtapdepjkcbipaaaLexP
import Derived.KernelRfl
namespace Go.Proofs.Ytapdepjkcbipaaa
set_option linter.unusedVariables false
set_option linter.unusedSimpArgs false
/-! the tokens of a text that stands written out -/
def lexF : Nat → List UInt8 → Int → Int → Except (Int × Int) (List Tok)
  | 0, _, _, _ => .ok []
  | _ + 1, [], line, col => .ok [⟨0, ⟨#[]⟩, line, col⟩]
  | f + 1, c :: cs, line, col =>
    if c = 35 then lexF f (cs.drop (noteLen cs)) line (col + 1 + noteLen cs)
    else if c = 10 then lexF f cs (line + 1) 1
    else if c = 32 ∨ c = 9 ∨ c = 13 then lexF f cs line (col + 1)
    else if kindOf (c :: cs.take (tokLen c cs)) = 0 then .error (line, col)
    else consR ⟨kindOf (c :: cs.take (tokLen c cs)), ⟨(c :: cs.take (tokLen c cs)).toArray⟩, line, col⟩ (lexF f (cs.drop (tokLen c cs)) line (col + 1 + tokLen c cs))
theorem lexF_eq : ∀ (f : Nat) (l : List UInt8) (line col : Int), l.length < f → lexF f l line col = lexL l line col
  | 0, _, _, _, h => absurd h (by omega)
  | f + 1, [], line, col, _ => by rw [lexL, lexF]
  | f + 1, c :: cs, line, col, h => by
    rw [List.length_cons] at h
    rw [lexL, lexF]
    rw [lexF_eq f (cs.drop (noteLen cs)) _ _ (by rw [List.length_drop]; omega), lexF_eq f cs _ _ (by omega), lexF_eq f cs _ _ (by omega), lexF_eq f (cs.drop (tokLen c cs)) _ _ (by rw [List.length_drop]; omega)]
def aText1 : List UInt8 := [112, 108, 97, 110, 32, 112, 49, 59]
def aText2 : List UInt8 := [32, 50, 48, 50, 52, 45, 48, 50, 45, 51, 48]
def aText3 : List UInt8 := [50, 48, 50, 52, 45, 48, 50, 45, 50, 57]
def aToks1 : List Tok := [⟨2, ⟨#[112, 108, 97, 110]⟩, 1, 1⟩, ⟨1, ⟨#[112, 49]⟩, 1, 6⟩, ⟨5, ⟨#[59]⟩, 1, 8⟩, ⟨0, ⟨#[]⟩, 1, 9⟩]
theorem a_toks1 : lexAll aText1 = (aToks1, 0, 0, 0) := by
  rw [lexAll, if_neg (by decide), ← lexF_eq 20 aText1 1 1 (by decide)]
  have : lexF 20 aText1 1 1 = .ok aToks1 := by kernel_rfl
  rw [this]
theorem a_toks2 : lexAll aText2 = ([], 3, 1, 2) := by
  rw [lexAll, if_neg (by decide), ← lexF_eq 20 aText2 1 1 (by decide)]
  have : lexF 20 aText2 1 1 = .error (1, 2) := by kernel_rfl
  rw [this]
theorem a_kind3 : kindOf aText3 = 4 := by kernel_rfl
end Go.Proofs.Ytapdepjkcbipaaa
