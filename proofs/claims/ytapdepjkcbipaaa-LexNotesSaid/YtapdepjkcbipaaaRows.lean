/-
  No cell of these rows narrows 'for every input' (looked for: loops, veiled, ifaces, maps, wideKeys, modest, calm, conditions, laid).
  DERIVED. THE GIVEN ROWS OF THIS SEAT. 3 by the template 'for every input the law returns true; each argument reads behind the call as it read before'; 0 by the template 'total and deterministic' (their statements: YtapdepjkcbipaaaTotals.lean).
  GIVEN WITH THE SEED: the statements are not yours to turn. If you find one false, say at which input.
  Laid BY PROGRAM, IN A SANDBOX (cutbox-rows.mjs): the forced cells as the released guide's own fill.sh prints them over the translation c260cda944e10dae… (all of the seat's roots in one cut). By AI agents, Wed Nov 11 2026. No macro, syntax, notation, axiom, sorry.
-/
import Derived.Test.YtapdepjkcbipaaaChecked
import GoSem.Claim
import GoSem.ClaimJoined
import GoSem.ClaimMapViews
import Derived.JoinedTies
import Derived.KernelRfl
namespace Go.Proofs.Ytapdepjkcbipaaa
/- THE CELL 'sum', in the pinned program and in every row, IS THE sha256 OF THE DUMP (.gsa) THAT YtapdepjkcbipaaaProg.lean LOADS. Nothing in Lean hashes anything: it is a label: what it is worth is what the hold of that sum in a sandbox is worth. -/
noncomputable def Try.pinned : Pinned := { name := "ytapdepjkcbipaaa", sum := "c260cda944e10dae1fac0a292317ded31f165e95b8ce86fd8c46a39ea1254185", checked := Try.checked }
namespace Rows
def none {H : Type} : Left H := { results := [], args := [] }

/-- 'poundagelaw05.LexIs': WHATEVER THE INPUT: true; the input reads as it did. -/
def lexIsSpec : ChangeSpec := { name := "lexIs", fn := fun _ => fun
  | [d] => { results := [.lit (.bool true)], args := [d] }
  | _ => none }
def lexIsRow : OpenClaim := { program := "ytapdepjkcbipaaa", sum := "c260cda944e10dae1fac0a292317ded31f165e95b8ce86fd8c46a39ea1254185", func := "poundage/poundagelaw05.LexIs", spec := "lexIs", inPlace := ["internal/bytealg.IndexByteString", "internal/bytealg.IndexString"], named := ["internal/bytealg.MaxLen"], apart := false }
def LexIsSaid : Prop := lexIsRow.holds Try.pinned (OpenSpec.ofChange lexIsSpec)

/-- ITS FALSE NEIGHBOUR: 'it returns false'. Refute it at one input. -/
def lexIsWrong : ChangeSpec := { name := "lexIs", fn := fun _ => fun
  | [d] => { results := [.lit (.bool false)], args := [d] }
  | _ => none }
def LexIsWrongFalsely : Prop := lexIsRow.holds Try.pinned (OpenSpec.ofChange lexIsWrong)

/-- 'poundagelaw05.LexJoins': WHATEVER THE INPUT: true; the input reads as it did. -/
def lexJoinsSpec : ChangeSpec := { name := "lexJoins", fn := fun _ => fun
  | [d1, d2] => { results := [.lit (.bool true)], args := [d1, d2] }
  | _ => none }
def lexJoinsRow : OpenClaim := { program := "ytapdepjkcbipaaa", sum := "c260cda944e10dae1fac0a292317ded31f165e95b8ce86fd8c46a39ea1254185", func := "poundage/poundagelaw05.LexJoins", spec := "lexJoins", inPlace := ["internal/bytealg.IndexByteString", "internal/bytealg.IndexString"], named := ["internal/bytealg.MaxLen"], apart := false }
def LexJoinsSaid : Prop := lexJoinsRow.holds Try.pinned (OpenSpec.ofChange lexJoinsSpec)

/-- ITS FALSE NEIGHBOUR: 'it returns false'. Refute it at one input. -/
def lexJoinsWrong : ChangeSpec := { name := "lexJoins", fn := fun _ => fun
  | [d1, d2] => { results := [.lit (.bool false)], args := [d1, d2] }
  | _ => none }
def LexJoinsWrongFalsely : Prop := lexJoinsRow.holds Try.pinned (OpenSpec.ofChange lexJoinsWrong)

/-- 'poundagelaw05.LexNotes': WHATEVER THE INPUT: true; the input reads as it did. -/
def lexNotesSpec : ChangeSpec := { name := "lexNotes", fn := fun _ => fun
  | [d1, d2] => { results := [.lit (.bool true)], args := [d1, d2] }
  | _ => none }
def lexNotesRow : OpenClaim := { program := "ytapdepjkcbipaaa", sum := "c260cda944e10dae1fac0a292317ded31f165e95b8ce86fd8c46a39ea1254185", func := "poundage/poundagelaw05.LexNotes", spec := "lexNotes", inPlace := ["internal/bytealg.IndexByteString", "internal/bytealg.IndexString"], named := ["internal/bytealg.MaxLen"], apart := false }
def LexNotesSaid : Prop := lexNotesRow.holds Try.pinned (OpenSpec.ofChange lexNotesSpec)

/-- ITS FALSE NEIGHBOUR: 'it returns false'. Refute it at one input. -/
def lexNotesWrong : ChangeSpec := { name := "lexNotes", fn := fun _ => fun
  | [d1, d2] => { results := [.lit (.bool false)], args := [d1, d2] }
  | _ => none }
def LexNotesWrongFalsely : Prop := lexNotesRow.holds Try.pinned (OpenSpec.ofChange lexNotesWrong)

/- THE SECOND FORM. 'bulk': how many values and letters a reading holds, each counted each time it is reached (what is shared counts as often as it is met; a slice's spare places count too). A statement '..UptoSaid' is the law's where the arguments, and the package variables that the reading takes, are together of bulk at most 1048576: NARROWER than '..Said'. Prove '..Said' where nothing that the law and all that it calls make is longer than what came in: it says more and counts as full. Else prove '..UptoSaid'. A law counts once. -/
mutual
def uptoBulk {H : Type} : DataW H → Nat
  | .lit (.string bytes) => bytes.length + 1
  | .lit _ => 1
  | .nil => 1
  | .ptr d => uptoBulk d + 1
  | .slice elems spare => uptoBulkAll elems + uptoBulkAll spare + 1
  | .agg parts => uptoBulkAll parts + 1
  | .iface _ d => uptoBulk d + 1
  | .map entries => uptoBulkEntries entries + 1
  | .held _ => 1
def uptoBulkAll {H : Type} : List (DataW H) → Nat
  | [] => 0
  | d :: r => uptoBulk d + uptoBulkAll r
def uptoBulkEntries {H : Type} : List (Lit × DataW H) → Nat
  | [] => 0
  | x :: r => uptoBulkEntry x + uptoBulkEntries r
def uptoBulkEntry {H : Type} : Lit × DataW H → Nat
  | (.string bytes, d) => bytes.length + uptoBulk d + 1
  | (_, d) => uptoBulk d + 1
 end
def uptoSmall : (H : Type) → List (DataW H) → Bool := fun _ ds => decide (uptoBulkAll ds ≤ 1048576)
def OpenSpec.upto (s : _root_.Go.ChangeSpec) : _root_.Go.OpenSpec := { _root_.Go.OpenSpec.ofChange s with cond := some uptoSmall }

/-- 'poundagelaw05.LexIs', WHERE WHAT IT READS IS OF BULK AT MOST 1048576: true; the input reads as it did. -/
def lexIsUptoRow : OpenClaim := { program := "ytapdepjkcbipaaa", sum := "c260cda944e10dae1fac0a292317ded31f165e95b8ce86fd8c46a39ea1254185", func := "poundage/poundagelaw05.LexIs", spec := "lexIs", inPlace := ["internal/bytealg.IndexByteString", "internal/bytealg.IndexString"], named := ["internal/bytealg.MaxLen"], apart := false, narrowed := true }
def LexIsUptoSaid : Prop := lexIsUptoRow.holds Try.pinned (OpenSpec.upto lexIsSpec)

/-- 'poundagelaw05.LexJoins', WHERE WHAT IT READS IS OF BULK AT MOST 1048576: true; the input reads as it did. -/
def lexJoinsUptoRow : OpenClaim := { program := "ytapdepjkcbipaaa", sum := "c260cda944e10dae1fac0a292317ded31f165e95b8ce86fd8c46a39ea1254185", func := "poundage/poundagelaw05.LexJoins", spec := "lexJoins", inPlace := ["internal/bytealg.IndexByteString", "internal/bytealg.IndexString"], named := ["internal/bytealg.MaxLen"], apart := false, narrowed := true }
def LexJoinsUptoSaid : Prop := lexJoinsUptoRow.holds Try.pinned (OpenSpec.upto lexJoinsSpec)

/-- 'poundagelaw05.LexNotes', WHERE WHAT IT READS IS OF BULK AT MOST 1048576: true; the input reads as it did. -/
def lexNotesUptoRow : OpenClaim := { program := "ytapdepjkcbipaaa", sum := "c260cda944e10dae1fac0a292317ded31f165e95b8ce86fd8c46a39ea1254185", func := "poundage/poundagelaw05.LexNotes", spec := "lexNotes", inPlace := ["internal/bytealg.IndexByteString", "internal/bytealg.IndexString"], named := ["internal/bytealg.MaxLen"], apart := false, narrowed := true }
def LexNotesUptoSaid : Prop := lexNotesUptoRow.holds Try.pinned (OpenSpec.upto lexNotesSpec)

end Rows
end Go.Proofs.Ytapdepjkcbipaaa
