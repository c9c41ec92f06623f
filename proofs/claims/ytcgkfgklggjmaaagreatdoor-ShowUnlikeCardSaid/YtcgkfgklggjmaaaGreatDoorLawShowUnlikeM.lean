/-
Two plans that parse.Parse reads from texts of at most 8192 bytes each have one text by show.Plan just if they are the same but for places; of longer texts the statement says nothing.
-/
import Derived.Test.YtcgkfgklggjmaaaGreatDoorCards
import Derived.Test.YtcgkfgklggjmaaaGreatDoorTie
import Derived.Test.YtcgkfgklggjmaaaGreatDoorGo
import Derived.WalkKit
import Derived.ProofKit
import Derived.OpenShut
import Derived.ShutString
import Derived.Deep.DeepHandedRow
import Derived.Lib.LaidTab
import Derived.Lib.SmallJoins
import Derived.Stop.LaidErr
namespace Go.Proofs.YtcgkfgklggjmaaaGreatDoor.showUnlike
open Go.ChangeShapes Go.WideShapes Go.ChangeAt Go.RowKit Go.Joins
open Go.ChangeMaps (open_string shut_string)
set_option linter.unusedVariables false
set_option linter.unusedSimpArgs false
theorem le_of_wf {x : Int} (h : (Lit.int .i64 x).wf = true) : x ≤ 9223372036854775807 := by
  simp [Lit.wf] at h
  exact h.2
theorem own : ownKnob Tryz.prog.godebug = none := by kernel_rfl
theorem gTabType : (Tryz.prog.globals[0]?).map (·.type) = some 253 := by kernel_rfl
theorem errType : (Tryz.prog.globals[7]?).map (·.type) = some 149 := by kernel_rfl
theorem errGlob : Tryz.prog.globalNamed "strconv.ErrRange" = some 7 := by kernel_rfl
theorem star : "*" ++ "errors.errorString" = "*errors.errorString" := by decide
theorem errRow (u : TypeId) (h : Tryz.prog.typeName? 3 u = some "*errors.errorString") : u = 295 :=
  typeName_ptr_named (nm := "errors.errorString") (by rw [star]; kernel_rfl) (by kernel_rfl) (by decide) u (by rw [star]; exact h)
set_option maxRecDepth 100000 in
theorem table {W : World} (h : laidMetH Tryz.prog Rows.showUnlikeRow.laid W) (hsh : W.ShapedOpen Tryz.prog) : Dec.DT W := by
  refine ⟨Lib.tabIs_of_head Dec.gT gTabType Tryz.underlying253 Tryz.underlying202 (by kernel_rfl) (by kernel_rfl) (laidMet.tail (laidMet.tail h)), ?_, ?_⟩
  · exact Tryz.laysM145.s1_3 W hsh
  · have h4 : laidMet Tryz.prog (("strconv.ErrRange", .iface "*errors.errorString" (.ptr (.agg [.lit (.string [118, 97, 108, 117, 101, 32, 111, 117, 116, 32, 111, 102, 32, 114, 97, 110, 103, 101])]))) :: [("strconv.ErrSyntax", Rows.laid_strconv_ErrSyntax), ("unicode/utf8.first", Rows.laid_unicode_utf8_first)]) W := laidMet.tail (laidMet.tail (laidMet.tail (laidMet.tail h)))
    obtain ⟨a, s, hv, _⟩ := laid_sentinel h4 errGlob errType Tryz.underlying149 errRow Tryz.underlying295 Tryz.underlying297 rfl rfl Tryz.underlying9 (by kernel_rfl) (by kernel_rfl)
    exact ⟨_, by simpa using World.var?_cell errGlob hv 0, .inr ⟨_, _, rfl⟩⟩
set_option maxRecDepth 100000 in
theorem contract (H : Type) (enc : TypeId × Value → H) (W : World) (base : Nat) (args : Array Value) (ds gs : List (DataW H)) (before : List MemPlace)
    (hval : ∀ (j : Nat) t v, Tryz.f6.params[j]? = some t → args[j]? = some v → Value.okWide Tryz.prog W .any base t v)
    (hW : DataW.Whole enc Tryz.prog Tryz.f6.params.toList Rows.showUnlikeSpec.vars false W args.toList ds gs before) (hL : laidMetH Tryz.prog Rows.showUnlikeRow.laid W) (hsh : W.ShapedOpen Tryz.prog) :
    Calls Tryz.prog 6 args W fun e W' => ∃ v, e = .returned v ∧ Rows.showUnlikeSpec.post enc Tryz.prog Tryz.f6 false true false false W args v W' := by
  have hW' := hW
  obtain ⟨p, q, hA0, hV, rfl, hfz, hnd⟩ := hW
  have hA : DataW.TrodAll enc Tryz.prog W 0 (fun _ => true) true Tryz.f6.params.toList args.toList ds p := hA0
  rw [Tryz.params6] at hA hval
  obtain ⟨v0, vs0, d0, ds0, p0, q0, hargs, rfl, rfl, h0, r0⟩ := trodAll_cons hA
  obtain ⟨v1, vs1, d1, ds1, p1, q1, rfl, rfl, rfl, h1, r1⟩ := trodAll_cons r0
  obtain ⟨rfl, rfl, rfl⟩ := trodAll_nil r1
  obtain rfl : args = #[v0, v1] := by cases args; simp_all
  obtain ⟨rfl, rfl⟩ := trodVars_none hV
  obtain ⟨a0, rfl, rfl, rfl, w0⟩ := open_string Tryz.underlying9 (hval 0 9 v0 rfl rfl) h0
  obtain ⟨a1, rfl, rfl, rfl, w1⟩ := open_string Tryz.underlying9 (hval 1 9 v1 rfl rfl) h1
  clear hA0
  simp only [List.append_nil] at hW'
  have hT : Dec.DT W := table hL hsh
  refine (Par.showUnlike8 a0 a1 W hT w0 w1).mono fun e W' ⟨he, hg⟩ => ?_
  subst he
  exact ⟨_, rfl, _, _, _, [], _, [], hW', trodAll_mk1 (shut_bool Tryz.underlying4 _), (trodAll_cons_mk (shut_string Tryz.underlying9 w0) (trodAll_cons_mk (shut_string Tryz.underlying9 w1) trodAll_mk0)), rfl, hg.frame _, fun h => by cases h⟩
def put (xs : Array Value) : Obj → Obj
  | .cells _ t frozen => .cells xs t frozen
  | o => o
def lits : Nat → DataW Unit → List Value
  | 0, _ => []
  | n + 1, .agg l => (l.map (lits n)).flatten
  | _ + 1, .lit (.int k i) => [.int k i]
  | _ + 1, _ => []
noncomputable def low : Nat := (World.holding Tryz.prog default ⟨#[], #[], []⟩).heap.size
def rangeS : ByteArray := ⟨#[118, 97, 108, 117, 101, 32, 111, 117, 116, 32, 111, 102, 32, 114, 97, 110, 103, 101]⟩
def syntaxS : ByteArray := ⟨#[105, 110, 118, 97, 108, 105, 100, 32, 115, 121, 110, 116, 97, 120]⟩
noncomputable def laidWorld (os : Os) : World :=
  let w0 := World.holding Tryz.prog os ⟨#[.cells #[.string rangeS] 297, .cells #[.string syntaxS] 297], #[], []⟩
  { w0 with heap := ((((((w0.heap.modify 0 (put (Lib.pow10Tab.map (Value.int .u64)).toArray)).modify 4 (put (lits 3 Rows.laid_math_bits_deBruijn32tab).toArray)).modify 5 (put (lits 3 Rows.laid_math_bits_deBruijn64tab).toArray)).modify 9 (put (lits 3 Rows.laid_unicode_utf8_acceptRanges).toArray)).modify 8 (put (lits 3 Rows.laid_unicode_utf8_first).toArray)).modify 7 (put #[.iface 295 (.pointer (some ⟨low, 0, none⟩))])).modify 6 (put #[.iface 295 (.pointer (some ⟨low + 1, 0, none⟩))]) }
theorem laid_met (os : Os) : laidMet Tryz.prog Rows.showUnlikeRow.laid ((laidWorld os).forCall (fun _ _ => 0) ⟨#[], #[.string ByteArray.empty, .string ByteArray.empty], []⟩).memory :=
  laidMet_of_run' 8 (by kernel_rfl) (by kernel_rfl)
theorem reads (os : Os) {H : Type} (enc : TypeId × Value → H) : ∃ places, DataW.whole enc Tryz.prog ((laidWorld os).forCall (fun _ _ => 0) ⟨#[], #[.string ByteArray.empty, .string ByteArray.empty], []⟩).memory Tryz.f6.params.toList Rows.showUnlikeSpec.vars false #[(.string ByteArray.empty : Value), (.string ByteArray.empty : Value)].toList 8 = some ([.lit (.string []), .lit (.string [])], [], places) :=
  ⟨[], by kernel_rfl⟩
set_option maxRecDepth 100000 in
theorem lifted (os : Os) (started : os.Started) (H : Type) (enc : TypeId × Value → H) (F : Stop.Interp) :
    ReturnsInHanded {} Tryz.checked os 6 .any ((OpenSpec.ofChange Rows.showUnlikeSpec).preRow enc Tryz.prog Tryz.f6 Rows.showUnlikeRow.domain false Rows.showUnlikeRow.laid) (((OpenSpec.ofChange Rows.showUnlikeSpec).at F).post enc Tryz.prog Tryz.f6 false true false false) := by
  obtain ⟨places, hx⟩ := reads os enc
  refine returnsInHanded_of_row (C := Tryz.checked) (s := OpenSpec.ofChange Rows.showUnlikeSpec) own started (by kernel_rfl) Tryz.func6
    (witness_row_at (enc := enc) (C := Tryz.checked) false (laidWorld os) #[.string ByteArray.empty, .string ByteArray.empty] rfl (by kernel_rfl) (by kernel_rfl) (by kernel_rfl)
      (OpenSpec.preRow_of_cond 8 hx (by kernel_rfl) (fun k hk => by cases hk) (by kernel_rfl) (laid_met os))) ?_
  intro W base args ds gs before hval hW _ _ _ hL hsh _
  exact contract H enc W base args ds gs before hval hW hL hsh
theorem said : Rows.ShowUnlikeSaid :=
  OpenClaim.holds_of_cond 6 Tryz.f6 rfl rfl rfl rfl rfl rfl rfl ⟨rfl, rfl, rfl, rfl, rfl⟩ rfl rfl rfl rfl rfl (by kernel_rfl) Tryz.func6 (by kernel_rfl)
    (of_decide_eq_true (by kernel_rfl)) (by unfold Func.isWrapper; first | (rw [if_pos (by decide +kernel)]; kernel_rfl) | (rw [if_neg (by decide +kernel)]; exact ⟨rfl, rfl⟩))
    (fun os started H enc _ F => by rw [OpenClaim.pre_eq_preRow]; exact lifted os started H enc F)
theorem plain (f : FuncId) (fn : Func) (hf : Tryz.pinned.checked.prog.funcNamed "poundage/poundagelaw08.ShowUnlike" = some f) (hfn : Tryz.pinned.checked.prog.funcs[f]? = some fn) :
    true = Tryz.pinned.checked.prog.looks [] ∧ ∀ (j : Nat) t, fn.params[j]? = some t → Tryz.pinned.checked.prog.wantsStandIn t = false := by
  obtain rfl : f = 6 := Option.some.inj ((show Tryz.prog.funcNamed "poundage/poundagelaw08.ShowUnlike" = some 6 by kernel_rfl).symm.trans hf) |>.symm
  obtain rfl : fn = Tryz.f6 := (Option.some.inj (Tryz.func6.symm.trans hfn)).symm
  refine ⟨by kernel_rfl, fun j t ht => ?_⟩
  rw [Tryz.params6] at ht
  have hm := Array.mem_of_getElem? ht
  have hall : ∀ t ∈ (#[9, 9] : Array TypeId), Tryz.prog.wantsStandIn t = false := by
    intro t ht; simp at ht; subst ht; kernel_rfl
  exact hall t hm
theorem card : Rows.ShowUnlikeCardSaid :=
  Claim7.holds_tied_plain_at .later [] _ _ _ _ said (fun _ h => by cases h) (by kernel_rfl) (fun _ h => by cases h) showUnlike_row_tie rfl ⟨rfl, rfl⟩ (by kernel_rfl) rfl plain (by kernel_rfl)
#print axioms card
end Go.Proofs.YtcgkfgklggjmaaaGreatDoor.showUnlike
namespace Go.Proofs.YtcgkfgklggjmaaaGreatDoor
/-- The card, under a short name, for the claim. -/
theorem showUnlike_holds : Rows.ShowUnlikeCardSaid := showUnlike.card
end Go.Proofs.YtcgkfgklggjmaaaGreatDoor
