/-
A plan's text of at most 4096 bytes, cut behind any of its tokens (these put one behind the other, with blanks between), is the beginning of a plan where an item has just ended behind the plan's two lines, and else no plan, told at its end; of texts that are no plans, and of places that no token has, the statement says nothing.
-/
import Derived.Test.YtcgkfgklggjmaaaDoorCards
import Derived.Test.YtcgkfgklggjmaaaDoorTie
import Derived.Test.YtcgkfgklggjmaaaDoorGj
import Derived.WalkKit
import Derived.ProofKit
import Derived.OpenShut
import Derived.ShutString
import Derived.Deep.DeepHandedRow
import Derived.Lib.LaidTab
import Derived.Lib.SmallJoins
import Derived.Stop.LaidErr
namespace Go.Proofs.YtcgkfgklggjmaaaDoor.parseCuts
open Go.ChangeShapes Go.WideShapes Go.ChangeAt Go.RowKit Go.Joins
open Go.ChangeMaps (open_string shut_string)
set_option linter.unusedVariables false
set_option linter.unusedSimpArgs false
theorem le_of_wf {x : Int} (h : (Lit.int .i64 x).wf = true) : x ≤ 9223372036854775807 := by
  simp [Lit.wf] at h
  exact h.2
theorem own : ownKnob Tryd.prog.godebug = none := by kernel_rfl
theorem gTabType : (Tryd.prog.globals[2]?).map (·.type) = some 197 := by kernel_rfl
theorem errType : (Tryd.prog.globals[7]?).map (·.type) = some 132 := by kernel_rfl
theorem errGlob : Tryd.prog.globalNamed "strconv.ErrRange" = some 7 := by kernel_rfl
theorem star : "*" ++ "errors.errorString" = "*errors.errorString" := by decide
theorem errRow (u : TypeId) (h : Tryd.prog.typeName? 3 u = some "*errors.errorString") : u = 234 :=
  typeName_ptr_named (nm := "errors.errorString") (by rw [star]; kernel_rfl) (by kernel_rfl) (by decide) u (by rw [star]; exact h)
set_option maxRecDepth 100000 in
theorem table {W : World} (h : laidMetH Tryd.prog Rows.parseCutsRow.laid W) (hsh : W.ShapedOpen Tryd.prog) : Dec.DT W := by
  refine ⟨Lib.tabIs_of_head Dec.gT gTabType Tryd.underlying197 Tryd.underlying151 (by kernel_rfl) (by kernel_rfl) (laidMet.tail (laidMet.tail h)), ?_, ?_⟩
  · exact Tryd.laysM145.s1_3 W hsh
  · have h4 : laidMet Tryd.prog (("strconv.ErrRange", .iface "*errors.errorString" (.ptr (.agg [.lit (.string [118, 97, 108, 117, 101, 32, 111, 117, 116, 32, 111, 102, 32, 114, 97, 110, 103, 101])]))) :: [("strconv.ErrSyntax", Rows.laid_strconv_ErrSyntax)]) W := laidMet.tail (laidMet.tail (laidMet.tail h))
    obtain ⟨a, s, hv, _⟩ := laid_sentinel h4 errGlob errType Tryd.underlying132 errRow Tryd.underlying234 Tryd.underlying236 rfl rfl Tryd.underlying9 (by kernel_rfl) (by kernel_rfl)
    exact ⟨_, by simpa using World.var?_cell errGlob hv 0, .inr ⟨_, _, rfl⟩⟩
set_option maxRecDepth 100000 in
theorem contract (H : Type) (enc : TypeId × Value → H) (W : World) (base : Nat) (args : Array Value) (ds gs : List (DataW H)) (before : List MemPlace)
    (hval : ∀ (j : Nat) t v, Tryd.f8.params[j]? = some t → args[j]? = some v → Value.okWide Tryd.prog W .any base t v)
    (hW : DataW.Whole enc Tryd.prog Tryd.f8.params.toList Rows.parseCutsSpec.vars false W args.toList ds gs before) (hL : laidMetH Tryd.prog Rows.parseCutsRow.laid W) (hsh : W.ShapedOpen Tryd.prog) :
    Calls Tryd.prog 8 args W fun e W' => ∃ v, e = .returned v ∧ Rows.parseCutsSpec.post enc Tryd.prog Tryd.f8 false true false false W args v W' := by
  have hW' := hW
  obtain ⟨p, q, hA0, hV, rfl, hfz, hnd⟩ := hW
  have hA : DataW.TrodAll enc Tryd.prog W 0 (fun _ => true) true Tryd.f8.params.toList args.toList ds p := hA0
  rw [Tryd.params8] at hA hval
  obtain ⟨v0, vs0, d0, ds0, p0, q0, hargs, rfl, rfl, h0, r0⟩ := trodAll_cons hA
  obtain ⟨v1, vs1, d1, ds1, p1, q1, rfl, rfl, rfl, h1, r1⟩ := trodAll_cons r0
  obtain ⟨rfl, rfl, rfl⟩ := trodAll_nil r1
  obtain rfl : args = #[v0, v1] := by cases args; simp_all
  obtain ⟨rfl, rfl⟩ := trodVars_none hV
  obtain ⟨a0, rfl, rfl, rfl, w0⟩ := open_string Tryd.underlying9 (hval 0 9 v0 rfl rfl) h0
  obtain ⟨a1, rfl, rfl, rfl, w1⟩ := open_int Tryd.underlying3 (hval 1 3 v1 rfl rfl) h1
  clear hA0
  simp only [List.append_nil] at hW'
  have hT : Dec.DT W := table hL hsh
  refine (Par.cuts_any a0 a1 W hT w0).mono fun e W' ⟨he, hg⟩ => ?_
  subst he
  exact ⟨_, rfl, _, _, _, [], _, [], hW', trodAll_mk1 (shut_bool Tryd.underlying4 _), (trodAll_cons_mk (shut_string Tryd.underlying9 w0) (trodAll_cons_mk (shut_int Tryd.underlying3 w1) trodAll_mk0)), rfl, hg.frame _, fun h => by cases h⟩
def put (xs : Array Value) : Obj → Obj
  | .cells _ t frozen => .cells xs t frozen
  | o => o
def lits : Nat → DataW Unit → List Value
  | 0, _ => []
  | n + 1, .agg l => (l.map (lits n)).flatten
  | _ + 1, .lit (.int k i) => [.int k i]
  | _ + 1, _ => []
noncomputable def low : Nat := (World.holding Tryd.prog default ⟨#[], #[], []⟩).heap.size
def rangeS : ByteArray := ⟨#[118, 97, 108, 117, 101, 32, 111, 117, 116, 32, 111, 102, 32, 114, 97, 110, 103, 101]⟩
def syntaxS : ByteArray := ⟨#[105, 110, 118, 97, 108, 105, 100, 32, 115, 121, 110, 116, 97, 120]⟩
noncomputable def laidWorld (os : Os) : World :=
  let w0 := World.holding Tryd.prog os ⟨#[.cells #[.string rangeS] 236, .cells #[.string syntaxS] 236], #[], []⟩
  { w0 with heap := ((((w0.heap.modify 2 (put (Lib.pow10Tab.map (Value.int .u64)).toArray)).modify 4 (put (([0, 1, 28, 2, 29, 14, 24, 3, 30, 22, 20, 15, 25, 17, 4, 8, 31, 27, 13, 23, 21, 19, 16, 7, 26, 12, 18, 6, 11, 5, 10, 9] : List Int).map (Value.int .u8)).toArray)).modify 5 (put (([0, 1, 56, 2, 57, 49, 28, 3, 61, 58, 42, 50, 38, 29, 17, 4, 62, 47, 59, 36, 45, 43, 51, 22, 53, 39, 33, 30, 24, 18, 12, 5, 63, 55, 48, 27, 60, 41, 37, 16, 46, 35, 44, 21, 52, 32, 23, 11, 54, 26, 40, 15, 34, 20, 31, 10, 25, 14, 19, 9, 13, 8, 7, 6] : List Int).map (Value.int .u8)).toArray)).modify 7 (put #[.iface 234 (.pointer (some ⟨low, 0, none⟩))])).modify 6 (put #[.iface 234 (.pointer (some ⟨low + 1, 0, none⟩))]) }
theorem laid_met (os : Os) : laidMet Tryd.prog Rows.parseCutsRow.laid ((laidWorld os).forCall (fun _ _ => 0) ⟨#[], #[.string ByteArray.empty, .int .i64 0], []⟩).memory :=
  laidMet_of_run' 8 (by kernel_rfl) (by kernel_rfl)
theorem reads (os : Os) {H : Type} (enc : TypeId × Value → H) : ∃ places, DataW.whole enc Tryd.prog ((laidWorld os).forCall (fun _ _ => 0) ⟨#[], #[.string ByteArray.empty, .int .i64 0], []⟩).memory Tryd.f8.params.toList Rows.parseCutsSpec.vars false #[(.string ByteArray.empty : Value), (.int .i64 0 : Value)].toList 8 = some ([.lit (.string []), .lit (.int .i64 0)], [], places) :=
  ⟨[], by kernel_rfl⟩
set_option maxRecDepth 100000 in
theorem lifted (os : Os) (started : os.Started) (H : Type) (enc : TypeId × Value → H) (F : Stop.Interp) :
    ReturnsInHanded {} Tryd.checked os 8 .any ((OpenSpec.ofChange Rows.parseCutsSpec).preRow enc Tryd.prog Tryd.f8 Rows.parseCutsRow.domain false Rows.parseCutsRow.laid) (((OpenSpec.ofChange Rows.parseCutsSpec).at F).post enc Tryd.prog Tryd.f8 false true false false) := by
  obtain ⟨places, hx⟩ := reads os enc
  refine returnsInHanded_of_row (C := Tryd.checked) (s := OpenSpec.ofChange Rows.parseCutsSpec) own started (by kernel_rfl) Tryd.func8
    (witness_row_at (enc := enc) (C := Tryd.checked) false (laidWorld os) #[.string ByteArray.empty, .int .i64 0] rfl (by kernel_rfl) (by kernel_rfl) (by kernel_rfl)
      (OpenSpec.preRow_of_cond 8 hx (by kernel_rfl) (fun k hk => by cases hk) (by kernel_rfl) (laid_met os))) ?_
  intro W base args ds gs before hval hW _ _ _ hL hsh _
  exact contract H enc W base args ds gs before hval hW hL hsh
theorem said : Rows.ParseCutsSaid :=
  OpenClaim.holds_of_cond 8 Tryd.f8 rfl rfl rfl rfl rfl rfl rfl ⟨rfl, rfl, rfl, rfl, rfl⟩ rfl rfl rfl rfl rfl (by kernel_rfl) Tryd.func8 (by kernel_rfl)
    (of_decide_eq_true (by kernel_rfl)) (by unfold Func.isWrapper; first | (rw [if_pos (by decide +kernel)]; kernel_rfl) | (rw [if_neg (by decide +kernel)]; exact ⟨rfl, rfl⟩))
    (fun os started H enc _ F => by rw [OpenClaim.pre_eq_preRow]; exact lifted os started H enc F)
theorem plain (f : FuncId) (fn : Func) (hf : Tryd.pinned.checked.prog.funcNamed "poundage/poundagelaw07.ParseCuts" = some f) (hfn : Tryd.pinned.checked.prog.funcs[f]? = some fn) :
    true = Tryd.pinned.checked.prog.looks [] ∧ ∀ (j : Nat) t, fn.params[j]? = some t → Tryd.pinned.checked.prog.wantsStandIn t = false := by
  obtain rfl : f = 8 := Option.some.inj ((show Tryd.prog.funcNamed "poundage/poundagelaw07.ParseCuts" = some 8 by kernel_rfl).symm.trans hf) |>.symm
  obtain rfl : fn = Tryd.f8 := (Option.some.inj (Tryd.func8.symm.trans hfn)).symm
  refine ⟨by kernel_rfl, fun j t ht => ?_⟩
  rw [Tryd.params8] at ht
  have hm := Array.mem_of_getElem? ht
  have hall : ∀ t ∈ (#[9, 3] : Array TypeId), Tryd.prog.wantsStandIn t = false := by
    intro t ht; simp at ht; rcases ht with rfl | rfl <;> kernel_rfl
  exact hall t hm
theorem card : Rows.ParseCutsCardSaid :=
  Claim7.holds_tied_plain_at .later [] _ _ _ _ said (fun _ h => by cases h) (by kernel_rfl) (fun _ h => by cases h) parseCuts_row_tie rfl ⟨rfl, rfl⟩ (by kernel_rfl) rfl plain (by kernel_rfl)
#print axioms card
end Go.Proofs.YtcgkfgklggjmaaaDoor.parseCuts
namespace Go.Proofs.YtcgkfgklggjmaaaDoor
/-- The card, under a short name, for the claim. -/
theorem parseCuts_holds : Rows.ParseCutsCardSaid := parseCuts.card
end Go.Proofs.YtcgkfgklggjmaaaDoor
