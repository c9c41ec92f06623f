/-
A later day has a greater number, and a greater text, and the day behind one is one more: for all pairs of days, raw ones too.
-/
import Derived.Test.YtaccanfjplgfnaaDoorCards
import Derived.Test.YtaccanfjplgfnaaDoorTie
import Derived.Test.YtaccanfjplgfnaaDoorDateX
import Derived.WalkKit
import Derived.ProofKit
import Derived.OpenShut
import Derived.ShutString
import Derived.Deep.DeepHandedRow
import Derived.Lib.LaidTab
import Derived.Lib.SmallJoins
import Derived.Stop.LaidErr
namespace Go.Proofs.YtaccanfjplgfnaaDoor.dateOrder
open Go.ChangeShapes Go.WideShapes Go.ChangeAt Go.RowKit Go.Joins
open Go.ChangeMaps (open_string shut_string)
set_option linter.unusedVariables false
set_option linter.unusedSimpArgs false
theorem own : ownKnob Tryd.prog.godebug = none := by kernel_rfl
theorem gTabType : (Tryd.prog.globals[0]?).map (·.type) = some 77 := by kernel_rfl
theorem table {W : World} (h : laidMetH Tryd.prog Rows.dateOrderRow.laid W) : GT W :=
  Lib.tabIs_of_head (rest := []) gT gTabType Tryd.underlying77 Tryd.underlying63 (by kernel_rfl) (by kernel_rfl) (laidMet.tail (laidMet.tail h))
theorem dateReads {H : Type} {enc : TypeId × Value → H} (W' : World) (b : Nat) (sp : Nat → Bool) (hd : Bool) (x y z : Int) (wx : (Lit.int .i64 x).wf = true) (wy : (Lit.int .i64 y).wf = true) (wz : (Lit.int .i64 z).wf = true) :
    DataW.Trod enc Tryd.prog W' b sp hd 23 (.agg #[.int .i64 x, .int .i64 y, .int .i64 z]) (.agg [.lit (.int .i64 x), .lit (.int .i64 y), .lit (.int .i64 z)]) [] := by
  simpa using shut_agg3 (enc := enc) (w := W') (base := b) (spare := sp) (held := hd) (y0 := (.lit (.int .i64 x), [])) (y1 := (.lit (.int .i64 y), [])) (y2 := (.lit (.int .i64 z), [])) Tryd.underlying23 (by kernel_rfl) (by kernel_rfl) ⟨1, by simp [DataW.trod, Tryd.underlying3, wx]⟩ ⟨1, by simp [DataW.trod, Tryd.underlying3, wy]⟩ ⟨1, by simp [DataW.trod, Tryd.underlying3, wz]⟩
theorem contract (H : Type) (enc : TypeId × Value → H) (W : World) (base : Nat) (args : Array Value) (ds gs : List (DataW H)) (before : List MemPlace)
    (hval : ∀ (j : Nat) t v, Tryd.f4.params[j]? = some t → args[j]? = some v → Value.okWide Tryd.prog W .any base t v)
    (hW : DataW.Whole enc Tryd.prog Tryd.f4.params.toList Rows.dateOrderSpec.vars false W args.toList ds gs before) (hL : laidMetH Tryd.prog Rows.dateOrderRow.laid W) :
    Calls Tryd.prog 4 args W fun e W' => ∃ v, e = .returned v ∧ Rows.dateOrderSpec.post enc Tryd.prog Tryd.f4 false true false false W args v W' := by
  have hW' := hW
  obtain ⟨p, q, hA0, hV, rfl, hfz, hnd⟩ := hW
  have hA : DataW.TrodAll enc Tryd.prog W 0 (fun _ => true) true Tryd.f4.params.toList args.toList ds p := hA0
  rw [Tryd.params4] at hA hval
  obtain ⟨v0, vs0, d0, ds0, p0, q0, hargs, rfl, rfl, h0, r0⟩ := trodAll_cons hA
  obtain ⟨v1, vs1, d1, ds1, p1, q1, rfl, rfl, rfl, h1, r1⟩ := trodAll_cons r0
  obtain ⟨rfl, rfl, rfl⟩ := trodAll_nil r1
  obtain rfl : args = #[v0, v1] := by cases args; simp_all
  obtain ⟨rfl, rfl⟩ := trodVars_none hV
  obtain ⟨c0, c1, c2, y0, y1, y2, m0, rfl, rfl, rfl, hy0, hy1, hy2⟩ := open_agg3 Tryd.underlying23 (by kernel_rfl) (by kernel_rfl) (hval 0 23 v0 rfl rfl) h0
  obtain ⟨a0y, e0, rfl, w0y⟩ := DataW.trod_int Tryd.underlying3 hy0
  obtain ⟨a0m, e1, rfl, w0m⟩ := DataW.trod_int Tryd.underlying3 hy1
  obtain ⟨a0d, e2, rfl, w0d⟩ := DataW.trod_int Tryd.underlying3 hy2
  simp at e0 e1 e2
  subst e0 e1 e2
  obtain ⟨c0, c1, c2, y0, y1, y2, m1, rfl, rfl, rfl, hy0, hy1, hy2⟩ := open_agg3 Tryd.underlying23 (by kernel_rfl) (by kernel_rfl) (hval 1 23 v1 rfl rfl) h1
  obtain ⟨a1y, e0, rfl, w1y⟩ := DataW.trod_int Tryd.underlying3 hy0
  obtain ⟨a1m, e1, rfl, w1m⟩ := DataW.trod_int Tryd.underlying3 hy1
  obtain ⟨a1d, e2, rfl, w1d⟩ := DataW.trod_int Tryd.underlying3 hy2
  simp at e0 e1 e2
  subst e0 e1 e2
  clear hA0
  simp only [List.append_nil] at hW'
  have hT : GT W := table hL
  refine (dateOrder_any a0y a0m a0d a1y a1m a1d W hT).mono fun e W' ⟨he, hg⟩ => ?_
  subst he
  exact ⟨_, rfl, _, _, _, [], _, [], hW', trodAll_mk1 (shut_bool Tryd.underlying4 _), (trodAll_cons_mk (dateReads _ _ _ _ a0y a0m a0d w0y w0m w0d) (trodAll_cons_mk (dateReads _ _ _ _ a1y a1m a1d w1y w1m w1d) trodAll_mk0)), rfl, hg.frame _, fun h => by cases h⟩
def put (xs : Array Value) : Obj → Obj
  | .cells _ t frozen => .cells xs t frozen
  | o => o
noncomputable def laidWorld (os : Os) : World :=
  { World.holding Tryd.prog os ⟨#[], #[], []⟩ with heap := (((World.holding Tryd.prog os ⟨#[], #[], []⟩).heap.modify 0 (put (Lib.pow10Tab.map (Value.int .u64)).toArray)).modify 2 (put (([0, 1, 28, 2, 29, 14, 24, 3, 30, 22, 20, 15, 25, 17, 4, 8, 31, 27, 13, 23, 21, 19, 16, 7, 26, 12, 18, 6, 11, 5, 10, 9] : List Int).map (Value.int .u8)).toArray)).modify 3 (put (([0, 1, 56, 2, 57, 49, 28, 3, 61, 58, 42, 50, 38, 29, 17, 4, 62, 47, 59, 36, 45, 43, 51, 22, 53, 39, 33, 30, 24, 18, 12, 5, 63, 55, 48, 27, 60, 41, 37, 16, 46, 35, 44, 21, 52, 32, 23, 11, 54, 26, 40, 15, 34, 20, 31, 10, 25, 14, 19, 9, 13, 8, 7, 6] : List Int).map (Value.int .u8)).toArray) }
theorem laid_met (os : Os) : laidMet Tryd.prog Rows.dateOrderRow.laid ((laidWorld os).forCall (fun _ _ => 0) ⟨#[], #[.agg #[.int .i64 0, .int .i64 0, .int .i64 0], .agg #[.int .i64 0, .int .i64 0, .int .i64 0]], []⟩).memory :=
  laidMet_of_run' 8 (by kernel_rfl) (by kernel_rfl)
theorem reads (os : Os) {H : Type} (enc : TypeId × Value → H) : ∃ places, DataW.whole enc Tryd.prog ((laidWorld os).forCall (fun _ _ => 0) ⟨#[], #[.agg #[.int .i64 0, .int .i64 0, .int .i64 0], .agg #[.int .i64 0, .int .i64 0, .int .i64 0]], []⟩).memory Tryd.f4.params.toList Rows.dateOrderSpec.vars false #[(.agg #[.int .i64 0, .int .i64 0, .int .i64 0] : Value), (.agg #[.int .i64 0, .int .i64 0, .int .i64 0] : Value)].toList 8 = some ([.agg [.lit (.int .i64 0), .lit (.int .i64 0), .lit (.int .i64 0)], .agg [.lit (.int .i64 0), .lit (.int .i64 0), .lit (.int .i64 0)]], [], places) :=
  ⟨[], by kernel_rfl⟩
set_option maxRecDepth 100000 in
theorem lifted (os : Os) (started : os.Started) (H : Type) (enc : TypeId × Value → H) (F : Stop.Interp) :
    ReturnsInHanded {} Tryd.checked os 4 .any ((OpenSpec.ofChange Rows.dateOrderSpec).preRow enc Tryd.prog Tryd.f4 Rows.dateOrderRow.domain false Rows.dateOrderRow.laid) (((OpenSpec.ofChange Rows.dateOrderSpec).at F).post enc Tryd.prog Tryd.f4 false true false false) := by
  obtain ⟨places, hx⟩ := reads os enc
  refine returnsInHanded_of_row (C := Tryd.checked) (s := OpenSpec.ofChange Rows.dateOrderSpec) own started (by kernel_rfl) Tryd.func4
    (witness_row_at (enc := enc) (C := Tryd.checked) false (laidWorld os) #[.agg #[.int .i64 0, .int .i64 0, .int .i64 0], .agg #[.int .i64 0, .int .i64 0, .int .i64 0]] rfl (by kernel_rfl) (by kernel_rfl) (by kernel_rfl)
      (OpenSpec.preRow_of_cond 8 hx (by kernel_rfl) (fun k hk => by cases hk) (by kernel_rfl) (laid_met os))) ?_
  intro W base args ds gs before hval hW _ _ _ hL _ _
  exact contract H enc W base args ds gs before hval hW hL
theorem said : Rows.DateOrderSaid :=
  OpenClaim.holds_of_cond 4 Tryd.f4 rfl rfl rfl rfl rfl rfl rfl ⟨rfl, rfl, rfl, rfl, rfl⟩ rfl rfl rfl rfl rfl (by kernel_rfl) Tryd.func4 (by kernel_rfl)
    (of_decide_eq_true (by kernel_rfl)) (by unfold Func.isWrapper; first | (rw [if_pos (by decide +kernel)]; kernel_rfl) | (rw [if_neg (by decide +kernel)]; exact ⟨rfl, rfl⟩))
    (fun os started H enc _ F => by rw [OpenClaim.pre_eq_preRow]; exact lifted os started H enc F)
theorem plain (f : FuncId) (fn : Func) (hf : Tryd.pinned.checked.prog.funcNamed "poundage/poundagelaw03.DateOrder" = some f) (hfn : Tryd.pinned.checked.prog.funcs[f]? = some fn) :
    false = Tryd.pinned.checked.prog.looks [] ∧ ∀ (j : Nat) t, fn.params[j]? = some t → Tryd.pinned.checked.prog.wantsStandIn t = false := by
  obtain rfl : f = 4 := Option.some.inj ((show Tryd.prog.funcNamed "poundage/poundagelaw03.DateOrder" = some 4 by kernel_rfl).symm.trans hf) |>.symm
  obtain rfl : fn = Tryd.f4 := (Option.some.inj (Tryd.func4.symm.trans hfn)).symm
  refine ⟨by kernel_rfl, fun j t ht => ?_⟩
  rw [Tryd.params4] at ht
  have hm := Array.mem_of_getElem? ht
  have hall : ∀ t ∈ (#[23, 23] : Array TypeId), Tryd.prog.wantsStandIn t = false := by
    intro t ht; simp at ht; subst ht; kernel_rfl
  exact hall t hm
theorem card : Rows.DateOrderCardSaid :=
  Claim7.holds_tied_plain_at .later [] _ _ _ _ said (fun _ h => by cases h) (by kernel_rfl) (fun _ h => by cases h) dateOrder_row_tie rfl ⟨rfl, rfl⟩ (by kernel_rfl) rfl plain (by kernel_rfl)
#print axioms card
end Go.Proofs.YtaccanfjplgfnaaDoor.dateOrder
namespace Go.Proofs.YtaccanfjplgfnaaDoor
/-- The card, under a short name, for the claim. -/
theorem dateOrder_holds : Rows.DateOrderCardSaid := dateOrder.card
end Go.Proofs.YtaccanfjplgfnaaDoor
