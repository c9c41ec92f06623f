import Derived.Test.YtcgkfgklggjmaaaGreatDoorGh
import Derived.Lib.Builder
import Derived.Lib.OthersKept
import Derived.Lib.AppendStr
import Derived.Shelf.Strings.BuilderK
section
namespace Go.Proofs.YtcgkfgklggjmaaaGreatDoor.Par
set_option linter.unusedVariables false
set_option linter.unusedSimpArgs false
open Go.RowKit
/-! a pen: a strings.Builder that lies in a struct -/
structure PK (gp : Nat) (w w' : World) : Prop where
  lb : Below gp w w'
  ok : Lib.OthersKept 5 (some gp) w w'
section
variable {gp : Nat} {w w' w'' : World}
theorem PK.refl (gp : Nat) (w : World) : PK gp w w := ⟨Below.refl _ _, Lib.OthersKept.refl _ _ _⟩
theorem PK.trans (h : PK gp w w') (k : PK gp w' w'') : PK gp w w'' := ⟨h.lb.trans k.lb, h.ok.trans k.ok⟩
theorem PK.call (h : PK gp w w') (hb : Below w'.heap.size w' w'') (hg : gp < w'.heap.size) : PK gp w w'' :=
  h.trans ⟨hb.mono (Nat.le_of_lt hg), fun k o hk _ _ => (hb.block k (Array.getElem?_eq_some_iff.1 hk).1).trans hk⟩
theorem PK.alloc (h : PK gp w w') (o : Obj) (hg : gp < w'.heap.size) : PK gp w (w'.alloc o) := h.call (bl_alloc (bl_refl _) o) hg
theorem PK.drew (h : PK gp w w') (hg : gp < w'.heap.size) : PK gp w w'.drew := h.call (bl_drew (bl_refl _)) hg
theorem PK.blk (h : PK gp w w') {g : Nat} {T : TypeId} {cs : Array Value} (hb : Blk w g T cs) (hT : T ≠ 5) (hg : g ≠ gp) : Blk w' g T cs :=
  h.ok g _ hb (fun e => hg (Option.some.inj e)) (fun c fz e => by injection e with _ e _; exact hT e)
theorem PK.row (h : PK gp w w') {B : Nat} {e : TypeId} {size n : Nat} {v : Value} {xs : List Value} (ho : w.ownsRow B e size v n xs) (hg : ∀ g, v.ownBlock = some g → g < gp) : w'.ownsRow B e size v n xs :=
  own_keep ho fun g hx => h.lb.block g (hg g hx)
end
def PenAt (w : World) (gp : Nat) (l : List UInt8) (deep : Int) : Prop :=
  ∃ a v, (a = .pointer none ∨ a = .pointer (some ⟨gp, 0, none⟩)) ∧ Blk w gp 90 #[a, v, .int .i64 deep] ∧ w.ownsRow (gp + 1) 5 1 v l.length (Lib.byteCells l)
theorem builder_info : ∃ j, Tryz.prog.info? 88 = some j ∧ j.size = 2 := by
  have h : (Tryz.prog.info? 88).map (fun i => i.size) = some 2 := by kernel_rfl
  exact Option.map_eq_some_iff.1 h
theorem pen_lies : liesAt Tryz.prog Tryz.prog.depth 90 (3 / Tryz.prog.cellsOf 90) 0 88 1 = true := by kernel_rfl
set_option maxHeartbeats 4000000 in
set_option maxRecDepth 100000 in
theorem cc_used (w : World) (gp : Nat) (h0 : w.cell? ⟨gp, 0, none⟩ = some (.pointer (some ⟨gp, 0, none⟩))) :
    Calls Tryz.prog 137 #[.pointer (some ⟨gp, 0, none⟩)] w fun e w' => e = .returned (.tuple #[]) ∧ w' = w := by
  obtain ⟨j, hj, hjs⟩ := builder_info
  have hq := Lib.run_neq_ptr_same (P := Tryz.prog) w ⟨gp, 0, none⟩ Tryz.underlying85 hj
  go_enter Tryz.func137, Tryz.ntmps137
  go_wp2
  go_end0
  exact ⟨rfl, rfl⟩
set_option maxHeartbeats 4000000 in
set_option maxRecDepth 100000 in
theorem cc_fresh (w : World) (gp : Nat) (v : Value) (deep : Int) (hb : Blk w gp 90 #[.pointer none, v, .int .i64 deep]) :
    Calls Tryz.prog 137 #[.pointer (some ⟨gp, 0, none⟩)] w fun e w' => e = .returned (.tuple #[]) ∧ w' = w.setCell ⟨gp, 0, none⟩ (.pointer (some ⟨gp, 0, none⟩)) := by
  obtain ⟨j, hj, hjs⟩ := builder_info
  obtain ⟨h0, h1, h2, f0, f1, f2⟩ := hb.c3
  have hsh : w.shape? gp = some (90, 3) := by simp [World.shape?, show w.heap[gp]? = _ from hb]
  have hq1 := Lib.run_to_unsafe (P := Tryz.prog) w ⟨gp, 0, none⟩ Tryz.underlying85 Tryz.underlying226 hj (by rw [hjs]; decide) hsh (show 0 < 3 by decide)
  have hq2 := Lib.run_from_unsafe (P := Tryz.prog) w ⟨gp, 0, none⟩ Tryz.underlying226 Tryz.underlying85 hj hsh pen_lies
  go_enter Tryz.func137, Tryz.ntmps137
  go_wp2
  rw [run_callFunc_extern Tryz.func183 (by kernel_rfl) (by kernel_rfl) (by kernel_rfl) (e := Extern.AbiNoEscape.same) (by kernel_rfl)]
  rw [Lib.run_noEscape]
  simp only [Result.andThen]
  rw [Oper.upon_value]
  go_wp2
  go_end0
  exact ⟨rfl, rfl⟩
end Go.Proofs.YtcgkfgklggjmaaaGreatDoor.Par
end
section
namespace Go.Proofs.YtcgkfgklggjmaaaGreatDoor.Par
set_option linter.unusedVariables false
set_option linter.unusedSimpArgs false
open Go.RowKit
theorem byteInfo : (Tryz.prog.info? 5).map (fun i => (i.zero, i.size, i.bytes)) = some (some (.int .u8 0), 1, 1) := by kernel_rfl
theorem PK.set {gp : Nat} {w w' : World} (h : PK gp w w') (i : Nat) (u : Value) : PK gp w (w'.setCell ⟨gp, i, none⟩ u) :=
  ⟨h.lb.setCell (p := ⟨gp, i, none⟩) (Nat.le_refl _) u, h.ok.setCell ⟨gp, i, none⟩ rfl u⟩
/-- copyCheck: behind it the builder knows its own address -/
theorem cc_any (w : World) (gp : Nat) (a v : Value) (deep : Int) (l : List UInt8) (ha : a = .pointer none ∨ a = .pointer (some ⟨gp, 0, none⟩)) (hb : Blk w gp 90 #[a, v, .int .i64 deep]) (ho : w.ownsRow (gp + 1) 5 1 v l.length (Lib.byteCells l)) :
    Calls Tryz.prog 137 #[.pointer (some ⟨gp, 0, none⟩)] w fun e w' => e = .returned (.tuple #[]) ∧ Blk w' gp 90 #[.pointer (some ⟨gp, 0, none⟩), v, .int .i64 deep] ∧ w'.ownsRow (gp + 1) 5 1 v l.length (Lib.byteCells l) ∧ PK gp w w' := by
  rcases ha with rfl | rfl
  · refine (cc_fresh w gp v deep hb).mono ?_
    rintro e w' ⟨rfl, rfl⟩
    exact ⟨rfl, hb.set_ 0 _, own_keep ho fun k hk => Below.heap_setCell w ⟨gp, 0, none⟩ _ k (by have := (ho.lt k hk).1; show k ≠ gp; omega), (PK.refl gp w).set 0 _⟩
  · refine (cc_used w gp (hb.cell 0)).mono ?_
    rintro e w' ⟨rfl, rfl⟩
    exact ⟨rfl, hb, ho, PK.refl gp _⟩
theorem own_kind {w : World} {B : Nat} {e : TypeId} {size n : Nat} {v : Value} {xs : List Value} (h : w.ownsRow B e size v n xs) : ∀ k, v.ownBlock = some k → ∃ c fz, w.heap[k]? = some (.cells c e fz) := by
  intro k hk
  rcases h.2 with ⟨rfl, rfl⟩ | ⟨g, cap, cur, rfl, _, hg, _⟩
  · cases hk
  · have : g = k := by injection hk
    subst this
    exact ⟨cur, (0, 0), hg⟩
set_option maxHeartbeats 8000000 in
set_option maxRecDepth 100000 in
theorem ws_any (w : World) (gp : Nat) (l : List UInt8) (deep : Int) (s : ByteArray) (h : PenAt w gp l deep) (hl : l.length + s.size ≤ 140737488355328) :
    Calls Tryz.prog 83 #[.pointer (some ⟨gp, 0, none⟩), .string s] w fun e w' => e = .returned (.tuple #[.int .i64 s.size, .nilIface]) ∧ PenAt w' gp (l ++ s.data.toList) deep ∧ PK gp w w' := by
  obtain ⟨a, v, ha, hb, ho⟩ := h
  have hcc := cc_any w gp a v deep l ha hb ho
  obtain ⟨i0, hi, hz⟩ := Option.map_eq_some_iff.1 byteInfo
  obtain ⟨hz0, hz1, hz2⟩ : i0.zero = some (.int .u8 0) ∧ i0.size = 1 ∧ i0.bytes = 1 := by
    simp only [Prod.mk.injEq] at hz; exact hz
  go_enter Tryz.func83, Tryz.ntmps83
  go_wp2_with fail
  refine hcc.mono ?_
  rintro e w1 ⟨rfl, hb1, ho1, hk1⟩
  obtain ⟨c0, c1, c2, f0, f1, f2⟩ := hb1.c3
  have hlt := hb1.lt
  go_wp2_with (at_builtin; refine Lib.wpList_append_own_string _ rfl _ _ 86 9 rfl (gp + 1) 5 i0 Tryz.underlying86 Tryz.underlying9 hi hz0 hz1 hz2 _ _ _ rfl ho1 s rfl ?c3 ?c4 ?c5 ?_)
  case c3 => unfold maxLen; omega
  case c4 => omega
  case c5 => omega
  intro v' w2 hown' hgrow _
  have hne : ∀ k, v.ownBlock = some k → gp < k := fun k hk => by have := (ho1.lt k hk).1; omega
  have hb2 : Blk w2 gp 90 #[.pointer (some ⟨gp, 0, none⟩), v, .int .i64 deep] := hb1.grown hgrow (fun e => by have := hne _ e.symm; omega)
  obtain ⟨d0, d1, d2, g0, g1, g2⟩ := hb2.c3
  obtain ⟨A, cap, rfl, _⟩ := own_form w2 hown'
  have hk2 : PK gp w w2 := ⟨hk1.lb.grown hgrow (Nat.le_of_lt hlt) (fun k hk => Nat.le_of_lt (hne k hk)), hk1.ok.grown hgrow (own_kind ho1)⟩
  have hk3 := hk2.set 1 (.slice A (l.length + s.size) cap)
  have hp3 : PenAt (w2.setCell ⟨gp, 1, none⟩ (.slice A (l.length + s.size) cap)) gp (l ++ s.data.toList) deep := by
    refine ⟨_, _, .inr rfl, hb2.set_ 1 _, ?_⟩
    have h := own_keep (w' := w2.setCell ⟨gp, 1, none⟩ (.slice A (l.length + s.size) cap)) hown' fun k hk => Below.heap_setCell w2 ⟨gp, 1, none⟩ _ k (by have := (hown'.lt k hk).1; show k ≠ gp; omega)
    rw [Lib.byteCells_append, List.length_append, show s.data.toList.length = s.size from by simp]
    exact h
  go_wp2
  go_ret2
  exact ⟨rfl, hp3, hk3⟩
end Go.Proofs.YtcgkfgklggjmaaaGreatDoor.Par
end
section
namespace Go.Proofs.YtcgkfgklggjmaaaGreatDoor.Par
set_option linter.unusedVariables false
set_option linter.unusedSimpArgs false
open Go.RowKit
theorem cellsByte : Tryz.prog.cellsOf 5 = 1 := by kernel_rfl
set_option maxHeartbeats 8000000 in
set_option maxRecDepth 100000 in
theorem bs_any (w : World) (gp : Nat) (l : List UInt8) (deep : Int) (h : PenAt w gp l deep) (h0 : l ≠ []) (hl : l.length ≤ 140737488355328) :
    Calls Tryz.prog 45 #[.pointer (some ⟨gp, 0, none⟩)] w fun e w' => e = .returned (.string ⟨l.toArray⟩) ∧ Below gp w w' := by
  obtain ⟨a, v, ha, hb, hown⟩ := h
  have hl0 : l.length ≠ 0 := by simpa using h0
  obtain ⟨g, cap, cur, rfl, hbg, hg, hnc, hcm, hcs, htake⟩ : ∃ g cap cur, v = .slice (some ⟨g, 0, none⟩) l.length cap ∧ gp + 1 ≤ g ∧ w.heap[g]? = some (.cells cur 5 (0, 0)) ∧ l.length ≤ cap ∧ cap ≤ maxLen ∧ cur.size = cap * 1 ∧ cur.toList.take (l.length * 1) = Lib.byteCells l := by
    rcases hown.2 with ⟨_, hz⟩ | ⟨g, cap, cur, hv, r⟩
    · exact absurd hz hl0
    · exact ⟨g, cap, cur, hv, r⟩
  have c1 : w.drew.cell? ⟨gp, 1, none⟩ = some (.slice (some ⟨g, 0, none⟩) l.length cap) := hb.drew.cell 1
  have hSD : (Builtin.unsafeSliceData_ #[86] 158 #[.slice (some ⟨g, 0, none⟩) l.length cap]).run Tryz.prog w.drew = .ok (.pointer (some ⟨g, 0, none⟩)) w.drew :=
    Lib.run_unsafeSliceData_row _ _ _ _ _ _ (by omega)
  have hUS : (Builtin.unsafeString_ #[158, 3] 9 #[.pointer (some ⟨g, 0, none⟩), .int .i64 l.length]).run Tryz.prog w.drew = .ok (.string ⟨l.toArray⟩) (w.drew.freeze ⟨g, 0, none⟩ l.length) := by
    refine Lib.run_unsafeString_row w.drew 158 3 9 5 Tryz.underlying158 cellsByte g cur.size (by have hg' : w.drew.heap[g]? = some (.cells cur 5 (0, 0)) := hg; simp [World.shape?, hg']) l h0 (by omega) (by unfold maxLen at hcm; omega) ?_
    intro j x hx
    have := hown.cells (g := g) rfl j (.int .u8 x.toNat) (by simp [Lib.byteCells, hx])
    exact this
  go_enter Tryz.func45, Tryz.ntmps45
  go_wp2
  go_region
  all_goals (go_wp2; go_ret; exact ⟨rfl, Lib.below_freeze (Below.drew (Below.refl gp w)) (p := ⟨g, 0, none⟩) (show gp ≤ g by omega) _⟩)
end Go.Proofs.YtcgkfgklggjmaaaGreatDoor.Par
end
section
namespace Go.Proofs.YtcgkfgklggjmaaaGreatDoor.Par
set_option linter.unusedVariables false
set_option linter.unusedSimpArgs false
open Go.RowKit
theorem PenAt.call {w w' : World} {gp : Nat} {l : List UInt8} {deep : Int} (h : PenAt w gp l deep) (hb : Below w.heap.size w w') : PenAt w' gp l deep := by
  obtain ⟨a, v, ha, hk, ho⟩ := h
  exact ⟨a, v, ha, hk.call hb, own_keep ho fun g hg => hb.block g (ho.lt g hg).2⟩
theorem PenAt.drew {w : World} {gp : Nat} {l : List UInt8} {deep : Int} (h : PenAt w gp l deep) : PenAt w.drew gp l deep := h.call (bl_drew (bl_refl _))
theorem PenAt.alloc {w : World} {gp : Nat} {l : List UInt8} {deep : Int} (h : PenAt w gp l deep) (o : Obj) : PenAt (w.alloc o) gp l deep := h.call (bl_alloc (bl_refl _) o)
theorem PenAt.lt {w : World} {gp : Nat} {l : List UInt8} {deep : Int} (h : PenAt w gp l deep) : gp < w.heap.size := by
  obtain ⟨a, v, ha, hk, ho⟩ := h
  exact hk.lt
theorem PenAt.deep_ {w : World} {gp : Nat} {l : List UInt8} {deep : Int} (h : PenAt w gp l deep) : w.cell? ⟨gp, 2, none⟩ = some (.int .i64 deep) ∧ w.frozen? ⟨gp, 2, none⟩ = false := by
  obtain ⟨a, v, ha, hk, ho⟩ := h
  exact ⟨hk.cell 2, hk.frozen 2⟩
theorem PenAt.to {w : World} {gp : Nat} {l : List UInt8} {deep : Int} (h : PenAt w gp l deep) (d : Int) : PenAt (w.setCell ⟨gp, 2, none⟩ (.int .i64 d)) gp l d ∧ PK gp w (w.setCell ⟨gp, 2, none⟩ (.int .i64 d)) := by
  obtain ⟨a, v, ha, hk, ho⟩ := h
  exact ⟨⟨a, v, ha, hk.set_ 2 _, own_keep ho fun k hg => Below.heap_setCell w ⟨gp, 2, none⟩ _ k (by have := (ho.lt k hg).1; show k ≠ gp; omega)⟩, (PK.refl gp w).set 2 _⟩
def tabsL (d : Nat) : List UInt8 := Lib.repeatL [9] d
def lineL (d : Nat) (xs : List ByteArray) : List UInt8 := tabsL d ++ Lib.join (xs.map (·.data.toList)) [32] ++ [10]
theorem tabs_len {d : Nat} (h : d ≤ 2) : (tabsL d).length ≤ 2 := by
  have : d = 0 ∨ d = 1 ∨ d = 2 := by omega
  rcases this with rfl | rfl | rfl <;> decide
theorem srep_any (d : Nat) (hd : d ≤ 2) (w : World) : Calls Tryz.prog 84 #[.string ⟨#[9]⟩, .int .i64 d] w (Says (tabsL d) 2 w) :=
  (Tryz.strings_Repeat ⟨#[9]⟩ d w (by omega) (by show 1 * d ≤ _; omega)).mono fun e w' h => says_of (tabs_len hd) h
theorem sjoin_any (sb c : Nat) (xs : List ByteArray) (w : World) (hc : ∀ j x, xs[j]? = some x → w.cell? ⟨sb, j, none⟩ = some (.string x)) (hsb : sb < w.heap.size) (hcap : xs.length ≤ c) (hn : xs.length ≤ 10) (m : Nat) (hm : (Lib.join (xs.map (·.data.toList)) [32]).length ≤ m) (hm2 : m ≤ 140737488355328) :
    Calls Tryz.prog 85 #[.slice (some ⟨sb, 0, none⟩) xs.length c, .string ⟨#[32]⟩] w (Says (Lib.join (xs.map (·.data.toList)) [32]) m w) :=
  (Tryz.strings_Join sb 0 c xs ⟨#[32]⟩ w (fun j x hj => by rw [Nat.zero_add]; exact hc j x hj) hsb (by omega) hcap (Nat.le_trans hm hm2)).mono fun e w' h => says_of hm h
set_option maxHeartbeats 8000000 in
set_option maxRecDepth 100000 in
theorem line_any (w : World) (gp : Nat) (l : List UInt8) (d : Nat) (hd : d ≤ 2) (sb c : Nat) (xs : List ByteArray) (h : PenAt w gp l (d : Int)) (hc : ∀ j x, xs[j]? = some x → w.cell? ⟨sb, j, none⟩ = some (.string x)) (hsb : sb < w.heap.size) (hcap : xs.length ≤ c) (hn : xs.length ≤ 10)
    (hm : (Lib.join (xs.map (·.data.toList)) [32]).length ≤ 1000000) (hl : l.length ≤ 100000000000) :
    Calls Tryz.prog 40 #[.pointer (some ⟨gp, 0, none⟩), .slice (some ⟨sb, 0, none⟩) xs.length c] w fun e w' => e = .returned (.tuple #[]) ∧ PenAt w' gp (l ++ lineL d xs) (d : Int) ∧ PK gp w w' := by
  have h0 := h.drew
  have hsb0 : sb < w.drew.heap.size := hsb
  have hc0 : ∀ j x, xs[j]? = some x → w.drew.cell? ⟨sb, j, none⟩ = some (.string x) := hc
  have hlt := h0.lt
  obtain ⟨x2, _⟩ := h0.deep_
  have e10 : (⟨#[10]⟩ : ByteArray).size = 1 := rfl
  go_enter Tryz.func40, Tryz.ntmps40
  go_wp2_with fail
  go_region_held3 (fun w' => w'.cell? ⟨gp, 2, none⟩ = some (.int .i64 d))
    (with_reducible assumption)
    ((first | (go_at_call 84; (with_reducible refine (srep_any d hd _).mono ?_); rintro e' w6 ⟨s1, rfl, hs1, hz1, hb6⟩; (have h6 := h0.call hb6); (have y2 := h6.deep_.1)) | (go_at_call 85; (with_reducible refine (sjoin_any sb c xs _ (fun j x hj => (hb6.cell (World.block_lt_of_cell? _ _ (hc0 j x hj))).trans (hc0 j x hj)) (by have := hb6.size; omega) hcap hn 1000000 hm (by decide)).mono ?_); rintro e' w7 ⟨s2, rfl, hs2, hz2, hb7⟩; (have t1 : ¬ (9223372036854775807 < s1.size + s2.size) := by omega); (have t2 : ¬ (9223372036854775807 < s1.size + s2.size + 1) := by omega); (have h7 := h6.call hb7); (have z2 := h7.deep_.1)) | (go_at_call 83; (with_reducible refine (ws_any _ gp l d _ h7 (by rw [ByteArray.size_append, ByteArray.size_append, e10]; omega)).mono ?_); rintro e' w8 ⟨rfl, h8, hk8⟩; (have u2 := h8.deep_.1))))
  all_goals go_wp2_with fail
  all_goals go_end0
  all_goals refine ⟨rfl, ?_, ((((PK.refl gp w).drew (show gp < w.heap.size from hlt)).call hb6 hlt).call hb7 h6.lt).trans hk8⟩
  all_goals (have e1 : l ++ (s1 ++ s2 ++ ⟨#[10]⟩ : ByteArray).data.toList = l ++ lineL d xs := by rw [ba_app, ba_app, hs1, hs2]; rfl)
  all_goals (rw [← e1]; exact h8)
end Go.Proofs.YtcgkfgklggjmaaaGreatDoor.Par
end
