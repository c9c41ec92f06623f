import Derived.Test.YtcgkfgklggjmaaaDoorGa
import Derived.Test.YtcgkfgklggjmaaaDoorProg
import Derived.WalkKit
import Derived.Deep.QuietTactic
import Derived.BigQuiet
import Derived.WalkSpells
import Derived.Outline
import Derived.Lib.Hide
import Derived.Deep.LoopGhost
import Derived.Deep.DeepFit
import Derived.Lib.OthersKept
import Derived.Lib.Strings
import Derived.Deep.RegionWith
import Derived.Deep.RegionHeld3
import Derived.OwnWalk
import Derived.Laws.OwnMore
import Derived.Laws.ResultCell
import Derived.Laws.Rows
import Derived.Laws.StructEq
import Derived.Deep.AppendLies
import Derived.Deep.Draws
import Derived.Lib.ConvBytes
import Derived.Test.YtcgkfgklggjmaaaDoorShelf
section
namespace Go.Proofs.YtcgkfgklggjmaaaDoor
set_option linter.unusedVariables false
set_option linter.unusedSimpArgs false
open Go.RowKit
theorem ret_int {k : IntKind} {a b : Int} (h : a = b) : Ending.returned (.int k a) = .returned (.int k b) := by rw [h]
theorem ret_bool {a b : Bool} (h : a = b) : Ending.returned (.bool a) = .returned (.bool b) := by rw [h]
theorem ret_val {a b : Value} (h : a = b) : Ending.returned a = .returned b := by rw [h]
/-! what lay there stays: steps of a walk -/
theorem bl_refl (w : World) : Below w.heap.size w w := Below.refl _ _
theorem bl_call {w v w' : World} (h : Below w.heap.size w v) (hb : Below v.heap.size v w') : Below w.heap.size w w' := h.trans (hb.mono h.size)
theorem bl_alloc {w v : World} (h : Below w.heap.size w v) (o : Obj) : Below w.heap.size w (v.alloc o) := h.alloc h.size o
theorem bl_drewN {w v : World} (h : Below w.heap.size w v) (n : Nat) : Below w.heap.size w (v.drewN n) := ⟨h.os, h.tape, h.output, h.size, h.block⟩
theorem bl_drew {w v : World} (h : Below w.heap.size w v) : Below w.heap.size w v.drew := ⟨h.os, h.tape, h.output, h.size, h.block⟩
theorem bl_set {w v : World} (h : Below w.heap.size w v) {p : Addr} (hp : w.heap.size ≤ p.block) (u : Value) : Below w.heap.size w (v.setCell p u) := h.setCell hp u
theorem below_drewN {B : Nat} {a w : World} (h : Below B a w) (n : Nat) : Below B a (w.drewN n) := ⟨h.os, h.tape, h.output, h.size, h.block⟩
theorem below_drew1 {B : Nat} {a w : World} (h : Below B a w) : Below B a w.drew := ⟨h.os, h.tape, h.output, h.size, h.block⟩
/-! calls in a region that draws -/
theorem quiet_left {P : Program} {f : FuncId} {args : Array Value} {w : World} {n : Nat} {v : Value}
    (h : Calls P f args (w.drewN n) fun e w' => e = .returned v ∧ w.drewN n = w') : Calls P f args (w.drewN n) fun e w'' => e = .returned v ∧ ∃ m, w'' = w.drewN m :=
  h.mono fun _ _ ⟨he, hm⟩ => ⟨he, n, hm.symm⟩
theorem quiet_add_left {P : Program} {f : FuncId} {args : Array Value} {w : World} {a n : Nat} {v : Value}
    (h : Calls P f args (w.drewN (a + n)) fun e w' => e = .returned v ∧ w.drewN (a + n) = w') :
    Calls P f args (w.drewN (a + n)) fun e w'' => e = .returned v ∧ ∃ m, w'' = w.drewN (a + m) :=
  h.mono fun _ _ ⟨he, hm⟩ => ⟨he, n, hm.symm⟩
theorem quiet_add {P : Program} {f : FuncId} {args : Array Value} {w : World} {a n : Nat} {v : Value}
    (h : Calls P f args (w.drewN (a + n)) fun e w' => e = .returned v ∧ ∃ m, w' = (w.drewN (a + n)).drewN m) :
    Calls P f args (w.drewN (a + n)) fun e w'' => e = .returned v ∧ ∃ m, w'' = w.drewN (a + m) :=
  h.mono fun _ _ ⟨he, m, hm⟩ => ⟨he, n + m, by rw [hm, World.drewN_drewN, Nat.add_assoc]⟩
/-! a block that is known whole -/
def Blk (w : World) (g : Nat) (t : TypeId) (cs : Array Value) : Prop := w.heap[g]? = some (.cells cs t (0, 0))
section
variable {w w' : World} {g : Nat} {t : TypeId} {cs : Array Value}
theorem Blk.lt (h : Blk w g t cs) : g < w.heap.size := by
  rcases Nat.lt_or_ge g w.heap.size with hlt | hge
  · exact hlt
  · unfold Blk at h; rw [Array.getElem?_eq_none hge] at h; cases h
theorem Blk.cell (h : Blk w g t cs) (i : Nat) : w.cell? ⟨g, i, none⟩ = cs[i]? := cell_of_row w g i cs t (0, 0) h
theorem Blk.frozen (h : Blk w g t cs) (i : Nat) : w.frozen? ⟨g, i, none⟩ = false := by
  unfold Blk at h
  simp [World.frozen?, h]
theorem Blk.new (w : World) (t : TypeId) (cs : Array Value) : Blk (w.alloc (.cells cs t)) w.heap.size t cs := heap_alloc_new w _
theorem Blk.drew (h : Blk w g t cs) : Blk w.drew g t cs := h
theorem Blk.drewN (h : Blk w g t cs) (n : Nat) : Blk (w.drewN n) g t cs := h
theorem Blk.alloc (h : Blk w g t cs) (o : Obj) : Blk (w.alloc o) g t cs := (Below.heap_alloc w o g h.lt).trans h
theorem Blk.set_ (h : Blk w g t cs) (i : Nat) (u : Value) : Blk (w.setCell ⟨g, i, none⟩ u) g t (cs.setIfInBounds i u) := by
  unfold Blk at h ⊢
  simp [World.setCell, Array.getElem?_modify, h]
theorem Blk.far (h : Blk w g t cs) {p : Addr} (hp : g ≠ p.block) (u : Value) : Blk (w.setCell p u) g t cs := (Below.heap_setCell w p u g hp).trans h
theorem Blk.below {B : Nat} (h : Blk w g t cs) (hb : Below B w w') (hg : g < B) : Blk w' g t cs := (hb.block g hg).trans h
theorem Blk.call (h : Blk w g t cs) (hb : Below w.heap.size w w') : Blk w' g t cs := h.below hb h.lt
theorem Blk.grown {row : Option Nat} (h : Blk w g t cs) (hb : w.grownBy w' row) (hg : some g ≠ row) : Blk w' g t cs := (hb.block g h.lt hg).trans h
theorem Blk.ne_ {g' : Nat} {t' : TypeId} {cs' : Array Value} (h : Blk w g t cs) (h' : Blk w g' t' cs') (hne : t ≠ t') : g ≠ g' := by
  rintro rfl
  unfold Blk at h h'
  rw [h] at h'
  injection h' with h'
  injection h' with _ ht
  exact hne ht
end
theorem Blk.c1 {w : World} {g : Nat} {t : TypeId} {a : Value} (h : Blk w g t #[a]) : w.cell? ⟨g, 0, none⟩ = some a ∧ w.frozen? ⟨g, 0, none⟩ = false := ⟨h.cell 0, h.frozen 0⟩
theorem Blk.c2 {w : World} {g : Nat} {t : TypeId} {a b : Value} (h : Blk w g t #[a, b]) : w.cell? ⟨g, 0, none⟩ = some a ∧ w.cell? ⟨g, 1, none⟩ = some b ∧ w.frozen? ⟨g, 0, none⟩ = false ∧ w.frozen? ⟨g, 1, none⟩ = false := ⟨h.cell 0, h.cell 1, h.frozen 0, h.frozen 1⟩
theorem Blk.c3 {w : World} {g : Nat} {t : TypeId} {a b c : Value} (h : Blk w g t #[a, b, c]) : w.cell? ⟨g, 0, none⟩ = some a ∧ w.cell? ⟨g, 1, none⟩ = some b ∧ w.cell? ⟨g, 2, none⟩ = some c ∧ w.frozen? ⟨g, 0, none⟩ = false ∧ w.frozen? ⟨g, 1, none⟩ = false ∧ w.frozen? ⟨g, 2, none⟩ = false := ⟨h.cell 0, h.cell 1, h.cell 2, h.frozen 0, h.frozen 1, h.frozen 2⟩
theorem Blk.c4 {w : World} {g : Nat} {t : TypeId} {a b c d : Value} (h : Blk w g t #[a, b, c, d]) : w.cell? ⟨g, 0, none⟩ = some a ∧ w.cell? ⟨g, 1, none⟩ = some b ∧ w.cell? ⟨g, 2, none⟩ = some c ∧ w.cell? ⟨g, 3, none⟩ = some d ∧ w.frozen? ⟨g, 0, none⟩ = false ∧ w.frozen? ⟨g, 1, none⟩ = false ∧ w.frozen? ⟨g, 2, none⟩ = false ∧ w.frozen? ⟨g, 3, none⟩ = false := ⟨h.cell 0, h.cell 1, h.cell 2, h.cell 3, h.frozen 0, h.frozen 1, h.frozen 2, h.frozen 3⟩
theorem Blk.iterAt {w : World} {g : Nat} {t : TypeId} {cs : Array Value} (h : Blk w g t cs) {k : Nat} (hk : k ≠ g) (s : ByteArray) (p : Nat) : Blk (w.iterAt k s p) g t cs := by
  unfold Blk; rw [Lib.iterAt_other _ _ _ _ _ (Ne.symm hk)]; exact h
theorem results_cell_tmp_row {P : Program} {fn : Func} {p u : Tmp} {ty : TypeId} (h : fn.results = #[.cell p ty, .tmp u]) (tmps : Array Value) (w : World) (g : Nat) (t : TypeId) (cs : Array Value) (d : TypeDesc)
    (hp : tmps.getD p undef = .pointer (some ⟨g, 0, none⟩)) (hg : Blk w g t cs)
    (hu : P.underlying ty = some d) (hd : (match d with | .struct _ | .array _ _ => true | _ => false) = true) (hi : (P.info? ty).map (·.size) = some cs.size) :
    (results fn tmps).run P w = .ok (.tuple #[.agg cs, tmps.getD u undef]) w := by
  have hp' : tmps[p]?.getD undef = .pointer (some ⟨g, 0, none⟩) := by simpa using hp
  simp [results, h, hp', asAddr, run_loadVar_row w g t ty cs (0, 0) d hg hu hd hi]
theorem results_tmp_cell_row {P : Program} {fn : Func} {p u : Tmp} {ty : TypeId} (h : fn.results = #[.tmp u, .cell p ty]) (tmps : Array Value) (w : World) (g : Nat) (t : TypeId) (cs : Array Value) (d : TypeDesc)
    (hp : tmps.getD p undef = .pointer (some ⟨g, 0, none⟩)) (hg : Blk w g t cs)
    (hu : P.underlying ty = some d) (hd : (match d with | .struct _ | .array _ _ => true | _ => false) = true) (hi : (P.info? ty).map (·.size) = some cs.size) :
    (results fn tmps).run P w = .ok (.tuple #[tmps.getD u undef, .agg cs]) w := by
  have hp' : tmps[p]?.getD undef = .pointer (some ⟨g, 0, none⟩) := by simpa using hp
  simp [results, h, hp', asAddr, run_loadVar_row w g t ty cs (0, 0) d hg hu hd hi]
theorem eqF_nil {P : Program} {w : World} (d : Nat) (xs ys : Array Value) : (Op.eqFields d xs ys []).run P w = .ok true w := by simp [Op.eqFields]
theorem eqF_cons {P : Program} {w : World} (d : Nat) (xs ys : Array Value) (f : Field) (fs : List Field) (a b : Value) (r s : Bool) (hn : (f.name == "_") = false) (ha : (part f.type xs f.offset).run P w = .ok a w) (hb : (part f.type ys f.offset).run P w = .ok b w) (he : (Op.equalIn d f.type a b).run P w = .ok r w) (hr : (Op.eqFields d xs ys fs).run P w = .ok s w) : (Op.eqFields d xs ys (f :: fs)).run P w = .ok (r && s) w := by
  have hn' : f.name ≠ "_" := by simpa using hn
  rw [Op.eqFields]
  simp only [if_pos hn', Sem.run_bind, ha, hb, he, Result.andThen_ok]
  cases r
  · simp
  · simpa using hr
theorem eqS_of {P : Program} {w : World} (d : Nat) (t : TypeId) (fs : Array Field) (xs ys : Array Value) (r : Bool) (hu : P.underlying t = some (.struct fs)) (hp : P.stoodInHeld t = false) (h : (Op.eqFields d xs ys fs.toList).run P w = .ok r w) : (Op.equalIn (d + 1) t (.agg xs) (.agg ys)).run P w = .ok r w := by
  have hf : P.fieldsOf t = fs := by simp [Program.fieldsOf, hu]
  rw [run_equalIn_struct (P := P) w d t xs ys (by rw [hf]; exact hu) hp, hf]
  exact h
theorem eql_S {P : Program} {w : World} {t : TypeId} {xs ys : Array Value} {r : Bool} (h : ∀ d, (Op.equalIn (d + 3) t (.agg xs) (.agg ys)).run P w = .ok r w) : (binOp .eql t (.agg xs) (.agg ys)).run P w = .ok (.bool r) w := by
  rw [run_eql_struct, h 9997]; rfl
theorem neq_S {P : Program} {w : World} {t : TypeId} {xs ys : Array Value} {r : Bool} (h : ∀ d, (Op.equalIn (d + 3) t (.agg xs) (.agg ys)).run P w = .ok r w) : (binOp .neq t (.agg xs) (.agg ys)).run P w = .ok (.bool (!r)) w := by
  rw [run_neq_struct, h 9997]; rfl
theorem iterPos_of {w : World} {k : Nat} {s : ByteArray} {p : Nat} (h : w.heap[k]? = some (.stringIter s p)) : w.iterPos k = p := by simp [World.iterPos, h]
theorem take_snoc (s : ByteArray) (k : Nat) (h : k < s.size) : s.data.toList.take (k + 1) = s.data.toList.take k ++ [s[k]] := by
  rw [List.take_succ_eq_append_getElem (by simpa using h)]; rfl
theorem byte_lt (c : UInt8) : 0 ≤ (c.toNat : Int) ∧ (c.toNat : Int) ≤ 255 := by have := c.toNat_lt; omega
end Go.Proofs.YtcgkfgklggjmaaaDoor
end
section
namespace Go.Proofs.YtcgkfgklggjmaaaDoor
set_option linter.unusedVariables false
set_option linter.unusedSimpArgs false
open Go.RowKit
def tokCells (t : Tok) : List Value := [.int .i64 t.kind, .string t.text, .int .i64 t.line, .int .i64 t.col]
def toksCells (ts : List Tok) : List Value := ts.flatMap tokCells
theorem toks_snoc (ts : List Tok) (t : Tok) : toksCells (ts ++ [t]) = toksCells ts ++ tokCells t := by simp [toksCells]
theorem ownsRow_below {w w' : World} {base : Nat} {e : TypeId} {size : Nat} {v : Value} {n : Nat} {xs : List Value} (h : w.ownsRow base e size v n xs) (hb : Below w.heap.size w w') : w'.ownsRow base e size v n xs := by
  obtain ⟨h1, h2⟩ := h
  refine ⟨h1, ?_⟩
  rcases h2 with h2 | ⟨g, cap, cur, a, b, c, d⟩
  · exact .inl h2
  · exact .inr ⟨g, cap, cur, a, b, (hb.block g (Blk.lt (t := e) (cs := cur) c)).trans c, d⟩
theorem ownsRow_set {w : World} {base : Nat} {e : TypeId} {size : Nat} {v : Value} {n : Nat} {xs : List Value} (h : w.ownsRow base e size v n xs) {p : Addr} (hp : p.block < base) (u : Value) : (w.setCell p u).ownsRow base e size v n xs := by
  obtain ⟨h1, h2⟩ := h
  refine ⟨h1, ?_⟩
  rcases h2 with h2 | ⟨g, cap, cur, a, b, c, d⟩
  · exact .inl h2
  · exact .inr ⟨g, cap, cur, a, b, (Below.heap_setCell w p u g (by omega)).trans c, d⟩
theorem ownsRow_drewN {w : World} {base : Nat} {e : TypeId} {size : Nat} {v : Value} {n : Nat} {xs : List Value} (h : w.ownsRow base e size v n xs) (k : Nat) : (w.drewN k).ownsRow base e size v n xs := h
theorem ownsRow_far {w : World} {base : Nat} {e : TypeId} {size : Nat} {v : Value} {n : Nat} {xs : List Value} (h : w.ownsRow base e size v n xs) {p : Addr} (hp : ∀ g, v.ownBlock = some g → g ≠ p.block) (u : Value) : (w.setCell p u).ownsRow base e size v n xs := by
  obtain ⟨h1, h2⟩ := h
  refine ⟨h1, ?_⟩
  rcases h2 with h2 | ⟨g, cap, cur, a, b, c, d⟩
  · exact .inl h2
  · exact .inr ⟨g, cap, cur, a, b, (Below.heap_setCell w p u g (hp g (by rw [a]; rfl))).trans c, d⟩
theorem blk_23 {w : World} {g : Nat} {t : TypeId} {a b c d : Value} (h : Blk w g t #[a, b, c, d]) : w.cell? ⟨g, 2, none⟩ = some c ∧ w.cell? ⟨g, 3, none⟩ = some d := ⟨h.cell 2, h.cell 3⟩
theorem ownsRow_base {w : World} {base base' : Nat} {e : TypeId} {size : Nat} {v : Value} {n : Nat} {xs : List Value} (h : w.ownsRow base e size v n xs) (hb : base' ≤ base) : w.ownsRow base' e size v n xs := by
  obtain ⟨h1, h2⟩ := h
  refine ⟨h1, ?_⟩
  rcases h2 with h2 | ⟨g, cap, cur, a, b, c, d⟩
  · exact .inl h2
  · exact .inr ⟨g, cap, cur, a, by omega, c, d⟩
theorem bl_grown {w v w' : World} {row : Option Nat} (h : Below w.heap.size w v) (hg : v.grownBy w' row) (hr : ∀ k, row = some k → w.heap.size ≤ k) : Below w.heap.size w w' := h.grown hg h.size hr
theorem ext_drop (s : ByteArray) (a : Nat) : (s.extract a s.size).data.toList = s.data.toList.drop a := by
  rw [Lib.extract_data]; exact List.take_of_length_le (by simp)
theorem ext_take (s : ByteArray) (a n : Nat) : (s.extract a (a + n)).data.toList = (s.data.toList.drop a).take n := by
  rw [Lib.extract_data, show a + n - a = n from by omega]
def LexIn (l : List UInt8) (ts : List Tok) (a : Nat) (line col : Int) : Prop := lexL l 1 1 = preR ts (lexL (l.drop a) line col)
def posOf (w : World) (b : Nat) : Nat := (intOf ((w.cell? ⟨b, 0, none⟩).getD undef)).toNat
theorem posOf_blk {w : World} {b : Nat} {t : TypeId} {a : Nat} {x y : Value} (h : Blk w b t #[.int .i64 a, x, y]) : posOf w b = a := by
  simp [posOf, h.c3.1, intOf]
/-- what a call of Lex leaves -/
def LexOut (E : TypeId) (s : ByteArray) (w : World) (r : Value → Int → Int → Int → Value) (e : Ending) (w' : World) : Prop :=
  ∃ (v : Value) (ts : List Tok) (er l c : Int), e = .returned (r v er l c) ∧ w'.ownsRow w.heap.size E 4 v ts.length (toksCells ts) ∧ Below w.heap.size w w' ∧ lexAll s.data.toList = (ts, er, l, c)
end Go.Proofs.YtcgkfgklggjmaaaDoor
end
section
namespace Go.Proofs.YtcgkfgklggjmaaaDoor
set_option linter.unusedVariables false
set_option linter.unusedSimpArgs false
open Go.RowKit
theorem Blk.c5 {w : World} {g : Nat} {t : TypeId} {a b c d e : Value} (h : Blk w g t #[a, b, c, d, e]) : w.cell? ⟨g, 0, none⟩ = some a ∧ w.cell? ⟨g, 1, none⟩ = some b ∧ w.cell? ⟨g, 2, none⟩ = some c ∧ w.cell? ⟨g, 3, none⟩ = some d ∧ w.cell? ⟨g, 4, none⟩ = some e ∧ w.frozen? ⟨g, 0, none⟩ = false ∧ w.frozen? ⟨g, 1, none⟩ = false ∧ w.frozen? ⟨g, 2, none⟩ = false ∧ w.frozen? ⟨g, 3, none⟩ = false ∧ w.frozen? ⟨g, 4, none⟩ = false := ⟨h.cell 0, h.cell 1, h.cell 2, h.cell 3, h.cell 4, h.frozen 0, h.frozen 1, h.frozen 2, h.frozen 3, h.frozen 4⟩
theorem Blk.c6 {w : World} {g : Nat} {t : TypeId} {a0 a1 a2 a3 a4 a5 : Value} (h : Blk w g t #[a0, a1, a2, a3, a4, a5]) : w.cell? ⟨g, 0, none⟩ = some a0 ∧ w.cell? ⟨g, 1, none⟩ = some a1 ∧ w.cell? ⟨g, 2, none⟩ = some a2 ∧ w.cell? ⟨g, 3, none⟩ = some a3 ∧ w.cell? ⟨g, 4, none⟩ = some a4 ∧ w.cell? ⟨g, 5, none⟩ = some a5 ∧ w.frozen? ⟨g, 0, none⟩ = false ∧ w.frozen? ⟨g, 1, none⟩ = false ∧ w.frozen? ⟨g, 2, none⟩ = false ∧ w.frozen? ⟨g, 3, none⟩ = false ∧ w.frozen? ⟨g, 4, none⟩ = false ∧ w.frozen? ⟨g, 5, none⟩ = false := ⟨h.cell 0, h.cell 1, h.cell 2, h.cell 3, h.cell 4, h.cell 5, h.frozen 0, h.frozen 1, h.frozen 2, h.frozen 3, h.frozen 4, h.frozen 5⟩
theorem Blk.c7 {w : World} {g : Nat} {t : TypeId} {a0 a1 a2 a3 a4 a5 a6 : Value} (h : Blk w g t #[a0, a1, a2, a3, a4, a5, a6]) : w.cell? ⟨g, 0, none⟩ = some a0 ∧ w.cell? ⟨g, 1, none⟩ = some a1 ∧ w.cell? ⟨g, 2, none⟩ = some a2 ∧ w.cell? ⟨g, 3, none⟩ = some a3 ∧ w.cell? ⟨g, 4, none⟩ = some a4 ∧ w.cell? ⟨g, 5, none⟩ = some a5 ∧ w.cell? ⟨g, 6, none⟩ = some a6 ∧ w.frozen? ⟨g, 0, none⟩ = false ∧ w.frozen? ⟨g, 1, none⟩ = false ∧ w.frozen? ⟨g, 2, none⟩ = false ∧ w.frozen? ⟨g, 3, none⟩ = false ∧ w.frozen? ⟨g, 4, none⟩ = false ∧ w.frozen? ⟨g, 5, none⟩ = false ∧ w.frozen? ⟨g, 6, none⟩ = false := ⟨h.cell 0, h.cell 1, h.cell 2, h.cell 3, h.cell 4, h.cell 5, h.cell 6, h.frozen 0, h.frozen 1, h.frozen 2, h.frozen 3, h.frozen 4, h.frozen 5, h.frozen 6⟩
theorem Blk.c8 {w : World} {g : Nat} {t : TypeId} {a0 a1 a2 a3 a4 a5 a6 a7 : Value} (h : Blk w g t #[a0, a1, a2, a3, a4, a5, a6, a7]) : w.cell? ⟨g, 0, none⟩ = some a0 ∧ w.cell? ⟨g, 1, none⟩ = some a1 ∧ w.cell? ⟨g, 2, none⟩ = some a2 ∧ w.cell? ⟨g, 3, none⟩ = some a3 ∧ w.cell? ⟨g, 4, none⟩ = some a4 ∧ w.cell? ⟨g, 5, none⟩ = some a5 ∧ w.cell? ⟨g, 6, none⟩ = some a6 ∧ w.cell? ⟨g, 7, none⟩ = some a7 ∧ w.frozen? ⟨g, 0, none⟩ = false ∧ w.frozen? ⟨g, 1, none⟩ = false ∧ w.frozen? ⟨g, 2, none⟩ = false ∧ w.frozen? ⟨g, 3, none⟩ = false ∧ w.frozen? ⟨g, 4, none⟩ = false ∧ w.frozen? ⟨g, 5, none⟩ = false ∧ w.frozen? ⟨g, 6, none⟩ = false ∧ w.frozen? ⟨g, 7, none⟩ = false := ⟨h.cell 0, h.cell 1, h.cell 2, h.cell 3, h.cell 4, h.cell 5, h.cell 6, h.cell 7, h.frozen 0, h.frozen 1, h.frozen 2, h.frozen 3, h.frozen 4, h.frozen 5, h.frozen 6, h.frozen 7⟩
theorem Blk.c9 {w : World} {g : Nat} {t : TypeId} {a0 a1 a2 a3 a4 a5 a6 a7 a8 : Value} (h : Blk w g t #[a0, a1, a2, a3, a4, a5, a6, a7, a8]) : w.cell? ⟨g, 0, none⟩ = some a0 ∧ w.cell? ⟨g, 1, none⟩ = some a1 ∧ w.cell? ⟨g, 2, none⟩ = some a2 ∧ w.cell? ⟨g, 3, none⟩ = some a3 ∧ w.cell? ⟨g, 4, none⟩ = some a4 ∧ w.cell? ⟨g, 5, none⟩ = some a5 ∧ w.cell? ⟨g, 6, none⟩ = some a6 ∧ w.cell? ⟨g, 7, none⟩ = some a7 ∧ w.cell? ⟨g, 8, none⟩ = some a8 ∧ w.frozen? ⟨g, 0, none⟩ = false ∧ w.frozen? ⟨g, 1, none⟩ = false ∧ w.frozen? ⟨g, 2, none⟩ = false ∧ w.frozen? ⟨g, 3, none⟩ = false ∧ w.frozen? ⟨g, 4, none⟩ = false ∧ w.frozen? ⟨g, 5, none⟩ = false ∧ w.frozen? ⟨g, 6, none⟩ = false ∧ w.frozen? ⟨g, 7, none⟩ = false ∧ w.frozen? ⟨g, 8, none⟩ = false := ⟨h.cell 0, h.cell 1, h.cell 2, h.cell 3, h.cell 4, h.cell 5, h.cell 6, h.cell 7, h.cell 8, h.frozen 0, h.frozen 1, h.frozen 2, h.frozen 3, h.frozen 4, h.frozen 5, h.frozen 6, h.frozen 7, h.frozen 8⟩
theorem Blk.c10 {w : World} {g : Nat} {t : TypeId} {a0 a1 a2 a3 a4 a5 a6 a7 a8 a9 : Value} (h : Blk w g t #[a0, a1, a2, a3, a4, a5, a6, a7, a8, a9]) : w.cell? ⟨g, 0, none⟩ = some a0 ∧ w.cell? ⟨g, 1, none⟩ = some a1 ∧ w.cell? ⟨g, 2, none⟩ = some a2 ∧ w.cell? ⟨g, 3, none⟩ = some a3 ∧ w.cell? ⟨g, 4, none⟩ = some a4 ∧ w.cell? ⟨g, 5, none⟩ = some a5 ∧ w.cell? ⟨g, 6, none⟩ = some a6 ∧ w.cell? ⟨g, 7, none⟩ = some a7 ∧ w.cell? ⟨g, 8, none⟩ = some a8 ∧ w.cell? ⟨g, 9, none⟩ = some a9 ∧ w.frozen? ⟨g, 0, none⟩ = false ∧ w.frozen? ⟨g, 1, none⟩ = false ∧ w.frozen? ⟨g, 2, none⟩ = false ∧ w.frozen? ⟨g, 3, none⟩ = false ∧ w.frozen? ⟨g, 4, none⟩ = false ∧ w.frozen? ⟨g, 5, none⟩ = false ∧ w.frozen? ⟨g, 6, none⟩ = false ∧ w.frozen? ⟨g, 7, none⟩ = false ∧ w.frozen? ⟨g, 8, none⟩ = false ∧ w.frozen? ⟨g, 9, none⟩ = false := ⟨h.cell 0, h.cell 1, h.cell 2, h.cell 3, h.cell 4, h.cell 5, h.cell 6, h.cell 7, h.cell 8, h.cell 9, h.frozen 0, h.frozen 1, h.frozen 2, h.frozen 3, h.frozen 4, h.frozen 5, h.frozen 6, h.frozen 7, h.frozen 8, h.frozen 9⟩
theorem Blk.c11 {w : World} {g : Nat} {t : TypeId} {a0 a1 a2 a3 a4 a5 a6 a7 a8 a9 a10 : Value} (h : Blk w g t #[a0, a1, a2, a3, a4, a5, a6, a7, a8, a9, a10]) : w.cell? ⟨g, 0, none⟩ = some a0 ∧ w.cell? ⟨g, 1, none⟩ = some a1 ∧ w.cell? ⟨g, 2, none⟩ = some a2 ∧ w.cell? ⟨g, 3, none⟩ = some a3 ∧ w.cell? ⟨g, 4, none⟩ = some a4 ∧ w.cell? ⟨g, 5, none⟩ = some a5 ∧ w.cell? ⟨g, 6, none⟩ = some a6 ∧ w.cell? ⟨g, 7, none⟩ = some a7 ∧ w.cell? ⟨g, 8, none⟩ = some a8 ∧ w.cell? ⟨g, 9, none⟩ = some a9 ∧ w.cell? ⟨g, 10, none⟩ = some a10 ∧ w.frozen? ⟨g, 0, none⟩ = false ∧ w.frozen? ⟨g, 1, none⟩ = false ∧ w.frozen? ⟨g, 2, none⟩ = false ∧ w.frozen? ⟨g, 3, none⟩ = false ∧ w.frozen? ⟨g, 4, none⟩ = false ∧ w.frozen? ⟨g, 5, none⟩ = false ∧ w.frozen? ⟨g, 6, none⟩ = false ∧ w.frozen? ⟨g, 7, none⟩ = false ∧ w.frozen? ⟨g, 8, none⟩ = false ∧ w.frozen? ⟨g, 9, none⟩ = false ∧ w.frozen? ⟨g, 10, none⟩ = false := ⟨h.cell 0, h.cell 1, h.cell 2, h.cell 3, h.cell 4, h.cell 5, h.cell 6, h.cell 7, h.cell 8, h.cell 9, h.cell 10, h.frozen 0, h.frozen 1, h.frozen 2, h.frozen 3, h.frozen 4, h.frozen 5, h.frozen 6, h.frozen 7, h.frozen 8, h.frozen 9, h.frozen 10⟩
theorem Blk.c12 {w : World} {g : Nat} {t : TypeId} {a0 a1 a2 a3 a4 a5 a6 a7 a8 a9 a10 a11 : Value} (h : Blk w g t #[a0, a1, a2, a3, a4, a5, a6, a7, a8, a9, a10, a11]) : w.cell? ⟨g, 0, none⟩ = some a0 ∧ w.cell? ⟨g, 1, none⟩ = some a1 ∧ w.cell? ⟨g, 2, none⟩ = some a2 ∧ w.cell? ⟨g, 3, none⟩ = some a3 ∧ w.cell? ⟨g, 4, none⟩ = some a4 ∧ w.cell? ⟨g, 5, none⟩ = some a5 ∧ w.cell? ⟨g, 6, none⟩ = some a6 ∧ w.cell? ⟨g, 7, none⟩ = some a7 ∧ w.cell? ⟨g, 8, none⟩ = some a8 ∧ w.cell? ⟨g, 9, none⟩ = some a9 ∧ w.cell? ⟨g, 10, none⟩ = some a10 ∧ w.cell? ⟨g, 11, none⟩ = some a11 ∧ w.frozen? ⟨g, 0, none⟩ = false ∧ w.frozen? ⟨g, 1, none⟩ = false ∧ w.frozen? ⟨g, 2, none⟩ = false ∧ w.frozen? ⟨g, 3, none⟩ = false ∧ w.frozen? ⟨g, 4, none⟩ = false ∧ w.frozen? ⟨g, 5, none⟩ = false ∧ w.frozen? ⟨g, 6, none⟩ = false ∧ w.frozen? ⟨g, 7, none⟩ = false ∧ w.frozen? ⟨g, 8, none⟩ = false ∧ w.frozen? ⟨g, 9, none⟩ = false ∧ w.frozen? ⟨g, 10, none⟩ = false ∧ w.frozen? ⟨g, 11, none⟩ = false := ⟨h.cell 0, h.cell 1, h.cell 2, h.cell 3, h.cell 4, h.cell 5, h.cell 6, h.cell 7, h.cell 8, h.cell 9, h.cell 10, h.cell 11, h.frozen 0, h.frozen 1, h.frozen 2, h.frozen 3, h.frozen 4, h.frozen 5, h.frozen 6, h.frozen 7, h.frozen 8, h.frozen 9, h.frozen 10, h.frozen 11⟩
theorem Blk.c13 {w : World} {g : Nat} {t : TypeId} {a0 a1 a2 a3 a4 a5 a6 a7 a8 a9 a10 a11 a12 : Value} (h : Blk w g t #[a0, a1, a2, a3, a4, a5, a6, a7, a8, a9, a10, a11, a12]) : w.cell? ⟨g, 0, none⟩ = some a0 ∧ w.cell? ⟨g, 1, none⟩ = some a1 ∧ w.cell? ⟨g, 2, none⟩ = some a2 ∧ w.cell? ⟨g, 3, none⟩ = some a3 ∧ w.cell? ⟨g, 4, none⟩ = some a4 ∧ w.cell? ⟨g, 5, none⟩ = some a5 ∧ w.cell? ⟨g, 6, none⟩ = some a6 ∧ w.cell? ⟨g, 7, none⟩ = some a7 ∧ w.cell? ⟨g, 8, none⟩ = some a8 ∧ w.cell? ⟨g, 9, none⟩ = some a9 ∧ w.cell? ⟨g, 10, none⟩ = some a10 ∧ w.cell? ⟨g, 11, none⟩ = some a11 ∧ w.cell? ⟨g, 12, none⟩ = some a12 ∧ w.frozen? ⟨g, 0, none⟩ = false ∧ w.frozen? ⟨g, 1, none⟩ = false ∧ w.frozen? ⟨g, 2, none⟩ = false ∧ w.frozen? ⟨g, 3, none⟩ = false ∧ w.frozen? ⟨g, 4, none⟩ = false ∧ w.frozen? ⟨g, 5, none⟩ = false ∧ w.frozen? ⟨g, 6, none⟩ = false ∧ w.frozen? ⟨g, 7, none⟩ = false ∧ w.frozen? ⟨g, 8, none⟩ = false ∧ w.frozen? ⟨g, 9, none⟩ = false ∧ w.frozen? ⟨g, 10, none⟩ = false ∧ w.frozen? ⟨g, 11, none⟩ = false ∧ w.frozen? ⟨g, 12, none⟩ = false := ⟨h.cell 0, h.cell 1, h.cell 2, h.cell 3, h.cell 4, h.cell 5, h.cell 6, h.cell 7, h.cell 8, h.cell 9, h.cell 10, h.cell 11, h.cell 12, h.frozen 0, h.frozen 1, h.frozen 2, h.frozen 3, h.frozen 4, h.frozen 5, h.frozen 6, h.frozen 7, h.frozen 8, h.frozen 9, h.frozen 10, h.frozen 11, h.frozen 12⟩
theorem Blk.c14 {w : World} {g : Nat} {t : TypeId} {a0 a1 a2 a3 a4 a5 a6 a7 a8 a9 a10 a11 a12 a13 : Value} (h : Blk w g t #[a0, a1, a2, a3, a4, a5, a6, a7, a8, a9, a10, a11, a12, a13]) : w.cell? ⟨g, 0, none⟩ = some a0 ∧ w.cell? ⟨g, 1, none⟩ = some a1 ∧ w.cell? ⟨g, 2, none⟩ = some a2 ∧ w.cell? ⟨g, 3, none⟩ = some a3 ∧ w.cell? ⟨g, 4, none⟩ = some a4 ∧ w.cell? ⟨g, 5, none⟩ = some a5 ∧ w.cell? ⟨g, 6, none⟩ = some a6 ∧ w.cell? ⟨g, 7, none⟩ = some a7 ∧ w.cell? ⟨g, 8, none⟩ = some a8 ∧ w.cell? ⟨g, 9, none⟩ = some a9 ∧ w.cell? ⟨g, 10, none⟩ = some a10 ∧ w.cell? ⟨g, 11, none⟩ = some a11 ∧ w.cell? ⟨g, 12, none⟩ = some a12 ∧ w.cell? ⟨g, 13, none⟩ = some a13 ∧ w.frozen? ⟨g, 0, none⟩ = false ∧ w.frozen? ⟨g, 1, none⟩ = false ∧ w.frozen? ⟨g, 2, none⟩ = false ∧ w.frozen? ⟨g, 3, none⟩ = false ∧ w.frozen? ⟨g, 4, none⟩ = false ∧ w.frozen? ⟨g, 5, none⟩ = false ∧ w.frozen? ⟨g, 6, none⟩ = false ∧ w.frozen? ⟨g, 7, none⟩ = false ∧ w.frozen? ⟨g, 8, none⟩ = false ∧ w.frozen? ⟨g, 9, none⟩ = false ∧ w.frozen? ⟨g, 10, none⟩ = false ∧ w.frozen? ⟨g, 11, none⟩ = false ∧ w.frozen? ⟨g, 12, none⟩ = false ∧ w.frozen? ⟨g, 13, none⟩ = false := ⟨h.cell 0, h.cell 1, h.cell 2, h.cell 3, h.cell 4, h.cell 5, h.cell 6, h.cell 7, h.cell 8, h.cell 9, h.cell 10, h.cell 11, h.cell 12, h.cell 13, h.frozen 0, h.frozen 1, h.frozen 2, h.frozen 3, h.frozen 4, h.frozen 5, h.frozen 6, h.frozen 7, h.frozen 8, h.frozen 9, h.frozen 10, h.frozen 11, h.frozen 12, h.frozen 13⟩
theorem Blk.c15 {w : World} {g : Nat} {t : TypeId} {a0 a1 a2 a3 a4 a5 a6 a7 a8 a9 a10 a11 a12 a13 a14 : Value} (h : Blk w g t #[a0, a1, a2, a3, a4, a5, a6, a7, a8, a9, a10, a11, a12, a13, a14]) : w.cell? ⟨g, 0, none⟩ = some a0 ∧ w.cell? ⟨g, 1, none⟩ = some a1 ∧ w.cell? ⟨g, 2, none⟩ = some a2 ∧ w.cell? ⟨g, 3, none⟩ = some a3 ∧ w.cell? ⟨g, 4, none⟩ = some a4 ∧ w.cell? ⟨g, 5, none⟩ = some a5 ∧ w.cell? ⟨g, 6, none⟩ = some a6 ∧ w.cell? ⟨g, 7, none⟩ = some a7 ∧ w.cell? ⟨g, 8, none⟩ = some a8 ∧ w.cell? ⟨g, 9, none⟩ = some a9 ∧ w.cell? ⟨g, 10, none⟩ = some a10 ∧ w.cell? ⟨g, 11, none⟩ = some a11 ∧ w.cell? ⟨g, 12, none⟩ = some a12 ∧ w.cell? ⟨g, 13, none⟩ = some a13 ∧ w.cell? ⟨g, 14, none⟩ = some a14 ∧ w.frozen? ⟨g, 0, none⟩ = false ∧ w.frozen? ⟨g, 1, none⟩ = false ∧ w.frozen? ⟨g, 2, none⟩ = false ∧ w.frozen? ⟨g, 3, none⟩ = false ∧ w.frozen? ⟨g, 4, none⟩ = false ∧ w.frozen? ⟨g, 5, none⟩ = false ∧ w.frozen? ⟨g, 6, none⟩ = false ∧ w.frozen? ⟨g, 7, none⟩ = false ∧ w.frozen? ⟨g, 8, none⟩ = false ∧ w.frozen? ⟨g, 9, none⟩ = false ∧ w.frozen? ⟨g, 10, none⟩ = false ∧ w.frozen? ⟨g, 11, none⟩ = false ∧ w.frozen? ⟨g, 12, none⟩ = false ∧ w.frozen? ⟨g, 13, none⟩ = false ∧ w.frozen? ⟨g, 14, none⟩ = false := ⟨h.cell 0, h.cell 1, h.cell 2, h.cell 3, h.cell 4, h.cell 5, h.cell 6, h.cell 7, h.cell 8, h.cell 9, h.cell 10, h.cell 11, h.cell 12, h.cell 13, h.cell 14, h.frozen 0, h.frozen 1, h.frozen 2, h.frozen 3, h.frozen 4, h.frozen 5, h.frozen 6, h.frozen 7, h.frozen 8, h.frozen 9, h.frozen 10, h.frozen 11, h.frozen 12, h.frozen 13, h.frozen 14⟩
theorem Blk.c16 {w : World} {g : Nat} {t : TypeId} {a0 a1 a2 a3 a4 a5 a6 a7 a8 a9 a10 a11 a12 a13 a14 a15 : Value} (h : Blk w g t #[a0, a1, a2, a3, a4, a5, a6, a7, a8, a9, a10, a11, a12, a13, a14, a15]) : w.cell? ⟨g, 0, none⟩ = some a0 ∧ w.cell? ⟨g, 1, none⟩ = some a1 ∧ w.cell? ⟨g, 2, none⟩ = some a2 ∧ w.cell? ⟨g, 3, none⟩ = some a3 ∧ w.cell? ⟨g, 4, none⟩ = some a4 ∧ w.cell? ⟨g, 5, none⟩ = some a5 ∧ w.cell? ⟨g, 6, none⟩ = some a6 ∧ w.cell? ⟨g, 7, none⟩ = some a7 ∧ w.cell? ⟨g, 8, none⟩ = some a8 ∧ w.cell? ⟨g, 9, none⟩ = some a9 ∧ w.cell? ⟨g, 10, none⟩ = some a10 ∧ w.cell? ⟨g, 11, none⟩ = some a11 ∧ w.cell? ⟨g, 12, none⟩ = some a12 ∧ w.cell? ⟨g, 13, none⟩ = some a13 ∧ w.cell? ⟨g, 14, none⟩ = some a14 ∧ w.cell? ⟨g, 15, none⟩ = some a15 ∧ w.frozen? ⟨g, 0, none⟩ = false ∧ w.frozen? ⟨g, 1, none⟩ = false ∧ w.frozen? ⟨g, 2, none⟩ = false ∧ w.frozen? ⟨g, 3, none⟩ = false ∧ w.frozen? ⟨g, 4, none⟩ = false ∧ w.frozen? ⟨g, 5, none⟩ = false ∧ w.frozen? ⟨g, 6, none⟩ = false ∧ w.frozen? ⟨g, 7, none⟩ = false ∧ w.frozen? ⟨g, 8, none⟩ = false ∧ w.frozen? ⟨g, 9, none⟩ = false ∧ w.frozen? ⟨g, 10, none⟩ = false ∧ w.frozen? ⟨g, 11, none⟩ = false ∧ w.frozen? ⟨g, 12, none⟩ = false ∧ w.frozen? ⟨g, 13, none⟩ = false ∧ w.frozen? ⟨g, 14, none⟩ = false ∧ w.frozen? ⟨g, 15, none⟩ = false := ⟨h.cell 0, h.cell 1, h.cell 2, h.cell 3, h.cell 4, h.cell 5, h.cell 6, h.cell 7, h.cell 8, h.cell 9, h.cell 10, h.cell 11, h.cell 12, h.cell 13, h.cell 14, h.cell 15, h.frozen 0, h.frozen 1, h.frozen 2, h.frozen 3, h.frozen 4, h.frozen 5, h.frozen 6, h.frozen 7, h.frozen 8, h.frozen 9, h.frozen 10, h.frozen 11, h.frozen 12, h.frozen 13, h.frozen 14, h.frozen 15⟩
theorem Blk.c17 {w : World} {g : Nat} {t : TypeId} {a0 a1 a2 a3 a4 a5 a6 a7 a8 a9 a10 a11 a12 a13 a14 a15 a16 : Value} (h : Blk w g t #[a0, a1, a2, a3, a4, a5, a6, a7, a8, a9, a10, a11, a12, a13, a14, a15, a16]) : w.cell? ⟨g, 0, none⟩ = some a0 ∧ w.cell? ⟨g, 1, none⟩ = some a1 ∧ w.cell? ⟨g, 2, none⟩ = some a2 ∧ w.cell? ⟨g, 3, none⟩ = some a3 ∧ w.cell? ⟨g, 4, none⟩ = some a4 ∧ w.cell? ⟨g, 5, none⟩ = some a5 ∧ w.cell? ⟨g, 6, none⟩ = some a6 ∧ w.cell? ⟨g, 7, none⟩ = some a7 ∧ w.cell? ⟨g, 8, none⟩ = some a8 ∧ w.cell? ⟨g, 9, none⟩ = some a9 ∧ w.cell? ⟨g, 10, none⟩ = some a10 ∧ w.cell? ⟨g, 11, none⟩ = some a11 ∧ w.cell? ⟨g, 12, none⟩ = some a12 ∧ w.cell? ⟨g, 13, none⟩ = some a13 ∧ w.cell? ⟨g, 14, none⟩ = some a14 ∧ w.cell? ⟨g, 15, none⟩ = some a15 ∧ w.cell? ⟨g, 16, none⟩ = some a16 ∧ w.frozen? ⟨g, 0, none⟩ = false ∧ w.frozen? ⟨g, 1, none⟩ = false ∧ w.frozen? ⟨g, 2, none⟩ = false ∧ w.frozen? ⟨g, 3, none⟩ = false ∧ w.frozen? ⟨g, 4, none⟩ = false ∧ w.frozen? ⟨g, 5, none⟩ = false ∧ w.frozen? ⟨g, 6, none⟩ = false ∧ w.frozen? ⟨g, 7, none⟩ = false ∧ w.frozen? ⟨g, 8, none⟩ = false ∧ w.frozen? ⟨g, 9, none⟩ = false ∧ w.frozen? ⟨g, 10, none⟩ = false ∧ w.frozen? ⟨g, 11, none⟩ = false ∧ w.frozen? ⟨g, 12, none⟩ = false ∧ w.frozen? ⟨g, 13, none⟩ = false ∧ w.frozen? ⟨g, 14, none⟩ = false ∧ w.frozen? ⟨g, 15, none⟩ = false ∧ w.frozen? ⟨g, 16, none⟩ = false := ⟨h.cell 0, h.cell 1, h.cell 2, h.cell 3, h.cell 4, h.cell 5, h.cell 6, h.cell 7, h.cell 8, h.cell 9, h.cell 10, h.cell 11, h.cell 12, h.cell 13, h.cell 14, h.cell 15, h.cell 16, h.frozen 0, h.frozen 1, h.frozen 2, h.frozen 3, h.frozen 4, h.frozen 5, h.frozen 6, h.frozen 7, h.frozen 8, h.frozen 9, h.frozen 10, h.frozen 11, h.frozen 12, h.frozen 13, h.frozen 14, h.frozen 15, h.frozen 16⟩
/-- several cells of a block, one behind the other -/
def puts (w : World) (g : Nat) : Nat → List Value → World
  | _, [] => w
  | k, v :: vs => puts (w.setCell ⟨g, k, none⟩ v) g (k + 1) vs
def setsA (cs : Array Value) : Nat → List Value → Array Value
  | _, [] => cs
  | k, v :: vs => setsA (cs.setIfInBounds k v) (k + 1) vs
theorem Blk.putAll {g : Nat} {t : TypeId} : ∀ (vs : List Value) {w : World} {cs : Array Value} (k : Nat), Blk w g t cs → Blk (puts w g k vs) g t (setsA cs k vs)
  | [], _, _, _, h => h
  | v :: vs, _, _, k, h => Blk.putAll vs (k + 1) (h.set_ k v)
theorem puts_heap {g : Nat} : ∀ (vs : List Value) (w : World) (k : Nat), (∀ x, x ≠ g → (puts w g k vs).heap[x]? = w.heap[x]?) ∧ (puts w g k vs).heap.size = w.heap.size ∧ (puts w g k vs).os = w.os ∧ (puts w g k vs).tape = w.tape ∧ (puts w g k vs).output = w.output
  | [], _, _ => ⟨fun _ _ => rfl, rfl, rfl, rfl, rfl⟩
  | v :: vs, w, k => by
    obtain ⟨h1, h2, h3, h4, h5⟩ := puts_heap (g := g) vs (w.setCell ⟨g, k, none⟩ v) (k + 1)
    exact ⟨fun x hx => (h1 x hx).trans (Below.heap_setCell w ⟨g, k, none⟩ v x hx), h2.trans (by simp [World.setCell]), h3, h4, h5⟩
theorem Blk.putsFar {g g' : Nat} {t : TypeId} {w : World} {cs : Array Value} (h : Blk w g t cs) (hne : g ≠ g') (k : Nat) (vs : List Value) : Blk (puts w g' k vs) g t cs := ((puts_heap vs w k).1 g hne).trans h
theorem bl_puts {w v : World} (h : Below w.heap.size w v) {g : Nat} (hg : w.heap.size ≤ g) (k : Nat) (vs : List Value) : Below w.heap.size w (puts v g k vs) := by
  obtain ⟨h1, h2, h3, h4, h5⟩ := puts_heap (g := g) vs v k
  exact ⟨h3.trans h.os, h4.trans h.tape, h5.trans h.output, by rw [h2]; exact h.size, fun i hi => (h1 i (by omega)).trans (h.block i hi)⟩
/-! rows of things of several cells each -/
section
variable {α : Type} {f : α → List Value} {k : Nat}
theorem flat_len (h : ∀ a, (f a).length = k) : ∀ l : List α, (l.flatMap f).length = l.length * k
  | [] => by simp
  | a :: l => by rw [List.flatMap_cons, List.length_append, h, flat_len h l, List.length_cons, Nat.succ_mul, Nat.add_comm]
theorem flat_at (h : ∀ a, (f a).length = k) : ∀ (l : List α) (i : Nat) (a : α), l[i]? = some a → ∀ j u, (f a)[j]? = some u → (l.flatMap f)[i * k + j]? = some u
  | [], i, a, hi => by simp at hi
  | x :: l, 0, a, hi => by
    intro j u hu
    simp at hi
    subst hi
    have hj : j < (f x).length := (List.getElem?_eq_some_iff.1 hu).1
    rw [List.flatMap_cons, Nat.zero_mul, Nat.zero_add, List.getElem?_append_left hj]
    exact hu
  | x :: l, i + 1, a, hi => by
    intro j u hu
    have ih := flat_at h l i a (by simpa using hi) j u hu
    rw [List.flatMap_cons, List.getElem?_append_right (by rw [h, Nat.succ_mul]; omega), h, show (i + 1) * k + j - k = i * k + j from by rw [Nat.succ_mul]; omega]
    exact ih
theorem flat_snoc (l : List α) (a : α) : (l ++ [a]).flatMap f = l.flatMap f ++ f a := by simp
end
theorem own_base {w : World} {base base' : Nat} {e : TypeId} {size : Nat} {v : Value} {n : Nat} {xs : List Value} (h : w.ownsRow base e size v n xs) (hb : base' ≤ base) : w.ownsRow base' e size v n xs := by
  refine ⟨h.1, ?_⟩
  rcases h.2 with hn | ⟨g, cap, cur, rfl, hg, rest⟩
  · exact .inl hn
  · exact .inr ⟨g, cap, cur, rfl, Nat.le_trans hb hg, rest⟩
theorem own_keep {w w' : World} {base : Nat} {e : TypeId} {size : Nat} {v : Value} {n : Nat} {xs : List Value} (h : w.ownsRow base e size v n xs) (hk : ∀ g, v.ownBlock = some g → w'.heap[g]? = w.heap[g]?) : w'.ownsRow base e size v n xs := by
  refine ⟨h.1, ?_⟩
  rcases h.2 with hn | ⟨g, cap, cur, rfl, hb, hgg, rest⟩
  · exact .inl hn
  · exact .inr ⟨g, cap, cur, rfl, hb, (hk g rfl).trans hgg, rest⟩
/-- two rows of unlike elements lie apart; a row and a block of another type too -/
theorem own_ne_blk {w : World} {base : Nat} {e t : TypeId} {size : Nat} {v : Value} {n : Nat} {xs : List Value} {g : Nat} {cs : Array Value} (h : w.ownsRow base e size v n xs) (hb : Blk w g t cs) (hne : e ≠ t) : v.ownBlock ≠ some g := by
  intro hg
  rcases h.2 with ⟨rfl, _⟩ | ⟨g', cap, cur, rfl, _, hgg, _⟩
  · cases hg
  · obtain rfl : g' = g := Option.some.inj hg
    unfold Blk at hb
    rw [hgg] at hb
    injection hb with hb
    injection hb with _ ht
    exact hne ht
theorem own_ne_own {w : World} {base base' : Nat} {e e' : TypeId} {size size' : Nat} {v v' : Value} {n n' : Nat} {xs xs' : List Value} (h : w.ownsRow base e size v n xs) (h' : w.ownsRow base' e' size' v' n' xs') (hne : e ≠ e') {g : Nat} (hg : v.ownBlock = some g) : v'.ownBlock ≠ some g := by
  intro hg'
  rcases h.2 with ⟨rfl, _⟩ | ⟨g1, cap, cur, rfl, _, hgg, _⟩
  · cases hg
  · rcases h'.2 with ⟨rfl, _⟩ | ⟨g2, cap', cur', rfl, _, hgg', _⟩
    · cases hg'
    · obtain rfl : g1 = g := Option.some.inj hg
      obtain rfl : g2 = g1 := Option.some.inj hg'
      rw [hgg] at hgg'
      injection hgg' with hb
      injection hb with _ ht
      exact hne ht
/-- a slice from its row's begin on that holds these things -/
def Lies {α : Type} (f : α → List Value) (e : TypeId) (k : Nat) (w : World) (v : Value) (l : List α) : Prop := w.ownsRow 0 e k v l.length (l.flatMap f)
section
variable {α : Type} {f : α → List Value} {e : TypeId} {k : Nat} {w w' : World} {v : Value} {l : List α}
theorem Lies.nil : Lies f e k w (.slice none 0 0) [] := World.ownsRow_nil w 0 e k
theorem Lies.of {base : Nat} (h : w.ownsRow base e k v l.length (l.flatMap f)) : Lies f e k w v l := own_base h (Nat.zero_le _)
theorem Lies.below (h : Lies f e k w v l) (hb : Below w.heap.size w w') : Lies f e k w' v l := own_keep h fun g hg => hb.block g (h.lt g hg).2
theorem Lies.keep (h : Lies f e k w v l) (hk : ∀ g, v.ownBlock = some g → w'.heap[g]? = w.heap[g]?) : Lies f e k w' v l := own_keep h hk
theorem Lies.far (h : Lies f e k w v l) {p : Addr} (hp : v.ownBlock ≠ some p.block) (u : Value) : Lies f e k (w.setCell p u) v l :=
  own_keep h fun g hg => Below.heap_setCell _ _ _ _ (fun e => hp (by rw [hg, e]))
theorem Lies.putsFar (h : Lies f e k w v l) {g : Nat} (hg : v.ownBlock ≠ some g) (j : Nat) (vs : List Value) : Lies f e k (puts w g j vs) v l :=
  own_keep h fun x hx => (puts_heap vs w j).1 x (fun e => hg (by rw [hx, e]))
theorem Lies.alloc (h : Lies f e k w v l) (o : Obj) : Lies f e k (w.alloc o) v l := World.ownsRow.alloc h o
theorem Lies.ends {A : Option Addr} {n c : Nat} (h : Lies f e k w (.slice A n c) l) : n = l.length ∧ n ≤ c ∧ c ≤ maxLen ∧ (0 < n → ∃ g, A = some ⟨g, 0, none⟩ ∧ g < w.heap.size) := by
  rcases h.2 with ⟨h1, h2⟩ | ⟨g, cap, cur, h1, _, hg, hc, hm, _⟩
  · injection h1 with e1 e2 e3
    subst e1 e2 e3
    exact ⟨h2.symm, Nat.le_refl _, Nat.zero_le _, fun h => absurd h (Nat.lt_irrefl 0)⟩
  · injection h1 with e1 e2 e3
    subst e1 e2 e3
    exact ⟨rfl, hc, hm, fun _ => ⟨g, rfl, (Array.getElem?_eq_some_iff.1 hg).1⟩⟩
theorem Lies.open (h : Lies f e k w v l) : ∃ A c, v = .slice A l.length c ∧ l.length ≤ c ∧ c ≤ maxLen ∧ (0 < l.length → ∃ g, A = some ⟨g, 0, none⟩ ∧ g < w.heap.size) := by
  rcases h.2 with ⟨rfl, h2⟩ | ⟨g, cap, cur, rfl, _, hg, hc, hm, _⟩
  · rw [h2]
    exact ⟨none, 0, rfl, Nat.le_refl _, Nat.zero_le _, fun h => absurd h (Nat.lt_irrefl 0)⟩
  · exact ⟨_, cap, rfl, hc, hm, fun _ => ⟨g, rfl, (Array.getElem?_eq_some_iff.1 hg).1⟩⟩
theorem Lies.at {g n c : Nat} (h : Lies f e k w (.slice (some ⟨g, 0, none⟩) n c) l) (hf : ∀ a, (f a).length = k) {i : Nat} {a : α} (hi : l[i]? = some a) {j : Nat} {u : Value} (hu : (f a)[j]? = some u) : w.cell? ⟨g, i * k + j, none⟩ = some u := by
  have h1 := World.ownsRow.cells h (g := g) rfl (i * k + j) u (flat_at hf l i a hi j u hu)
  have hadd : (⟨g, 0, none⟩ : Addr).add (i * k + j) = ⟨g, i * k + j, none⟩ := by unfold Addr.add; split <;> simp_all
  rwa [hadd] at h1
end
end Go.Proofs.YtcgkfgklggjmaaaDoor
end
section
namespace Go.Proofs.YtcgkfgklggjmaaaDoor.Par
set_option linter.unusedVariables false
set_option linter.unusedSimpArgs false
open Go.RowKit
theorem own_slice {w : World} {base : Nat} {e : TypeId} {size : Nat} {v : Value} {n : Nat} {xs : List Value} (h : w.ownsRow base e size v n xs) : ∃ A cap, v = .slice A n cap ∧ n ≤ cap ∧ (0 < n → ∃ g, A = some ⟨g, 0, none⟩) := by
  rcases h.2 with ⟨rfl, rfl⟩ | ⟨g, cap, cur, rfl, _, _, hc, _⟩
  · exact ⟨none, 0, rfl, Nat.le_refl _, fun h => absurd h (by omega)⟩
  · exact ⟨_, cap, rfl, hc, fun _ => ⟨g, rfl⟩⟩
theorem toks_len : ∀ ts : List Tok, (toksCells ts).length = ts.length * 4
  | [] => rfl
  | t :: ts => by
    have := toks_len ts
    simp only [toksCells, List.flatMap_cons, List.length_append, List.length_cons] at this ⊢
    simp only [tokCells, List.length_cons, List.length_nil]
    omega
theorem toks_at : ∀ (ts : List Tok) (k : Nat) (t : Tok), ts[k]? = some t → ∀ j u, (tokCells t)[j]? = some u → (toksCells ts)[k * 4 + j]? = some u
  | [], k, t, h => by simp at h
  | x :: ts, 0, t, h => by
    intro j u hu
    simp at h
    subst h
    have hj : j < 4 := by
      have := (List.getElem?_eq_some_iff.1 hu).1
      simpa [tokCells] using this
    simp only [toksCells, List.flatMap_cons]
    rw [List.getElem?_append_left (by simp [tokCells]; omega)]
    simpa using hu
  | x :: ts, k + 1, t, h => by
    intro j u hu
    have ih := toks_at ts k t (by simpa using h) j u hu
    simp only [toksCells, List.flatMap_cons] at ih ⊢
    rw [List.getElem?_append_right (by simp [tokCells]; omega)]
    rw [show (k + 1) * 4 + j - (tokCells x).length = k * 4 + j from by simp [tokCells]; omega]
    exact ih
theorem tok_cells {w : World} {base : Nat} {e : TypeId} {g n cap : Nat} {ts : List Tok} (h : w.ownsRow base e 4 (.slice (some ⟨g, 0, none⟩) n cap) n (toksCells ts)) {k : Nat} {t : Tok} (hk : ts[k]? = some t) (hn : n = ts.length) :
    w.cell? ⟨g, k * 4, none⟩ = some (.int .i64 t.kind) ∧ w.cell? ⟨g, k * 4 + 1, none⟩ = some (.string t.text) ∧ w.cell? ⟨g, k * 4 + 2, none⟩ = some (.int .i64 t.line) ∧ w.cell? ⟨g, k * 4 + 3, none⟩ = some (.int .i64 t.col) := by
  have hl := (List.getElem?_eq_some_iff.1 hk).1
  refine ⟨?_, ?_, ?_, ?_⟩
  · exact (h.cellAt (k * 4 + 0) (by omega)).trans (toks_at ts k t hk 0 _ rfl)
  · exact (h.cellAt (k * 4 + 1) (by omega)).trans (toks_at ts k t hk 1 _ rfl)
  · exact (h.cellAt (k * 4 + 2) (by omega)).trans (toks_at ts k t hk 2 _ rfl)
  · exact (h.cellAt (k * 4 + 3) (by omega)).trans (toks_at ts k t hk 3 _ rfl)
/-- what a method of the parser leaves as it was: every old block but the parser's -/
structure Fr (b : Nat) (w w' : World) : Prop where
  os : w'.os = w.os
  tape : w'.tape = w.tape
  output : w'.output = w.output
  size : w.heap.size ≤ w'.heap.size
  block : ∀ g, g < w.heap.size → g ≠ b → w'.heap[g]? = w.heap[g]?
theorem Fr.refl (b : Nat) (w : World) : Fr b w w := ⟨rfl, rfl, rfl, Nat.le_refl _, fun _ _ _ => rfl⟩
theorem Fr.trans {b : Nat} {u v w : World} (h : Fr b u v) (h' : Fr b v w) : Fr b u w :=
  ⟨h'.os.trans h.os, h'.tape.trans h.tape, h'.output.trans h.output, Nat.le_trans h.size h'.size, fun g hg hb => (h'.block g (Nat.lt_of_lt_of_le hg h.size) hb).trans (h.block g hg hb)⟩
theorem Fr.drew {b : Nat} {w v : World} (h : Fr b w v) : Fr b w v.drew := ⟨h.os, h.tape, h.output, h.size, h.block⟩
theorem Fr.drewN {b : Nat} {w v : World} (h : Fr b w v) (n : Nat) : Fr b w (v.drewN n) := ⟨h.os, h.tape, h.output, h.size, h.block⟩
theorem Fr.ofDrew {b : Nat} {w v : World} (h : Fr b w.drew v) : Fr b w v := ⟨h.os, h.tape, h.output, h.size, h.block⟩
theorem Fr.ofDrewN {b n : Nat} {w v : World} (h : Fr b (w.drewN n) v) : Fr b w v := ⟨h.os, h.tape, h.output, h.size, h.block⟩
theorem Fr.of_below {b : Nat} {w w' : World} (h : Below w.heap.size w w') : Fr b w w' := ⟨h.os, h.tape, h.output, h.size, fun g hg _ => h.block g hg⟩
theorem Fr.set {b : Nat} {w v : World} (h : Fr b w v) (p : Addr) (hp : p.block = b) (u : Value) : Fr b w (v.setCell p u) :=
  h.trans ⟨rfl, rfl, rfl, by simp [World.setCell], fun g _ hb => Below.heap_setCell _ _ _ _ (by rw [hp]; exact hb)⟩
theorem Fr.blk {b : Nat} {w w' : World} {g : Nat} {t : TypeId} {cs : Array Value} (h : Fr b w w') (hk : Blk w g t cs) (hg : g ≠ b) : Blk w' g t cs := (h.block g hk.lt hg).trans hk
theorem Fr.setNew {b : Nat} {w v : World} (h : Fr b w v) (p : Addr) (hp : w.heap.size ≤ p.block) (u : Value) : Fr b w (v.setCell p u) :=
  ⟨h.os, h.tape, h.output, Nat.le_trans h.size (by simp [World.setCell]), fun g hg hb => (Below.heap_setCell _ _ _ _ (by omega)).trans (h.block g hg hb)⟩
theorem Fr.putsNew {b : Nat} {w v : World} (h : Fr b w v) {g : Nat} (hg : w.heap.size ≤ g) (k : Nat) (vs : List Value) : Fr b w (puts v g k vs) := by
  obtain ⟨h1, h2, h3, h4, h5⟩ := puts_heap (g := g) vs v k
  exact ⟨h3.trans h.os, h4.trans h.tape, h5.trans h.output, by rw [h2]; exact h.size, fun i hi hb => (h1 i (by omega)).trans (h.block i hi hb)⟩
theorem Fr.trans_grown {b : Nat} {w v w' : World} {row : Option Nat} (h : Fr b w v) (hg : v.grownBy w' row) (hr : ∀ g, g < w.heap.size → row ≠ some g) : Fr b w w' :=
  ⟨hg.os.trans h.os, hg.tape.trans h.tape, hg.output.trans h.output, Nat.le_trans h.size hg.size, fun g hgl hb => (hg.block g (Nat.lt_of_lt_of_le hgl h.size) (fun e => hr g hgl e.symm)).trans (h.block g hgl hb)⟩
theorem beq_refl_bytes (a : ByteArray) : (a == a) = true := by
  cases a with
  | mk d => exact beq_self_eq_true d
theorem beq_bytes (a b : ByteArray) : (a.toList == b.toList) = (a == b) := by
  rw [Lib.toList_data, Lib.toList_data]
  by_cases h : a = b
  · subst h
    rw [beq_refl_bytes, beq_self_eq_true]
  · have h1 : (a == b) = false := by
      cases hh : (a == b) with
      | true => exact absurd (text_eq hh) h
      | false => rfl
    have h2 : (a.data.toList == b.data.toList) = false := beq_eq_false_iff_ne.2 (fun e => h (by apply ByteArray.ext; exact Array.toList_inj.mp e))
    rw [h1, h2]
end Go.Proofs.YtcgkfgklggjmaaaDoor.Par
end
section
namespace Go.Proofs.YtcgkfgklggjmaaaDoor
set_option linter.unusedVariables false
set_option linter.unusedSimpArgs false
open Go.RowKit
theorem leap_any (y : Int) (w : World) :
    Calls Tryd.prog 144 #[.int .i64 y] w fun e w' => e = .returned (.bool (leapB y)) ∧ w = w' := by
  go_enter Tryd.func144, Tryd.ntmps144
  go_wp2
  all_goals
    go_ret
    refine ⟨ret_bool ?_, rfl⟩
    simp only [leapB]
    simp only [tmod_beq, tmod_bne, bne_iff_ne, ne_eq, beq_iff_eq, tmod_zero] at *
    simp [*]
theorem rleap_any (y : Int) (w : World) :
    Calls Tryd.prog 134 #[.int .i64 y] w fun e w' => e = .returned (.bool (leapB y)) ∧ w = w' := by
  go_enter Tryd.func134, Tryd.ntmps134
  go_wp2
  all_goals
    go_ret
    refine ⟨ret_bool ?_, rfl⟩
    simp only [beq_iff_eq, beq_eq_false_iff_ne, ne_eq, tmod_zero, tmod_beq] at *
    first | (rw [leap_400 _ (by assumption)]; done) | (rw [leap_100 _ (by assumption) (by assumption)]; done) | (rw [leap_ref _ (by assumption) (by assumption)]; done)
theorem days_any (y m : Int) (w : World) :
    Calls Tryd.prog 116 #[.int .i64 y, .int .i64 m] w fun e w' => e = .returned (.int .i64 (daysI y m)) ∧ w = w' := by
  go_enter Tryd.func116, Tryd.ntmps116
  go_wp2_with (go_at_call 144; refine (leap_any _ _).mono ?_; rintro e w' ⟨rfl, rfl⟩)
  all_goals
    go_ret
    refine ⟨ret_int ?_, rfl⟩
    simp only [beq_iff_eq, beq_eq_false_iff_ne, ne_eq] at *
    first
    | (rw [days_30 _ _ (by omega)]; done)
    | (rw [days_31 _ _ (by omega)]; done)
    | (rw [days_none _ _ (by omega)]; done)
    | (subst m; first | rw [days_2t _ (by assumption)] | rw [days_2f _ (by assumption)])
set_option maxHeartbeats 4000000 in
theorem rdays_any (y m : Int) (w : World) :
    Calls Tryd.prog 100 #[.int .i64 y, .int .i64 m] w fun e w' => e = .returned (.int .i64 (daysI y m)) ∧ Below w.heap.size w w' := by
  by_cases h1 : m < 1
  · go_enter Tryd.func100, Tryd.ntmps100
    go_wp2
    go_ret
    exact ⟨ret_int (days_none _ _ (by omega)).symm, Below.refl _ _⟩
  by_cases h2 : 12 < m
  · go_enter Tryd.func100, Tryd.ntmps100
    go_wp2
    go_ret
    exact ⟨ret_int (days_none _ _ (by omega)).symm, Below.refl _ _⟩
  rcases (by omega : m = 1 ∨ m = 2 ∨ m = 3 ∨ m = 4 ∨ m = 5 ∨ m = 6 ∨ m = 7 ∨ m = 8 ∨ m = 9 ∨ m = 10 ∨ m = 11 ∨ m = 12) with rfl | rfl | rfl | rfl | rfl | rfl | rfl | rfl | rfl | rfl | rfl | rfl
  all_goals
    clear h1 h2
    go_enter Tryd.func100, Tryd.ntmps100
    go_wp2_with (go_at_call 134; refine (rleap_any _ _).mono ?_; rintro e w' ⟨rfl, rfl⟩)
  all_goals
    go_ret
    refine ⟨ret_int ?_, ?_⟩
    · first | rfl | exact (days_2t _ (by assumption)).symm | exact (days_2f _ (by assumption)).symm
    · first | exact Below.refl _ _ | exact (Below.refl _ _).alloc (Nat.le_refl _) _
theorem good_any (y m d : Int) (w : World) :
    Calls Tryd.prog 77 #[.agg #[.int .i64 y, .int .i64 m, .int .i64 d]] w fun e w' => e = .returned (.bool (goodB y m d)) ∧ Below w.heap.size w w' := by
  by_cases h1 : 1 ≤ y
  · by_cases h2 : y ≤ 9999
    · by_cases h3 : 1 ≤ d
      · go_enter Tryd.func77, Tryd.ntmps77
        go_wp2
        go_quiet ((go_at_call 116; exact quiet_left (days_any _ _ _)))
        go_wp2
        go_ret
        refine ⟨ret_bool (by simp [goodB, h1, h2, h3] <;> omega), below_drewN ((Below.refl _ _).alloc (Nat.le_refl _) _) _⟩
      · have hd : decide (1 ≤ d) = false := by simpa using h3
        go_enter Tryd.func77, Tryd.ntmps77
        go_wp2
        go_quiet (fail)
        go_wp2
        go_ret
        refine ⟨ret_bool (by simp [goodB, h1, h2, h3] <;> omega), below_drewN ((Below.refl _ _).alloc (Nat.le_refl _) _) _⟩
    · have hd : decide (y ≤ 9999) = false := by simpa using h2
      go_enter Tryd.func77, Tryd.ntmps77
      go_wp2
      go_quiet (fail)
      go_wp2
      go_ret
      refine ⟨ret_bool (by simp [goodB, h1, h2] <;> omega), below_drewN ((Below.refl _ _).alloc (Nat.le_refl _) _) _⟩
  · have hd : decide (1 ≤ y) = false := by simpa using h1
    go_enter Tryd.func77, Tryd.ntmps77
    go_wp2
    go_quiet (fail)
    go_wp2
    go_ret
    refine ⟨ret_bool (by simp [goodB, h1] <;> omega), below_drewN ((Below.refl _ _).alloc (Nat.le_refl _) _) _⟩
theorem rgood_of (y m d : Int) (h : 1 ≤ y ∧ y ≤ 9999 ∧ 1 ≤ m ∧ m ≤ 12 ∧ 1 ≤ d) : decide (d ≤ daysI y m) = goodB y m d := by
  simp [goodB, h.1, h.2.1, h.2.2.2.2]
theorem rgood_no (y m d : Int) (h : y < 1 ∨ 9999 < y ∨ m < 1 ∨ 12 < m ∨ d < 1) : goodB y m d = false := by
  refine Bool.eq_false_iff.2 fun hc => ?_
  have := good_of hc
  omega
end Go.Proofs.YtcgkfgklggjmaaaDoor
end
section
namespace Go.Proofs.YtcgkfgklggjmaaaDoor
set_option linter.unusedVariables false
set_option linter.unusedSimpArgs false
open Go.RowKit
set_option maxHeartbeats 4000000 in
theorem rgood_any (y m d : Int) (w : World) :
    Calls Tryd.prog 62 #[.agg #[.int .i64 y, .int .i64 m, .int .i64 d]] w fun e w' => e = .returned (.bool (goodB y m d)) ∧ Below w.heap.size w w' := by
  by_cases hh : 1 ≤ y ∧ y ≤ 9999 ∧ 1 ≤ m ∧ m ≤ 12 ∧ 1 ≤ d
  · have hg := rgood_of y m d hh
    obtain ⟨h1, h2, h4, h5, h3⟩ := hh
    have HG := Lib.hid hg
    clear hg
    go_enter Tryd.func62, Tryd.ntmps62
    go_wp2
    go_region_held3 (fun w' => w'.cell? ⟨w.heap.size, 0, none⟩ = some (.int .i64 y) ∧ w'.cell? ⟨w.heap.size, 1, none⟩ = some (.int .i64 m) ∧ w'.cell? ⟨w.heap.size, 2, none⟩ = some (.int .i64 d))
      (first
        | go_keep
        | (refine ⟨?_, ?_, ?_⟩ <;> (rw [hb1.cell (by simp)]; simp [go_sem])))
      ((go_at_call 100; refine (rdays_any _ _ _).mono ?_; rintro e w' ⟨rfl, hb1⟩))
    go_wp2
    go_ret
    refine ⟨ret_bool (by rw [HG.out]), ?_⟩
    exact bl_call (bl_drew (bl_alloc (bl_refl _) _)) hb1
  · have hg := rgood_no y m d (by omega)
    have HG := Lib.hid hg
    clear hg
    by_cases h1 : 1 ≤ y
    · by_cases h2 : y ≤ 9999
      · by_cases h4 : 1 ≤ m
        · by_cases h5 : m ≤ 12
          · have h3 : decide (1 ≤ d) = false := by rw [decide_eq_false_iff_not]; omega
            go_enter Tryd.func62, Tryd.ntmps62
            go_wp2
            go_quiet (fail)
            go_wp2
            go_ret
            exact ⟨ret_bool (by rw [HG.out]), below_drewN ((Below.refl _ _).alloc (Nat.le_refl _) _) _⟩
          · have h3 : decide (m ≤ 12) = false := by rw [decide_eq_false_iff_not]; omega
            go_enter Tryd.func62, Tryd.ntmps62
            go_wp2
            go_quiet (fail)
            go_wp2
            go_ret
            exact ⟨ret_bool (by rw [HG.out]), below_drewN ((Below.refl _ _).alloc (Nat.le_refl _) _) _⟩
        · have h3 : decide (1 ≤ m) = false := by rw [decide_eq_false_iff_not]; omega
          go_enter Tryd.func62, Tryd.ntmps62
          go_wp2
          go_quiet (fail)
          go_wp2
          go_ret
          exact ⟨ret_bool (by rw [HG.out]), below_drewN ((Below.refl _ _).alloc (Nat.le_refl _) _) _⟩
      · have h3 : decide (y ≤ 9999) = false := by rw [decide_eq_false_iff_not]; omega
        go_enter Tryd.func62, Tryd.ntmps62
        go_wp2
        go_quiet (fail)
        go_wp2
        go_ret
        exact ⟨ret_bool (by rw [HG.out]), below_drewN ((Below.refl _ _).alloc (Nat.le_refl _) _) _⟩
    · have h3 : decide (1 ≤ y) = false := by rw [decide_eq_false_iff_not]; omega
      go_enter Tryd.func62, Tryd.ntmps62
      go_wp2
      go_quiet (fail)
      go_wp2
      go_ret
      exact ⟨ret_bool (by rw [HG.out]), below_drewN ((Below.refl _ _).alloc (Nat.le_refl _) _) _⟩
end Go.Proofs.YtcgkfgklggjmaaaDoor
end
section
namespace Go.Proofs.YtcgkfgklggjmaaaDoor
set_option linter.unusedVariables false
set_option linter.unusedSimpArgs false
open Go.RowKit
theorem width_one (s : ByteArray) (pos : Nat) (h : pos < s.size) : ((s[pos]'h).toNat < 128 ∧ Utf8.decode s pos = ((s[pos]'h).toNat, 1)) ∨ (128 ≤ (s[pos]'h).toNat ∧ 128 ≤ (Utf8.decode s pos).1 ∧ (Utf8.decode s pos).1 ≤ 2147483647) := by
  by_cases ha : (s[pos]'h).toNat < 128
  · exact .inl ⟨ha, decode_ascii s pos h ha⟩
  · exact .inr ⟨by omega, (decode_high s pos h (by omega)).1, decode_le s pos⟩
def pOk (s : ByteArray) : Bool := parseOk s.data.toList
def pY (s : ByteArray) : Int := if parseOk s.data.toList then parseY s.data.toList else 0
def pM (s : ByteArray) : Int := if parseOk s.data.toList then parseM s.data.toList else 0
def pD (s : ByteArray) : Int := if parseOk s.data.toList then parseD s.data.toList else 0
theorem p_no {s : ByteArray} (h : parseOk s.data.toList = false) : pY s = 0 ∧ pM s = 0 ∧ pD s = 0 ∧ pOk s = false := by simp [pY, pM, pD, pOk, h]
theorem p_yes {s : ByteArray} (h : parseOk s.data.toList = true) : pY s = parseY s.data.toList ∧ pM s = parseM s.data.toList ∧ pD s = parseD s.data.toList ∧ pOk s = true := by simp [pY, pM, pD, pOk, h]
theorem shape_no {l : List UInt8} (h : dateShape l = false) : parseOk l = false := by simp [parseOk, h]
theorem shape_n0 {l t : List UInt8} (e : t = l.take 4) (h : t.all isDig = false) : dateShape l = false := by subst e; simp only [dateShape, h, Bool.and_false, Bool.false_and]
theorem shape_n1 {l t : List UInt8} (e : t = (l.drop 5).take 2) (h : t.all isDig = false) : dateShape l = false := by subst e; simp only [dateShape, h, Bool.and_false, Bool.false_and]
theorem shape_n2 {l t : List UInt8} (e : t = l.drop 8) (h : t.all isDig = false) : dateShape l = false := by subst e; simp only [dateShape, h, Bool.and_false]
theorem all_no (t : ByteArray) (pos : Nat) (hp : pos < t.size) (h : isDig (t[pos]'hp) = false) : t.data.toList.all isDig = false := by
  rw [List.all_eq_false]
  refine ⟨t[pos], ?_, by simp [h]⟩
  have : t[pos] = t.data.toList[pos]'(by simpa using hp) := rfl
  rw [this]
  exact List.getElem_mem _
theorem shape_yes {l : List UInt8} (h0 : l.length = 10) (h4 : ((l.getD 4 0).toNat : Int) = 45) (h7 : ((l.getD 7 0).toNat : Int) = 45) (a0 : (l.take 4).all isDig = true) (a1 : ((l.drop 5).take 2).all isDig = true) (a2 : (l.drop 8).all isDig = true) : dateShape l = true := by
  have e4 : l.getD 4 0 = 45 := UInt8.toNat.inj (by show _ = 45; omega)
  have e7 : l.getD 7 0 = 45 := UInt8.toNat.inj (by show _ = 45; omega)
  simp only [dateShape, h0, e4, e7, a0, a1, a2]; rfl
def DigN (t : ByteArray) (n : Int) : Prop := t.data.toList.all isDig = true ∧ n = numL t.data.toList
def OutRel (t0 t1 t2 : ByteArray) (i n0 n1 n2 : Int) : Prop :=
  (i = 0 ∧ n0 = 0 ∧ n1 = 0 ∧ n2 = 0) ∨ (i = 1 ∧ DigN t0 n0 ∧ n1 = 0 ∧ n2 = 0) ∨ (i = 2 ∧ DigN t0 n0 ∧ DigN t1 n1 ∧ n2 = 0) ∨ (i = 3 ∧ DigN t0 n0 ∧ DigN t1 n1 ∧ DigN t2 n2)
theorem numL_lt4 (t : ByteArray) (pos : Nat) (h : (t.data.toList.take pos).all isDig = true) (hp : pos ≤ 4) : 0 ≤ numL (t.data.toList.take pos) ∧ numL (t.data.toList.take pos) < 10000 := by
  have := numL_bd _ h
  have hl : (t.data.toList.take pos).length ≤ 4 := Nat.le_trans (List.length_take_le _ _) hp
  rcases (by omega : (t.data.toList.take pos).length = 0 ∨ (t.data.toList.take pos).length = 1 ∨ (t.data.toList.take pos).length = 2 ∨ (t.data.toList.take pos).length = 3 ∨ (t.data.toList.take pos).length = 4) with h | h | h | h | h
  all_goals
    rw [h] at this
    omega
set_option maxHeartbeats 4000000 in
theorem dparse_any (s : ByteArray) (w : World) :
    Calls Tryd.prog 90 #[.string s] w fun e w' => e = .returned (.tuple #[.agg #[.int .i64 (pY s), .int .i64 (pM s), .int .i64 (pD s)], .bool (pOk s)]) ∧ Below w.heap.size w w' := by
  by_cases hz : s.size = 10
  · have b4 : 4 < s.size := by omega
    have b7 : 7 < s.size := by omega
    have h4 : ∃ x : Int, ((s[4]'b4).toNat : Int) = x ∧ (s.data.toList.getD 4 0).toNat = x := ⟨_, rfl, by simp [List.getD, hz]; rfl⟩
    have h7 : ∃ x : Int, ((s[7]'b7).toNat : Int) = x ∧ (s.data.toList.getD 7 0).toNat = x := ⟨_, rfl, by simp [List.getD, hz]; rfl⟩
    obtain ⟨x4, hx4, hy4⟩ := h4
    obtain ⟨x7, hx7, hy7⟩ := h7
    have HY4 := Lib.hid hy4
    have HY7 := Lib.hid hy7
    clear hy4 hy7
    by_cases c4 : x4 = 45
    · by_cases c7 : x7 = 45
      · subst c4 c7
        go_enter Tryd.func90, Tryd.ntmps90
        go_wp2_with fail
        go_quiet (fail)
        go_wp2_with fail
        have z0 : (s.extract 0 4).size = 4 := by simp; omega
        have z1 : (s.extract 5 7).size = 2 := by simp; omega
        have z2 : (s.extract 8 10).size = 2 := by simp; omega
        have l0 : (s.extract 0 4).data.toList = s.data.toList.take 4 := by simp [Lib.extract_data]
        have l1 : (s.extract 5 7).data.toList = (s.data.toList.drop 5).take 2 := by simp [Lib.extract_data]
        have l2 : (s.extract 8 10).data.toList = s.data.toList.drop 8 := by
          simp [Lib.extract_data]
          exact List.take_of_length_le (by simp [hz])
        generalize s.extract 0 4 = t0 at *
        generalize s.extract 5 7 = t1 at *
        generalize s.extract 8 10 = t2 at *
        have L0 := Lib.hid l0
        have L1 := Lib.hid l1
        have L2 := Lib.hid l2
        have Z0 := Lib.hid z0
        have Z1 := Lib.hid z1
        have Z2 := Lib.hid z2
        clear l0 l1 l2 z0 z1 z2
        go_loopw [31] (fun v wr => ∃ i n0 n1 n2 : Int, v = .int .i64 i ∧ Blk wr w.heap.size 24 #[.int .i64 0, .int .i64 0, .int .i64 0] ∧ Blk wr (w.heap.size + 1) 165 #[.int .i64 n0, .int .i64 n1, .int .i64 n2] ∧ Below w.heap.size w wr ∧ OutRel t0 t1 t2 i n0 n1 n2) (fun v _ => (3 - intOf v).toNat)
        case atStart => exact ⟨0, 0, 0, 0, rfl, ((Blk.new _ _ _).alloc _).drewN _, Blk.drewN (by have := Blk.new (w.alloc (Obj.cells #[.int .i64 0, .int .i64 0, .int .i64 0] 24)) 165 #[.int .i64 0, .int .i64 0, .int .i64 0]; simpa using this) _, bl_drewN (bl_alloc (bl_alloc (bl_refl _) _) _) _, .inl ⟨rfl, rfl, rfl, rfl⟩⟩
        case round =>
          obtain ⟨i, n0, n1, n2, rfl, hb0, hb1, hbw, hor⟩ := hrel
          have i0 : ∀ w, (Instr.index 166 (.agg #[.string t0, .string t1, .string t2]) (.int .i64 0)).run Tryd.prog w = .ok (.string t0) w := fun _ => by kernel_rfl
          have i1 : ∀ w, (Instr.index 166 (.agg #[.string t0, .string t1, .string t2]) (.int .i64 1)).run Tryd.prog w = .ok (.string t1) w := fun _ => by kernel_rfl
          have i2 : ∀ w, (Instr.index 166 (.agg #[.string t0, .string t1, .string t2]) (.int .i64 2)).run Tryd.prog w = .ok (.string t2) w := fun _ => by kernel_rfl
          rcases hor with ⟨rfl, rfl, rfl, rfl⟩ | ⟨rfl, hd0, rfl, rfl⟩ | ⟨rfl, hd0, hd1, rfl⟩ | ⟨rfl, hd0, hd1, hd2⟩
          · obtain ⟨wo, rfl⟩ : ∃ wo : World, wo = wr := ⟨_, rfl⟩
            have hlt0 := hb0.lt
            have hlt1 := hb1.lt
            have hbo := hbw.size
            go_wp2_with fail
            go_loopw [8] (fun _ wi => ∃ pos : Nat, wi.heap[wo.heap.size]? = some (.stringIter t0 pos) ∧ Blk wi w.heap.size 24 #[.int .i64 0, .int .i64 0, .int .i64 0] ∧ Blk wi (w.heap.size + 1) 165 #[.int .i64 (numL (t0.data.toList.take pos)), .int .i64 0, .int .i64 0] ∧ Below w.heap.size w wi ∧ Hid ((t0.data.toList.take pos).all isDig = true) ∧ pos ≤ t0.size) (fun _ wi => t0.size - wi.iterPos wo.heap.size)
            case atStart => exact ⟨0, World.iter_heap wo t0 0, hb0.alloc _, (hb1.alloc _), bl_alloc hbw _, by simp [Hid], Nat.zero_le _⟩
            case round =>
              obtain ⟨pos, hit, hi0, hi1, hbi, HA, hpl⟩ := hrel
              have hpos0 := iterPos_of hit
              clear hb0 hb1 hbw
              by_cases hp : pos < t0.size
              · have hnx : ∀ ty, (Instr.next (.pointer (some ⟨wo.heap.size, 0, none⟩)) true ty).run Tryd.prog wr = _ := fun ty => Lib.run_next_any_at wr wo.heap.size t0 pos ty hit hp
                have hit2 := Lib.iterAt_heap wr wo.heap.size t0 pos (pos + (Utf8.decode t0 pos).2) hit
                have hbw2 := Lib.below_iterAt hbi (k := wo.heap.size) hbo t0 (pos + (Utf8.decode t0 pos).2)
                have hj0 := hi0.iterAt (k := wo.heap.size) (by omega) t0 (pos + (Utf8.decode t0 pos).2)
                have hj1 := hi1.iterAt (k := wo.heap.size) (by omega) t0 (pos + (Utf8.decode t0 pos).2)
                have hsn := take_snoc t0 pos hp
                obtain ⟨W1, hW1⟩ : ∃ W1, W1 = wr.iterAt wo.heap.size t0 (pos + (Utf8.decode t0 pos).2) := ⟨_, rfl⟩
                rw [← hW1] at hnx hit2 hbw2 hj0 hj1
                clear hW1 hit hi0 hi1 hbi
                have HS := Lib.hid hsn
                clear hsn
                have hlj1 := hj1.lt
                rcases width_one t0 pos hp with ⟨ha, hde⟩ | ⟨ha, hde, hde2⟩
                · rw [hde] at hnx hit2
                  simp only at hnx hit2
                  clear hde
                  have hc1 : W1.cell? ⟨w.heap.size + 1, 0, none⟩ = some (.int .i64 (numL (t0.data.toList.take pos))) := hj1.cell 0
                  have hf1 : W1.frozen? ⟨w.heap.size + 1, 0, none⟩ = false := hj1.frozen 0
                  have hnb := numL_lt4 t0 pos HA.out (by have := Z0.out; omega)
                  obtain ⟨hnb1, hnb2⟩ := hnb
                  have hbad := all_no t0 pos hp
                  generalize hby : (t0[pos]'hp) = by_ at *
                  have hbl := by_.toNat_lt
                  by_cases hg : 48 ≤ by_.toNat ∧ by_.toNat ≤ 57
                  · obtain ⟨hg1, hg2⟩ := hg
                    have hgi : isDig by_ = true := by simp [isDig, hg1, hg2]
                    have HG := Lib.hid hgi
                    clear hgi hby hbad
                    go_wp2
                    go_roundw
                    case rel =>
                      refine ⟨pos + 1, ?_, ?_, ?_, ?_, ?_, by omega⟩
                      · exact (Below.heap_setCell _ _ _ _ (by simp; omega)).trans hit2
                      · exact hj0.far (by simp) _
                      · rw [HS.out, numL_snoc]
                        have hz := hj1.set_ 0 (.int .i64 (10 * numL (t0.data.toList.take pos) + digI by_))
                        simpa [digI] using hz
                      · exact bl_set hbw2 (by simp) _
                      · show _ = _
                        rw [HS.out]
                        simp [HG.out, HA.out]
                    case measure =>
                      rw [iterPos_of ((Below.heap_setCell _ _ _ _ (by simp; omega)).trans hit2), hpos0]
                      omega
                  · have hnd : isDig by_ = false := by simp [isDig]; omega
                    have hno : parseOk s.data.toList = false := shape_no (shape_n0 L0.out (hbad hnd))
                    obtain ⟨e1, e2, e3, e4⟩ := p_no hno
                    have EH := Lib.hid (And.intro e1 (And.intro e2 (And.intro e3 e4)))
                    clear e1 e2 e3 e4 hno hbad hnd
                    have hcc0 := hj0.cell 0
                    have hcc1 := hj0.cell 1
                    have hcc2 := hj0.cell 2
                    have hff0 := hj0.frozen
                    have hl0 := hj0.lt
                    by_cases hg1 : 48 ≤ by_.toNat
                    all_goals
                      go_wp2
                      rw [EH.out.1, EH.out.2.1, EH.out.2.2.1, EH.out.2.2.2]
                      exact bodyPost_ret (results_cell_tmp_row rfl _ _ w.heap.size _ #[.int .i64 0, .int .i64 0, .int .i64 0] _ rfl (((hj0.set_ 0 _).set_ 1 _).set_ 2 _) Tryd.underlying24 rfl (by kernel_rfl)) rfl ⟨rfl, bl_set (bl_set (bl_set hbw2 (Nat.le_refl _) _) (Nat.le_refl _) _) (Nat.le_refl _) _⟩
                · have hnd : isDig (t0[pos]'hp) = false := by simp [isDig]; omega
                  have hno : parseOk s.data.toList = false := shape_no (shape_n0 L0.out (all_no t0 pos hp hnd))
                  obtain ⟨e1, e2, e3, e4⟩ := p_no hno
                  have EH := Lib.hid (And.intro e1 (And.intro e2 (And.intro e3 e4)))
                  clear e1 e2 e3 e4 hno hnd
                  have hcc0 := hj0.cell 0
                  have hcc1 := hj0.cell 1
                  have hcc2 := hj0.cell 2
                  have hff0 := hj0.frozen
                  have hl0 := hj0.lt
                  generalize (Utf8.decode t0 pos).1 = rr at *
                  go_wp2
                  rw [EH.out.1, EH.out.2.1, EH.out.2.2.1, EH.out.2.2.2]
                  exact bodyPost_ret (results_cell_tmp_row rfl _ _ w.heap.size _ #[.int .i64 0, .int .i64 0, .int .i64 0] _ rfl (((hj0.set_ 0 _).set_ 1 _).set_ 2 _) Tryd.underlying24 rfl (by kernel_rfl)) rfl ⟨rfl, bl_set (bl_set (bl_set hbw2 (Nat.le_refl _) _) (Nat.le_refl _) _) (Nat.le_refl _) _⟩
              · have hpe : pos = t0.size := by omega
                have hnx : ∀ ty, (Instr.next (.pointer (some ⟨wo.heap.size, 0, none⟩)) true ty).run Tryd.prog wr = _ := fun ty => Lib.run_next_end_at wr wo.heap.size t0 pos ty hit hp
                subst hpe
                go_wp2
                go_roundw
                case rel =>
                  have hN : numL (t0.data.toList.take t0.size) = numL t0.data.toList := by rw [List.take_of_length_le (by simp)]
                  have hA : t0.data.toList.all isDig = true := by have := HA.out; rwa [List.take_of_length_le (by simp)] at this
                  exact ⟨0 + 1, _, _, _, by go_num, hi0, hi1, hbi, .inr (.inl ⟨rfl, ⟨hA, hN⟩, rfl, rfl⟩)⟩
                case measure => simp [intOf]
          · obtain ⟨wo, rfl⟩ : ∃ wo : World, wo = wr := ⟨_, rfl⟩
            have hlt0 := hb0.lt
            have hlt1 := hb1.lt
            have hbo := hbw.size
            go_wp2_with fail
            go_loopw [8] (fun _ wi => ∃ pos : Nat, wi.heap[wo.heap.size]? = some (.stringIter t1 pos) ∧ Blk wi w.heap.size 24 #[.int .i64 0, .int .i64 0, .int .i64 0] ∧ Blk wi (w.heap.size + 1) 165 #[.int .i64 n0, .int .i64 (numL (t1.data.toList.take pos)), .int .i64 0] ∧ Below w.heap.size w wi ∧ Hid ((t1.data.toList.take pos).all isDig = true) ∧ pos ≤ t1.size) (fun _ wi => t1.size - wi.iterPos wo.heap.size)
            case atStart => exact ⟨0, World.iter_heap wo t1 0, hb0.alloc _, (hb1.alloc _), bl_alloc hbw _, by simp [Hid], Nat.zero_le _⟩
            case round =>
              obtain ⟨pos, hit, hi0, hi1, hbi, HA, hpl⟩ := hrel
              have hpos0 := iterPos_of hit
              clear hb0 hb1 hbw
              by_cases hp : pos < t1.size
              · have hnx : ∀ ty, (Instr.next (.pointer (some ⟨wo.heap.size, 0, none⟩)) true ty).run Tryd.prog wr = _ := fun ty => Lib.run_next_any_at wr wo.heap.size t1 pos ty hit hp
                have hit2 := Lib.iterAt_heap wr wo.heap.size t1 pos (pos + (Utf8.decode t1 pos).2) hit
                have hbw2 := Lib.below_iterAt hbi (k := wo.heap.size) hbo t1 (pos + (Utf8.decode t1 pos).2)
                have hj0 := hi0.iterAt (k := wo.heap.size) (by omega) t1 (pos + (Utf8.decode t1 pos).2)
                have hj1 := hi1.iterAt (k := wo.heap.size) (by omega) t1 (pos + (Utf8.decode t1 pos).2)
                have hsn := take_snoc t1 pos hp
                obtain ⟨W1, hW1⟩ : ∃ W1, W1 = wr.iterAt wo.heap.size t1 (pos + (Utf8.decode t1 pos).2) := ⟨_, rfl⟩
                rw [← hW1] at hnx hit2 hbw2 hj0 hj1
                clear hW1 hit hi0 hi1 hbi
                have HS := Lib.hid hsn
                clear hsn
                have hlj1 := hj1.lt
                rcases width_one t1 pos hp with ⟨ha, hde⟩ | ⟨ha, hde, hde2⟩
                · rw [hde] at hnx hit2
                  simp only at hnx hit2
                  clear hde
                  have hc1 : W1.cell? ⟨w.heap.size + 1, 1, none⟩ = some (.int .i64 (numL (t1.data.toList.take pos))) := hj1.cell 1
                  have hf1 : W1.frozen? ⟨w.heap.size + 1, 1, none⟩ = false := hj1.frozen 1
                  have hnb := numL_lt4 t1 pos HA.out (by have := Z1.out; omega)
                  obtain ⟨hnb1, hnb2⟩ := hnb
                  have hbad := all_no t1 pos hp
                  generalize hby : (t1[pos]'hp) = by_ at *
                  have hbl := by_.toNat_lt
                  by_cases hg : 48 ≤ by_.toNat ∧ by_.toNat ≤ 57
                  · obtain ⟨hg1, hg2⟩ := hg
                    have hgi : isDig by_ = true := by simp [isDig, hg1, hg2]
                    have HG := Lib.hid hgi
                    clear hgi hby hbad
                    go_wp2
                    go_roundw
                    case rel =>
                      refine ⟨pos + 1, ?_, ?_, ?_, ?_, ?_, by omega⟩
                      · exact (Below.heap_setCell _ _ _ _ (by simp; omega)).trans hit2
                      · exact hj0.far (by simp) _
                      · rw [HS.out, numL_snoc]
                        have hz := hj1.set_ 1 (.int .i64 (10 * numL (t1.data.toList.take pos) + digI by_))
                        simpa [digI] using hz
                      · exact bl_set hbw2 (by simp) _
                      · show _ = _
                        rw [HS.out]
                        simp [HG.out, HA.out]
                    case measure =>
                      rw [iterPos_of ((Below.heap_setCell _ _ _ _ (by simp; omega)).trans hit2), hpos0]
                      omega
                  · have hnd : isDig by_ = false := by simp [isDig]; omega
                    have hno : parseOk s.data.toList = false := shape_no (shape_n1 L1.out (hbad hnd))
                    obtain ⟨e1, e2, e3, e4⟩ := p_no hno
                    have EH := Lib.hid (And.intro e1 (And.intro e2 (And.intro e3 e4)))
                    clear e1 e2 e3 e4 hno hbad hnd
                    have hcc0 := hj0.cell 0
                    have hcc1 := hj0.cell 1
                    have hcc2 := hj0.cell 2
                    have hff0 := hj0.frozen
                    have hl0 := hj0.lt
                    by_cases hg1 : 48 ≤ by_.toNat
                    all_goals
                      go_wp2
                      rw [EH.out.1, EH.out.2.1, EH.out.2.2.1, EH.out.2.2.2]
                      exact bodyPost_ret (results_cell_tmp_row rfl _ _ w.heap.size _ #[.int .i64 0, .int .i64 0, .int .i64 0] _ rfl (((hj0.set_ 0 _).set_ 1 _).set_ 2 _) Tryd.underlying24 rfl (by kernel_rfl)) rfl ⟨rfl, bl_set (bl_set (bl_set hbw2 (Nat.le_refl _) _) (Nat.le_refl _) _) (Nat.le_refl _) _⟩
                · have hnd : isDig (t1[pos]'hp) = false := by simp [isDig]; omega
                  have hno : parseOk s.data.toList = false := shape_no (shape_n1 L1.out (all_no t1 pos hp hnd))
                  obtain ⟨e1, e2, e3, e4⟩ := p_no hno
                  have EH := Lib.hid (And.intro e1 (And.intro e2 (And.intro e3 e4)))
                  clear e1 e2 e3 e4 hno hnd
                  have hcc0 := hj0.cell 0
                  have hcc1 := hj0.cell 1
                  have hcc2 := hj0.cell 2
                  have hff0 := hj0.frozen
                  have hl0 := hj0.lt
                  generalize (Utf8.decode t1 pos).1 = rr at *
                  go_wp2
                  rw [EH.out.1, EH.out.2.1, EH.out.2.2.1, EH.out.2.2.2]
                  exact bodyPost_ret (results_cell_tmp_row rfl _ _ w.heap.size _ #[.int .i64 0, .int .i64 0, .int .i64 0] _ rfl (((hj0.set_ 0 _).set_ 1 _).set_ 2 _) Tryd.underlying24 rfl (by kernel_rfl)) rfl ⟨rfl, bl_set (bl_set (bl_set hbw2 (Nat.le_refl _) _) (Nat.le_refl _) _) (Nat.le_refl _) _⟩
              · have hpe : pos = t1.size := by omega
                have hnx : ∀ ty, (Instr.next (.pointer (some ⟨wo.heap.size, 0, none⟩)) true ty).run Tryd.prog wr = _ := fun ty => Lib.run_next_end_at wr wo.heap.size t1 pos ty hit hp
                subst hpe
                go_wp2
                go_roundw
                case rel =>
                  have hN : numL (t1.data.toList.take t1.size) = numL t1.data.toList := by rw [List.take_of_length_le (by simp)]
                  have hA : t1.data.toList.all isDig = true := by have := HA.out; rwa [List.take_of_length_le (by simp)] at this
                  exact ⟨1 + 1, _, _, _, by go_num, hi0, hi1, hbi, .inr (.inr (.inl ⟨rfl, hd0, ⟨hA, hN⟩, rfl⟩))⟩
                case measure => simp [intOf]
          · obtain ⟨wo, rfl⟩ : ∃ wo : World, wo = wr := ⟨_, rfl⟩
            have hlt0 := hb0.lt
            have hlt1 := hb1.lt
            have hbo := hbw.size
            go_wp2_with fail
            go_loopw [8] (fun _ wi => ∃ pos : Nat, wi.heap[wo.heap.size]? = some (.stringIter t2 pos) ∧ Blk wi w.heap.size 24 #[.int .i64 0, .int .i64 0, .int .i64 0] ∧ Blk wi (w.heap.size + 1) 165 #[.int .i64 n0, .int .i64 n1, .int .i64 (numL (t2.data.toList.take pos))] ∧ Below w.heap.size w wi ∧ Hid ((t2.data.toList.take pos).all isDig = true) ∧ pos ≤ t2.size) (fun _ wi => t2.size - wi.iterPos wo.heap.size)
            case atStart => exact ⟨0, World.iter_heap wo t2 0, hb0.alloc _, (hb1.alloc _), bl_alloc hbw _, by simp [Hid], Nat.zero_le _⟩
            case round =>
              obtain ⟨pos, hit, hi0, hi1, hbi, HA, hpl⟩ := hrel
              have hpos0 := iterPos_of hit
              clear hb0 hb1 hbw
              by_cases hp : pos < t2.size
              · have hnx : ∀ ty, (Instr.next (.pointer (some ⟨wo.heap.size, 0, none⟩)) true ty).run Tryd.prog wr = _ := fun ty => Lib.run_next_any_at wr wo.heap.size t2 pos ty hit hp
                have hit2 := Lib.iterAt_heap wr wo.heap.size t2 pos (pos + (Utf8.decode t2 pos).2) hit
                have hbw2 := Lib.below_iterAt hbi (k := wo.heap.size) hbo t2 (pos + (Utf8.decode t2 pos).2)
                have hj0 := hi0.iterAt (k := wo.heap.size) (by omega) t2 (pos + (Utf8.decode t2 pos).2)
                have hj1 := hi1.iterAt (k := wo.heap.size) (by omega) t2 (pos + (Utf8.decode t2 pos).2)
                have hsn := take_snoc t2 pos hp
                obtain ⟨W1, hW1⟩ : ∃ W1, W1 = wr.iterAt wo.heap.size t2 (pos + (Utf8.decode t2 pos).2) := ⟨_, rfl⟩
                rw [← hW1] at hnx hit2 hbw2 hj0 hj1
                clear hW1 hit hi0 hi1 hbi
                have HS := Lib.hid hsn
                clear hsn
                have hlj1 := hj1.lt
                rcases width_one t2 pos hp with ⟨ha, hde⟩ | ⟨ha, hde, hde2⟩
                · rw [hde] at hnx hit2
                  simp only at hnx hit2
                  clear hde
                  have hc1 : W1.cell? ⟨w.heap.size + 1, 2, none⟩ = some (.int .i64 (numL (t2.data.toList.take pos))) := hj1.cell 2
                  have hf1 : W1.frozen? ⟨w.heap.size + 1, 2, none⟩ = false := hj1.frozen 2
                  have hnb := numL_lt4 t2 pos HA.out (by have := Z2.out; omega)
                  obtain ⟨hnb1, hnb2⟩ := hnb
                  have hbad := all_no t2 pos hp
                  generalize hby : (t2[pos]'hp) = by_ at *
                  have hbl := by_.toNat_lt
                  by_cases hg : 48 ≤ by_.toNat ∧ by_.toNat ≤ 57
                  · obtain ⟨hg1, hg2⟩ := hg
                    have hgi : isDig by_ = true := by simp [isDig, hg1, hg2]
                    have HG := Lib.hid hgi
                    clear hgi hby hbad
                    go_wp2
                    go_roundw
                    case rel =>
                      refine ⟨pos + 1, ?_, ?_, ?_, ?_, ?_, by omega⟩
                      · exact (Below.heap_setCell _ _ _ _ (by simp; omega)).trans hit2
                      · exact hj0.far (by simp) _
                      · rw [HS.out, numL_snoc]
                        have hz := hj1.set_ 2 (.int .i64 (10 * numL (t2.data.toList.take pos) + digI by_))
                        simpa [digI] using hz
                      · exact bl_set hbw2 (by simp) _
                      · show _ = _
                        rw [HS.out]
                        simp [HG.out, HA.out]
                    case measure =>
                      rw [iterPos_of ((Below.heap_setCell _ _ _ _ (by simp; omega)).trans hit2), hpos0]
                      omega
                  · have hnd : isDig by_ = false := by simp [isDig]; omega
                    have hno : parseOk s.data.toList = false := shape_no (shape_n2 L2.out (hbad hnd))
                    obtain ⟨e1, e2, e3, e4⟩ := p_no hno
                    have EH := Lib.hid (And.intro e1 (And.intro e2 (And.intro e3 e4)))
                    clear e1 e2 e3 e4 hno hbad hnd
                    have hcc0 := hj0.cell 0
                    have hcc1 := hj0.cell 1
                    have hcc2 := hj0.cell 2
                    have hff0 := hj0.frozen
                    have hl0 := hj0.lt
                    by_cases hg1 : 48 ≤ by_.toNat
                    all_goals
                      go_wp2
                      rw [EH.out.1, EH.out.2.1, EH.out.2.2.1, EH.out.2.2.2]
                      exact bodyPost_ret (results_cell_tmp_row rfl _ _ w.heap.size _ #[.int .i64 0, .int .i64 0, .int .i64 0] _ rfl (((hj0.set_ 0 _).set_ 1 _).set_ 2 _) Tryd.underlying24 rfl (by kernel_rfl)) rfl ⟨rfl, bl_set (bl_set (bl_set hbw2 (Nat.le_refl _) _) (Nat.le_refl _) _) (Nat.le_refl _) _⟩
                · have hnd : isDig (t2[pos]'hp) = false := by simp [isDig]; omega
                  have hno : parseOk s.data.toList = false := shape_no (shape_n2 L2.out (all_no t2 pos hp hnd))
                  obtain ⟨e1, e2, e3, e4⟩ := p_no hno
                  have EH := Lib.hid (And.intro e1 (And.intro e2 (And.intro e3 e4)))
                  clear e1 e2 e3 e4 hno hnd
                  have hcc0 := hj0.cell 0
                  have hcc1 := hj0.cell 1
                  have hcc2 := hj0.cell 2
                  have hff0 := hj0.frozen
                  have hl0 := hj0.lt
                  generalize (Utf8.decode t2 pos).1 = rr at *
                  go_wp2
                  rw [EH.out.1, EH.out.2.1, EH.out.2.2.1, EH.out.2.2.2]
                  exact bodyPost_ret (results_cell_tmp_row rfl _ _ w.heap.size _ #[.int .i64 0, .int .i64 0, .int .i64 0] _ rfl (((hj0.set_ 0 _).set_ 1 _).set_ 2 _) Tryd.underlying24 rfl (by kernel_rfl)) rfl ⟨rfl, bl_set (bl_set (bl_set hbw2 (Nat.le_refl _) _) (Nat.le_refl _) _) (Nat.le_refl _) _⟩
              · have hpe : pos = t2.size := by omega
                have hnx : ∀ ty, (Instr.next (.pointer (some ⟨wo.heap.size, 0, none⟩)) true ty).run Tryd.prog wr = _ := fun ty => Lib.run_next_end_at wr wo.heap.size t2 pos ty hit hp
                subst hpe
                go_wp2
                go_roundw
                case rel =>
                  have hN : numL (t2.data.toList.take t2.size) = numL t2.data.toList := by rw [List.take_of_length_le (by simp)]
                  have hA : t2.data.toList.all isDig = true := by have := HA.out; rwa [List.take_of_length_le (by simp)] at this
                  exact ⟨2 + 1, _, _, _, by go_num, hi0, hi1, hbi, .inr (.inr (.inr ⟨rfl, hd0, hd1, ⟨hA, hN⟩⟩))⟩
                case measure => simp [intOf]
          · have hc0 : wr.cell? ⟨w.heap.size + 1, 0, none⟩ = some (.int .i64 n0) := hb1.cell 0
            have hc1 : wr.cell? ⟨w.heap.size + 1, 1, none⟩ = some (.int .i64 n1) := hb1.cell 1
            have hc2 : wr.cell? ⟨w.heap.size + 1, 2, none⟩ = some (.int .i64 n2) := hb1.cell 2
            have hyk : parseY s.data.toList = n0 := by rw [hd0.2, L0.out]; rfl
            have hmk : parseM s.data.toList = n1 := by rw [hd1.2, L1.out]; rfl
            have hdk : parseD s.data.toList = n2 := by rw [hd2.2, L2.out]; rfl
            have hsh : dateShape s.data.toList = true := shape_yes (by simpa using hz) (by simpa using HY4.out) (by simpa using HY7.out) (by rw [← L0.out]; exact hd0.1) (by rw [← L1.out]; exact hd1.1) (by rw [← L2.out]; exact hd2.1)
            have hpo : parseOk s.data.toList = goodB n0 n1 n2 := by rw [← hyk, ← hmk, ← hdk]; simp [parseOk, hsh]
            have HP := Lib.hid hpo
            have HK := Lib.hid (And.intro hyk (And.intro hmk hdk))
            clear hyk hmk hdk hsh hpo
            cases hgd : goodB n0 n1 n2 with
            | true =>
              have HY := Lib.hid (p_yes (HP.out.trans hgd))
              go_wp2_with (go_at_call 77; refine (good_any _ _ _ _).mono ?_; rintro e w' ⟨rfl, hgb⟩; (have k0 := (hb0.alloc _).call hgb); (have kd := (Blk.new _ _ _).call hgb); obtain ⟨_, _, _, _, _, _⟩ := k0.c3; obtain ⟨_, _, _, _, _, _⟩ := kd.c3)
              rw [HY.out.1, HY.out.2.1, HY.out.2.2.1, HY.out.2.2.2, HK.out.1, HK.out.2.1, HK.out.2.2]
              exact bodyPost_ret (results_cell_tmp_row rfl _ _ w.heap.size _ #[.int .i64 n0, .int .i64 n1, .int .i64 n2] _ rfl (((k0.set_ 0 _).set_ 1 _).set_ 2 _) Tryd.underlying24 rfl (by kernel_rfl)) rfl ⟨rfl, bl_set (bl_set (bl_set (bl_call (bl_alloc hbw _) hgb) (Nat.le_refl _) _) (Nat.le_refl _) _) (Nat.le_refl _) _⟩
            | false =>
              have HY := Lib.hid (p_no (HP.out.trans hgd))
              go_wp2_with (go_at_call 77; refine (good_any _ _ _ _).mono ?_; rintro e w' ⟨rfl, hgb⟩; (have k0 := (hb0.alloc _).call hgb); (have kd := (Blk.new _ _ _).call hgb); obtain ⟨_, _, _, _, _, _⟩ := k0.c3; obtain ⟨_, _, _, _, _, _⟩ := kd.c3)
              rw [HY.out.1, HY.out.2.1, HY.out.2.2.1, HY.out.2.2.2]
              exact bodyPost_ret (results_cell_tmp_row rfl _ _ w.heap.size _ #[.int .i64 0, .int .i64 0, .int .i64 0] _ rfl (((k0.set_ 0 _).set_ 1 _).set_ 2 _) Tryd.underlying24 rfl (by kernel_rfl)) rfl ⟨rfl, bl_set (bl_set (bl_set (bl_call (bl_alloc hbw _) hgb) (Nat.le_refl _) _) (Nat.le_refl _) _) (Nat.le_refl _) _⟩
      · have hn : parseOk s.data.toList = false := shape_no (by
          have hu : ¬ s.data.toList.getD 7 0 = 45 := fun he => c7 (by rw [← HY7.out, he]; rfl)
          have he := beq_eq_false_iff_ne.2 hu
          simp only [dateShape, he, Bool.and_false, Bool.false_and])
        obtain ⟨e1, e2, e3, e4⟩ := p_no hn
        rw [e1, e2, e3, e4]
        clear e1 e2 e3 e4 hn
        have c7b : (x7 != 45) = true := by simpa using c7
        subst c4
        go_enter Tryd.func90, Tryd.ntmps90
        go_wp2
        exact bodyPost_ret (v := .tuple #[.agg #[.int .i64 0, .int .i64 0, .int .i64 0], .bool false]) (by simp [results, Tryd.results90, go_sem]) rfl ⟨rfl, bl_alloc (bl_refl _) _⟩
    · have hn : parseOk s.data.toList = false := shape_no (by
        have hu : ¬ s.data.toList.getD 4 0 = 45 := fun he => c4 (by rw [← HY4.out, he]; rfl)
        have he := beq_eq_false_iff_ne.2 hu
        simp only [dateShape, he, Bool.and_false, Bool.false_and])
      obtain ⟨e1, e2, e3, e4⟩ := p_no hn
      rw [e1, e2, e3, e4]
      clear e1 e2 e3 e4 hn
      have c4b : (x4 != 45) = true := by simpa using c4
      go_enter Tryd.func90, Tryd.ntmps90
      go_wp2
      exact bodyPost_ret (v := .tuple #[.agg #[.int .i64 0, .int .i64 0, .int .i64 0], .bool false]) (by simp [results, Tryd.results90, go_sem]) rfl ⟨rfl, bl_alloc (bl_refl _) _⟩
  · have hn : parseOk s.data.toList = false := shape_no (by
      have he : (s.data.toList.length == 10) = false := beq_eq_false_iff_ne.2 (by simpa using hz)
      simp only [dateShape, he, Bool.false_and])
    obtain ⟨e1, e2, e3, e4⟩ := p_no hn
    rw [e1, e2, e3, e4]
    clear e1 e2 e3 e4 hn
    have h1 : ((s.size : Int) != 10) = true := by simp; omega
    go_enter Tryd.func90, Tryd.ntmps90
    go_wp2
    exact bodyPost_ret (v := .tuple #[.agg #[.int .i64 0, .int .i64 0, .int .i64 0], .bool false]) (by simp [results, Tryd.results90, go_sem]) rfl ⟨rfl, bl_alloc (bl_refl _) _⟩
end Go.Proofs.YtcgkfgklggjmaaaDoor
end
section
namespace Go.Proofs.YtcgkfgklggjmaaaDoor
set_option linter.unusedVariables false
set_option linter.unusedSimpArgs false
open Go.RowKit
def rN (l : List UInt8) : Nat → Int
  | 0 => 0
  | k + 1 => if k = 4 ∨ k = 7 then rN l k else 10 * rN l k + digI (l.getD k 0)
def rOkAt (l : List UInt8) (k : Nat) : Bool := if k = 4 ∨ k = 7 then l.getD k 0 == 45 else isDig (l.getD k 0)
theorem rN_skip (l : List UInt8) (k : Nat) (h : k = 4 ∨ k = 7) : rN l (k + 1) = rN l k := by simp [rN, h]
theorem rN_more (l : List UInt8) (k : Nat) (h : ¬ (k = 4 ∨ k = 7)) : rN l (k + 1) = 10 * rN l k + digI (l.getD k 0) := by simp only [rN, h, if_false]
theorem rOk_dig (l : List UInt8) (k : Nat) (h : ¬ (k = 4 ∨ k = 7)) : rOkAt l k = isDig (l.getD k 0) := by simp only [rOkAt, h, if_false]
theorem rOk_str (l : List UInt8) (k : Nat) (h : k = 4 ∨ k = 7) : rOkAt l k = (l.getD k 0 == 45) := by simp only [rOkAt, h, if_true]
theorem rN_bd (l : List UInt8) : ∀ k, (∀ j, j < k → rOkAt l j = true) → 0 ≤ rN l k ∧ rN l k < 10 ^ k
  | 0, _ => by simp [rN]
  | k + 1, h => by
    have ih := rN_bd l k fun j hj => h j (by omega)
    have hk := h k (by omega)
    rw [Int.pow_succ]
    by_cases hc : k = 4 ∨ k = 7
    · rw [rN_skip l k hc]; omega
    · rw [rN_more l k hc]
      rw [rOk_dig l k hc] at hk
      have := digI_bd hk
      omega
theorem rN_lt (l : List UInt8) (k : Nat) (hk : k ≤ 10) (h : ∀ j, j < k → rOkAt l j = true) : 0 ≤ rN l k ∧ rN l k < 10000000000 := by
  have h1 := rN_bd l k h
  rcases (by omega : k = 0 ∨ k = 1 ∨ k = 2 ∨ k = 3 ∨ k = 4 ∨ k = 5 ∨ k = 6 ∨ k = 7 ∨ k = 8 ∨ k = 9 ∨ k = 10) with h | h | h | h | h | h | h | h | h | h | h
  all_goals
    rw [h] at h1
    rw [h]
    omega
theorem ten (l : List UInt8) (h : l.length = 10) : ∃ a b c d e f g i j k, l = [a, b, c, d, e, f, g, i, j, k] := by
  match l, h with
  | [a, b, c, d, e, f, g, i, j, k], _ => exact ⟨a, b, c, d, e, f, g, i, j, k, rfl⟩
theorem shape_iff (l : List UInt8) (h : l.length = 10) : dateShape l = true ↔ ∀ j, j < 10 → rOkAt l j = true := by
  obtain ⟨a, b, c, d, e, f, g, i, j, k, rfl⟩ := ten l h
  constructor
  · intro hs n hn
    simp [dateShape] at hs
    rcases (by omega : n = 0 ∨ n = 1 ∨ n = 2 ∨ n = 3 ∨ n = 4 ∨ n = 5 ∨ n = 6 ∨ n = 7 ∨ n = 8 ∨ n = 9) with rfl | rfl | rfl | rfl | rfl | rfl | rfl | rfl | rfl | rfl <;> simp [rOkAt, hs]
  · intro hs
    have h0 := hs 0 (by omega); have h1 := hs 1 (by omega); have h2 := hs 2 (by omega); have h3 := hs 3 (by omega); have h4 := hs 4 (by omega)
    have h5 := hs 5 (by omega); have h6 := hs 6 (by omega); have h7 := hs 7 (by omega); have h8 := hs 8 (by omega); have h9 := hs 9 (by omega)
    simp [rOkAt] at h0 h1 h2 h3 h4 h5 h6 h7 h8 h9
    simp [dateShape, *]
theorem rok_no {l : List UInt8} (h : l.length = 10) {k : Nat} (hk : k < 10) (hn : rOkAt l k = false) : parseOk l = false := shape_no (by
  cases hs : dateShape l with
  | false => rfl
  | true => have := (shape_iff l h).1 hs k hk; rw [hn] at this; cases this)
theorem rN_end (l : List UInt8) (h : l.length = 10) (ho : ∀ j, j < 10 → rOkAt l j = true) :
    rN l 10 / 10000 = parseY l ∧ rN l 10 / 100 % 100 = parseM l ∧ rN l 10 % 100 = parseD l := by
  obtain ⟨a, b, c, d, e, f, g, i, j, k, rfl⟩ := ten l h
  have h0 := digI_bd (ho 0 (by omega)); have h1 := digI_bd (ho 1 (by omega)); have h2 := digI_bd (ho 2 (by omega)); have h3 := digI_bd (ho 3 (by omega))
  have h5 := digI_bd (ho 5 (by omega)); have h6 := digI_bd (ho 6 (by omega)); have h8 := digI_bd (ho 8 (by omega)); have h9 := digI_bd (ho 9 (by omega))
  simp at h0 h1 h2 h3 h5 h6 h8 h9
  simp [rN, parseY, parseM, parseD, numL]
  omega
def allTo (l : List UInt8) (k : Nat) : Prop := ∀ j, j < k → rOkAt l j = true
theorem allTo_succ {l : List UInt8} {k : Nat} (h : allTo l k) (hk : rOkAt l k = true) : allTo l (k + 1) := fun j hj => by
  rcases Nat.lt_or_eq_of_le (Nat.le_of_lt_succ hj) with h1 | h1
  · exact h j h1
  · rw [h1]; exact hk
theorem getD_at (s : ByteArray) (k : Nat) (h : k < s.size) : s.data.toList.getD k 0 = s[k] := by
  have hl : k < s.data.toList.length := by simpa using h
  rw [List.getD, List.getElem?_eq_getElem hl]; rfl
set_option maxHeartbeats 4000000 in
theorem rparse_any (s : ByteArray) (w : World) :
    Calls Tryd.prog 71 #[.string s] w fun e w' => e = .returned (.tuple #[.agg #[.int .i64 (pY s), .int .i64 (pM s), .int .i64 (pD s)], .bool (pOk s)]) ∧ Below w.heap.size w w' := by
  by_cases hz : s.size = 10
  · have hz1 := Lib.hid hz
    have hz2 : 10 ≤ s.size := by omega
    have hz3 : ((s.size : Int) != 10) = false := by simp [hz]
    clear hz
    go_enter Tryd.func71, Tryd.ntmps71
    go_wp2_with fail
    go_loopw [4, 5] (fun n v wr => ∃ k : Nat, k ≤ 10 ∧ v = .int .i64 k ∧ n = .int .i64 (rN s.data.toList k) ∧ wr = w.alloc (.cells #[.int .i64 0, .int .i64 0, .int .i64 0] 24) ∧ Hid (allTo s.data.toList k)) (fun _ v _ => (10 - intOf v).toNat)
    case atStart => exact ⟨0, by omega, rfl, rfl, rfl, fun j hj => absurd hj (by omega)⟩
    case round =>
      obtain ⟨k, hk, rfl, rfl, rfl, HA⟩ := hrel
      obtain ⟨hb1, hb2⟩ := rN_lt s.data.toList k hk HA
      by_cases hlt : k < 10
      · have hks : k < s.size := by omega
        have hgd := getD_at s k hks
        have hcl := (s[k]'hks).toNat_lt
        have HG := Lib.hid hgd
        clear hgd
        by_cases hc : k = 4 ∨ k = 7
        · by_cases h45 : ((s[k]'hks).toNat : Int) = 45
          · have HX := Lib.hid (rN_skip s.data.toList k hc)
            have HY : Hid (rOkAt s.data.toList k = true) := by
              show _ = _
              rw [rOk_str _ _ hc, HG.out]; simp; exact UInt8.toNat.inj (by show _ = 45; omega)
            have h45b : (((s[k]'hks).toNat : Int) != 45) = false := by simp [h45]
            clear h45
            rcases hc with rfl | rfl
            all_goals
              go_wp2
              go_roundw
              case rel => first | exact ⟨4 + 1, by omega, by go_num, by rw [HX.out], trivial, allTo_succ HA.out HY.out⟩ | exact ⟨7 + 1, by omega, by go_num, by rw [HX.out], trivial, allTo_succ HA.out HY.out⟩
              case measure => simp [intOf]
          · have hno := rok_no (l := s.data.toList) (by simpa using hz1.out) hlt (by
              rw [rOk_str _ _ hc, HG.out]
              exact beq_eq_false_iff_ne.2 fun he => h45 (by rw [he]; rfl))
            obtain ⟨e1, e2, e3, e4⟩ := p_no hno
            have EH := Lib.hid (And.intro e1 (And.intro e2 (And.intro e3 e4)))
            clear e1 e2 e3 e4 hno
            have h45b : (((s[k]'hks).toNat : Int) != 45) = true := by simp [h45]
            clear h45
            rcases hc with rfl | rfl
            all_goals
              go_wp2
              rw [EH.out.1, EH.out.2.1, EH.out.2.2.1, EH.out.2.2.2]
              exact bodyPost_ret (v := .tuple #[.agg #[.int .i64 0, .int .i64 0, .int .i64 0], .bool false]) (by simp [results, Tryd.results71, go_sem]) rfl ⟨rfl, bl_alloc (bl_refl _) _⟩
        · have hc4 : ((k : Int) == 4) = false := by simp; omega
          have hc7 : ((k : Int) == 7) = false := by simp; omega
          by_cases hd : 48 ≤ ((s[k]'hks).toNat : Int) ∧ ((s[k]'hks).toNat : Int) ≤ 57
          · obtain ⟨hd1, hd2⟩ := hd
            have HX := Lib.hid (rN_more s.data.toList k hc)
            have HY : Hid (rOkAt s.data.toList k = true) := by
              show _ = _
              rw [rOk_dig _ _ hc, HG.out]; simp [isDig]; omega
            clear hc
            go_wp2
            go_roundw
            case rel => exact ⟨k + 1, by omega, by go_num, by rw [HX.out, HG.out]; simp [digI], trivial, allTo_succ HA.out HY.out⟩
            case measure => simp [intOf]; omega
          · have hno := rok_no (l := s.data.toList) (by simpa using hz1.out) hlt (by
              rw [rOk_dig _ _ hc, HG.out]
              simp [isDig]; omega)
            obtain ⟨e1, e2, e3, e4⟩ := p_no hno
            have EH := Lib.hid (And.intro e1 (And.intro e2 (And.intro e3 e4)))
            clear e1 e2 e3 e4 hno hc
            by_cases hd1 : 48 ≤ ((s[k]'hks).toNat : Int)
            all_goals
              go_wp2
              rw [EH.out.1, EH.out.2.1, EH.out.2.2.1, EH.out.2.2.2]
              exact bodyPost_ret (v := .tuple #[.agg #[.int .i64 0, .int .i64 0, .int .i64 0], .bool false]) (by simp [results, Tryd.results71, go_sem]) rfl ⟨rfl, bl_alloc (bl_refl _) _⟩
      · obtain rfl : k = 10 := by omega
        have hl : s.data.toList.length = 10 := by simpa using hz1.out
        obtain ⟨f1, f2, f3⟩ := rN_end _ hl HA.out
        have hpo : parseOk s.data.toList = goodB (rN s.data.toList 10 / 10000) (rN s.data.toList 10 / 100 % 100) (rN s.data.toList 10 % 100) := by
          rw [f1, f2, f3]; simp [parseOk, (shape_iff _ hl).2 HA.out]
        have HP := Lib.hid hpo
        have HK := Lib.hid (And.intro f1 (And.intro f2 f3))
        clear f1 f2 f3 hpo hl
        cases hgd : goodB (rN s.data.toList 10 / 10000) (rN s.data.toList 10 / 100 % 100) (rN s.data.toList 10 % 100) with
        | true =>
          have HY := Lib.hid (p_yes (HP.out.trans hgd))
          go_wp2_with (go_at_call 62; refine (rgood_any _ _ _ _).mono ?_; rintro e w' ⟨rfl, hgb⟩; (have k0 := ((Blk.new w 24 _).alloc _).call hgb); (have kd := (Blk.new _ _ _).call hgb); (have hgz := hgb.size); simp only [World.size_alloc] at kd hgz; obtain ⟨_, _, _, _, _, _⟩ := k0.c3; obtain ⟨_, _, _, _, _, _⟩ := kd.c3)
          rw [HY.out.1, HY.out.2.1, HY.out.2.2.1, HY.out.2.2.2, ← HK.out.1, ← HK.out.2.1, ← HK.out.2.2]
          exact bodyPost_ret (results_cell_tmp_row rfl _ _ w.heap.size _ #[_, _, _] _ rfl (((k0.set_ 0 _).set_ 1 _).set_ 2 _) Tryd.underlying24 rfl (by kernel_rfl)) rfl ⟨rfl, bl_set (bl_set (bl_set (bl_call (bl_alloc (bl_alloc (bl_refl _) _) _) hgb) (Nat.le_refl _) _) (Nat.le_refl _) _) (Nat.le_refl _) _⟩
        | false =>
          have HY := Lib.hid (p_no (HP.out.trans hgd))
          go_wp2_with (go_at_call 62; refine (rgood_any _ _ _ _).mono ?_; rintro e w' ⟨rfl, hgb⟩; (have k0 := ((Blk.new w 24 _).alloc _).call hgb); (have kd := (Blk.new _ _ _).call hgb); (have hgz := hgb.size); simp only [World.size_alloc] at kd hgz; obtain ⟨_, _, _, _, _, _⟩ := k0.c3; obtain ⟨_, _, _, _, _, _⟩ := kd.c3)
          rw [HY.out.1, HY.out.2.1, HY.out.2.2.1, HY.out.2.2.2]
          exact bodyPost_ret (results_cell_tmp_row rfl _ _ w.heap.size _ #[.int .i64 0, .int .i64 0, .int .i64 0] _ rfl (((k0.set_ 0 _).set_ 1 _).set_ 2 _) Tryd.underlying24 rfl (by kernel_rfl)) rfl ⟨rfl, bl_set (bl_set (bl_set (bl_call (bl_alloc (bl_alloc (bl_refl _) _) _) hgb) (Nat.le_refl _) _) (Nat.le_refl _) _) (Nat.le_refl _) _⟩
  · have hn : parseOk s.data.toList = false := shape_no (by
      have he : (s.data.toList.length == 10) = false := beq_eq_false_iff_ne.2 (by simpa using hz)
      simp only [dateShape, he, Bool.false_and])
    obtain ⟨e1, e2, e3, e4⟩ := p_no hn
    rw [e1, e2, e3, e4]
    clear e1 e2 e3 e4 hn
    have h1 : ((s.size : Int) != 10) = true := by simp; omega
    go_enter Tryd.func71, Tryd.ntmps71
    go_wp2
    exact bodyPost_ret (v := .tuple #[.agg #[.int .i64 0, .int .i64 0, .int .i64 0], .bool false]) (by simp [results, Tryd.results71, go_sem]) rfl ⟨rfl, bl_alloc (bl_refl _) _⟩
end Go.Proofs.YtcgkfgklggjmaaaDoor
end
section
namespace Go.Proofs.YtcgkfgklggjmaaaDoor
set_option linter.unusedVariables false
set_option linter.unusedSimpArgs false
open Go.RowKit
def GL (w : World) : Prop := ∃ m, w.cell? ⟨3, 0, none⟩ = some (.int .i64 m)
theorem GL.drewN {w : World} (h : GL w) (n : Nat) : GL (w.drewN n) := h
theorem GL.drew {w : World} (h : GL w) : GL w.drew := h
theorem GL.lt {w : World} (h : GL w) : 3 < w.heap.size := let ⟨_, hm⟩ := h; World.block_lt_of_cell? w _ hm
theorem GL.below {w v : World} (h : GL w) (hb : Below w.heap.size w v) : GL v := let ⟨m, hm⟩ := h; ⟨m, (hb.cell (p := ⟨3, 0, none⟩) h.lt).trans hm⟩

theorem let_idx (c : UInt8) : decide (0 ≤ Lib.indexByte [95, 46, 45] c) = (c == 95 || c == 46 || c == 45) := by
  by_cases h1 : c = 95
  · subst h1; decide
  · by_cases h2 : c = 46
    · subst h2; decide
    · by_cases h3 : c = 45
      · subst h3; decide
      · have e1 : (95 == c) = false := beq_eq_false_iff_ne.2 (Ne.symm h1)
        have e2 : (46 == c) = false := beq_eq_false_iff_ne.2 (Ne.symm h2)
        have e3 : (45 == c) = false := beq_eq_false_iff_ne.2 (Ne.symm h3)
        simp [Lib.indexByte, e1, e2, e3, h1, h2, h3]
theorem u8_eq (c : UInt8) (n : Nat) (h : n < 256) : (c == UInt8.ofNat n) = decide (c.toNat = n) := by
  rw [Bool.eq_iff_iff, beq_iff_eq, decide_eq_true_eq]
  constructor
  · rintro rfl; simp; omega
  · intro he; apply UInt8.toNat.inj; simp; omega
theorem letter_any (c : UInt8) (w : World) :
    Calls Tryd.prog 120 #[.int .u8 c.toNat] w fun e w' => e = .returned (.bool (isLet c)) ∧ w = w' := by
  have hc := c.toNat_lt
  have hi := let_idx c
  have e1 := u8_eq c 95 (by omega)
  have e2 := u8_eq c 46 (by omega)
  have e3 := u8_eq c 45 (by omega)
  have HI := Lib.hid (hi.trans (by rw [show (95 : UInt8) = UInt8.ofNat 95 from rfl, show (46 : UInt8) = UInt8.ofNat 46 from rfl, show (45 : UInt8) = UInt8.ofNat 45 from rfl, e1, e2, e3]))
  clear hi e1 e2 e3
  go_enter Tryd.func120, Tryd.ntmps120
  go_wp2_with (go_at_call 119; refine (Tryd.strings_IndexByte _ _ _).mono ?_; rintro e w' ⟨rfl, rfl⟩)
  all_goals
    go_ret
    refine ⟨ret_bool ?_, rfl⟩
    rw [Bool.eq_iff_iff]
    simp [isLet, HI.out]
    try omega
theorem rletter_any (c : UInt8) (w : World) :
    Calls Tryd.prog 56 #[.int .u8 c.toNat] w fun e w' => e = .returned (.bool (isLet c)) ∧ w = w' := by
  have hc := c.toNat_lt
  go_enter Tryd.func56, Tryd.ntmps56
  go_wp2
  all_goals
    go_ret
    refine ⟨ret_bool ?_, rfl⟩
    rw [Bool.eq_iff_iff]
    simp [isLet] at *
    try omega
theorem rdigit_any (c : UInt8) (w : World) :
    Calls Tryd.prog 129 #[.int .u8 c.toNat] w fun e w' => e = .returned (.bool (isDig c)) ∧ w = w' := by
  have hc := c.toNat_lt
  go_enter Tryd.func129, Tryd.ntmps129
  go_wp2
  all_goals
    go_ret
    refine ⟨ret_bool ?_, rfl⟩
    rw [Bool.eq_iff_iff]
    simp [isDig]
    try omega
end Go.Proofs.YtcgkfgklggjmaaaDoor
end
section
namespace Go.Proofs.YtcgkfgklggjmaaaDoor
set_option linter.unusedVariables false
set_option linter.unusedSimpArgs false
open Go.RowKit
theorem all_upto (s : ByteArray) (p : UInt8 → Bool) (pos : Nat) (hp : pos < s.size) : (s.data.toList.take (pos + 1)).all p = ((s.data.toList.take pos).all p && p s[pos]) := by
  rw [take_snoc s pos hp]; simp
theorem take_end (s : ByteArray) : s.data.toList.take s.size = s.data.toList := List.take_of_length_le (by simp)
theorem all_false (s : ByteArray) (p : UInt8 → Bool) (pos : Nat) (hp : pos < s.size) (h : p s[pos] = false) : s.data.toList.all p = false := by
  rw [List.all_eq_false]
  refine ⟨s[pos], ?_, by simp [h]⟩
  have : s[pos] = s.data.toList[pos]'(by simpa using hp) := rfl
  rw [this]
  exact List.getElem_mem _
theorem digits_no (s : ByteArray) (pos : Nat) (hp : pos < s.size) (h : isDig s[pos] = false) : digitsB s.data.toList = false := by simp [digitsB, all_false s isDig pos hp h]
set_option maxHeartbeats 1000000 in
theorem digits_any (s : ByteArray) (w : World) :
    Calls Tryd.prog 150 #[.string s] w fun e w' => e = .returned (.bool (digitsB s.data.toList)) ∧ Below w.heap.size w w' := by
  go_enter Tryd.func150, Tryd.ntmps150
  go_wp2
  go_loopw [4] (fun _ wi => ∃ pos : Nat, wi.heap[w.heap.size]? = some (.stringIter s pos) ∧ Below w.heap.size w wi ∧ Hid ((s.data.toList.take pos).all isDig = true) ∧ pos ≤ s.size) (fun _ wi => s.size - wi.iterPos w.heap.size)
  case atStart => exact ⟨0, World.iter_heap w s 0, bl_alloc (bl_refl _) _, by simp [Hid], Nat.zero_le _⟩
  case round =>
    obtain ⟨pos, hit, hbi, HA, hpl⟩ := hrel
    have hpos0 := iterPos_of hit
    by_cases hp : pos < s.size
    · have hnx : ∀ ty, (Instr.next (.pointer (some ⟨w.heap.size, 0, none⟩)) true ty).run Tryd.prog wr = _ := fun ty => Lib.run_next_any_at wr w.heap.size s pos ty hit hp
      have hit2 := Lib.iterAt_heap wr w.heap.size s pos (pos + (Utf8.decode s pos).2) hit
      have hbw2 := Lib.below_iterAt hbi (k := w.heap.size) (Nat.le_refl _) s (pos + (Utf8.decode s pos).2)
      have hsn := all_upto s isDig pos hp
      obtain ⟨W1, hW1⟩ : ∃ W1, W1 = wr.iterAt w.heap.size s (pos + (Utf8.decode s pos).2) := ⟨_, rfl⟩
      rw [← hW1] at hnx hit2 hbw2
      clear hW1 hit hbi
      rcases width_one s pos hp with ⟨ha, hde⟩ | ⟨ha, hde, hde2⟩
      · rw [hde] at hnx hit2
        simp only at hnx hit2
        clear hde
        have hbad := digits_no s pos hp
        have HS := Lib.hid hsn
        clear hsn
        generalize (s[pos]'hp) = c at *
        by_cases hg : 48 ≤ c.toNat ∧ c.toNat ≤ 57
        · obtain ⟨hg1, hg2⟩ := hg
          have HG := Lib.hid (show isDig c = true by simp [isDig, hg1, hg2])
          clear hbad
          go_wp2
          go_roundw
          case rel => exact ⟨pos + 1, hit2, hbw2, (by show _ = _; rw [HS.out, HG.out, HA.out]; rfl), by omega⟩
          case measure => rw [iterPos_of hit2, hpos0]; omega
        · have HD := Lib.hid (hbad (show isDig c = false by simp [isDig]; omega))
          clear hbad
          by_cases hg1 : 48 ≤ c.toNat
          all_goals
            go_wp2
            go_ret
            exact ⟨ret_bool (by rw [HD.out]), hbw2⟩
      · have HD := Lib.hid (digits_no s pos hp (show isDig s[pos] = false by simp [isDig]; omega))
        clear hsn
        generalize (Utf8.decode s pos).1 = rr at *
        go_wp2
        go_ret
        exact ⟨ret_bool (by rw [HD.out]), hbw2⟩
    · obtain rfl : pos = s.size := by omega
      have hnx : ∀ ty, (Instr.next (.pointer (some ⟨w.heap.size, 0, none⟩)) true ty).run Tryd.prog wr = _ := fun ty => Lib.run_next_end_at wr w.heap.size s s.size ty hit hp
      have HD : Hid (digitsB s.data.toList = !s.data.toList.isEmpty) := by
        have := HA.out
        rw [take_end] at this
        show _ = _
        simp only [digitsB, this, Bool.and_true]
      go_wp2
      go_ret
      exact ⟨ret_bool (by rw [HD.out, ByteArray.toList_eq]), hbi⟩
def cutW (s : ByteArray) : ByteArray := ⟨(Lib.cut s.data.toList [46]).1.toArray⟩
def cutP (s : ByteArray) : ByteArray := ⟨(Lib.cut s.data.toList [46]).2.1.toArray⟩
def cutB (s : ByteArray) : Bool := (Lib.cut s.data.toList [46]).2.2
theorem numForm_cut (s : ByteArray) : numForm s.data.toList = if digitsB (cutW s).data.toList = false ∨ (1 < (cutW s).size ∧ (cutW s).data.toList.getD 0 0 = 48) then 0 else if cutB s = false then 1 else if digitsB (cutP s).data.toList then 2 else 0 := by
  rfl
set_option maxHeartbeats 1000000 in
theorem decOf_any (s : ByteArray) (w : World) (hG : GL w) (hs : s.size < 4294967281) :
    Calls Tryd.prog 123 #[.string s] w fun e w' => e = .returned (.int .i64 (numForm s.data.toList)) ∧ Below w.heap.size w w' := by
  obtain ⟨m, hm⟩ := hG
  have hN := numForm_cut s
  have HC := Lib.hid (Tryd.strings_Cut s ⟨#[46]⟩ m w hs hm)
  have e1 : (⟨(Lib.cut s.data.toList (⟨#[46]⟩ : ByteArray).data.toList).1.toArray⟩ : ByteArray) = cutW s := rfl
  have e2 : (⟨(Lib.cut s.data.toList (⟨#[46]⟩ : ByteArray).data.toList).2.1.toArray⟩ : ByteArray) = cutP s := rfl
  have e3 : (Lib.cut s.data.toList (⟨#[46]⟩ : ByteArray).data.toList).2.2 = cutB s := rfl
  rw [e1, e2, e3] at HC
  clear e1 e2 e3 hm
  generalize cutW s = a at *
  generalize cutP s = b at *
  generalize cutB s = c at *
  cases hd : digitsB a.data.toList with
  | false =>
    have HN := Lib.hid (hN.trans (by rw [if_pos (.inl hd)]))
    clear hN
    go_enter Tryd.func123, Tryd.ntmps123
    go_wp2_with (first
      | (go_at_call 149; refine HC.out.mono ?_; rintro e w' ⟨rfl, n, rfl⟩)
      | (go_at_call 150; refine (digits_any _ _).mono ?_; rintro e w' ⟨rfl, hb1⟩))
    go_ret
    exact ⟨ret_int (by rw [HN.out]), bl_call (bl_drewN (bl_refl _) _) hb1⟩
  | true =>
    have HN := Lib.hid hN
    clear hN
    have fin : ∀ x : Int, (if a.data.toList.getD 0 0 = 48 ∧ 1 < a.size then (0 : Int) else if c = false then 1 else if digitsB b.data.toList then 2 else 0) = x → numForm s.data.toList = x := by
      rintro x rfl
      rw [HN.out]
      simp only [hd, Bool.true_eq_false, false_or, And.comm]
    have FIN := Lib.hid fin
    clear fin
    have key : ∀ h : 0 < a.size, (a.data.toList.getD 0 0 = 48) ↔ ((a[0]'h).toNat : Int) = 48 := fun h => by
      rw [getD_at a 0 h]
      exact ⟨fun e => by rw [e]; rfl, fun e => UInt8.toNat.inj (by show _ = 48; omega)⟩
    have KEY := Lib.hid key
    clear key
    by_cases h1 : 1 < a.size
    · have h1p : 0 < a.size := by omega
      have hbb : (((a[0]'h1p).toNat : Int) == 48) = true ∨ (((a[0]'h1p).toNat : Int) == 48) = false := by cases (((a[0]'h1p).toNat : Int) == 48) <;> simp
      rcases hbb with hbb | hbb
      · have HX := Lib.hid (FIN.out 0 (if_pos ⟨(KEY.out h1p).2 (beq_iff_eq.1 hbb), h1⟩))
        go_enter Tryd.func123, Tryd.ntmps123
        go_wp2_with (first
          | (go_at_call 149; refine HC.out.mono ?_; rintro e w' ⟨rfl, n, rfl⟩)
          | (go_at_call 150; refine (digits_any _ _).mono ?_; rintro e w' ⟨rfl, hb1⟩))
        go_ret
        exact ⟨ret_int (by rw [HX.out]), bl_call (bl_drewN (bl_refl _) _) hb1⟩
      · have HX := Lib.hid (fun x hx => FIN.out x ((if_neg (fun h => by have := (KEY.out h1p).1 h.1; simp [this] at hbb)).trans hx))
        cases c with
        | false =>
          go_enter Tryd.func123, Tryd.ntmps123
          go_wp2_with (first
            | (go_at_call 149; refine HC.out.mono ?_; rintro e w' ⟨rfl, n, rfl⟩)
            | (go_at_call 150; refine (digits_any _ _).mono ?_; rintro e w' ⟨rfl, hb1⟩))
          go_ret
          exact ⟨ret_int (by rw [HX.out _ rfl]; simp), bl_call (bl_drewN (bl_refl _) _) hb1⟩
        | true =>
          cases hdb : digitsB b.data.toList <;>
          · go_enter Tryd.func123, Tryd.ntmps123
            go_wp2_with (first
              | (go_at_call 149; refine HC.out.mono ?_; rintro e w' ⟨rfl, n, rfl⟩)
              | (go_at_call 150; refine (digits_any _ _).mono ?_; rintro _ _ ⟨rfl, _⟩))
            go_ret
            exact ⟨ret_int (by rw [HX.out _ rfl]; simp [hdb]), by repeat (first | exact bl_refl _ | apply bl_drewN | refine bl_call ?_ (by assumption))⟩
    · have HX := Lib.hid (fun x hx => FIN.out x ((if_neg (fun h => h1 h.2)).trans hx))
      cases c with
      | false =>
        go_enter Tryd.func123, Tryd.ntmps123
        go_wp2_with (first
          | (go_at_call 149; refine HC.out.mono ?_; rintro e w' ⟨rfl, n, rfl⟩)
          | (go_at_call 150; refine (digits_any _ _).mono ?_; rintro e w' ⟨rfl, hb1⟩))
        go_ret
        exact ⟨ret_int (by rw [HX.out _ rfl]; simp), bl_call (bl_drewN (bl_refl _) _) hb1⟩
      | true =>
        cases hdb : digitsB b.data.toList <;>
        · go_enter Tryd.func123, Tryd.ntmps123
          go_wp2_with (first
            | (go_at_call 149; refine HC.out.mono ?_; rintro e w' ⟨rfl, n, rfl⟩)
            | (go_at_call 150; refine (digits_any _ _).mono ?_; rintro _ _ ⟨rfl, _⟩))
          go_ret
          exact ⟨ret_int (by rw [HX.out _ rfl]; simp [hdb]), by repeat (first | exact bl_refl _ | apply bl_drewN | refine bl_call ?_ (by assumption))⟩
/-! names -/
def nameB (l : List UInt8) : Bool := !l.isEmpty && plainB l && !digFirst l
def nameAt (l : List UInt8) (k : Nat) : Bool := l.getD k 0 != 46 && l.getD k 0 != 45 && !(k == 0 && isDig (l.getD k 0))
theorem nameB_is (l : List UInt8) : nameB l = true ↔ l ≠ [] ∧ ∀ j, j < l.length → nameAt l j = true := by
  cases l with
  | nil => simp [nameB]
  | cons x l =>
    simp only [nameB, plainB, digFirst, List.isEmpty_cons, Bool.not_false, Bool.true_and, Bool.and_eq_true, List.all_eq_true, Bool.not_eq_true', List.getD_cons_zero]
    constructor
    · rintro ⟨h1, h2⟩
      refine ⟨by simp, fun j hj => ?_⟩
      have hm : (x :: l).getD j 0 ∈ x :: l := by
        rw [List.getD, List.getElem?_eq_getElem hj]; exact List.getElem_mem hj
      have := h1 _ hm
      simp only [nameAt]
      rw [this.1, this.2]
      cases j with
      | zero => simp [h2]
      | succ j => simp
    · rintro ⟨_, h⟩
      constructor
      · intro y hy
        obtain ⟨j, hj, rfl⟩ := List.getElem_of_mem hy
        have := h j hj
        simp only [nameAt, List.getD, List.getElem?_eq_getElem hj, Option.getD_some, Bool.and_eq_true] at this
        exact ⟨this.1.1, this.1.2⟩
      · have := h 0 (by simp)
        simp [nameAt] at this
        exact this.2
theorem nameB_no {l : List UInt8} {k : Nat} (hk : k < l.length) (h : nameAt l k = false) : nameB l = false := by
  cases hn : nameB l with
  | false => rfl
  | true => have := ((nameB_is l).1 hn).2 k hk; rw [h] at this; cases this
def nameTo (l : List UInt8) (k : Nat) : Prop := ∀ j, j < k → nameAt l j = true
theorem nameTo_succ {l : List UInt8} {k : Nat} (h : nameTo l k) (hk : nameAt l k = true) : nameTo l (k + 1) := fun j hj => by
  rcases Nat.lt_or_eq_of_le (Nat.le_of_lt_succ hj) with h1 | h1
  · exact h j h1
  · rw [h1]; exact hk
theorem nameB_end {l : List UInt8} (h : nameTo l l.length) : nameB l = !l.isEmpty := by
  cases l with
  | nil => rfl
  | cons x l => simpa using (nameB_is (x :: l)).2 ⟨by simp, h⟩
set_option maxHeartbeats 1000000 in
theorem name_any (s : ByteArray) (w : World) (hs : s.size ≤ 9223372036854775807) :
    Calls Tryd.prog 122 #[.string s] w fun e w' => e = .returned (.bool (nameB s.data.toList)) ∧ w = w' := by
  go_enter Tryd.func122, Tryd.ntmps122
  go_wp2
  go_loop [7] (fun v => ∃ k : Nat, k ≤ s.size ∧ v = .int .i64 k ∧ Hid (nameTo s.data.toList k)) (fun v => s.size - (intOf v).toNat)
  case atStart => exact ⟨0, Nat.zero_le _, rfl, fun j hj => absurd hj (by omega)⟩
  case round =>
    obtain ⟨k, hk, rfl, HA⟩ := hrel
    by_cases hlt : k < s.size
    · have hgd := getD_at s k hlt
      have hcl := (s[k]'hlt).toNat_lt
      have hat : nameAt s.data.toList k = (decide (((s[k]'hlt).toNat : Int) ≠ 46) && decide (((s[k]'hlt).toNat : Int) ≠ 45) && !(decide (k = 0) && decide (48 ≤ ((s[k]'hlt).toNat : Int)) && decide (((s[k]'hlt).toNat : Int) ≤ 57))) := by
        simp only [nameAt, hgd, bne]
        rw [show (46 : UInt8) = UInt8.ofNat 46 from rfl, show (45 : UInt8) = UInt8.ofNat 45 from rfl, u8_eq _ 46 (by omega), u8_eq _ 45 (by omega)]
        rw [Bool.eq_iff_iff]; simp [isDig]; omega
      have hl : k < s.data.toList.length := by simpa using hlt
      have HT := Lib.hid hat
      have HL := Lib.hid hl
      clear hgd hat hl
      have hbq : ∀ n : Int, ((((s[k]'hlt).toNat : Int) == n) = true ∧ ((s[k]'hlt).toNat : Int) = n) ∨ ((((s[k]'hlt).toNat : Int) == n) = false ∧ ¬ ((s[k]'hlt).toNat : Int) = n) := fun n => by
        by_cases h : ((s[k]'hlt).toNat : Int) = n
        · exact .inl ⟨beq_iff_eq.2 h, h⟩
        · exact .inr ⟨beq_eq_false_iff_ne.2 h, h⟩
      rcases hbq 46 with ⟨q1, r1⟩ | ⟨q1, r1⟩
      · have NO := Lib.hid (nameB_no HL.out (HT.out.trans (show _ = false by simp [r1])))
        clear r1 hbq
        go_wp2
        go_ret
        exact ⟨ret_bool (by rw [NO.out]), rfl⟩
      rcases hbq 45 with ⟨q2, r2⟩ | ⟨q2, r2⟩
      · have NO := Lib.hid (nameB_no HL.out (HT.out.trans (show _ = false by simp [r2])))
        clear r1 r2 hbq
        go_wp2
        go_ret
        exact ⟨ret_bool (by rw [NO.out]), rfl⟩
      by_cases hk0 : k = 0
      · by_cases h48 : 48 ≤ ((s[k]'hlt).toNat : Int)
        · by_cases h57 : ((s[k]'hlt).toNat : Int) ≤ 57
          · have NO := Lib.hid (nameB_no HL.out (HT.out.trans (show _ = false by simp [hk0]; subst hk0; omega)))
            clear r1 r2 hbq
            subst hk0
            go_wp2
            go_ret
            exact ⟨ret_bool (by rw [NO.out]), rfl⟩
          · have YES := Lib.hid (HT.out.trans (show _ = true by simp [r1, r2]; omega))
            clear r1 r2 hbq
            subst hk0
            go_wp2
            go_round
            case rel => exact ⟨0 + 1, by omega, by go_num, nameTo_succ HA.out YES.out⟩
            case measure => simp [intOf]; omega
        · have YES := Lib.hid (HT.out.trans (show _ = true by simp [r1, r2]; omega))
          clear r1 r2 hbq
          subst hk0
          go_wp2
          go_round
          case rel => exact ⟨0 + 1, by omega, by go_num, nameTo_succ HA.out YES.out⟩
          case measure => simp [intOf]; omega
      · have YES := Lib.hid (HT.out.trans (show _ = true by simp [r1, r2, hk0]))
        have hkb : ((k : Int) == 0) = false := by simp; omega
        clear r1 r2 hbq hk0
        go_wp2
        go_round
        case rel => exact ⟨k + 1, by omega, by go_num, nameTo_succ HA.out YES.out⟩
        case measure => simp [intOf]; omega
    · obtain rfl : k = s.size := by omega
      have HE : Hid (nameB s.data.toList = !s.data.toList.isEmpty) := nameB_end (by have := HA.out; simpa using this)
      go_wp2
      go_ret
      exact ⟨ret_bool (by rw [HE.out, ByteArray.toList_eq]), rfl⟩
end Go.Proofs.YtcgkfgklggjmaaaDoor
end
section
namespace Go.Proofs.YtcgkfgklggjmaaaDoor
set_option linter.unusedVariables false
set_option linter.unusedSimpArgs false
open Go.RowKit
theorem drop_at (s : ByteArray) (k : Nat) (h : k < s.size) : s.data.toList.drop k = s[k] :: s.data.toList.drop (k + 1) := by
  rw [List.drop_eq_getElem_cons (by simpa using h)]; rfl
theorem drop_end (s : ByteArray) : s.data.toList.drop s.size = [] := List.drop_of_length_le (by simp)
def fmt4 (l : List UInt8) (o : Option Nat) : Int := match o with
  | none => 0
  | some p => if l.getD 0 0 = 48 ∧ 1 < l.length ∧ l.getD 1 0 ≠ 46 then 0 else 1 + (p : Int)
theorem numForm_scan (l : List UInt8) (h0 : l ≠ []) (h1 : isDig (l.getD 0 0) = true) : numForm l = fmt4 l (rform l 0) := by
  rw [← rform_is l, if_neg (by simp only [h0, h1, false_or]; simp)]; rfl
theorem numForm_zero (l : List UInt8) (h : l = [] ∨ isDig (l.getD 0 0) = false) : numForm l = 0 := by
  rw [← rform_is l, if_pos h]
theorem size_pos (s : ByteArray) : s.data.toList = [] ↔ s.size = 0 := by
  rw [← List.length_eq_zero_iff]; simp
theorem u8_nb {c d : UInt8} {n : Int} (hd : (d.toNat : Int) = n) (h : c ≠ d) : ((c.toNat : Int) == n) = false :=
  beq_eq_false_iff_ne.2 fun he => h (UInt8.toNat.inj (by omega))
set_option maxHeartbeats 2000000 in
theorem rOf4_any (s : ByteArray) (w : World) (hs : s.size ≤ 9223372036854775807) :
    Calls Tryd.prog 97 #[.string s] w fun e w' => e = .returned (.int .i64 (numForm s.data.toList)) ∧ w = w' := by
  have hem : s.toList.isEmpty = s.data.toList.isEmpty := by rw [ByteArray.toList_eq]
  by_cases hz : s.size = 0
  · have hl := (size_pos s).2 hz
    have h1 : s.toList.isEmpty = true := by rw [hem, hl]; rfl
    have hl2 : s.toList = [] := by simpa using h1
    have HN := Lib.hid (numForm_zero s.data.toList (.inl hl))
    clear hem hl h1
    go_enter Tryd.func97, Tryd.ntmps97
    go_wp2
    go_ret
    exact ⟨ret_int (by rw [HN.out]), rfl⟩
  · have hp : 0 < s.size := by omega
    have hl : s.data.toList ≠ [] := fun h => hz ((size_pos s).1 h)
    have h1 : s.toList.isEmpty = false := by rw [hem]; simpa using hl
    have hl2 : ¬ s.toList = [] := by simpa using h1
    have hg0 := getD_at s 0 hp
    clear hem hz
    cases hd : isDig (s[0]'hp) with
    | false =>
      have HN := Lib.hid (numForm_zero s.data.toList (.inr (by rw [hg0]; exact hd)))
      clear hg0 hl
      go_enter Tryd.func97, Tryd.ntmps97
      go_wp2_with (go_at_call 129; refine (rdigit_any _ _).mono ?_; rintro e w' ⟨rfl, rfl⟩)
      go_ret
      exact ⟨ret_int (by rw [HN.out]), rfl⟩
    | true =>
      have HN := Lib.hid (numForm_scan s.data.toList hl (by rw [hg0]; exact hd))
      have HG0 := Lib.hid hg0
      clear hg0 hl
      go_enter Tryd.func97, Tryd.ntmps97
      go_wp2_with (go_at_call 129; refine (rdigit_any _ _).mono ?_; rintro e w' ⟨rfl, rfl⟩)
      go_loop [3, 4] (fun pv v => ∃ k p : Nat, k ≤ s.size ∧ p ≤ 1 ∧ v = .int .i64 k ∧ pv = .int .i64 p ∧ Hid (rform (s.data.toList.drop k) p = rform s.data.toList 0)) (fun _ v => s.size - (intOf v).toNat)
      case atStart => exact ⟨0, 0, Nat.zero_le _, Nat.zero_le _, rfl, rfl, rfl⟩
      case round =>
        obtain ⟨k, p, hk, hp1, rfl, rfl, HA⟩ := hrel
        clear hl2 h1 hd
        by_cases hlt : k < s.size
        · have hdr := drop_at s k hlt
          have hcl := (s[k]'hlt).toNat_lt
          have hA2 := HA.out
          rw [hdr] at hA2
          have HA2 := Lib.hid hA2
          clear hA2
          by_cases hc : s[k]'hlt = 46
          · have hb : (((s[k]'hlt).toNat : Int) == 46) = true := by rw [hc]; rfl
            rw [hc] at HA2
            by_cases hlast : s.size = k + 1
            · have HX : Hid (rform s.data.toList 0 = none) := by
                show _ = _
                rw [← HA2.out, ← hlast, drop_end]; simp [rform]
              have hlb : ((k : Int) == (s.size : Int) - 1) = true := by rw [beq_iff_eq]; omega
              have hl3 : s.size ≤ k + 1 := by omega
              clear hc hdr  hlast HA HA2
              go_wp2
              all_goals
                go_ret
                exact ⟨ret_int (by rw [HN.out, HX.out]; rfl), rfl⟩
            · have hlb : ((k : Int) == (s.size : Int) - 1) = false := by rw [beq_eq_false_iff_ne]; omega
              have hnl : s.data.toList.drop (k + 1) ≠ [] := by
                intro h
                have := congrArg List.length h
                simp at this; omega
              by_cases hp0 : p = 0
              · subst hp0
                have HX : Hid (rform (s.data.toList.drop (k + 1)) 1 = rform s.data.toList 0) := by
                  show _ = _
                  rw [← HA2.out, rform, if_pos rfl, if_neg (by simp [hnl])]
                clear hc hdr  hlast HA HA2 hnl
                go_wp2
                go_round
                case rel => exact ⟨k + 1, 1, by omega, by omega, by go_num, by first | rfl | go_num, HX⟩
                case measure => simp [intOf]; omega
              · obtain rfl : p = 1 := by omega
                have HX : Hid (rform s.data.toList 0 = none) := by
                  show _ = _
                  rw [← HA2.out, rform, if_pos rfl, if_pos (.inl (by omega))]
                clear hc hdr  hlast HA HA2 hnl hp0
                go_wp2
                go_ret
                exact ⟨ret_int (by rw [HN.out, HX.out]; rfl), rfl⟩
          · have hb : (((s[k]'hlt).toNat : Int) == 46) = false := u8_nb rfl hc
            cases hd : isDig (s[k]'hlt) with
            | true =>
              have HX : Hid (rform (s.data.toList.drop (k + 1)) p = rform s.data.toList 0) := by
                show _ = _
                rw [← HA2.out, rform, if_neg hc, if_pos hd]
              clear hc hdr  HA HA2
              go_wp2_with (go_at_call 129; refine (rdigit_any _ _).mono ?_; rintro e w' ⟨rfl, rfl⟩)
              go_round
              case rel => exact ⟨k + 1, p, by omega, by omega, by go_num, rfl, HX⟩
              case measure => simp [intOf]; omega
            | false =>
              have HX : Hid (rform s.data.toList 0 = none) := by
                show _ = _
                rw [← HA2.out, rform, if_neg hc, if_neg (by rw [hd]; simp)]
              clear hc hdr  HA HA2
              go_wp2_with (go_at_call 129; refine (rdigit_any _ _).mono ?_; rintro e w' ⟨rfl, rfl⟩)
              go_ret
              exact ⟨ret_int (by rw [HN.out, HX.out]; rfl), rfl⟩
        · obtain rfl : k = s.size := by omega
          have HX : Hid (rform s.data.toList 0 = some p) := by
            show _ = _
            rw [← HA.out, drop_end]; rfl
          clear HA
          have hsz : s.data.toList.length = s.size := by simp
          by_cases h0 : s[0]'hp = 48
          · have hb0 : (((s[0]'hp).toNat : Int) == 48) = true := by rw [h0]; rfl
            by_cases h1 : 1 < s.size
            · have hg1 := getD_at s 1 h1
              by_cases h2 : s[1]'h1 = 46
              · have hb2 : (((s[1]'h1).toNat : Int) != 46) = false := by rw [h2]; rfl
                have HF : Hid (numForm s.data.toList = 1 + (p : Int)) := by
                  show _ = _
                  rw [HN.out, HX.out, fmt4, if_neg (by rw [hg1, h2]; simp)]
                clear hg1   h0 h2 hsz
                go_wp2
                go_ret
                exact ⟨ret_int (by rw [HF.out]), rfl⟩
              · have hb2 : (((s[1]'h1).toNat : Int) != 46) = true := by simp [bne, u8_nb (d := 46) (n := 46) rfl h2]
                have HF : Hid (numForm s.data.toList = 0) := by
                  show _ = _
                  rw [HN.out, HX.out, fmt4, if_pos ⟨by rw [HG0.out]; exact h0, by omega, by rw [hg1]; exact h2⟩]
                clear hg1   h0 h2 hsz
                go_wp2
                go_ret
                exact ⟨ret_int (by rw [HF.out]), rfl⟩
            · have HF : Hid (numForm s.data.toList = 1 + (p : Int)) := by
                show _ = _
                rw [HN.out, HX.out, fmt4, if_neg (by omega)]
              clear  h0 hsz
              go_wp2
              go_ret
              exact ⟨ret_int (by rw [HF.out]), rfl⟩
          · have hb0 : (((s[0]'hp).toNat : Int) == 48) = false := u8_nb rfl h0
            have HF : Hid (numForm s.data.toList = 1 + (p : Int)) := by
              show _ = _
              rw [HN.out, HX.out, fmt4, if_neg (by rw [HG0.out]; exact fun h => h0 h.1)]
            clear  h0 hsz
            go_wp2
            go_ret
            exact ⟨ret_int (by rw [HF.out]), rfl⟩
end Go.Proofs.YtcgkfgklggjmaaaDoor
end
section
namespace Go.Proofs.YtcgkfgklggjmaaaDoor
set_option linter.unusedVariables false
set_option linter.unusedSimpArgs false
open Go.RowKit
def wordsV : Array Value := (wordsL.map fun l => Value.string ⟨l.toArray⟩).toArray
theorem words_any (w : World) : Calls Tryd.prog 96 #[] w fun e w' => e = .returned (.slice (some ⟨w.heap.size, 0, none⟩) 26 26) ∧ Blk w' w.heap.size 9 wordsV ∧ Below w.heap.size w w' := by
  go_enter Tryd.func96, Tryd.ntmps96
  go_wp2
  go_ret
  exact ⟨rfl, Blk.new _ _ _, bl_alloc (bl_refl _) _⟩
theorem wordsV_at (k : Nat) (h : k < 26) : wordsV[k]? = some (.string ⟨(wordsL.getD k []).toArray⟩) := by
  have hl : k < wordsL.length := h
  simp only [wordsV, List.getElem?_toArray, List.getElem?_map, List.getElem?_eq_getElem hl, Option.map_some, List.getD, Option.getD_some]
theorem isWord_at {l : List UInt8} {k : Nat} (h : k < 26) (he : wordsL.getD k [] = l) : isWord l = true := by
  have hl : k < wordsL.length := h
  rw [List.getD, List.getElem?_eq_getElem hl] at he
  simp only [isWord, List.contains_iff_mem]
  rw [← he]; exact List.getElem_mem hl
theorem isWord_none {l : List UInt8} (h : ∀ j, j < 26 → wordsL.getD j [] ≠ l) : isWord l = false := by
  cases hw : isWord l with
  | false => rfl
  | true =>
    exfalso
    have hm : l ∈ wordsL := by simpa [isWord] using hw
    obtain ⟨j, hj, he⟩ := List.getElem_of_mem hm
    refine h j hj ?_
    rw [List.getD, List.getElem?_eq_getElem hj]; exact he
def noneTo (l : List UInt8) (k : Nat) : Prop := ∀ j, j < k → wordsL.getD j [] ≠ l
theorem noneTo_succ {l : List UInt8} {k : Nat} (h : noneTo l k) (hk : wordsL.getD k [] ≠ l) : noneTo l (k + 1) := fun j hj => by
  rcases Nat.lt_or_eq_of_le (Nat.le_of_lt_succ hj) with h1 | h1
  · exact h j h1
  · rw [h1]; exact hk
theorem str_eq (a b : ByteArray) : (a.toList == b.toList) = decide (a.data.toList = b.data.toList) := by
  rw [ByteArray.toList_eq, ByteArray.toList_eq, Bool.eq_iff_iff, beq_iff_eq, decide_eq_true_eq]
set_option maxHeartbeats 4000000 in
theorem rOf5_any (s : ByteArray) (w : World) (hs : s.size ≤ 9223372036854775807) :
    Calls Tryd.prog 57 #[.string s] w fun e w' => e = .returned (.int .i64 (kindOf s.data.toList)) ∧ Below w.heap.size w w' := by
  have hem : s.toList = s.data.toList := ByteArray.toList_eq s
  by_cases h5 : s.data.toList = [123] ∨ s.data.toList = [125] ∨ s.data.toList = [59]
  · have HK := Lib.hid (kind_sign h5)
    rw [← hem] at h5
    clear hem
    rcases h5 with h5 | h5 | h5
    all_goals
      go_enter Tryd.func57, Tryd.ntmps57
      go_wp2
      go_ret
      exact ⟨ret_int (by rw [HK.out]), bl_refl _⟩
  · have h5n := h5
    have q1 : (s.toList == [123]) = false := beq_eq_false_iff_ne.2 fun h => h5 (.inl (hem ▸ h))
    have q2 : (s.toList == [125]) = false := beq_eq_false_iff_ne.2 fun h => h5 (.inr (.inl (hem ▸ h)))
    have q3 : (s.toList == [59]) = false := beq_eq_false_iff_ne.2 fun h => h5 (.inr (.inr (hem ▸ h)))
    have H5 := Lib.hid h5
    clear h5 h5n
    by_cases hz : s.size = 0
    · have hl := (size_pos s).2 hz
      have h1 : s.toList.isEmpty = true := by rw [hem, hl]; rfl
      have HK := Lib.hid (kind_no H5.out (.inl hl))
      clear hl hem hz
      go_enter Tryd.func57, Tryd.ntmps57
      go_wp2
      go_ret
      exact ⟨ret_int (by rw [HK.out]), bl_refl _⟩
    · have hp : 0 < s.size := by omega
      have hl : s.data.toList ≠ [] := fun h => hz ((size_pos s).1 h)
      have h1 : s.toList.isEmpty = false := by rw [hem]; simpa using hl
      have HL := Lib.hid hl
      have HE := Lib.hid hem
      clear hz hl hem
      go_enter Tryd.func57, Tryd.ntmps57
      go_wp2_with fail
      clear q1 q2 q3 h1
      go_loop [3, 4] (fun pv v => ∃ (k : Nat) (b : Bool), k ≤ s.size ∧ v = .int .i64 k ∧ pv = .bool b ∧ Hid (b = plainB (s.data.toList.take k)) ∧ Hid ((s.data.toList.take k).all isLet = true)) (fun _ v => s.size - (intOf v).toNat)
      case atStart => exact ⟨0, true, Nat.zero_le _, rfl, rfl, by simp [Hid, plainB], by simp [Hid]⟩
      case round =>
        obtain ⟨k, b, hk, rfl, rfl, HB, HA⟩ := hrel
        by_cases hlt : k < s.size
        · have hu := all_upto s isLet k hlt
          have hv := all_upto s (fun c => c != 46 && c != 45) k hlt
          have hbad := all_false s isLet k hlt
          have HU := Lib.hid hu
          have HV := Lib.hid hv
          clear hu hv
          cases hi : isLet (s[k]'hlt) with
          | false =>
            have HK := Lib.hid (kind_no H5.out (.inr (hbad hi)))
            clear hbad
            go_wp2_with (go_at_call 56; refine (rletter_any _ _).mono ?_; rintro e w' ⟨rfl, rfl⟩)
            go_ret
            exact ⟨ret_int (by rw [HK.out]), bl_refl _⟩
          | true =>
            clear hbad
            have HI := Lib.hid hi
            have HX : Hid ((s.data.toList.take (k + 1)).all isLet = true) := by
              show _ = _
              rw [HU.out, HA.out, hi]; rfl
            have h46 : (((s[k]'hlt).toNat : Int) != 46) = (s[k]'hlt != 46) := by
              by_cases h : s[k]'hlt = 46
              · rw [h]; rfl
              · simp [bne, u8_nb (d := 46) (n := 46) rfl h, h]
            have h45 : (((s[k]'hlt).toNat : Int) != 45) = (s[k]'hlt != 45) := by
              by_cases h : s[k]'hlt = 45
              · rw [h]; rfl
              · simp [bne, u8_nb (d := 45) (n := 45) rfl h, h]
            have HP : Hid (plainB (s.data.toList.take (k + 1)) = (b && (((s[k]'hlt).toNat : Int) != 46 && ((s[k]'hlt).toNat : Int) != 45))) := by
              show _ = _
              rw [plainB, HV.out, h46, h45, HB.out]; rfl
            clear h46 h45
            cases b with
            | false =>
              go_wp2_with (go_at_call 56; refine (rletter_any _ _).mono ?_; rintro e w' ⟨rfl, rfl⟩)
              go_round
              case rel => exact ⟨k + 1, false, by omega, by go_num, rfl, (show _ = _ by rw [HP.out]; rfl), HX⟩
              case measure => simp [intOf]; omega
            | true =>
              have hbq : ∀ n : Int, (((s[k]'hlt).toNat : Int) != n) = true ∨ (((s[k]'hlt).toNat : Int) != n) = false := fun n => by cases (((s[k]'hlt).toNat : Int) != n) <;> simp
              rcases hbq 46 with g1 | g1
              · rcases hbq 45 with g2 | g2
                all_goals
                  have HPP := Lib.hid (HP.out.trans (by rw [g1, g2]))
                  clear hbq
                  go_wp2_with (go_at_call 56; refine (rletter_any _ _).mono ?_; rintro e w' ⟨rfl, rfl⟩)
                  go_round
                  case rel => exact ⟨k + 1, _, by omega, by go_num, rfl, (show _ = _ by rw [HPP.out]; simp), HX⟩
                  case measure => simp [intOf]; omega
              · have HPP := Lib.hid (HP.out.trans (by rw [g1]))
                clear hbq
                go_wp2_with (go_at_call 56; refine (rletter_any _ _).mono ?_; rintro e w' ⟨rfl, rfl⟩)
                go_round
                case rel => exact ⟨k + 1, _, by omega, by go_num, rfl, (show _ = _ by rw [HPP.out]; simp), HX⟩
                case measure => simp [intOf]; omega
        · obtain rfl : k = s.size := by omega
          have hA := HA.out
          have hB := HB.out
          rw [take_end] at hA hB
          have HK := Lib.hid (kind_let hA HL.out)
          have HBB := Lib.hid hB
          clear hA hB HA HB
          go_wp2_with (go_at_call 96; refine (words_any _).mono ?_; rintro e w1 ⟨rfl, hw1, hb1⟩)
          have hz1 := hw1.lt
          go_loop [47] (fun v => ∃ k : Nat, k ≤ 26 ∧ v = .int .i64 k ∧ Hid (noneTo s.data.toList k)) (fun v => 26 - (intOf v).toNat)
          case atStart => exact ⟨0, by omega, rfl, fun j hj => absurd hj (by omega)⟩
          case round =>
            obtain ⟨k, hk, rfl, HN⟩ := hrel
            by_cases hlt : k < 26
            · have hc := (hw1.cell k).trans (wordsV_at k hlt)
              by_cases hq : wordsL.getD k [] = s.data.toList
              · have hb := str_eq ⟨(wordsL.getD k []).toArray⟩ s
                rw [decide_eq_true (by simpa using hq)] at hb
                have HF : Hid (kindOf s.data.toList = 2) := by
                  show _ = _
                  rw [HK.out, if_pos (isWord_at hlt hq)]
                clear hq
                generalize (⟨(wordsL.getD k []).toArray⟩ : ByteArray) = x at *
                go_wp2
                go_ret
                exact ⟨ret_int (by rw [HF.out]), hb1⟩
              · have hb := str_eq ⟨(wordsL.getD k []).toArray⟩ s
                rw [decide_eq_false (by simpa using hq)] at hb
                have HX : Hid (noneTo s.data.toList (k + 1)) := noneTo_succ HN.out hq
                clear hq
                generalize (⟨(wordsL.getD k []).toArray⟩ : ByteArray) = x at *
                go_wp2
                go_round
                case rel => exact ⟨k + 1, by omega, by go_num, HX⟩
                case measure => simp [intOf]; omega
            · obtain rfl : k = 26 := by omega
              have HW := Lib.hid (HK.out.trans (by rw [if_neg (by rw [isWord_none HN.out]; simp)]))
              clear hlt HN
              have hg0 := getD_at s 0 hp
              have hcl := (s[0]'hp).toNat_lt
              have hnn := numForm_nonneg s.data.toList
              have HDF : Hid (digFirst s.data.toList = (decide (48 ≤ ((s[0]'hp).toNat : Int)) && decide (((s[0]'hp).toNat : Int) ≤ 57))) := by
                show _ = _
                rw [digFirst, hg0, Bool.eq_iff_iff]; simp [isDig]; omega
              clear hg0
              by_cases hA : b = true ∧ (((s[0]'hp).toNat : Int) < 48 ∨ 57 < ((s[0]'hp).toNat : Int))
              · obtain ⟨rfl, hA⟩ := hA
                have HF := Lib.hid (HW.out.trans (if_pos ⟨HBB.out.symm, HDF.out.trans (by simp; omega)⟩))
                rcases hA with hA | hA
                · go_wp2
                  go_ret
                  exact ⟨ret_int (by rw [HF.out]), hb1⟩
                · go_wp2
                  go_ret
                  exact ⟨ret_int (by rw [HF.out]), hb1⟩
              · have HF := Lib.hid (HW.out.trans (if_neg (fun h => hA ⟨HBB.out.trans h.1, by have := HDF.out.symm.trans h.2; simp at this; omega⟩)))
                clear HW
                by_cases hn : 0 < numForm s.data.toList
                · have HF3 := Lib.hid (HF.out.trans (if_pos (by omega)))
                  clear HF
                  cases b with
                  | false =>
                    go_wp2_with (go_at_call 97; refine (rOf4_any _ _ hs).mono ?_; rintro e w' ⟨rfl, rfl⟩)
                    go_ret
                    exact ⟨ret_int (by rw [HF3.out]), hb1⟩
                  | true =>
                    have hA2 : ¬ (((s[0]'hp).toNat : Int) < 48 ∨ 57 < ((s[0]'hp).toNat : Int)) := fun h => hA ⟨rfl, h⟩
                    have g1 : 48 ≤ ((s[0]'hp).toNat : Int) := by omega
                    have g2 : ((s[0]'hp).toNat : Int) ≤ 57 := by omega
                    clear hA hA2
                    go_wp2_with (go_at_call 97; refine (rOf4_any _ _ hs).mono ?_; rintro e w' ⟨rfl, rfl⟩)
                    go_ret
                    exact ⟨ret_int (by rw [HF3.out]), hb1⟩
                · have HF4 := Lib.hid (HF.out.trans (if_neg (by omega)))
                  clear HF
                  cases hpk : pOk s
                  all_goals
                    have HPK := Lib.hid hpk
                    cases b with
                    | false =>
                      go_wp2_with (first | (go_at_call 97; refine (rOf4_any _ _ hs).mono ?_; rintro e w' ⟨rfl, rfl⟩) | (go_at_call 71; refine (rparse_any _ _).mono ?_; rintro e w2 ⟨rfl, hb2⟩))
                      go_ret
                      refine ⟨ret_int (by rw [HF4.out]; have h := HPK.out; simp only [pOk] at h; rw [h]; rfl), ?_⟩
                      exact bl_alloc (bl_call hb1 hb2) _
                    | true =>
                      have hA2 : ¬ (((s[0]'hp).toNat : Int) < 48 ∨ 57 < ((s[0]'hp).toNat : Int)) := fun h => hA ⟨rfl, h⟩
                      have g1 : 48 ≤ ((s[0]'hp).toNat : Int) := by omega
                      have g2 : ((s[0]'hp).toNat : Int) ≤ 57 := by omega
                      clear hA hA2
                      go_wp2_with (first | (go_at_call 97; refine (rOf4_any _ _ hs).mono ?_; rintro e w' ⟨rfl, rfl⟩) | (go_at_call 71; refine (rparse_any _ _).mono ?_; rintro e w2 ⟨rfl, hb2⟩))
                      go_ret
                      refine ⟨ret_int (by rw [HF4.out]; have h := HPK.out; simp only [pOk] at h; rw [h]; rfl), ?_⟩
                      exact bl_alloc (bl_call hb1 hb2) _
end Go.Proofs.YtcgkfgklggjmaaaDoor
end
section
namespace Go.Proofs.YtcgkfgklggjmaaaDoor
set_option linter.unusedVariables false
set_option linter.unusedSimpArgs false
open Go.RowKit
/-! the program's Of -/
theorem spaced_list (s : ByteArray) : ((⟨#[32]⟩ : ByteArray) ++ s ++ ⟨#[32]⟩).data.toList = 32 :: (s.data.toList ++ [32]) := by
  simp only [ByteArray.data_append, Array.toList_append]; rfl
section
variable {l : List UInt8}
theorem kt_name (h : l ≠ []) : nameB l = true ↔ plainB l = true ∧ digFirst l = false := by
  have : l.isEmpty = false := by cases l with
    | nil => exact absurd rfl h
    | cons x l => rfl
  simp [nameB, this]
theorem kt2 (h : isWord l = true) : (if isWord l then (2 : Int) else if plainB l ∧ digFirst l = false then 1 else if numForm l ≠ 0 then 3 else if parseOk l then 4 else 0) = 2 := if_pos h
theorem kt1 (h0 : l ≠ []) (h : isWord l = false) (h1 : nameB l = true) : (if isWord l then (2 : Int) else if plainB l ∧ digFirst l = false then 1 else if numForm l ≠ 0 then 3 else if parseOk l then 4 else 0) = 1 := by
  rw [if_neg (by simp [h]), if_pos ((kt_name h0).1 h1)]
theorem kt3 (h0 : l ≠ []) (h : isWord l = false) (h1 : nameB l = false) (h2 : (numForm l != 0) = true) : (if isWord l then (2 : Int) else if plainB l ∧ digFirst l = false then 1 else if numForm l ≠ 0 then 3 else if parseOk l then 4 else 0) = 3 := by
  rw [if_neg (by simp [h]), if_neg (fun hc => by rw [(kt_name h0).2 hc] at h1; cases h1), if_pos (by simpa using h2)]
theorem kt4 (h0 : l ≠ []) (h : isWord l = false) (h1 : nameB l = false) (h2 : (numForm l != 0) = false) {b : Bool} (h3 : parseOk l = b) : (if isWord l then (2 : Int) else if plainB l ∧ digFirst l = false then 1 else if numForm l ≠ 0 then 3 else if parseOk l then 4 else 0) = if b then 4 else 0 := by
  rw [if_neg (by simp [h]), if_neg (fun hc => by rw [(kt_name h0).2 hc] at h1; cases h1), if_neg (by simpa using h2), h3]
end
theorem word_call (T S : ByteArray) (l : List UInt8) (w : World) (hG : GL w) (hT : T.data.toList = textW) (hS : S.data.toList = 32 :: (l ++ [32])) (hl : l.all isLet = true) :
    Calls Tryd.prog 121 #[.string T, .string S] w fun e w' => e = .returned (.bool (isWord l)) ∧ w = w' := by
  obtain ⟨m, hm⟩ := hG
  have hsz : T.size < 4294967281 := by
    have : T.size = T.data.toList.length := by simp
    have hl : textW.length ≤ 1000 := by decide +kernel
    rw [this, hT]; omega
  refine (Tryd.strings_Contains T S m w hsz hm).mono ?_
  rintro e w' ⟨rfl, rfl⟩
  exact ⟨by rw [hT, hS, contains_words l hl], rfl⟩
theorem sign_call (T S : ByteArray) (c : UInt8) (w : World) (hG : GL w) (hT : T.data.toList = [123, 125, 59]) (hS : S.data.toList = [c]) :
    Calls Tryd.prog 121 #[.string T, .string S] w fun e w' => e = .returned (.bool (c == 123 || c == 125 || c == 59)) ∧ w = w' := by
  obtain ⟨m, hm⟩ := hG
  have hsz : T.size < 4294967281 := by
    have : T.size = T.data.toList.length := by simp
    rw [this, hT]; decide
  refine (Tryd.strings_Contains T S m w hsz hm).mono ?_
  rintro e w' ⟨rfl, rfl⟩
  exact ⟨by rw [hT, hS, contains_sign c], rfl⟩
theorem GL.alloc {w : World} (h : GL w) (o : Obj) : GL (w.alloc o) := let ⟨m, hm⟩ := h; ⟨m, (World.cell?_alloc_lt _ _ _ (World.block_lt_of_cell? _ _ hm)).trans hm⟩
theorem one_list (s : ByteArray) (h : s.size = 1) : s.data.toList = [s[0]'(by omega)] := by
  have h1 := take_snoc s 0 (by omega)
  have h2 := take_end s
  rw [h] at h2
  rw [← h2]; simpa using h1
set_option maxHeartbeats 4000000 in
theorem lexOf_any (s : ByteArray) (w : World) (hG : GL w) (hs : s.size < 4294967281) :
    Calls Tryd.prog 86 #[.string s] w fun e w' => e = .returned (.int .i64 (kindOf s.data.toList)) ∧ Below w.heap.size w w' := by
  have HE := Lib.hid (ByteArray.toList_eq s)
  have HGL := Lib.hid hG
  clear hG
  go_enter Tryd.func86, Tryd.ntmps86
  go_wp2_with fail
  go_loop [8] (fun v => ∃ k : Nat, k ≤ s.size ∧ v = .int .i64 k ∧ Hid ((s.data.toList.take k).all isLet = true)) (fun v => s.size - (intOf v).toNat)
  case atStart => exact ⟨0, Nat.zero_le _, rfl, by simp [Hid]⟩
  case round =>
    obtain ⟨k, hk, rfl, HA⟩ := hrel
    by_cases hlt : k < s.size
    · have hu := all_upto s isLet k hlt
      have hbad := all_false s isLet k hlt
      have HU := Lib.hid hu
      clear hu
      cases hi : isLet (s[k]'hlt) with
      | false =>
        have HBad := Lib.hid (hbad hi)
        clear hbad
        by_cases h1 : s.size = 1
        · have hk0 : k = 0 := by omega
          subst hk0
          have hl1 := one_list s h1
          generalize hcc : s[0]'hlt = c at *
          have HL1 := Lib.hid hl1
          have hb1 : ((s.size : Int) == 1) = true := by rw [beq_iff_eq]; omega
          have hlt0 : 0 < s.size := hlt
          clear hl1 h1
          cases hsg : (c == 123 || c == 125 || c == 59) with
          | true =>
            have HK := Lib.hid (kind_sign (l := s.data.toList) (by rw [HL1.out]; simp only [Bool.or_eq_true, beq_iff_eq] at hsg; rcases hsg with (h | h) | h <;> simp [h]))
            have HSG := Lib.hid hsg
            clear hsg
            rw [← hcc] at hi
            clear hcc
            go_wp2_with (first
              | (go_at_call 120; refine (letter_any _ _).mono ?_; rintro e w' ⟨rfl, rfl⟩)
              | (go_at_call 121; refine (sign_call _ _ c _ HGL.out (by rfl) HL1.out).mono ?_; rw [HSG.out]; rintro e w' ⟨rfl, rfl⟩))
            go_ret
            exact ⟨ret_int (by rw [HK.out]), bl_refl _⟩
          | false =>
            have HK := Lib.hid (kind_no (l := s.data.toList) (by rw [HL1.out]; simp only [Bool.or_eq_false_iff, beq_eq_false_iff_ne] at hsg; simp [hsg.1.1, hsg.1.2, hsg.2]) (.inr HBad.out))
            have HSG := Lib.hid hsg
            clear hsg
            rw [← hcc] at hi
            clear hcc
            go_wp2_with (first
              | (go_at_call 120; refine (letter_any _ _).mono ?_; rintro e w' ⟨rfl, rfl⟩)
              | (go_at_call 121; refine (sign_call _ _ c _ HGL.out (by rfl) HL1.out).mono ?_; rw [HSG.out]; rintro e w' ⟨rfl, rfl⟩))
            go_ret
            exact ⟨ret_int (by rw [HK.out]), bl_refl _⟩
        · have HK := Lib.hid (kind_no (l := s.data.toList) (fun h => by
            have := h1; rw [show s.size = s.data.toList.length by simp] at this
            rcases h with h | h | h <;> rw [h] at this <;> simp at this) (.inr HBad.out))
          have hb1 : ((s.size : Int) == 1) = false := by rw [beq_eq_false_iff_ne]; omega
          clear h1
          go_wp2_with (go_at_call 120; refine (letter_any _ _).mono ?_; rintro e w' ⟨rfl, rfl⟩)
          go_ret
          exact ⟨ret_int (by rw [HK.out]), bl_refl _⟩
      | true =>
        have HX : Hid ((s.data.toList.take (k + 1)).all isLet = true) := by
          show _ = _
          rw [HU.out, HA.out, hi]; rfl
        clear hbad
        go_wp2_with (go_at_call 120; refine (letter_any _ _).mono ?_; rintro e w' ⟨rfl, rfl⟩)
        go_round
        case rel => exact ⟨k + 1, by omega, by go_num, HX⟩
        case measure => simp [intOf]; omega
    · obtain rfl : k = s.size := by omega
      have hA := HA.out
      rw [take_end] at hA
      have HAL := Lib.hid hA
      clear hA HA hlt
      by_cases hz : s.size = 0
      · have hl := (size_pos s).2 hz
        have h1 : s.toList.isEmpty = true := by rw [HE.out, hl]; rfl
        have HK := Lib.hid (kind_no (l := s.data.toList) (by rw [hl]; simp) (.inl hl))
        clear hl hz
        go_wp2_with (go_at_call 90; refine (dparse_any _ _).mono ?_; rintro e w1 ⟨rfl, hb1⟩)
        go_ret
        exact ⟨ret_int (by rw [HK.out]), bl_alloc hb1 _⟩
      · have hl : s.data.toList ≠ [] := fun h => hz ((size_pos s).1 h)
        have h1 : s.toList.isEmpty = false := by rw [HE.out]; simpa using hl
        have HK := Lib.hid (kind_let HAL.out hl)
        have HL := Lib.hid hl
        clear hl hz
        have hsum : s.size + 2 ≤ 9223372036854775807 := by omega
        go_wp2_with (first
          | (go_at_call 90; refine (dparse_any _ _).mono ?_; rintro e w1 ⟨rfl, hb1⟩)
          | (go_at_call 121; refine (word_call _ _ s.data.toList _ ((HGL.out.below hb1).alloc _) (by rfl) (spaced_list s) HAL.out).mono ?_; rintro e w' ⟨rfl, rfl⟩)
          | (go_at_call 122; refine (name_any _ _ (by omega)).mono ?_; rintro e w' ⟨rfl, rfl⟩)
          | (go_at_call 123; refine (decOf_any _ _ ((HGL.out.below hb1).alloc _) hs).mono ?_; rintro e w2 ⟨rfl, hb2⟩))
        all_goals
          go_ret
          refine ⟨ret_int ?_, ?_⟩
          · rw [HK.out]
            first
            | exact (kt2 (by assumption)).symm
            | exact (kt1 HL.out (by assumption) (by assumption)).symm
            | exact (kt3 HL.out (by assumption) (by assumption) (by assumption)).symm
            | exact (kt4 HL.out (by assumption) (by assumption) (by assumption) (b := true) (by assumption)).symm
            | exact (kt4 HL.out (by assumption) (by assumption) (by assumption) (b := false) (by assumption)).symm
          · repeat (first | exact hb1 | apply bl_alloc | refine bl_call ?_ (by assumption))
end Go.Proofs.YtcgkfgklggjmaaaDoor
end
