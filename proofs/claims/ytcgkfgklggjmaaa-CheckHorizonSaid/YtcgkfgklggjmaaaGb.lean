import Derived.Test.YtcgkfgklggjmaaaGa
import Derived.Test.YtcgkfgklggjmaaaProg
import Derived.WalkKit
import Derived.Deep.QuietTactic
import Derived.BigQuiet
import Derived.WalkSpells
import Derived.Outline
import Derived.Lib.Hide
import Derived.Deep.LoopGhost
import Derived.Deep.DeepFit
import Derived.Lib.OthersKept
import Derived.Lib.Strings
import Derived.Deep.RegionWith
import Derived.Deep.RegionHeld3
import Derived.OwnWalk
import Derived.Laws.OwnMore
import Derived.Laws.ResultCell
import Derived.Laws.Rows
import Derived.Laws.StructEq
import Derived.Deep.AppendLies
import Derived.Deep.Draws
import Derived.Lib.ConvBytes
import Derived.Lib.Repeat
import Derived.Lib.IndexMore
import Derived.Lib.ItoaLen
import Derived.Lib.AtoiAllCases
import Derived.Test.YtcgkfgklggjmaaaShelf
import Derived.Lib.IndexBytes
import Derived.Lib.AtoiAll
import Derived.Lib.TrimByte
import Derived.Lib.ItoaMem
section
namespace Go.Proofs.Ytcgkfgklggjmaaa
set_option linter.unusedVariables false
set_option linter.unusedSimpArgs false
open Go.RowKit
theorem ret_int {k : IntKind} {a b : Int} (h : a = b) : Ending.returned (.int k a) = .returned (.int k b) := by rw [h]
theorem ret_bool {a b : Bool} (h : a = b) : Ending.returned (.bool a) = .returned (.bool b) := by rw [h]
theorem ret_val {a b : Value} (h : a = b) : Ending.returned a = .returned b := by rw [h]
/-! what lay there stays: steps of a walk -/
theorem bl_refl (w : World) : Below w.heap.size w w := Below.refl _ _
theorem bl_call {w v w' : World} (h : Below w.heap.size w v) (hb : Below v.heap.size v w') : Below w.heap.size w w' := h.trans (hb.mono h.size)
theorem bl_alloc {w v : World} (h : Below w.heap.size w v) (o : Obj) : Below w.heap.size w (v.alloc o) := h.alloc h.size o
theorem bl_drewN {w v : World} (h : Below w.heap.size w v) (n : Nat) : Below w.heap.size w (v.drewN n) := ⟨h.os, h.tape, h.output, h.size, h.block⟩
theorem bl_drew {w v : World} (h : Below w.heap.size w v) : Below w.heap.size w v.drew := ⟨h.os, h.tape, h.output, h.size, h.block⟩
theorem bl_set {w v : World} (h : Below w.heap.size w v) {p : Addr} (hp : w.heap.size ≤ p.block) (u : Value) : Below w.heap.size w (v.setCell p u) := h.setCell hp u
theorem below_drewN {B : Nat} {a w : World} (h : Below B a w) (n : Nat) : Below B a (w.drewN n) := ⟨h.os, h.tape, h.output, h.size, h.block⟩
theorem below_drew1 {B : Nat} {a w : World} (h : Below B a w) : Below B a w.drew := ⟨h.os, h.tape, h.output, h.size, h.block⟩
/-! calls in a region that draws -/
theorem quiet_left {P : Program} {f : FuncId} {args : Array Value} {w : World} {n : Nat} {v : Value}
    (h : Calls P f args (w.drewN n) fun e w' => e = .returned v ∧ w.drewN n = w') : Calls P f args (w.drewN n) fun e w'' => e = .returned v ∧ ∃ m, w'' = w.drewN m :=
  h.mono fun _ _ ⟨he, hm⟩ => ⟨he, n, hm.symm⟩
theorem quiet_add_left {P : Program} {f : FuncId} {args : Array Value} {w : World} {a n : Nat} {v : Value}
    (h : Calls P f args (w.drewN (a + n)) fun e w' => e = .returned v ∧ w.drewN (a + n) = w') :
    Calls P f args (w.drewN (a + n)) fun e w'' => e = .returned v ∧ ∃ m, w'' = w.drewN (a + m) :=
  h.mono fun _ _ ⟨he, hm⟩ => ⟨he, n, hm.symm⟩
theorem quiet_add {P : Program} {f : FuncId} {args : Array Value} {w : World} {a n : Nat} {v : Value}
    (h : Calls P f args (w.drewN (a + n)) fun e w' => e = .returned v ∧ ∃ m, w' = (w.drewN (a + n)).drewN m) :
    Calls P f args (w.drewN (a + n)) fun e w'' => e = .returned v ∧ ∃ m, w'' = w.drewN (a + m) :=
  h.mono fun _ _ ⟨he, m, hm⟩ => ⟨he, n + m, by rw [hm, World.drewN_drewN, Nat.add_assoc]⟩
/-! a block that is known whole -/
def Blk (w : World) (g : Nat) (t : TypeId) (cs : Array Value) : Prop := w.heap[g]? = some (.cells cs t (0, 0))
section
variable {w w' : World} {g : Nat} {t : TypeId} {cs : Array Value}
theorem Blk.lt (h : Blk w g t cs) : g < w.heap.size := by
  rcases Nat.lt_or_ge g w.heap.size with hlt | hge
  · exact hlt
  · unfold Blk at h; rw [Array.getElem?_eq_none hge] at h; cases h
theorem Blk.cell (h : Blk w g t cs) (i : Nat) : w.cell? ⟨g, i, none⟩ = cs[i]? := cell_of_row w g i cs t (0, 0) h
theorem Blk.frozen (h : Blk w g t cs) (i : Nat) : w.frozen? ⟨g, i, none⟩ = false := by
  unfold Blk at h
  simp [World.frozen?, h]
theorem Blk.new (w : World) (t : TypeId) (cs : Array Value) : Blk (w.alloc (.cells cs t)) w.heap.size t cs := heap_alloc_new w _
theorem Blk.drew (h : Blk w g t cs) : Blk w.drew g t cs := h
theorem Blk.drewN (h : Blk w g t cs) (n : Nat) : Blk (w.drewN n) g t cs := h
theorem Blk.alloc (h : Blk w g t cs) (o : Obj) : Blk (w.alloc o) g t cs := (Below.heap_alloc w o g h.lt).trans h
theorem Blk.set_ (h : Blk w g t cs) (i : Nat) (u : Value) : Blk (w.setCell ⟨g, i, none⟩ u) g t (cs.setIfInBounds i u) := by
  unfold Blk at h ⊢
  simp [World.setCell, Array.getElem?_modify, h]
theorem Blk.far (h : Blk w g t cs) {p : Addr} (hp : g ≠ p.block) (u : Value) : Blk (w.setCell p u) g t cs := (Below.heap_setCell w p u g hp).trans h
theorem Blk.below {B : Nat} (h : Blk w g t cs) (hb : Below B w w') (hg : g < B) : Blk w' g t cs := (hb.block g hg).trans h
theorem Blk.call (h : Blk w g t cs) (hb : Below w.heap.size w w') : Blk w' g t cs := h.below hb h.lt
theorem Blk.grown {row : Option Nat} (h : Blk w g t cs) (hb : w.grownBy w' row) (hg : some g ≠ row) : Blk w' g t cs := (hb.block g h.lt hg).trans h
theorem Blk.ne_ {g' : Nat} {t' : TypeId} {cs' : Array Value} (h : Blk w g t cs) (h' : Blk w g' t' cs') (hne : t ≠ t') : g ≠ g' := by
  rintro rfl
  unfold Blk at h h'
  rw [h] at h'
  injection h' with h'
  injection h' with _ ht
  exact hne ht
end
theorem Blk.c1 {w : World} {g : Nat} {t : TypeId} {a : Value} (h : Blk w g t #[a]) : w.cell? ⟨g, 0, none⟩ = some a ∧ w.frozen? ⟨g, 0, none⟩ = false := ⟨h.cell 0, h.frozen 0⟩
theorem Blk.c2 {w : World} {g : Nat} {t : TypeId} {a b : Value} (h : Blk w g t #[a, b]) : w.cell? ⟨g, 0, none⟩ = some a ∧ w.cell? ⟨g, 1, none⟩ = some b ∧ w.frozen? ⟨g, 0, none⟩ = false ∧ w.frozen? ⟨g, 1, none⟩ = false := ⟨h.cell 0, h.cell 1, h.frozen 0, h.frozen 1⟩
theorem Blk.c3 {w : World} {g : Nat} {t : TypeId} {a b c : Value} (h : Blk w g t #[a, b, c]) : w.cell? ⟨g, 0, none⟩ = some a ∧ w.cell? ⟨g, 1, none⟩ = some b ∧ w.cell? ⟨g, 2, none⟩ = some c ∧ w.frozen? ⟨g, 0, none⟩ = false ∧ w.frozen? ⟨g, 1, none⟩ = false ∧ w.frozen? ⟨g, 2, none⟩ = false := ⟨h.cell 0, h.cell 1, h.cell 2, h.frozen 0, h.frozen 1, h.frozen 2⟩
theorem Blk.c4 {w : World} {g : Nat} {t : TypeId} {a b c d : Value} (h : Blk w g t #[a, b, c, d]) : w.cell? ⟨g, 0, none⟩ = some a ∧ w.cell? ⟨g, 1, none⟩ = some b ∧ w.cell? ⟨g, 2, none⟩ = some c ∧ w.cell? ⟨g, 3, none⟩ = some d ∧ w.frozen? ⟨g, 0, none⟩ = false ∧ w.frozen? ⟨g, 1, none⟩ = false ∧ w.frozen? ⟨g, 2, none⟩ = false ∧ w.frozen? ⟨g, 3, none⟩ = false := ⟨h.cell 0, h.cell 1, h.cell 2, h.cell 3, h.frozen 0, h.frozen 1, h.frozen 2, h.frozen 3⟩
theorem Blk.iterAt {w : World} {g : Nat} {t : TypeId} {cs : Array Value} (h : Blk w g t cs) {k : Nat} (hk : k ≠ g) (s : ByteArray) (p : Nat) : Blk (w.iterAt k s p) g t cs := by
  unfold Blk; rw [Lib.iterAt_other _ _ _ _ _ (Ne.symm hk)]; exact h
theorem results_cell_tmp_row {P : Program} {fn : Func} {p u : Tmp} {ty : TypeId} (h : fn.results = #[.cell p ty, .tmp u]) (tmps : Array Value) (w : World) (g : Nat) (t : TypeId) (cs : Array Value) (d : TypeDesc)
    (hp : tmps.getD p undef = .pointer (some ⟨g, 0, none⟩)) (hg : Blk w g t cs)
    (hu : P.underlying ty = some d) (hd : (match d with | .struct _ | .array _ _ => true | _ => false) = true) (hi : (P.info? ty).map (·.size) = some cs.size) :
    (results fn tmps).run P w = .ok (.tuple #[.agg cs, tmps.getD u undef]) w := by
  have hp' : tmps[p]?.getD undef = .pointer (some ⟨g, 0, none⟩) := by simpa using hp
  simp [results, h, hp', asAddr, run_loadVar_row w g t ty cs (0, 0) d hg hu hd hi]
theorem results_tmp_cell_row {P : Program} {fn : Func} {p u : Tmp} {ty : TypeId} (h : fn.results = #[.tmp u, .cell p ty]) (tmps : Array Value) (w : World) (g : Nat) (t : TypeId) (cs : Array Value) (d : TypeDesc)
    (hp : tmps.getD p undef = .pointer (some ⟨g, 0, none⟩)) (hg : Blk w g t cs)
    (hu : P.underlying ty = some d) (hd : (match d with | .struct _ | .array _ _ => true | _ => false) = true) (hi : (P.info? ty).map (·.size) = some cs.size) :
    (results fn tmps).run P w = .ok (.tuple #[tmps.getD u undef, .agg cs]) w := by
  have hp' : tmps[p]?.getD undef = .pointer (some ⟨g, 0, none⟩) := by simpa using hp
  simp [results, h, hp', asAddr, run_loadVar_row w g t ty cs (0, 0) d hg hu hd hi]
theorem eqF_nil {P : Program} {w : World} (d : Nat) (xs ys : Array Value) : (Op.eqFields d xs ys []).run P w = .ok true w := by simp [Op.eqFields]
theorem eqF_cons {P : Program} {w : World} (d : Nat) (xs ys : Array Value) (f : Field) (fs : List Field) (a b : Value) (r s : Bool) (hn : (f.name == "_") = false) (ha : (part f.type xs f.offset).run P w = .ok a w) (hb : (part f.type ys f.offset).run P w = .ok b w) (he : (Op.equalIn d f.type a b).run P w = .ok r w) (hr : (Op.eqFields d xs ys fs).run P w = .ok s w) : (Op.eqFields d xs ys (f :: fs)).run P w = .ok (r && s) w := by
  have hn' : f.name ≠ "_" := by simpa using hn
  rw [Op.eqFields]
  simp only [if_pos hn', Sem.run_bind, ha, hb, he, Result.andThen_ok]
  cases r
  · simp
  · simpa using hr
theorem eqS_of {P : Program} {w : World} (d : Nat) (t : TypeId) (fs : Array Field) (xs ys : Array Value) (r : Bool) (hu : P.underlying t = some (.struct fs)) (hp : P.stoodInHeld t = false) (h : (Op.eqFields d xs ys fs.toList).run P w = .ok r w) : (Op.equalIn (d + 1) t (.agg xs) (.agg ys)).run P w = .ok r w := by
  have hf : P.fieldsOf t = fs := by simp [Program.fieldsOf, hu]
  rw [run_equalIn_struct (P := P) w d t xs ys (by rw [hf]; exact hu) hp, hf]
  exact h
theorem eql_S {P : Program} {w : World} {t : TypeId} {xs ys : Array Value} {r : Bool} (h : ∀ d, (Op.equalIn (d + 3) t (.agg xs) (.agg ys)).run P w = .ok r w) : (binOp .eql t (.agg xs) (.agg ys)).run P w = .ok (.bool r) w := by
  rw [run_eql_struct, h 9997]; rfl
theorem neq_S {P : Program} {w : World} {t : TypeId} {xs ys : Array Value} {r : Bool} (h : ∀ d, (Op.equalIn (d + 3) t (.agg xs) (.agg ys)).run P w = .ok r w) : (binOp .neq t (.agg xs) (.agg ys)).run P w = .ok (.bool (!r)) w := by
  rw [run_neq_struct, h 9997]; rfl
theorem iterPos_of {w : World} {k : Nat} {s : ByteArray} {p : Nat} (h : w.heap[k]? = some (.stringIter s p)) : w.iterPos k = p := by simp [World.iterPos, h]
theorem take_snoc (s : ByteArray) (k : Nat) (h : k < s.size) : s.data.toList.take (k + 1) = s.data.toList.take k ++ [s[k]] := by
  rw [List.take_succ_eq_append_getElem (by simpa using h)]; rfl
theorem byte_lt (c : UInt8) : 0 ≤ (c.toNat : Int) ∧ (c.toNat : Int) ≤ 255 := by have := c.toNat_lt; omega
end Go.Proofs.Ytcgkfgklggjmaaa
end
section
namespace Go.Proofs.Ytcgkfgklggjmaaa
set_option linter.unusedVariables false
set_option linter.unusedSimpArgs false
open Go.RowKit
def tokCells (t : Tok) : List Value := [.int .i64 t.kind, .string t.text, .int .i64 t.line, .int .i64 t.col]
def toksCells (ts : List Tok) : List Value := ts.flatMap tokCells
theorem toks_snoc (ts : List Tok) (t : Tok) : toksCells (ts ++ [t]) = toksCells ts ++ tokCells t := by simp [toksCells]
theorem ownsRow_below {w w' : World} {base : Nat} {e : TypeId} {size : Nat} {v : Value} {n : Nat} {xs : List Value} (h : w.ownsRow base e size v n xs) (hb : Below w.heap.size w w') : w'.ownsRow base e size v n xs := by
  obtain ⟨h1, h2⟩ := h
  refine ⟨h1, ?_⟩
  rcases h2 with h2 | ⟨g, cap, cur, a, b, c, d⟩
  · exact .inl h2
  · exact .inr ⟨g, cap, cur, a, b, (hb.block g (Blk.lt (t := e) (cs := cur) c)).trans c, d⟩
theorem ownsRow_set {w : World} {base : Nat} {e : TypeId} {size : Nat} {v : Value} {n : Nat} {xs : List Value} (h : w.ownsRow base e size v n xs) {p : Addr} (hp : p.block < base) (u : Value) : (w.setCell p u).ownsRow base e size v n xs := by
  obtain ⟨h1, h2⟩ := h
  refine ⟨h1, ?_⟩
  rcases h2 with h2 | ⟨g, cap, cur, a, b, c, d⟩
  · exact .inl h2
  · exact .inr ⟨g, cap, cur, a, b, (Below.heap_setCell w p u g (by omega)).trans c, d⟩
theorem ownsRow_drewN {w : World} {base : Nat} {e : TypeId} {size : Nat} {v : Value} {n : Nat} {xs : List Value} (h : w.ownsRow base e size v n xs) (k : Nat) : (w.drewN k).ownsRow base e size v n xs := h
theorem ownsRow_far {w : World} {base : Nat} {e : TypeId} {size : Nat} {v : Value} {n : Nat} {xs : List Value} (h : w.ownsRow base e size v n xs) {p : Addr} (hp : ∀ g, v.ownBlock = some g → g ≠ p.block) (u : Value) : (w.setCell p u).ownsRow base e size v n xs := by
  obtain ⟨h1, h2⟩ := h
  refine ⟨h1, ?_⟩
  rcases h2 with h2 | ⟨g, cap, cur, a, b, c, d⟩
  · exact .inl h2
  · exact .inr ⟨g, cap, cur, a, b, (Below.heap_setCell w p u g (hp g (by rw [a]; rfl))).trans c, d⟩
theorem blk_23 {w : World} {g : Nat} {t : TypeId} {a b c d : Value} (h : Blk w g t #[a, b, c, d]) : w.cell? ⟨g, 2, none⟩ = some c ∧ w.cell? ⟨g, 3, none⟩ = some d := ⟨h.cell 2, h.cell 3⟩
theorem ownsRow_base {w : World} {base base' : Nat} {e : TypeId} {size : Nat} {v : Value} {n : Nat} {xs : List Value} (h : w.ownsRow base e size v n xs) (hb : base' ≤ base) : w.ownsRow base' e size v n xs := by
  obtain ⟨h1, h2⟩ := h
  refine ⟨h1, ?_⟩
  rcases h2 with h2 | ⟨g, cap, cur, a, b, c, d⟩
  · exact .inl h2
  · exact .inr ⟨g, cap, cur, a, by omega, c, d⟩
theorem bl_grown {w v w' : World} {row : Option Nat} (h : Below w.heap.size w v) (hg : v.grownBy w' row) (hr : ∀ k, row = some k → w.heap.size ≤ k) : Below w.heap.size w w' := h.grown hg h.size hr
theorem ext_drop (s : ByteArray) (a : Nat) : (s.extract a s.size).data.toList = s.data.toList.drop a := by
  rw [Lib.extract_data]; exact List.take_of_length_le (by simp)
theorem ext_take (s : ByteArray) (a n : Nat) : (s.extract a (a + n)).data.toList = (s.data.toList.drop a).take n := by
  rw [Lib.extract_data, show a + n - a = n from by omega]
def LexIn (l : List UInt8) (ts : List Tok) (a : Nat) (line col : Int) : Prop := lexL l 1 1 = preR ts (lexL (l.drop a) line col)
def posOf (w : World) (b : Nat) : Nat := (intOf ((w.cell? ⟨b, 0, none⟩).getD undef)).toNat
theorem posOf_blk {w : World} {b : Nat} {t : TypeId} {a : Nat} {x y : Value} (h : Blk w b t #[.int .i64 a, x, y]) : posOf w b = a := by
  simp [posOf, h.c3.1, intOf]
/-- what a call of Lex leaves -/
def LexOut (E : TypeId) (s : ByteArray) (w : World) (r : Value → Int → Int → Int → Value) (e : Ending) (w' : World) : Prop :=
  ∃ (v : Value) (ts : List Tok) (er l c : Int), e = .returned (r v er l c) ∧ w'.ownsRow w.heap.size E 4 v ts.length (toksCells ts) ∧ Below w.heap.size w w' ∧ lexAll s.data.toList = (ts, er, l, c)
end Go.Proofs.Ytcgkfgklggjmaaa
end
section
namespace Go.Proofs.Ytcgkfgklggjmaaa
set_option linter.unusedVariables false
set_option linter.unusedSimpArgs false
open Go.RowKit
theorem Blk.c5 {w : World} {g : Nat} {t : TypeId} {a b c d e : Value} (h : Blk w g t #[a, b, c, d, e]) : w.cell? ⟨g, 0, none⟩ = some a ∧ w.cell? ⟨g, 1, none⟩ = some b ∧ w.cell? ⟨g, 2, none⟩ = some c ∧ w.cell? ⟨g, 3, none⟩ = some d ∧ w.cell? ⟨g, 4, none⟩ = some e ∧ w.frozen? ⟨g, 0, none⟩ = false ∧ w.frozen? ⟨g, 1, none⟩ = false ∧ w.frozen? ⟨g, 2, none⟩ = false ∧ w.frozen? ⟨g, 3, none⟩ = false ∧ w.frozen? ⟨g, 4, none⟩ = false := ⟨h.cell 0, h.cell 1, h.cell 2, h.cell 3, h.cell 4, h.frozen 0, h.frozen 1, h.frozen 2, h.frozen 3, h.frozen 4⟩
theorem Blk.c6 {w : World} {g : Nat} {t : TypeId} {a0 a1 a2 a3 a4 a5 : Value} (h : Blk w g t #[a0, a1, a2, a3, a4, a5]) : w.cell? ⟨g, 0, none⟩ = some a0 ∧ w.cell? ⟨g, 1, none⟩ = some a1 ∧ w.cell? ⟨g, 2, none⟩ = some a2 ∧ w.cell? ⟨g, 3, none⟩ = some a3 ∧ w.cell? ⟨g, 4, none⟩ = some a4 ∧ w.cell? ⟨g, 5, none⟩ = some a5 ∧ w.frozen? ⟨g, 0, none⟩ = false ∧ w.frozen? ⟨g, 1, none⟩ = false ∧ w.frozen? ⟨g, 2, none⟩ = false ∧ w.frozen? ⟨g, 3, none⟩ = false ∧ w.frozen? ⟨g, 4, none⟩ = false ∧ w.frozen? ⟨g, 5, none⟩ = false := ⟨h.cell 0, h.cell 1, h.cell 2, h.cell 3, h.cell 4, h.cell 5, h.frozen 0, h.frozen 1, h.frozen 2, h.frozen 3, h.frozen 4, h.frozen 5⟩
theorem Blk.c7 {w : World} {g : Nat} {t : TypeId} {a0 a1 a2 a3 a4 a5 a6 : Value} (h : Blk w g t #[a0, a1, a2, a3, a4, a5, a6]) : w.cell? ⟨g, 0, none⟩ = some a0 ∧ w.cell? ⟨g, 1, none⟩ = some a1 ∧ w.cell? ⟨g, 2, none⟩ = some a2 ∧ w.cell? ⟨g, 3, none⟩ = some a3 ∧ w.cell? ⟨g, 4, none⟩ = some a4 ∧ w.cell? ⟨g, 5, none⟩ = some a5 ∧ w.cell? ⟨g, 6, none⟩ = some a6 ∧ w.frozen? ⟨g, 0, none⟩ = false ∧ w.frozen? ⟨g, 1, none⟩ = false ∧ w.frozen? ⟨g, 2, none⟩ = false ∧ w.frozen? ⟨g, 3, none⟩ = false ∧ w.frozen? ⟨g, 4, none⟩ = false ∧ w.frozen? ⟨g, 5, none⟩ = false ∧ w.frozen? ⟨g, 6, none⟩ = false := ⟨h.cell 0, h.cell 1, h.cell 2, h.cell 3, h.cell 4, h.cell 5, h.cell 6, h.frozen 0, h.frozen 1, h.frozen 2, h.frozen 3, h.frozen 4, h.frozen 5, h.frozen 6⟩
theorem Blk.c8 {w : World} {g : Nat} {t : TypeId} {a0 a1 a2 a3 a4 a5 a6 a7 : Value} (h : Blk w g t #[a0, a1, a2, a3, a4, a5, a6, a7]) : w.cell? ⟨g, 0, none⟩ = some a0 ∧ w.cell? ⟨g, 1, none⟩ = some a1 ∧ w.cell? ⟨g, 2, none⟩ = some a2 ∧ w.cell? ⟨g, 3, none⟩ = some a3 ∧ w.cell? ⟨g, 4, none⟩ = some a4 ∧ w.cell? ⟨g, 5, none⟩ = some a5 ∧ w.cell? ⟨g, 6, none⟩ = some a6 ∧ w.cell? ⟨g, 7, none⟩ = some a7 ∧ w.frozen? ⟨g, 0, none⟩ = false ∧ w.frozen? ⟨g, 1, none⟩ = false ∧ w.frozen? ⟨g, 2, none⟩ = false ∧ w.frozen? ⟨g, 3, none⟩ = false ∧ w.frozen? ⟨g, 4, none⟩ = false ∧ w.frozen? ⟨g, 5, none⟩ = false ∧ w.frozen? ⟨g, 6, none⟩ = false ∧ w.frozen? ⟨g, 7, none⟩ = false := ⟨h.cell 0, h.cell 1, h.cell 2, h.cell 3, h.cell 4, h.cell 5, h.cell 6, h.cell 7, h.frozen 0, h.frozen 1, h.frozen 2, h.frozen 3, h.frozen 4, h.frozen 5, h.frozen 6, h.frozen 7⟩
theorem Blk.c9 {w : World} {g : Nat} {t : TypeId} {a0 a1 a2 a3 a4 a5 a6 a7 a8 : Value} (h : Blk w g t #[a0, a1, a2, a3, a4, a5, a6, a7, a8]) : w.cell? ⟨g, 0, none⟩ = some a0 ∧ w.cell? ⟨g, 1, none⟩ = some a1 ∧ w.cell? ⟨g, 2, none⟩ = some a2 ∧ w.cell? ⟨g, 3, none⟩ = some a3 ∧ w.cell? ⟨g, 4, none⟩ = some a4 ∧ w.cell? ⟨g, 5, none⟩ = some a5 ∧ w.cell? ⟨g, 6, none⟩ = some a6 ∧ w.cell? ⟨g, 7, none⟩ = some a7 ∧ w.cell? ⟨g, 8, none⟩ = some a8 ∧ w.frozen? ⟨g, 0, none⟩ = false ∧ w.frozen? ⟨g, 1, none⟩ = false ∧ w.frozen? ⟨g, 2, none⟩ = false ∧ w.frozen? ⟨g, 3, none⟩ = false ∧ w.frozen? ⟨g, 4, none⟩ = false ∧ w.frozen? ⟨g, 5, none⟩ = false ∧ w.frozen? ⟨g, 6, none⟩ = false ∧ w.frozen? ⟨g, 7, none⟩ = false ∧ w.frozen? ⟨g, 8, none⟩ = false := ⟨h.cell 0, h.cell 1, h.cell 2, h.cell 3, h.cell 4, h.cell 5, h.cell 6, h.cell 7, h.cell 8, h.frozen 0, h.frozen 1, h.frozen 2, h.frozen 3, h.frozen 4, h.frozen 5, h.frozen 6, h.frozen 7, h.frozen 8⟩
theorem Blk.c10 {w : World} {g : Nat} {t : TypeId} {a0 a1 a2 a3 a4 a5 a6 a7 a8 a9 : Value} (h : Blk w g t #[a0, a1, a2, a3, a4, a5, a6, a7, a8, a9]) : w.cell? ⟨g, 0, none⟩ = some a0 ∧ w.cell? ⟨g, 1, none⟩ = some a1 ∧ w.cell? ⟨g, 2, none⟩ = some a2 ∧ w.cell? ⟨g, 3, none⟩ = some a3 ∧ w.cell? ⟨g, 4, none⟩ = some a4 ∧ w.cell? ⟨g, 5, none⟩ = some a5 ∧ w.cell? ⟨g, 6, none⟩ = some a6 ∧ w.cell? ⟨g, 7, none⟩ = some a7 ∧ w.cell? ⟨g, 8, none⟩ = some a8 ∧ w.cell? ⟨g, 9, none⟩ = some a9 ∧ w.frozen? ⟨g, 0, none⟩ = false ∧ w.frozen? ⟨g, 1, none⟩ = false ∧ w.frozen? ⟨g, 2, none⟩ = false ∧ w.frozen? ⟨g, 3, none⟩ = false ∧ w.frozen? ⟨g, 4, none⟩ = false ∧ w.frozen? ⟨g, 5, none⟩ = false ∧ w.frozen? ⟨g, 6, none⟩ = false ∧ w.frozen? ⟨g, 7, none⟩ = false ∧ w.frozen? ⟨g, 8, none⟩ = false ∧ w.frozen? ⟨g, 9, none⟩ = false := ⟨h.cell 0, h.cell 1, h.cell 2, h.cell 3, h.cell 4, h.cell 5, h.cell 6, h.cell 7, h.cell 8, h.cell 9, h.frozen 0, h.frozen 1, h.frozen 2, h.frozen 3, h.frozen 4, h.frozen 5, h.frozen 6, h.frozen 7, h.frozen 8, h.frozen 9⟩
theorem Blk.c11 {w : World} {g : Nat} {t : TypeId} {a0 a1 a2 a3 a4 a5 a6 a7 a8 a9 a10 : Value} (h : Blk w g t #[a0, a1, a2, a3, a4, a5, a6, a7, a8, a9, a10]) : w.cell? ⟨g, 0, none⟩ = some a0 ∧ w.cell? ⟨g, 1, none⟩ = some a1 ∧ w.cell? ⟨g, 2, none⟩ = some a2 ∧ w.cell? ⟨g, 3, none⟩ = some a3 ∧ w.cell? ⟨g, 4, none⟩ = some a4 ∧ w.cell? ⟨g, 5, none⟩ = some a5 ∧ w.cell? ⟨g, 6, none⟩ = some a6 ∧ w.cell? ⟨g, 7, none⟩ = some a7 ∧ w.cell? ⟨g, 8, none⟩ = some a8 ∧ w.cell? ⟨g, 9, none⟩ = some a9 ∧ w.cell? ⟨g, 10, none⟩ = some a10 ∧ w.frozen? ⟨g, 0, none⟩ = false ∧ w.frozen? ⟨g, 1, none⟩ = false ∧ w.frozen? ⟨g, 2, none⟩ = false ∧ w.frozen? ⟨g, 3, none⟩ = false ∧ w.frozen? ⟨g, 4, none⟩ = false ∧ w.frozen? ⟨g, 5, none⟩ = false ∧ w.frozen? ⟨g, 6, none⟩ = false ∧ w.frozen? ⟨g, 7, none⟩ = false ∧ w.frozen? ⟨g, 8, none⟩ = false ∧ w.frozen? ⟨g, 9, none⟩ = false ∧ w.frozen? ⟨g, 10, none⟩ = false := ⟨h.cell 0, h.cell 1, h.cell 2, h.cell 3, h.cell 4, h.cell 5, h.cell 6, h.cell 7, h.cell 8, h.cell 9, h.cell 10, h.frozen 0, h.frozen 1, h.frozen 2, h.frozen 3, h.frozen 4, h.frozen 5, h.frozen 6, h.frozen 7, h.frozen 8, h.frozen 9, h.frozen 10⟩
theorem Blk.c12 {w : World} {g : Nat} {t : TypeId} {a0 a1 a2 a3 a4 a5 a6 a7 a8 a9 a10 a11 : Value} (h : Blk w g t #[a0, a1, a2, a3, a4, a5, a6, a7, a8, a9, a10, a11]) : w.cell? ⟨g, 0, none⟩ = some a0 ∧ w.cell? ⟨g, 1, none⟩ = some a1 ∧ w.cell? ⟨g, 2, none⟩ = some a2 ∧ w.cell? ⟨g, 3, none⟩ = some a3 ∧ w.cell? ⟨g, 4, none⟩ = some a4 ∧ w.cell? ⟨g, 5, none⟩ = some a5 ∧ w.cell? ⟨g, 6, none⟩ = some a6 ∧ w.cell? ⟨g, 7, none⟩ = some a7 ∧ w.cell? ⟨g, 8, none⟩ = some a8 ∧ w.cell? ⟨g, 9, none⟩ = some a9 ∧ w.cell? ⟨g, 10, none⟩ = some a10 ∧ w.cell? ⟨g, 11, none⟩ = some a11 ∧ w.frozen? ⟨g, 0, none⟩ = false ∧ w.frozen? ⟨g, 1, none⟩ = false ∧ w.frozen? ⟨g, 2, none⟩ = false ∧ w.frozen? ⟨g, 3, none⟩ = false ∧ w.frozen? ⟨g, 4, none⟩ = false ∧ w.frozen? ⟨g, 5, none⟩ = false ∧ w.frozen? ⟨g, 6, none⟩ = false ∧ w.frozen? ⟨g, 7, none⟩ = false ∧ w.frozen? ⟨g, 8, none⟩ = false ∧ w.frozen? ⟨g, 9, none⟩ = false ∧ w.frozen? ⟨g, 10, none⟩ = false ∧ w.frozen? ⟨g, 11, none⟩ = false := ⟨h.cell 0, h.cell 1, h.cell 2, h.cell 3, h.cell 4, h.cell 5, h.cell 6, h.cell 7, h.cell 8, h.cell 9, h.cell 10, h.cell 11, h.frozen 0, h.frozen 1, h.frozen 2, h.frozen 3, h.frozen 4, h.frozen 5, h.frozen 6, h.frozen 7, h.frozen 8, h.frozen 9, h.frozen 10, h.frozen 11⟩
theorem Blk.c13 {w : World} {g : Nat} {t : TypeId} {a0 a1 a2 a3 a4 a5 a6 a7 a8 a9 a10 a11 a12 : Value} (h : Blk w g t #[a0, a1, a2, a3, a4, a5, a6, a7, a8, a9, a10, a11, a12]) : w.cell? ⟨g, 0, none⟩ = some a0 ∧ w.cell? ⟨g, 1, none⟩ = some a1 ∧ w.cell? ⟨g, 2, none⟩ = some a2 ∧ w.cell? ⟨g, 3, none⟩ = some a3 ∧ w.cell? ⟨g, 4, none⟩ = some a4 ∧ w.cell? ⟨g, 5, none⟩ = some a5 ∧ w.cell? ⟨g, 6, none⟩ = some a6 ∧ w.cell? ⟨g, 7, none⟩ = some a7 ∧ w.cell? ⟨g, 8, none⟩ = some a8 ∧ w.cell? ⟨g, 9, none⟩ = some a9 ∧ w.cell? ⟨g, 10, none⟩ = some a10 ∧ w.cell? ⟨g, 11, none⟩ = some a11 ∧ w.cell? ⟨g, 12, none⟩ = some a12 ∧ w.frozen? ⟨g, 0, none⟩ = false ∧ w.frozen? ⟨g, 1, none⟩ = false ∧ w.frozen? ⟨g, 2, none⟩ = false ∧ w.frozen? ⟨g, 3, none⟩ = false ∧ w.frozen? ⟨g, 4, none⟩ = false ∧ w.frozen? ⟨g, 5, none⟩ = false ∧ w.frozen? ⟨g, 6, none⟩ = false ∧ w.frozen? ⟨g, 7, none⟩ = false ∧ w.frozen? ⟨g, 8, none⟩ = false ∧ w.frozen? ⟨g, 9, none⟩ = false ∧ w.frozen? ⟨g, 10, none⟩ = false ∧ w.frozen? ⟨g, 11, none⟩ = false ∧ w.frozen? ⟨g, 12, none⟩ = false := ⟨h.cell 0, h.cell 1, h.cell 2, h.cell 3, h.cell 4, h.cell 5, h.cell 6, h.cell 7, h.cell 8, h.cell 9, h.cell 10, h.cell 11, h.cell 12, h.frozen 0, h.frozen 1, h.frozen 2, h.frozen 3, h.frozen 4, h.frozen 5, h.frozen 6, h.frozen 7, h.frozen 8, h.frozen 9, h.frozen 10, h.frozen 11, h.frozen 12⟩
theorem Blk.c14 {w : World} {g : Nat} {t : TypeId} {a0 a1 a2 a3 a4 a5 a6 a7 a8 a9 a10 a11 a12 a13 : Value} (h : Blk w g t #[a0, a1, a2, a3, a4, a5, a6, a7, a8, a9, a10, a11, a12, a13]) : w.cell? ⟨g, 0, none⟩ = some a0 ∧ w.cell? ⟨g, 1, none⟩ = some a1 ∧ w.cell? ⟨g, 2, none⟩ = some a2 ∧ w.cell? ⟨g, 3, none⟩ = some a3 ∧ w.cell? ⟨g, 4, none⟩ = some a4 ∧ w.cell? ⟨g, 5, none⟩ = some a5 ∧ w.cell? ⟨g, 6, none⟩ = some a6 ∧ w.cell? ⟨g, 7, none⟩ = some a7 ∧ w.cell? ⟨g, 8, none⟩ = some a8 ∧ w.cell? ⟨g, 9, none⟩ = some a9 ∧ w.cell? ⟨g, 10, none⟩ = some a10 ∧ w.cell? ⟨g, 11, none⟩ = some a11 ∧ w.cell? ⟨g, 12, none⟩ = some a12 ∧ w.cell? ⟨g, 13, none⟩ = some a13 ∧ w.frozen? ⟨g, 0, none⟩ = false ∧ w.frozen? ⟨g, 1, none⟩ = false ∧ w.frozen? ⟨g, 2, none⟩ = false ∧ w.frozen? ⟨g, 3, none⟩ = false ∧ w.frozen? ⟨g, 4, none⟩ = false ∧ w.frozen? ⟨g, 5, none⟩ = false ∧ w.frozen? ⟨g, 6, none⟩ = false ∧ w.frozen? ⟨g, 7, none⟩ = false ∧ w.frozen? ⟨g, 8, none⟩ = false ∧ w.frozen? ⟨g, 9, none⟩ = false ∧ w.frozen? ⟨g, 10, none⟩ = false ∧ w.frozen? ⟨g, 11, none⟩ = false ∧ w.frozen? ⟨g, 12, none⟩ = false ∧ w.frozen? ⟨g, 13, none⟩ = false := ⟨h.cell 0, h.cell 1, h.cell 2, h.cell 3, h.cell 4, h.cell 5, h.cell 6, h.cell 7, h.cell 8, h.cell 9, h.cell 10, h.cell 11, h.cell 12, h.cell 13, h.frozen 0, h.frozen 1, h.frozen 2, h.frozen 3, h.frozen 4, h.frozen 5, h.frozen 6, h.frozen 7, h.frozen 8, h.frozen 9, h.frozen 10, h.frozen 11, h.frozen 12, h.frozen 13⟩
theorem Blk.c15 {w : World} {g : Nat} {t : TypeId} {a0 a1 a2 a3 a4 a5 a6 a7 a8 a9 a10 a11 a12 a13 a14 : Value} (h : Blk w g t #[a0, a1, a2, a3, a4, a5, a6, a7, a8, a9, a10, a11, a12, a13, a14]) : w.cell? ⟨g, 0, none⟩ = some a0 ∧ w.cell? ⟨g, 1, none⟩ = some a1 ∧ w.cell? ⟨g, 2, none⟩ = some a2 ∧ w.cell? ⟨g, 3, none⟩ = some a3 ∧ w.cell? ⟨g, 4, none⟩ = some a4 ∧ w.cell? ⟨g, 5, none⟩ = some a5 ∧ w.cell? ⟨g, 6, none⟩ = some a6 ∧ w.cell? ⟨g, 7, none⟩ = some a7 ∧ w.cell? ⟨g, 8, none⟩ = some a8 ∧ w.cell? ⟨g, 9, none⟩ = some a9 ∧ w.cell? ⟨g, 10, none⟩ = some a10 ∧ w.cell? ⟨g, 11, none⟩ = some a11 ∧ w.cell? ⟨g, 12, none⟩ = some a12 ∧ w.cell? ⟨g, 13, none⟩ = some a13 ∧ w.cell? ⟨g, 14, none⟩ = some a14 ∧ w.frozen? ⟨g, 0, none⟩ = false ∧ w.frozen? ⟨g, 1, none⟩ = false ∧ w.frozen? ⟨g, 2, none⟩ = false ∧ w.frozen? ⟨g, 3, none⟩ = false ∧ w.frozen? ⟨g, 4, none⟩ = false ∧ w.frozen? ⟨g, 5, none⟩ = false ∧ w.frozen? ⟨g, 6, none⟩ = false ∧ w.frozen? ⟨g, 7, none⟩ = false ∧ w.frozen? ⟨g, 8, none⟩ = false ∧ w.frozen? ⟨g, 9, none⟩ = false ∧ w.frozen? ⟨g, 10, none⟩ = false ∧ w.frozen? ⟨g, 11, none⟩ = false ∧ w.frozen? ⟨g, 12, none⟩ = false ∧ w.frozen? ⟨g, 13, none⟩ = false ∧ w.frozen? ⟨g, 14, none⟩ = false := ⟨h.cell 0, h.cell 1, h.cell 2, h.cell 3, h.cell 4, h.cell 5, h.cell 6, h.cell 7, h.cell 8, h.cell 9, h.cell 10, h.cell 11, h.cell 12, h.cell 13, h.cell 14, h.frozen 0, h.frozen 1, h.frozen 2, h.frozen 3, h.frozen 4, h.frozen 5, h.frozen 6, h.frozen 7, h.frozen 8, h.frozen 9, h.frozen 10, h.frozen 11, h.frozen 12, h.frozen 13, h.frozen 14⟩
theorem Blk.c16 {w : World} {g : Nat} {t : TypeId} {a0 a1 a2 a3 a4 a5 a6 a7 a8 a9 a10 a11 a12 a13 a14 a15 : Value} (h : Blk w g t #[a0, a1, a2, a3, a4, a5, a6, a7, a8, a9, a10, a11, a12, a13, a14, a15]) : w.cell? ⟨g, 0, none⟩ = some a0 ∧ w.cell? ⟨g, 1, none⟩ = some a1 ∧ w.cell? ⟨g, 2, none⟩ = some a2 ∧ w.cell? ⟨g, 3, none⟩ = some a3 ∧ w.cell? ⟨g, 4, none⟩ = some a4 ∧ w.cell? ⟨g, 5, none⟩ = some a5 ∧ w.cell? ⟨g, 6, none⟩ = some a6 ∧ w.cell? ⟨g, 7, none⟩ = some a7 ∧ w.cell? ⟨g, 8, none⟩ = some a8 ∧ w.cell? ⟨g, 9, none⟩ = some a9 ∧ w.cell? ⟨g, 10, none⟩ = some a10 ∧ w.cell? ⟨g, 11, none⟩ = some a11 ∧ w.cell? ⟨g, 12, none⟩ = some a12 ∧ w.cell? ⟨g, 13, none⟩ = some a13 ∧ w.cell? ⟨g, 14, none⟩ = some a14 ∧ w.cell? ⟨g, 15, none⟩ = some a15 ∧ w.frozen? ⟨g, 0, none⟩ = false ∧ w.frozen? ⟨g, 1, none⟩ = false ∧ w.frozen? ⟨g, 2, none⟩ = false ∧ w.frozen? ⟨g, 3, none⟩ = false ∧ w.frozen? ⟨g, 4, none⟩ = false ∧ w.frozen? ⟨g, 5, none⟩ = false ∧ w.frozen? ⟨g, 6, none⟩ = false ∧ w.frozen? ⟨g, 7, none⟩ = false ∧ w.frozen? ⟨g, 8, none⟩ = false ∧ w.frozen? ⟨g, 9, none⟩ = false ∧ w.frozen? ⟨g, 10, none⟩ = false ∧ w.frozen? ⟨g, 11, none⟩ = false ∧ w.frozen? ⟨g, 12, none⟩ = false ∧ w.frozen? ⟨g, 13, none⟩ = false ∧ w.frozen? ⟨g, 14, none⟩ = false ∧ w.frozen? ⟨g, 15, none⟩ = false := ⟨h.cell 0, h.cell 1, h.cell 2, h.cell 3, h.cell 4, h.cell 5, h.cell 6, h.cell 7, h.cell 8, h.cell 9, h.cell 10, h.cell 11, h.cell 12, h.cell 13, h.cell 14, h.cell 15, h.frozen 0, h.frozen 1, h.frozen 2, h.frozen 3, h.frozen 4, h.frozen 5, h.frozen 6, h.frozen 7, h.frozen 8, h.frozen 9, h.frozen 10, h.frozen 11, h.frozen 12, h.frozen 13, h.frozen 14, h.frozen 15⟩
theorem Blk.c17 {w : World} {g : Nat} {t : TypeId} {a0 a1 a2 a3 a4 a5 a6 a7 a8 a9 a10 a11 a12 a13 a14 a15 a16 : Value} (h : Blk w g t #[a0, a1, a2, a3, a4, a5, a6, a7, a8, a9, a10, a11, a12, a13, a14, a15, a16]) : w.cell? ⟨g, 0, none⟩ = some a0 ∧ w.cell? ⟨g, 1, none⟩ = some a1 ∧ w.cell? ⟨g, 2, none⟩ = some a2 ∧ w.cell? ⟨g, 3, none⟩ = some a3 ∧ w.cell? ⟨g, 4, none⟩ = some a4 ∧ w.cell? ⟨g, 5, none⟩ = some a5 ∧ w.cell? ⟨g, 6, none⟩ = some a6 ∧ w.cell? ⟨g, 7, none⟩ = some a7 ∧ w.cell? ⟨g, 8, none⟩ = some a8 ∧ w.cell? ⟨g, 9, none⟩ = some a9 ∧ w.cell? ⟨g, 10, none⟩ = some a10 ∧ w.cell? ⟨g, 11, none⟩ = some a11 ∧ w.cell? ⟨g, 12, none⟩ = some a12 ∧ w.cell? ⟨g, 13, none⟩ = some a13 ∧ w.cell? ⟨g, 14, none⟩ = some a14 ∧ w.cell? ⟨g, 15, none⟩ = some a15 ∧ w.cell? ⟨g, 16, none⟩ = some a16 ∧ w.frozen? ⟨g, 0, none⟩ = false ∧ w.frozen? ⟨g, 1, none⟩ = false ∧ w.frozen? ⟨g, 2, none⟩ = false ∧ w.frozen? ⟨g, 3, none⟩ = false ∧ w.frozen? ⟨g, 4, none⟩ = false ∧ w.frozen? ⟨g, 5, none⟩ = false ∧ w.frozen? ⟨g, 6, none⟩ = false ∧ w.frozen? ⟨g, 7, none⟩ = false ∧ w.frozen? ⟨g, 8, none⟩ = false ∧ w.frozen? ⟨g, 9, none⟩ = false ∧ w.frozen? ⟨g, 10, none⟩ = false ∧ w.frozen? ⟨g, 11, none⟩ = false ∧ w.frozen? ⟨g, 12, none⟩ = false ∧ w.frozen? ⟨g, 13, none⟩ = false ∧ w.frozen? ⟨g, 14, none⟩ = false ∧ w.frozen? ⟨g, 15, none⟩ = false ∧ w.frozen? ⟨g, 16, none⟩ = false := ⟨h.cell 0, h.cell 1, h.cell 2, h.cell 3, h.cell 4, h.cell 5, h.cell 6, h.cell 7, h.cell 8, h.cell 9, h.cell 10, h.cell 11, h.cell 12, h.cell 13, h.cell 14, h.cell 15, h.cell 16, h.frozen 0, h.frozen 1, h.frozen 2, h.frozen 3, h.frozen 4, h.frozen 5, h.frozen 6, h.frozen 7, h.frozen 8, h.frozen 9, h.frozen 10, h.frozen 11, h.frozen 12, h.frozen 13, h.frozen 14, h.frozen 15, h.frozen 16⟩
/-- several cells of a block, one behind the other -/
def puts (w : World) (g : Nat) : Nat → List Value → World
  | _, [] => w
  | k, v :: vs => puts (w.setCell ⟨g, k, none⟩ v) g (k + 1) vs
def setsA (cs : Array Value) : Nat → List Value → Array Value
  | _, [] => cs
  | k, v :: vs => setsA (cs.setIfInBounds k v) (k + 1) vs
theorem Blk.putAll {g : Nat} {t : TypeId} : ∀ (vs : List Value) {w : World} {cs : Array Value} (k : Nat), Blk w g t cs → Blk (puts w g k vs) g t (setsA cs k vs)
  | [], _, _, _, h => h
  | v :: vs, _, _, k, h => Blk.putAll vs (k + 1) (h.set_ k v)
theorem puts_heap {g : Nat} : ∀ (vs : List Value) (w : World) (k : Nat), (∀ x, x ≠ g → (puts w g k vs).heap[x]? = w.heap[x]?) ∧ (puts w g k vs).heap.size = w.heap.size ∧ (puts w g k vs).os = w.os ∧ (puts w g k vs).tape = w.tape ∧ (puts w g k vs).output = w.output
  | [], _, _ => ⟨fun _ _ => rfl, rfl, rfl, rfl, rfl⟩
  | v :: vs, w, k => by
    obtain ⟨h1, h2, h3, h4, h5⟩ := puts_heap (g := g) vs (w.setCell ⟨g, k, none⟩ v) (k + 1)
    exact ⟨fun x hx => (h1 x hx).trans (Below.heap_setCell w ⟨g, k, none⟩ v x hx), h2.trans (by simp [World.setCell]), h3, h4, h5⟩
theorem Blk.putsFar {g g' : Nat} {t : TypeId} {w : World} {cs : Array Value} (h : Blk w g t cs) (hne : g ≠ g') (k : Nat) (vs : List Value) : Blk (puts w g' k vs) g t cs := ((puts_heap vs w k).1 g hne).trans h
theorem bl_puts {w v : World} (h : Below w.heap.size w v) {g : Nat} (hg : w.heap.size ≤ g) (k : Nat) (vs : List Value) : Below w.heap.size w (puts v g k vs) := by
  obtain ⟨h1, h2, h3, h4, h5⟩ := puts_heap (g := g) vs v k
  exact ⟨h3.trans h.os, h4.trans h.tape, h5.trans h.output, by rw [h2]; exact h.size, fun i hi => (h1 i (by omega)).trans (h.block i hi)⟩
/-! rows of things of several cells each -/
section
variable {α : Type} {f : α → List Value} {k : Nat}
theorem flat_len (h : ∀ a, (f a).length = k) : ∀ l : List α, (l.flatMap f).length = l.length * k
  | [] => by simp
  | a :: l => by rw [List.flatMap_cons, List.length_append, h, flat_len h l, List.length_cons, Nat.succ_mul, Nat.add_comm]
theorem flat_at (h : ∀ a, (f a).length = k) : ∀ (l : List α) (i : Nat) (a : α), l[i]? = some a → ∀ j u, (f a)[j]? = some u → (l.flatMap f)[i * k + j]? = some u
  | [], i, a, hi => by simp at hi
  | x :: l, 0, a, hi => by
    intro j u hu
    simp at hi
    subst hi
    have hj : j < (f x).length := (List.getElem?_eq_some_iff.1 hu).1
    rw [List.flatMap_cons, Nat.zero_mul, Nat.zero_add, List.getElem?_append_left hj]
    exact hu
  | x :: l, i + 1, a, hi => by
    intro j u hu
    have ih := flat_at h l i a (by simpa using hi) j u hu
    rw [List.flatMap_cons, List.getElem?_append_right (by rw [h, Nat.succ_mul]; omega), h, show (i + 1) * k + j - k = i * k + j from by rw [Nat.succ_mul]; omega]
    exact ih
theorem flat_snoc (l : List α) (a : α) : (l ++ [a]).flatMap f = l.flatMap f ++ f a := by simp
end
theorem own_base {w : World} {base base' : Nat} {e : TypeId} {size : Nat} {v : Value} {n : Nat} {xs : List Value} (h : w.ownsRow base e size v n xs) (hb : base' ≤ base) : w.ownsRow base' e size v n xs := by
  refine ⟨h.1, ?_⟩
  rcases h.2 with hn | ⟨g, cap, cur, rfl, hg, rest⟩
  · exact .inl hn
  · exact .inr ⟨g, cap, cur, rfl, Nat.le_trans hb hg, rest⟩
theorem own_keep {w w' : World} {base : Nat} {e : TypeId} {size : Nat} {v : Value} {n : Nat} {xs : List Value} (h : w.ownsRow base e size v n xs) (hk : ∀ g, v.ownBlock = some g → w'.heap[g]? = w.heap[g]?) : w'.ownsRow base e size v n xs := by
  refine ⟨h.1, ?_⟩
  rcases h.2 with hn | ⟨g, cap, cur, rfl, hb, hgg, rest⟩
  · exact .inl hn
  · exact .inr ⟨g, cap, cur, rfl, hb, (hk g rfl).trans hgg, rest⟩
/-- two rows of unlike elements lie apart; a row and a block of another type too -/
theorem own_ne_blk {w : World} {base : Nat} {e t : TypeId} {size : Nat} {v : Value} {n : Nat} {xs : List Value} {g : Nat} {cs : Array Value} (h : w.ownsRow base e size v n xs) (hb : Blk w g t cs) (hne : e ≠ t) : v.ownBlock ≠ some g := by
  intro hg
  rcases h.2 with ⟨rfl, _⟩ | ⟨g', cap, cur, rfl, _, hgg, _⟩
  · cases hg
  · obtain rfl : g' = g := Option.some.inj hg
    unfold Blk at hb
    rw [hgg] at hb
    injection hb with hb
    injection hb with _ ht
    exact hne ht
theorem own_ne_own {w : World} {base base' : Nat} {e e' : TypeId} {size size' : Nat} {v v' : Value} {n n' : Nat} {xs xs' : List Value} (h : w.ownsRow base e size v n xs) (h' : w.ownsRow base' e' size' v' n' xs') (hne : e ≠ e') {g : Nat} (hg : v.ownBlock = some g) : v'.ownBlock ≠ some g := by
  intro hg'
  rcases h.2 with ⟨rfl, _⟩ | ⟨g1, cap, cur, rfl, _, hgg, _⟩
  · cases hg
  · rcases h'.2 with ⟨rfl, _⟩ | ⟨g2, cap', cur', rfl, _, hgg', _⟩
    · cases hg'
    · obtain rfl : g1 = g := Option.some.inj hg
      obtain rfl : g2 = g1 := Option.some.inj hg'
      rw [hgg] at hgg'
      injection hgg' with hb
      injection hb with _ ht
      exact hne ht
/-- a slice from its row's begin on that holds these things -/
def Lies {α : Type} (f : α → List Value) (e : TypeId) (k : Nat) (w : World) (v : Value) (l : List α) : Prop := w.ownsRow 0 e k v l.length (l.flatMap f)
section
variable {α : Type} {f : α → List Value} {e : TypeId} {k : Nat} {w w' : World} {v : Value} {l : List α}
theorem Lies.nil : Lies f e k w (.slice none 0 0) [] := World.ownsRow_nil w 0 e k
theorem Lies.of {base : Nat} (h : w.ownsRow base e k v l.length (l.flatMap f)) : Lies f e k w v l := own_base h (Nat.zero_le _)
theorem Lies.below (h : Lies f e k w v l) (hb : Below w.heap.size w w') : Lies f e k w' v l := own_keep h fun g hg => hb.block g (h.lt g hg).2
theorem Lies.keep (h : Lies f e k w v l) (hk : ∀ g, v.ownBlock = some g → w'.heap[g]? = w.heap[g]?) : Lies f e k w' v l := own_keep h hk
theorem Lies.far (h : Lies f e k w v l) {p : Addr} (hp : v.ownBlock ≠ some p.block) (u : Value) : Lies f e k (w.setCell p u) v l :=
  own_keep h fun g hg => Below.heap_setCell _ _ _ _ (fun e => hp (by rw [hg, e]))
theorem Lies.putsFar (h : Lies f e k w v l) {g : Nat} (hg : v.ownBlock ≠ some g) (j : Nat) (vs : List Value) : Lies f e k (puts w g j vs) v l :=
  own_keep h fun x hx => (puts_heap vs w j).1 x (fun e => hg (by rw [hx, e]))
theorem Lies.alloc (h : Lies f e k w v l) (o : Obj) : Lies f e k (w.alloc o) v l := World.ownsRow.alloc h o
theorem Lies.ends {A : Option Addr} {n c : Nat} (h : Lies f e k w (.slice A n c) l) : n = l.length ∧ n ≤ c ∧ c ≤ maxLen ∧ (0 < n → ∃ g, A = some ⟨g, 0, none⟩ ∧ g < w.heap.size) := by
  rcases h.2 with ⟨h1, h2⟩ | ⟨g, cap, cur, h1, _, hg, hc, hm, _⟩
  · injection h1 with e1 e2 e3
    subst e1 e2 e3
    exact ⟨h2.symm, Nat.le_refl _, Nat.zero_le _, fun h => absurd h (Nat.lt_irrefl 0)⟩
  · injection h1 with e1 e2 e3
    subst e1 e2 e3
    exact ⟨rfl, hc, hm, fun _ => ⟨g, rfl, (Array.getElem?_eq_some_iff.1 hg).1⟩⟩
theorem Lies.open (h : Lies f e k w v l) : ∃ A c, v = .slice A l.length c ∧ l.length ≤ c ∧ c ≤ maxLen ∧ (0 < l.length → ∃ g, A = some ⟨g, 0, none⟩ ∧ g < w.heap.size) := by
  rcases h.2 with ⟨rfl, h2⟩ | ⟨g, cap, cur, rfl, _, hg, hc, hm, _⟩
  · rw [h2]
    exact ⟨none, 0, rfl, Nat.le_refl _, Nat.zero_le _, fun h => absurd h (Nat.lt_irrefl 0)⟩
  · exact ⟨_, cap, rfl, hc, hm, fun _ => ⟨g, rfl, (Array.getElem?_eq_some_iff.1 hg).1⟩⟩
theorem Lies.at {g n c : Nat} (h : Lies f e k w (.slice (some ⟨g, 0, none⟩) n c) l) (hf : ∀ a, (f a).length = k) {i : Nat} {a : α} (hi : l[i]? = some a) {j : Nat} {u : Value} (hu : (f a)[j]? = some u) : w.cell? ⟨g, i * k + j, none⟩ = some u := by
  have h1 := World.ownsRow.cells h (g := g) rfl (i * k + j) u (flat_at hf l i a hi j u hu)
  have hadd : (⟨g, 0, none⟩ : Addr).add (i * k + j) = ⟨g, i * k + j, none⟩ := by unfold Addr.add; split <;> simp_all
  rwa [hadd] at h1
end
end Go.Proofs.Ytcgkfgklggjmaaa
end
section
namespace Go.Proofs.Ytcgkfgklggjmaaa.Par
set_option linter.unusedVariables false
set_option linter.unusedSimpArgs false
open Go.RowKit
theorem own_slice {w : World} {base : Nat} {e : TypeId} {size : Nat} {v : Value} {n : Nat} {xs : List Value} (h : w.ownsRow base e size v n xs) : ∃ A cap, v = .slice A n cap ∧ n ≤ cap ∧ (0 < n → ∃ g, A = some ⟨g, 0, none⟩) := by
  rcases h.2 with ⟨rfl, rfl⟩ | ⟨g, cap, cur, rfl, _, _, hc, _⟩
  · exact ⟨none, 0, rfl, Nat.le_refl _, fun h => absurd h (by omega)⟩
  · exact ⟨_, cap, rfl, hc, fun _ => ⟨g, rfl⟩⟩
theorem toks_len : ∀ ts : List Tok, (toksCells ts).length = ts.length * 4
  | [] => rfl
  | t :: ts => by
    have := toks_len ts
    simp only [toksCells, List.flatMap_cons, List.length_append, List.length_cons] at this ⊢
    simp only [tokCells, List.length_cons, List.length_nil]
    omega
theorem toks_at : ∀ (ts : List Tok) (k : Nat) (t : Tok), ts[k]? = some t → ∀ j u, (tokCells t)[j]? = some u → (toksCells ts)[k * 4 + j]? = some u
  | [], k, t, h => by simp at h
  | x :: ts, 0, t, h => by
    intro j u hu
    simp at h
    subst h
    have hj : j < 4 := by
      have := (List.getElem?_eq_some_iff.1 hu).1
      simpa [tokCells] using this
    simp only [toksCells, List.flatMap_cons]
    rw [List.getElem?_append_left (by simp [tokCells]; omega)]
    simpa using hu
  | x :: ts, k + 1, t, h => by
    intro j u hu
    have ih := toks_at ts k t (by simpa using h) j u hu
    simp only [toksCells, List.flatMap_cons] at ih ⊢
    rw [List.getElem?_append_right (by simp [tokCells]; omega)]
    rw [show (k + 1) * 4 + j - (tokCells x).length = k * 4 + j from by simp [tokCells]; omega]
    exact ih
theorem tok_cells {w : World} {base : Nat} {e : TypeId} {g n cap : Nat} {ts : List Tok} (h : w.ownsRow base e 4 (.slice (some ⟨g, 0, none⟩) n cap) n (toksCells ts)) {k : Nat} {t : Tok} (hk : ts[k]? = some t) (hn : n = ts.length) :
    w.cell? ⟨g, k * 4, none⟩ = some (.int .i64 t.kind) ∧ w.cell? ⟨g, k * 4 + 1, none⟩ = some (.string t.text) ∧ w.cell? ⟨g, k * 4 + 2, none⟩ = some (.int .i64 t.line) ∧ w.cell? ⟨g, k * 4 + 3, none⟩ = some (.int .i64 t.col) := by
  have hl := (List.getElem?_eq_some_iff.1 hk).1
  refine ⟨?_, ?_, ?_, ?_⟩
  · exact (h.cellAt (k * 4 + 0) (by omega)).trans (toks_at ts k t hk 0 _ rfl)
  · exact (h.cellAt (k * 4 + 1) (by omega)).trans (toks_at ts k t hk 1 _ rfl)
  · exact (h.cellAt (k * 4 + 2) (by omega)).trans (toks_at ts k t hk 2 _ rfl)
  · exact (h.cellAt (k * 4 + 3) (by omega)).trans (toks_at ts k t hk 3 _ rfl)
/-- what a method of the parser leaves as it was: every old block but the parser's -/
structure Fr (b : Nat) (w w' : World) : Prop where
  os : w'.os = w.os
  tape : w'.tape = w.tape
  output : w'.output = w.output
  size : w.heap.size ≤ w'.heap.size
  block : ∀ g, g < w.heap.size → g ≠ b → w'.heap[g]? = w.heap[g]?
theorem Fr.refl (b : Nat) (w : World) : Fr b w w := ⟨rfl, rfl, rfl, Nat.le_refl _, fun _ _ _ => rfl⟩
theorem Fr.trans {b : Nat} {u v w : World} (h : Fr b u v) (h' : Fr b v w) : Fr b u w :=
  ⟨h'.os.trans h.os, h'.tape.trans h.tape, h'.output.trans h.output, Nat.le_trans h.size h'.size, fun g hg hb => (h'.block g (Nat.lt_of_lt_of_le hg h.size) hb).trans (h.block g hg hb)⟩
theorem Fr.drew {b : Nat} {w v : World} (h : Fr b w v) : Fr b w v.drew := ⟨h.os, h.tape, h.output, h.size, h.block⟩
theorem Fr.drewN {b : Nat} {w v : World} (h : Fr b w v) (n : Nat) : Fr b w (v.drewN n) := ⟨h.os, h.tape, h.output, h.size, h.block⟩
theorem Fr.ofDrew {b : Nat} {w v : World} (h : Fr b w.drew v) : Fr b w v := ⟨h.os, h.tape, h.output, h.size, h.block⟩
theorem Fr.ofDrewN {b n : Nat} {w v : World} (h : Fr b (w.drewN n) v) : Fr b w v := ⟨h.os, h.tape, h.output, h.size, h.block⟩
theorem Fr.of_below {b : Nat} {w w' : World} (h : Below w.heap.size w w') : Fr b w w' := ⟨h.os, h.tape, h.output, h.size, fun g hg _ => h.block g hg⟩
theorem Fr.set {b : Nat} {w v : World} (h : Fr b w v) (p : Addr) (hp : p.block = b) (u : Value) : Fr b w (v.setCell p u) :=
  h.trans ⟨rfl, rfl, rfl, by simp [World.setCell], fun g _ hb => Below.heap_setCell _ _ _ _ (by rw [hp]; exact hb)⟩
theorem Fr.blk {b : Nat} {w w' : World} {g : Nat} {t : TypeId} {cs : Array Value} (h : Fr b w w') (hk : Blk w g t cs) (hg : g ≠ b) : Blk w' g t cs := (h.block g hk.lt hg).trans hk
theorem Fr.setNew {b : Nat} {w v : World} (h : Fr b w v) (p : Addr) (hp : w.heap.size ≤ p.block) (u : Value) : Fr b w (v.setCell p u) :=
  ⟨h.os, h.tape, h.output, Nat.le_trans h.size (by simp [World.setCell]), fun g hg hb => (Below.heap_setCell _ _ _ _ (by omega)).trans (h.block g hg hb)⟩
theorem Fr.putsNew {b : Nat} {w v : World} (h : Fr b w v) {g : Nat} (hg : w.heap.size ≤ g) (k : Nat) (vs : List Value) : Fr b w (puts v g k vs) := by
  obtain ⟨h1, h2, h3, h4, h5⟩ := puts_heap (g := g) vs v k
  exact ⟨h3.trans h.os, h4.trans h.tape, h5.trans h.output, by rw [h2]; exact h.size, fun i hi hb => (h1 i (by omega)).trans (h.block i hi hb)⟩
theorem Fr.trans_grown {b : Nat} {w v w' : World} {row : Option Nat} (h : Fr b w v) (hg : v.grownBy w' row) (hr : ∀ g, g < w.heap.size → row ≠ some g) : Fr b w w' :=
  ⟨hg.os.trans h.os, hg.tape.trans h.tape, hg.output.trans h.output, Nat.le_trans h.size hg.size, fun g hgl hb => (hg.block g (Nat.lt_of_lt_of_le hgl h.size) (fun e => hr g hgl e.symm)).trans (h.block g hgl hb)⟩
theorem beq_refl_bytes (a : ByteArray) : (a == a) = true := by
  cases a with
  | mk d => exact beq_self_eq_true d
theorem beq_bytes (a b : ByteArray) : (a.toList == b.toList) = (a == b) := by
  rw [Lib.toList_data, Lib.toList_data]
  by_cases h : a = b
  · subst h
    rw [beq_refl_bytes, beq_self_eq_true]
  · have h1 : (a == b) = false := by
      cases hh : (a == b) with
      | true => exact absurd (text_eq hh) h
      | false => rfl
    have h2 : (a.data.toList == b.data.toList) = false := beq_eq_false_iff_ne.2 (fun e => h (by apply ByteArray.ext; exact Array.toList_inj.mp e))
    rw [h1, h2]
end Go.Proofs.Ytcgkfgklggjmaaa.Par
end
section
namespace Go.Proofs.Ytcgkfgklggjmaaa
set_option linter.unusedVariables false
set_option linter.unusedSimpArgs false
open Go.RowKit
theorem leap_any (y : Int) (w : World) :
    Calls Try.prog 83 #[.int .i64 y] w fun e w' => e = .returned (.bool (leapB y)) ∧ w = w' := by
  go_enter Try.func83, Try.ntmps83
  go_wp2
  all_goals
    go_ret
    refine ⟨ret_bool ?_, rfl⟩
    simp only [leapB]
    simp only [tmod_beq, tmod_bne, bne_iff_ne, ne_eq, beq_iff_eq, tmod_zero] at *
    simp [*]
theorem rleap_any (y : Int) (w : World) :
    Calls Try.prog 22 #[.int .i64 y] w fun e w' => e = .returned (.bool (leapB y)) ∧ w = w' := by
  go_enter Try.func22, Try.ntmps22
  go_wp2
  all_goals
    go_ret
    refine ⟨ret_bool ?_, rfl⟩
    simp only [beq_iff_eq, beq_eq_false_iff_ne, ne_eq, tmod_zero, tmod_beq] at *
    first | (rw [leap_400 _ (by assumption)]; done) | (rw [leap_100 _ (by assumption) (by assumption)]; done) | (rw [leap_ref _ (by assumption) (by assumption)]; done)
theorem days_any (y m : Int) (w : World) :
    Calls Try.prog 72 #[.int .i64 y, .int .i64 m] w fun e w' => e = .returned (.int .i64 (daysI y m)) ∧ w = w' := by
  go_enter Try.func72, Try.ntmps72
  go_wp2_with (go_at_call 83; refine (leap_any _ _).mono ?_; rintro e w' ⟨rfl, rfl⟩)
  all_goals
    go_ret
    refine ⟨ret_int ?_, rfl⟩
    simp only [beq_iff_eq, beq_eq_false_iff_ne, ne_eq] at *
    first
    | (rw [days_30 _ _ (by omega)]; done)
    | (rw [days_31 _ _ (by omega)]; done)
    | (rw [days_none _ _ (by omega)]; done)
    | (subst m; first | rw [days_2t _ (by assumption)] | rw [days_2f _ (by assumption)])
set_option maxHeartbeats 4000000 in
theorem rdays_any (y m : Int) (w : World) :
    Calls Try.prog 23 #[.int .i64 y, .int .i64 m] w fun e w' => e = .returned (.int .i64 (daysI y m)) ∧ Below w.heap.size w w' := by
  by_cases h1 : m < 1
  · go_enter Try.func23, Try.ntmps23
    go_wp2
    go_ret
    exact ⟨ret_int (days_none _ _ (by omega)).symm, Below.refl _ _⟩
  by_cases h2 : 12 < m
  · go_enter Try.func23, Try.ntmps23
    go_wp2
    go_ret
    exact ⟨ret_int (days_none _ _ (by omega)).symm, Below.refl _ _⟩
  rcases (by omega : m = 1 ∨ m = 2 ∨ m = 3 ∨ m = 4 ∨ m = 5 ∨ m = 6 ∨ m = 7 ∨ m = 8 ∨ m = 9 ∨ m = 10 ∨ m = 11 ∨ m = 12) with rfl | rfl | rfl | rfl | rfl | rfl | rfl | rfl | rfl | rfl | rfl | rfl
  all_goals
    clear h1 h2
    go_enter Try.func23, Try.ntmps23
    go_wp2_with (go_at_call 22; refine (rleap_any _ _).mono ?_; rintro e w' ⟨rfl, rfl⟩)
  all_goals
    go_ret
    refine ⟨ret_int ?_, ?_⟩
    · first | rfl | exact (days_2t _ (by assumption)).symm | exact (days_2f _ (by assumption)).symm
    · first | exact Below.refl _ _ | exact (Below.refl _ _).alloc (Nat.le_refl _) _
theorem good_any (y m d : Int) (w : World) :
    Calls Try.prog 71 #[.agg #[.int .i64 y, .int .i64 m, .int .i64 d]] w fun e w' => e = .returned (.bool (goodB y m d)) ∧ Below w.heap.size w w' := by
  by_cases h1 : 1 ≤ y
  · by_cases h2 : y ≤ 9999
    · by_cases h3 : 1 ≤ d
      · go_enter Try.func71, Try.ntmps71
        go_wp2
        go_quiet ((go_at_call 72; exact quiet_left (days_any _ _ _)))
        go_wp2
        go_ret
        refine ⟨ret_bool (by simp [goodB, h1, h2, h3] <;> omega), below_drewN ((Below.refl _ _).alloc (Nat.le_refl _) _) _⟩
      · have hd : decide (1 ≤ d) = false := by simpa using h3
        go_enter Try.func71, Try.ntmps71
        go_wp2
        go_quiet (fail)
        go_wp2
        go_ret
        refine ⟨ret_bool (by simp [goodB, h1, h2, h3] <;> omega), below_drewN ((Below.refl _ _).alloc (Nat.le_refl _) _) _⟩
    · have hd : decide (y ≤ 9999) = false := by simpa using h2
      go_enter Try.func71, Try.ntmps71
      go_wp2
      go_quiet (fail)
      go_wp2
      go_ret
      refine ⟨ret_bool (by simp [goodB, h1, h2] <;> omega), below_drewN ((Below.refl _ _).alloc (Nat.le_refl _) _) _⟩
  · have hd : decide (1 ≤ y) = false := by simpa using h1
    go_enter Try.func71, Try.ntmps71
    go_wp2
    go_quiet (fail)
    go_wp2
    go_ret
    refine ⟨ret_bool (by simp [goodB, h1] <;> omega), below_drewN ((Below.refl _ _).alloc (Nat.le_refl _) _) _⟩
theorem rgood_of (y m d : Int) (h : 1 ≤ y ∧ y ≤ 9999 ∧ 1 ≤ m ∧ m ≤ 12 ∧ 1 ≤ d) : decide (d ≤ daysI y m) = goodB y m d := by
  simp [goodB, h.1, h.2.1, h.2.2.2.2]
theorem rgood_no (y m d : Int) (h : y < 1 ∨ 9999 < y ∨ m < 1 ∨ 12 < m ∨ d < 1) : goodB y m d = false := by
  refine Bool.eq_false_iff.2 fun hc => ?_
  have := good_of hc
  omega
end Go.Proofs.Ytcgkfgklggjmaaa
end
section
namespace Go.Proofs.Ytcgkfgklggjmaaa
set_option linter.unusedVariables false
set_option linter.unusedSimpArgs false
open Go.RowKit
set_option maxHeartbeats 4000000 in
theorem rgood_any (y m d : Int) (w : World) :
    Calls Try.prog 24 #[.agg #[.int .i64 y, .int .i64 m, .int .i64 d]] w fun e w' => e = .returned (.bool (goodB y m d)) ∧ Below w.heap.size w w' := by
  by_cases hh : 1 ≤ y ∧ y ≤ 9999 ∧ 1 ≤ m ∧ m ≤ 12 ∧ 1 ≤ d
  · have hg := rgood_of y m d hh
    obtain ⟨h1, h2, h4, h5, h3⟩ := hh
    have HG := Lib.hid hg
    clear hg
    go_enter Try.func24, Try.ntmps24
    go_wp2
    go_region_held3 (fun w' => w'.cell? ⟨w.heap.size, 0, none⟩ = some (.int .i64 y) ∧ w'.cell? ⟨w.heap.size, 1, none⟩ = some (.int .i64 m) ∧ w'.cell? ⟨w.heap.size, 2, none⟩ = some (.int .i64 d))
      (first
        | go_keep
        | (refine ⟨?_, ?_, ?_⟩ <;> (rw [hb1.cell (by simp)]; simp [go_sem])))
      ((go_at_call 23; refine (rdays_any _ _ _).mono ?_; rintro e w' ⟨rfl, hb1⟩))
    go_wp2
    go_ret
    refine ⟨ret_bool (by rw [HG.out]), ?_⟩
    exact bl_call (bl_drew (bl_alloc (bl_refl _) _)) hb1
  · have hg := rgood_no y m d (by omega)
    have HG := Lib.hid hg
    clear hg
    by_cases h1 : 1 ≤ y
    · by_cases h2 : y ≤ 9999
      · by_cases h4 : 1 ≤ m
        · by_cases h5 : m ≤ 12
          · have h3 : decide (1 ≤ d) = false := by rw [decide_eq_false_iff_not]; omega
            go_enter Try.func24, Try.ntmps24
            go_wp2
            go_quiet (fail)
            go_wp2
            go_ret
            exact ⟨ret_bool (by rw [HG.out]), below_drewN ((Below.refl _ _).alloc (Nat.le_refl _) _) _⟩
          · have h3 : decide (m ≤ 12) = false := by rw [decide_eq_false_iff_not]; omega
            go_enter Try.func24, Try.ntmps24
            go_wp2
            go_quiet (fail)
            go_wp2
            go_ret
            exact ⟨ret_bool (by rw [HG.out]), below_drewN ((Below.refl _ _).alloc (Nat.le_refl _) _) _⟩
        · have h3 : decide (1 ≤ m) = false := by rw [decide_eq_false_iff_not]; omega
          go_enter Try.func24, Try.ntmps24
          go_wp2
          go_quiet (fail)
          go_wp2
          go_ret
          exact ⟨ret_bool (by rw [HG.out]), below_drewN ((Below.refl _ _).alloc (Nat.le_refl _) _) _⟩
      · have h3 : decide (y ≤ 9999) = false := by rw [decide_eq_false_iff_not]; omega
        go_enter Try.func24, Try.ntmps24
        go_wp2
        go_quiet (fail)
        go_wp2
        go_ret
        exact ⟨ret_bool (by rw [HG.out]), below_drewN ((Below.refl _ _).alloc (Nat.le_refl _) _) _⟩
    · have h3 : decide (1 ≤ y) = false := by rw [decide_eq_false_iff_not]; omega
      go_enter Try.func24, Try.ntmps24
      go_wp2
      go_quiet (fail)
      go_wp2
      go_ret
      exact ⟨ret_bool (by rw [HG.out]), below_drewN ((Below.refl _ _).alloc (Nat.le_refl _) _) _⟩
end Go.Proofs.Ytcgkfgklggjmaaa
end
section
namespace Go.Proofs.Ytcgkfgklggjmaaa
set_option linter.unusedVariables false
set_option linter.unusedSimpArgs false
open Go.RowKit
theorem width_one (s : ByteArray) (pos : Nat) (h : pos < s.size) : ((s[pos]'h).toNat < 128 ∧ Utf8.decode s pos = ((s[pos]'h).toNat, 1)) ∨ (128 ≤ (s[pos]'h).toNat ∧ 128 ≤ (Utf8.decode s pos).1 ∧ (Utf8.decode s pos).1 ≤ 2147483647) := by
  by_cases ha : (s[pos]'h).toNat < 128
  · exact .inl ⟨ha, decode_ascii s pos h ha⟩
  · exact .inr ⟨by omega, (decode_high s pos h (by omega)).1, decode_le s pos⟩
def pOk (s : ByteArray) : Bool := parseOk s.data.toList
def pY (s : ByteArray) : Int := if parseOk s.data.toList then parseY s.data.toList else 0
def pM (s : ByteArray) : Int := if parseOk s.data.toList then parseM s.data.toList else 0
def pD (s : ByteArray) : Int := if parseOk s.data.toList then parseD s.data.toList else 0
theorem p_no {s : ByteArray} (h : parseOk s.data.toList = false) : pY s = 0 ∧ pM s = 0 ∧ pD s = 0 ∧ pOk s = false := by simp [pY, pM, pD, pOk, h]
theorem p_yes {s : ByteArray} (h : parseOk s.data.toList = true) : pY s = parseY s.data.toList ∧ pM s = parseM s.data.toList ∧ pD s = parseD s.data.toList ∧ pOk s = true := by simp [pY, pM, pD, pOk, h]
theorem shape_no {l : List UInt8} (h : dateShape l = false) : parseOk l = false := by simp [parseOk, h]
theorem shape_n0 {l t : List UInt8} (e : t = l.take 4) (h : t.all isDig = false) : dateShape l = false := by subst e; simp only [dateShape, h, Bool.and_false, Bool.false_and]
theorem shape_n1 {l t : List UInt8} (e : t = (l.drop 5).take 2) (h : t.all isDig = false) : dateShape l = false := by subst e; simp only [dateShape, h, Bool.and_false, Bool.false_and]
theorem shape_n2 {l t : List UInt8} (e : t = l.drop 8) (h : t.all isDig = false) : dateShape l = false := by subst e; simp only [dateShape, h, Bool.and_false]
theorem all_no (t : ByteArray) (pos : Nat) (hp : pos < t.size) (h : isDig (t[pos]'hp) = false) : t.data.toList.all isDig = false := by
  rw [List.all_eq_false]
  refine ⟨t[pos], ?_, by simp [h]⟩
  have : t[pos] = t.data.toList[pos]'(by simpa using hp) := rfl
  rw [this]
  exact List.getElem_mem _
theorem shape_yes {l : List UInt8} (h0 : l.length = 10) (h4 : ((l.getD 4 0).toNat : Int) = 45) (h7 : ((l.getD 7 0).toNat : Int) = 45) (a0 : (l.take 4).all isDig = true) (a1 : ((l.drop 5).take 2).all isDig = true) (a2 : (l.drop 8).all isDig = true) : dateShape l = true := by
  have e4 : l.getD 4 0 = 45 := UInt8.toNat.inj (by show _ = 45; omega)
  have e7 : l.getD 7 0 = 45 := UInt8.toNat.inj (by show _ = 45; omega)
  simp only [dateShape, h0, e4, e7, a0, a1, a2]; rfl
def DigN (t : ByteArray) (n : Int) : Prop := t.data.toList.all isDig = true ∧ n = numL t.data.toList
def OutRel (t0 t1 t2 : ByteArray) (i n0 n1 n2 : Int) : Prop :=
  (i = 0 ∧ n0 = 0 ∧ n1 = 0 ∧ n2 = 0) ∨ (i = 1 ∧ DigN t0 n0 ∧ n1 = 0 ∧ n2 = 0) ∨ (i = 2 ∧ DigN t0 n0 ∧ DigN t1 n1 ∧ n2 = 0) ∨ (i = 3 ∧ DigN t0 n0 ∧ DigN t1 n1 ∧ DigN t2 n2)
theorem numL_lt4 (t : ByteArray) (pos : Nat) (h : (t.data.toList.take pos).all isDig = true) (hp : pos ≤ 4) : 0 ≤ numL (t.data.toList.take pos) ∧ numL (t.data.toList.take pos) < 10000 := by
  have := numL_bd _ h
  have hl : (t.data.toList.take pos).length ≤ 4 := Nat.le_trans (List.length_take_le _ _) hp
  rcases (by omega : (t.data.toList.take pos).length = 0 ∨ (t.data.toList.take pos).length = 1 ∨ (t.data.toList.take pos).length = 2 ∨ (t.data.toList.take pos).length = 3 ∨ (t.data.toList.take pos).length = 4) with h | h | h | h | h
  all_goals
    rw [h] at this
    omega
end Go.Proofs.Ytcgkfgklggjmaaa
end
section
namespace Go.Proofs.Ytcgkfgklggjmaaa
set_option linter.unusedVariables false
set_option linter.unusedSimpArgs false
open Go.RowKit
def rN (l : List UInt8) : Nat → Int
  | 0 => 0
  | k + 1 => if k = 4 ∨ k = 7 then rN l k else 10 * rN l k + digI (l.getD k 0)
def rOkAt (l : List UInt8) (k : Nat) : Bool := if k = 4 ∨ k = 7 then l.getD k 0 == 45 else isDig (l.getD k 0)
theorem rN_skip (l : List UInt8) (k : Nat) (h : k = 4 ∨ k = 7) : rN l (k + 1) = rN l k := by simp [rN, h]
theorem rN_more (l : List UInt8) (k : Nat) (h : ¬ (k = 4 ∨ k = 7)) : rN l (k + 1) = 10 * rN l k + digI (l.getD k 0) := by simp only [rN, h, if_false]
theorem rOk_dig (l : List UInt8) (k : Nat) (h : ¬ (k = 4 ∨ k = 7)) : rOkAt l k = isDig (l.getD k 0) := by simp only [rOkAt, h, if_false]
theorem rOk_str (l : List UInt8) (k : Nat) (h : k = 4 ∨ k = 7) : rOkAt l k = (l.getD k 0 == 45) := by simp only [rOkAt, h, if_true]
theorem rN_bd (l : List UInt8) : ∀ k, (∀ j, j < k → rOkAt l j = true) → 0 ≤ rN l k ∧ rN l k < 10 ^ k
  | 0, _ => by simp [rN]
  | k + 1, h => by
    have ih := rN_bd l k fun j hj => h j (by omega)
    have hk := h k (by omega)
    rw [Int.pow_succ]
    by_cases hc : k = 4 ∨ k = 7
    · rw [rN_skip l k hc]; omega
    · rw [rN_more l k hc]
      rw [rOk_dig l k hc] at hk
      have := digI_bd hk
      omega
theorem rN_lt (l : List UInt8) (k : Nat) (hk : k ≤ 10) (h : ∀ j, j < k → rOkAt l j = true) : 0 ≤ rN l k ∧ rN l k < 10000000000 := by
  have h1 := rN_bd l k h
  rcases (by omega : k = 0 ∨ k = 1 ∨ k = 2 ∨ k = 3 ∨ k = 4 ∨ k = 5 ∨ k = 6 ∨ k = 7 ∨ k = 8 ∨ k = 9 ∨ k = 10) with h | h | h | h | h | h | h | h | h | h | h
  all_goals
    rw [h] at h1
    rw [h]
    omega
theorem ten (l : List UInt8) (h : l.length = 10) : ∃ a b c d e f g i j k, l = [a, b, c, d, e, f, g, i, j, k] := by
  match l, h with
  | [a, b, c, d, e, f, g, i, j, k], _ => exact ⟨a, b, c, d, e, f, g, i, j, k, rfl⟩
theorem shape_iff (l : List UInt8) (h : l.length = 10) : dateShape l = true ↔ ∀ j, j < 10 → rOkAt l j = true := by
  obtain ⟨a, b, c, d, e, f, g, i, j, k, rfl⟩ := ten l h
  constructor
  · intro hs n hn
    simp [dateShape] at hs
    rcases (by omega : n = 0 ∨ n = 1 ∨ n = 2 ∨ n = 3 ∨ n = 4 ∨ n = 5 ∨ n = 6 ∨ n = 7 ∨ n = 8 ∨ n = 9) with rfl | rfl | rfl | rfl | rfl | rfl | rfl | rfl | rfl | rfl <;> simp [rOkAt, hs]
  · intro hs
    have h0 := hs 0 (by omega); have h1 := hs 1 (by omega); have h2 := hs 2 (by omega); have h3 := hs 3 (by omega); have h4 := hs 4 (by omega)
    have h5 := hs 5 (by omega); have h6 := hs 6 (by omega); have h7 := hs 7 (by omega); have h8 := hs 8 (by omega); have h9 := hs 9 (by omega)
    simp [rOkAt] at h0 h1 h2 h3 h4 h5 h6 h7 h8 h9
    simp [dateShape, *]
theorem rok_no {l : List UInt8} (h : l.length = 10) {k : Nat} (hk : k < 10) (hn : rOkAt l k = false) : parseOk l = false := shape_no (by
  cases hs : dateShape l with
  | false => rfl
  | true => have := (shape_iff l h).1 hs k hk; rw [hn] at this; cases this)
theorem rN_end (l : List UInt8) (h : l.length = 10) (ho : ∀ j, j < 10 → rOkAt l j = true) :
    rN l 10 / 10000 = parseY l ∧ rN l 10 / 100 % 100 = parseM l ∧ rN l 10 % 100 = parseD l := by
  obtain ⟨a, b, c, d, e, f, g, i, j, k, rfl⟩ := ten l h
  have h0 := digI_bd (ho 0 (by omega)); have h1 := digI_bd (ho 1 (by omega)); have h2 := digI_bd (ho 2 (by omega)); have h3 := digI_bd (ho 3 (by omega))
  have h5 := digI_bd (ho 5 (by omega)); have h6 := digI_bd (ho 6 (by omega)); have h8 := digI_bd (ho 8 (by omega)); have h9 := digI_bd (ho 9 (by omega))
  simp at h0 h1 h2 h3 h5 h6 h8 h9
  simp [rN, parseY, parseM, parseD, numL]
  omega
def allTo (l : List UInt8) (k : Nat) : Prop := ∀ j, j < k → rOkAt l j = true
theorem allTo_succ {l : List UInt8} {k : Nat} (h : allTo l k) (hk : rOkAt l k = true) : allTo l (k + 1) := fun j hj => by
  rcases Nat.lt_or_eq_of_le (Nat.le_of_lt_succ hj) with h1 | h1
  · exact h j h1
  · rw [h1]; exact hk
theorem getD_at (s : ByteArray) (k : Nat) (h : k < s.size) : s.data.toList.getD k 0 = s[k] := by
  have hl : k < s.data.toList.length := by simpa using h
  rw [List.getD, List.getElem?_eq_getElem hl]; rfl
set_option maxHeartbeats 4000000 in
theorem rparse_any (s : ByteArray) (w : World) :
    Calls Try.prog 51 #[.string s] w fun e w' => e = .returned (.tuple #[.agg #[.int .i64 (pY s), .int .i64 (pM s), .int .i64 (pD s)], .bool (pOk s)]) ∧ Below w.heap.size w w' := by
  by_cases hz : s.size = 10
  · have hz1 := Lib.hid hz
    have hz2 : 10 ≤ s.size := by omega
    have hz3 : ((s.size : Int) != 10) = false := by simp [hz]
    clear hz
    go_enter Try.func51, Try.ntmps51
    go_wp2_with fail
    go_loopw [4, 5] (fun n v wr => ∃ k : Nat, k ≤ 10 ∧ v = .int .i64 k ∧ n = .int .i64 (rN s.data.toList k) ∧ wr = w.alloc (.cells #[.int .i64 0, .int .i64 0, .int .i64 0] 24) ∧ Hid (allTo s.data.toList k)) (fun _ v _ => (10 - intOf v).toNat)
    case atStart => exact ⟨0, by omega, rfl, rfl, rfl, fun j hj => absurd hj (by omega)⟩
    case round =>
      obtain ⟨k, hk, rfl, rfl, rfl, HA⟩ := hrel
      obtain ⟨hb1, hb2⟩ := rN_lt s.data.toList k hk HA
      by_cases hlt : k < 10
      · have hks : k < s.size := by omega
        have hgd := getD_at s k hks
        have hcl := (s[k]'hks).toNat_lt
        have HG := Lib.hid hgd
        clear hgd
        by_cases hc : k = 4 ∨ k = 7
        · by_cases h45 : ((s[k]'hks).toNat : Int) = 45
          · have HX := Lib.hid (rN_skip s.data.toList k hc)
            have HY : Hid (rOkAt s.data.toList k = true) := by
              show _ = _
              rw [rOk_str _ _ hc, HG.out]; simp; exact UInt8.toNat.inj (by show _ = 45; omega)
            have h45b : (((s[k]'hks).toNat : Int) != 45) = false := by simp [h45]
            clear h45
            rcases hc with rfl | rfl
            all_goals
              go_wp2
              go_roundw
              case rel => first | exact ⟨4 + 1, by omega, by go_num, by rw [HX.out], trivial, allTo_succ HA.out HY.out⟩ | exact ⟨7 + 1, by omega, by go_num, by rw [HX.out], trivial, allTo_succ HA.out HY.out⟩
              case measure => simp [intOf]
          · have hno := rok_no (l := s.data.toList) (by simpa using hz1.out) hlt (by
              rw [rOk_str _ _ hc, HG.out]
              exact beq_eq_false_iff_ne.2 fun he => h45 (by rw [he]; rfl))
            obtain ⟨e1, e2, e3, e4⟩ := p_no hno
            have EH := Lib.hid (And.intro e1 (And.intro e2 (And.intro e3 e4)))
            clear e1 e2 e3 e4 hno
            have h45b : (((s[k]'hks).toNat : Int) != 45) = true := by simp [h45]
            clear h45
            rcases hc with rfl | rfl
            all_goals
              go_wp2
              rw [EH.out.1, EH.out.2.1, EH.out.2.2.1, EH.out.2.2.2]
              exact bodyPost_ret (v := .tuple #[.agg #[.int .i64 0, .int .i64 0, .int .i64 0], .bool false]) (by simp [results, Try.results51, go_sem]) rfl ⟨rfl, bl_alloc (bl_refl _) _⟩
        · have hc4 : ((k : Int) == 4) = false := by simp; omega
          have hc7 : ((k : Int) == 7) = false := by simp; omega
          by_cases hd : 48 ≤ ((s[k]'hks).toNat : Int) ∧ ((s[k]'hks).toNat : Int) ≤ 57
          · obtain ⟨hd1, hd2⟩ := hd
            have HX := Lib.hid (rN_more s.data.toList k hc)
            have HY : Hid (rOkAt s.data.toList k = true) := by
              show _ = _
              rw [rOk_dig _ _ hc, HG.out]; simp [isDig]; omega
            clear hc
            go_wp2
            go_roundw
            case rel => exact ⟨k + 1, by omega, by go_num, by rw [HX.out, HG.out]; simp [digI], trivial, allTo_succ HA.out HY.out⟩
            case measure => simp [intOf]; omega
          · have hno := rok_no (l := s.data.toList) (by simpa using hz1.out) hlt (by
              rw [rOk_dig _ _ hc, HG.out]
              simp [isDig]; omega)
            obtain ⟨e1, e2, e3, e4⟩ := p_no hno
            have EH := Lib.hid (And.intro e1 (And.intro e2 (And.intro e3 e4)))
            clear e1 e2 e3 e4 hno hc
            by_cases hd1 : 48 ≤ ((s[k]'hks).toNat : Int)
            all_goals
              go_wp2
              rw [EH.out.1, EH.out.2.1, EH.out.2.2.1, EH.out.2.2.2]
              exact bodyPost_ret (v := .tuple #[.agg #[.int .i64 0, .int .i64 0, .int .i64 0], .bool false]) (by simp [results, Try.results51, go_sem]) rfl ⟨rfl, bl_alloc (bl_refl _) _⟩
      · obtain rfl : k = 10 := by omega
        have hl : s.data.toList.length = 10 := by simpa using hz1.out
        obtain ⟨f1, f2, f3⟩ := rN_end _ hl HA.out
        have hpo : parseOk s.data.toList = goodB (rN s.data.toList 10 / 10000) (rN s.data.toList 10 / 100 % 100) (rN s.data.toList 10 % 100) := by
          rw [f1, f2, f3]; simp [parseOk, (shape_iff _ hl).2 HA.out]
        have HP := Lib.hid hpo
        have HK := Lib.hid (And.intro f1 (And.intro f2 f3))
        clear f1 f2 f3 hpo hl
        cases hgd : goodB (rN s.data.toList 10 / 10000) (rN s.data.toList 10 / 100 % 100) (rN s.data.toList 10 % 100) with
        | true =>
          have HY := Lib.hid (p_yes (HP.out.trans hgd))
          go_wp2_with (go_at_call 24; refine (rgood_any _ _ _ _).mono ?_; rintro e w' ⟨rfl, hgb⟩; (have k0 := ((Blk.new w 24 _).alloc _).call hgb); (have kd := (Blk.new _ _ _).call hgb); (have hgz := hgb.size); simp only [World.size_alloc] at kd hgz; obtain ⟨_, _, _, _, _, _⟩ := k0.c3; obtain ⟨_, _, _, _, _, _⟩ := kd.c3)
          rw [HY.out.1, HY.out.2.1, HY.out.2.2.1, HY.out.2.2.2, ← HK.out.1, ← HK.out.2.1, ← HK.out.2.2]
          exact bodyPost_ret (results_cell_tmp_row rfl _ _ w.heap.size _ #[_, _, _] _ rfl (((k0.set_ 0 _).set_ 1 _).set_ 2 _) Try.underlying24 rfl (by kernel_rfl)) rfl ⟨rfl, bl_set (bl_set (bl_set (bl_call (bl_alloc (bl_alloc (bl_refl _) _) _) hgb) (Nat.le_refl _) _) (Nat.le_refl _) _) (Nat.le_refl _) _⟩
        | false =>
          have HY := Lib.hid (p_no (HP.out.trans hgd))
          go_wp2_with (go_at_call 24; refine (rgood_any _ _ _ _).mono ?_; rintro e w' ⟨rfl, hgb⟩; (have k0 := ((Blk.new w 24 _).alloc _).call hgb); (have kd := (Blk.new _ _ _).call hgb); (have hgz := hgb.size); simp only [World.size_alloc] at kd hgz; obtain ⟨_, _, _, _, _, _⟩ := k0.c3; obtain ⟨_, _, _, _, _, _⟩ := kd.c3)
          rw [HY.out.1, HY.out.2.1, HY.out.2.2.1, HY.out.2.2.2]
          exact bodyPost_ret (results_cell_tmp_row rfl _ _ w.heap.size _ #[.int .i64 0, .int .i64 0, .int .i64 0] _ rfl (((k0.set_ 0 _).set_ 1 _).set_ 2 _) Try.underlying24 rfl (by kernel_rfl)) rfl ⟨rfl, bl_set (bl_set (bl_set (bl_call (bl_alloc (bl_alloc (bl_refl _) _) _) hgb) (Nat.le_refl _) _) (Nat.le_refl _) _) (Nat.le_refl _) _⟩
  · have hn : parseOk s.data.toList = false := shape_no (by
      have he : (s.data.toList.length == 10) = false := beq_eq_false_iff_ne.2 (by simpa using hz)
      simp only [dateShape, he, Bool.false_and])
    obtain ⟨e1, e2, e3, e4⟩ := p_no hn
    rw [e1, e2, e3, e4]
    clear e1 e2 e3 e4 hn
    have h1 : ((s.size : Int) != 10) = true := by simp; omega
    go_enter Try.func51, Try.ntmps51
    go_wp2
    exact bodyPost_ret (v := .tuple #[.agg #[.int .i64 0, .int .i64 0, .int .i64 0], .bool false]) (by simp [results, Try.results51, go_sem]) rfl ⟨rfl, bl_alloc (bl_refl _) _⟩
end Go.Proofs.Ytcgkfgklggjmaaa
end
section
namespace Go.Proofs.Ytcgkfgklggjmaaa
set_option linter.unusedVariables false
set_option linter.unusedSimpArgs false
open Go.RowKit
theorem let_idx (c : UInt8) : decide (0 ≤ Lib.indexByte [95, 46, 45] c) = (c == 95 || c == 46 || c == 45) := by
  by_cases h1 : c = 95
  · subst h1; decide
  · by_cases h2 : c = 46
    · subst h2; decide
    · by_cases h3 : c = 45
      · subst h3; decide
      · have e1 : (95 == c) = false := beq_eq_false_iff_ne.2 (Ne.symm h1)
        have e2 : (46 == c) = false := beq_eq_false_iff_ne.2 (Ne.symm h2)
        have e3 : (45 == c) = false := beq_eq_false_iff_ne.2 (Ne.symm h3)
        simp [Lib.indexByte, e1, e2, e3, h1, h2, h3]
theorem u8_eq (c : UInt8) (n : Nat) (h : n < 256) : (c == UInt8.ofNat n) = decide (c.toNat = n) := by
  rw [Bool.eq_iff_iff, beq_iff_eq, decide_eq_true_eq]
  constructor
  · rintro rfl; simp; omega
  · intro he; apply UInt8.toNat.inj; simp; omega
theorem rletter_any (c : UInt8) (w : World) :
    Calls Try.prog 48 #[.int .u8 c.toNat] w fun e w' => e = .returned (.bool (isLet c)) ∧ w = w' := by
  have hc := c.toNat_lt
  go_enter Try.func48, Try.ntmps48
  go_wp2
  all_goals
    go_ret
    refine ⟨ret_bool ?_, rfl⟩
    rw [Bool.eq_iff_iff]
    simp [isLet] at *
    try omega
theorem rdigit_any (c : UInt8) (w : World) :
    Calls Try.prog 82 #[.int .u8 c.toNat] w fun e w' => e = .returned (.bool (isDig c)) ∧ w = w' := by
  have hc := c.toNat_lt
  go_enter Try.func82, Try.ntmps82
  go_wp2
  all_goals
    go_ret
    refine ⟨ret_bool ?_, rfl⟩
    rw [Bool.eq_iff_iff]
    simp [isDig]
    try omega
end Go.Proofs.Ytcgkfgklggjmaaa
end
section
namespace Go.Proofs.Ytcgkfgklggjmaaa
set_option linter.unusedVariables false
set_option linter.unusedSimpArgs false
open Go.RowKit
theorem all_upto (s : ByteArray) (p : UInt8 → Bool) (pos : Nat) (hp : pos < s.size) : (s.data.toList.take (pos + 1)).all p = ((s.data.toList.take pos).all p && p s[pos]) := by
  rw [take_snoc s pos hp]; simp
theorem take_end (s : ByteArray) : s.data.toList.take s.size = s.data.toList := List.take_of_length_le (by simp)
theorem all_false (s : ByteArray) (p : UInt8 → Bool) (pos : Nat) (hp : pos < s.size) (h : p s[pos] = false) : s.data.toList.all p = false := by
  rw [List.all_eq_false]
  refine ⟨s[pos], ?_, by simp [h]⟩
  have : s[pos] = s.data.toList[pos]'(by simpa using hp) := rfl
  rw [this]
  exact List.getElem_mem _
theorem digits_no (s : ByteArray) (pos : Nat) (hp : pos < s.size) (h : isDig s[pos] = false) : digitsB s.data.toList = false := by simp [digitsB, all_false s isDig pos hp h]
def cutW (s : ByteArray) : ByteArray := ⟨(Lib.cut s.data.toList [46]).1.toArray⟩
def cutP (s : ByteArray) : ByteArray := ⟨(Lib.cut s.data.toList [46]).2.1.toArray⟩
def cutB (s : ByteArray) : Bool := (Lib.cut s.data.toList [46]).2.2
theorem numForm_cut (s : ByteArray) : numForm s.data.toList = if digitsB (cutW s).data.toList = false ∨ (1 < (cutW s).size ∧ (cutW s).data.toList.getD 0 0 = 48) then 0 else if cutB s = false then 1 else if digitsB (cutP s).data.toList then 2 else 0 := by
  rfl
/-! names -/
def nameB (l : List UInt8) : Bool := !l.isEmpty && plainB l && !digFirst l
def nameAt (l : List UInt8) (k : Nat) : Bool := l.getD k 0 != 46 && l.getD k 0 != 45 && !(k == 0 && isDig (l.getD k 0))
theorem nameB_is (l : List UInt8) : nameB l = true ↔ l ≠ [] ∧ ∀ j, j < l.length → nameAt l j = true := by
  cases l with
  | nil => simp [nameB]
  | cons x l =>
    simp only [nameB, plainB, digFirst, List.isEmpty_cons, Bool.not_false, Bool.true_and, Bool.and_eq_true, List.all_eq_true, Bool.not_eq_true', List.getD_cons_zero]
    constructor
    · rintro ⟨h1, h2⟩
      refine ⟨by simp, fun j hj => ?_⟩
      have hm : (x :: l).getD j 0 ∈ x :: l := by
        rw [List.getD, List.getElem?_eq_getElem hj]; exact List.getElem_mem hj
      have := h1 _ hm
      simp only [nameAt]
      rw [this.1, this.2]
      cases j with
      | zero => simp [h2]
      | succ j => simp
    · rintro ⟨_, h⟩
      constructor
      · intro y hy
        obtain ⟨j, hj, rfl⟩ := List.getElem_of_mem hy
        have := h j hj
        simp only [nameAt, List.getD, List.getElem?_eq_getElem hj, Option.getD_some, Bool.and_eq_true] at this
        exact ⟨this.1.1, this.1.2⟩
      · have := h 0 (by simp)
        simp [nameAt] at this
        exact this.2
theorem nameB_no {l : List UInt8} {k : Nat} (hk : k < l.length) (h : nameAt l k = false) : nameB l = false := by
  cases hn : nameB l with
  | false => rfl
  | true => have := ((nameB_is l).1 hn).2 k hk; rw [h] at this; cases this
def nameTo (l : List UInt8) (k : Nat) : Prop := ∀ j, j < k → nameAt l j = true
theorem nameTo_succ {l : List UInt8} {k : Nat} (h : nameTo l k) (hk : nameAt l k = true) : nameTo l (k + 1) := fun j hj => by
  rcases Nat.lt_or_eq_of_le (Nat.le_of_lt_succ hj) with h1 | h1
  · exact h j h1
  · rw [h1]; exact hk
theorem nameB_end {l : List UInt8} (h : nameTo l l.length) : nameB l = !l.isEmpty := by
  cases l with
  | nil => rfl
  | cons x l => simpa using (nameB_is (x :: l)).2 ⟨by simp, h⟩
end Go.Proofs.Ytcgkfgklggjmaaa
end
section
namespace Go.Proofs.Ytcgkfgklggjmaaa
set_option linter.unusedVariables false
set_option linter.unusedSimpArgs false
open Go.RowKit
theorem drop_at (s : ByteArray) (k : Nat) (h : k < s.size) : s.data.toList.drop k = s[k] :: s.data.toList.drop (k + 1) := by
  rw [List.drop_eq_getElem_cons (by simpa using h)]; rfl
theorem drop_end (s : ByteArray) : s.data.toList.drop s.size = [] := List.drop_of_length_le (by simp)
def fmt4 (l : List UInt8) (o : Option Nat) : Int := match o with
  | none => 0
  | some p => if l.getD 0 0 = 48 ∧ 1 < l.length ∧ l.getD 1 0 ≠ 46 then 0 else 1 + (p : Int)
theorem numForm_scan (l : List UInt8) (h0 : l ≠ []) (h1 : isDig (l.getD 0 0) = true) : numForm l = fmt4 l (rform l 0) := by
  rw [← rform_is l, if_neg (by simp only [h0, h1, false_or]; simp)]; rfl
theorem numForm_zero (l : List UInt8) (h : l = [] ∨ isDig (l.getD 0 0) = false) : numForm l = 0 := by
  rw [← rform_is l, if_pos h]
theorem size_pos (s : ByteArray) : s.data.toList = [] ↔ s.size = 0 := by
  rw [← List.length_eq_zero_iff]; simp
theorem u8_nb {c d : UInt8} {n : Int} (hd : (d.toNat : Int) = n) (h : c ≠ d) : ((c.toNat : Int) == n) = false :=
  beq_eq_false_iff_ne.2 fun he => h (UInt8.toNat.inj (by omega))
set_option maxHeartbeats 2000000 in
theorem rOf4_any (s : ByteArray) (w : World) (hs : s.size ≤ 9223372036854775807) :
    Calls Try.prog 68 #[.string s] w fun e w' => e = .returned (.int .i64 (numForm s.data.toList)) ∧ w = w' := by
  have hem : s.toList.isEmpty = s.data.toList.isEmpty := by rw [ByteArray.toList_eq]
  by_cases hz : s.size = 0
  · have hl := (size_pos s).2 hz
    have h1 : s.toList.isEmpty = true := by rw [hem, hl]; rfl
    have hl2 : s.toList = [] := by simpa using h1
    have HN := Lib.hid (numForm_zero s.data.toList (.inl hl))
    clear hem hl h1
    go_enter Try.func68, Try.ntmps68
    go_wp2
    go_ret
    exact ⟨ret_int (by rw [HN.out]), rfl⟩
  · have hp : 0 < s.size := by omega
    have hl : s.data.toList ≠ [] := fun h => hz ((size_pos s).1 h)
    have h1 : s.toList.isEmpty = false := by rw [hem]; simpa using hl
    have hl2 : ¬ s.toList = [] := by simpa using h1
    have hg0 := getD_at s 0 hp
    clear hem hz
    cases hd : isDig (s[0]'hp) with
    | false =>
      have HN := Lib.hid (numForm_zero s.data.toList (.inr (by rw [hg0]; exact hd)))
      clear hg0 hl
      go_enter Try.func68, Try.ntmps68
      go_wp2_with (go_at_call 82; refine (rdigit_any _ _).mono ?_; rintro e w' ⟨rfl, rfl⟩)
      go_ret
      exact ⟨ret_int (by rw [HN.out]), rfl⟩
    | true =>
      have HN := Lib.hid (numForm_scan s.data.toList hl (by rw [hg0]; exact hd))
      have HG0 := Lib.hid hg0
      clear hg0 hl
      go_enter Try.func68, Try.ntmps68
      go_wp2_with (go_at_call 82; refine (rdigit_any _ _).mono ?_; rintro e w' ⟨rfl, rfl⟩)
      go_loop [3, 4] (fun pv v => ∃ k p : Nat, k ≤ s.size ∧ p ≤ 1 ∧ v = .int .i64 k ∧ pv = .int .i64 p ∧ Hid (rform (s.data.toList.drop k) p = rform s.data.toList 0)) (fun _ v => s.size - (intOf v).toNat)
      case atStart => exact ⟨0, 0, Nat.zero_le _, Nat.zero_le _, rfl, rfl, rfl⟩
      case round =>
        obtain ⟨k, p, hk, hp1, rfl, rfl, HA⟩ := hrel
        clear hl2 h1 hd
        by_cases hlt : k < s.size
        · have hdr := drop_at s k hlt
          have hcl := (s[k]'hlt).toNat_lt
          have hA2 := HA.out
          rw [hdr] at hA2
          have HA2 := Lib.hid hA2
          clear hA2
          by_cases hc : s[k]'hlt = 46
          · have hb : (((s[k]'hlt).toNat : Int) == 46) = true := by rw [hc]; rfl
            rw [hc] at HA2
            by_cases hlast : s.size = k + 1
            · have HX : Hid (rform s.data.toList 0 = none) := by
                show _ = _
                rw [← HA2.out, ← hlast, drop_end]; simp [rform]
              have hlb : ((k : Int) == (s.size : Int) - 1) = true := by rw [beq_iff_eq]; omega
              have hl3 : s.size ≤ k + 1 := by omega
              clear hc hdr  hlast HA HA2
              go_wp2
              all_goals
                go_ret
                exact ⟨ret_int (by rw [HN.out, HX.out]; rfl), rfl⟩
            · have hlb : ((k : Int) == (s.size : Int) - 1) = false := by rw [beq_eq_false_iff_ne]; omega
              have hnl : s.data.toList.drop (k + 1) ≠ [] := by
                intro h
                have := congrArg List.length h
                simp at this; omega
              by_cases hp0 : p = 0
              · subst hp0
                have HX : Hid (rform (s.data.toList.drop (k + 1)) 1 = rform s.data.toList 0) := by
                  show _ = _
                  rw [← HA2.out, rform, if_pos rfl, if_neg (by simp [hnl])]
                clear hc hdr  hlast HA HA2 hnl
                go_wp2
                go_round
                case rel => exact ⟨k + 1, 1, by omega, by omega, by go_num, by first | rfl | go_num, HX⟩
                case measure => simp [intOf]; omega
              · obtain rfl : p = 1 := by omega
                have HX : Hid (rform s.data.toList 0 = none) := by
                  show _ = _
                  rw [← HA2.out, rform, if_pos rfl, if_pos (.inl (by omega))]
                clear hc hdr  hlast HA HA2 hnl hp0
                go_wp2
                go_ret
                exact ⟨ret_int (by rw [HN.out, HX.out]; rfl), rfl⟩
          · have hb : (((s[k]'hlt).toNat : Int) == 46) = false := u8_nb rfl hc
            cases hd : isDig (s[k]'hlt) with
            | true =>
              have HX : Hid (rform (s.data.toList.drop (k + 1)) p = rform s.data.toList 0) := by
                show _ = _
                rw [← HA2.out, rform, if_neg hc, if_pos hd]
              clear hc hdr  HA HA2
              go_wp2_with (go_at_call 82; refine (rdigit_any _ _).mono ?_; rintro e w' ⟨rfl, rfl⟩)
              go_round
              case rel => exact ⟨k + 1, p, by omega, by omega, by go_num, rfl, HX⟩
              case measure => simp [intOf]; omega
            | false =>
              have HX : Hid (rform s.data.toList 0 = none) := by
                show _ = _
                rw [← HA2.out, rform, if_neg hc, if_neg (by rw [hd]; simp)]
              clear hc hdr  HA HA2
              go_wp2_with (go_at_call 82; refine (rdigit_any _ _).mono ?_; rintro e w' ⟨rfl, rfl⟩)
              go_ret
              exact ⟨ret_int (by rw [HN.out, HX.out]; rfl), rfl⟩
        · obtain rfl : k = s.size := by omega
          have HX : Hid (rform s.data.toList 0 = some p) := by
            show _ = _
            rw [← HA.out, drop_end]; rfl
          clear HA
          have hsz : s.data.toList.length = s.size := by simp
          by_cases h0 : s[0]'hp = 48
          · have hb0 : (((s[0]'hp).toNat : Int) == 48) = true := by rw [h0]; rfl
            by_cases h1 : 1 < s.size
            · have hg1 := getD_at s 1 h1
              by_cases h2 : s[1]'h1 = 46
              · have hb2 : (((s[1]'h1).toNat : Int) != 46) = false := by rw [h2]; rfl
                have HF : Hid (numForm s.data.toList = 1 + (p : Int)) := by
                  show _ = _
                  rw [HN.out, HX.out, fmt4, if_neg (by rw [hg1, h2]; simp)]
                clear hg1   h0 h2 hsz
                go_wp2
                go_ret
                exact ⟨ret_int (by rw [HF.out]), rfl⟩
              · have hb2 : (((s[1]'h1).toNat : Int) != 46) = true := by simp [bne, u8_nb (d := 46) (n := 46) rfl h2]
                have HF : Hid (numForm s.data.toList = 0) := by
                  show _ = _
                  rw [HN.out, HX.out, fmt4, if_pos ⟨by rw [HG0.out]; exact h0, by omega, by rw [hg1]; exact h2⟩]
                clear hg1   h0 h2 hsz
                go_wp2
                go_ret
                exact ⟨ret_int (by rw [HF.out]), rfl⟩
            · have HF : Hid (numForm s.data.toList = 1 + (p : Int)) := by
                show _ = _
                rw [HN.out, HX.out, fmt4, if_neg (by omega)]
              clear  h0 hsz
              go_wp2
              go_ret
              exact ⟨ret_int (by rw [HF.out]), rfl⟩
          · have hb0 : (((s[0]'hp).toNat : Int) == 48) = false := u8_nb rfl h0
            have HF : Hid (numForm s.data.toList = 1 + (p : Int)) := by
              show _ = _
              rw [HN.out, HX.out, fmt4, if_neg (by rw [HG0.out]; exact fun h => h0 h.1)]
            clear  h0 hsz
            go_wp2
            go_ret
            exact ⟨ret_int (by rw [HF.out]), rfl⟩
end Go.Proofs.Ytcgkfgklggjmaaa
end
section
namespace Go.Proofs.Ytcgkfgklggjmaaa
set_option linter.unusedVariables false
set_option linter.unusedSimpArgs false
open Go.RowKit
def wordsV : Array Value := (wordsL.map fun l => Value.string ⟨l.toArray⟩).toArray
theorem words_any (w : World) : Calls Try.prog 67 #[] w fun e w' => e = .returned (.slice (some ⟨w.heap.size, 0, none⟩) 26 26) ∧ Blk w' w.heap.size 9 wordsV ∧ Below w.heap.size w w' := by
  go_enter Try.func67, Try.ntmps67
  go_wp2
  go_ret
  exact ⟨rfl, Blk.new _ _ _, bl_alloc (bl_refl _) _⟩
theorem wordsV_at (k : Nat) (h : k < 26) : wordsV[k]? = some (.string ⟨(wordsL.getD k []).toArray⟩) := by
  have hl : k < wordsL.length := h
  simp only [wordsV, List.getElem?_toArray, List.getElem?_map, List.getElem?_eq_getElem hl, Option.map_some, List.getD, Option.getD_some]
theorem isWord_at {l : List UInt8} {k : Nat} (h : k < 26) (he : wordsL.getD k [] = l) : isWord l = true := by
  have hl : k < wordsL.length := h
  rw [List.getD, List.getElem?_eq_getElem hl] at he
  simp only [isWord, List.contains_iff_mem]
  rw [← he]; exact List.getElem_mem hl
theorem isWord_none {l : List UInt8} (h : ∀ j, j < 26 → wordsL.getD j [] ≠ l) : isWord l = false := by
  cases hw : isWord l with
  | false => rfl
  | true =>
    exfalso
    have hm : l ∈ wordsL := by simpa [isWord] using hw
    obtain ⟨j, hj, he⟩ := List.getElem_of_mem hm
    refine h j hj ?_
    rw [List.getD, List.getElem?_eq_getElem hj]; exact he
def noneTo (l : List UInt8) (k : Nat) : Prop := ∀ j, j < k → wordsL.getD j [] ≠ l
theorem noneTo_succ {l : List UInt8} {k : Nat} (h : noneTo l k) (hk : wordsL.getD k [] ≠ l) : noneTo l (k + 1) := fun j hj => by
  rcases Nat.lt_or_eq_of_le (Nat.le_of_lt_succ hj) with h1 | h1
  · exact h j h1
  · rw [h1]; exact hk
theorem str_eq (a b : ByteArray) : (a.toList == b.toList) = decide (a.data.toList = b.data.toList) := by
  rw [ByteArray.toList_eq, ByteArray.toList_eq, Bool.eq_iff_iff, beq_iff_eq, decide_eq_true_eq]
set_option maxHeartbeats 4000000 in
theorem rOf5_any (s : ByteArray) (w : World) (hs : s.size ≤ 9223372036854775807) :
    Calls Try.prog 49 #[.string s] w fun e w' => e = .returned (.int .i64 (kindOf s.data.toList)) ∧ Below w.heap.size w w' := by
  have hem : s.toList = s.data.toList := ByteArray.toList_eq s
  by_cases h5 : s.data.toList = [123] ∨ s.data.toList = [125] ∨ s.data.toList = [59]
  · have HK := Lib.hid (kind_sign h5)
    rw [← hem] at h5
    clear hem
    rcases h5 with h5 | h5 | h5
    all_goals
      go_enter Try.func49, Try.ntmps49
      go_wp2
      go_ret
      exact ⟨ret_int (by rw [HK.out]), bl_refl _⟩
  · have h5n := h5
    have q1 : (s.toList == [123]) = false := beq_eq_false_iff_ne.2 fun h => h5 (.inl (hem ▸ h))
    have q2 : (s.toList == [125]) = false := beq_eq_false_iff_ne.2 fun h => h5 (.inr (.inl (hem ▸ h)))
    have q3 : (s.toList == [59]) = false := beq_eq_false_iff_ne.2 fun h => h5 (.inr (.inr (hem ▸ h)))
    have H5 := Lib.hid h5
    clear h5 h5n
    by_cases hz : s.size = 0
    · have hl := (size_pos s).2 hz
      have h1 : s.toList.isEmpty = true := by rw [hem, hl]; rfl
      have HK := Lib.hid (kind_no H5.out (.inl hl))
      clear hl hem hz
      go_enter Try.func49, Try.ntmps49
      go_wp2
      go_ret
      exact ⟨ret_int (by rw [HK.out]), bl_refl _⟩
    · have hp : 0 < s.size := by omega
      have hl : s.data.toList ≠ [] := fun h => hz ((size_pos s).1 h)
      have h1 : s.toList.isEmpty = false := by rw [hem]; simpa using hl
      have HL := Lib.hid hl
      have HE := Lib.hid hem
      clear hz hl hem
      go_enter Try.func49, Try.ntmps49
      go_wp2_with fail
      clear q1 q2 q3 h1
      go_loop [3, 4] (fun pv v => ∃ (k : Nat) (b : Bool), k ≤ s.size ∧ v = .int .i64 k ∧ pv = .bool b ∧ Hid (b = plainB (s.data.toList.take k)) ∧ Hid ((s.data.toList.take k).all isLet = true)) (fun _ v => s.size - (intOf v).toNat)
      case atStart => exact ⟨0, true, Nat.zero_le _, rfl, rfl, by simp [Hid, plainB], by simp [Hid]⟩
      case round =>
        obtain ⟨k, b, hk, rfl, rfl, HB, HA⟩ := hrel
        by_cases hlt : k < s.size
        · have hu := all_upto s isLet k hlt
          have hv := all_upto s (fun c => c != 46 && c != 45) k hlt
          have hbad := all_false s isLet k hlt
          have HU := Lib.hid hu
          have HV := Lib.hid hv
          clear hu hv
          cases hi : isLet (s[k]'hlt) with
          | false =>
            have HK := Lib.hid (kind_no H5.out (.inr (hbad hi)))
            clear hbad
            go_wp2_with (go_at_call 48; refine (rletter_any _ _).mono ?_; rintro e w' ⟨rfl, rfl⟩)
            go_ret
            exact ⟨ret_int (by rw [HK.out]), bl_refl _⟩
          | true =>
            clear hbad
            have HI := Lib.hid hi
            have HX : Hid ((s.data.toList.take (k + 1)).all isLet = true) := by
              show _ = _
              rw [HU.out, HA.out, hi]; rfl
            have h46 : (((s[k]'hlt).toNat : Int) != 46) = (s[k]'hlt != 46) := by
              by_cases h : s[k]'hlt = 46
              · rw [h]; rfl
              · simp [bne, u8_nb (d := 46) (n := 46) rfl h, h]
            have h45 : (((s[k]'hlt).toNat : Int) != 45) = (s[k]'hlt != 45) := by
              by_cases h : s[k]'hlt = 45
              · rw [h]; rfl
              · simp [bne, u8_nb (d := 45) (n := 45) rfl h, h]
            have HP : Hid (plainB (s.data.toList.take (k + 1)) = (b && (((s[k]'hlt).toNat : Int) != 46 && ((s[k]'hlt).toNat : Int) != 45))) := by
              show _ = _
              rw [plainB, HV.out, h46, h45, HB.out]; rfl
            clear h46 h45
            cases b with
            | false =>
              go_wp2_with (go_at_call 48; refine (rletter_any _ _).mono ?_; rintro e w' ⟨rfl, rfl⟩)
              go_round
              case rel => exact ⟨k + 1, false, by omega, by go_num, rfl, (show _ = _ by rw [HP.out]; rfl), HX⟩
              case measure => simp [intOf]; omega
            | true =>
              have hbq : ∀ n : Int, (((s[k]'hlt).toNat : Int) != n) = true ∨ (((s[k]'hlt).toNat : Int) != n) = false := fun n => by cases (((s[k]'hlt).toNat : Int) != n) <;> simp
              rcases hbq 46 with g1 | g1
              · rcases hbq 45 with g2 | g2
                all_goals
                  have HPP := Lib.hid (HP.out.trans (by rw [g1, g2]))
                  clear hbq
                  go_wp2_with (go_at_call 48; refine (rletter_any _ _).mono ?_; rintro e w' ⟨rfl, rfl⟩)
                  go_round
                  case rel => exact ⟨k + 1, _, by omega, by go_num, rfl, (show _ = _ by rw [HPP.out]; simp), HX⟩
                  case measure => simp [intOf]; omega
              · have HPP := Lib.hid (HP.out.trans (by rw [g1]))
                clear hbq
                go_wp2_with (go_at_call 48; refine (rletter_any _ _).mono ?_; rintro e w' ⟨rfl, rfl⟩)
                go_round
                case rel => exact ⟨k + 1, _, by omega, by go_num, rfl, (show _ = _ by rw [HPP.out]; simp), HX⟩
                case measure => simp [intOf]; omega
        · obtain rfl : k = s.size := by omega
          have hA := HA.out
          have hB := HB.out
          rw [take_end] at hA hB
          have HK := Lib.hid (kind_let hA HL.out)
          have HBB := Lib.hid hB
          clear hA hB HA HB
          go_wp2_with (go_at_call 67; refine (words_any _).mono ?_; rintro e w1 ⟨rfl, hw1, hb1⟩)
          have hz1 := hw1.lt
          go_loop [47] (fun v => ∃ k : Nat, k ≤ 26 ∧ v = .int .i64 k ∧ Hid (noneTo s.data.toList k)) (fun v => 26 - (intOf v).toNat)
          case atStart => exact ⟨0, by omega, rfl, fun j hj => absurd hj (by omega)⟩
          case round =>
            obtain ⟨k, hk, rfl, HN⟩ := hrel
            by_cases hlt : k < 26
            · have hc := (hw1.cell k).trans (wordsV_at k hlt)
              by_cases hq : wordsL.getD k [] = s.data.toList
              · have hb := str_eq ⟨(wordsL.getD k []).toArray⟩ s
                rw [decide_eq_true (by simpa using hq)] at hb
                have HF : Hid (kindOf s.data.toList = 2) := by
                  show _ = _
                  rw [HK.out, if_pos (isWord_at hlt hq)]
                clear hq
                generalize (⟨(wordsL.getD k []).toArray⟩ : ByteArray) = x at *
                go_wp2
                go_ret
                exact ⟨ret_int (by rw [HF.out]), hb1⟩
              · have hb := str_eq ⟨(wordsL.getD k []).toArray⟩ s
                rw [decide_eq_false (by simpa using hq)] at hb
                have HX : Hid (noneTo s.data.toList (k + 1)) := noneTo_succ HN.out hq
                clear hq
                generalize (⟨(wordsL.getD k []).toArray⟩ : ByteArray) = x at *
                go_wp2
                go_round
                case rel => exact ⟨k + 1, by omega, by go_num, HX⟩
                case measure => simp [intOf]; omega
            · obtain rfl : k = 26 := by omega
              have HW := Lib.hid (HK.out.trans (by rw [if_neg (by rw [isWord_none HN.out]; simp)]))
              clear hlt HN
              have hg0 := getD_at s 0 hp
              have hcl := (s[0]'hp).toNat_lt
              have hnn := numForm_nonneg s.data.toList
              have HDF : Hid (digFirst s.data.toList = (decide (48 ≤ ((s[0]'hp).toNat : Int)) && decide (((s[0]'hp).toNat : Int) ≤ 57))) := by
                show _ = _
                rw [digFirst, hg0, Bool.eq_iff_iff]; simp [isDig]; omega
              clear hg0
              by_cases hA : b = true ∧ (((s[0]'hp).toNat : Int) < 48 ∨ 57 < ((s[0]'hp).toNat : Int))
              · obtain ⟨rfl, hA⟩ := hA
                have HF := Lib.hid (HW.out.trans (if_pos ⟨HBB.out.symm, HDF.out.trans (by simp; omega)⟩))
                rcases hA with hA | hA
                · go_wp2
                  go_ret
                  exact ⟨ret_int (by rw [HF.out]), hb1⟩
                · go_wp2
                  go_ret
                  exact ⟨ret_int (by rw [HF.out]), hb1⟩
              · have HF := Lib.hid (HW.out.trans (if_neg (fun h => hA ⟨HBB.out.trans h.1, by have := HDF.out.symm.trans h.2; simp at this; omega⟩)))
                clear HW
                by_cases hn : 0 < numForm s.data.toList
                · have HF3 := Lib.hid (HF.out.trans (if_pos (by omega)))
                  clear HF
                  cases b with
                  | false =>
                    go_wp2_with (go_at_call 68; refine (rOf4_any _ _ hs).mono ?_; rintro e w' ⟨rfl, rfl⟩)
                    go_ret
                    exact ⟨ret_int (by rw [HF3.out]), hb1⟩
                  | true =>
                    have hA2 : ¬ (((s[0]'hp).toNat : Int) < 48 ∨ 57 < ((s[0]'hp).toNat : Int)) := fun h => hA ⟨rfl, h⟩
                    have g1 : 48 ≤ ((s[0]'hp).toNat : Int) := by omega
                    have g2 : ((s[0]'hp).toNat : Int) ≤ 57 := by omega
                    clear hA hA2
                    go_wp2_with (go_at_call 68; refine (rOf4_any _ _ hs).mono ?_; rintro e w' ⟨rfl, rfl⟩)
                    go_ret
                    exact ⟨ret_int (by rw [HF3.out]), hb1⟩
                · have HF4 := Lib.hid (HF.out.trans (if_neg (by omega)))
                  clear HF
                  cases hpk : pOk s
                  all_goals
                    have HPK := Lib.hid hpk
                    cases b with
                    | false =>
                      go_wp2_with (first | (go_at_call 68; refine (rOf4_any _ _ hs).mono ?_; rintro e w' ⟨rfl, rfl⟩) | (go_at_call 51; refine (rparse_any _ _).mono ?_; rintro e w2 ⟨rfl, hb2⟩))
                      go_ret
                      refine ⟨ret_int (by rw [HF4.out]; have h := HPK.out; simp only [pOk] at h; rw [h]; rfl), ?_⟩
                      exact bl_alloc (bl_call hb1 hb2) _
                    | true =>
                      have hA2 : ¬ (((s[0]'hp).toNat : Int) < 48 ∨ 57 < ((s[0]'hp).toNat : Int)) := fun h => hA ⟨rfl, h⟩
                      have g1 : 48 ≤ ((s[0]'hp).toNat : Int) := by omega
                      have g2 : ((s[0]'hp).toNat : Int) ≤ 57 := by omega
                      clear hA hA2
                      go_wp2_with (first | (go_at_call 68; refine (rOf4_any _ _ hs).mono ?_; rintro e w' ⟨rfl, rfl⟩) | (go_at_call 51; refine (rparse_any _ _).mono ?_; rintro e w2 ⟨rfl, hb2⟩))
                      go_ret
                      refine ⟨ret_int (by rw [HF4.out]; have h := HPK.out; simp only [pOk] at h; rw [h]; rfl), ?_⟩
                      exact bl_alloc (bl_call hb1 hb2) _
end Go.Proofs.Ytcgkfgklggjmaaa
end
section
namespace Go.Proofs.Ytcgkfgklggjmaaa
set_option linter.unusedVariables false
set_option linter.unusedSimpArgs false
open Go.RowKit
/-! the program's Of -/
theorem spaced_list (s : ByteArray) : ((⟨#[32]⟩ : ByteArray) ++ s ++ ⟨#[32]⟩).data.toList = 32 :: (s.data.toList ++ [32]) := by
  simp only [ByteArray.data_append, Array.toList_append]; rfl
section
variable {l : List UInt8}
theorem kt_name (h : l ≠ []) : nameB l = true ↔ plainB l = true ∧ digFirst l = false := by
  have : l.isEmpty = false := by cases l with
    | nil => exact absurd rfl h
    | cons x l => rfl
  simp [nameB, this]
theorem kt2 (h : isWord l = true) : (if isWord l then (2 : Int) else if plainB l ∧ digFirst l = false then 1 else if numForm l ≠ 0 then 3 else if parseOk l then 4 else 0) = 2 := if_pos h
theorem kt1 (h0 : l ≠ []) (h : isWord l = false) (h1 : nameB l = true) : (if isWord l then (2 : Int) else if plainB l ∧ digFirst l = false then 1 else if numForm l ≠ 0 then 3 else if parseOk l then 4 else 0) = 1 := by
  rw [if_neg (by simp [h]), if_pos ((kt_name h0).1 h1)]
theorem kt3 (h0 : l ≠ []) (h : isWord l = false) (h1 : nameB l = false) (h2 : (numForm l != 0) = true) : (if isWord l then (2 : Int) else if plainB l ∧ digFirst l = false then 1 else if numForm l ≠ 0 then 3 else if parseOk l then 4 else 0) = 3 := by
  rw [if_neg (by simp [h]), if_neg (fun hc => by rw [(kt_name h0).2 hc] at h1; cases h1), if_pos (by simpa using h2)]
theorem kt4 (h0 : l ≠ []) (h : isWord l = false) (h1 : nameB l = false) (h2 : (numForm l != 0) = false) {b : Bool} (h3 : parseOk l = b) : (if isWord l then (2 : Int) else if plainB l ∧ digFirst l = false then 1 else if numForm l ≠ 0 then 3 else if parseOk l then 4 else 0) = if b then 4 else 0 := by
  rw [if_neg (by simp [h]), if_neg (fun hc => by rw [(kt_name h0).2 hc] at h1; cases h1), if_neg (by simpa using h2), h3]
end
theorem one_list (s : ByteArray) (h : s.size = 1) : s.data.toList = [s[0]'(by omega)] := by
  have h1 := take_snoc s 0 (by omega)
  have h2 := take_end s
  rw [h] at h2
  rw [← h2]; simpa using h1
end Go.Proofs.Ytcgkfgklggjmaaa
end
section
namespace Go.Proofs.Ytcgkfgklggjmaaa
set_option linter.unusedVariables false
set_option linter.unusedSimpArgs false
open Go.RowKit
theorem blank_idx (c : UInt8) : decide (0 ≤ Lib.indexByte [32, 9, 13, 10] c) = decide (c = 32 ∨ c = 9 ∨ c = 13 ∨ c = 10) := by
  by_cases h1 : c = 32
  · subst h1; decide
  · by_cases h2 : c = 9
    · subst h2; decide
    · by_cases h3 : c = 13
      · subst h3; decide
      · by_cases h4 : c = 10
        · subst h4; decide
        · have e1 : (32 == c) = false := beq_eq_false_iff_ne.2 (Ne.symm h1)
          have e2 : (9 == c) = false := beq_eq_false_iff_ne.2 (Ne.symm h2)
          have e3 : (13 == c) = false := beq_eq_false_iff_ne.2 (Ne.symm h3)
          have e4 : (10 == c) = false := beq_eq_false_iff_ne.2 (Ne.symm h4)
          simp [Lib.indexByte, e1, e2, e3, e4, h1, h2, h3, h4]
theorem list_cons (s : ByteArray) (h : 0 < s.size) : s.data.toList = s[0] :: s.data.toList.drop 1 := by
  have := drop_at s 0 h
  simpa using this
theorem take_getD (l : List UInt8) (k : Nat) (h : k < l.length) : l.take (k + 1) = l.take k ++ [l.getD k 0] := by
  rw [List.take_succ_eq_append_getElem h, List.getD, List.getElem?_eq_getElem h]; rfl
def cellsAre (w : World) (g : Nat) (l : List UInt8) : Prop := ∀ j, j < l.length → w.cell? ⟨g, j, none⟩ = some (.int .u8 (l.getD j 0).toNat)
theorem cellsAre.set {w : World} {g : Nat} {l : List UInt8} (h : cellsAre w g l) {p : Addr} (hp : p.block ≠ g) (u : Value) : cellsAre (w.setCell p u) g l :=
  fun j hj => (World.cell?_setCell_other w p _ u (fun e => hp (by rw [e]))).trans (h j hj)
theorem runLen_step (s : ByteArray) (k : Nat) (h : k < s.size) (hi : isLet s[k] = true) : runLen (s.data.toList.drop k) = 1 + runLen (s.data.toList.drop (k + 1)) := by
  rw [drop_at s k h, runLen, List.takeWhile_cons, if_pos hi]; simp [runLen]; omega
theorem runLen_stop (s : ByteArray) (k : Nat) (h : k < s.size) (hi : isLet s[k] = false) : runLen (s.data.toList.drop k) = 0 := by
  rw [drop_at s k h, runLen, List.takeWhile_cons, if_neg (by simp [hi])]; rfl
end Go.Proofs.Ytcgkfgklggjmaaa
end
section
namespace Go.Proofs.Ytcgkfgklggjmaaa
set_option linter.unusedVariables false
set_option linter.unusedSimpArgs false
open Go.RowKit
def lexR (v : Value) (er l c : Int) : Value := .tuple #[v, .agg #[.int .i64 er, .int .i64 l, .int .i64 c]]
end Go.Proofs.Ytcgkfgklggjmaaa
end
section
namespace Go.Proofs.Ytcgkfgklggjmaaa.Par
set_option linter.unusedVariables false
set_option linter.unusedSimpArgs false
open Go.RowKit
end Go.Proofs.Ytcgkfgklggjmaaa.Par
end
section
namespace Go.Proofs.Ytcgkfgklggjmaaa.Par
set_option linter.unusedVariables false
set_option linter.unusedSimpArgs false
open Go.RowKit
def tokV (t : Tok) : Value := .agg #[.int .i64 t.kind, .string t.text, .int .i64 t.line, .int .i64 t.col]
theorem fault_eql (a b c a' b' c' : Int) (W : World) : (binOp .eql 34 (.agg #[.int .i64 a, .int .i64 b, .int .i64 c]) (.agg #[.int .i64 a', .int .i64 b', .int .i64 c'])).run Try.prog W = .ok (.bool (a == a' && (b == b' && (c == c' && true)))) W := by
  refine eql_S (fun d => ?_)
  refine eqS_of _ _ _ _ _ _ Try.underlying34 (by kernel_rfl) ?_
  refine eqF_cons _ _ _ _ _ (.int .i64 a) (.int .i64 a') _ _ rfl (by go_simp) (by go_simp) (by go_simp) ?_
  refine eqF_cons _ _ _ _ _ (.int .i64 b) (.int .i64 b') _ _ rfl (by go_simp) (by go_simp) (by go_simp) ?_
  refine eqF_cons _ _ _ _ _ (.int .i64 c) (.int .i64 c') _ _ rfl (by go_simp) (by go_simp) (by go_simp) ?_
  exact eqF_nil _ _ _
end Go.Proofs.Ytcgkfgklggjmaaa.Par
end
section
namespace Go.Proofs.Ytcgkfgklggjmaaa.Par
set_option linter.unusedVariables false
set_option linter.unusedSimpArgs false
open Go.RowKit
end Go.Proofs.Ytcgkfgklggjmaaa.Par
end
section
namespace Go.Proofs.Ytcgkfgklggjmaaa.Par
set_option linter.unusedVariables false
set_option linter.unusedSimpArgs false
open Go.RowKit
/-- a day's values, as date.Parse says them -/
def dp (t : ByteArray) : Day := (pY t, pM t, pD t)
def dayV (d : Day) : Value := .agg #[.int .i64 d.1, .int .i64 d.2.1, .int .i64 d.2.2]
end Go.Proofs.Ytcgkfgklggjmaaa.Par
end
section
namespace Go.Proofs.Ytcgkfgklggjmaaa.Par
set_option linter.unusedVariables false
set_option linter.unusedSimpArgs false
open Go.RowKit
end Go.Proofs.Ytcgkfgklggjmaaa.Par
end
section
namespace Go.Proofs.Ytcgkfgklggjmaaa.Par
set_option linter.unusedVariables false
set_option linter.unusedSimpArgs false
open Go.RowKit
/-- the reference's parser in memory -/
structure RAt (w : World) (b : Nat) (ts : List Tok) (r cap i : Nat) (s : St) : Prop where
  blk : Blk w b 75 #[.slice (some ⟨r, 0, none⟩) ts.length cap, .int .i64 i, .int .i64 s.err, .int .i64 s.line, .int .i64 s.col]
  row : w.ownsRow 0 77 4 (.slice (some ⟨r, 0, none⟩) ts.length cap) ts.length (toksCells ts)
  ne : r ≠ b
  rest : s.rest = ts.drop i
  lt : i < ts.length
  last : ∀ t, ts.getLast? = some t → t.kind = 0
  big : ts.length < 100000
  ends : ∀ t ∈ ts, t.text.size ≤ 8192
theorem RAt.peek_at {w : World} {b : Nat} {ts : List Tok} {r cap i : Nat} {s : St} (h : RAt w b ts r cap i s) : ts[i]? = some (peek s) := by
  unfold peek
  rw [h.rest, List.getElem?_eq_getElem h.lt, List.drop_eq_getElem_cons h.lt]
  rfl
theorem RAt.tok {w : World} {b : Nat} {ts : List Tok} {r cap i : Nat} {s : St} (h : RAt w b ts r cap i s) :
    w.cell? ⟨r, i * 4, none⟩ = some (.int .i64 (peek s).kind) ∧ w.cell? ⟨r, i * 4 + 1, none⟩ = some (.string (peek s).text) ∧ w.cell? ⟨r, i * 4 + 2, none⟩ = some (.int .i64 (peek s).line) ∧ w.cell? ⟨r, i * 4 + 3, none⟩ = some (.int .i64 (peek s).col) :=
  tok_cells h.row h.peek_at rfl
theorem RAt.below {w w' : World} {b : Nat} {ts : List Tok} {r cap i : Nat} {s : St} (h : RAt w b ts r cap i s) (hb : Below w.heap.size w w') : RAt w' b ts r cap i s :=
  ⟨h.blk.call hb, own_base (ownsRow_below h.row hb) (Nat.zero_le _), h.ne, h.rest, h.lt, h.last, h.big, h.ends⟩
theorem RAt.far {w : World} {b : Nat} {ts : List Tok} {r cap i : Nat} {s : St} (h : RAt w b ts r cap i s) (p : Addr) (hb : b ≠ p.block) (hr : r ≠ p.block) (u : Value) : RAt (w.setCell p u) b ts r cap i s :=
  ⟨h.blk.far hb u, own_keep h.row (fun g hg => by obtain rfl : r = g := Option.some.inj hg; exact Below.heap_setCell _ _ _ _ hr), h.ne, h.rest, h.lt, h.last, h.big, h.ends⟩
theorem RAt.putAll {w : World} {b : Nat} {ts : List Tok} {r cap i : Nat} {s : St} (h : RAt w b ts r cap i s) {g : Nat} (hb : b ≠ g) (hr : r ≠ g) (k : Nat) (vs : List Value) : RAt (puts w g k vs) b ts r cap i s :=
  ⟨h.blk.putsFar hb k vs, own_keep h.row (fun x hx => by obtain rfl : r = x := Option.some.inj hx; exact (puts_heap vs w k).1 r hr), h.ne, h.rest, h.lt, h.last, h.big, h.ends⟩
theorem RAt.drew {w : World} {b : Nat} {ts : List Tok} {r cap i : Nat} {s : St} (h : RAt w b ts r cap i s) : RAt w.drew b ts r cap i s := ⟨h.blk, h.row, h.ne, h.rest, h.lt, h.last, h.big, h.ends⟩
theorem RAt.drewN {w : World} {b : Nat} {ts : List Tok} {r cap i : Nat} {s : St} (h : RAt w b ts r cap i s) (n : Nat) : RAt (w.drewN n) b ts r cap i s := ⟨h.blk, h.row, h.ne, h.rest, h.lt, h.last, h.big, h.ends⟩
theorem RAt.rlt {w : World} {b : Nat} {ts : List Tok} {r cap i : Nat} {s : St} (h : RAt w b ts r cap i s) : r < w.heap.size := World.block_lt_of_cell? w _ h.tok.1
theorem RAt.size {w : World} {b : Nat} {ts : List Tok} {r cap i : Nat} {s : St} (h : RAt w b ts r cap i s) : (peek s).text.size ≤ 8192 := h.ends _ (List.mem_of_getElem? h.peek_at)
theorem RAt.next {w : World} {b : Nat} {ts : List Tok} {r cap i : Nat} {s : St} (h : RAt w b ts r cap i s) (hk : (peek s).kind ≠ 0) : i + 1 < ts.length := by
  have hlt := h.lt
  rcases Nat.lt_or_ge (i + 1) ts.length with h2 | h2
  · exact h2
  · exfalso
    have hl : ts.getLast? = some (peek s) := by
      rw [List.getLast?_eq_getElem?, show ts.length - 1 = i by omega]
      exact h.peek_at
    exact hk (h.last _ hl)
/-- a step on -/
theorem RAt.step {w : World} {b : Nat} {ts : List Tok} {r cap i : Nat} {s : St} (h : RAt w b ts r cap i s) (hk : (peek s).kind ≠ 0) : RAt (w.setCell ⟨b, 1, none⟩ (.int .i64 ((i + 1 : Nat) : Int))) b ts r cap (i + 1) (drop1 s) :=
  ⟨h.blk.set_ 1 _, own_keep h.row (fun g hg => by obtain rfl : r = g := Option.some.inj hg; exact Below.heap_setCell _ _ _ _ h.ne), h.ne, by show s.rest.tail = _; rw [h.rest, List.tail_drop], h.next hk, h.last, h.big, h.ends⟩
/-- a fault -/
theorem RAt.fault {w : World} {b : Nat} {ts : List Tok} {r cap i : Nat} {s : St} (h : RAt w b ts r cap i s) (e : Int) (h0 : s.err = 0) : RAt (((w.setCell ⟨b, 2, none⟩ (.int .i64 e)).setCell ⟨b, 3, none⟩ (.int .i64 (peek s).line)).setCell ⟨b, 4, none⟩ (.int .i64 (peek s).col)) b ts r cap i (R.wrong e s) := by
  have hf : R.wrong e s = { s with err := e, line := (peek s).line, col := (peek s).col } := by unfold R.wrong Par.fail; rw [if_pos h0]
  rw [hf]
  have hrow := fun (v : World) (u : Nat) (x : Value) (hv : v.ownsRow 0 77 4 (.slice (some ⟨r, 0, none⟩) ts.length cap) ts.length (toksCells ts)) => own_keep (w' := v.setCell ⟨b, u, none⟩ x) hv (fun g hg => by obtain rfl : r = g := Option.some.inj hg; exact Below.heap_setCell _ _ _ _ h.ne)
  exact ⟨((h.blk.set_ 2 _).set_ 3 _).set_ 4 _, hrow _ 4 _ (hrow _ 3 _ (hrow _ 2 _ h.row)), h.ne, h.rest, h.lt, h.last, h.big, h.ends⟩
set_option maxHeartbeats 2000000 in
set_option maxRecDepth 100000 in
theorem wrong_any {w : World} {b : Nat} {ts : List Tok} {r cap i : Nat} {s : St} (h : RAt w b ts r cap i s) (e : Int) :
    Calls Try.prog 38 #[.pointer (some ⟨b, 0, none⟩), .int .i64 e] w fun en w' => en = .returned (.tuple #[]) ∧ RAt w' b ts r cap i (R.wrong e s) ∧ Fr b w w' := by
  obtain ⟨t0, t1, t2, t3⟩ := h.tok
  obtain ⟨c0, c1, c2, c3, c4, f0, f1, f2, f3, f4⟩ := h.blk.c5
  have hb := h.blk.lt
  have hr := h.rlt
  have hne := h.ne
  have hlt := h.lt
  have hbig := h.big
  have b0 : (0 : Int) ≤ (i : Int) := by omega
  have b1 : (i : Int) < (ts.length : Int) := by omega
  by_cases h0 : s.err = 0
  · have hF := h.fault e h0
    rw [h0] at c2
    generalize R.wrong e s = s' at *
    generalize peek s = t at *
    clear h0
    go_enter Try.func38, Try.ntmps38
    go_wp2_with fail
    go_region
    all_goals go_wp2_with fail
    all_goals go_region
    all_goals go_wp2_with fail
    all_goals go_end0
    exact ⟨rfl, hF.drew.drew, (((((Fr.refl b w).set ⟨b, 2, none⟩ rfl (.int .i64 e)).set ⟨b, 3, none⟩ rfl (.int .i64 t.line)).set ⟨b, 4, none⟩ rfl (.int .i64 t.col)).drew).drew⟩
  · have hn : (s.err == 0) = false := beq_eq_false_iff_ne.2 h0
    have hw : R.wrong e s = s := fail_keep h0
    rw [hw]
    go_enter Try.func38, Try.ntmps38
    go_wp2_with fail
    go_end0
    exact ⟨rfl, h, Fr.refl b w⟩
set_option maxHeartbeats 2000000 in
set_option maxRecDepth 100000 in
theorem on_any {w : World} {b : Nat} {ts : List Tok} {r cap i : Nat} {s : St} (h : RAt w b ts r cap i s) (x : ByteArray) :
    Calls Try.prog 69 #[.pointer (some ⟨b, 0, none⟩), .string x] w fun en w' => en = .returned (.bool (s.err == 0 && on x s)) ∧ Below w.heap.size w w' := by
  obtain ⟨t0, t1, t2, t3⟩ := h.tok
  obtain ⟨c0, c1, c2, c3, c4, f0, f1, f2, f3, f4⟩ := h.blk.c5
  have hb := h.blk.lt
  have hr := h.rlt
  have hlt := h.lt
  have hbig := h.big
  have b0 : (0 : Int) ≤ (i : Int) := by omega
  have b1 : (i : Int) < (ts.length : Int) := by omega
  have hon : on x s = (((peek s).kind == 2 || (peek s).kind == 5) && (peek s).text == x) := rfl
  rw [hon]
  clear hon
  have kz := Blk.new w 77 #[.int .i64 0, .string ⟨#[]⟩, .int .i64 0, .int .i64 0]
  obtain ⟨z0, z1, z2, z3, _⟩ := kz.c4
  generalize peek s = t at *
  have hcase : (s.err == 0) = false ∨ ((s.err == 0) = true ∧ (t.kind == 2) = true) ∨ ((s.err == 0) = true ∧ (t.kind == 2) = false ∧ (t.kind == 5) = true) ∨ ((s.err == 0) = true ∧ (t.kind == 2) = false ∧ (t.kind == 5) = false) := by
    cases (s.err == 0) <;> cases (t.kind == 2) <;> cases (t.kind == 5) <;> simp
  rcases hcase with h0 | ⟨h0, h2⟩ | ⟨h0, h2, h5⟩ | ⟨h0, h2, h5⟩
  all_goals
    go_enter Try.func69, Try.ntmps69
    go_wp2_with fail
    go_region
    all_goals go_wp2_with fail
    all_goals go_ret
    refine ⟨?_, bl_drew (bl_alloc (bl_refl w) _)⟩
  · rw [h0]; rfl
  · rw [h0, h2, ← beq_bytes]; rfl
  · rw [h0, h2, h5, ← beq_bytes]; rfl
  · rw [h0, h2, h5]; rfl
end Go.Proofs.Ytcgkfgklggjmaaa.Par
end
section
namespace Go.Proofs.Ytcgkfgklggjmaaa.Par
set_option linter.unusedVariables false
set_option linter.unusedSimpArgs false
open Go.RowKit
set_option maxHeartbeats 2000000 in
set_option maxRecDepth 100000 in
theorem take_any {w : World} {b : Nat} {ts : List Tok} {r cap i : Nat} {s : St} (h : RAt w b ts r cap i s) (x : ByteArray) :
    Calls Try.prog 50 #[.pointer (some ⟨b, 0, none⟩), .string x] w fun en w' => en = .returned (.bool (R.take x s).1) ∧ (∃ j, RAt w' b ts r cap j (R.take x s).2) ∧ Fr b w w' := by
  have hb := h.blk.lt
  have hlt := h.lt
  have hbig := h.big
  have hon := on_any h x
  by_cases hc : s.err = 0 ∧ on x s = true
  · have e0 : R.take x s = (true, drop1 s) := by unfold R.take; rw [if_pos hc]
    have e1 : (s.err == 0 && on x s) = true := by rw [hc.1, hc.2]; rfl
    rw [e0]
    rw [e1] at hon
    have hst := fun v (hv : Below w.heap.size w v) => (h.below hv).step (on_kind hc.2)
    have hnx := h.next (on_kind hc.2)
    clear e0 e1 hc
    go_enter Try.func50, Try.ntmps50
    go_wp2_with fail
    refine hon.mono ?_
    rintro e w1 ⟨rfl, hb1⟩
    have h1 := h.below hb1
    obtain ⟨c0, c1, c2, c3, c4, f0, f1, f2, f3, f4⟩ := h1.blk.c5
    have hbl1 := h1.blk.lt
    go_wp2_with fail
    go_ret
    refine ⟨rfl, ⟨i + 1, ?_⟩, (Fr.of_below hb1).set ⟨b, 1, none⟩ rfl _⟩
    exact hst w1 hb1
  · have e0 : R.take x s = (false, s) := by unfold R.take; rw [if_neg hc]
    have e1 : (s.err == 0 && on x s) = false := by
      cases h1 : (s.err == 0) with
      | false => rfl
      | true => cases h2 : on x s with
        | false => rfl
        | true => exact absurd ⟨by simpa using h1, h2⟩ hc
    rw [e0]
    rw [e1] at hon
    clear e0 e1 hc
    go_enter Try.func50, Try.ntmps50
    go_wp2_with fail
    refine hon.mono ?_
    rintro e w1 ⟨rfl, hb1⟩
    go_wp2_with fail
    go_ret
    exact ⟨rfl, ⟨i, h.below hb1⟩, Fr.of_below hb1⟩
set_option maxHeartbeats 2000000 in
set_option maxRecDepth 100000 in
theorem want_any {w : World} {b : Nat} {ts : List Tok} {r cap i : Nat} {s : St} (h : RAt w b ts r cap i s) (x : ByteArray) :
    Calls Try.prog 31 #[.pointer (some ⟨b, 0, none⟩), .string x] w fun en w' => en = .returned (.tuple #[]) ∧ (∃ j, RAt w' b ts r cap j (R.want x s)) ∧ Fr b w w' := by
  have ht := take_any h x
  unfold R.want
  generalize R.take x s = y at *
  obtain ⟨y1, y2⟩ := y
  cases y1 with
  | true =>
    rw [if_pos rfl]
    go_enter Try.func31, Try.ntmps31
    go_wp2_with fail
    refine ht.mono ?_
    rintro e w1 ⟨rfl, hP, hF⟩
    go_wp2_with fail
    go_end0
    exact ⟨rfl, hP, hF⟩
  | false =>
    rw [if_neg (fun e => Bool.false_ne_true e)]
    go_enter Try.func31, Try.ntmps31
    go_wp2_with fail
    refine ht.mono ?_
    rintro e w1 ⟨rfl, ⟨j, hP⟩, hF⟩
    go_wp2_with fail
    refine (wrong_any hP 4).mono ?_
    rintro e w2 ⟨rfl, hP2, hF2⟩
    go_wp2_with fail
    go_end0
    exact ⟨rfl, ⟨j, hP2⟩, hF.trans hF2⟩
set_option maxHeartbeats 2000000 in
set_option maxRecDepth 100000 in
theorem token_any {w : World} {b : Nat} {ts : List Tok} {r cap i : Nat} {s : St} (h : RAt w b ts r cap i s) (k : Int) (hk0 : k ≠ 0) :
    Calls Try.prog 32 #[.pointer (some ⟨b, 0, none⟩), .int .i64 k] w fun en w' => en = .returned (.string (R.token k s).1) ∧ (∃ j, RAt w' b ts r cap j (R.token k s).2) ∧ Fr b w w' := by
  obtain ⟨t0, t1, t2, t3⟩ := h.tok
  obtain ⟨c0, c1, c2, c3, c4, f0, f1, f2, f3, f4⟩ := h.blk.c5
  have hb := h.blk.lt
  have hr := h.rlt
  have hlt := h.lt
  have hbig := h.big
  have b0 : (0 : Int) ≤ (i : Int) := by omega
  have b1 : (i : Int) < (ts.length : Int) := by omega
  have kz := Blk.new w 77 #[.int .i64 0, .string ⟨#[]⟩, .int .i64 0, .int .i64 0]
  obtain ⟨z0, z1, z2, z3, _⟩ := kz.c4
  have hbl := bl_drew (bl_alloc (bl_refl w) (.cells #[.int .i64 (peek s).kind, .string (peek s).text, .int .i64 (peek s).line, .int .i64 (peek s).col] 77))
  have h1 := h.below hbl
  have hw := wrong_any h1 4
  by_cases hc : s.err ≠ 0 ∨ (peek s).kind ≠ k
  · have e0 : R.token k s = (⟨#[]⟩, R.wrong 4 s) := by unfold R.token; rw [if_pos hc]
    rw [e0]
    have hcase : (s.err != 0) = true ∨ ((s.err != 0) = false ∧ ((peek s).kind != k) = true) := by
      by_cases h0 : s.err = 0
      · right
        rw [h0]
        exact ⟨rfl, bne_iff_ne.2 (hc.resolve_left (fun e => e h0))⟩
      · left; exact bne_iff_ne.2 h0
    generalize R.wrong 4 s = s' at *
    generalize peek s = t at *
    clear e0 hc
    rcases hcase with g0 | ⟨g0, g1⟩
    all_goals
      go_enter Try.func32, Try.ntmps32
      go_wp2_with fail
      go_region
      go_wp2_with fail
      refine hw.mono ?_
      rintro e w1 ⟨rfl, hP, hF⟩
      go_wp2_with fail
      go_ret
      exact ⟨rfl, ⟨i, hP⟩, (Fr.of_below hbl).trans hF⟩
  · have hc1 : s.err = 0 := Classical.byContradiction fun e => hc (.inl e)
    have hc2 : (peek s).kind = k := Classical.byContradiction fun e => hc (.inr e)
    have e0 : R.token k s = ((peek s).text, drop1 s) := by unfold R.token; rw [if_neg hc]
    rw [e0]
    have g0 : (s.err != 0) = false := by rw [hc1]; rfl
    have g1 : ((peek s).kind != k) = false := by rw [hc2]; simp
    have hst := ((h.step (by rw [hc2]; exact hk0)).below (bl_alloc (bl_refl _) (.cells #[.int .i64 (peek s).kind, .string (peek s).text, .int .i64 (peek s).line, .int .i64 (peek s).col] 77))).drew
    generalize peek s = t at *
    clear e0 hc hc1 hc2
    go_enter Try.func32, Try.ntmps32
    go_wp2_with fail
    go_region
    go_wp2_with fail
    go_ret
    exact ⟨rfl, ⟨i + 1, hst⟩, (((Fr.refl b w).set ⟨b, 1, none⟩ rfl _).trans (Fr.of_below (bl_alloc (bl_refl _) _))).drew⟩
end Go.Proofs.Ytcgkfgklggjmaaa.Par
end
section
namespace Go.Proofs.Ytcgkfgklggjmaaa.Par
set_option linter.unusedVariables false
set_option linter.unusedSimpArgs false
open Go.RowKit
def strF (s : ByteArray) : List Value := [.string s]
theorem strF_len (s : ByteArray) : (strF s).length = 1 := rfl
theorem strs_blk {w : World} {g n c : Nat} {cs : Array Value} {ws : List ByteArray} (h : Blk w g 9 cs) (hc : cs.toList = ws.flatMap strF) (hn : ws.length = n) (hcc : cs.size = c) (hnc : n ≤ c) (hm : c ≤ maxLen) : Lies strF 9 1 w (.slice (some ⟨g, 0, none⟩) n c) ws := by
  subst hn
  refine ⟨by rw [flat_len strF_len], .inr ⟨g, c, cs, rfl, Nat.zero_le _, h, hnc, hm, by omega, ?_⟩⟩
  rw [hc]
  apply List.take_of_length_le
  rw [flat_len strF_len]
  omega
theorem Fr.lies {α : Type} {f : α → List Value} {e : TypeId} {k b : Nat} {w w' : World} {v : Value} {l : List α} (h : Fr b w w') (hl : Lies f e k w v l) (hb : v.ownBlock ≠ some b) : Lies f e k w' v l :=
  hl.keep fun g hg => h.block g (hl.lt g hg).2 (fun e => hb (by rw [hg, e]))
theorem one_drop (w : ByteArray) (ws : List ByteArray) (i : Int) (s : St) (h : (R.take w s).1 = false) : R.one (w :: ws) i s = R.one ws (i + 1) s := by
  rw [R.one, if_neg (by rw [h]; exact Bool.false_ne_true), take_no h]
set_option maxHeartbeats 2000000 in
set_option maxRecDepth 100000 in
theorem one_any {w : World} {b : Nat} {ts : List Tok} {r cap i : Nat} {s : St} (h : RAt w b ts r cap i s) (g c : Nat) (ws : List ByteArray) (hg : g ≠ b) (hl : Lies strF 9 1 w (.slice (some ⟨g, 0, none⟩) ws.length c) ws) (h0 : ws ≠ []) :
    Calls Try.prog 34 #[.pointer (some ⟨b, 0, none⟩), .slice (some ⟨g, 0, none⟩) ws.length c] w fun en w' => en = .returned (.int .i64 (R.one ws 0 s).1) ∧ (∃ j, RAt w' b ts r cap j (R.one ws 0 s).2) ∧ Fr b w w' := by
  have hcm : ws.length ≤ c ∧ c ≤ maxLen := by
    obtain ⟨_, h2, h3, _⟩ := hl.ends
    exact ⟨h2, h3⟩
  obtain ⟨hc1, hc2⟩ := hcm
  unfold maxLen at hc2
  obtain ⟨R0, hR0⟩ : ∃ R0, R0 = R.one ws 0 s := ⟨_, rfl⟩
  rw [← hR0]
  have HR := Lib.hid (show R.one (ws.drop 0) ((0 : Nat) : Int) s = R0 from hR0.symm)
  clear hR0
  go_enter Try.func34, Try.ntmps34
  go_wp2_with fail
  go_loopw [9] (fun v9 wr => ∃ k j : Nat, k ≤ ws.length ∧ v9 = .int .i64 k ∧ RAt wr b ts r cap j s ∧ Fr b w wr ∧ Hid (R.one (ws.drop k) (k : Int) s = R0)) (fun v9 _ => ws.length - (intOf v9).toNat)
  case atStart => exact ⟨0, i, Nat.zero_le _, rfl, h, Fr.refl b w, HR⟩
  case round =>
    obtain ⟨k, j, hk, rfl, hP, hF, HK⟩ := hrel
    by_cases hlt : k < ws.length
    · have hl1 := hF.lies hl (by intro e; exact hg (Option.some.inj e))
      obtain ⟨x, hx⟩ : ∃ x, ws[k]? = some x := ⟨_, List.getElem?_eq_getElem hlt⟩
      have hcell := hl1.at strF_len hx (j := 0) (u := .string x) rfl
      rw [Nat.mul_one, Nat.add_zero] at hcell
      have hgl := World.block_lt_of_cell? wr _ hcell
      have hdr : ws.drop k = x :: ws.drop (k + 1) := by
        rw [List.drop_eq_getElem_cons hlt]
        congr 1
        rw [List.getElem?_eq_getElem hlt] at hx
        exact Option.some.inj hx
      have b0 : (0 : Int) ≤ (k : Int) := by omega
      have b1 : (k : Int) < (ws.length : Int) := by omega
      have ht := take_any hP x
      have HD := Lib.hid hdr
      have HX := Lib.hid hx
      clear hdr hx
      cases hc : (R.take x s).1 with
      | true =>
        have h2 : R0 = ((k : Int), (R.take x s).2) := by rw [← HK.out, HD.out, R.one, if_pos hc]
        rw [hc] at ht
        clear HK HR
        subst h2
        go_wp2_with (go_at_call 50; refine ht.mono ?_; rintro e w1 ⟨rfl, hP1, hF1⟩)
        go_ret
        exact ⟨rfl, hP1, hF.trans hF1⟩
      | false =>
        have h2 : R.one (ws.drop (k + 1)) (((k + 1 : Nat)) : Int) s = R0 := by
          rw [← HK.out, HD.out, one_drop _ _ _ _ hc]; rfl
        have H2 := Lib.hid h2
        rw [hc, take_no hc] at ht
        clear HK HR h2 hc
        go_wp2_with (go_at_call 50; refine ht.mono ?_; rintro e w1 ⟨rfl, hP1, hF1⟩)
        go_roundw
        case rel =>
          obtain ⟨j1, hP1⟩ := hP1
          exact ⟨k + 1, j1, by omega, by go_num, hP1, hF.trans hF1, H2⟩
        case measure => simp [intOf]; omega
    · obtain rfl : k = ws.length := by omega
      have h2 : R0 = (-1, s) := by rw [← HK.out, List.drop_length]; rfl
      clear HK HR
      subst h2
      go_wp2_with fail
      go_ret
      exact ⟨rfl, ⟨j, hP⟩, hF⟩
end Go.Proofs.Ytcgkfgklggjmaaa.Par
end
section
namespace Go.Proofs.Ytcgkfgklggjmaaa.Par
set_option linter.unusedVariables false
set_option linter.unusedSimpArgs false
open Go.RowKit
set_option maxHeartbeats 2000000 in
set_option maxRecDepth 100000 in
theorem rmode_any {w : World} {b : Nat} {ts : List Tok} {r cap i : Nat} {s : St} (h : RAt w b ts r cap i s) :
    Calls Try.prog 53 #[.pointer (some ⟨b, 0, none⟩)] w fun en w' => en = .returned (.int .i64 (R.mode s).1) ∧ (∃ j, RAt w' b ts r cap j (R.mode s).2) ∧ Fr b w w' := by
  have hbl := bl_alloc (bl_refl w) (.cells #[.string wFloor, .string wCeil, .string wHalfup, .string wHalfeven] 9)
  have hb := h.blk.lt
  have ho := one_any (h.below hbl) w.heap.size 4 [wFloor, wCeil, wHalfup, wHalfeven] (by omega) (strs_blk (Blk.new w _ _) rfl rfl rfl (Nat.le_refl _) (by decide)) (by simp)
  have hrg := one_range [wFloor, wCeil, wHalfup, wHalfeven] 0 s
  rw [← rone_eq] at hrg
  unfold R.mode
  generalize R.one [wFloor, wCeil, wHalfup, wHalfeven] 0 s = o at *
  obtain ⟨o1, o2⟩ := o
  simp only [List.length_cons, List.length_nil] at ho hrg
  by_cases hn : o1 < 0
  · have hm : max o1 0 = 0 := by omega
    simp only [if_pos hn]
    go_enter Try.func53, Try.ntmps53
    go_wp2_with fail
    refine ho.mono ?_
    rintro e w1 ⟨rfl, ⟨j, hP⟩, hF⟩
    go_wp2_with fail
    refine (wrong_any hP 4).mono ?_
    rintro e w2 ⟨rfl, hP2, hF2⟩
    go_wp2_with fail
    go_ret
    exact ⟨by rw [hm]; rfl, ⟨j, hP2⟩, ((Fr.of_below hbl).trans hF).trans hF2⟩
  · have hm : max o1 0 = o1 := by omega
    simp only [if_neg hn]
    go_enter Try.func53, Try.ntmps53
    go_wp2_with fail
    refine ho.mono ?_
    rintro e w1 ⟨rfl, ⟨j, hP⟩, hF⟩
    go_wp2_with fail
    go_ret
    exact ⟨by rw [hm]; rfl, ⟨j, hP⟩, (Fr.of_below hbl).trans hF⟩
set_option maxHeartbeats 2000000 in
set_option maxRecDepth 100000 in
theorem rday_any {w : World} {b : Nat} {ts : List Tok} {r cap i : Nat} {s : St} (h : RAt w b ts r cap i s) :
    Calls Try.prog 33 #[.pointer (some ⟨b, 0, none⟩)] w fun en w' => en = .returned (dayV (R.day dp s).1) ∧ (∃ j, RAt w' b ts r cap j (R.day dp s).2) ∧ Fr b w w' := by
  have hbl := bl_alloc (bl_refl w) (.cells #[.int .i64 0, .int .i64 0, .int .i64 0] 24)
  have hk := token_any (h.below hbl) 4 (by decide)
  have hb := h.blk.lt
  have kr := Blk.new w 24 #[.int .i64 0, .int .i64 0, .int .i64 0]
  have e1 : R.day dp s = (dp (R.token 4 s).1, (R.token 4 s).2) := rfl
  rw [e1]
  generalize R.token 4 s = x at *
  obtain ⟨x1, x2⟩ := x
  unfold dayV dp
  clear e1
  go_enter Try.func33, Try.ntmps33
  go_wp2_with fail
  refine hk.mono ?_
  rintro e w1 ⟨rfl, ⟨j, hP⟩, hF⟩
  have kr1 := hF.blk kr (by omega)
  go_wp2_with fail
  refine (rparse_any _ _).mono ?_
  rintro e w2 ⟨rfl, hb2⟩
  have kr2 := kr1.call hb2
  have hP2 := hP.below hb2
  have hlr := kr2.lt
  obtain ⟨r0, r1, r2, g0, g1, g2⟩ := kr2.c3
  have hr := h.rlt
  go_wp2_with fail
  have hF2 := ((Fr.of_below (b := b) hbl).trans hF).trans (Fr.of_below hb2)
  exact bodyPost_ret (results_cell_row rfl _ _ w.heap.size _ #[.int .i64 (pY x1), .int .i64 (pM x1), .int .i64 (pD x1)] (0, 0) _ rfl ((((kr2.set_ 0 _).set_ 1 _).set_ 2 _).alloc _) Try.underlying24 rfl (by kernel_rfl)) rfl
    ⟨rfl, ⟨j, (((hP2.far ⟨w.heap.size, 0, none⟩ (by (try dsimp only); omega) (by (try dsimp only); omega) _).far ⟨w.heap.size, 1, none⟩ (by (try dsimp only); omega) (by (try dsimp only); omega) _).far ⟨w.heap.size, 2, none⟩ (by (try dsimp only); omega) (by (try dsimp only); omega) _).below (bl_alloc (bl_refl _) _)⟩,
      (((hF2.setNew ⟨w.heap.size, 0, none⟩ (Nat.le_refl _) _).setNew ⟨w.heap.size, 1, none⟩ (Nat.le_refl _) _).setNew ⟨w.heap.size, 2, none⟩ (Nat.le_refl _) _).trans (Fr.of_below (bl_alloc (bl_refl _) _))⟩
end Go.Proofs.Ytcgkfgklggjmaaa.Par
end
section
namespace Go.Proofs.Ytcgkfgklggjmaaa.Par
set_option linter.unusedVariables false
set_option linter.unusedSimpArgs false
open Go.RowKit
def winC (x : Win) : List Value := [.bool x.has, .int .i64 x.from_.1, .int .i64 x.from_.2.1, .int .i64 x.from_.2.2, .int .i64 x.to_.1, .int .i64 x.to_.2.1, .int .i64 x.to_.2.2]
def winV (x : Win) : Value := .agg #[.bool x.has, .int .i64 x.from_.1, .int .i64 x.from_.2.1, .int .i64 x.from_.2.2, .int .i64 x.to_.1, .int .i64 x.to_.2.1, .int .i64 x.to_.2.2]
set_option maxHeartbeats 4000000 in
set_option maxRecDepth 100000 in
theorem rwindow_any {w : World} {b : Nat} {ts : List Tok} {r cap i : Nat} {s : St} (h : RAt w b ts r cap i s) :
    Calls Try.prog 36 #[.pointer (some ⟨b, 0, none⟩)] w fun en w' => en = .returned (winV (R.window dp s).1) ∧ (∃ j, RAt w' b ts r cap j (R.window dp s).2) ∧ Fr b w w' := by
  have hbl := bl_alloc (bl_refl w) (.cells #[.bool false, .int .i64 0, .int .i64 0, .int .i64 0, .int .i64 0, .int .i64 0, .int .i64 0] 52)
  have ht := take_any (h.below hbl) wFrom
  have hb := h.blk.lt
  have hr := h.rlt
  have kr := Blk.new w 52 #[.bool false, .int .i64 0, .int .i64 0, .int .i64 0, .int .i64 0, .int .i64 0, .int .i64 0]
  unfold R.window
  simp only
  generalize R.take wFrom s = x at *
  obtain ⟨x1, x2⟩ := x
  cases x1 with
  | false =>
    simp only [Bool.false_eq_true, if_false]
    go_enter Try.func36, Try.ntmps36
    go_wp2_with fail
    refine ht.mono ?_
    rintro e w1 ⟨rfl, ⟨j, hP⟩, hF⟩
    have kr1 := hF.blk kr (by omega)
    have hF1 := (Fr.of_below (b := b) hbl).trans hF
    obtain ⟨d0, d1, d2, d3, d4, d5, d6, g0, g1, g2, g3, g4, g5, g6⟩ := kr1.c7
    have hlr := kr1.lt
    go_wp2_with fail
    exact bodyPost_ret (results_cell_row rfl _ _ w.heap.size _ #[.bool false, .int .i64 0, .int .i64 0, .int .i64 0, .int .i64 0, .int .i64 0, .int .i64 0] (0, 0) _ rfl (kr1.putAll [_, _, _, _, _, _, _] 0) Try.underlying52 rfl (by kernel_rfl)) rfl
      ⟨rfl, ⟨j, hP.putAll (by omega) (by omega) 0 [_, _, _, _, _, _, _]⟩, hF1.putsNew (Nat.le_refl _) 0 [_, _, _, _, _, _, _]⟩
  | true =>
    simp only [if_true]
    have hd := fun v i (h : RAt v b ts r cap i x2) => rday_any h
    generalize R.day dp x2 = y at *
    obtain ⟨y1, y2⟩ := y
    have hw := fun v i (h : RAt v b ts r cap i y2) => want_any h wTo
    generalize R.want wTo y2 = s3 at *
    have hd4 := fun v i (h : RAt v b ts r cap i s3) => rday_any h
    generalize R.day dp s3 = z at *
    obtain ⟨z1, z2⟩ := z
    unfold dayV at hd hd4
    go_enter Try.func36, Try.ntmps36
    go_wp2_with fail
    refine ht.mono ?_
    rintro e w1 ⟨rfl, ⟨j, hP⟩, hF⟩
    have kr1 := hF.blk kr (by omega)
    have hF1 := (Fr.of_below (b := b) hbl).trans hF
    go_wp2_with fail
    refine (hd _ _ hP).mono ?_
    rintro e w2 ⟨rfl, ⟨j2, hP2⟩, hF2⟩
    have kr2 := hF2.blk kr1 (by omega)
    have hF02 := hF1.trans hF2
    have kf := Blk.new w2 24 #[.int .i64 y1.1, .int .i64 y1.2.1, .int .i64 y1.2.2]
    have hbl2 := bl_alloc (bl_refl w2) (.cells #[.int .i64 y1.1, .int .i64 y1.2.1, .int .i64 y1.2.2] 24)
    have kr3 := kr2.call hbl2
    have hP3 := hP2.below hbl2
    have hl2 := kr2.lt
    have hbb2 := hP2.blk.lt
    have hrr2 := hP2.rlt
    go_wp2_with fail
    refine (hw _ _ hP3).mono ?_
    rintro e w4 ⟨rfl, ⟨j4, hP4⟩, hF4⟩
    have kf4 := hF4.blk kf (by omega)
    have kr4 := hF4.blk kr3 (by omega)
    have hF04 := (hF02.trans (Fr.of_below hbl2)).trans hF4
    obtain ⟨f0, f1, f2, _⟩ := kf4.c3
    have hlf := kf4.lt
    obtain ⟨d0, d1, d2, d3, d4, d5, d6, g0, g1, g2, g3, g4, g5, g6⟩ := kr4.c7
    have hlr := kr4.lt
    go_wp2_with fail
    go_region_with (go_at_call 33; refine (hd4 _ _ hP4.drew).mono ?_; rintro e w5 ⟨rfl, ⟨j5, hP5⟩, hF5⟩; (have kf5 := hF5.blk kf4.drew (by omega)); (have kr5 := hF5.blk kr4.drew (by omega)); obtain ⟨f50, f51, f52, _⟩ := kf5.c3; obtain ⟨d50, d51, d52, d53, d54, d55, d56, g50, g51, g52, g53, g54, g55, g56⟩ := kr5.c7)
    all_goals
      go_wp2_with fail
      exact bodyPost_ret (results_cell_row rfl _ _ w.heap.size _ #[.bool true, .int .i64 y1.1, .int .i64 y1.2.1, .int .i64 y1.2.2, .int .i64 z1.1, .int .i64 z1.2.1, .int .i64 z1.2.2] (0, 0) _ rfl (kr5.putAll [_, _, _, _, _, _, _] 0) Try.underlying52 rfl (by kernel_rfl)) rfl
        ⟨rfl, ⟨j5, hP5.putAll (g := w.heap.size) (by omega) (by omega) 0 [_, _, _, _, _, _, _]⟩, (hF04.trans (hF5.ofDrew)).putsNew (Nat.le_refl _) 0 [_, _, _, _, _, _, _]⟩
end Go.Proofs.Ytcgkfgklggjmaaa.Par
end
section
namespace Go.Proofs.Ytcgkfgklggjmaaa.Dec
set_option linter.unusedVariables false
set_option linter.unusedSimpArgs false
/-! numbers with a point: what a text is -/
def isDig (c : UInt8) : Bool := decide (48 ≤ c.toNat ∧ c.toNat ≤ 57)
theorem dig_of {c : UInt8} (h : isDig c = true) : 48 ≤ c.toNat ∧ c.toNat ≤ 57 := of_decide_eq_true h
theorem dig_not46 : isDig 46 = false := by decide
theorem cut_spec (l : List UInt8) : (Lib.cut l [46] = (l, [], false) ∧ (46 : UInt8) ∉ l) ∨ ∃ a b, l = a ++ 46 :: b ∧ (46 : UInt8) ∉ a ∧ Lib.cut l [46] = (a, b, true) := by
  have he := Lib.index_one l 46
  unfold Lib.cut
  rw [he]
  have hge := Lib.indexByte_ge l 46
  by_cases h : Lib.indexByte l 46 = -1
  · left
    rw [h, if_neg (by omega)]
    refine ⟨rfl, fun hm => ?_⟩
    obtain ⟨k, hk, hk2⟩ := List.getElem_of_mem hm
    exact Lib.indexByte_none h k (by rw [List.getElem?_eq_getElem hk, hk2])
  · right
    obtain ⟨o, ho⟩ : ∃ o : Nat, Lib.indexByte l 46 = o := ⟨(Lib.indexByte l 46).toNat, by omega⟩
    obtain ⟨h1, h2⟩ := Lib.indexByte_some ho
    obtain ⟨hlt, h3⟩ := List.getElem?_eq_some_iff.1 h1
    refine ⟨l.take o, l.drop (o + 1), ?_, ?_, ?_⟩
    · rw [← h3, ← List.drop_eq_getElem_cons hlt, List.take_append_drop]
    · intro hm
      obtain ⟨k, hk, e⟩ := List.getElem_of_mem hm
      rw [List.length_take] at hk
      rw [List.getElem_take] at e
      exact h2 k (by omega) (by rw [List.getElem?_eq_getElem (by omega), e])
    · rw [ho, if_pos (by omega)]
      simp
def digitsB (l : List UInt8) : Bool := l.all isDig && !l.isEmpty
def leadB (l : List UInt8) : Bool := decide (1 < l.length) && (l.headD 0 == 48)
def formW (a b : List UInt8) (p : Bool) : Int := if !digitsB a || leadB a then 0 else if !p then 1 else if digitsB b then 2 else 0
def formL (l : List UInt8) : Int := formW (Lib.cut l [46]).1 (Lib.cut l [46]).2.1 (Lib.cut l [46]).2.2
theorem all_none {l : List UInt8} (h : l.all isDig = true) : (46 : UInt8) ∉ l := fun hm => by
  have := List.all_eq_true.1 h 46 hm
  simp [dig_not46] at this
/-! the reference's view: bytes one by one -/
theorem form_bad {l : List UInt8} {c : UInt8} (hm : c ∈ l) (h1 : isDig c = false) (h2 : c ≠ 46) : formL l = 0 := by
  unfold formL formW
  rcases cut_spec l with ⟨e, _⟩ | ⟨a, b, rfl, ha, e⟩
  · have : l.all isDig = false := by
      rw [Bool.eq_false_iff]; intro h
      rw [List.all_eq_true.1 h c hm] at h1; cases h1
    simp [e, digitsB, this]
  · rw [e]
    rcases List.mem_append.1 hm with h | h
    · have : a.all isDig = false := by
        rw [Bool.eq_false_iff]; intro h'
        rw [List.all_eq_true.1 h' c h] at h1; cases h1
      simp [digitsB, this]
    · rcases List.mem_cons.1 h with h | h
      · exact absurd h h2
      · have : b.all isDig = false := by
          rw [Bool.eq_false_iff]; intro h'
          rw [List.all_eq_true.1 h' c h] at h1; cases h1
        simp [digitsB, this]
/-- a second point, or one at the end -/
theorem form_two {a b : List UInt8} (h : (46 : UInt8) ∈ a ∨ b = []) : formL (a ++ 46 :: b) = 0 := by
  unfold formL formW
  rcases cut_spec (a ++ 46 :: b) with ⟨e, hn⟩ | ⟨a', b', e', ha, e⟩
  · exact absurd (by simp) hn
  · rw [e]
    have hb : digitsB b' = false := by
      rcases List.append_eq_append_iff.1 e' with ⟨c, h1, h2⟩ | ⟨c, h1, h2⟩
      · -- a' = a ++ c, 46 :: b = c ++ 46 :: b'
        cases c with
        | nil =>
          simp at h1 h2
          subst h1 h2
          rcases h with h | h
          · exact absurd h ha
          · simp [digitsB, h]
        | cons x c =>
          simp at h2
          rw [h1, ← h2.1] at ha
          exact absurd (by simp) ha
      · -- a = a' ++ c, 46 :: b' = c ++ 46 :: b
        cases c with
        | nil =>
          simp at h1 h2
          subst h1 h2
          rcases h with h | h
          · exact absurd h ha
          · simp [digitsB, h]
        | cons x c =>
          simp at h2
          rw [h2.2]
          have : (c ++ 46 :: b).all isDig = false := by
            rw [Bool.eq_false_iff]; intro h'
            exact all_none h' (by simp)
          simp only [digitsB, this, Bool.false_and]
    simp [hb]
theorem form_head {l : List UInt8} (h : l = [] ∨ isDig (l.headD 0) = false) : formL l = 0 := by
  unfold formL formW
  rcases cut_spec l with ⟨e, _⟩ | ⟨a, b, rfl, ha, e⟩
  · have : digitsB l = false := by
      cases l with
      | nil => rfl
      | cons c l =>
        rcases h with h | h
        · cases h
        · have h : isDig c = false := h
          simp [digitsB, h]
    simp [e, this]
  · have : digitsB a = false := by
      cases a with
      | nil => rfl
      | cons c a =>
        rcases h with h | h
        · simp at h
        · have h : isDig c = false := h
          simp [digitsB, h]
    simp [e, this]
theorem form_whole {l : List UInt8} (h : l.all isDig = true) (hne : l ≠ []) : formL l = if leadB l then 0 else 1 := by
  unfold formL formW
  rcases cut_spec l with ⟨e, _⟩ | ⟨a, b, e', ha, e⟩
  · have hd : digitsB l = true := by simp [digitsB, h, hne]
    rw [e]
    cases leadB l <;> simp [hd]
  · exact absurd (by rw [e']; simp) (all_none h)
theorem form_point {a b : List UInt8} (h : a.all isDig = true) (hne : a ≠ []) (hb : b.all isDig = true) (hbe : b ≠ []) : formL (a ++ 46 :: b) = if leadB a then 0 else 2 := by
  unfold formL formW
  rcases cut_spec (a ++ 46 :: b) with ⟨e, hn⟩ | ⟨a', b', e', ha, e⟩
  · exact absurd (by simp) hn
  · rw [e]
    have : a = a' ∧ b = b' := by
      rcases List.append_eq_append_iff.1 e' with ⟨c, h1, h2⟩ | ⟨c, h1, h2⟩
      · cases c with
        | nil => simp at h1 h2; exact ⟨h1.symm, h2⟩
        | cons x c => simp at h2; rw [h1, ← h2.1] at ha; exact absurd (by simp) ha
      · cases c with
        | nil => simp at h1 h2; exact ⟨h1, h2.symm⟩
        | cons x c => simp at h2; rw [h1, ← h2.1] at h; exact absurd (by simp) (all_none h)
    obtain ⟨rfl, rfl⟩ := this
    have hd : digitsB a = true := by simp [digitsB, h, hne]
    have hd' : digitsB b = true := by simp [digitsB, hb, hbe]
    cases leadB a <;> simp [hd, hd']
/-! a number of digits -/
def valN (acc : Nat) (l : List UInt8) : Nat := l.foldl (fun n c => n * 10 + (c.toNat - 48)) acc
theorem valN_ge : ∀ (l : List UInt8) (acc : Nat), acc ≤ valN acc l
  | [], acc => Nat.le_refl _
  | c :: l, acc => by
    have := valN_ge l (acc * 10 + (c.toNat - 48))
    simp only [valN, List.foldl_cons] at this ⊢
    omega
theorem valN_append (a b : List UInt8) (acc : Nat) : valN acc (a ++ b) = valN (valN acc a) b := by simp [valN]
theorem uint_val : ∀ (l : List UInt8) (acc : Nat), l.all isDig = true → acc < 18446744073709551616 → Lib.parseUint10 acc l = if valN acc l < 18446744073709551616 then .ok (valN acc l) else .range
  | [], acc, _, h => by simp [Lib.parseUint10, valN, h]
  | c :: l, acc, h, ha => by
    simp only [List.all_cons, Bool.and_eq_true] at h
    have hd := dig_of h.1
    have hg := valN_ge l (acc * 10 + (c.toNat - 48))
    have e : valN acc (c :: l) = valN (acc * 10 + (c.toNat - 48)) l := rfl
    unfold Lib.parseUint10
    rw [if_pos hd, e]
    by_cases h1 : 1844674407370955162 ≤ acc
    · rw [if_pos h1, if_neg (by omega)]
    · rw [if_neg h1]
      by_cases h2 : 18446744073709551616 ≤ acc * 10 + (c.toNat - 48)
      · rw [if_pos h2, if_neg (by omega)]
      · rw [if_neg h2, uint_val l _ h.2 (by omega)]
theorem atoi_val {l : List UInt8} (h : l.all isDig = true) (hne : l ≠ []) : Lib.atoiAll l = if valN 0 l < 9223372036854775808 then .ok (valN 0 l : Int) else .range := by
  cases l with
  | nil => exact absurd rfl hne
  | cons c r =>
    have h' := h
    simp only [List.all_cons, Bool.and_eq_true] at h
    have hd := dig_of h.1
    rw [Lib.atoiAll_plain c r (by omega) (by omega)]
    unfold Lib.signless
    unfold Lib.parseMag
    rw [if_neg (by simp), uint_val _ 0 h' (by omega)]
    by_cases h3 : valN 0 (c :: r) < 18446744073709551616
    · rw [if_pos h3]
      by_cases h4 : valN 0 (c :: r) < 9223372036854775808
      · simp only [if_pos h4, if_neg (show ¬ 9223372036854775808 ≤ valN 0 (c :: r) by omega)]
      · simp only [if_neg h4, if_pos (show 9223372036854775808 ≤ valN 0 (c :: r) by omega)]
    · rw [if_neg h3, if_neg (by omega)]
end Go.Proofs.Ytcgkfgklggjmaaa.Dec
end
section
namespace Go.Proofs.Ytcgkfgklggjmaaa.Dec
set_option linter.unusedVariables false
set_option linter.unusedSimpArgs false
/-! the text of a number, and what a text is parsed to -/
def digL (n : Nat) : Nat → List UInt8
  | 0 => []
  | k + 1 => digL (n / 10) k ++ [UInt8.ofNat (48 + n % 10)]
theorem digL_len : ∀ (k n : Nat), (digL n k).length = k
  | 0, _ => rfl
  | k + 1, n => by simp [digL, digL_len k]
theorem digL_zero : ∀ k, digL 0 k = List.replicate k 48
  | 0 => rfl
  | k + 1 => by
    rw [digL, Nat.zero_div, digL_zero k, List.replicate_succ']
    rfl
theorem pad_eq : ∀ (k n : Nat), n < 10 ^ k → 1 ≤ k → (Lib.decDigits n).length ≤ k ∧ List.replicate (k - (Lib.decDigits n).length) 48 ++ Lib.decDigits n = digL n k
  | 0, _, _, h => absurd h (by omega)
  | k + 1, n, h, _ => by
    by_cases h10 : n < 10
    · rw [Lib.decDigits_one h10, digL, Nat.div_eq_of_lt h10, digL_zero, Nat.mod_eq_of_lt h10]
      exact ⟨by simp, by simp⟩
    · have hk : 1 ≤ k := by
        cases k with
        | zero => simp at h; omega
        | succ k => omega
      obtain ⟨h1, h2⟩ := pad_eq k (n / 10) (by rw [Nat.pow_succ] at h; omega) hk
      rw [Lib.decDigits, dif_neg h10, digL, ← h2]
      refine ⟨by simp; exact h1, ?_⟩
      rw [List.length_append, List.length_singleton, show k + 1 - ((Lib.decDigits (n / 10)).length + 1) = k - (Lib.decDigits (n / 10)).length from by omega, List.append_assoc]
theorem digL_top : ∀ (k n : Nat), digL n (k + 1) = UInt8.ofNat (48 + n / 10 ^ k % 10) :: digL n k
  | 0, n => by simp [digL]
  | k + 1, n => by
    rw [digL, digL_top k (n / 10), Nat.div_div_eq_div_mul, Nat.mul_comm 10 (10 ^ k), ← Nat.pow_succ]
    rfl
theorem digL_mod : ∀ (k n : Nat), digL (n % 10 ^ k) k = digL n k
  | 0, n => rfl
  | k + 1, n => by
    have e1 : n % 10 ^ (k + 1) / 10 = (n / 10) % 10 ^ k := by
      rw [Nat.pow_succ, Nat.mul_comm, Nat.mod_mul_right_div_self]
    have e2 : n % 10 ^ (k + 1) % 10 = n % 10 := by
      rw [Nat.pow_succ, Nat.mod_mul_left_mod]
    rw [digL, digL, e1, e2, digL_mod k]
theorem dig_ofNat (d : Nat) (h : d < 10) : isDig (UInt8.ofNat (48 + d)) = true ∧ (UInt8.ofNat (48 + d)).toNat = 48 + d := by
  have e : (UInt8.ofNat (48 + d)).toNat = 48 + d := by
    rw [UInt8.toNat_ofNat']; omega
  exact ⟨by simp [isDig, e]; omega, e⟩
theorem digL_all : ∀ (k n : Nat), (digL n k).all isDig = true
  | 0, _ => rfl
  | k + 1, n => by
    have h := (dig_ofNat (n % 10) (by omega)).1
    rw [digL, List.all_append, digL_all k, List.all_cons, h]
    rfl
theorem dec_all : ∀ (n : Nat), (Lib.decDigits n).all isDig = true
  | n => by
    by_cases h : n < 10
    · rw [Lib.decDigits_one h, List.all_cons, (dig_ofNat n h).1]; rfl
    · rw [Lib.decDigits, dif_neg h]
      rw [List.all_append, dec_all (n / 10), List.all_cons, (dig_ofNat (n % 10) (by omega)).1]
      rfl
theorem dec_ne (n : Nat) : Lib.decDigits n ≠ [] := by
  rw [Lib.decDigits]; split <;> simp
theorem trim_cons (c : UInt8) (l : List UInt8) : Lib.trimRightB (c :: l) 48 = if Lib.trimRightB l 48 = [] then (if c = 48 then [] else [c]) else c :: Lib.trimRightB l 48 := by
  unfold Lib.trimRightB
  rw [List.reverse_cons, List.dropWhile_append]
  by_cases h : (l.reverse.dropWhile fun x => x == 48) = []
  · have h2 : (List.dropWhile (fun x => x == 48) l.reverse).isEmpty = true := by rw [h]; rfl
    rw [if_pos h2, if_pos (by rw [h]; rfl)]
    by_cases hc : c = 48
    · simp [hc]
    · simp [hc]
  · have h2 : (List.dropWhile (fun x => x == 48) l.reverse).isEmpty = false := by
      cases hh : List.dropWhile (fun x => x == 48) l.reverse with
      | nil => exact absurd hh h
      | cons a b => rfl
    rw [if_neg (by simp [h2]), if_neg (by simpa using h)]
    simp
def fracL (n k : Nat) : List UInt8 := Lib.trimRightB (digL n k) 48
theorem frac_zero (n : Nat) : fracL n 0 = [] := rfl
theorem ofNat48 (d : Nat) (h : d < 10) : UInt8.ofNat (48 + d) = 48 ↔ d = 0 := by
  have := (dig_ofNat d h).2
  constructor
  · intro e; rw [e] at this; have : (48 : UInt8).toNat = 48 := rfl; omega
  · rintro rfl; rfl
theorem frac_succ (n k : Nat) : fracL n (k + 1) = if fracL n k = [] ∧ n / 10 ^ k % 10 = 0 then [] else UInt8.ofNat (48 + n / 10 ^ k % 10) :: fracL n k := by
  have h48 := ofNat48 (n / 10 ^ k % 10) (by omega)
  unfold fracL
  rw [digL_top, trim_cons]
  by_cases h : Lib.trimRightB (digL n k) 48 = []
  · by_cases hd : n / 10 ^ k % 10 = 0
    · rw [if_pos h, if_pos (h48.2 hd), if_pos ⟨h, hd⟩]
    · rw [if_pos h, if_neg (fun e => hd (h48.1 e)), if_neg (fun e => hd e.2), h]
  · rw [if_neg h, if_neg (fun e => h e.1)]
theorem frac_nil : ∀ (k n : Nat), fracL n k = [] ↔ n % 10 ^ k = 0
  | 0, n => by simp [frac_zero, Nat.mod_one]
  | k + 1, n => by
    have ih := frac_nil k n
    have e : n % 10 ^ (k + 1) = n % 10 ^ k + 10 ^ k * (n / 10 ^ k % 10) := by rw [Nat.pow_succ, Nat.mod_mul]
    have hp : 0 < 10 ^ k := Nat.pow_pos (by omega)
    rw [frac_succ]
    by_cases h : fracL n k = [] ∧ n / 10 ^ k % 10 = 0
    · rw [if_pos h, e, h.2, ih.1 h.1]; simp
    · rw [if_neg h, e]
      constructor
      · intro hh; cases hh
      · intro hh
        exfalso
        apply h
        have h1 : n % 10 ^ k = 0 := by omega
        have h2 : 10 ^ k * (n / 10 ^ k % 10) = 0 := by omega
        rcases Nat.mul_eq_zero.1 h2 with h3 | h3
        · omega
        · exact ⟨ih.2 h1, h3⟩
def tailL (f : List UInt8) : List UInt8 := if f = [] then [] else 46 :: f
def textN (n k : Nat) : List UInt8 := Lib.decDigits (n / 10 ^ k) ++ tailL (fracL n k)
def textL (n places : Int) : List UInt8 := if n < 0 ∨ places < 0 ∨ 9 < places then [] else textN n.toNat places.toNat
def fillL (b : List UInt8) (k : Nat) : List UInt8 := b ++ List.replicate (k - b.length) 48
def parseW (form : Int) (a b : List UInt8) (places most : Int) : Int × Int :=
  if form = 0 ∨ places < 0 ∨ 9 < places ∨ (form = 2 ∧ places = 0) then (0, 1)
  else if places < (b.length : Int) then (0, 1)
  else if 9223372036854775808 ≤ valN 0 (a ++ fillL b places.toNat) ∨ most < (valN 0 (a ++ fillL b places.toNat) : Int) then (0, 2)
  else ((valN 0 (a ++ fillL b places.toNat) : Int), 0)
def parseL (l : List UInt8) (places most : Int) : Int × Int := parseW (formL l) (Lib.cut l [46]).1 (Lib.cut l [46]).2.1 places most
end Go.Proofs.Ytcgkfgklggjmaaa.Dec
end
