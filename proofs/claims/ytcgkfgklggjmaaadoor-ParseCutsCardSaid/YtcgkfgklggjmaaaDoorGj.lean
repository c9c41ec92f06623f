import Derived.Test.YtcgkfgklggjmaaaDoorGi
import Derived.KernelRfl
section
namespace Go.Proofs.YtcgkfgklggjmaaaDoor.Par
set_option linter.unusedVariables false
set_option linter.unusedSimpArgs false
/-! what the two written texts are -/
def aTxt1 : List UInt8 := [112, 108, 97, 110, 32, 112, 32, 99, 117, 114, 114, 101, 110, 99, 121, 32, 69, 85, 82, 59, 32, 104, 111, 114, 105, 122, 111, 110, 32, 50, 48, 50, 52, 45, 48, 49, 45, 48, 49, 32, 50, 48, 50, 52, 45, 49, 50, 45, 51, 49, 59, 32, 102, 101, 101, 32, 53, 32, 102, 114, 111, 109, 32, 50, 48, 50, 52, 45, 48, 49, 45, 48, 49, 32, 116, 111, 32, 50, 48, 50, 52, 45, 48, 49, 45, 51, 49, 59]
def aTxt2 : List UInt8 := [112, 108, 97, 110, 32, 112, 32, 99, 117, 114, 114, 101, 110, 99, 121, 32, 69, 85, 82, 59, 32, 104, 111, 114, 105, 122, 111, 110, 32, 50, 48, 50, 52, 45, 48, 49, 45, 48, 49, 32, 50, 48, 50, 52, 45, 49, 50, 45, 51, 49, 59, 32, 102, 101, 101, 32, 120, 59]
def aTok1 : List Tok := [⟨2, ⟨#[112, 108, 97, 110]⟩, 1, 1⟩, ⟨1, ⟨#[112]⟩, 1, 6⟩, ⟨2, ⟨#[99, 117, 114, 114, 101, 110, 99, 121]⟩, 1, 8⟩, ⟨1, ⟨#[69, 85, 82]⟩, 1, 17⟩, ⟨5, ⟨#[59]⟩, 1, 20⟩, ⟨2, ⟨#[104, 111, 114, 105, 122, 111, 110]⟩, 1, 22⟩, ⟨4, ⟨#[50, 48, 50, 52, 45, 48, 49, 45, 48, 49]⟩, 1, 30⟩, ⟨4, ⟨#[50, 48, 50, 52, 45, 49, 50, 45, 51, 49]⟩, 1, 41⟩, ⟨5, ⟨#[59]⟩, 1, 51⟩, ⟨2, ⟨#[102, 101, 101]⟩, 1, 53⟩, ⟨3, ⟨#[53]⟩, 1, 57⟩, ⟨2, ⟨#[102, 114, 111, 109]⟩, 1, 59⟩, ⟨4, ⟨#[50, 48, 50, 52, 45, 48, 49, 45, 48, 49]⟩, 1, 64⟩, ⟨2, ⟨#[116, 111]⟩, 1, 75⟩, ⟨4, ⟨#[50, 48, 50, 52, 45, 48, 49, 45, 51, 49]⟩, 1, 78⟩, ⟨5, ⟨#[59]⟩, 1, 88⟩, ⟨0, ⟨#[]⟩, 1, 89⟩]
def aTok2 : List Tok := [⟨2, ⟨#[112, 108, 97, 110]⟩, 1, 1⟩, ⟨1, ⟨#[112]⟩, 1, 6⟩, ⟨2, ⟨#[99, 117, 114, 114, 101, 110, 99, 121]⟩, 1, 8⟩, ⟨1, ⟨#[69, 85, 82]⟩, 1, 17⟩, ⟨5, ⟨#[59]⟩, 1, 20⟩, ⟨2, ⟨#[104, 111, 114, 105, 122, 111, 110]⟩, 1, 22⟩, ⟨4, ⟨#[50, 48, 50, 52, 45, 48, 49, 45, 48, 49]⟩, 1, 30⟩, ⟨4, ⟨#[50, 48, 50, 52, 45, 49, 50, 45, 51, 49]⟩, 1, 41⟩, ⟨5, ⟨#[59]⟩, 1, 51⟩, ⟨2, ⟨#[102, 101, 101]⟩, 1, 53⟩, ⟨1, ⟨#[120]⟩, 1, 57⟩, ⟨5, ⟨#[59]⟩, 1, 58⟩, ⟨0, ⟨#[]⟩, 1, 59⟩]
theorem a_tok1 : lexAll aTxt1 = (aTok1, 0, 0, 0) := by
  rw [lexAll, if_neg (by decide), ← lexF_eq 100 aTxt1 1 1 (by decide)]
  have : lexF 100 aTxt1 1 1 = .ok aTok1 := by kernel_rfl
  rw [this]
theorem a_tok2 : lexAll aTxt2 = (aTok2, 0, 0, 0) := by
  rw [lexAll, if_neg (by decide), ← lexF_eq 100 aTxt2 1 1 (by decide)]
  have : lexF 100 aTxt2 1 1 = .ok aTok2 := by kernel_rfl
  rw [this]
def aPlan : Plan := ⟨⟨#[112]⟩, ⟨#[69, 85, 82]⟩, (2024, 1, 1), (2024, 12, 31), [], [⟨5, ⟨true, (2024, 1, 1), (2024, 1, 31)⟩, 1, 53⟩], [], 1, 1⟩

theorem a_pl1 : P.plan dp npV aTok1 = (aPlan, (P.plan dp npV aTok1).2) := by kernel_rfl
theorem a_e1 : (P.plan dp npV aTok1).2.err = 0 := by kernel_rfl
theorem a_e2 : ((P.plan dp npV aTok2).2.err, (P.plan dp npV aTok2).2.line, (P.plan dp npV aTok2).2.col) = (4, 1, 57) := by kernel_rfl
theorem a_parse1 : RParse aTxt1 = (aPlan, 0, 0, 0) := by
  rw [PParse_ok a_tok1 a_e1]
  exact congrArg (fun x => (x, (0 : Int), (0 : Int), (0 : Int))) (by kernel_rfl)
theorem a_parse2 : RParse aTxt2 = (noPlan, 4, 1, 57) := by
  have h := a_e2
  simp only [Prod.mk.injEq] at h
  rw [PParse_bad a_tok2 (by rw [h.1]; decide), h.1, h.2.1, h.2.2]
end Go.Proofs.YtcgkfgklggjmaaaDoor.Par
end
section
namespace Go.Proofs.YtcgkfgklggjmaaaDoor.Par
set_option linter.unusedVariables false
set_option linter.unusedSimpArgs false
open Go.RowKit
theorem txt1_any (w : World) (hD : Dec.DT w) : Calls Tryd.prog 19 #[.string ⟨([112, 108, 97, 110, 32, 112, 32, 99, 117, 114, 114, 101, 110, 99, 121, 32, 69, 85, 82, 59, 32, 104, 111, 114, 105, 122, 111, 110, 32, 50, 48, 50, 52, 45, 48, 49, 45, 48, 49, 32, 50, 48, 50, 52].append [45, 49, 50, 45, 51, 49, 59, 32, 102, 101, 101, 32, 53, 32, 102, 114, 111, 109, 32, 50, 48, 50, 52, 45, 48, 49, 45, 48, 49, 32, 116, 111, 32, 50, 48, 50, 52, 45, 48, 49, 45, 51, 49, 59]).toArray⟩] w fun e w' => ∃ Am cAm g cAf Ac cAc, e = .returned (.tuple #[.agg #[.string ⟨#[112]⟩, .string ⟨#[69, 85, 82]⟩, .int .i64 2024, .int .i64 1, .int .i64 1, .int .i64 2024, .int .i64 12, .int .i64 31, .slice Am 0 cAm, .slice (some ⟨g, 0, none⟩) 1 cAf, .slice Ac 0 cAc, .int .i64 1, .int .i64 1], .agg #[.int .i64 0, .int .i64 0, .int .i64 0]]) ∧ w'.cell? ⟨g, 0, none⟩ = some (.int .i64 5) ∧ w'.cell? ⟨g, 1, none⟩ = some (.bool true) ∧ g < w'.heap.size ∧ 1 ≤ cAf ∧ Below w.heap.size w w' := by
  refine (parse7_any _ w hD (by decide)).mono ?_
  rintro e w1 ⟨v, rfl, hv, hb⟩
  have hq : RParse (⟨([112, 108, 97, 110, 32, 112, 32, 99, 117, 114, 114, 101, 110, 99, 121, 32, 69, 85, 82, 59, 32, 104, 111, 114, 105, 122, 111, 110, 32, 50, 48, 50, 52, 45, 48, 49, 45, 48, 49, 32, 50, 48, 50, 52].append [45, 49, 50, 45, 51, 49, 59, 32, 102, 101, 101, 32, 53, 32, 102, 114, 111, 109, 32, 50, 48, 50, 52, 45, 48, 49, 45, 48, 49, 32, 116, 111, 32, 50, 48, 50, 52, 45, 48, 49, 45, 51, 49, 59]).toArray⟩ : ByteArray).data.toList = (aPlan, 0, 0, 0) := (congrArg RParse (by kernel_rfl)).trans a_parse1
  rw [hq] at hv ⊢
  obtain ⟨mv, fv, cv, cs, rfl, hR⟩ := hv
  obtain ⟨Am, cAm, rfl, _, _, _⟩ := Lies.open (f := metF) (l := aPlan.mets) (Lies.of hR.mo)
  obtain ⟨Af, cAf, rfl, hc, _, hg⟩ := Lies.open (f := feeF) (l := aPlan.fees) (Lies.of hR.fo)
  obtain ⟨Ac, cAc, rfl, _, _, _⟩ := Lies.open (f := chgF) (l := cs) (Lies.of hR.co)
  obtain ⟨g, rfl, hgl⟩ := hg (by decide)
  have hcs : cs.length = 0 := by
    have h := congrArg List.length hR.eq
    rw [List.length_map] at h
    exact h
  rw [hcs]
  have c0 := Lies.at (f := feeF) (l := aPlan.fees) (Lies.of hR.fo) feeF_len (i := 0) rfl (j := 0) rfl
  have c1 := Lies.at (f := feeF) (l := aPlan.fees) (Lies.of hR.fo) feeF_len (i := 0) rfl (j := 1) rfl
  exact ⟨Am, cAm, g, cAf, Ac, cAc, rfl, c0, c1, hgl, hc, hb⟩
theorem txt2_any (w : World) (hD : Dec.DT w) : Calls Tryd.prog 19 #[.string ⟨#[112, 108, 97, 110, 32, 112, 32, 99, 117, 114, 114, 101, 110, 99, 121, 32, 69, 85, 82, 59, 32, 104, 111, 114, 105, 122, 111, 110, 32, 50, 48, 50, 52, 45, 48, 49, 45, 48, 49, 32, 50, 48, 50, 52, 45, 49, 50, 45, 51, 49, 59, 32, 102, 101, 101, 32, 120, 59]⟩] w fun e w' => ∃ Am' cAm' Af' cAf' Ac' cAc', e = .returned (.tuple #[.agg #[.string ⟨#[]⟩, .string ⟨#[]⟩, .int .i64 0, .int .i64 0, .int .i64 0, .int .i64 0, .int .i64 0, .int .i64 0, .slice Am' 0 cAm', .slice Af' 0 cAf', .slice Ac' 0 cAc', .int .i64 0, .int .i64 0], .agg #[.int .i64 4, .int .i64 1, .int .i64 57]]) ∧ Below w.heap.size w w' := by
  refine (parse7_any _ w hD (by decide)).mono ?_
  rintro e w1 ⟨v, rfl, hv, hb⟩
  have hq : RParse (⟨#[112, 108, 97, 110, 32, 112, 32, 99, 117, 114, 114, 101, 110, 99, 121, 32, 69, 85, 82, 59, 32, 104, 111, 114, 105, 122, 111, 110, 32, 50, 48, 50, 52, 45, 48, 49, 45, 48, 49, 32, 50, 48, 50, 52, 45, 49, 50, 45, 51, 49, 59, 32, 102, 101, 101, 32, 120, 59]⟩ : ByteArray).data.toList = (noPlan, 4, 1, 57) := (congrArg RParse (by kernel_rfl)).trans a_parse2
  rw [hq] at hv ⊢
  obtain ⟨mv, fv, cv, cs, rfl, hR⟩ := hv
  obtain ⟨Am, cAm, rfl, _, _, _⟩ := Lies.open (f := metF) (l := noPlan.mets) (Lies.of hR.mo)
  obtain ⟨Af, cAf, rfl, _, _, _⟩ := Lies.open (f := feeF) (l := noPlan.fees) (Lies.of hR.fo)
  obtain ⟨Ac, cAc, rfl, _, _, _⟩ := Lies.open (f := chgF) (l := cs) (Lies.of hR.co)
  have hcs : cs.length = 0 := by
    have h := congrArg List.length hR.eq
    rw [List.length_map] at h
    exact h
  rw [hcs]
  exact ⟨Am, cAm, Af, cAf, Ac, cAc, rfl, hb⟩
set_option maxHeartbeats 16000000 in
set_option maxRecDepth 100000 in
theorem alive7_any (w : World) (hD : Dec.DT w) :
    Calls Tryd.prog 18 #[] w fun e w' => e = .returned (.bool true) ∧ Below w.heap.size w w' := by
  have q0 : ∀ w, (binOp .eql 34 (.agg #[.int .i64 0, .int .i64 0, .int .i64 0]) (.agg #[.int .i64 0, .int .i64 0, .int .i64 0])).run Tryd.prog w = .ok (.bool true) w := fun _ => by kernel_rfl
  have q1 : ∀ w, (binOp .eql 34 (.agg #[.int .i64 4, .int .i64 1, .int .i64 57]) (.agg #[.int .i64 4, .int .i64 1, .int .i64 57])).run Tryd.prog w = .ok (.bool true) w := fun _ => by kernel_rfl
  go_enter Tryd.func18, Tryd.ntmps18
  go_wp2_with fail
  refine (txt1_any _ hD).mono ?_
  rintro e w1 ⟨Am, cAm, g, cAf, Ac, cAc, rfl, e0, e1, hgl, hcf, hb1⟩
  have hD1 := hD.below (bl_alloc (bl_alloc hb1 (.cells #[.string ⟨#[112]⟩, .string ⟨#[69, 85, 82]⟩, .int .i64 2024, .int .i64 1, .int .i64 1, .int .i64 2024, .int .i64 12, .int .i64 31, .slice Am 0 cAm, .slice (some ⟨g, 0, none⟩) 1 cAf, .slice Ac 0 cAc, .int .i64 1, .int .i64 1] 29)) (.cells #[.int .i64 0, .int .i64 0, .int .i64 0] 34))
  go_wp2_with fail
  refine (txt2_any _ hD1).mono ?_
  rintro e w2 ⟨Am', cAm', Af', cAf', Ac', cAc', rfl, hb2⟩
  have kp := ((Blk.new w1 29 #[.string ⟨#[112]⟩, .string ⟨#[69, 85, 82]⟩, .int .i64 2024, .int .i64 1, .int .i64 1, .int .i64 2024, .int .i64 12, .int .i64 31, .slice Am 0 cAm, .slice (some ⟨g, 0, none⟩) 1 cAf, .slice Ac 0 cAc, .int .i64 1, .int .i64 1]).alloc (.cells #[.int .i64 0, .int .i64 0, .int .i64 0] 34)).call hb2
  have kf := (Blk.new (w1.alloc (.cells #[.string ⟨#[112]⟩, .string ⟨#[69, 85, 82]⟩, .int .i64 2024, .int .i64 1, .int .i64 1, .int .i64 2024, .int .i64 12, .int .i64 31, .slice Am 0 cAm, .slice (some ⟨g, 0, none⟩) 1 cAf, .slice Ac 0 cAc, .int .i64 1, .int .i64 1] 29)) 34 #[.int .i64 0, .int .i64 0, .int .i64 0]).call hb2
  rw [World.size_alloc] at kf
  have hbb := bl_call (bl_alloc (bl_alloc hb1 (.cells #[.string ⟨#[112]⟩, .string ⟨#[69, 85, 82]⟩, .int .i64 2024, .int .i64 1, .int .i64 1, .int .i64 2024, .int .i64 12, .int .i64 31, .slice Am 0 cAm, .slice (some ⟨g, 0, none⟩) 1 cAf, .slice Ac 0 cAc, .int .i64 1, .int .i64 1] 29)) (.cells #[.int .i64 0, .int .i64 0, .int .i64 0] 34)) hb2
  obtain ⟨a0, a1, a2, _, _, _⟩ := kf.c3
  obtain ⟨x0, x1, x2, x3, x4, x5, x6, x7, x8, x9, x10, x11, x12, _, _, _, _, _, _, _, _, _, _, _, _, _⟩ := kp.c13
  have hlt2 := kf.lt
  have hlt1 := kp.lt
  have hgl2 : g < w2.heap.size := by
    have := hb2.size; rw [World.size_alloc, World.size_alloc] at this; omega
  have ck : ∀ {p : Addr} {x : Value}, w1.cell? p = some x → w2.cell? p = some x := fun {p x} h => by
    have hl := World.block_lt_of_cell? _ _ h
    refine (hb2.cell (by rw [World.size_alloc, World.size_alloc]; omega)).trans ?_
    rw [World.cell?_alloc_lt _ _ _ (by rw [World.size_alloc]; omega), World.cell?_alloc_lt _ _ _ hl]
    exact h
  have f0 := ck e0
  have f1 := ck e1
  go_wp2_with fail
  go_ret
  exact ⟨rfl, bl_alloc (bl_alloc hbb _) _⟩
end Go.Proofs.YtcgkfgklggjmaaaDoor.Par
end
section
namespace Go.Proofs.YtcgkfgklggjmaaaDoor.Par
set_option linter.unusedVariables false
set_option linter.unusedSimpArgs false
open Go.RowKit
def intF (n : Int) : List Value := [.int .i64 n]
theorem intF_len (n : Int) : (intF n).length = 1 := rfl
theorem int_flat (l : List Int) : l.flatMap intF = l.map (Value.int .i64) := by
  induction l with
  | nil => rfl
  | cons a l ih => simp [intF, ih]
theorem beq_ne_bytes {a b : ByteArray} (h : a ≠ b) : (a == b) = false := by
  cases hh : (a == b) with
  | false => rfl
  | true =>
    exfalso
    apply h
    cases a with
    | mk d =>
      cases b with
      | mk e =>
        have he : (d == e) = true := hh
        rw [beq_iff_eq.1 he]
theorem take_next {α : Type} {l l' : List α} {k : Nat} (hl : l.length = l'.length) (hk : k < l.length) (h : l.take k = l'.take k) (e : l[k]? = l'[k]?) : l.take (k + 1) = l'.take (k + 1) := by
  rw [List.take_add_one, List.take_add_one, h, e]
set_option maxHeartbeats 8000000 in
set_option maxRecDepth 100000 in
theorem texts_any {l l' : List ByteArray} {v v' : Value} (w : World) (h : Lies strF 9 1 w v l) (h' : Lies strF 9 1 w v' l') : Calls Tryd.prog 54 #[v, v'] w fun e w' => e = .returned (.bool (decide (l = l'))) ∧ Below w.heap.size w w' := by
  obtain ⟨A, c, rfl, h1, h2, h3⟩ := h.open
  obtain ⟨A', c', rfl, h1', h2', h3'⟩ := h'.open
  have hm : l.length ≤ 9223372036854775807 := by unfold maxLen at h2; omega
  have hm' : l'.length ≤ 9223372036854775807 := by unfold maxLen at h2'; omega
  have hH := Lib.hid h
  have hH' := Lib.hid h'
  clear h h'
  obtain ⟨D, hD⟩ : ∃ D, D = decide (l = l') := ⟨_, rfl⟩
  rw [← hD]
  have HD := Lib.hid hD
  clear hD
  by_cases hl : l.length = l'.length
  · have e0 : ((l.length : Int) != (l'.length : Int)) = false := by rw [hl]; simp
    have hlh := Lib.hid hl
    clear hl
    go_enter Tryd.func54, Tryd.ntmps54
    go_wp2_with fail
    go_loopg [13] l.length (fun n_ vi_ wr => ∃ k : Nat, k ≤ l.length ∧ vi_ = .int .i64 k ∧ n_ = l.length - k ∧ Below w.heap.size w wr ∧ Hid (l.take k = l'.take k))
    case atStart => exact ⟨0, Nat.zero_le _, rfl, rfl, bl_refl w, Lib.hid rfl⟩
    case round =>
      obtain ⟨k, hk, rfl, rfl, hb, hp⟩ := hrel
      by_cases hlt : k < l.length
      · have hlt' : k < l'.length := by have := hlh.out; omega
        obtain ⟨a, hi⟩ : ∃ a, l[k]? = some a := ⟨_, List.getElem?_eq_getElem hlt⟩
        obtain ⟨a', hi'⟩ : ∃ a, l'[k]? = some a := ⟨_, List.getElem?_eq_getElem hlt'⟩
        obtain ⟨g, rfl, hg⟩ := h3 (by omega)
        obtain ⟨g', rfl, hg'⟩ := h3' (by omega)
        have y := ((hH.out.below hb).at strF_len hi (j := 0) rfl)
        have y' := ((hH'.out.below hb).at strF_len hi' (j := 0) rfl)
        simp only [Nat.mul_one, Nat.add_zero] at y y'
        have b0 : (0 : Int) ≤ (k : Int) := by omega
        have b1 : (k : Int) < (l.length : Int) := by omega
        have b2 : (k : Int) < (l'.length : Int) := by omega
        by_cases hab : a = a'
        · subst hab
          have hn := Lib.hid (take_next hlh.out hlt hp.out (hi.trans hi'.symm))
          have ea : (a.toList == a.toList) = true := by rw [beq_bytes]; exact beq_refl_bytes a
          clear hi hi' hp e0
          go_wp2_with fail
          go_quiet (fail)
          go_wp2_with fail
          go_roundg (l.length - (k + 1))
          case rel => exact ⟨k + 1, by omega, by go_num, rfl, bl_drewN hb _, hn⟩
          case measure => omega
        · have ea : (a.toList == a'.toList) = false := by rw [beq_bytes]; exact beq_ne_bytes hab
          have hne : decide (l = l') = false := decide_eq_false (fun e => hab (by rw [e, hi'] at hi; exact (Option.some.inj hi).symm))
          have hneh := Lib.hid hne
          clear hi hi' hp e0 hab hne
          go_wp2_with fail
          go_quiet (fail)
          go_wp2_with fail
          go_ret
          exact ⟨ret_bool (a := false) (by rw [HD.out, hneh.out]), bl_drewN hb _⟩
      · obtain rfl : k = l.length := by omega
        have hee : l = l' := by
          have h1 := hp.out
          rw [List.take_length, hlh.out, List.take_length] at h1
          exact h1
        have hed : decide (l = l') = true := decide_eq_true hee
        have heh := Lib.hid hed
        clear hed hee hp e0
        go_wp2_with fail
        go_ret
        exact ⟨ret_bool (a := true) (by rw [HD.out, heh.out]), hb⟩
  · have e0 : ((l.length : Int) != (l'.length : Int)) = true := bne_iff_ne.2 (by omega)
    have hne : decide (l = l') = false := decide_eq_false (fun e => hl (by rw [e]))
    have hneh := Lib.hid hne
    clear hne hl
    go_enter Tryd.func54, Tryd.ntmps54
    go_wp2_with fail
    go_ret
    exact ⟨ret_bool (a := false) (by rw [HD.out, hneh.out]), bl_refl w⟩
end Go.Proofs.YtcgkfgklggjmaaaDoor.Par
end
section
namespace Go.Proofs.YtcgkfgklggjmaaaDoor.Par
set_option linter.unusedVariables false
set_option linter.unusedSimpArgs false
open Go.RowKit
theorem cut_text (b x : ByteArray) : (b ++ x ++ ⟨#[32]⟩).data.toList = b.data.toList ++ (x.data.toList ++ [32]) := by simp
theorem cut_step {ts : List Tok} {k : Nat} {b : ByteArray} (hk : k < ts.length) (hb : b.data.toList = cutL (ts.take k)) : (b ++ ts[k].text ++ ⟨#[32]⟩).data.toList = cutL (ts.take (k + 1)) := by
  rw [cut_text, hb, List.take_succ_eq_append_getElem hk, cutL_snoc]
theorem scan_step {ts : List Tok} {k : Nat} {σ : Sc} (hk : k < ts.length) (hs : scan ⟨0, 0, false⟩ (ts.take k) = σ) : scan ⟨0, 0, false⟩ (ts.take (k + 1)) = stp σ ts[k] := by
  rw [List.take_succ_eq_append_getElem hk, scan_app, hs]; rfl
theorem stp_open (d en : Int) (wh : Bool) (x : Tok) (h : x.text = ⟨#[123]⟩) : stp ⟨d, en, wh⟩ x = ⟨d + 1, en, false⟩ := by
  have h0 : x.text = wOpen := h
  have h1 := open_ne
  simp [stp, h0, h1.1, h1.2.1]
theorem stp_close0 (d en : Int) (wh : Bool) (x : Tok) (h : x.text = ⟨#[125]⟩) (hd : d - 1 = 0) : stp ⟨d, en, wh⟩ x = ⟨d - 1, en + 1, true⟩ := by
  have h0 : x.text = wClose := h
  have h1 := open_ne
  simp [stp, h0, h1.1.symm, hd]
theorem stp_close1 (d en : Int) (wh : Bool) (x : Tok) (h : x.text = ⟨#[125]⟩) (hd : d - 1 ≠ 0) : stp ⟨d, en, wh⟩ x = ⟨d - 1, en, false⟩ := by
  have h0 : x.text = wClose := h
  have h1 := open_ne
  simp [stp, h0, h1.1.symm, hd]
theorem stp_semi0 (d en : Int) (wh : Bool) (x : Tok) (h : x.text = ⟨#[59]⟩) (hd : d = 0) : stp ⟨d, en, wh⟩ x = ⟨d, en + 1, true⟩ := by
  have h0 : x.text = wSemi := h
  have h1 := open_ne
  simp [stp, h0, h1.2.1.symm, h1.2.2, hd]
theorem stp_semi1 (d en : Int) (wh : Bool) (x : Tok) (h : x.text = ⟨#[59]⟩) (hd : d ≠ 0) : stp ⟨d, en, wh⟩ x = ⟨d, en, false⟩ := by
  have h0 : x.text = wSemi := h
  have h1 := open_ne
  simp [stp, h0, h1.2.1.symm, h1.2.2, hd]
theorem stp_else (d en : Int) (wh : Bool) (x : Tok) (h1 : x.text ≠ ⟨#[123]⟩) (h2 : x.text ≠ ⟨#[125]⟩) (h3 : x.text ≠ ⟨#[59]⟩) : stp ⟨d, en, wh⟩ x = ⟨d, en, false⟩ := stp_flat _ ⟨h3, h1, h2⟩
/-- what is known while the tokens are gone through -/
structure CW (w wr : World) (Q1 : Nat) (g cap n k : Nat) (ts : List Tok) (b : ByteArray) (d en : Int) (wh : Bool) : Prop where
  text : b.data.toList = cutL (ts.take k)
  scan : scan ⟨0, 0, false⟩ (ts.take k) = ⟨d, en, wh⟩
  lb : Below w.heap.size w wr
  dt : Dec.DT wr
  row : wr.ownsRow Q1 61 4 (.slice (some ⟨g, 0, none⟩) ts.length cap) ts.length (toksCells ts)
set_option maxHeartbeats 16000000 in
set_option maxRecDepth 100000 in
theorem cuts_any (s : ByteArray) (n : Int) (w : World) (hD : Dec.DT w) (hs : s.size ≤ 9223372036854775807) :
    Calls Tryd.prog 8 #[.string s, .int .i64 n] w fun e w' => e = .returned (.bool true) ∧ Below w.heap.size w w' := by
  by_cases hbig : 4096 < s.size
  · go_enter Tryd.func8, Tryd.ntmps8
    go_wp2_with (go_at_call 18; refine (alive7_any _ hD).mono ?_; rintro e w1 ⟨rfl, hb1⟩)
    go_ret
    exact ⟨rfl, hb1⟩
  have hz1 : (s.size : Int) ≤ 4096 := by omega
  have hP1 := fun W (h : Dec.DT W) => parse7_any s W h hs
  have hZ1 := RParse_zero (l := s.data.toList)
  have hC := fun (us : List Tok) (e : Tok) (a b : Int) h0 (hall : lexAll s.data.toList = (us ++ [e], 0, a, b)) => cuts_plain (s := s.data.toList) (by simp; omega) h0 hall
  unfold ParseOutP at hP1
  obtain ⟨p, er, li, co, hpq⟩ : ∃ p er li co, RParse s.data.toList = (p, er, li, co) := ⟨_, _, _, _, rfl⟩
  rw [hpq] at hP1 hZ1 hC
  clear hpq
  replace hZ1 := Lib.hid hZ1
  replace hC := Lib.hid hC
  replace hP1 := Lib.hid hP1
  go_enter Tryd.func8, Tryd.ntmps8
  go_wp2_with fail
  refine (alive7_any _ hD).mono ?_
  rintro e w1 ⟨rfl, hb1⟩
  have hD1 := hD.below hb1
  go_wp2_with fail
  refine (hP1.out _ hD1).mono ?_
  rintro e w2 ⟨v, rfl, hv, hb2⟩
  obtain ⟨mv, fv, cv, cs, rfl, hR1⟩ := hv
  obtain ⟨Am, cAm, rfl, _, _, _⟩ := Lies.open (f := metF) (l := p.mets) (Lies.of hR1.mo)
  obtain ⟨Af, cAf, rfl, _, _, _⟩ := Lies.open (f := feeF) (l := p.fees) (Lies.of hR1.fo)
  obtain ⟨Ac, cAc, rfl, _, _, _⟩ := Lies.open (f := chgF) (l := cs) (Lies.of hR1.co)
  have bb2 := bl_call hb1 hb2
  have hD2 := hD1.below hb2
  clear hR1
  unfold planC
  have f2 := Blk.new (w2.alloc (.cells #[.string p.name, .string p.cur, .int .i64 p.from_.1, .int .i64 p.from_.2.1, .int .i64 p.from_.2.2, .int .i64 p.to_.1, .int .i64 p.to_.2.1, .int .i64 p.to_.2.2, .slice Am p.mets.length cAm, .slice Af p.fees.length cAf, .slice Ac cs.length cAc, .int .i64 p.line, .int .i64 p.col] 29)) 34 #[.int .i64 er, .int .i64 li, .int .i64 co]
  rw [World.size_alloc] at f2
  have b2 := bl_alloc (bl_alloc bb2 (.cells #[.string p.name, .string p.cur, .int .i64 p.from_.1, .int .i64 p.from_.2.1, .int .i64 p.from_.2.2, .int .i64 p.to_.1, .int .i64 p.to_.2.1, .int .i64 p.to_.2.2, .slice Am p.mets.length cAm, .slice Af p.fees.length cAf, .slice Ac cs.length cAc, .int .i64 p.line, .int .i64 p.col] 29)) (.cells #[.int .i64 er, .int .i64 li, .int .i64 co] 34)
  have hD3 := hD2.below (bl_alloc (bl_alloc (bl_refl w2) (.cells #[.string p.name, .string p.cur, .int .i64 p.from_.1, .int .i64 p.from_.2.1, .int .i64 p.from_.2.2, .int .i64 p.to_.1, .int .i64 p.to_.2.1, .int .i64 p.to_.2.2, .slice Am p.mets.length cAm, .slice Af p.fees.length cAf, .slice Ac cs.length cAc, .int .i64 p.line, .int .i64 p.col] 29)) (.cells #[.int .i64 er, .int .i64 li, .int .i64 co] 34))
  go_upto_region 6 with fail
  generalize (w2.alloc (.cells #[.string p.name, .string p.cur, .int .i64 p.from_.1, .int .i64 p.from_.2.1, .int .i64 p.from_.2.2, .int .i64 p.to_.1, .int .i64 p.to_.2.1, .int .i64 p.to_.2.2, .slice Am p.mets.length cAm, .slice Af p.fees.length cAf, .slice Ac cs.length cAc, .int .i64 p.line, .int .i64 p.col] 29)).alloc (.cells #[.int .i64 er, .int .i64 li, .int .i64 co] 34) = u2 at *
  obtain ⟨z0, z1, z2, _, _, _⟩ := f2.c3
  by_cases her : er = 0
  · obtain ⟨hli, hco, ts, a0, b0, hall, hpl, hpe⟩ := hZ1.out her
    have hli : li = 0 := hli
    have hco : co = 0 := hco
    subst her hli hco
    have q0 := flt_zero
    obtain ⟨hne, hlast, hlen⟩ := all_shape hall
    obtain ⟨us, e, rfl⟩ : ∃ us e, ts = us ++ [e] := ⟨ts.dropLast, ts.getLast hne, (List.dropLast_concat_getLast hne).symm⟩
    have hcut := hC.out us e a0 b0 rfl hall
    replace hcut := Lib.hid hcut
    clear hpl hpe hZ1 hC hlast hne
    have hsz := all_sizes hall
    replace hsz := Lib.hid hsz
    have hul : us.length + 1 ≤ 8193 := by rw [List.length_append, List.length_singleton] at hlen; exact hlen
    clear hlen
    go_wp2_with fail
    refine (rlex_any s _ hs).mono ?_
    rintro e' w4 ⟨v, ts', er', l', c', rfl, hown, hb4, hall'⟩
    have hh := hall.symm.trans hall'
    simp only [Prod.mk.injEq] at hh
    obtain ⟨rfl, rfl, rfl, rfl⟩ := hh
    clear hall' hall
    obtain ⟨g, cap, rfl, _, _⟩ := hown.form (by rw [List.length_append, List.length_singleton]; omega)
    have hcap := own_capP hown
    unfold maxLen at hcap
    have hcl : (us ++ [e]).length ≤ cap := by
      obtain ⟨A', c', he, hc, _⟩ := own_slice hown
      injection he with _ _ he
      omega
    have hlu : (us ++ [e]).length = us.length + 1 := by rw [List.length_append, List.length_singleton]
    unfold lexRR
    generalize hts : us ++ [e] = ts at *
    have bb4 := bl_call b2 hb4
    have hD4 := hD3.below hb4
    have hull : (ts.length : Int) ≤ 8193 := by omega
    by_cases hn : n < 0
    · go_wp2_with fail
      go_ret
      exact ⟨rfl, bb4⟩
    by_cases hnb : (ts.length : Int) ≤ n
    · go_wp2_with fail
      go_ret
      exact ⟨rfl, bb4⟩
    obtain ⟨m, rfl⟩ : ∃ m : Nat, n = m := ⟨n.toNat, by omega⟩
    have hm : m < ts.length := by omega
    have hmi : (m : Int) < (ts.length : Int) := by omega
    have hmc : (m : Int) ≤ (cap : Int) := by omega
    have htk : us.take m = ts.take m := by rw [← hts, List.take_append_of_le_length (by omega)]
    clear hts
    have hst : CW w w4 u2.heap.size g cap m 0 ts ⟨#[]⟩ 0 0 false := ⟨rfl, rfl, bb4, hD4, hown⟩
    go_wp2_with fail
    generalize u2.heap.size = Q1 at *
    go_loopw [11, 12, 13, 14, 51] (fun v11 v12 v13 v14 v51 wr => ∃ (k : Nat) (b : ByteArray) (d en : Int) (wh : Bool), k ≤ m ∧ v51 = .int .i64 k ∧ v11 = .string b ∧ v12 = .int .i64 d ∧ v13 = .int .i64 en ∧ v14 = .bool wh ∧ b.size ≤ k * 9000 ∧ -k ≤ d ∧ d ≤ k ∧ 0 ≤ en ∧ en ≤ k ∧ CW w wr Q1 g cap m k ts b d en wh) (fun _ _ _ _ v51 _ => m - (intOf v51).toNat)
    case atStart => exact ⟨0, ⟨#[]⟩, 0, 0, false, Nat.zero_le _, rfl, rfl, rfl, rfl, rfl, Nat.zero_le _, by decide, by decide, by decide, by decide, hst⟩
    case round =>
      obtain ⟨k, b, d, en, wh, hk, rfl, rfl, rfl, rfl, rfl, hbs, hd1, hd2, he1, he2, hC⟩ := hrel
      clear hst hown bb4 hD4
      by_cases hlt : k < m
      · have hkt : k < ts.length := by omega
        have ht : ts[k]? = some ts[k] := List.getElem?_eq_getElem hkt
        obtain ⟨x0, x1, x2, x3⟩ := tok_cells hC.row ht rfl
        have htz := hsz.out ts[k] (List.getElem_mem hkt)
        have HS := Lib.hid (cut_step hkt hC.text)
        have HT := Lib.hid (scan_step hkt hC.scan)
        have hlx := (hC.row.lt g rfl).2
        generalize ts[k] = t at *
        obtain ⟨tk, tx, tl, tc⟩ := t
        simp only at x0 x1 x2 x3 htz
        have gg0 : (0 : Int) ≤ (k : Int) := by omega
        have gg1 : (k : Int) < (m : Int) := by omega
        have gg2 : (k : Int) < (cap : Int) := by omega
        clear ht
        replace hC := Lib.hid hC
        by_cases hx1 : tx = ⟨#[123]⟩
        · subst hx1
          have hcl := HT.out.trans (stp_open d en wh _ rfl)
          go_wp2_with fail
          go_roundw
          case rel => exact ⟨k + 1, _, d + 1, en, false, by omega, by go_num, rfl, by go_num, rfl, rfl, by simp only [ByteArray.size_append]; show b.size + 1 + 1 ≤ _; omega, by omega, by omega, by omega, by omega, ⟨HS.out, hcl, bl_alloc hC.out.lb _, hC.out.dt.below (bl_alloc (bl_refl _) _), hC.out.row.alloc _⟩⟩
          case measure => simp [intOf]; omega
        by_cases hx2 : tx = ⟨#[125]⟩
        · subst hx2
          by_cases hd0 : d = 1
          · subst hd0
            have hcl := HT.out.trans (stp_close0 1 en wh _ rfl rfl)
            go_wp2_with fail
            go_roundw
            case rel => exact ⟨k + 1, _, 0, en + 1, true, by omega, by go_num, rfl, by first | rfl | go_num, by first | rfl | go_num, rfl, by simp only [ByteArray.size_append]; show b.size + 1 + 1 ≤ _; omega, by omega, by omega, by omega, by omega, ⟨HS.out, hcl, bl_alloc hC.out.lb _, hC.out.dt.below (bl_alloc (bl_refl _) _), hC.out.row.alloc _⟩⟩
            case measure => simp [intOf]; omega
          · have hcl := HT.out.trans (stp_close1 d en wh _ rfl (by omega))
            have hdz : (d - 1 == 0) = false := by rw [beq_eq_false_iff_ne]; omega
            go_wp2_with fail
            go_roundw
            case rel => exact ⟨k + 1, _, d - 1, en, false, by omega, by go_num, rfl, by first | rfl | go_num, by first | rfl | go_num, rfl, by simp only [ByteArray.size_append]; show b.size + 1 + 1 ≤ _; omega, by omega, by omega, by omega, by omega, ⟨HS.out, hcl, bl_alloc hC.out.lb _, hC.out.dt.below (bl_alloc (bl_refl _) _), hC.out.row.alloc _⟩⟩
            case measure => simp [intOf]; omega
        by_cases hx3 : tx = ⟨#[59]⟩
        · subst hx3
          by_cases hd0 : d = 0
          · subst hd0
            have hcl := HT.out.trans (stp_semi0 0 en wh _ rfl rfl)
            go_wp2_with fail
            go_roundw
            case rel => exact ⟨k + 1, _, 0, en + 1, true, by omega, by go_num, rfl, by first | rfl | go_num, by first | rfl | go_num, rfl, by simp only [ByteArray.size_append]; show b.size + 1 + 1 ≤ _; omega, by omega, by omega, by omega, by omega, ⟨HS.out, hcl, bl_alloc hC.out.lb _, hC.out.dt.below (bl_alloc (bl_refl _) _), hC.out.row.alloc _⟩⟩
            case measure => simp [intOf]; omega
          · have hcl := HT.out.trans (stp_semi1 d en wh _ rfl hd0)
            have hdz : (d == 0) = false := by rw [beq_eq_false_iff_ne]; exact hd0
            have hq80 : ∀ W, (binOp .eql 3 (.int .i64 d) (.int .i64 0)).run Tryd.prog W = .ok (.bool false) W := fun W => by
              have h : (binOp .eql 3 (.int .i64 d) (.int .i64 0)).run Tryd.prog W = .ok (.bool (d == 0)) W := by go_simp
              rw [h, hdz]
            go_wp2_with fail
            go_roundw
            case rel => exact ⟨k + 1, _, d, en, false, by omega, by go_num, rfl, by first | rfl | go_num, by first | rfl | go_num, rfl, by simp only [ByteArray.size_append]; show b.size + 1 + 1 ≤ _; omega, by omega, by omega, by omega, by omega, ⟨HS.out, hcl, bl_alloc hC.out.lb _, hC.out.dt.below (bl_alloc (bl_refl _) _), hC.out.row.alloc _⟩⟩
            case measure => simp [intOf]; omega
        · have hcl := HT.out.trans (stp_else d en wh _ hx1 hx2 hx3)
          have e1 : (tx.toList == [123]) = false := by rw [ByteArray.toList_eq]; exact beq_eq_false_iff_ne.2 (fun h => hx1 (by apply ByteArray.ext; exact Array.toList_inj.mp h))
          have e2 : (tx.toList == [125]) = false := by rw [ByteArray.toList_eq]; exact beq_eq_false_iff_ne.2 (fun h => hx2 (by apply ByteArray.ext; exact Array.toList_inj.mp h))
          have e3 : (tx.toList == [59]) = false := by rw [ByteArray.toList_eq]; exact beq_eq_false_iff_ne.2 (fun h => hx3 (by apply ByteArray.ext; exact Array.toList_inj.mp h))
          go_wp2_with fail
          go_roundw
          case rel => exact ⟨k + 1, _, d, en, false, by omega, by go_num, rfl, by first | rfl | go_num, by first | rfl | go_num, rfl, by simp only [ByteArray.size_append]; show b.size + tx.size + 1 ≤ _; omega, by omega, by omega, by omega, by omega, ⟨HS.out, hcl, bl_alloc hC.out.lb _, hC.out.dt.below (bl_alloc (bl_refl _) _), hC.out.row.alloc _⟩⟩
          case measure => simp [intOf]; omega
      · obtain rfl : k = m := by omega
        have hw := hcut.out k (by omega)
        rw [htk, ← hC.text] at hw
        obtain ⟨hw1, hw2⟩ := hw
        have hbz : b.size ≤ 8192 := by simpa using hw1
        have hbb : b.size ≤ 9223372036854775807 := by omega
        have hP2 := parse7_any b _ hC.dt hbb
        unfold ParseOutP at hP2
        obtain ⟨q, fe, fl, fc, hpq⟩ : ∃ p er li co, RParse b.data.toList = (p, er, li, co) := ⟨_, _, _, _, rfl⟩
        rw [hpq] at hP2 hw2
        clear hpq
        have hbl : b.data.toList.length = b.size := by simp
        rw [hbl] at hw2
        have hbzi : (b.size : Int) ≤ 8192 := by omega
        have hlb := hC.lb
        by_cases hwc : wh = true ∧ 2 ≤ en
        · obtain ⟨hwh, hen⟩ := hwc
          have hwq : wholeC (ts.take k) := by unfold wholeC; rw [hC.scan]; exact ⟨hwh, hen⟩
          rw [if_pos hwq] at hw2
          simp only [Prod.mk.injEq] at hw2
          obtain ⟨rfl, rfl, rfl⟩ := hw2
          subst hwh
          have hen' : (2 : Int) ≤ en := hen
          have qq := flt_same 0 0 0
          go_wp2_with fail
          refine hP2.mono ?_
          rintro e w6 ⟨v, rfl, hv, hb6⟩
          obtain ⟨mv, fv, cv, ds, rfl, hR2⟩ := hv
          obtain ⟨Bm, cBm, rfl, _, _, _⟩ := Lies.open (f := metF) (l := q.mets) (Lies.of hR2.mo)
          obtain ⟨Bf, cBf, rfl, _, _, _⟩ := Lies.open (f := feeF) (l := q.fees) (Lies.of hR2.fo)
          obtain ⟨Bc, cBc, rfl, _, _, _⟩ := Lies.open (f := chgF) (l := ds) (Lies.of hR2.co)
          have bb6 := bl_call hlb hb6
          clear hR2
          unfold planC
          have f6 := Blk.new (w6.alloc (.cells #[.string q.name, .string q.cur, .int .i64 q.from_.1, .int .i64 q.from_.2.1, .int .i64 q.from_.2.2, .int .i64 q.to_.1, .int .i64 q.to_.2.1, .int .i64 q.to_.2.2, .slice Bm q.mets.length cBm, .slice Bf q.fees.length cBf, .slice Bc ds.length cBc, .int .i64 q.line, .int .i64 q.col] 29)) 34 #[.int .i64 0, .int .i64 0, .int .i64 0]
          rw [World.size_alloc] at f6
          have b6 := bl_alloc (bl_alloc bb6 (.cells #[.string q.name, .string q.cur, .int .i64 q.from_.1, .int .i64 q.from_.2.1, .int .i64 q.from_.2.2, .int .i64 q.to_.1, .int .i64 q.to_.2.1, .int .i64 q.to_.2.2, .slice Bm q.mets.length cBm, .slice Bf q.fees.length cBf, .slice Bc ds.length cBc, .int .i64 q.line, .int .i64 q.col] 29)) (.cells #[.int .i64 0, .int .i64 0, .int .i64 0] 34)
          go_upto_region 26 with fail
          generalize (w6.alloc (.cells #[.string q.name, .string q.cur, .int .i64 q.from_.1, .int .i64 q.from_.2.1, .int .i64 q.from_.2.2, .int .i64 q.to_.1, .int .i64 q.to_.2.1, .int .i64 q.to_.2.2, .slice Bm q.mets.length cBm, .slice Bf q.fees.length cBf, .slice Bc ds.length cBc, .int .i64 q.line, .int .i64 q.col] 29)).alloc (.cells #[.int .i64 0, .int .i64 0, .int .i64 0] 34) = u6 at *
          obtain ⟨y0, y1, y2, _, _, _⟩ := f6.c3
          go_wp2_with fail
          go_ret
          exact ⟨rfl, b6⟩
        · have hwq : ¬ wholeC (ts.take k) := by unfold wholeC; rw [hC.scan]; exact hwc
          rw [if_neg hwq] at hw2
          simp only [Prod.mk.injEq] at hw2
          obtain ⟨rfl, rfl, rfl⟩ := hw2
          have qq := flt_same 4 1 ((b.size : Int) + 1)
          have hwe : wh = false ∨ (wh = true ∧ en < 2) := by
            cases wh with
            | false => exact .inl rfl
            | true => exact .inr ⟨rfl, by have : ¬ (2 ≤ en) := fun c => hwc ⟨rfl, c⟩; omega⟩
          clear hC hwq hwc
          rcases hwe with rfl | ⟨rfl, hen⟩
          all_goals
            go_wp2_with fail
            refine hP2.mono ?_
            rintro e w6 ⟨v, rfl, hv, hb6⟩
            obtain ⟨mv, fv, cv, ds, rfl, hR2⟩ := hv
            obtain ⟨Bm, cBm, rfl, _, _, _⟩ := Lies.open (f := metF) (l := q.mets) (Lies.of hR2.mo)
            obtain ⟨Bf, cBf, rfl, _, _, _⟩ := Lies.open (f := feeF) (l := q.fees) (Lies.of hR2.fo)
            obtain ⟨Bc, cBc, rfl, _, _, _⟩ := Lies.open (f := chgF) (l := ds) (Lies.of hR2.co)
            have bb6 := bl_call hlb hb6
            clear hR2
            unfold planC
            have f6 := Blk.new (w6.alloc (.cells #[.string q.name, .string q.cur, .int .i64 q.from_.1, .int .i64 q.from_.2.1, .int .i64 q.from_.2.2, .int .i64 q.to_.1, .int .i64 q.to_.2.1, .int .i64 q.to_.2.2, .slice Bm q.mets.length cBm, .slice Bf q.fees.length cBf, .slice Bc ds.length cBc, .int .i64 q.line, .int .i64 q.col] 29)) 34 #[.int .i64 4, .int .i64 1, .int .i64 ((b.size : Int) + 1)]
            rw [World.size_alloc] at f6
            have b6 := bl_alloc (bl_alloc bb6 (.cells #[.string q.name, .string q.cur, .int .i64 q.from_.1, .int .i64 q.from_.2.1, .int .i64 q.from_.2.2, .int .i64 q.to_.1, .int .i64 q.to_.2.1, .int .i64 q.to_.2.2, .slice Bm q.mets.length cBm, .slice Bf q.fees.length cBf, .slice Bc ds.length cBc, .int .i64 q.line, .int .i64 q.col] 29)) (.cells #[.int .i64 4, .int .i64 1, .int .i64 ((b.size : Int) + 1)] 34)
            go_upto_region 26 with fail
            generalize (w6.alloc (.cells #[.string q.name, .string q.cur, .int .i64 q.from_.1, .int .i64 q.from_.2.1, .int .i64 q.from_.2.2, .int .i64 q.to_.1, .int .i64 q.to_.2.1, .int .i64 q.to_.2.2, .slice Bm q.mets.length cBm, .slice Bf q.fees.length cBf, .slice Bc ds.length cBc, .int .i64 q.line, .int .i64 q.col] 29)).alloc (.cells #[.int .i64 4, .int .i64 1, .int .i64 ((b.size : Int) + 1)] 34) = u6 at *
            obtain ⟨y0, y1, y2, _, _, _⟩ := f6.c3
            go_wp2_with fail
            go_ret
            exact ⟨rfl, b6⟩
  · have q1 := flt_bad li co her
    go_wp2_with fail
    go_ret
    exact ⟨rfl, b2⟩
end Go.Proofs.YtcgkfgklggjmaaaDoor.Par
end
