import Derived.Test.YtcgkfgklggjmaaaDoorGk
import Derived.KernelRfl
section
namespace Go.Proofs.YtcgkfgklggjmaaaDoor.Par
set_option linter.unusedVariables false
set_option linter.unusedSimpArgs false
open Go.RowKit
def a9A : List UInt8 := [112, 108, 97, 110, 32, 112, 32, 99, 117, 114, 114, 101, 110, 99, 121, 32, 69, 85, 82, 59, 32, 104, 111, 114, 105, 122, 111, 110, 32, 50, 48, 50, 52, 45, 48, 49, 45, 48, 49, 32, 50, 48, 50, 52, 45, 49, 50, 45, 51, 49, 59, 10, 99, 104, 97, 114, 103, 101, 32, 109, 32, 123, 32, 103, 114, 97, 100, 117, 97, 116, 101, 100, 32, 123, 32, 114, 101, 115, 116, 32, 114, 97, 116, 101, 32, 49, 59, 32, 125, 32, 114, 111, 117, 110, 100, 32, 102, 108, 111, 111, 114, 59, 32, 125]
def a9At : List Tok := [⟨2, ⟨#[112, 108, 97, 110]⟩, 1, 1⟩, ⟨1, ⟨#[112]⟩, 1, 6⟩, ⟨2, ⟨#[99, 117, 114, 114, 101, 110, 99, 121]⟩, 1, 8⟩, ⟨1, ⟨#[69, 85, 82]⟩, 1, 17⟩, ⟨5, ⟨#[59]⟩, 1, 20⟩, ⟨2, ⟨#[104, 111, 114, 105, 122, 111, 110]⟩, 1, 22⟩, ⟨4, ⟨#[50, 48, 50, 52, 45, 48, 49, 45, 48, 49]⟩, 1, 30⟩, ⟨4, ⟨#[50, 48, 50, 52, 45, 49, 50, 45, 51, 49]⟩, 1, 41⟩, ⟨5, ⟨#[59]⟩, 1, 51⟩, ⟨2, ⟨#[99, 104, 97, 114, 103, 101]⟩, 2, 1⟩, ⟨1, ⟨#[109]⟩, 2, 8⟩, ⟨5, ⟨#[123]⟩, 2, 10⟩, ⟨2, ⟨#[103, 114, 97, 100, 117, 97, 116, 101, 100]⟩, 2, 12⟩, ⟨5, ⟨#[123]⟩, 2, 22⟩, ⟨2, ⟨#[114, 101, 115, 116]⟩, 2, 24⟩, ⟨2, ⟨#[114, 97, 116, 101]⟩, 2, 29⟩, ⟨3, ⟨#[49]⟩, 2, 34⟩, ⟨5, ⟨#[59]⟩, 2, 35⟩, ⟨5, ⟨#[125]⟩, 2, 37⟩, ⟨2, ⟨#[114, 111, 117, 110, 100]⟩, 2, 39⟩, ⟨2, ⟨#[102, 108, 111, 111, 114]⟩, 2, 45⟩, ⟨5, ⟨#[59]⟩, 2, 50⟩, ⟨5, ⟨#[125]⟩, 2, 52⟩, ⟨0, ⟨#[]⟩, 2, 53⟩]
def a9Ap : Plan := ⟨⟨#[112]⟩, ⟨#[69, 85, 82]⟩, (2024, 1, 1), (2024, 12, 31), [], [], [⟨⟨#[109]⟩, noWin, 0, 1, 1, [⟨0, 1000000⟩], 0, [], 2, 1⟩], 1, 1⟩
set_option maxRecDepth 100000 in
theorem a9A_tok : lexAll a9A = (a9At, 0, 0, 0) := by
  rw [lexAll, if_neg (by decide), ← lexF_eq 300 a9A 1 1 (by decide)]
  have : lexF 300 a9A 1 1 = .ok a9At := by kernel_rfl
  rw [this]
theorem a9A_e : (P.plan dp npV a9At).2.err = 0 := by kernel_rfl
theorem a9A_parse : RParse a9A = (a9Ap, 0, 0, 0) := by
  rw [PParse_ok a9A_tok a9A_e]
  exact congrArg (fun x => (x, (0 : Int), (0 : Int), (0 : Int))) (by kernel_rfl)
theorem a9A_pok : POk a9Ap := by
  have h := pok_parse (l := a9A) (by rw [a9A_parse])
  rw [a9A_parse] at h
  exact h
theorem a9A_told : Told a9Ap := by
  have h := told_parse (l := a9A) (by rw [a9A_parse])
  rw [a9A_parse] at h
  exact h
theorem a9A_chk : chkL a9Ap = (5, 2, 1) := by kernel_rfl
def a9B : List UInt8 := [112, 108, 97, 110, 32, 112, 32, 99, 117, 114, 114, 101, 110, 99, 121, 32, 69, 85, 82, 59, 32, 104, 111, 114, 105, 122, 111, 110, 32, 50, 48, 50, 52, 45, 48, 49, 45, 48, 49, 32, 50, 48, 50, 52, 45, 49, 50, 45, 51, 49, 59, 32, 109, 101, 116, 101, 114, 32, 109, 32, 117, 110, 105, 116, 32, 108, 32, 109, 97, 120, 32, 57, 59, 32, 102, 101, 101, 32, 53, 59, 10, 99, 104, 97, 114, 103, 101, 32, 109, 32, 123, 32, 103, 114, 97, 100, 117, 97, 116, 101, 100, 32, 123, 32, 114, 101, 115, 116, 32, 114, 97, 116, 101, 32, 49, 59, 32, 125, 32, 114, 111, 117, 110, 100, 32, 102, 108, 111, 111, 114, 59, 32, 125]
def a9Bt : List Tok := [⟨2, ⟨#[112, 108, 97, 110]⟩, 1, 1⟩, ⟨1, ⟨#[112]⟩, 1, 6⟩, ⟨2, ⟨#[99, 117, 114, 114, 101, 110, 99, 121]⟩, 1, 8⟩, ⟨1, ⟨#[69, 85, 82]⟩, 1, 17⟩, ⟨5, ⟨#[59]⟩, 1, 20⟩, ⟨2, ⟨#[104, 111, 114, 105, 122, 111, 110]⟩, 1, 22⟩, ⟨4, ⟨#[50, 48, 50, 52, 45, 48, 49, 45, 48, 49]⟩, 1, 30⟩, ⟨4, ⟨#[50, 48, 50, 52, 45, 49, 50, 45, 51, 49]⟩, 1, 41⟩, ⟨5, ⟨#[59]⟩, 1, 51⟩, ⟨2, ⟨#[109, 101, 116, 101, 114]⟩, 1, 53⟩, ⟨1, ⟨#[109]⟩, 1, 59⟩, ⟨2, ⟨#[117, 110, 105, 116]⟩, 1, 61⟩, ⟨1, ⟨#[108]⟩, 1, 66⟩, ⟨2, ⟨#[109, 97, 120]⟩, 1, 68⟩, ⟨3, ⟨#[57]⟩, 1, 72⟩, ⟨5, ⟨#[59]⟩, 1, 73⟩, ⟨2, ⟨#[102, 101, 101]⟩, 1, 75⟩, ⟨3, ⟨#[53]⟩, 1, 79⟩, ⟨5, ⟨#[59]⟩, 1, 80⟩, ⟨2, ⟨#[99, 104, 97, 114, 103, 101]⟩, 2, 1⟩, ⟨1, ⟨#[109]⟩, 2, 8⟩, ⟨5, ⟨#[123]⟩, 2, 10⟩, ⟨2, ⟨#[103, 114, 97, 100, 117, 97, 116, 101, 100]⟩, 2, 12⟩, ⟨5, ⟨#[123]⟩, 2, 22⟩, ⟨2, ⟨#[114, 101, 115, 116]⟩, 2, 24⟩, ⟨2, ⟨#[114, 97, 116, 101]⟩, 2, 29⟩, ⟨3, ⟨#[49]⟩, 2, 34⟩, ⟨5, ⟨#[59]⟩, 2, 35⟩, ⟨5, ⟨#[125]⟩, 2, 37⟩, ⟨2, ⟨#[114, 111, 117, 110, 100]⟩, 2, 39⟩, ⟨2, ⟨#[102, 108, 111, 111, 114]⟩, 2, 45⟩, ⟨5, ⟨#[59]⟩, 2, 50⟩, ⟨5, ⟨#[125]⟩, 2, 52⟩, ⟨0, ⟨#[]⟩, 2, 53⟩]
def a9Bp : Plan := ⟨⟨#[112]⟩, ⟨#[69, 85, 82]⟩, (2024, 1, 1), (2024, 12, 31), [⟨⟨#[109]⟩, ⟨#[108]⟩, 9, 1, 53⟩], [⟨5, noWin, 1, 75⟩], [⟨⟨#[109]⟩, noWin, 0, 1, 1, [⟨0, 1000000⟩], 0, [], 2, 1⟩], 1, 1⟩
set_option maxRecDepth 100000 in
theorem a9B_tok : lexAll a9B = (a9Bt, 0, 0, 0) := by
  rw [lexAll, if_neg (by decide), ← lexF_eq 300 a9B 1 1 (by decide)]
  have : lexF 300 a9B 1 1 = .ok a9Bt := by kernel_rfl
  rw [this]
theorem a9B_e : (P.plan dp npV a9Bt).2.err = 0 := by kernel_rfl
theorem a9B_parse : RParse a9B = (a9Bp, 0, 0, 0) := by
  rw [PParse_ok a9B_tok a9B_e]
  exact congrArg (fun x => (x, (0 : Int), (0 : Int), (0 : Int))) (by kernel_rfl)
theorem a9B_pok : POk a9Bp := by
  have h := pok_parse (l := a9B) (by rw [a9B_parse])
  rw [a9B_parse] at h
  exact h
theorem a9B_told : Told a9Bp := by
  have h := told_parse (l := a9B) (by rw [a9B_parse])
  rw [a9B_parse] at h
  exact h
theorem a9B_chk : chkL a9Bp = (0, 0, 0) := by kernel_rfl
theorem a9B_bound : boundO a9Bp = some 14 := by kernel_rfl
theorem a9B_blk : ∀ c ∈ a9Bp.chgs, 1 ≤ c.block := by
  intro c hc
  simp only [a9Bp, List.mem_singleton] at hc
  subst hc
  decide
end Go.Proofs.YtcgkfgklggjmaaaDoor.Par
end
section
namespace Go.Proofs.YtcgkfgklggjmaaaDoor.Par
set_option linter.unusedVariables false
set_option linter.unusedSimpArgs false
open Go.RowKit
theorem sets13 (a0 a1 a2 a3 a4 a5 a6 a7 a8 a9 a10 a11 a12 b0 b1 b2 b3 b4 b5 b6 b7 b8 b9 b10 b11 b12 : Value) : setsA #[a0, a1, a2, a3, a4, a5, a6, a7, a8, a9, a10, a11, a12] 0 [b0, b1, b2, b3, b4, b5, b6, b7, b8, b9, b10, b11, b12] = #[b0, b1, b2, b3, b4, b5, b6, b7, b8, b9, b10, b11, b12] := by
  simp [setsA]
theorem Rows.notBelow {w : World} {B : Nat} {p : Plan} {mv fv cv : Value} {cs : List CT} (h : Rows w B p mv fv cv cs) {g : Nat} (hB : g < B) : ¬ blocks mv fv cv cs g := by
  rintro (hg | hg | hg | ⟨c, hc, hg | hg⟩)
  · have := (h.mo.lt g hg).1; omega
  · have := (h.fo.lt g hg).1; omega
  · have := (h.co.lt g hg).1; omega
  · have := (World.ownsRow.lt (h.ne c hc).1 g hg).1; omega
  · have := (World.ownsRow.lt (h.ne c hc).2 g hg).1; omega
set_option maxHeartbeats 16000000 in
set_option maxRecDepth 100000 in
theorem of9_any (hRP : RParses8) (s : ByteArray) (w : World) (hs : s.size ≤ 9223372036854775807) :
    Calls Tryd.prog 11 #[.string s] w fun e w' => ∃ v, e = .returned (.tuple #[v, .bool (decide ((RParse s.data.toList).2.1 = 0) && decide (s.size ≤ 8192))]) ∧ PlanLies w.heap.size w' v (RParse s.data.toList).1 ∧ Below w.heap.size w w' := by
  have hQ := hRP s
  obtain ⟨p, er, li, co, hpq⟩ : ∃ p er li co, RParse s.data.toList = (p, er, li, co) := ⟨_, _, _, _, rfl⟩
  rw [hpq] at hQ ⊢
  clear hpq hRP
  dsimp only at hQ ⊢
  replace hQ := Lib.hid (fun W => hQ W hs)
  have kr0 := Blk.new w 29 #[.string ⟨#[]⟩, .string ⟨#[]⟩, .int .i64 0, .int .i64 0, .int .i64 0, .int .i64 0, .int .i64 0, .int .i64 0, .slice none 0 0, .slice none 0 0, .slice none 0 0, .int .i64 0, .int .i64 0]
  have b0 := bl_alloc (bl_refl w) (.cells #[.string ⟨#[]⟩, .string ⟨#[]⟩, .int .i64 0, .int .i64 0, .int .i64 0, .int .i64 0, .int .i64 0, .int .i64 0, .slice none 0 0, .slice none 0 0, .slice none 0 0, .int .i64 0, .int .i64 0] 29)
  by_cases her : er = 0
  · subst her
    by_cases hz : s.size ≤ 8192
    · have e1 : (decide ((0 : Int) = 0) && decide (s.size ≤ 8192)) = true := by simp [hz]
      rw [e1]
      have hz' : (s.size : Int) ≤ 8192 := by omega
      clear e1 hz
      go_enter Tryd.func11, Tryd.ntmps11
      go_wp2_with fail
      refine (hQ.out _).mono ?_
      rintro e w2 ⟨v, rfl, hv, hb2⟩
      obtain ⟨mv, fv, cv, cs, rfl, hR⟩ := hv
      obtain ⟨Am, cm, rfl, _, _, _⟩ := Lies.open (f := metF) (l := p.mets) (Lies.of hR.mo)
      obtain ⟨Af, cf, rfl, _, _, _⟩ := Lies.open (f := feeF) (l := p.fees) (Lies.of hR.fo)
      obtain ⟨Ac, cc, rfl, _, _, _⟩ := Lies.open (f := chgF) (l := cs) (Lies.of hR.co)
      unfold planC
      have kp := Blk.new w2 29 #[.string p.name, .string p.cur, .int .i64 p.from_.1, .int .i64 p.from_.2.1, .int .i64 p.from_.2.2, .int .i64 p.to_.1, .int .i64 p.to_.2.1, .int .i64 p.to_.2.2, .slice Am p.mets.length cm, .slice Af p.fees.length cf, .slice Ac cs.length cc, .int .i64 p.line, .int .i64 p.col]
      have kr2 := (kr0.call hb2).alloc (.cells #[.string p.name, .string p.cur, .int .i64 p.from_.1, .int .i64 p.from_.2.1, .int .i64 p.from_.2.2, .int .i64 p.to_.1, .int .i64 p.to_.2.1, .int .i64 p.to_.2.2, .slice Am p.mets.length cm, .slice Af p.fees.length cf, .slice Ac cs.length cc, .int .i64 p.line, .int .i64 p.col] 29)
      have hR2 := hR.below (bl_alloc (bl_refl w2) (.cells #[.string p.name, .string p.cur, .int .i64 p.from_.1, .int .i64 p.from_.2.1, .int .i64 p.from_.2.2, .int .i64 p.to_.1, .int .i64 p.to_.2.1, .int .i64 p.to_.2.2, .slice Am p.mets.length cm, .slice Af p.fees.length cf, .slice Ac cs.length cc, .int .i64 p.line, .int .i64 p.col] 29))
      have b2 := bl_alloc (bl_call b0 hb2) (.cells #[.string p.name, .string p.cur, .int .i64 p.from_.1, .int .i64 p.from_.2.1, .int .i64 p.from_.2.2, .int .i64 p.to_.1, .int .i64 p.to_.2.1, .int .i64 p.to_.2.2, .slice Am p.mets.length cm, .slice Af p.fees.length cf, .slice Ac cs.length cc, .int .i64 p.line, .int .i64 p.col] 29)
      have lr := kr0.lt
      have lr2 := hb2.size
      obtain ⟨a0, a1, a2, a3, a4, a5, a6, a7, a8, a9, a10, a11, a12, _, _, _, _, _, _, _, _, _, _, _, _, _⟩ := kp.c13
      obtain ⟨z0, z1, z2, z3, z4, z5, z6, z7, z8, z9, z10, z11, z12, _, _, _, _, _, _, _, _, _, _, _, _, _⟩ := kr2.c13
      go_wp2_with fail
      have hng := hR2.notBelow (show w.heap.size < (w.alloc (.cells #[.string ⟨#[]⟩, .string ⟨#[]⟩, .int .i64 0, .int .i64 0, .int .i64 0, .int .i64 0, .int .i64 0, .int .i64 0, .slice none 0 0, .slice none 0 0, .slice none 0 0, .int .i64 0, .int .i64 0] 29)).heap.size by rw [World.size_alloc]; omega)
      have qa := kr2.putAll [.string p.name, .string p.cur, .int .i64 p.from_.1, .int .i64 p.from_.2.1, .int .i64 p.from_.2.2, .int .i64 p.to_.1, .int .i64 p.to_.2.1, .int .i64 p.to_.2.2, .slice Am p.mets.length cm, .slice Af p.fees.length cf, .slice Ac cs.length cc, .int .i64 p.line, .int .i64 p.col] 0
      rw [sets13] at qa
      have qb := bl_puts b2 (Nat.le_refl w.heap.size) 0 [.string p.name, .string p.cur, .int .i64 p.from_.1, .int .i64 p.from_.2.1, .int .i64 p.from_.2.2, .int .i64 p.to_.1, .int .i64 p.to_.2.1, .int .i64 p.to_.2.2, .slice Am p.mets.length cm, .slice Af p.fees.length cf, .slice Ac cs.length cc, .int .i64 p.line, .int .i64 p.col]
      have qr := hR2.puts_ hng 0 [.string p.name, .string p.cur, .int .i64 p.from_.1, .int .i64 p.from_.2.1, .int .i64 p.from_.2.2, .int .i64 p.to_.1, .int .i64 p.to_.2.1, .int .i64 p.to_.2.2, .slice Am p.mets.length cm, .slice Af p.fees.length cf, .slice Ac cs.length cc, .int .i64 p.line, .int .i64 p.col]
      simp only [puts, Nat.zero_add, Nat.reduceAdd] at qa qb qr
      exact bodyPost_ret (results_cell_tmp_row rfl _ _ w.heap.size _ #[.string p.name, .string p.cur, .int .i64 p.from_.1, .int .i64 p.from_.2.1, .int .i64 p.from_.2.2, .int .i64 p.to_.1, .int .i64 p.to_.2.1, .int .i64 p.to_.2.2, .slice Am p.mets.length cm, .slice Af p.fees.length cf, .slice Ac cs.length cc, .int .i64 p.line, .int .i64 p.col] _ rfl qa Tryd.underlying29 rfl (by kernel_rfl)) rfl
        ⟨_, rfl, ⟨_, _, _, cs, rfl, qr.base (by rw [World.size_alloc]; omega)⟩, qb⟩
    · have e1 : (decide ((0 : Int) = 0) && decide (s.size ≤ 8192)) = false := by simp [hz]
      rw [e1]
      have hd : decide ((s.size : Int) ≤ 8192) = false := decide_eq_false (by omega)
      clear e1 hz
      go_enter Tryd.func11, Tryd.ntmps11
      go_wp2_with fail
      refine (hQ.out _).mono ?_
      rintro e w2 ⟨v, rfl, hv, hb2⟩
      obtain ⟨mv, fv, cv, cs, rfl, hR⟩ := hv
      obtain ⟨Am, cm, rfl, _, _, _⟩ := Lies.open (f := metF) (l := p.mets) (Lies.of hR.mo)
      obtain ⟨Af, cf, rfl, _, _, _⟩ := Lies.open (f := feeF) (l := p.fees) (Lies.of hR.fo)
      obtain ⟨Ac, cc, rfl, _, _, _⟩ := Lies.open (f := chgF) (l := cs) (Lies.of hR.co)
      unfold planC
      have kp := Blk.new w2 29 #[.string p.name, .string p.cur, .int .i64 p.from_.1, .int .i64 p.from_.2.1, .int .i64 p.from_.2.2, .int .i64 p.to_.1, .int .i64 p.to_.2.1, .int .i64 p.to_.2.2, .slice Am p.mets.length cm, .slice Af p.fees.length cf, .slice Ac cs.length cc, .int .i64 p.line, .int .i64 p.col]
      have kr2 := (kr0.call hb2).alloc (.cells #[.string p.name, .string p.cur, .int .i64 p.from_.1, .int .i64 p.from_.2.1, .int .i64 p.from_.2.2, .int .i64 p.to_.1, .int .i64 p.to_.2.1, .int .i64 p.to_.2.2, .slice Am p.mets.length cm, .slice Af p.fees.length cf, .slice Ac cs.length cc, .int .i64 p.line, .int .i64 p.col] 29)
      have hR2 := hR.below (bl_alloc (bl_refl w2) (.cells #[.string p.name, .string p.cur, .int .i64 p.from_.1, .int .i64 p.from_.2.1, .int .i64 p.from_.2.2, .int .i64 p.to_.1, .int .i64 p.to_.2.1, .int .i64 p.to_.2.2, .slice Am p.mets.length cm, .slice Af p.fees.length cf, .slice Ac cs.length cc, .int .i64 p.line, .int .i64 p.col] 29))
      have b2 := bl_alloc (bl_call b0 hb2) (.cells #[.string p.name, .string p.cur, .int .i64 p.from_.1, .int .i64 p.from_.2.1, .int .i64 p.from_.2.2, .int .i64 p.to_.1, .int .i64 p.to_.2.1, .int .i64 p.to_.2.2, .slice Am p.mets.length cm, .slice Af p.fees.length cf, .slice Ac cs.length cc, .int .i64 p.line, .int .i64 p.col] 29)
      have lr := kr0.lt
      have lr2 := hb2.size
      obtain ⟨a0, a1, a2, a3, a4, a5, a6, a7, a8, a9, a10, a11, a12, _, _, _, _, _, _, _, _, _, _, _, _, _⟩ := kp.c13
      obtain ⟨z0, z1, z2, z3, z4, z5, z6, z7, z8, z9, z10, z11, z12, _, _, _, _, _, _, _, _, _, _, _, _, _⟩ := kr2.c13
      go_wp2_with fail
      have hng := hR2.notBelow (show w.heap.size < (w.alloc (.cells #[.string ⟨#[]⟩, .string ⟨#[]⟩, .int .i64 0, .int .i64 0, .int .i64 0, .int .i64 0, .int .i64 0, .int .i64 0, .slice none 0 0, .slice none 0 0, .slice none 0 0, .int .i64 0, .int .i64 0] 29)).heap.size by rw [World.size_alloc]; omega)
      have qa := kr2.putAll [.string p.name, .string p.cur, .int .i64 p.from_.1, .int .i64 p.from_.2.1, .int .i64 p.from_.2.2, .int .i64 p.to_.1, .int .i64 p.to_.2.1, .int .i64 p.to_.2.2, .slice Am p.mets.length cm, .slice Af p.fees.length cf, .slice Ac cs.length cc, .int .i64 p.line, .int .i64 p.col] 0
      rw [sets13] at qa
      have qb := bl_puts b2 (Nat.le_refl w.heap.size) 0 [.string p.name, .string p.cur, .int .i64 p.from_.1, .int .i64 p.from_.2.1, .int .i64 p.from_.2.2, .int .i64 p.to_.1, .int .i64 p.to_.2.1, .int .i64 p.to_.2.2, .slice Am p.mets.length cm, .slice Af p.fees.length cf, .slice Ac cs.length cc, .int .i64 p.line, .int .i64 p.col]
      have qr := hR2.puts_ hng 0 [.string p.name, .string p.cur, .int .i64 p.from_.1, .int .i64 p.from_.2.1, .int .i64 p.from_.2.2, .int .i64 p.to_.1, .int .i64 p.to_.2.1, .int .i64 p.to_.2.2, .slice Am p.mets.length cm, .slice Af p.fees.length cf, .slice Ac cs.length cc, .int .i64 p.line, .int .i64 p.col]
      simp only [puts, Nat.zero_add, Nat.reduceAdd] at qa qb qr
      exact bodyPost_ret (results_cell_tmp_row rfl _ _ w.heap.size _ #[.string p.name, .string p.cur, .int .i64 p.from_.1, .int .i64 p.from_.2.1, .int .i64 p.from_.2.2, .int .i64 p.to_.1, .int .i64 p.to_.2.1, .int .i64 p.to_.2.2, .slice Am p.mets.length cm, .slice Af p.fees.length cf, .slice Ac cs.length cc, .int .i64 p.line, .int .i64 p.col] _ rfl qa Tryd.underlying29 rfl (by kernel_rfl)) rfl
        ⟨_, rfl, ⟨_, _, _, cs, rfl, qr.base (by rw [World.size_alloc]; omega)⟩, qb⟩
  · have e1 : (decide (er = 0) && decide (s.size ≤ 8192)) = false := by simp [her]
    rw [e1]
    have hq : (er == 0) = false := by rw [beq_eq_false_iff_ne]; exact her
    clear e1 her
    go_enter Tryd.func11, Tryd.ntmps11
    go_wp2_with fail
    refine (hQ.out _).mono ?_
    rintro e w2 ⟨v, rfl, hv, hb2⟩
    obtain ⟨mv, fv, cv, cs, rfl, hR⟩ := hv
    obtain ⟨Am, cm, rfl, _, _, _⟩ := Lies.open (f := metF) (l := p.mets) (Lies.of hR.mo)
    obtain ⟨Af, cf, rfl, _, _, _⟩ := Lies.open (f := feeF) (l := p.fees) (Lies.of hR.fo)
    obtain ⟨Ac, cc, rfl, _, _, _⟩ := Lies.open (f := chgF) (l := cs) (Lies.of hR.co)
    unfold planC
    have kp := Blk.new w2 29 #[.string p.name, .string p.cur, .int .i64 p.from_.1, .int .i64 p.from_.2.1, .int .i64 p.from_.2.2, .int .i64 p.to_.1, .int .i64 p.to_.2.1, .int .i64 p.to_.2.2, .slice Am p.mets.length cm, .slice Af p.fees.length cf, .slice Ac cs.length cc, .int .i64 p.line, .int .i64 p.col]
    have kr2 := (kr0.call hb2).alloc (.cells #[.string p.name, .string p.cur, .int .i64 p.from_.1, .int .i64 p.from_.2.1, .int .i64 p.from_.2.2, .int .i64 p.to_.1, .int .i64 p.to_.2.1, .int .i64 p.to_.2.2, .slice Am p.mets.length cm, .slice Af p.fees.length cf, .slice Ac cs.length cc, .int .i64 p.line, .int .i64 p.col] 29)
    have hR2 := hR.below (bl_alloc (bl_refl w2) (.cells #[.string p.name, .string p.cur, .int .i64 p.from_.1, .int .i64 p.from_.2.1, .int .i64 p.from_.2.2, .int .i64 p.to_.1, .int .i64 p.to_.2.1, .int .i64 p.to_.2.2, .slice Am p.mets.length cm, .slice Af p.fees.length cf, .slice Ac cs.length cc, .int .i64 p.line, .int .i64 p.col] 29))
    have b2 := bl_alloc (bl_call b0 hb2) (.cells #[.string p.name, .string p.cur, .int .i64 p.from_.1, .int .i64 p.from_.2.1, .int .i64 p.from_.2.2, .int .i64 p.to_.1, .int .i64 p.to_.2.1, .int .i64 p.to_.2.2, .slice Am p.mets.length cm, .slice Af p.fees.length cf, .slice Ac cs.length cc, .int .i64 p.line, .int .i64 p.col] 29)
    have lr := kr0.lt
    have lr2 := hb2.size
    obtain ⟨a0, a1, a2, a3, a4, a5, a6, a7, a8, a9, a10, a11, a12, _, _, _, _, _, _, _, _, _, _, _, _, _⟩ := kp.c13
    obtain ⟨z0, z1, z2, z3, z4, z5, z6, z7, z8, z9, z10, z11, z12, _, _, _, _, _, _, _, _, _, _, _, _, _⟩ := kr2.c13
    go_wp2_with fail
    have hng := hR2.notBelow (show w.heap.size < (w.alloc (.cells #[.string ⟨#[]⟩, .string ⟨#[]⟩, .int .i64 0, .int .i64 0, .int .i64 0, .int .i64 0, .int .i64 0, .int .i64 0, .slice none 0 0, .slice none 0 0, .slice none 0 0, .int .i64 0, .int .i64 0] 29)).heap.size by rw [World.size_alloc]; omega)
    have qa := kr2.putAll [.string p.name, .string p.cur, .int .i64 p.from_.1, .int .i64 p.from_.2.1, .int .i64 p.from_.2.2, .int .i64 p.to_.1, .int .i64 p.to_.2.1, .int .i64 p.to_.2.2, .slice Am p.mets.length cm, .slice Af p.fees.length cf, .slice Ac cs.length cc, .int .i64 p.line, .int .i64 p.col] 0
    rw [sets13] at qa
    have qb := bl_puts b2 (Nat.le_refl w.heap.size) 0 [.string p.name, .string p.cur, .int .i64 p.from_.1, .int .i64 p.from_.2.1, .int .i64 p.from_.2.2, .int .i64 p.to_.1, .int .i64 p.to_.2.1, .int .i64 p.to_.2.2, .slice Am p.mets.length cm, .slice Af p.fees.length cf, .slice Ac cs.length cc, .int .i64 p.line, .int .i64 p.col]
    have qr := hR2.puts_ hng 0 [.string p.name, .string p.cur, .int .i64 p.from_.1, .int .i64 p.from_.2.1, .int .i64 p.from_.2.2, .int .i64 p.to_.1, .int .i64 p.to_.2.1, .int .i64 p.to_.2.2, .slice Am p.mets.length cm, .slice Af p.fees.length cf, .slice Ac cs.length cc, .int .i64 p.line, .int .i64 p.col]
    simp only [puts, Nat.zero_add, Nat.reduceAdd] at qa qb qr
    exact bodyPost_ret (results_cell_tmp_row rfl _ _ w.heap.size _ #[.string p.name, .string p.cur, .int .i64 p.from_.1, .int .i64 p.from_.2.1, .int .i64 p.from_.2.2, .int .i64 p.to_.1, .int .i64 p.to_.2.1, .int .i64 p.to_.2.2, .slice Am p.mets.length cm, .slice Af p.fees.length cf, .slice Ac cs.length cc, .int .i64 p.line, .int .i64 p.col] _ rfl qa Tryd.underlying29 rfl (by kernel_rfl)) rfl
      ⟨_, rfl, ⟨_, _, _, cs, rfl, qr.base (by rw [World.size_alloc]; omega)⟩, qb⟩
end Go.Proofs.YtcgkfgklggjmaaaDoor.Par
end
