import Derived.Test.YtcgkfgklggjmaaaGg
import Derived.KernelRfl
section
namespace Go.Proofs.Ytcgkfgklggjmaaa.Par
set_option linter.unusedVariables false
set_option linter.unusedSimpArgs false
open Go.RowKit
theorem pok_bnum {p : Plan} (h : POk p) (hc : ∀ c ∈ p.chgs, 1 ≤ c.block) : BNum p :=
  ⟨fun m hm => (h.mets m hm).2.2, fun f hf => (h.fees f hf).1, fun c hcm => ⟨(h.chgs c hcm).allow, ⟨hc c hcm, (h.chgs c hcm).block.2⟩, fun t ht => by
    obtain ⟨l, r, e, h1, h2⟩ := (h.chgs c hcm).tiers
    rw [e] at ht
    rcases List.mem_append.1 ht with ht | ht
    · exact (h1 t ht).2
    · obtain rfl := List.mem_singleton.1 ht; exact h2, (h.chgs c hcm).adjs⟩⟩
theorem cok_upto {c : Chg} (h : COk c) : ∀ t ∈ c.tiers, 0 ≤ t.upto := fun t ht => by
  obtain ⟨l, r, e, h1, h2⟩ := h.tiers
  rw [e] at ht
  rcases List.mem_append.1 ht with ht | ht
  · exact (h1 t ht).1.1
  · obtain rfl := List.mem_singleton.1 ht; exact Int.le_refl _
theorem hor_chk {p : Plan} (h : horE p ≠ 0) : chkL p = (horE p, p.line, p.col) := by
  unfold chkL
  unfold horE at h ⊢
  split
  · rfl
  · split
    · rfl
    · rename_i h1 h2; rw [if_neg h1, if_neg h2] at h; exact absurd rfl h
theorem hor_ok {p : Plan} (h : horE p = 0) : ¬ numT p.to_ < numT p.from_ ∧ ¬ 4000 ≤ numT p.to_ - numT p.from_ := by
  unfold horE at h
  split at h
  · cases h
  · split at h
    · cases h
    · exact ⟨by assumption, by assumption⟩
theorem ne_fst {α : Type} {e : Nat → α → Int} {pl : α → Int × Int} {l : List α} {k : Nat} {m : α} (h0 : ∀ (j : Nat) (x : α), j < k → l[j]? = some x → e j x = 0) (hm : l[k]? = some m) (he : e k m ≠ 0) : firstE e pl 0 l = (e k m, pl m) ∧ (firstE e pl 0 l).1 ≠ 0 := by
  have h := firstE_at (e := e) (pl := pl) (i := 0) (fun j x hj hx => by rw [Nat.zero_add]; exact h0 j x hj hx) hm (by rw [Nat.zero_add]; exact he)
  rw [Nat.zero_add] at h
  exact ⟨h, by rw [h]; exact he⟩
theorem all_fst {α : Type} {e : Nat → α → Int} {pl : α → Int × Int} {l : List α} (h0 : ∀ (j : Nat) (x : α), j < l.length → l[j]? = some x → e j x = 0) : (firstE e pl 0 l).1 = 0 :=
  first_zero.2 fun j x hx => by rw [Nat.zero_add]; exact h0 j x (List.getElem?_eq_some_iff.1 hx).1 hx
abbrev plM : Met → Int × Int := fun m => (m.line, m.col)
abbrev plF : Fee → Int × Int := fun m => (m.line, m.col)
abbrev plC : Chg → Int × Int := fun m => (m.line, m.col)
theorem chk_met {p : Plan} (h : horE p = 0) (hm : (firstE (metE p) plM 0 p.mets).1 ≠ 0) : chkL p = firstE (metE p) plM 0 p.mets := by
  obtain ⟨h1, h2⟩ := hor_ok h
  unfold chkL
  rw [if_neg h1, if_neg h2, if_pos hm]
theorem chk_fee {p : Plan} (h : horE p = 0) (hm : (firstE (metE p) plM 0 p.mets).1 = 0) (hf : (firstE (feeE p) plF 0 p.fees).1 ≠ 0) : chkL p = firstE (feeE p) plF 0 p.fees := by
  obtain ⟨h1, h2⟩ := hor_ok h
  unfold chkL
  rw [if_neg h1, if_neg h2, if_neg (by simpa using hm), if_pos hf]
theorem chk_chg {p : Plan} (h : horE p = 0) (hm : (firstE (metE p) plM 0 p.mets).1 = 0) (hf : (firstE (feeE p) plF 0 p.fees).1 = 0) (hc : (firstE (chgE p) plC 0 p.chgs).1 ≠ 0) : chkL p = firstE (chgE p) plC 0 p.chgs := by
  obtain ⟨h1, h2⟩ := hor_ok h
  unfold chkL
  rw [if_neg h1, if_neg h2, if_neg (by simpa using hm), if_neg (by simpa using hf), if_pos hc]
theorem chk_end {p : Plan} (h : horE p = 0) (hm : (firstE (metE p) plM 0 p.mets).1 = 0) (hf : (firstE (feeE p) plF 0 p.fees).1 = 0) (hc : (firstE (chgE p) plC 0 p.chgs).1 = 0) : chkL p = if boundO p = none then (6, p.line, p.col) else (0, 0, 0) := by
  obtain ⟨h1, h2⟩ := hor_ok h
  unfold chkL
  rw [if_neg h1, if_neg h2, if_neg (by simpa using hm), if_neg (by simpa using hf), if_neg (by simpa using hc)]
theorem chgE_block {p : Plan} {k : Nat} {c : Chg} (h : chgE p k c = 0) : 1 ≤ c.block := by
  unfold chgE at h
  split at h
  · cases h
  split at h
  · cases h
  split at h
  · cases h
  split at h
  · cases h
  · omega
theorem chgE_len {p : Plan} (h : ∀ (j : Nat) (x : Chg), p.chgs[j]? = some x → chgE p j x = 0) : p.chgs.length ≤ 8 := by
  rcases Nat.lt_or_ge 8 p.chgs.length with h8 | h8
  · have := h 8 p.chgs[8] (List.getElem?_eq_getElem h8)
    unfold chgE at this
    rw [if_pos (Nat.le_refl 8)] at this
    cases this
  · exact h8
theorem feeE_len {p : Plan} (h : ∀ (j : Nat) (x : Fee), p.fees[j]? = some x → feeE p j x = 0) : p.fees.length ≤ 8 := by
  rcases Nat.lt_or_ge 8 p.fees.length with h8 | h8
  · have := h 8 p.fees[8] (List.getElem?_eq_getElem h8)
    unfold feeE at this
    rw [if_pos (Nat.le_refl 8)] at this
    cases this
  · exact h8
theorem mem_at {α : Type} {l : List α} {P : α → Prop} (h : ∀ (j : Nat) (x : α), j < l.length → l[j]? = some x → P x) : ∀ x ∈ l, P x := fun x hx => by
  obtain ⟨j, hj, e⟩ := List.mem_iff_getElem.1 hx
  exact h j x hj (by rw [List.getElem?_eq_getElem hj, e])
set_option maxHeartbeats 16000000 in
set_option maxRecDepth 100000 in
theorem cplan_any (p : Plan) (Am Af Ac : Option Addr) (cm cf cc : Nat) (cs : List CT) (w : World) {B : Nat} (hR : Rows w B p (.slice Am p.mets.length cm) (.slice Af p.fees.length cf) (.slice Ac cs.length cc) cs) (hP : POk p) :
    Calls Try.prog 7 #[.agg #[.string p.name, .string p.cur, .int .i64 p.from_.1, .int .i64 p.from_.2.1, .int .i64 p.from_.2.2, .int .i64 p.to_.1, .int .i64 p.to_.2.1, .int .i64 p.to_.2.2, .slice Am p.mets.length cm, .slice Af p.fees.length cf, .slice Ac cs.length cc, .int .i64 p.line, .int .i64 p.col]] w fun e w' => e = .returned (.agg #[.int .i64 (chkL p).1, .int .i64 (chkL p).2.1, .int .i64 (chkL p).2.2]) ∧ Below w.heap.size w w' := by
  have hf := dok_good hP.from_
  have ht := dok_good hP.to_
  obtain ⟨_, _, he, ht1, ht2, ht3⟩ := Lies.open (f := feeF) (l := p.fees) (Lies.of hR.fo)
  injection he with he1 he2 he3
  subst he1 he3
  obtain ⟨_, _, he, hc1, hc2, hc3⟩ := Lies.open (f := chgF) (l := cs) (Lies.of hR.co)
  injection he with he1 he2 he3
  subst he1 he3
  obtain ⟨_, _, he, hm1, hm2, hm3⟩ := Lies.open (f := metF) (l := p.mets) (Lies.of hR.mo)
  injection he with he1 he2 he3
  subst he1 he3
  unfold maxLen at ht2 hc2 hm2
  have hcl : Hid (cs.length = p.chgs.length) := Lib.hid (by have h := congrArg List.length hR.eq; rw [List.length_map] at h; exact h)
  have kp0 := (Blk.new w 29 #[.string p.name, .string p.cur, .int .i64 p.from_.1, .int .i64 p.from_.2.1, .int .i64 p.from_.2.2, .int .i64 p.to_.1, .int .i64 p.to_.2.1, .int .i64 p.to_.2.2, .slice Am p.mets.length cm, .slice Af p.fees.length cf, .slice Ac cs.length cc, .int .i64 p.line, .int .i64 p.col]).alloc (.cells #[.int .i64 0, .int .i64 0, .int .i64 0] 34)
  have kr0 := Dec.Blk.new2 w (.cells #[.string p.name, .string p.cur, .int .i64 p.from_.1, .int .i64 p.from_.2.1, .int .i64 p.from_.2.2, .int .i64 p.to_.1, .int .i64 p.to_.2.1, .int .i64 p.to_.2.2, .slice Am p.mets.length cm, .slice Af p.fees.length cf, .slice Ac cs.length cc, .int .i64 p.line, .int .i64 p.col] 29) 34 #[.int .i64 0, .int .i64 0, .int .i64 0]
  have b0 := bl_alloc (bl_alloc (bl_refl w) (.cells #[.string p.name, .string p.cur, .int .i64 p.from_.1, .int .i64 p.from_.2.1, .int .i64 p.from_.2.2, .int .i64 p.to_.1, .int .i64 p.to_.2.1, .int .i64 p.to_.2.2, .slice Am p.mets.length cm, .slice Af p.fees.length cf, .slice Ac cs.length cc, .int .i64 p.line, .int .i64 p.col] 29)) (.cells #[.int .i64 0, .int .i64 0, .int .i64 0] 34)
  have hH := Lib.hid (fun W => horizon_any p Am Af Ac cm cf cc cs W hf ht)
  have hX1 := Lib.hid (hor_chk (p := p))
  obtain ⟨a0, a1, a2, a3, a4, a5, a6, a7, a8, a9, a10, a11, a12, _, _, _, _, _, _, _, _, _, _, _, _, _⟩ := kp0.c13
  go_enter Try.func7, Try.ntmps7
  go_wp2_with fail
  refine (hH.out _).mono ?_
  rintro e w1 ⟨rfl, hb1⟩
  have kp1 := kp0.call hb1
  have kr1 := kr0.call hb1
  have bb1 := bl_call b0 hb1
  clear a0 a1 a2 a3 a4 a5 a6 a7 a8 a9 a10 a11 a12 hH
  obtain ⟨a0, a1, a2, a3, a4, a5, a6, a7, a8, a9, a10, a11, a12, _, _, _, _, _, _, _, _, _, _, _, _, _⟩ := kp1.c13
  obtain ⟨q0, q1, q2, _, _, _⟩ := kr1.c3
  have lr := kr1.lt
  obtain ⟨H, hHe⟩ : ∃ H, horE p = H := ⟨_, rfl⟩
  rw [hHe] at hX1 ⊢
  by_cases hz : H = 0
  · subst hz
    have hor0 : Hid (horE p = 0) := Lib.hid hHe
    clear hX1 hHe
    go_wp2_with fail
    go_loopw [28] (fun v wr => ∃ k : Nat, k ≤ p.mets.length ∧ v = .int .i64 k ∧ Hid (∀ (j : Nat) (x : Met), j < k → p.mets[j]? = some x → metE p j x = 0) ∧ Blk wr w.heap.size 29 #[.string p.name, .string p.cur, .int .i64 p.from_.1, .int .i64 p.from_.2.1, .int .i64 p.from_.2.2, .int .i64 p.to_.1, .int .i64 p.to_.2.1, .int .i64 p.to_.2.2, .slice Am p.mets.length cm, .slice Af p.fees.length cf, .slice Ac cs.length cc, .int .i64 p.line, .int .i64 p.col] ∧ Blk wr (w.heap.size + 1) 34 #[.int .i64 0, .int .i64 0, .int .i64 0] ∧ Below w.heap.size w wr) (fun v _ => p.mets.length - (intOf v).toNat)
    case atStart => exact ⟨0, by omega, rfl, Lib.hid (fun j x hj => absurd hj (by omega)), kp1, kr1, bb1⟩
    case round =>
      clear kp1 kr1 bb1 lr q0 q1 q2 a0 a1 a2 a3 a4 a5 a6 a7 a8 a9 a10 a11 a12
      obtain ⟨k, hk, rfl, hno, kpr, krr, hbw⟩ := hrel
      have hRr := hR.below hbw
      have lp := kpr.lt
      have lr := krr.lt
      by_cases hlt : k < p.mets.length
      · obtain ⟨g0, rfl, hg0⟩ := hm3 (by omega)
        obtain ⟨m, hm⟩ : ∃ m, p.mets[k]? = some m := ⟨p.mets[k], List.getElem?_eq_getElem hlt⟩
        have r0 : (wr).cell? ⟨g0, k * 5, none⟩ = some (.string m.name) := Lies.at (f := metF) (l := p.mets) (Lies.of hRr.mo) (fun _ => rfl) (i := k) hm (j := 0) rfl
        have r1 : (wr).cell? ⟨g0, k * 5 + 1, none⟩ = some (.string m.unit) := Lies.at (f := metF) (l := p.mets) (Lies.of hRr.mo) (fun _ => rfl) (i := k) hm (j := 1) rfl
        have r2 : (wr).cell? ⟨g0, k * 5 + 2, none⟩ = some (.int .i64 m.max) := Lies.at (f := metF) (l := p.mets) (Lies.of hRr.mo) (fun _ => rfl) (i := k) hm (j := 2) rfl
        have r3 : (wr).cell? ⟨g0, k * 5 + 3, none⟩ = some (.int .i64 m.line) := Lies.at (f := metF) (l := p.mets) (Lies.of hRr.mo) (fun _ => rfl) (i := k) hm (j := 3) rfl
        have r4 : (wr).cell? ⟨g0, k * 5 + 4, none⟩ = some (.int .i64 m.col) := Lies.at (f := metF) (l := p.mets) (Lies.of hRr.mo) (fun _ => rfl) (i := k) hm (j := 4) rfl
        have gg0 : (0 : Int) ≤ (k : Int) := by omega
        have gg1 : (k : Int) < (p.mets.length : Int) := by omega
        have gg2 : (k : Int) < (cm : Int) := by have := hm1; omega
        have kp1 := kpr.alloc (.cells #[.string m.name, .string m.unit, .int .i64 m.max, .int .i64 m.line, .int .i64 m.col] 49)
        have kr1 := krr.alloc (.cells #[.string m.name, .string m.unit, .int .i64 m.max, .int .i64 m.line, .int .i64 m.col] 49)
        have km1 := Blk.new wr 49 #[.string m.name, .string m.unit, .int .i64 m.max, .int .i64 m.line, .int .i64 m.col]
        have hbw1 := bl_alloc hbw (.cells #[.string m.name, .string m.unit, .int .i64 m.max, .int .i64 m.line, .int .i64 m.col] 49)
        have hC := Lib.hid (meter_any p (some ⟨g0, 0, none⟩) Af Ac cm cf cc cs k m _ (hR.below hbw1).mo hm)
        obtain ⟨z0, z1, z2, z3, z4, _, _, _, _, _⟩ := km1.c5
        obtain ⟨a0, a1, a2, a3, a4, a5, a6, a7, a8, a9, a10, a11, a12, _, _, _, _, _, _, _, _, _, _, _, _, _⟩ := kp1.c13
        obtain ⟨E, hE⟩ : ∃ E, metE p k m = E := ⟨_, rfl⟩
        rw [hE] at hC
        replace hE := Lib.hid hE
        go_wp2_with fail
        refine hC.out.mono ?_
        rintro e w2 ⟨rfl, hb2⟩
        have kp2 := kp1.call hb2
        have kr2 := kr1.call hb2
        have km2 := km1.call hb2
        have hbw2 := bl_call hbw1 hb2
        clear hC z0 z1 z2 z3 z4 a0 a1 a2 a3 a4 a5 a6 a7 a8 a9 a10 a11 a12 r0 r1 r2 r3 r4 kp1 kr1 km1 hbw1
        obtain ⟨z0, z1, z2, z3, z4, _, _, _, _, _⟩ := km2.c5
        by_cases hEz : E = 0
        · subst hEz
          have hno2 : Hid (∀ (j : Nat) (x : Met), j < k + 1 → p.mets[j]? = some x → metE p j x = 0) := Lib.hid (fun j x hj hx => by
            rcases Nat.lt_or_ge j k with h1 | h1
            · exact hno.out j x h1 hx
            · obtain rfl : j = k := by omega
              rw [hm] at hx; injection hx with hx; subst hx; exact hE.out)
          clear hm
          go_wp2_with fail
          go_roundw
          case rel => exact ⟨k + 1, by omega, by go_num, hno2, kp2, kr2, hbw2⟩
          case measure => simp [intOf]; omega
        · have hEq : metE p k m ≠ 0 := by rw [hE.out]; exact hEz
          have hres : chkL p = (E, m.line, m.col) := by rw [← hE.out]; exact (chk_met hor0.out (ne_fst (pl := plM) hno.out hm hEq).2).trans (ne_fst (pl := plM) hno.out hm hEq).1
          have hne : (E != 0) = true := bne_iff_ne.mpr hEz
          have lr2 := kr2.lt
          obtain ⟨q0, q1, q2, _, _, _⟩ := kr2.c3
          replace hres := Lib.hid hres
          clear hm hEq
          go_wp2_with fail
          exact bodyPost_ret (results_cell_row rfl _ _ (w.heap.size + 1) _ #[.int .i64 E, .int .i64 m.line, .int .i64 m.col] (0, 0) _ rfl (((kr2.set_ 0 (.int .i64 E)).set_ 1 (.int .i64 m.line)).set_ 2 (.int .i64 m.col)) Try.underlying34 rfl (by kernel_rfl)) rfl
            ⟨by rw [hres.out], bl_set (bl_set (bl_set hbw2 (by show w.heap.size ≤ w.heap.size + 1; omega) _) (by show w.heap.size ≤ w.heap.size + 1; omega) _) (by show w.heap.size ≤ w.heap.size + 1; omega) _⟩
      · obtain rfl : k = p.mets.length := by omega
        have hmet0 := Lib.hid (all_fst (pl := plM) hno.out)
        obtain ⟨a0, a1, a2, a3, a4, a5, a6, a7, a8, a9, a10, a11, a12, _, _, _, _, _, _, _, _, _, _, _, _, _⟩ := kpr.c13
        go_wp2_with fail
        clear a0 a1 a2 a3 a4 a5 a6 a7 a8 a9 a10 a11 a12 hlt hk
        go_loopw [48] (fun v wr => ∃ k : Nat, k ≤ p.fees.length ∧ v = .int .i64 k ∧ Hid (∀ (j : Nat) (x : Fee), j < k → p.fees[j]? = some x → feeE p j x = 0) ∧ Blk wr w.heap.size 29 #[.string p.name, .string p.cur, .int .i64 p.from_.1, .int .i64 p.from_.2.1, .int .i64 p.from_.2.2, .int .i64 p.to_.1, .int .i64 p.to_.2.1, .int .i64 p.to_.2.2, .slice Am p.mets.length cm, .slice Af p.fees.length cf, .slice Ac cs.length cc, .int .i64 p.line, .int .i64 p.col] ∧ Blk wr (w.heap.size + 1) 34 #[.int .i64 0, .int .i64 0, .int .i64 0] ∧ Below w.heap.size w wr) (fun v _ => p.fees.length - (intOf v).toNat)
        case atStart => exact ⟨0, by omega, rfl, Lib.hid (fun j x hj => absurd hj (by omega)), kpr, krr, hbw⟩
        case round =>
          clear kpr krr hbw hRr lp lr hno
          obtain ⟨k, hk, rfl, hno, kpr, krr, hbw⟩ := hrel
          have hRr := hR.below hbw
          have lp := kpr.lt
          have lr := krr.lt
          by_cases hlt : k < p.fees.length
          · obtain ⟨g0, rfl, hg0⟩ := ht3 (by omega)
            obtain ⟨m, hm⟩ : ∃ m, p.fees[k]? = some m := ⟨p.fees[k], List.getElem?_eq_getElem hlt⟩
            have r0 : (wr).cell? ⟨g0, k * 10, none⟩ = some (.int .i64 m.amount) := Lies.at (f := feeF) (l := p.fees) (Lies.of hRr.fo) (fun _ => rfl) (i := k) hm (j := 0) rfl
            have r1 : (wr).cell? ⟨g0, k * 10 + 1, none⟩ = some (.bool m.win.has) := Lies.at (f := feeF) (l := p.fees) (Lies.of hRr.fo) (fun _ => rfl) (i := k) hm (j := 1) rfl
            have r2 : (wr).cell? ⟨g0, k * 10 + 2, none⟩ = some (.int .i64 m.win.from_.1) := Lies.at (f := feeF) (l := p.fees) (Lies.of hRr.fo) (fun _ => rfl) (i := k) hm (j := 2) rfl
            have r3 : (wr).cell? ⟨g0, k * 10 + 3, none⟩ = some (.int .i64 m.win.from_.2.1) := Lies.at (f := feeF) (l := p.fees) (Lies.of hRr.fo) (fun _ => rfl) (i := k) hm (j := 3) rfl
            have r4 : (wr).cell? ⟨g0, k * 10 + 4, none⟩ = some (.int .i64 m.win.from_.2.2) := Lies.at (f := feeF) (l := p.fees) (Lies.of hRr.fo) (fun _ => rfl) (i := k) hm (j := 4) rfl
            have r5 : (wr).cell? ⟨g0, k * 10 + 5, none⟩ = some (.int .i64 m.win.to_.1) := Lies.at (f := feeF) (l := p.fees) (Lies.of hRr.fo) (fun _ => rfl) (i := k) hm (j := 5) rfl
            have r6 : (wr).cell? ⟨g0, k * 10 + 6, none⟩ = some (.int .i64 m.win.to_.2.1) := Lies.at (f := feeF) (l := p.fees) (Lies.of hRr.fo) (fun _ => rfl) (i := k) hm (j := 6) rfl
            have r7 : (wr).cell? ⟨g0, k * 10 + 7, none⟩ = some (.int .i64 m.win.to_.2.2) := Lies.at (f := feeF) (l := p.fees) (Lies.of hRr.fo) (fun _ => rfl) (i := k) hm (j := 7) rfl
            have r8 : (wr).cell? ⟨g0, k * 10 + 8, none⟩ = some (.int .i64 m.line) := Lies.at (f := feeF) (l := p.fees) (Lies.of hRr.fo) (fun _ => rfl) (i := k) hm (j := 8) rfl
            have r9 : (wr).cell? ⟨g0, k * 10 + 9, none⟩ = some (.int .i64 m.col) := Lies.at (f := feeF) (l := p.fees) (Lies.of hRr.fo) (fun _ => rfl) (i := k) hm (j := 9) rfl
            have gg0 : (0 : Int) ≤ (k : Int) := by omega
            have gg1 : (k : Int) < (p.fees.length : Int) := by omega
            have gg2 : (k : Int) < (cf : Int) := by have := ht1; omega
            have kp1 := kpr.alloc (.cells #[.int .i64 m.amount, .bool m.win.has, .int .i64 m.win.from_.1, .int .i64 m.win.from_.2.1, .int .i64 m.win.from_.2.2, .int .i64 m.win.to_.1, .int .i64 m.win.to_.2.1, .int .i64 m.win.to_.2.2, .int .i64 m.line, .int .i64 m.col] 54)
            have kr1 := krr.alloc (.cells #[.int .i64 m.amount, .bool m.win.has, .int .i64 m.win.from_.1, .int .i64 m.win.from_.2.1, .int .i64 m.win.from_.2.2, .int .i64 m.win.to_.1, .int .i64 m.win.to_.2.1, .int .i64 m.win.to_.2.2, .int .i64 m.line, .int .i64 m.col] 54)
            have km1 := Blk.new wr 54 #[.int .i64 m.amount, .bool m.win.has, .int .i64 m.win.from_.1, .int .i64 m.win.from_.2.1, .int .i64 m.win.from_.2.2, .int .i64 m.win.to_.1, .int .i64 m.win.to_.2.1, .int .i64 m.win.to_.2.2, .int .i64 m.line, .int .i64 m.col]
            have hbw1 := bl_alloc hbw (.cells #[.int .i64 m.amount, .bool m.win.has, .int .i64 m.win.from_.1, .int .i64 m.win.from_.2.1, .int .i64 m.win.from_.2.2, .int .i64 m.win.to_.1, .int .i64 m.win.to_.2.1, .int .i64 m.win.to_.2.2, .int .i64 m.line, .int .i64 m.col] 54)
            have hC := Lib.hid (fee_any p Am (some ⟨g0, 0, none⟩) Ac cm cf cc cs k m _ (hR.below hbw1).fo hm hf ht (wok_wg (hP.fees m (List.mem_of_getElem? hm)).2))
            obtain ⟨z0, z1, z2, z3, z4, z5, z6, z7, z8, z9, _, _, _, _, _, _, _, _, _, _⟩ := km1.c10
            obtain ⟨a0, a1, a2, a3, a4, a5, a6, a7, a8, a9, a10, a11, a12, _, _, _, _, _, _, _, _, _, _, _, _, _⟩ := kp1.c13
            obtain ⟨E, hE⟩ : ∃ E, feeE p k m = E := ⟨_, rfl⟩
            rw [hE] at hC
            replace hE := Lib.hid hE
            go_wp2_with fail
            refine hC.out.mono ?_
            rintro e w2 ⟨rfl, hb2⟩
            have kp2 := kp1.call hb2
            have kr2 := kr1.call hb2
            have km2 := km1.call hb2
            have hbw2 := bl_call hbw1 hb2
            clear hC z0 z1 z2 z3 z4 z5 z6 z7 z8 z9 a0 a1 a2 a3 a4 a5 a6 a7 a8 a9 a10 a11 a12 r0 r1 r2 r3 r4 r5 r6 r7 r8 r9 kp1 kr1 km1 hbw1
            obtain ⟨z0, z1, z2, z3, z4, z5, z6, z7, z8, z9, _, _, _, _, _, _, _, _, _, _⟩ := km2.c10
            by_cases hEz : E = 0
            · subst hEz
              have hno2 : Hid (∀ (j : Nat) (x : Fee), j < k + 1 → p.fees[j]? = some x → feeE p j x = 0) := Lib.hid (fun j x hj hx => by
                rcases Nat.lt_or_ge j k with h1 | h1
                · exact hno.out j x h1 hx
                · obtain rfl : j = k := by omega
                  rw [hm] at hx; injection hx with hx; subst hx; exact hE.out)
              clear hm
              go_wp2_with fail
              go_roundw
              case rel => exact ⟨k + 1, by omega, by go_num, hno2, kp2, kr2, hbw2⟩
              case measure => simp [intOf]; omega
            · have hEq : feeE p k m ≠ 0 := by rw [hE.out]; exact hEz
              have hres : chkL p = (E, m.line, m.col) := by rw [← hE.out]; exact (chk_fee hor0.out hmet0.out (ne_fst (pl := plF) hno.out hm hEq).2).trans (ne_fst (pl := plF) hno.out hm hEq).1
              have hne : (E != 0) = true := bne_iff_ne.mpr hEz
              have lr2 := kr2.lt
              obtain ⟨q0, q1, q2, _, _, _⟩ := kr2.c3
              replace hres := Lib.hid hres
              clear hm hEq
              go_wp2_with fail
              exact bodyPost_ret (results_cell_row rfl _ _ (w.heap.size + 1) _ #[.int .i64 E, .int .i64 m.line, .int .i64 m.col] (0, 0) _ rfl (((kr2.set_ 0 (.int .i64 E)).set_ 1 (.int .i64 m.line)).set_ 2 (.int .i64 m.col)) Try.underlying34 rfl (by kernel_rfl)) rfl
                ⟨by rw [hres.out], bl_set (bl_set (bl_set hbw2 (by show w.heap.size ≤ w.heap.size + 1; omega) _) (by show w.heap.size ≤ w.heap.size + 1; omega) _) (by show w.heap.size ≤ w.heap.size + 1; omega) _⟩
          · obtain rfl : k = p.fees.length := by omega
            have hfee0 := Lib.hid (all_fst (pl := plF) hno.out)
            have hfl := Lib.hid (feeE_len fun j x hx => hno.out j x (List.getElem?_eq_some_iff.1 hx).1 hx)
            obtain ⟨a0, a1, a2, a3, a4, a5, a6, a7, a8, a9, a10, a11, a12, _, _, _, _, _, _, _, _, _, _, _, _, _⟩ := kpr.c13
            go_wp2_with fail
            clear a0 a1 a2 a3 a4 a5 a6 a7 a8 a9 a10 a11 a12 hlt hk
            go_loopw [68] (fun v wr => ∃ k : Nat, k ≤ cs.length ∧ v = .int .i64 k ∧ Hid (∀ (j : Nat) (x : Chg), j < k → p.chgs[j]? = some x → chgE p j x = 0) ∧ Blk wr w.heap.size 29 #[.string p.name, .string p.cur, .int .i64 p.from_.1, .int .i64 p.from_.2.1, .int .i64 p.from_.2.2, .int .i64 p.to_.1, .int .i64 p.to_.2.1, .int .i64 p.to_.2.2, .slice Am p.mets.length cm, .slice Af p.fees.length cf, .slice Ac cs.length cc, .int .i64 p.line, .int .i64 p.col] ∧ Blk wr (w.heap.size + 1) 34 #[.int .i64 0, .int .i64 0, .int .i64 0] ∧ Below w.heap.size w wr) (fun v _ => cs.length - (intOf v).toNat)
            case atStart => exact ⟨0, by omega, rfl, Lib.hid (fun j x hj => absurd hj (by omega)), kpr, krr, hbw⟩
            case round =>
              clear kpr krr hbw hRr lp lr hno
              obtain ⟨k, hk, rfl, hno, kpr, krr, hbw⟩ := hrel
              have hRr := hR.below hbw
              have lp := kpr.lt
              have lr := krr.lt
              by_cases hlt : k < cs.length
              · obtain ⟨g0, rfl, hg0⟩ := hc3 (by omega)
                obtain ⟨x, hmx⟩ : ∃ m, cs[k]? = some m := ⟨cs[k], List.getElem?_eq_getElem hlt⟩
                have hmem := List.mem_of_getElem? hmx
                have hm : p.chgs[k]? = some x.1 := by rw [← hR.eq, List.getElem?_map, hmx]; rfl
                obtain ⟨m, tv, av⟩ := x
                obtain ⟨At, ct, rfl, _, _, _⟩ := Lies.open (f := tierF) (l := m.tiers) (Lies.of (hR.ne _ hmem).1)
                obtain ⟨Aa, ca, rfl, _, _, _⟩ := Lies.open (f := adjF) (l := m.adjs) (Lies.of (hR.ne _ hmem).2)
                dsimp only at hm
                have r0 : (wr).cell? ⟨g0, k * 16, none⟩ = some (.string m.meter) := Lies.at (f := chgF) (l := cs) (Lies.of hRr.co) (fun _ => rfl) (i := k) hmx (j := 0) rfl
                have r1 : (wr).cell? ⟨g0, k * 16 + 1, none⟩ = some (.bool m.win.has) := Lies.at (f := chgF) (l := cs) (Lies.of hRr.co) (fun _ => rfl) (i := k) hmx (j := 1) rfl
                have r2 : (wr).cell? ⟨g0, k * 16 + 2, none⟩ = some (.int .i64 m.win.from_.1) := Lies.at (f := chgF) (l := cs) (Lies.of hRr.co) (fun _ => rfl) (i := k) hmx (j := 2) rfl
                have r3 : (wr).cell? ⟨g0, k * 16 + 3, none⟩ = some (.int .i64 m.win.from_.2.1) := Lies.at (f := chgF) (l := cs) (Lies.of hRr.co) (fun _ => rfl) (i := k) hmx (j := 3) rfl
                have r4 : (wr).cell? ⟨g0, k * 16 + 4, none⟩ = some (.int .i64 m.win.from_.2.2) := Lies.at (f := chgF) (l := cs) (Lies.of hRr.co) (fun _ => rfl) (i := k) hmx (j := 4) rfl
                have r5 : (wr).cell? ⟨g0, k * 16 + 5, none⟩ = some (.int .i64 m.win.to_.1) := Lies.at (f := chgF) (l := cs) (Lies.of hRr.co) (fun _ => rfl) (i := k) hmx (j := 5) rfl
                have r6 : (wr).cell? ⟨g0, k * 16 + 6, none⟩ = some (.int .i64 m.win.to_.2.1) := Lies.at (f := chgF) (l := cs) (Lies.of hRr.co) (fun _ => rfl) (i := k) hmx (j := 6) rfl
                have r7 : (wr).cell? ⟨g0, k * 16 + 7, none⟩ = some (.int .i64 m.win.to_.2.2) := Lies.at (f := chgF) (l := cs) (Lies.of hRr.co) (fun _ => rfl) (i := k) hmx (j := 7) rfl
                have r8 : (wr).cell? ⟨g0, k * 16 + 8, none⟩ = some (.int .i64 m.allow) := Lies.at (f := chgF) (l := cs) (Lies.of hRr.co) (fun _ => rfl) (i := k) hmx (j := 8) rfl
                have r9 : (wr).cell? ⟨g0, k * 16 + 9, none⟩ = some (.int .i64 m.block) := Lies.at (f := chgF) (l := cs) (Lies.of hRr.co) (fun _ => rfl) (i := k) hmx (j := 9) rfl
                have r10 : (wr).cell? ⟨g0, k * 16 + 10, none⟩ = some (.int .i64 m.kind) := Lies.at (f := chgF) (l := cs) (Lies.of hRr.co) (fun _ => rfl) (i := k) hmx (j := 10) rfl
                have r11 : (wr).cell? ⟨g0, k * 16 + 11, none⟩ = some (.slice At m.tiers.length ct) := Lies.at (f := chgF) (l := cs) (Lies.of hRr.co) (fun _ => rfl) (i := k) hmx (j := 11) rfl
                have r12 : (wr).cell? ⟨g0, k * 16 + 12, none⟩ = some (.int .i64 m.mode) := Lies.at (f := chgF) (l := cs) (Lies.of hRr.co) (fun _ => rfl) (i := k) hmx (j := 12) rfl
                have r13 : (wr).cell? ⟨g0, k * 16 + 13, none⟩ = some (.slice Aa m.adjs.length ca) := Lies.at (f := chgF) (l := cs) (Lies.of hRr.co) (fun _ => rfl) (i := k) hmx (j := 13) rfl
                have r14 : (wr).cell? ⟨g0, k * 16 + 14, none⟩ = some (.int .i64 m.line) := Lies.at (f := chgF) (l := cs) (Lies.of hRr.co) (fun _ => rfl) (i := k) hmx (j := 14) rfl
                have r15 : (wr).cell? ⟨g0, k * 16 + 15, none⟩ = some (.int .i64 m.col) := Lies.at (f := chgF) (l := cs) (Lies.of hRr.co) (fun _ => rfl) (i := k) hmx (j := 15) rfl
                have gg0 : (0 : Int) ≤ (k : Int) := by omega
                have gg1 : (k : Int) < (cs.length : Int) := by omega
                have gg2 : (k : Int) < (cc : Int) := by have := hc1; omega
                have kp1 := kpr.alloc (.cells #[.string m.meter, .bool m.win.has, .int .i64 m.win.from_.1, .int .i64 m.win.from_.2.1, .int .i64 m.win.from_.2.2, .int .i64 m.win.to_.1, .int .i64 m.win.to_.2.1, .int .i64 m.win.to_.2.2, .int .i64 m.allow, .int .i64 m.block, .int .i64 m.kind, .slice At m.tiers.length ct, .int .i64 m.mode, .slice Aa m.adjs.length ca, .int .i64 m.line, .int .i64 m.col] 58)
                have kr1 := krr.alloc (.cells #[.string m.meter, .bool m.win.has, .int .i64 m.win.from_.1, .int .i64 m.win.from_.2.1, .int .i64 m.win.from_.2.2, .int .i64 m.win.to_.1, .int .i64 m.win.to_.2.1, .int .i64 m.win.to_.2.2, .int .i64 m.allow, .int .i64 m.block, .int .i64 m.kind, .slice At m.tiers.length ct, .int .i64 m.mode, .slice Aa m.adjs.length ca, .int .i64 m.line, .int .i64 m.col] 58)
                have km1 := Blk.new wr 58 #[.string m.meter, .bool m.win.has, .int .i64 m.win.from_.1, .int .i64 m.win.from_.2.1, .int .i64 m.win.from_.2.2, .int .i64 m.win.to_.1, .int .i64 m.win.to_.2.1, .int .i64 m.win.to_.2.2, .int .i64 m.allow, .int .i64 m.block, .int .i64 m.kind, .slice At m.tiers.length ct, .int .i64 m.mode, .slice Aa m.adjs.length ca, .int .i64 m.line, .int .i64 m.col]
                have hbw1 := bl_alloc hbw (.cells #[.string m.meter, .bool m.win.has, .int .i64 m.win.from_.1, .int .i64 m.win.from_.2.1, .int .i64 m.win.from_.2.2, .int .i64 m.win.to_.1, .int .i64 m.win.to_.2.1, .int .i64 m.win.to_.2.2, .int .i64 m.allow, .int .i64 m.block, .int .i64 m.kind, .slice At m.tiers.length ct, .int .i64 m.mode, .slice Aa m.adjs.length ca, .int .i64 m.line, .int .i64 m.col] 58)
                have hC := Lib.hid (ccharge_any p Am Af (some ⟨g0, 0, none⟩) cm cf cc cs k m At Aa ct ca _ (hR.below hbw1) hmx hf ht (wok_wg (hP.chgs m (List.mem_of_getElem? hm)).win) (cok_upto (hP.chgs m (List.mem_of_getElem? hm))))
                obtain ⟨z0, z1, z2, z3, z4, z5, z6, z7, z8, z9, z10, z11, z12, z13, z14, z15, _, _, _, _, _, _, _, _, _, _, _, _, _, _, _, _⟩ := km1.c16
                obtain ⟨a0, a1, a2, a3, a4, a5, a6, a7, a8, a9, a10, a11, a12, _, _, _, _, _, _, _, _, _, _, _, _, _⟩ := kp1.c13
                obtain ⟨E, hE⟩ : ∃ E, chgE p k m = E := ⟨_, rfl⟩
                rw [hE] at hC
                replace hE := Lib.hid hE
                go_wp2_with fail
                refine hC.out.mono ?_
                rintro e w2 ⟨rfl, hb2⟩
                have kp2 := kp1.call hb2
                have kr2 := kr1.call hb2
                have km2 := km1.call hb2
                have hbw2 := bl_call hbw1 hb2
                clear hC z0 z1 z2 z3 z4 z5 z6 z7 z8 z9 z10 z11 z12 z13 z14 z15 a0 a1 a2 a3 a4 a5 a6 a7 a8 a9 a10 a11 a12 r0 r1 r2 r3 r4 r5 r6 r7 r8 r9 r10 r11 r12 r13 r14 r15 kp1 kr1 km1 hbw1
                obtain ⟨z0, z1, z2, z3, z4, z5, z6, z7, z8, z9, z10, z11, z12, z13, z14, z15, _, _, _, _, _, _, _, _, _, _, _, _, _, _, _, _⟩ := km2.c16
                by_cases hEz : E = 0
                · subst hEz
                  have hno2 : Hid (∀ (j : Nat) (x : Chg), j < k + 1 → p.chgs[j]? = some x → chgE p j x = 0) := Lib.hid (fun j x hj hx => by
                    rcases Nat.lt_or_ge j k with h1 | h1
                    · exact hno.out j x h1 hx
                    · obtain rfl : j = k := by omega
                      rw [hm] at hx; injection hx with hx; subst hx; exact hE.out)
                  clear hm
                  go_wp2_with fail
                  go_roundw
                  case rel => exact ⟨k + 1, by omega, by go_num, hno2, kp2, kr2, hbw2⟩
                  case measure => simp [intOf]; omega
                · have hEq : chgE p k m ≠ 0 := by rw [hE.out]; exact hEz
                  have hres : chkL p = (E, m.line, m.col) := by rw [← hE.out]; exact (chk_chg hor0.out hmet0.out hfee0.out (ne_fst (pl := plC) hno.out hm hEq).2).trans (ne_fst (pl := plC) hno.out hm hEq).1
                  have hne : (E != 0) = true := bne_iff_ne.mpr hEz
                  have lr2 := kr2.lt
                  obtain ⟨q0, q1, q2, _, _, _⟩ := kr2.c3
                  replace hres := Lib.hid hres
                  clear hm hEq
                  go_wp2_with fail
                  exact bodyPost_ret (results_cell_row rfl _ _ (w.heap.size + 1) _ #[.int .i64 E, .int .i64 m.line, .int .i64 m.col] (0, 0) _ rfl (((kr2.set_ 0 (.int .i64 E)).set_ 1 (.int .i64 m.line)).set_ 2 (.int .i64 m.col)) Try.underlying34 rfl (by kernel_rfl)) rfl
                    ⟨by rw [hres.out], bl_set (bl_set (bl_set hbw2 (by show w.heap.size ≤ w.heap.size + 1; omega) _) (by show w.heap.size ≤ w.heap.size + 1; omega) _) (by show w.heap.size ≤ w.heap.size + 1; omega) _⟩
              · obtain rfl : k = cs.length := by omega
                have hchg0 := Lib.hid (all_fst (pl := plC) (l := p.chgs) (fun j x hj hx => hno.out j x (by have := hcl.out; omega) hx))
                have hall := Lib.hid (fun (j : Nat) (x : Chg) (hx : p.chgs[j]? = some x) => hno.out j x (by have := hcl.out; have := (List.getElem?_eq_some_iff.1 hx).1; omega) hx)
                have hBN := pok_bnum hP (mem_at fun j x _ hx => chgE_block (hall.out j x hx))
                have hl8 := chgE_len hall.out
                have hB := Lib.hid (pbound_any p Am Af Ac cm cf cc cs _ hRr hBN ⟨by have := hfl.out; omega, by have := hcl.out; omega⟩)
                have hend := Lib.hid (chk_end hor0.out hmet0.out hfee0.out hchg0.out)
                clear hBN hl8
                obtain ⟨a0, a1, a2, a3, a4, a5, a6, a7, a8, a9, a10, a11, a12, _, _, _, _, _, _, _, _, _, _, _, _, _⟩ := kpr.c13
                go_wp2_with fail
                refine hB.out.mono ?_
                rintro e w2 ⟨rfl, hb2⟩
                have kp2 := kpr.call hb2
                have kr2 := krr.call hb2
                have hbw2 := bl_call hbw hb2
                have lr2 := kr2.lt
                clear a0 a1 a2 a3 a4 a5 a6 a7 a8 a9 a10 a11 a12
                obtain ⟨a0, a1, a2, a3, a4, a5, a6, a7, a8, a9, a10, a11, a12, _, _, _, _, _, _, _, _, _, _, _, _, _⟩ := kp2.c13
                obtain ⟨q0, q1, q2, _, _, _⟩ := kr2.c3
                cases hb : boundO p with
                | none =>
                  have hres := hend.out
                  rw [if_pos hb] at hres
                  replace hres := Lib.hid hres
                  go_wp2_with fail
                  exact bodyPost_ret (results_cell_row rfl _ _ (w.heap.size + 1) _ #[.int .i64 6, .int .i64 p.line, .int .i64 p.col] (0, 0) _ rfl (((kr2.set_ 0 (.int .i64 6)).set_ 1 (.int .i64 p.line)).set_ 2 (.int .i64 p.col)) Try.underlying34 rfl (by kernel_rfl)) rfl
                    ⟨by rw [hres.out], bl_set (bl_set (bl_set hbw2 (by show w.heap.size ≤ w.heap.size + 1; omega) _) (by show w.heap.size ≤ w.heap.size + 1; omega) _) (by show w.heap.size ≤ w.heap.size + 1; omega) _⟩
                | some v =>
                  have hres := hend.out
                  rw [if_neg (by rw [hb]; exact Option.some_ne_none v)] at hres
                  replace hres := Lib.hid hres
                  go_wp2_with fail
                  exact bodyPost_ret (results_cell_row rfl _ _ (w.heap.size + 1) _ #[.int .i64 0, .int .i64 0, .int .i64 0] (0, 0) _ rfl (((kr2.set_ 0 (.int .i64 0)).set_ 1 (.int .i64 0)).set_ 2 (.int .i64 0)) Try.underlying34 rfl (by kernel_rfl)) rfl
                    ⟨by rw [hres.out], bl_set (bl_set (bl_set hbw2 (by show w.heap.size ≤ w.heap.size + 1; omega) _) (by show w.heap.size ≤ w.heap.size + 1; omega) _) (by show w.heap.size ≤ w.heap.size + 1; omega) _⟩
  · have hne : (H != 0) = true := bne_iff_ne.mpr hz
    have hres := hX1.out hz
    clear hHe hX1
    go_wp2_with fail
    exact bodyPost_ret (results_cell_row rfl _ _ (w.heap.size + 1) _ #[.int .i64 H, .int .i64 p.line, .int .i64 p.col] (0, 0) _ rfl (((kr1.set_ 0 (.int .i64 H)).set_ 1 (.int .i64 p.line)).set_ 2 (.int .i64 p.col)) Try.underlying34 rfl (by kernel_rfl)) rfl
      ⟨by rw [hres], bl_set (bl_set (bl_set bb1 (by show w.heap.size ≤ w.heap.size + 1; omega) _) (by show w.heap.size ≤ w.heap.size + 1; omega) _) (by show w.heap.size ≤ w.heap.size + 1; omega) _⟩
end Go.Proofs.Ytcgkfgklggjmaaa.Par
end
section
namespace Go.Proofs.Ytcgkfgklggjmaaa.Par
set_option linter.unusedVariables false
set_option linter.unusedSimpArgs false
open Go.RowKit
set_option maxHeartbeats 16000000 in
set_option maxRecDepth 100000 in
theorem rplan9_any (p : Plan) (Am Af Ac : Option Addr) (cm cf cc : Nat) (cs : List CT) (w : World) {B : Nat} (hR : Rows w B p (.slice Am p.mets.length cm) (.slice Af p.fees.length cf) (.slice Ac cs.length cc) cs) (hP : POk p) :
    Calls Try.prog 8 #[.agg #[.string p.name, .string p.cur, .int .i64 p.from_.1, .int .i64 p.from_.2.1, .int .i64 p.from_.2.2, .int .i64 p.to_.1, .int .i64 p.to_.2.1, .int .i64 p.to_.2.2, .slice Am p.mets.length cm, .slice Af p.fees.length cf, .slice Ac cs.length cc, .int .i64 p.line, .int .i64 p.col]] w fun e w' => e = .returned (.tuple #[.int .i64 (chkL p).1, .int .i64 (chkL p).2.1, .int .i64 (chkL p).2.2]) ∧ Below w.heap.size w w' := by
  have hf := dok_good hP.from_
  have ht := dok_good hP.to_
  obtain ⟨_, _, he, ht1, ht2, ht3⟩ := Lies.open (f := feeF) (l := p.fees) (Lies.of hR.fo)
  injection he with he1 he2 he3
  subst he1 he3
  obtain ⟨_, _, he, hc1, hc2, hc3⟩ := Lies.open (f := chgF) (l := cs) (Lies.of hR.co)
  injection he with he1 he2 he3
  subst he1 he3
  obtain ⟨_, _, he, hm1, hm2, hm3⟩ := Lies.open (f := metF) (l := p.mets) (Lies.of hR.mo)
  injection he with he1 he2 he3
  subst he1 he3
  unfold maxLen at ht2 hc2 hm2
  have hcl : Hid (cs.length = p.chgs.length) := Lib.hid (by have h := congrArg List.length hR.eq; rw [List.length_map] at h; exact h)
  have kp0 := (Blk.new w 29 #[.string p.name, .string p.cur, .int .i64 p.from_.1, .int .i64 p.from_.2.1, .int .i64 p.from_.2.2, .int .i64 p.to_.1, .int .i64 p.to_.2.1, .int .i64 p.to_.2.2, .slice Am p.mets.length cm, .slice Af p.fees.length cf, .slice Ac cs.length cc, .int .i64 p.line, .int .i64 p.col]).drew
  have b0 := bl_drew (bl_alloc (bl_refl w) (.cells #[.string p.name, .string p.cur, .int .i64 p.from_.1, .int .i64 p.from_.2.1, .int .i64 p.from_.2.2, .int .i64 p.to_.1, .int .i64 p.to_.2.1, .int .i64 p.to_.2.2, .slice Am p.mets.length cm, .slice Af p.fees.length cf, .slice Ac cs.length cc, .int .i64 p.line, .int .i64 p.col] 29))
  have kL : LB w (w.alloc (.cells #[.string p.name, .string p.cur, .int .i64 p.from_.1, .int .i64 p.from_.2.1, .int .i64 p.from_.2.2, .int .i64 p.to_.1, .int .i64 p.to_.2.1, .int .i64 p.to_.2.2, .slice Am p.mets.length cm, .slice Af p.fees.length cf, .slice Ac cs.length cc, .int .i64 p.line, .int .i64 p.col] 29)).drew := LB.mk b0
  have hA := Lib.hid (fun W => num9 ht W)
  have hB := Lib.hid (fun W => num9 hf W)
  have hX1 := Lib.hid (hor_chk (p := p))
  obtain ⟨n1, n2⟩ := numT_bd hf
  obtain ⟨n3, n4⟩ := numT_bd ht
  obtain ⟨H, hHe⟩ : ∃ H, horE p = H := ⟨_, rfl⟩
  rw [hHe] at hX1
  have hHe2 := Lib.hid hHe
  unfold horE at hHe
  generalize numT p.from_ = P1 at *
  generalize numT p.to_ = P2 at *
  have hw1 : IntKind.i64.wrap (P2 - P1) = P2 - P1 := by rw [IntKind.wrap_i64]; omega
  have hw2 : IntKind.i64.wrap (P2 - P1 + 1) = P2 - P1 + 1 := by rw [IntKind.wrap_i64]; omega
  obtain ⟨a0, a1, a2, a3, a4, a5, a6, a7, a8, a9, a10, a11, a12, _, _, _, _, _, _, _, _, _, _, _, _, _⟩ := kp0.c13
  go_enter Try.func8, Try.ntmps8
  go_upto_region 1 with fail
  go_region_held3 (fun w' => w'.cell? ⟨w.heap.size, 0, none⟩ = some (.string p.name) ∧ w'.cell? ⟨w.heap.size, 1, none⟩ = some (.string p.cur) ∧ w'.cell? ⟨w.heap.size, 2, none⟩ = some (.int .i64 p.from_.1) ∧ w'.cell? ⟨w.heap.size, 3, none⟩ = some (.int .i64 p.from_.2.1) ∧ w'.cell? ⟨w.heap.size, 4, none⟩ = some (.int .i64 p.from_.2.2) ∧ w'.cell? ⟨w.heap.size, 5, none⟩ = some (.int .i64 p.to_.1) ∧ w'.cell? ⟨w.heap.size, 6, none⟩ = some (.int .i64 p.to_.2.1) ∧ w'.cell? ⟨w.heap.size, 7, none⟩ = some (.int .i64 p.to_.2.2) ∧ w'.cell? ⟨w.heap.size, 8, none⟩ = some (.slice Am p.mets.length cm) ∧ w'.cell? ⟨w.heap.size, 9, none⟩ = some (.slice Af p.fees.length cf) ∧ w'.cell? ⟨w.heap.size, 10, none⟩ = some (.slice Ac cs.length cc) ∧ w'.cell? ⟨w.heap.size, 11, none⟩ = some (.int .i64 p.line) ∧ w'.cell? ⟨w.heap.size, 12, none⟩ = some (.int .i64 p.col))
    (refine ⟨?_, ?_, ?_, ?_, ?_, ?_, ?_, ?_, ?_, ?_, ?_, ?_, ?_⟩ <;> first | with_reducible assumption | (go_keep; done))
    ((first | (go_at_call 17; (with_reducible refine (hA.out _).mono ?_); rintro e' w5 ⟨rfl, hb5⟩; (have j1 := kp0.call hb5); (have jL := kL.call hb5); obtain ⟨y0, y1, y2, y3, y4, y5, y6, y7, y8, y9, y10, y11, y12, _, _, _, _, _, _, _, _, _, _, _, _, _⟩ := j1.c13) | (go_at_call 17; (with_reducible refine (hB.out _).mono ?_); rintro e' w6 ⟨rfl, hb6⟩; (have i1 := j1.call hb6); (have iL := jL.call hb6); obtain ⟨d0, d1, d2, d3, d4, d5, d6, d7, d8, d9, d10, d11, d12, _, _, _, _, _, _, _, _, _, _, _, _, _⟩ := i1.c13)))
  all_goals clear hA hB a0 a1 a2 a3 a4 a5 a6 a7 a8 a9 a10 a11 a12 kp0 b0 kL
  have kpr := i1
  have hbw := iL.out
  clear i1 iL j1 jL
  by_cases hz : H = 0
  · subst hz
    have hor0 := hHe2
    have hd1 : ¬ P2 < P1 := fun h => by rw [if_pos h] at hHe; cases hHe
    have hd2 : ¬ 4000 ≤ P2 - P1 := fun h => by rw [if_neg hd1, if_pos h] at hHe; cases hHe
    have hd3 : ¬ (P2 - P1 + 1 < 1) := by omega
    have hd4 : ¬ (4000 < P2 - P1 + 1) := by omega
    clear hX1 hHe hHe2
    go_wp2_with fail
    clear y0 y1 y2 y3 y4 y5 y6 y7 y8 y9 y10 y11 y12 d0 d1 d2 d3 d4 d5 d6 d7 d8 d9 d10 d11 d12
    go_loopw [38] (fun v wr => ∃ k : Nat, k ≤ p.mets.length ∧ v = .int .i64 k ∧ Hid (∀ (j : Nat) (x : Met), j < k → p.mets[j]? = some x → metE p j x = 0) ∧ Blk wr w.heap.size 29 #[.string p.name, .string p.cur, .int .i64 p.from_.1, .int .i64 p.from_.2.1, .int .i64 p.from_.2.2, .int .i64 p.to_.1, .int .i64 p.to_.2.1, .int .i64 p.to_.2.2, .slice Am p.mets.length cm, .slice Af p.fees.length cf, .slice Ac cs.length cc, .int .i64 p.line, .int .i64 p.col] ∧ Below w.heap.size w wr) (fun v _ => p.mets.length - (intOf v).toNat)
    case atStart => exact ⟨0, by omega, rfl, Lib.hid (fun j x hj => absurd hj (by omega)), kpr, hbw⟩
    case round =>
      clear kpr hbw
      obtain ⟨k, hk, rfl, hno, kpr, hbw⟩ := hrel
      have hRr := hR.below hbw
      have lp := kpr.lt
      by_cases hlt : k < p.mets.length
      · obtain ⟨g0, rfl, hg0⟩ := hm3 (by omega)
        obtain ⟨m, hm⟩ : ∃ m, p.mets[k]? = some m := ⟨p.mets[k], List.getElem?_eq_getElem hlt⟩
        have r0 : (wr).cell? ⟨g0, k * 5, none⟩ = some (.string m.name) := Lies.at (f := metF) (l := p.mets) (Lies.of hRr.mo) (fun _ => rfl) (i := k) hm (j := 0) rfl
        have r1 : (wr).cell? ⟨g0, k * 5 + 1, none⟩ = some (.string m.unit) := Lies.at (f := metF) (l := p.mets) (Lies.of hRr.mo) (fun _ => rfl) (i := k) hm (j := 1) rfl
        have r2 : (wr).cell? ⟨g0, k * 5 + 2, none⟩ = some (.int .i64 m.max) := Lies.at (f := metF) (l := p.mets) (Lies.of hRr.mo) (fun _ => rfl) (i := k) hm (j := 2) rfl
        have r3 : (wr).cell? ⟨g0, k * 5 + 3, none⟩ = some (.int .i64 m.line) := Lies.at (f := metF) (l := p.mets) (Lies.of hRr.mo) (fun _ => rfl) (i := k) hm (j := 3) rfl
        have r4 : (wr).cell? ⟨g0, k * 5 + 4, none⟩ = some (.int .i64 m.col) := Lies.at (f := metF) (l := p.mets) (Lies.of hRr.mo) (fun _ => rfl) (i := k) hm (j := 4) rfl
        have gg0 : (0 : Int) ≤ (k : Int) := by omega
        have gg1 : (k : Int) < (p.mets.length : Int) := by omega
        have gg2 : (k : Int) < (cm : Int) := by have := hm1; omega
        have kp1 := kpr.alloc (.cells #[.string m.name, .string m.unit, .int .i64 m.max, .int .i64 m.line, .int .i64 m.col] 49)
        have km1 := Blk.new wr 49 #[.string m.name, .string m.unit, .int .i64 m.max, .int .i64 m.line, .int .i64 m.col]
        have hbw1 := bl_alloc hbw (.cells #[.string m.name, .string m.unit, .int .i64 m.max, .int .i64 m.line, .int .i64 m.col] 49)
        have hC := Lib.hid (rmeter9_any p (some ⟨g0, 0, none⟩) Af Ac cm cf cc cs m.name _ (hR.below hbw1).mo)
        obtain ⟨z0, z1, z2, z3, z4, _, _, _, _, _⟩ := km1.c5
        obtain ⟨a0, a1, a2, a3, a4, a5, a6, a7, a8, a9, a10, a11, a12, _, _, _, _, _, _, _, _, _, _, _, _, _⟩ := kp1.c13
        obtain ⟨E, hE⟩ : ∃ E, metE p k m = E := ⟨_, rfl⟩
        by_cases h4 : 4 ≤ k
        · obtain rfl : E = 6 := by rw [← hE]; unfold metE; rw [if_pos h4]
          replace hE := Lib.hid hE
          have h4' : (4 : Int) ≤ (k : Int) := by omega
          have hEq : metE p k m ≠ 0 := by rw [hE.out]; decide
          have hres : chkL p = (6, m.line, m.col) := by rw [← hE.out]; exact (chk_met hor0.out (ne_fst (pl := plM) hno.out hm hEq).2).trans (ne_fst (pl := plM) hno.out hm hEq).1
          replace hres := Lib.hid hres
          clear hm hEq
          go_upto_region 10 with fail
          go_quiet (fail)
          go_wp2_with fail
          go_ret3
          exact ⟨by rw [hres.out]; rfl, bl_drewN hbw1 _⟩
        · have h4' : ¬ (4 : Int) ≤ (k : Int) := by omega
          unfold metE at hE
          rw [if_neg h4] at hE
          have hle := (metI_le (n := m.name) (l := p.mets) hm (nmB_self _)).2
          obtain ⟨I, hI⟩ : ∃ I, metI m.name p.mets = I := ⟨_, rfl⟩
          rw [hI] at hC hE hle
          have hE2 : Hid (metE p k m = E) := Lib.hid (by unfold metE; rw [if_neg h4, hI]; exact hE)
          go_wp2_with fail
          refine hC.out.mono ?_
          rintro e w2 ⟨rfl, hb2⟩
          have kp2 := kp1.call hb2
          have km2 := km1.call hb2
          have hbw2 := bl_call hbw1 hb2
          clear hC z0 z1 z2 z3 z4 a0 a1 a2 a3 a4 a5 a6 a7 a8 a9 a10 a11 a12 r0 r1 r2 r3 r4 kp1 km1 hbw1
          obtain ⟨z0, z1, z2, z3, z4, _, _, _, _, _⟩ := km2.c5
          by_cases hc : I < (k : Int)
          · obtain rfl : E = 5 := by rw [← hE, if_pos hc]
            clear hE hI
            replace hE := hE2
            have hne : (I != (k : Int)) = true := by rw [bne_iff_ne]; omega
            have hEq : metE p k m ≠ 0 := by rw [hE.out]; decide
            have hres : chkL p = (5, m.line, m.col) := by rw [← hE.out]; exact (chk_met hor0.out (ne_fst (pl := plM) hno.out hm hEq).2).trans (ne_fst (pl := plM) hno.out hm hEq).1
            replace hres := Lib.hid hres
            clear hm hEq
            go_upto_region 12 with fail
            go_quiet (fail)
            go_wp2_with fail
            go_ret3
            exact ⟨by rw [hres.out]; rfl, bl_drewN hbw2 _⟩
          · obtain rfl : E = 0 := by rw [← hE, if_neg hc]
            clear hE hI
            replace hE := hE2
            have hne : (I != (k : Int)) = false := by rw [bne_eq_false_iff_eq]; omega
            have hno2 : Hid (∀ (j : Nat) (x : Met), j < k + 1 → p.mets[j]? = some x → metE p j x = 0) := Lib.hid (fun j x hj hx => by
              rcases Nat.lt_or_ge j k with h1 | h1
              · exact hno.out j x h1 hx
              · obtain rfl : j = k := by omega
                rw [hm] at hx; injection hx with hx; subst hx; exact hE.out)
            clear hm
            go_wp2_with fail
            go_roundw
            case rel => exact ⟨k + 1, by omega, by go_num, hno2, kp2, hbw2⟩
            case measure => simp [intOf]; omega
      · obtain rfl : k = p.mets.length := by omega
        have hmet0 := Lib.hid (all_fst (pl := plM) hno.out)
        obtain ⟨a0, a1, a2, a3, a4, a5, a6, a7, a8, a9, a10, a11, a12, _, _, _, _, _, _, _, _, _, _, _, _, _⟩ := kpr.c13
        go_wp2_with fail
        clear a0 a1 a2 a3 a4 a5 a6 a7 a8 a9 a10 a11 a12 hlt hk
        go_loopw [63] (fun v wr => ∃ k : Nat, k ≤ p.fees.length ∧ v = .int .i64 k ∧ Hid (∀ (j : Nat) (x : Fee), j < k → p.fees[j]? = some x → feeE p j x = 0) ∧ Blk wr w.heap.size 29 #[.string p.name, .string p.cur, .int .i64 p.from_.1, .int .i64 p.from_.2.1, .int .i64 p.from_.2.2, .int .i64 p.to_.1, .int .i64 p.to_.2.1, .int .i64 p.to_.2.2, .slice Am p.mets.length cm, .slice Af p.fees.length cf, .slice Ac cs.length cc, .int .i64 p.line, .int .i64 p.col] ∧ Below w.heap.size w wr) (fun v _ => p.fees.length - (intOf v).toNat)
        case atStart => exact ⟨0, by omega, rfl, Lib.hid (fun j x hj => absurd hj (by omega)), kpr, hbw⟩
        case round =>
          clear kpr hbw hRr lp hno
          obtain ⟨k, hk, rfl, hno, kpr, hbw⟩ := hrel
          have hRr := hR.below hbw
          have lp := kpr.lt
          by_cases hlt : k < p.fees.length
          · obtain ⟨g0, rfl, hg0⟩ := ht3 (by omega)
            obtain ⟨m, hm⟩ : ∃ m, p.fees[k]? = some m := ⟨p.fees[k], List.getElem?_eq_getElem hlt⟩
            have r0 : (wr).cell? ⟨g0, k * 10, none⟩ = some (.int .i64 m.amount) := Lies.at (f := feeF) (l := p.fees) (Lies.of hRr.fo) (fun _ => rfl) (i := k) hm (j := 0) rfl
            have r1 : (wr).cell? ⟨g0, k * 10 + 1, none⟩ = some (.bool m.win.has) := Lies.at (f := feeF) (l := p.fees) (Lies.of hRr.fo) (fun _ => rfl) (i := k) hm (j := 1) rfl
            have r2 : (wr).cell? ⟨g0, k * 10 + 2, none⟩ = some (.int .i64 m.win.from_.1) := Lies.at (f := feeF) (l := p.fees) (Lies.of hRr.fo) (fun _ => rfl) (i := k) hm (j := 2) rfl
            have r3 : (wr).cell? ⟨g0, k * 10 + 3, none⟩ = some (.int .i64 m.win.from_.2.1) := Lies.at (f := feeF) (l := p.fees) (Lies.of hRr.fo) (fun _ => rfl) (i := k) hm (j := 3) rfl
            have r4 : (wr).cell? ⟨g0, k * 10 + 4, none⟩ = some (.int .i64 m.win.from_.2.2) := Lies.at (f := feeF) (l := p.fees) (Lies.of hRr.fo) (fun _ => rfl) (i := k) hm (j := 4) rfl
            have r5 : (wr).cell? ⟨g0, k * 10 + 5, none⟩ = some (.int .i64 m.win.to_.1) := Lies.at (f := feeF) (l := p.fees) (Lies.of hRr.fo) (fun _ => rfl) (i := k) hm (j := 5) rfl
            have r6 : (wr).cell? ⟨g0, k * 10 + 6, none⟩ = some (.int .i64 m.win.to_.2.1) := Lies.at (f := feeF) (l := p.fees) (Lies.of hRr.fo) (fun _ => rfl) (i := k) hm (j := 6) rfl
            have r7 : (wr).cell? ⟨g0, k * 10 + 7, none⟩ = some (.int .i64 m.win.to_.2.2) := Lies.at (f := feeF) (l := p.fees) (Lies.of hRr.fo) (fun _ => rfl) (i := k) hm (j := 7) rfl
            have r8 : (wr).cell? ⟨g0, k * 10 + 8, none⟩ = some (.int .i64 m.line) := Lies.at (f := feeF) (l := p.fees) (Lies.of hRr.fo) (fun _ => rfl) (i := k) hm (j := 8) rfl
            have r9 : (wr).cell? ⟨g0, k * 10 + 9, none⟩ = some (.int .i64 m.col) := Lies.at (f := feeF) (l := p.fees) (Lies.of hRr.fo) (fun _ => rfl) (i := k) hm (j := 9) rfl
            have gg0 : (0 : Int) ≤ (k : Int) := by omega
            have gg1 : (k : Int) < (p.fees.length : Int) := by omega
            have gg2 : (k : Int) < (cf : Int) := by have := ht1; omega
            have kp1 := kpr.alloc (.cells #[.int .i64 m.amount, .bool m.win.has, .int .i64 m.win.from_.1, .int .i64 m.win.from_.2.1, .int .i64 m.win.from_.2.2, .int .i64 m.win.to_.1, .int .i64 m.win.to_.2.1, .int .i64 m.win.to_.2.2, .int .i64 m.line, .int .i64 m.col] 54)
            have km1 := Blk.new wr 54 #[.int .i64 m.amount, .bool m.win.has, .int .i64 m.win.from_.1, .int .i64 m.win.from_.2.1, .int .i64 m.win.from_.2.2, .int .i64 m.win.to_.1, .int .i64 m.win.to_.2.1, .int .i64 m.win.to_.2.2, .int .i64 m.line, .int .i64 m.col]
            have hbw1 := bl_alloc hbw (.cells #[.int .i64 m.amount, .bool m.win.has, .int .i64 m.win.from_.1, .int .i64 m.win.from_.2.1, .int .i64 m.win.from_.2.2, .int .i64 m.win.to_.1, .int .i64 m.win.to_.2.1, .int .i64 m.win.to_.2.2, .int .i64 m.line, .int .i64 m.col] 54)
            have hC := Lib.hid (rwindow9_any p Am (some ⟨g0, 0, none⟩) Ac cm cf cc cs m.win (wr.alloc (.cells #[.int .i64 m.amount, .bool m.win.has, .int .i64 m.win.from_.1, .int .i64 m.win.from_.2.1, .int .i64 m.win.from_.2.2, .int .i64 m.win.to_.1, .int .i64 m.win.to_.2.1, .int .i64 m.win.to_.2.2, .int .i64 m.line, .int .i64 m.col] 54)) hf ht (wok_wg (hP.fees m (List.mem_of_getElem? hm)).2))
            obtain ⟨z0, z1, z2, z3, z4, z5, z6, z7, z8, z9, _, _, _, _, _, _, _, _, _, _⟩ := km1.c10
            obtain ⟨a0, a1, a2, a3, a4, a5, a6, a7, a8, a9, a10, a11, a12, _, _, _, _, _, _, _, _, _, _, _, _, _⟩ := kp1.c13
            obtain ⟨E, hE⟩ : ∃ E, feeE p k m = E := ⟨_, rfl⟩
            by_cases h4 : 8 ≤ k
            · obtain rfl : E = 6 := by rw [← hE]; unfold feeE; rw [if_pos h4]
              replace hE := Lib.hid hE
              have h4' : (8 : Int) ≤ (k : Int) := by omega
              have hEq : feeE p k m ≠ 0 := by rw [hE.out]; decide
              have hres : chkL p = (6, m.line, m.col) := by rw [← hE.out]; exact (chk_fee hor0.out hmet0.out (ne_fst (pl := plF) hno.out hm hEq).2).trans (ne_fst (pl := plF) hno.out hm hEq).1
              replace hres := Lib.hid hres
              clear hm hEq
              go_upto_region 18 with fail
              go_quiet (fail)
              go_wp2_with fail
              go_ret3
              exact ⟨by rw [hres.out]; rfl, bl_drewN hbw1 _⟩
            · have h4' : ¬ (8 : Int) ≤ (k : Int) := by omega
              unfold feeE at hE
              rw [if_neg h4] at hE
              obtain ⟨I, hI⟩ : ∃ I, winB p m.win = I := ⟨_, rfl⟩
              rw [hI] at hC hE
              have hE2 : Hid (feeE p k m = E) := Lib.hid (by unfold feeE; rw [if_neg h4, hI]; exact hE)
              go_wp2_with fail
              refine hC.out.mono ?_
              rintro e w2 ⟨rfl, hb2⟩
              have kp2 := kp1.call hb2
              have km2 := km1.call hb2
              have hbw2 := bl_call hbw1 hb2
              clear hC z0 z1 z2 z3 z4 z5 z6 z7 z8 z9 a0 a1 a2 a3 a4 a5 a6 a7 a8 a9 a10 a11 a12 r0 r1 r2 r3 r4 r5 r6 r7 r8 r9 kp1 km1 hbw1
              obtain ⟨z0, z1, z2, z3, z4, z5, z6, z7, z8, z9, _, _, _, _, _, _, _, _, _, _⟩ := km2.c10
              cases I with
              | false =>
                obtain rfl : E = 5 := by rw [← hE, if_pos rfl]
                clear hE hI
                replace hE := hE2
                have hEq : feeE p k m ≠ 0 := by rw [hE.out]; decide
                have hres : chkL p = (5, m.line, m.col) := by rw [← hE.out]; exact (chk_fee hor0.out hmet0.out (ne_fst (pl := plF) hno.out hm hEq).2).trans (ne_fst (pl := plF) hno.out hm hEq).1
                replace hres := Lib.hid hres
                clear hm hEq
                go_upto_region 20 with fail
                go_quiet (fail)
                go_wp2_with fail
                go_ret3
                exact ⟨by rw [hres.out]; rfl, bl_drewN hbw2 _⟩
              | true =>
                obtain rfl : E = 0 := by rw [← hE, if_neg (by decide)]
                clear hE hI
                replace hE := hE2
                have hno2 : Hid (∀ (j : Nat) (x : Fee), j < k + 1 → p.fees[j]? = some x → feeE p j x = 0) := Lib.hid (fun j x hj hx => by
                  rcases Nat.lt_or_ge j k with h1 | h1
                  · exact hno.out j x h1 hx
                  · obtain rfl : j = k := by omega
                    rw [hm] at hx; injection hx with hx; subst hx; exact hE.out)
                clear hm
                go_wp2_with fail
                go_roundw
                case rel => exact ⟨k + 1, by omega, by go_num, hno2, kp2, hbw2⟩
                case measure => simp [intOf]; omega
          · obtain rfl : k = p.fees.length := by omega
            have hfee0 := Lib.hid (all_fst (pl := plF) hno.out)
            have hfl := Lib.hid (feeE_len fun j x hx => hno.out j x (List.getElem?_eq_some_iff.1 hx).1 hx)
            obtain ⟨a0, a1, a2, a3, a4, a5, a6, a7, a8, a9, a10, a11, a12, _, _, _, _, _, _, _, _, _, _, _, _, _⟩ := kpr.c13
            go_wp2_with fail
            clear a0 a1 a2 a3 a4 a5 a6 a7 a8 a9 a10 a11 a12 hlt hk
            go_loopw [87] (fun v wr => ∃ k : Nat, k ≤ cs.length ∧ v = .int .i64 k ∧ Hid (∀ (j : Nat) (x : Chg), j < k → p.chgs[j]? = some x → chgE p j x = 0) ∧ Blk wr w.heap.size 29 #[.string p.name, .string p.cur, .int .i64 p.from_.1, .int .i64 p.from_.2.1, .int .i64 p.from_.2.2, .int .i64 p.to_.1, .int .i64 p.to_.2.1, .int .i64 p.to_.2.2, .slice Am p.mets.length cm, .slice Af p.fees.length cf, .slice Ac cs.length cc, .int .i64 p.line, .int .i64 p.col] ∧ Below w.heap.size w wr) (fun v _ => cs.length - (intOf v).toNat)
            case atStart => exact ⟨0, by omega, rfl, Lib.hid (fun j x hj => absurd hj (by omega)), kpr, hbw⟩
            case round =>
              clear kpr hbw hRr lp hno
              obtain ⟨k, hk, rfl, hno, kpr, hbw⟩ := hrel
              have hRr := hR.below hbw
              have lp := kpr.lt
              by_cases hlt : k < cs.length
              · obtain ⟨g0, rfl, hg0⟩ := hc3 (by omega)
                obtain ⟨x, hmx⟩ : ∃ m, cs[k]? = some m := ⟨cs[k], List.getElem?_eq_getElem hlt⟩
                have hmem := List.mem_of_getElem? hmx
                have hm : p.chgs[k]? = some x.1 := by rw [← hR.eq, List.getElem?_map, hmx]; rfl
                obtain ⟨m, tv, av⟩ := x
                obtain ⟨At, ct, rfl, _, _, _⟩ := Lies.open (f := tierF) (l := m.tiers) (Lies.of (hR.ne _ hmem).1)
                obtain ⟨Aa, ca, rfl, _, _, _⟩ := Lies.open (f := adjF) (l := m.adjs) (Lies.of (hR.ne _ hmem).2)
                dsimp only at hm
                have r0 : (wr).cell? ⟨g0, k * 16, none⟩ = some (.string m.meter) := Lies.at (f := chgF) (l := cs) (Lies.of hRr.co) (fun _ => rfl) (i := k) hmx (j := 0) rfl
                have r1 : (wr).cell? ⟨g0, k * 16 + 1, none⟩ = some (.bool m.win.has) := Lies.at (f := chgF) (l := cs) (Lies.of hRr.co) (fun _ => rfl) (i := k) hmx (j := 1) rfl
                have r2 : (wr).cell? ⟨g0, k * 16 + 2, none⟩ = some (.int .i64 m.win.from_.1) := Lies.at (f := chgF) (l := cs) (Lies.of hRr.co) (fun _ => rfl) (i := k) hmx (j := 2) rfl
                have r3 : (wr).cell? ⟨g0, k * 16 + 3, none⟩ = some (.int .i64 m.win.from_.2.1) := Lies.at (f := chgF) (l := cs) (Lies.of hRr.co) (fun _ => rfl) (i := k) hmx (j := 3) rfl
                have r4 : (wr).cell? ⟨g0, k * 16 + 4, none⟩ = some (.int .i64 m.win.from_.2.2) := Lies.at (f := chgF) (l := cs) (Lies.of hRr.co) (fun _ => rfl) (i := k) hmx (j := 4) rfl
                have r5 : (wr).cell? ⟨g0, k * 16 + 5, none⟩ = some (.int .i64 m.win.to_.1) := Lies.at (f := chgF) (l := cs) (Lies.of hRr.co) (fun _ => rfl) (i := k) hmx (j := 5) rfl
                have r6 : (wr).cell? ⟨g0, k * 16 + 6, none⟩ = some (.int .i64 m.win.to_.2.1) := Lies.at (f := chgF) (l := cs) (Lies.of hRr.co) (fun _ => rfl) (i := k) hmx (j := 6) rfl
                have r7 : (wr).cell? ⟨g0, k * 16 + 7, none⟩ = some (.int .i64 m.win.to_.2.2) := Lies.at (f := chgF) (l := cs) (Lies.of hRr.co) (fun _ => rfl) (i := k) hmx (j := 7) rfl
                have r8 : (wr).cell? ⟨g0, k * 16 + 8, none⟩ = some (.int .i64 m.allow) := Lies.at (f := chgF) (l := cs) (Lies.of hRr.co) (fun _ => rfl) (i := k) hmx (j := 8) rfl
                have r9 : (wr).cell? ⟨g0, k * 16 + 9, none⟩ = some (.int .i64 m.block) := Lies.at (f := chgF) (l := cs) (Lies.of hRr.co) (fun _ => rfl) (i := k) hmx (j := 9) rfl
                have r10 : (wr).cell? ⟨g0, k * 16 + 10, none⟩ = some (.int .i64 m.kind) := Lies.at (f := chgF) (l := cs) (Lies.of hRr.co) (fun _ => rfl) (i := k) hmx (j := 10) rfl
                have r11 : (wr).cell? ⟨g0, k * 16 + 11, none⟩ = some (.slice At m.tiers.length ct) := Lies.at (f := chgF) (l := cs) (Lies.of hRr.co) (fun _ => rfl) (i := k) hmx (j := 11) rfl
                have r12 : (wr).cell? ⟨g0, k * 16 + 12, none⟩ = some (.int .i64 m.mode) := Lies.at (f := chgF) (l := cs) (Lies.of hRr.co) (fun _ => rfl) (i := k) hmx (j := 12) rfl
                have r13 : (wr).cell? ⟨g0, k * 16 + 13, none⟩ = some (.slice Aa m.adjs.length ca) := Lies.at (f := chgF) (l := cs) (Lies.of hRr.co) (fun _ => rfl) (i := k) hmx (j := 13) rfl
                have r14 : (wr).cell? ⟨g0, k * 16 + 14, none⟩ = some (.int .i64 m.line) := Lies.at (f := chgF) (l := cs) (Lies.of hRr.co) (fun _ => rfl) (i := k) hmx (j := 14) rfl
                have r15 : (wr).cell? ⟨g0, k * 16 + 15, none⟩ = some (.int .i64 m.col) := Lies.at (f := chgF) (l := cs) (Lies.of hRr.co) (fun _ => rfl) (i := k) hmx (j := 15) rfl
                have gg0 : (0 : Int) ≤ (k : Int) := by omega
                have gg1 : (k : Int) < (cs.length : Int) := by omega
                have gg2 : (k : Int) < (cc : Int) := by have := hc1; omega
                have kp1 := kpr.alloc (.cells #[.string m.meter, .bool m.win.has, .int .i64 m.win.from_.1, .int .i64 m.win.from_.2.1, .int .i64 m.win.from_.2.2, .int .i64 m.win.to_.1, .int .i64 m.win.to_.2.1, .int .i64 m.win.to_.2.2, .int .i64 m.allow, .int .i64 m.block, .int .i64 m.kind, .slice At m.tiers.length ct, .int .i64 m.mode, .slice Aa m.adjs.length ca, .int .i64 m.line, .int .i64 m.col] 58)
                have km1 := Blk.new wr 58 #[.string m.meter, .bool m.win.has, .int .i64 m.win.from_.1, .int .i64 m.win.from_.2.1, .int .i64 m.win.from_.2.2, .int .i64 m.win.to_.1, .int .i64 m.win.to_.2.1, .int .i64 m.win.to_.2.2, .int .i64 m.allow, .int .i64 m.block, .int .i64 m.kind, .slice At m.tiers.length ct, .int .i64 m.mode, .slice Aa m.adjs.length ca, .int .i64 m.line, .int .i64 m.col]
                have hbw1 := bl_alloc hbw (.cells #[.string m.meter, .bool m.win.has, .int .i64 m.win.from_.1, .int .i64 m.win.from_.2.1, .int .i64 m.win.from_.2.2, .int .i64 m.win.to_.1, .int .i64 m.win.to_.2.1, .int .i64 m.win.to_.2.2, .int .i64 m.allow, .int .i64 m.block, .int .i64 m.kind, .slice At m.tiers.length ct, .int .i64 m.mode, .slice Aa m.adjs.length ca, .int .i64 m.line, .int .i64 m.col] 58)
                have hC := Lib.hid (rcharge9_any p Am Af (some ⟨g0, 0, none⟩) cm cf cc cs k m At Aa ct ca _ (hR.below hbw1) hmx hf ht (wok_wg (hP.chgs m (List.mem_of_getElem? hm)).win) (cok_upto (hP.chgs m (List.mem_of_getElem? hm))) (hP.chgs m (List.mem_of_getElem? hm)).block.1)
                obtain ⟨z0, z1, z2, z3, z4, z5, z6, z7, z8, z9, z10, z11, z12, z13, z14, z15, _, _, _, _, _, _, _, _, _, _, _, _, _, _, _, _⟩ := km1.c16
                obtain ⟨a0, a1, a2, a3, a4, a5, a6, a7, a8, a9, a10, a11, a12, _, _, _, _, _, _, _, _, _, _, _, _, _⟩ := kp1.c13
                obtain ⟨E, hE⟩ : ∃ E, chgE p k m = E := ⟨_, rfl⟩
                rw [hE] at hC
                replace hE := Lib.hid hE
                go_wp2_with fail
                refine hC.out.mono ?_
                rintro e w2 ⟨rfl, hb2⟩
                have kp2 := kp1.call hb2
                have km2 := km1.call hb2
                have hbw2 := bl_call hbw1 hb2
                clear hC z0 z1 z2 z3 z4 z5 z6 z7 z8 z9 z10 z11 z12 z13 z14 z15 a0 a1 a2 a3 a4 a5 a6 a7 a8 a9 a10 a11 a12 r0 r1 r2 r3 r4 r5 r6 r7 r8 r9 r10 r11 r12 r13 r14 r15 kp1 km1 hbw1
                obtain ⟨z0, z1, z2, z3, z4, z5, z6, z7, z8, z9, z10, z11, z12, z13, z14, z15, _, _, _, _, _, _, _, _, _, _, _, _, _, _, _, _⟩ := km2.c16
                by_cases hEz : E = 0
                · subst hEz
                  have hno2 : Hid (∀ (j : Nat) (x : Chg), j < k + 1 → p.chgs[j]? = some x → chgE p j x = 0) := Lib.hid (fun j x hj hx => by
                    rcases Nat.lt_or_ge j k with h1 | h1
                    · exact hno.out j x h1 hx
                    · obtain rfl : j = k := by omega
                      rw [hm] at hx; injection hx with hx; subst hx; exact hE.out)
                  clear hm
                  go_wp2_with fail
                  go_roundw
                  case rel => exact ⟨k + 1, by omega, by go_num, hno2, kp2, hbw2⟩
                  case measure => simp [intOf]; omega
                · have hne : (E != 0) = true := bne_iff_ne.mpr hEz
                  have hEq : chgE p k m ≠ 0 := by rw [hE.out]; exact hEz
                  have hres : chkL p = (E, m.line, m.col) := by rw [← hE.out]; exact (chk_chg hor0.out hmet0.out hfee0.out (ne_fst (pl := plC) hno.out hm hEq).2).trans (ne_fst (pl := plC) hno.out hm hEq).1
                  replace hres := Lib.hid hres
                  clear hm hEq
                  go_upto_region 27 with fail
                  go_quiet (fail)
                  go_wp2_with fail
                  go_ret3
                  exact ⟨by rw [hres.out]; rfl, bl_drewN hbw2 _⟩
              · obtain rfl : k = cs.length := by omega
                have hchg0 := Lib.hid (all_fst (pl := plC) (l := p.chgs) (fun j x hj hx => hno.out j x (by have := hcl.out; omega) hx))
                have hall := Lib.hid (fun (j : Nat) (x : Chg) (hx : p.chgs[j]? = some x) => hno.out j x (by have := hcl.out; have := (List.getElem?_eq_some_iff.1 hx).1; omega) hx)
                have hBN := pok_bnum hP (mem_at fun j x _ hx => chgE_block (hall.out j x hx))
                have hl8 := chgE_len hall.out
                have hB := Lib.hid (rbound9_any p Am Af Ac cm cf cc cs _ hRr hBN ⟨by have := hfl.out; omega, by have := hcl.out; omega⟩)
                have hend := Lib.hid (chk_end hor0.out hmet0.out hfee0.out hchg0.out)
                clear hBN hl8
                obtain ⟨a0, a1, a2, a3, a4, a5, a6, a7, a8, a9, a10, a11, a12, _, _, _, _, _, _, _, _, _, _, _, _, _⟩ := kpr.c13
                go_wp2_with fail
                refine hB.out.mono ?_
                rintro e w2 ⟨rfl, hb2⟩
                have kp2 := kpr.call hb2
                have hbw2 := bl_call hbw hb2
                clear a0 a1 a2 a3 a4 a5 a6 a7 a8 a9 a10 a11 a12
                obtain ⟨a0, a1, a2, a3, a4, a5, a6, a7, a8, a9, a10, a11, a12, _, _, _, _, _, _, _, _, _, _, _, _, _⟩ := kp2.c13
                cases hb : boundO p with
                | none =>
                  have hres := hend.out
                  rw [if_pos hb] at hres
                  replace hres := Lib.hid hres
                  go_upto_region 31 with fail
                  go_quiet (fail)
                  go_wp2_with fail
                  go_ret3
                  exact ⟨by rw [hres.out]; rfl, bl_drewN hbw2 _⟩
                | some v =>
                  have hres := hend.out
                  rw [if_neg (by rw [hb]; exact Option.some_ne_none v)] at hres
                  replace hres := Lib.hid hres
                  go_wp2_with fail
                  go_ret3
                  exact ⟨by rw [hres.out]; rfl, hbw2⟩
  · have hres := hX1.out hz
    clear hX1
    replace hres := Lib.hid hres
    by_cases hd1 : P2 < P1
    · obtain rfl : H = 5 := by rw [← hHe, if_pos hd1]
      have hd3 : P2 - P1 + 1 < 1 := by omega
      go_upto_region 3 with fail
      go_quiet (fail)
      go_wp2_with fail
      go_ret3
      exact ⟨by rw [hres.out]; rfl, bl_drewN hbw _⟩
    · have hd2 : 4000 ≤ P2 - P1 := Classical.byContradiction fun h => hz (by rw [← hHe, if_neg hd1, if_neg h])
      obtain rfl : H = 6 := by rw [← hHe, if_neg hd1, if_pos hd2]
      have hd3 : ¬ (P2 - P1 + 1 < 1) := by omega
      have hd4 : 4000 < P2 - P1 + 1 := by omega
      go_upto_region 5 with fail
      go_quiet (fail)
      go_wp2_with fail
      go_ret3
      exact ⟨by rw [hres.out]; rfl, bl_drewN hbw _⟩
end Go.Proofs.Ytcgkfgklggjmaaa.Par
end
section
namespace Go.Proofs.Ytcgkfgklggjmaaa.Par
set_option linter.unusedVariables false
set_option linter.unusedSimpArgs false
open Go.RowKit
theorem ba_inj {a b : ByteArray} (h : a.data.toList = b.data.toList) : a = b := by
  apply ByteArray.ext; exact Array.toList_inj.mp h
theorem ba_beq (a : ByteArray) : (a.toList == a.toList) = true := by rw [beq_bytes]; exact beq_refl_bytes a
/-- what the reference's Parse does (RefZ) -/
def RParses8 : Prop := ∀ (s : ByteArray) (w : World), s.size ≤ 9223372036854775807 → Calls Try.prog 12 #[.string s] w fun e w' => ∃ v, e = .returned (.tuple #[v, .int .i64 (RParse s.data.toList).2.1, .int .i64 (RParse s.data.toList).2.2.1, .int .i64 (RParse s.data.toList).2.2.2]) ∧ PlanLies w.heap.size w' v (RParse s.data.toList).1 ∧ Below w.heap.size w w'
end Go.Proofs.Ytcgkfgklggjmaaa.Par
end
section
namespace Go.Proofs.Ytcgkfgklggjmaaa.Par
set_option linter.unusedVariables false
set_option linter.unusedSimpArgs false
open Go.RowKit
def a9A : List UInt8 := [112, 108, 97, 110, 32, 112, 32, 99, 117, 114, 114, 101, 110, 99, 121, 32, 69, 85, 82, 59, 32, 104, 111, 114, 105, 122, 111, 110, 32, 50, 48, 50, 52, 45, 48, 49, 45, 48, 49, 32, 50, 48, 50, 52, 45, 49, 50, 45, 51, 49, 59, 10, 99, 104, 97, 114, 103, 101, 32, 109, 32, 123, 32, 103, 114, 97, 100, 117, 97, 116, 101, 100, 32, 123, 32, 114, 101, 115, 116, 32, 114, 97, 116, 101, 32, 49, 59, 32, 125, 32, 114, 111, 117, 110, 100, 32, 102, 108, 111, 111, 114, 59, 32, 125]
def a9At : List Tok := [⟨2, ⟨#[112, 108, 97, 110]⟩, 1, 1⟩, ⟨1, ⟨#[112]⟩, 1, 6⟩, ⟨2, ⟨#[99, 117, 114, 114, 101, 110, 99, 121]⟩, 1, 8⟩, ⟨1, ⟨#[69, 85, 82]⟩, 1, 17⟩, ⟨5, ⟨#[59]⟩, 1, 20⟩, ⟨2, ⟨#[104, 111, 114, 105, 122, 111, 110]⟩, 1, 22⟩, ⟨4, ⟨#[50, 48, 50, 52, 45, 48, 49, 45, 48, 49]⟩, 1, 30⟩, ⟨4, ⟨#[50, 48, 50, 52, 45, 49, 50, 45, 51, 49]⟩, 1, 41⟩, ⟨5, ⟨#[59]⟩, 1, 51⟩, ⟨2, ⟨#[99, 104, 97, 114, 103, 101]⟩, 2, 1⟩, ⟨1, ⟨#[109]⟩, 2, 8⟩, ⟨5, ⟨#[123]⟩, 2, 10⟩, ⟨2, ⟨#[103, 114, 97, 100, 117, 97, 116, 101, 100]⟩, 2, 12⟩, ⟨5, ⟨#[123]⟩, 2, 22⟩, ⟨2, ⟨#[114, 101, 115, 116]⟩, 2, 24⟩, ⟨2, ⟨#[114, 97, 116, 101]⟩, 2, 29⟩, ⟨3, ⟨#[49]⟩, 2, 34⟩, ⟨5, ⟨#[59]⟩, 2, 35⟩, ⟨5, ⟨#[125]⟩, 2, 37⟩, ⟨2, ⟨#[114, 111, 117, 110, 100]⟩, 2, 39⟩, ⟨2, ⟨#[102, 108, 111, 111, 114]⟩, 2, 45⟩, ⟨5, ⟨#[59]⟩, 2, 50⟩, ⟨5, ⟨#[125]⟩, 2, 52⟩, ⟨0, ⟨#[]⟩, 2, 53⟩]
def a9Ap : Plan := ⟨⟨#[112]⟩, ⟨#[69, 85, 82]⟩, (2024, 1, 1), (2024, 12, 31), [], [], [⟨⟨#[109]⟩, noWin, 0, 1, 1, [⟨0, 1000000⟩], 0, [], 2, 1⟩], 1, 1⟩
set_option maxRecDepth 100000 in
theorem a9A_tok : lexAll a9A = (a9At, 0, 0, 0) := by
  rw [lexAll, if_neg (by decide), ← lexF_eq 300 a9A 1 1 (by decide)]
  have : lexF 300 a9A 1 1 = .ok a9At := by kernel_rfl
  rw [this]
theorem a9A_e : (P.plan dp npV a9At).2.err = 0 := by kernel_rfl
theorem a9A_parse : RParse a9A = (a9Ap, 0, 0, 0) := by
  rw [PParse_ok a9A_tok a9A_e]
  exact congrArg (fun x => (x, (0 : Int), (0 : Int), (0 : Int))) (by kernel_rfl)
theorem a9A_pok : POk a9Ap := by
  have h := pok_parse (l := a9A) (by rw [a9A_parse])
  rw [a9A_parse] at h
  exact h
theorem a9A_told : Told a9Ap := by
  have h := told_parse (l := a9A) (by rw [a9A_parse])
  rw [a9A_parse] at h
  exact h
theorem a9A_chk : chkL a9Ap = (5, 2, 1) := by kernel_rfl
def a9B : List UInt8 := [112, 108, 97, 110, 32, 112, 32, 99, 117, 114, 114, 101, 110, 99, 121, 32, 69, 85, 82, 59, 32, 104, 111, 114, 105, 122, 111, 110, 32, 50, 48, 50, 52, 45, 48, 49, 45, 48, 49, 32, 50, 48, 50, 52, 45, 49, 50, 45, 51, 49, 59, 32, 109, 101, 116, 101, 114, 32, 109, 32, 117, 110, 105, 116, 32, 108, 32, 109, 97, 120, 32, 57, 59, 32, 102, 101, 101, 32, 53, 59, 10, 99, 104, 97, 114, 103, 101, 32, 109, 32, 123, 32, 103, 114, 97, 100, 117, 97, 116, 101, 100, 32, 123, 32, 114, 101, 115, 116, 32, 114, 97, 116, 101, 32, 49, 59, 32, 125, 32, 114, 111, 117, 110, 100, 32, 102, 108, 111, 111, 114, 59, 32, 125]
def a9Bt : List Tok := [⟨2, ⟨#[112, 108, 97, 110]⟩, 1, 1⟩, ⟨1, ⟨#[112]⟩, 1, 6⟩, ⟨2, ⟨#[99, 117, 114, 114, 101, 110, 99, 121]⟩, 1, 8⟩, ⟨1, ⟨#[69, 85, 82]⟩, 1, 17⟩, ⟨5, ⟨#[59]⟩, 1, 20⟩, ⟨2, ⟨#[104, 111, 114, 105, 122, 111, 110]⟩, 1, 22⟩, ⟨4, ⟨#[50, 48, 50, 52, 45, 48, 49, 45, 48, 49]⟩, 1, 30⟩, ⟨4, ⟨#[50, 48, 50, 52, 45, 49, 50, 45, 51, 49]⟩, 1, 41⟩, ⟨5, ⟨#[59]⟩, 1, 51⟩, ⟨2, ⟨#[109, 101, 116, 101, 114]⟩, 1, 53⟩, ⟨1, ⟨#[109]⟩, 1, 59⟩, ⟨2, ⟨#[117, 110, 105, 116]⟩, 1, 61⟩, ⟨1, ⟨#[108]⟩, 1, 66⟩, ⟨2, ⟨#[109, 97, 120]⟩, 1, 68⟩, ⟨3, ⟨#[57]⟩, 1, 72⟩, ⟨5, ⟨#[59]⟩, 1, 73⟩, ⟨2, ⟨#[102, 101, 101]⟩, 1, 75⟩, ⟨3, ⟨#[53]⟩, 1, 79⟩, ⟨5, ⟨#[59]⟩, 1, 80⟩, ⟨2, ⟨#[99, 104, 97, 114, 103, 101]⟩, 2, 1⟩, ⟨1, ⟨#[109]⟩, 2, 8⟩, ⟨5, ⟨#[123]⟩, 2, 10⟩, ⟨2, ⟨#[103, 114, 97, 100, 117, 97, 116, 101, 100]⟩, 2, 12⟩, ⟨5, ⟨#[123]⟩, 2, 22⟩, ⟨2, ⟨#[114, 101, 115, 116]⟩, 2, 24⟩, ⟨2, ⟨#[114, 97, 116, 101]⟩, 2, 29⟩, ⟨3, ⟨#[49]⟩, 2, 34⟩, ⟨5, ⟨#[59]⟩, 2, 35⟩, ⟨5, ⟨#[125]⟩, 2, 37⟩, ⟨2, ⟨#[114, 111, 117, 110, 100]⟩, 2, 39⟩, ⟨2, ⟨#[102, 108, 111, 111, 114]⟩, 2, 45⟩, ⟨5, ⟨#[59]⟩, 2, 50⟩, ⟨5, ⟨#[125]⟩, 2, 52⟩, ⟨0, ⟨#[]⟩, 2, 53⟩]
def a9Bp : Plan := ⟨⟨#[112]⟩, ⟨#[69, 85, 82]⟩, (2024, 1, 1), (2024, 12, 31), [⟨⟨#[109]⟩, ⟨#[108]⟩, 9, 1, 53⟩], [⟨5, noWin, 1, 75⟩], [⟨⟨#[109]⟩, noWin, 0, 1, 1, [⟨0, 1000000⟩], 0, [], 2, 1⟩], 1, 1⟩
set_option maxRecDepth 100000 in
theorem a9B_tok : lexAll a9B = (a9Bt, 0, 0, 0) := by
  rw [lexAll, if_neg (by decide), ← lexF_eq 300 a9B 1 1 (by decide)]
  have : lexF 300 a9B 1 1 = .ok a9Bt := by kernel_rfl
  rw [this]
theorem a9B_e : (P.plan dp npV a9Bt).2.err = 0 := by kernel_rfl
theorem a9B_parse : RParse a9B = (a9Bp, 0, 0, 0) := by
  rw [PParse_ok a9B_tok a9B_e]
  exact congrArg (fun x => (x, (0 : Int), (0 : Int), (0 : Int))) (by kernel_rfl)
theorem a9B_pok : POk a9Bp := by
  have h := pok_parse (l := a9B) (by rw [a9B_parse])
  rw [a9B_parse] at h
  exact h
theorem a9B_told : Told a9Bp := by
  have h := told_parse (l := a9B) (by rw [a9B_parse])
  rw [a9B_parse] at h
  exact h
theorem a9B_chk : chkL a9Bp = (0, 0, 0) := by kernel_rfl
theorem a9B_bound : boundO a9Bp = some 14 := by kernel_rfl
theorem a9B_blk : ∀ c ∈ a9Bp.chgs, 1 ≤ c.block := by
  intro c hc
  simp only [a9Bp, List.mem_singleton] at hc
  subst hc
  decide
end Go.Proofs.Ytcgkfgklggjmaaa.Par
end
section
namespace Go.Proofs.Ytcgkfgklggjmaaa.Par
set_option linter.unusedVariables false
set_option linter.unusedSimpArgs false
open Go.RowKit
theorem sets13 (a0 a1 a2 a3 a4 a5 a6 a7 a8 a9 a10 a11 a12 b0 b1 b2 b3 b4 b5 b6 b7 b8 b9 b10 b11 b12 : Value) : setsA #[a0, a1, a2, a3, a4, a5, a6, a7, a8, a9, a10, a11, a12] 0 [b0, b1, b2, b3, b4, b5, b6, b7, b8, b9, b10, b11, b12] = #[b0, b1, b2, b3, b4, b5, b6, b7, b8, b9, b10, b11, b12] := by
  simp [setsA]
theorem Rows.notBelow {w : World} {B : Nat} {p : Plan} {mv fv cv : Value} {cs : List CT} (h : Rows w B p mv fv cv cs) {g : Nat} (hB : g < B) : ¬ blocks mv fv cv cs g := by
  rintro (hg | hg | hg | ⟨c, hc, hg | hg⟩)
  · have := (h.mo.lt g hg).1; omega
  · have := (h.fo.lt g hg).1; omega
  · have := (h.co.lt g hg).1; omega
  · have := (World.ownsRow.lt (h.ne c hc).1 g hg).1; omega
  · have := (World.ownsRow.lt (h.ne c hc).2 g hg).1; omega
set_option maxHeartbeats 16000000 in
set_option maxRecDepth 100000 in
theorem of9_any (hRP : RParses8) (s : ByteArray) (w : World) (hs : s.size ≤ 9223372036854775807) :
    Calls Try.prog 6 #[.string s] w fun e w' => ∃ v, e = .returned (.tuple #[v, .bool (decide ((RParse s.data.toList).2.1 = 0) && decide (s.size ≤ 8192))]) ∧ PlanLies w.heap.size w' v (RParse s.data.toList).1 ∧ Below w.heap.size w w' := by
  have hQ := hRP s
  obtain ⟨p, er, li, co, hpq⟩ : ∃ p er li co, RParse s.data.toList = (p, er, li, co) := ⟨_, _, _, _, rfl⟩
  rw [hpq] at hQ ⊢
  clear hpq hRP
  dsimp only at hQ ⊢
  replace hQ := Lib.hid (fun W => hQ W hs)
  have kr0 := Blk.new w 29 #[.string ⟨#[]⟩, .string ⟨#[]⟩, .int .i64 0, .int .i64 0, .int .i64 0, .int .i64 0, .int .i64 0, .int .i64 0, .slice none 0 0, .slice none 0 0, .slice none 0 0, .int .i64 0, .int .i64 0]
  have b0 := bl_alloc (bl_refl w) (.cells #[.string ⟨#[]⟩, .string ⟨#[]⟩, .int .i64 0, .int .i64 0, .int .i64 0, .int .i64 0, .int .i64 0, .int .i64 0, .slice none 0 0, .slice none 0 0, .slice none 0 0, .int .i64 0, .int .i64 0] 29)
  by_cases her : er = 0
  · subst her
    by_cases hz : s.size ≤ 8192
    · have e1 : (decide ((0 : Int) = 0) && decide (s.size ≤ 8192)) = true := by simp [hz]
      rw [e1]
      have hz' : (s.size : Int) ≤ 8192 := by omega
      clear e1 hz
      go_enter Try.func6, Try.ntmps6
      go_wp2_with fail
      refine (hQ.out _).mono ?_
      rintro e w2 ⟨v, rfl, hv, hb2⟩
      obtain ⟨mv, fv, cv, cs, rfl, hR⟩ := hv
      obtain ⟨Am, cm, rfl, _, _, _⟩ := Lies.open (f := metF) (l := p.mets) (Lies.of hR.mo)
      obtain ⟨Af, cf, rfl, _, _, _⟩ := Lies.open (f := feeF) (l := p.fees) (Lies.of hR.fo)
      obtain ⟨Ac, cc, rfl, _, _, _⟩ := Lies.open (f := chgF) (l := cs) (Lies.of hR.co)
      unfold planC
      have kp := Blk.new w2 29 #[.string p.name, .string p.cur, .int .i64 p.from_.1, .int .i64 p.from_.2.1, .int .i64 p.from_.2.2, .int .i64 p.to_.1, .int .i64 p.to_.2.1, .int .i64 p.to_.2.2, .slice Am p.mets.length cm, .slice Af p.fees.length cf, .slice Ac cs.length cc, .int .i64 p.line, .int .i64 p.col]
      have kr2 := (kr0.call hb2).alloc (.cells #[.string p.name, .string p.cur, .int .i64 p.from_.1, .int .i64 p.from_.2.1, .int .i64 p.from_.2.2, .int .i64 p.to_.1, .int .i64 p.to_.2.1, .int .i64 p.to_.2.2, .slice Am p.mets.length cm, .slice Af p.fees.length cf, .slice Ac cs.length cc, .int .i64 p.line, .int .i64 p.col] 29)
      have hR2 := hR.below (bl_alloc (bl_refl w2) (.cells #[.string p.name, .string p.cur, .int .i64 p.from_.1, .int .i64 p.from_.2.1, .int .i64 p.from_.2.2, .int .i64 p.to_.1, .int .i64 p.to_.2.1, .int .i64 p.to_.2.2, .slice Am p.mets.length cm, .slice Af p.fees.length cf, .slice Ac cs.length cc, .int .i64 p.line, .int .i64 p.col] 29))
      have b2 := bl_alloc (bl_call b0 hb2) (.cells #[.string p.name, .string p.cur, .int .i64 p.from_.1, .int .i64 p.from_.2.1, .int .i64 p.from_.2.2, .int .i64 p.to_.1, .int .i64 p.to_.2.1, .int .i64 p.to_.2.2, .slice Am p.mets.length cm, .slice Af p.fees.length cf, .slice Ac cs.length cc, .int .i64 p.line, .int .i64 p.col] 29)
      have lr := kr0.lt
      have lr2 := hb2.size
      obtain ⟨a0, a1, a2, a3, a4, a5, a6, a7, a8, a9, a10, a11, a12, _, _, _, _, _, _, _, _, _, _, _, _, _⟩ := kp.c13
      obtain ⟨z0, z1, z2, z3, z4, z5, z6, z7, z8, z9, z10, z11, z12, _, _, _, _, _, _, _, _, _, _, _, _, _⟩ := kr2.c13
      go_wp2_with fail
      have hng := hR2.notBelow (show w.heap.size < (w.alloc (.cells #[.string ⟨#[]⟩, .string ⟨#[]⟩, .int .i64 0, .int .i64 0, .int .i64 0, .int .i64 0, .int .i64 0, .int .i64 0, .slice none 0 0, .slice none 0 0, .slice none 0 0, .int .i64 0, .int .i64 0] 29)).heap.size by rw [World.size_alloc]; omega)
      have qa := kr2.putAll [.string p.name, .string p.cur, .int .i64 p.from_.1, .int .i64 p.from_.2.1, .int .i64 p.from_.2.2, .int .i64 p.to_.1, .int .i64 p.to_.2.1, .int .i64 p.to_.2.2, .slice Am p.mets.length cm, .slice Af p.fees.length cf, .slice Ac cs.length cc, .int .i64 p.line, .int .i64 p.col] 0
      rw [sets13] at qa
      have qb := bl_puts b2 (Nat.le_refl w.heap.size) 0 [.string p.name, .string p.cur, .int .i64 p.from_.1, .int .i64 p.from_.2.1, .int .i64 p.from_.2.2, .int .i64 p.to_.1, .int .i64 p.to_.2.1, .int .i64 p.to_.2.2, .slice Am p.mets.length cm, .slice Af p.fees.length cf, .slice Ac cs.length cc, .int .i64 p.line, .int .i64 p.col]
      have qr := hR2.puts_ hng 0 [.string p.name, .string p.cur, .int .i64 p.from_.1, .int .i64 p.from_.2.1, .int .i64 p.from_.2.2, .int .i64 p.to_.1, .int .i64 p.to_.2.1, .int .i64 p.to_.2.2, .slice Am p.mets.length cm, .slice Af p.fees.length cf, .slice Ac cs.length cc, .int .i64 p.line, .int .i64 p.col]
      simp only [puts, Nat.zero_add, Nat.reduceAdd] at qa qb qr
      exact bodyPost_ret (results_cell_tmp_row rfl _ _ w.heap.size _ #[.string p.name, .string p.cur, .int .i64 p.from_.1, .int .i64 p.from_.2.1, .int .i64 p.from_.2.2, .int .i64 p.to_.1, .int .i64 p.to_.2.1, .int .i64 p.to_.2.2, .slice Am p.mets.length cm, .slice Af p.fees.length cf, .slice Ac cs.length cc, .int .i64 p.line, .int .i64 p.col] _ rfl qa Try.underlying29 rfl (by kernel_rfl)) rfl
        ⟨_, rfl, ⟨_, _, _, cs, rfl, qr.base (by rw [World.size_alloc]; omega)⟩, qb⟩
    · have e1 : (decide ((0 : Int) = 0) && decide (s.size ≤ 8192)) = false := by simp [hz]
      rw [e1]
      have hd : decide ((s.size : Int) ≤ 8192) = false := decide_eq_false (by omega)
      clear e1 hz
      go_enter Try.func6, Try.ntmps6
      go_wp2_with fail
      refine (hQ.out _).mono ?_
      rintro e w2 ⟨v, rfl, hv, hb2⟩
      obtain ⟨mv, fv, cv, cs, rfl, hR⟩ := hv
      obtain ⟨Am, cm, rfl, _, _, _⟩ := Lies.open (f := metF) (l := p.mets) (Lies.of hR.mo)
      obtain ⟨Af, cf, rfl, _, _, _⟩ := Lies.open (f := feeF) (l := p.fees) (Lies.of hR.fo)
      obtain ⟨Ac, cc, rfl, _, _, _⟩ := Lies.open (f := chgF) (l := cs) (Lies.of hR.co)
      unfold planC
      have kp := Blk.new w2 29 #[.string p.name, .string p.cur, .int .i64 p.from_.1, .int .i64 p.from_.2.1, .int .i64 p.from_.2.2, .int .i64 p.to_.1, .int .i64 p.to_.2.1, .int .i64 p.to_.2.2, .slice Am p.mets.length cm, .slice Af p.fees.length cf, .slice Ac cs.length cc, .int .i64 p.line, .int .i64 p.col]
      have kr2 := (kr0.call hb2).alloc (.cells #[.string p.name, .string p.cur, .int .i64 p.from_.1, .int .i64 p.from_.2.1, .int .i64 p.from_.2.2, .int .i64 p.to_.1, .int .i64 p.to_.2.1, .int .i64 p.to_.2.2, .slice Am p.mets.length cm, .slice Af p.fees.length cf, .slice Ac cs.length cc, .int .i64 p.line, .int .i64 p.col] 29)
      have hR2 := hR.below (bl_alloc (bl_refl w2) (.cells #[.string p.name, .string p.cur, .int .i64 p.from_.1, .int .i64 p.from_.2.1, .int .i64 p.from_.2.2, .int .i64 p.to_.1, .int .i64 p.to_.2.1, .int .i64 p.to_.2.2, .slice Am p.mets.length cm, .slice Af p.fees.length cf, .slice Ac cs.length cc, .int .i64 p.line, .int .i64 p.col] 29))
      have b2 := bl_alloc (bl_call b0 hb2) (.cells #[.string p.name, .string p.cur, .int .i64 p.from_.1, .int .i64 p.from_.2.1, .int .i64 p.from_.2.2, .int .i64 p.to_.1, .int .i64 p.to_.2.1, .int .i64 p.to_.2.2, .slice Am p.mets.length cm, .slice Af p.fees.length cf, .slice Ac cs.length cc, .int .i64 p.line, .int .i64 p.col] 29)
      have lr := kr0.lt
      have lr2 := hb2.size
      obtain ⟨a0, a1, a2, a3, a4, a5, a6, a7, a8, a9, a10, a11, a12, _, _, _, _, _, _, _, _, _, _, _, _, _⟩ := kp.c13
      obtain ⟨z0, z1, z2, z3, z4, z5, z6, z7, z8, z9, z10, z11, z12, _, _, _, _, _, _, _, _, _, _, _, _, _⟩ := kr2.c13
      go_wp2_with fail
      have hng := hR2.notBelow (show w.heap.size < (w.alloc (.cells #[.string ⟨#[]⟩, .string ⟨#[]⟩, .int .i64 0, .int .i64 0, .int .i64 0, .int .i64 0, .int .i64 0, .int .i64 0, .slice none 0 0, .slice none 0 0, .slice none 0 0, .int .i64 0, .int .i64 0] 29)).heap.size by rw [World.size_alloc]; omega)
      have qa := kr2.putAll [.string p.name, .string p.cur, .int .i64 p.from_.1, .int .i64 p.from_.2.1, .int .i64 p.from_.2.2, .int .i64 p.to_.1, .int .i64 p.to_.2.1, .int .i64 p.to_.2.2, .slice Am p.mets.length cm, .slice Af p.fees.length cf, .slice Ac cs.length cc, .int .i64 p.line, .int .i64 p.col] 0
      rw [sets13] at qa
      have qb := bl_puts b2 (Nat.le_refl w.heap.size) 0 [.string p.name, .string p.cur, .int .i64 p.from_.1, .int .i64 p.from_.2.1, .int .i64 p.from_.2.2, .int .i64 p.to_.1, .int .i64 p.to_.2.1, .int .i64 p.to_.2.2, .slice Am p.mets.length cm, .slice Af p.fees.length cf, .slice Ac cs.length cc, .int .i64 p.line, .int .i64 p.col]
      have qr := hR2.puts_ hng 0 [.string p.name, .string p.cur, .int .i64 p.from_.1, .int .i64 p.from_.2.1, .int .i64 p.from_.2.2, .int .i64 p.to_.1, .int .i64 p.to_.2.1, .int .i64 p.to_.2.2, .slice Am p.mets.length cm, .slice Af p.fees.length cf, .slice Ac cs.length cc, .int .i64 p.line, .int .i64 p.col]
      simp only [puts, Nat.zero_add, Nat.reduceAdd] at qa qb qr
      exact bodyPost_ret (results_cell_tmp_row rfl _ _ w.heap.size _ #[.string p.name, .string p.cur, .int .i64 p.from_.1, .int .i64 p.from_.2.1, .int .i64 p.from_.2.2, .int .i64 p.to_.1, .int .i64 p.to_.2.1, .int .i64 p.to_.2.2, .slice Am p.mets.length cm, .slice Af p.fees.length cf, .slice Ac cs.length cc, .int .i64 p.line, .int .i64 p.col] _ rfl qa Try.underlying29 rfl (by kernel_rfl)) rfl
        ⟨_, rfl, ⟨_, _, _, cs, rfl, qr.base (by rw [World.size_alloc]; omega)⟩, qb⟩
  · have e1 : (decide (er = 0) && decide (s.size ≤ 8192)) = false := by simp [her]
    rw [e1]
    have hq : (er == 0) = false := by rw [beq_eq_false_iff_ne]; exact her
    clear e1 her
    go_enter Try.func6, Try.ntmps6
    go_wp2_with fail
    refine (hQ.out _).mono ?_
    rintro e w2 ⟨v, rfl, hv, hb2⟩
    obtain ⟨mv, fv, cv, cs, rfl, hR⟩ := hv
    obtain ⟨Am, cm, rfl, _, _, _⟩ := Lies.open (f := metF) (l := p.mets) (Lies.of hR.mo)
    obtain ⟨Af, cf, rfl, _, _, _⟩ := Lies.open (f := feeF) (l := p.fees) (Lies.of hR.fo)
    obtain ⟨Ac, cc, rfl, _, _, _⟩ := Lies.open (f := chgF) (l := cs) (Lies.of hR.co)
    unfold planC
    have kp := Blk.new w2 29 #[.string p.name, .string p.cur, .int .i64 p.from_.1, .int .i64 p.from_.2.1, .int .i64 p.from_.2.2, .int .i64 p.to_.1, .int .i64 p.to_.2.1, .int .i64 p.to_.2.2, .slice Am p.mets.length cm, .slice Af p.fees.length cf, .slice Ac cs.length cc, .int .i64 p.line, .int .i64 p.col]
    have kr2 := (kr0.call hb2).alloc (.cells #[.string p.name, .string p.cur, .int .i64 p.from_.1, .int .i64 p.from_.2.1, .int .i64 p.from_.2.2, .int .i64 p.to_.1, .int .i64 p.to_.2.1, .int .i64 p.to_.2.2, .slice Am p.mets.length cm, .slice Af p.fees.length cf, .slice Ac cs.length cc, .int .i64 p.line, .int .i64 p.col] 29)
    have hR2 := hR.below (bl_alloc (bl_refl w2) (.cells #[.string p.name, .string p.cur, .int .i64 p.from_.1, .int .i64 p.from_.2.1, .int .i64 p.from_.2.2, .int .i64 p.to_.1, .int .i64 p.to_.2.1, .int .i64 p.to_.2.2, .slice Am p.mets.length cm, .slice Af p.fees.length cf, .slice Ac cs.length cc, .int .i64 p.line, .int .i64 p.col] 29))
    have b2 := bl_alloc (bl_call b0 hb2) (.cells #[.string p.name, .string p.cur, .int .i64 p.from_.1, .int .i64 p.from_.2.1, .int .i64 p.from_.2.2, .int .i64 p.to_.1, .int .i64 p.to_.2.1, .int .i64 p.to_.2.2, .slice Am p.mets.length cm, .slice Af p.fees.length cf, .slice Ac cs.length cc, .int .i64 p.line, .int .i64 p.col] 29)
    have lr := kr0.lt
    have lr2 := hb2.size
    obtain ⟨a0, a1, a2, a3, a4, a5, a6, a7, a8, a9, a10, a11, a12, _, _, _, _, _, _, _, _, _, _, _, _, _⟩ := kp.c13
    obtain ⟨z0, z1, z2, z3, z4, z5, z6, z7, z8, z9, z10, z11, z12, _, _, _, _, _, _, _, _, _, _, _, _, _⟩ := kr2.c13
    go_wp2_with fail
    have hng := hR2.notBelow (show w.heap.size < (w.alloc (.cells #[.string ⟨#[]⟩, .string ⟨#[]⟩, .int .i64 0, .int .i64 0, .int .i64 0, .int .i64 0, .int .i64 0, .int .i64 0, .slice none 0 0, .slice none 0 0, .slice none 0 0, .int .i64 0, .int .i64 0] 29)).heap.size by rw [World.size_alloc]; omega)
    have qa := kr2.putAll [.string p.name, .string p.cur, .int .i64 p.from_.1, .int .i64 p.from_.2.1, .int .i64 p.from_.2.2, .int .i64 p.to_.1, .int .i64 p.to_.2.1, .int .i64 p.to_.2.2, .slice Am p.mets.length cm, .slice Af p.fees.length cf, .slice Ac cs.length cc, .int .i64 p.line, .int .i64 p.col] 0
    rw [sets13] at qa
    have qb := bl_puts b2 (Nat.le_refl w.heap.size) 0 [.string p.name, .string p.cur, .int .i64 p.from_.1, .int .i64 p.from_.2.1, .int .i64 p.from_.2.2, .int .i64 p.to_.1, .int .i64 p.to_.2.1, .int .i64 p.to_.2.2, .slice Am p.mets.length cm, .slice Af p.fees.length cf, .slice Ac cs.length cc, .int .i64 p.line, .int .i64 p.col]
    have qr := hR2.puts_ hng 0 [.string p.name, .string p.cur, .int .i64 p.from_.1, .int .i64 p.from_.2.1, .int .i64 p.from_.2.2, .int .i64 p.to_.1, .int .i64 p.to_.2.1, .int .i64 p.to_.2.2, .slice Am p.mets.length cm, .slice Af p.fees.length cf, .slice Ac cs.length cc, .int .i64 p.line, .int .i64 p.col]
    simp only [puts, Nat.zero_add, Nat.reduceAdd] at qa qb qr
    exact bodyPost_ret (results_cell_tmp_row rfl _ _ w.heap.size _ #[.string p.name, .string p.cur, .int .i64 p.from_.1, .int .i64 p.from_.2.1, .int .i64 p.from_.2.2, .int .i64 p.to_.1, .int .i64 p.to_.2.1, .int .i64 p.to_.2.2, .slice Am p.mets.length cm, .slice Af p.fees.length cf, .slice Ac cs.length cc, .int .i64 p.line, .int .i64 p.col] _ rfl qa Try.underlying29 rfl (by kernel_rfl)) rfl
      ⟨_, rfl, ⟨_, _, _, cs, rfl, qr.base (by rw [World.size_alloc]; omega)⟩, qb⟩
end Go.Proofs.Ytcgkfgklggjmaaa.Par
end
section
namespace Go.Proofs.Ytcgkfgklggjmaaa.Par
set_option linter.unusedVariables false
set_option linter.unusedSimpArgs false
open Go.RowKit
/-! faults, compared whole -/
theorem flt_eq (d : Nat) (a b c a' b' c' : Int) (w : World) :
    (Op.equalIn (d + 2) 34 (.agg #[.int .i64 a, .int .i64 b, .int .i64 c]) (.agg #[.int .i64 a', .int .i64 b', .int .i64 c'])).run Try.prog w = .ok (a == a' && (b == b' && (c == c' && true))) w := by
  refine eqS_of _ _ _ _ _ _ Try.underlying34 (by kernel_rfl) ?_
  refine eqF_cons _ _ _ _ _ (.int .i64 a) (.int .i64 a') _ _ rfl (by go_simp) (by go_simp) (by go_simp) ?_
  refine eqF_cons _ _ _ _ _ (.int .i64 b) (.int .i64 b') _ _ rfl (by go_simp) (by go_simp) (by go_simp) ?_
  refine eqF_cons _ _ _ _ _ (.int .i64 c) (.int .i64 c') _ _ rfl (by go_simp) (by go_simp) (by go_simp) ?_
  exact eqF_nil _ _ _
theorem flt_same (a b c : Int) (w : World) : (binOp .eql 34 (.agg #[.int .i64 a, .int .i64 b, .int .i64 c]) (.agg #[.int .i64 a, .int .i64 b, .int .i64 c])).run Try.prog w = .ok (.bool true) w := by
  have h := eql_S (fun d => flt_eq (d + 1) a b c a b c w)
  simpa using h
theorem flt_zero (w : World) : (binOp .neq 34 (.agg #[.int .i64 0, .int .i64 0, .int .i64 0]) (.agg #[.int .i64 0, .int .i64 0, .int .i64 0])).run Try.prog w = .ok (.bool false) w := by
  have h := neq_S (fun d => flt_eq (d + 1) 0 0 0 0 0 0 w)
  simpa using h
theorem flt_bad {a : Int} (b c : Int) (ha : a ≠ 0) (w : World) : (binOp .neq 34 (.agg #[.int .i64 a, .int .i64 b, .int .i64 c]) (.agg #[.int .i64 0, .int .i64 0, .int .i64 0])).run Try.prog w = .ok (.bool true) w := by
  have h := neq_S (fun d => flt_eq (d + 1) a b c 0 0 0 w)
  have h0 : (a == 0) = false := by simpa using ha
  rw [h0] at h
  simpa using h
end Go.Proofs.Ytcgkfgklggjmaaa.Par
end
section
namespace Go.Proofs.Ytcgkfgklggjmaaa.Par
set_option linter.unusedVariables false
set_option linter.unusedSimpArgs false
open Go.RowKit
theorem text9 (hRP : RParses8) {l : List UInt8} {p : Plan} (hp : RParse l = (p, 0, 0, 0)) (hl : l.length ≤ 8192) (X : ByteArray) (hX : X.data.toList = l) (W : World) :
    Calls Try.prog 6 #[.string X] W fun e w' => ∃ v, e = .returned (.tuple #[v, .bool true]) ∧ PlanLies W.heap.size w' v p ∧ Below W.heap.size W w' := by
  have hz : X.size = l.length := by rw [← hX]; simp
  have h := of9_any hRP X W (by omega)
  rw [hX, hp] at h
  have e : (decide ((0 : Int) = 0) && decide (X.size ≤ 8192)) = true := by simp; omega
  dsimp only at h
  rw [e] at h
  exact h
set_option maxHeartbeats 16000000 in
set_option maxRecDepth 100000 in
theorem alive9_any (hRP : RParses8) (w : World) :
    Calls Try.prog 5 #[] w fun e w' => e = .returned (.bool true) ∧ Below w.heap.size w w' := by
  have hT1 := Lib.hid (fun X hX W => text9 hRP a9A_parse (by decide) X hX W)
  have hT2 := Lib.hid (fun X hX W => text9 hRP a9B_parse (by decide) X hX W)
  have q1 := flt_same 5 2 1
  have q2 := flt_same 0 0 0
  clear hRP
  go_enter Try.func5, Try.ntmps5
  go_wp2_with fail
  refine (hT1.out _ (by rfl) _).mono ?_
  rintro e w1 ⟨v, rfl, hv, hb1⟩
  obtain ⟨mv, fv, cv, cs, rfl, hR1⟩ := hv
  obtain ⟨Am, cm, rfl, _, _, _⟩ := Lies.open (f := metF) (l := a9Ap.mets) (Lies.of hR1.mo)
  obtain ⟨Af, cf, rfl, _, _, _⟩ := Lies.open (f := feeF) (l := a9Ap.fees) (Lies.of hR1.fo)
  obtain ⟨Ac, cc, rfl, _, _, _⟩ := Lies.open (f := chgF) (l := cs) (Lies.of hR1.co)
  unfold planC
  have k1 := Blk.new w1 29 #[.string a9Ap.name, .string a9Ap.cur, .int .i64 a9Ap.from_.1, .int .i64 a9Ap.from_.2.1, .int .i64 a9Ap.from_.2.2, .int .i64 a9Ap.to_.1, .int .i64 a9Ap.to_.2.1, .int .i64 a9Ap.to_.2.2, .slice Am a9Ap.mets.length cm, .slice Af a9Ap.fees.length cf, .slice Ac cs.length cc, .int .i64 a9Ap.line, .int .i64 a9Ap.col]
  have R1 := hR1.below (bl_alloc (bl_refl w1) (.cells #[.string a9Ap.name, .string a9Ap.cur, .int .i64 a9Ap.from_.1, .int .i64 a9Ap.from_.2.1, .int .i64 a9Ap.from_.2.2, .int .i64 a9Ap.to_.1, .int .i64 a9Ap.to_.2.1, .int .i64 a9Ap.to_.2.2, .slice Am a9Ap.mets.length cm, .slice Af a9Ap.fees.length cf, .slice Ac cs.length cc, .int .i64 a9Ap.line, .int .i64 a9Ap.col] 29))
  have b1 := bl_alloc hb1 (.cells #[.string a9Ap.name, .string a9Ap.cur, .int .i64 a9Ap.from_.1, .int .i64 a9Ap.from_.2.1, .int .i64 a9Ap.from_.2.2, .int .i64 a9Ap.to_.1, .int .i64 a9Ap.to_.2.1, .int .i64 a9Ap.to_.2.2, .slice Am a9Ap.mets.length cm, .slice Af a9Ap.fees.length cf, .slice Ac cs.length cc, .int .i64 a9Ap.line, .int .i64 a9Ap.col] 29)
  clear hR1 hT1
  go_wp2_with fail
  refine (hT2.out _ (by rfl) _).mono ?_
  rintro e w2 ⟨v, rfl, hv, hb2⟩
  obtain ⟨mv, fv, cv, ds, rfl, hR2⟩ := hv
  obtain ⟨Bm, dm, rfl, _, _, _⟩ := Lies.open (f := metF) (l := a9Bp.mets) (Lies.of hR2.mo)
  obtain ⟨Bf, df, rfl, _, _, _⟩ := Lies.open (f := feeF) (l := a9Bp.fees) (Lies.of hR2.fo)
  obtain ⟨Bc, dc, rfl, _, _, _⟩ := Lies.open (f := chgF) (l := ds) (Lies.of hR2.co)
  unfold planC
  have k2 := Blk.new w2 29 #[.string a9Bp.name, .string a9Bp.cur, .int .i64 a9Bp.from_.1, .int .i64 a9Bp.from_.2.1, .int .i64 a9Bp.from_.2.2, .int .i64 a9Bp.to_.1, .int .i64 a9Bp.to_.2.1, .int .i64 a9Bp.to_.2.2, .slice Bm a9Bp.mets.length dm, .slice Bf a9Bp.fees.length df, .slice Bc ds.length dc, .int .i64 a9Bp.line, .int .i64 a9Bp.col]
  have k1b := (k1.call hb2).alloc (.cells #[.string a9Bp.name, .string a9Bp.cur, .int .i64 a9Bp.from_.1, .int .i64 a9Bp.from_.2.1, .int .i64 a9Bp.from_.2.2, .int .i64 a9Bp.to_.1, .int .i64 a9Bp.to_.2.1, .int .i64 a9Bp.to_.2.2, .slice Bm a9Bp.mets.length dm, .slice Bf a9Bp.fees.length df, .slice Bc ds.length dc, .int .i64 a9Bp.line, .int .i64 a9Bp.col] 29)
  have l2 := bl_alloc hb2 (.cells #[.string a9Bp.name, .string a9Bp.cur, .int .i64 a9Bp.from_.1, .int .i64 a9Bp.from_.2.1, .int .i64 a9Bp.from_.2.2, .int .i64 a9Bp.to_.1, .int .i64 a9Bp.to_.2.1, .int .i64 a9Bp.to_.2.2, .slice Bm a9Bp.mets.length dm, .slice Bf a9Bp.fees.length df, .slice Bc ds.length dc, .int .i64 a9Bp.line, .int .i64 a9Bp.col] 29)
  have b2 := bl_call b1 l2
  have R2 := hR2.below (bl_alloc (bl_refl w2) (.cells #[.string a9Bp.name, .string a9Bp.cur, .int .i64 a9Bp.from_.1, .int .i64 a9Bp.from_.2.1, .int .i64 a9Bp.from_.2.2, .int .i64 a9Bp.to_.1, .int .i64 a9Bp.to_.2.1, .int .i64 a9Bp.to_.2.2, .slice Bm a9Bp.mets.length dm, .slice Bf a9Bp.fees.length df, .slice Bc ds.length dc, .int .i64 a9Bp.line, .int .i64 a9Bp.col] 29))
  have R1b := R1.below l2
  clear hR2 hT2
  obtain ⟨a0, a1, a2, a3, a4, a5, a6, a7, a8, a9, a10, a11, a12, _, _, _, _, _, _, _, _, _, _, _, _, _⟩ := k2.c13
  have hB := Lib.hid (pbound_any a9Bp Bm Bf Bc dm df dc ds _ R2 (pok_bnum a9B_pok a9B_blk) ⟨by decide, by have h := congrArg List.length R2.eq; rw [List.length_map] at h; rw [h]; decide⟩)
  rw [a9B_bound] at hB
  go_upto_region 3 with fail
  generalize hu2 : w2.alloc (.cells #[.string a9Bp.name, .string a9Bp.cur, .int .i64 a9Bp.from_.1, .int .i64 a9Bp.from_.2.1, .int .i64 a9Bp.from_.2.2, .int .i64 a9Bp.to_.1, .int .i64 a9Bp.to_.2.1, .int .i64 a9Bp.to_.2.2, .slice Bm a9Bp.mets.length dm, .slice Bf a9Bp.fees.length df, .slice Bc ds.length dc, .int .i64 a9Bp.line, .int .i64 a9Bp.col] 29) = u2 at *
  go_wp2_with fail
  refine hB.out.mono ?_
  rintro e w3 ⟨rfl, hb3⟩
  have k1c := k1b.call hb3
  have k2c := k2.call hb3
  have b3 := bl_call b2 hb3
  clear a0 a1 a2 a3 a4 a5 a6 a7 a8 a9 a10 a11 a12
  obtain ⟨a0, a1, a2, a3, a4, a5, a6, a7, a8, a9, a10, a11, a12, _, _, _, _, _, _, _, _, _, _, _, _, _⟩ := k1c.c13
  obtain ⟨z0, z1, z2, z3, z4, z5, z6, z7, z8, z9, z10, z11, z12, _, _, _, _, _, _, _, _, _, _, _, _, _⟩ := k2c.c13
  have hC1 := Lib.hid (cplan_any a9Ap Am Af Ac cm cf cc cs _ (R1b.below hb3) a9A_pok)
  rw [a9A_chk] at hC1
  go_wp2_with fail
  refine hC1.out.mono ?_
  rintro e w4 ⟨rfl, hb4⟩
  have k2d := k2c.call hb4
  have b4 := bl_call b3 hb4
  clear a0 a1 a2 a3 a4 a5 a6 a7 a8 a9 a10 a11 a12 z0 z1 z2 z3 z4 z5 z6 z7 z8 z9 z10 z11 z12
  obtain ⟨z0, z1, z2, z3, z4, z5, z6, z7, z8, z9, z10, z11, z12, _, _, _, _, _, _, _, _, _, _, _, _, _⟩ := k2d.c13
  have hC2 := Lib.hid (cplan_any a9Bp Bm Bf Bc dm df dc ds _ ((R2.below hb3).below hb4) a9B_pok)
  rw [a9B_chk] at hC2
  go_wp2_with fail
  refine hC2.out.mono ?_
  rintro e w5 ⟨rfl, hb5⟩
  go_wp2_with fail
  go_ret
  exact ⟨rfl, bl_call b4 hb5⟩
end Go.Proofs.Ytcgkfgklggjmaaa.Par
end
section
namespace Go.Proofs.Ytcgkfgklggjmaaa.Par
set_option linter.unusedVariables false
set_option linter.unusedSimpArgs false
open Go.RowKit
set_option maxHeartbeats 16000000 in
set_option maxRecDepth 100000 in
theorem checkIs_any (hRP : RParses8) (s : ByteArray) (w : World) (hs : s.size ≤ 9223372036854775807) :
    Calls Try.prog 3 #[.string s] w fun e w' => e = .returned (.bool true) ∧ Below w.heap.size w w' := by
  have hal := Lib.hid (alive9_any hRP)
  have hO := of9_any hRP s
  have hPo := fun h => pok_parse (l := s.data.toList) h
  obtain ⟨p, er, li, co, hpq⟩ : ∃ p er li co, RParse s.data.toList = (p, er, li, co) := ⟨_, _, _, _, rfl⟩
  rw [hpq] at hO hPo
  clear hpq hRP
  dsimp only at hO hPo
  obtain ⟨r, hr⟩ : ∃ r, (decide (er = 0) && decide (s.size ≤ 8192)) = r := ⟨_, rfl⟩
  rw [hr] at hO
  replace hO := Lib.hid (fun W => hO W hs)
  have hPl2 : r = true → POk p := fun h => by
    rw [← hr, Bool.and_eq_true] at h
    exact hPo (by simpa using h.1)
  replace hPl2 := Lib.hid hPl2
  clear hPo hr
  go_enter Try.func3, Try.ntmps3
  go_wp2_with fail
  refine (hal.out _).mono ?_
  rintro e w1 ⟨rfl, hb1⟩
  go_wp2_with fail
  refine (hO.out _).mono ?_
  rintro e w2 ⟨v, rfl, hv, hb2⟩
  obtain ⟨mv, fv, cv, cs, rfl, hR1⟩ := hv
  obtain ⟨Am, cm, rfl, _, _, _⟩ := Lies.open (f := metF) (l := p.mets) (Lies.of hR1.mo)
  obtain ⟨Af, cf, rfl, _, _, _⟩ := Lies.open (f := feeF) (l := p.fees) (Lies.of hR1.fo)
  obtain ⟨Ac, cc, rfl, _, _, _⟩ := Lies.open (f := chgF) (l := cs) (Lies.of hR1.co)
  unfold planC
  have k1 := Blk.new w2 29 #[.string p.name, .string p.cur, .int .i64 p.from_.1, .int .i64 p.from_.2.1, .int .i64 p.from_.2.2, .int .i64 p.to_.1, .int .i64 p.to_.2.1, .int .i64 p.to_.2.2, .slice Am p.mets.length cm, .slice Af p.fees.length cf, .slice Ac cs.length cc, .int .i64 p.line, .int .i64 p.col]
  have R1 := hR1.below (bl_alloc (bl_refl w2) (.cells #[.string p.name, .string p.cur, .int .i64 p.from_.1, .int .i64 p.from_.2.1, .int .i64 p.from_.2.2, .int .i64 p.to_.1, .int .i64 p.to_.2.1, .int .i64 p.to_.2.2, .slice Am p.mets.length cm, .slice Af p.fees.length cf, .slice Ac cs.length cc, .int .i64 p.line, .int .i64 p.col] 29))
  have b1 := bl_alloc (bl_call hb1 hb2) (.cells #[.string p.name, .string p.cur, .int .i64 p.from_.1, .int .i64 p.from_.2.1, .int .i64 p.from_.2.2, .int .i64 p.to_.1, .int .i64 p.to_.2.1, .int .i64 p.to_.2.2, .slice Am p.mets.length cm, .slice Af p.fees.length cf, .slice Ac cs.length cc, .int .i64 p.line, .int .i64 p.col] 29)
  clear hR1 hal hO
  cases r with
  | false =>
    go_wp2_with fail
    go_ret
    exact ⟨rfl, b1⟩
  | true =>
    have hPk := hPl2.out rfl
    clear hPl2
    obtain ⟨a0, a1, a2, a3, a4, a5, a6, a7, a8, a9, a10, a11, a12, _, _, _, _, _, _, _, _, _, _, _, _, _⟩ := k1.c13
    go_upto_region 6 with fail
    generalize w2.alloc (.cells #[.string p.name, .string p.cur, .int .i64 p.from_.1, .int .i64 p.from_.2.1, .int .i64 p.from_.2.2, .int .i64 p.to_.1, .int .i64 p.to_.2.1, .int .i64 p.to_.2.2, .slice Am p.mets.length cm, .slice Af p.fees.length cf, .slice Ac cs.length cc, .int .i64 p.line, .int .i64 p.col] 29) = u2 at *
    generalize w2.heap.size = n2 at *
    have rP := Lib.hid (fun (W : World) (hb : Below u2.heap.size u2 W) => cplan_any p Am Af Ac cm cf cc cs W (R1.below hb) hPk)
    have rQ := Lib.hid (fun (W : World) (hb : Below u2.heap.size u2 W) => rplan9_any p Am Af Ac cm cf cc cs W (R1.below hb) hPk)
    obtain ⟨x1, x2, x3, hx⟩ : ∃ x1 x2 x3, chkL p = (x1, x2, x3) := ⟨_, _, _, rfl⟩
    rw [hx] at rP rQ
    clear hx R1
    go_wp2_with fail
    refine (rP.out _ (bl_refl _)).mono ?_
    rintro e w3 ⟨rfl, hb3⟩
    have k3 := k1.call hb3
    have kf := Blk.new w3 34 #[.int .i64 x1, .int .i64 x2, .int .i64 x3]
    have k3b := k3.alloc (.cells #[.int .i64 x1, .int .i64 x2, .int .i64 x3] 34)
    have l3 := bl_alloc hb3 (.cells #[.int .i64 x1, .int .i64 x2, .int .i64 x3] 34)
    clear a0 a1 a2 a3 a4 a5 a6 a7 a8 a9 a10 a11 a12 k1
    obtain ⟨a0, a1, a2, a3, a4, a5, a6, a7, a8, a9, a10, a11, a12, _, _, _, _, _, _, _, _, _, _, _, _, _⟩ := k3b.c13
    go_wp2_with fail
    refine (rQ.out _ l3).mono ?_
    rintro e w4 ⟨rfl, hb4⟩
    have kf4 := kf.call hb4
    obtain ⟨f0, f1, f2, _, _, _⟩ := kf4.c3
    go_wp2_with fail
    go_ret
    exact ⟨by first | rfl | simp, bl_call b1 (bl_call l3 hb4)⟩
end Go.Proofs.Ytcgkfgklggjmaaa.Par
end
