import Derived.Test.YtcgkfgklggjmaaaDoorGj
section
namespace Go.Proofs.YtcgkfgklggjmaaaDoor.Par
set_option linter.unusedVariables false
set_option linter.unusedSimpArgs false
open Go.RowKit
theorem pok_bnum {p : Plan} (h : POk p) (hc : ∀ c ∈ p.chgs, 1 ≤ c.block) : BNum p :=
  ⟨fun m hm => (h.mets m hm).2.2, fun f hf => (h.fees f hf).1, fun c hcm => ⟨(h.chgs c hcm).allow, ⟨hc c hcm, (h.chgs c hcm).block.2⟩, fun t ht => by
    obtain ⟨l, r, e, h1, h2⟩ := (h.chgs c hcm).tiers
    rw [e] at ht
    rcases List.mem_append.1 ht with ht | ht
    · exact (h1 t ht).2
    · obtain rfl := List.mem_singleton.1 ht; exact h2, (h.chgs c hcm).adjs⟩⟩
theorem cok_upto {c : Chg} (h : COk c) : ∀ t ∈ c.tiers, 0 ≤ t.upto := fun t ht => by
  obtain ⟨l, r, e, h1, h2⟩ := h.tiers
  rw [e] at ht
  rcases List.mem_append.1 ht with ht | ht
  · exact (h1 t ht).1.1
  · obtain rfl := List.mem_singleton.1 ht; exact Int.le_refl _
theorem hor_chk {p : Plan} (h : horE p ≠ 0) : chkL p = (horE p, p.line, p.col) := by
  unfold chkL
  unfold horE at h ⊢
  split
  · rfl
  · split
    · rfl
    · rename_i h1 h2; rw [if_neg h1, if_neg h2] at h; exact absurd rfl h
theorem hor_ok {p : Plan} (h : horE p = 0) : ¬ numT p.to_ < numT p.from_ ∧ ¬ 4000 ≤ numT p.to_ - numT p.from_ := by
  unfold horE at h
  split at h
  · cases h
  · split at h
    · cases h
    · exact ⟨by assumption, by assumption⟩
theorem ne_fst {α : Type} {e : Nat → α → Int} {pl : α → Int × Int} {l : List α} {k : Nat} {m : α} (h0 : ∀ (j : Nat) (x : α), j < k → l[j]? = some x → e j x = 0) (hm : l[k]? = some m) (he : e k m ≠ 0) : firstE e pl 0 l = (e k m, pl m) ∧ (firstE e pl 0 l).1 ≠ 0 := by
  have h := firstE_at (e := e) (pl := pl) (i := 0) (fun j x hj hx => by rw [Nat.zero_add]; exact h0 j x hj hx) hm (by rw [Nat.zero_add]; exact he)
  rw [Nat.zero_add] at h
  exact ⟨h, by rw [h]; exact he⟩
theorem all_fst {α : Type} {e : Nat → α → Int} {pl : α → Int × Int} {l : List α} (h0 : ∀ (j : Nat) (x : α), j < l.length → l[j]? = some x → e j x = 0) : (firstE e pl 0 l).1 = 0 :=
  first_zero.2 fun j x hx => by rw [Nat.zero_add]; exact h0 j x (List.getElem?_eq_some_iff.1 hx).1 hx
abbrev plM : Met → Int × Int := fun m => (m.line, m.col)
abbrev plF : Fee → Int × Int := fun m => (m.line, m.col)
abbrev plC : Chg → Int × Int := fun m => (m.line, m.col)
theorem chk_met {p : Plan} (h : horE p = 0) (hm : (firstE (metE p) plM 0 p.mets).1 ≠ 0) : chkL p = firstE (metE p) plM 0 p.mets := by
  obtain ⟨h1, h2⟩ := hor_ok h
  unfold chkL
  rw [if_neg h1, if_neg h2, if_pos hm]
theorem chk_fee {p : Plan} (h : horE p = 0) (hm : (firstE (metE p) plM 0 p.mets).1 = 0) (hf : (firstE (feeE p) plF 0 p.fees).1 ≠ 0) : chkL p = firstE (feeE p) plF 0 p.fees := by
  obtain ⟨h1, h2⟩ := hor_ok h
  unfold chkL
  rw [if_neg h1, if_neg h2, if_neg (by simpa using hm), if_pos hf]
theorem chk_chg {p : Plan} (h : horE p = 0) (hm : (firstE (metE p) plM 0 p.mets).1 = 0) (hf : (firstE (feeE p) plF 0 p.fees).1 = 0) (hc : (firstE (chgE p) plC 0 p.chgs).1 ≠ 0) : chkL p = firstE (chgE p) plC 0 p.chgs := by
  obtain ⟨h1, h2⟩ := hor_ok h
  unfold chkL
  rw [if_neg h1, if_neg h2, if_neg (by simpa using hm), if_neg (by simpa using hf), if_pos hc]
theorem chk_end {p : Plan} (h : horE p = 0) (hm : (firstE (metE p) plM 0 p.mets).1 = 0) (hf : (firstE (feeE p) plF 0 p.fees).1 = 0) (hc : (firstE (chgE p) plC 0 p.chgs).1 = 0) : chkL p = if boundO p = none then (6, p.line, p.col) else (0, 0, 0) := by
  obtain ⟨h1, h2⟩ := hor_ok h
  unfold chkL
  rw [if_neg h1, if_neg h2, if_neg (by simpa using hm), if_neg (by simpa using hf), if_neg (by simpa using hc)]
theorem chgE_block {p : Plan} {k : Nat} {c : Chg} (h : chgE p k c = 0) : 1 ≤ c.block := by
  unfold chgE at h
  split at h
  · cases h
  split at h
  · cases h
  split at h
  · cases h
  split at h
  · cases h
  · omega
theorem chgE_len {p : Plan} (h : ∀ (j : Nat) (x : Chg), p.chgs[j]? = some x → chgE p j x = 0) : p.chgs.length ≤ 8 := by
  rcases Nat.lt_or_ge 8 p.chgs.length with h8 | h8
  · have := h 8 p.chgs[8] (List.getElem?_eq_getElem h8)
    unfold chgE at this
    rw [if_pos (Nat.le_refl 8)] at this
    cases this
  · exact h8
theorem feeE_len {p : Plan} (h : ∀ (j : Nat) (x : Fee), p.fees[j]? = some x → feeE p j x = 0) : p.fees.length ≤ 8 := by
  rcases Nat.lt_or_ge 8 p.fees.length with h8 | h8
  · have := h 8 p.fees[8] (List.getElem?_eq_getElem h8)
    unfold feeE at this
    rw [if_pos (Nat.le_refl 8)] at this
    cases this
  · exact h8
theorem mem_at {α : Type} {l : List α} {P : α → Prop} (h : ∀ (j : Nat) (x : α), j < l.length → l[j]? = some x → P x) : ∀ x ∈ l, P x := fun x hx => by
  obtain ⟨j, hj, e⟩ := List.mem_iff_getElem.1 hx
  exact h j x hj (by rw [List.getElem?_eq_getElem hj, e])
set_option maxHeartbeats 16000000 in
set_option maxRecDepth 100000 in
theorem cplan_any (p : Plan) (Am Af Ac : Option Addr) (cm cf cc : Nat) (cs : List CT) (w : World) {B : Nat} (hR : Rows w B p (.slice Am p.mets.length cm) (.slice Af p.fees.length cf) (.slice Ac cs.length cc) cs) (hP : POk p) :
    Calls Tryd.prog 12 #[.agg #[.string p.name, .string p.cur, .int .i64 p.from_.1, .int .i64 p.from_.2.1, .int .i64 p.from_.2.2, .int .i64 p.to_.1, .int .i64 p.to_.2.1, .int .i64 p.to_.2.2, .slice Am p.mets.length cm, .slice Af p.fees.length cf, .slice Ac cs.length cc, .int .i64 p.line, .int .i64 p.col]] w fun e w' => e = .returned (.agg #[.int .i64 (chkL p).1, .int .i64 (chkL p).2.1, .int .i64 (chkL p).2.2]) ∧ Below w.heap.size w w' := by
  have hf := dok_good hP.from_
  have ht := dok_good hP.to_
  obtain ⟨_, _, he, ht1, ht2, ht3⟩ := Lies.open (f := feeF) (l := p.fees) (Lies.of hR.fo)
  injection he with he1 he2 he3
  subst he1 he3
  obtain ⟨_, _, he, hc1, hc2, hc3⟩ := Lies.open (f := chgF) (l := cs) (Lies.of hR.co)
  injection he with he1 he2 he3
  subst he1 he3
  obtain ⟨_, _, he, hm1, hm2, hm3⟩ := Lies.open (f := metF) (l := p.mets) (Lies.of hR.mo)
  injection he with he1 he2 he3
  subst he1 he3
  unfold maxLen at ht2 hc2 hm2
  have hcl : Hid (cs.length = p.chgs.length) := Lib.hid (by have h := congrArg List.length hR.eq; rw [List.length_map] at h; exact h)
  have kp0 := (Blk.new w 29 #[.string p.name, .string p.cur, .int .i64 p.from_.1, .int .i64 p.from_.2.1, .int .i64 p.from_.2.2, .int .i64 p.to_.1, .int .i64 p.to_.2.1, .int .i64 p.to_.2.2, .slice Am p.mets.length cm, .slice Af p.fees.length cf, .slice Ac cs.length cc, .int .i64 p.line, .int .i64 p.col]).alloc (.cells #[.int .i64 0, .int .i64 0, .int .i64 0] 34)
  have kr0 := Dec.Blk.new2 w (.cells #[.string p.name, .string p.cur, .int .i64 p.from_.1, .int .i64 p.from_.2.1, .int .i64 p.from_.2.2, .int .i64 p.to_.1, .int .i64 p.to_.2.1, .int .i64 p.to_.2.2, .slice Am p.mets.length cm, .slice Af p.fees.length cf, .slice Ac cs.length cc, .int .i64 p.line, .int .i64 p.col] 29) 34 #[.int .i64 0, .int .i64 0, .int .i64 0]
  have b0 := bl_alloc (bl_alloc (bl_refl w) (.cells #[.string p.name, .string p.cur, .int .i64 p.from_.1, .int .i64 p.from_.2.1, .int .i64 p.from_.2.2, .int .i64 p.to_.1, .int .i64 p.to_.2.1, .int .i64 p.to_.2.2, .slice Am p.mets.length cm, .slice Af p.fees.length cf, .slice Ac cs.length cc, .int .i64 p.line, .int .i64 p.col] 29)) (.cells #[.int .i64 0, .int .i64 0, .int .i64 0] 34)
  have hH := Lib.hid (fun W => horizon_any p Am Af Ac cm cf cc cs W hf ht)
  have hX1 := Lib.hid (hor_chk (p := p))
  obtain ⟨a0, a1, a2, a3, a4, a5, a6, a7, a8, a9, a10, a11, a12, _, _, _, _, _, _, _, _, _, _, _, _, _⟩ := kp0.c13
  go_enter Tryd.func12, Tryd.ntmps12
  go_wp2_with fail
  refine (hH.out _).mono ?_
  rintro e w1 ⟨rfl, hb1⟩
  have kp1 := kp0.call hb1
  have kr1 := kr0.call hb1
  have bb1 := bl_call b0 hb1
  clear a0 a1 a2 a3 a4 a5 a6 a7 a8 a9 a10 a11 a12 hH
  obtain ⟨a0, a1, a2, a3, a4, a5, a6, a7, a8, a9, a10, a11, a12, _, _, _, _, _, _, _, _, _, _, _, _, _⟩ := kp1.c13
  obtain ⟨q0, q1, q2, _, _, _⟩ := kr1.c3
  have lr := kr1.lt
  obtain ⟨H, hHe⟩ : ∃ H, horE p = H := ⟨_, rfl⟩
  rw [hHe] at hX1 ⊢
  by_cases hz : H = 0
  · subst hz
    have hor0 : Hid (horE p = 0) := Lib.hid hHe
    clear hX1 hHe
    go_wp2_with fail
    go_loopw [28] (fun v wr => ∃ k : Nat, k ≤ p.mets.length ∧ v = .int .i64 k ∧ Hid (∀ (j : Nat) (x : Met), j < k → p.mets[j]? = some x → metE p j x = 0) ∧ Blk wr w.heap.size 29 #[.string p.name, .string p.cur, .int .i64 p.from_.1, .int .i64 p.from_.2.1, .int .i64 p.from_.2.2, .int .i64 p.to_.1, .int .i64 p.to_.2.1, .int .i64 p.to_.2.2, .slice Am p.mets.length cm, .slice Af p.fees.length cf, .slice Ac cs.length cc, .int .i64 p.line, .int .i64 p.col] ∧ Blk wr (w.heap.size + 1) 34 #[.int .i64 0, .int .i64 0, .int .i64 0] ∧ Below w.heap.size w wr) (fun v _ => p.mets.length - (intOf v).toNat)
    case atStart => exact ⟨0, by omega, rfl, Lib.hid (fun j x hj => absurd hj (by omega)), kp1, kr1, bb1⟩
    case round =>
      clear kp1 kr1 bb1 lr q0 q1 q2 a0 a1 a2 a3 a4 a5 a6 a7 a8 a9 a10 a11 a12
      obtain ⟨k, hk, rfl, hno, kpr, krr, hbw⟩ := hrel
      have hRr := hR.below hbw
      have lp := kpr.lt
      have lr := krr.lt
      by_cases hlt : k < p.mets.length
      · obtain ⟨g0, rfl, hg0⟩ := hm3 (by omega)
        obtain ⟨m, hm⟩ : ∃ m, p.mets[k]? = some m := ⟨p.mets[k], List.getElem?_eq_getElem hlt⟩
        have r0 : (wr).cell? ⟨g0, k * 5, none⟩ = some (.string m.name) := Lies.at (f := metF) (l := p.mets) (Lies.of hRr.mo) (fun _ => rfl) (i := k) hm (j := 0) rfl
        have r1 : (wr).cell? ⟨g0, k * 5 + 1, none⟩ = some (.string m.unit) := Lies.at (f := metF) (l := p.mets) (Lies.of hRr.mo) (fun _ => rfl) (i := k) hm (j := 1) rfl
        have r2 : (wr).cell? ⟨g0, k * 5 + 2, none⟩ = some (.int .i64 m.max) := Lies.at (f := metF) (l := p.mets) (Lies.of hRr.mo) (fun _ => rfl) (i := k) hm (j := 2) rfl
        have r3 : (wr).cell? ⟨g0, k * 5 + 3, none⟩ = some (.int .i64 m.line) := Lies.at (f := metF) (l := p.mets) (Lies.of hRr.mo) (fun _ => rfl) (i := k) hm (j := 3) rfl
        have r4 : (wr).cell? ⟨g0, k * 5 + 4, none⟩ = some (.int .i64 m.col) := Lies.at (f := metF) (l := p.mets) (Lies.of hRr.mo) (fun _ => rfl) (i := k) hm (j := 4) rfl
        have gg0 : (0 : Int) ≤ (k : Int) := by omega
        have gg1 : (k : Int) < (p.mets.length : Int) := by omega
        have gg2 : (k : Int) < (cm : Int) := by have := hm1; omega
        have kp1 := kpr.alloc (.cells #[.string m.name, .string m.unit, .int .i64 m.max, .int .i64 m.line, .int .i64 m.col] 44)
        have kr1 := krr.alloc (.cells #[.string m.name, .string m.unit, .int .i64 m.max, .int .i64 m.line, .int .i64 m.col] 44)
        have km1 := Blk.new wr 44 #[.string m.name, .string m.unit, .int .i64 m.max, .int .i64 m.line, .int .i64 m.col]
        have hbw1 := bl_alloc hbw (.cells #[.string m.name, .string m.unit, .int .i64 m.max, .int .i64 m.line, .int .i64 m.col] 44)
        have hC := Lib.hid (meter_any p (some ⟨g0, 0, none⟩) Af Ac cm cf cc cs k m _ (hR.below hbw1).mo hm)
        obtain ⟨z0, z1, z2, z3, z4, _, _, _, _, _⟩ := km1.c5
        obtain ⟨a0, a1, a2, a3, a4, a5, a6, a7, a8, a9, a10, a11, a12, _, _, _, _, _, _, _, _, _, _, _, _, _⟩ := kp1.c13
        obtain ⟨E, hE⟩ : ∃ E, metE p k m = E := ⟨_, rfl⟩
        rw [hE] at hC
        replace hE := Lib.hid hE
        go_wp2_with fail
        refine hC.out.mono ?_
        rintro e w2 ⟨rfl, hb2⟩
        have kp2 := kp1.call hb2
        have kr2 := kr1.call hb2
        have km2 := km1.call hb2
        have hbw2 := bl_call hbw1 hb2
        clear hC z0 z1 z2 z3 z4 a0 a1 a2 a3 a4 a5 a6 a7 a8 a9 a10 a11 a12 r0 r1 r2 r3 r4 kp1 kr1 km1 hbw1
        obtain ⟨z0, z1, z2, z3, z4, _, _, _, _, _⟩ := km2.c5
        by_cases hEz : E = 0
        · subst hEz
          have hno2 : Hid (∀ (j : Nat) (x : Met), j < k + 1 → p.mets[j]? = some x → metE p j x = 0) := Lib.hid (fun j x hj hx => by
            rcases Nat.lt_or_ge j k with h1 | h1
            · exact hno.out j x h1 hx
            · obtain rfl : j = k := by omega
              rw [hm] at hx; injection hx with hx; subst hx; exact hE.out)
          clear hm
          go_wp2_with fail
          go_roundw
          case rel => exact ⟨k + 1, by omega, by go_num, hno2, kp2, kr2, hbw2⟩
          case measure => simp [intOf]; omega
        · have hEq : metE p k m ≠ 0 := by rw [hE.out]; exact hEz
          have hres : chkL p = (E, m.line, m.col) := by rw [← hE.out]; exact (chk_met hor0.out (ne_fst (pl := plM) hno.out hm hEq).2).trans (ne_fst (pl := plM) hno.out hm hEq).1
          have hne : (E != 0) = true := bne_iff_ne.mpr hEz
          have lr2 := kr2.lt
          obtain ⟨q0, q1, q2, _, _, _⟩ := kr2.c3
          replace hres := Lib.hid hres
          clear hm hEq
          go_wp2_with fail
          exact bodyPost_ret (results_cell_row rfl _ _ (w.heap.size + 1) _ #[.int .i64 E, .int .i64 m.line, .int .i64 m.col] (0, 0) _ rfl (((kr2.set_ 0 (.int .i64 E)).set_ 1 (.int .i64 m.line)).set_ 2 (.int .i64 m.col)) Tryd.underlying34 rfl (by kernel_rfl)) rfl
            ⟨by rw [hres.out], bl_set (bl_set (bl_set hbw2 (by show w.heap.size ≤ w.heap.size + 1; omega) _) (by show w.heap.size ≤ w.heap.size + 1; omega) _) (by show w.heap.size ≤ w.heap.size + 1; omega) _⟩
      · obtain rfl : k = p.mets.length := by omega
        have hmet0 := Lib.hid (all_fst (pl := plM) hno.out)
        obtain ⟨a0, a1, a2, a3, a4, a5, a6, a7, a8, a9, a10, a11, a12, _, _, _, _, _, _, _, _, _, _, _, _, _⟩ := kpr.c13
        go_wp2_with fail
        clear a0 a1 a2 a3 a4 a5 a6 a7 a8 a9 a10 a11 a12 hlt hk
        go_loopw [48] (fun v wr => ∃ k : Nat, k ≤ p.fees.length ∧ v = .int .i64 k ∧ Hid (∀ (j : Nat) (x : Fee), j < k → p.fees[j]? = some x → feeE p j x = 0) ∧ Blk wr w.heap.size 29 #[.string p.name, .string p.cur, .int .i64 p.from_.1, .int .i64 p.from_.2.1, .int .i64 p.from_.2.2, .int .i64 p.to_.1, .int .i64 p.to_.2.1, .int .i64 p.to_.2.2, .slice Am p.mets.length cm, .slice Af p.fees.length cf, .slice Ac cs.length cc, .int .i64 p.line, .int .i64 p.col] ∧ Blk wr (w.heap.size + 1) 34 #[.int .i64 0, .int .i64 0, .int .i64 0] ∧ Below w.heap.size w wr) (fun v _ => p.fees.length - (intOf v).toNat)
        case atStart => exact ⟨0, by omega, rfl, Lib.hid (fun j x hj => absurd hj (by omega)), kpr, krr, hbw⟩
        case round =>
          clear kpr krr hbw hRr lp lr hno
          obtain ⟨k, hk, rfl, hno, kpr, krr, hbw⟩ := hrel
          have hRr := hR.below hbw
          have lp := kpr.lt
          have lr := krr.lt
          by_cases hlt : k < p.fees.length
          · obtain ⟨g0, rfl, hg0⟩ := ht3 (by omega)
            obtain ⟨m, hm⟩ : ∃ m, p.fees[k]? = some m := ⟨p.fees[k], List.getElem?_eq_getElem hlt⟩
            have r0 : (wr).cell? ⟨g0, k * 10, none⟩ = some (.int .i64 m.amount) := Lies.at (f := feeF) (l := p.fees) (Lies.of hRr.fo) (fun _ => rfl) (i := k) hm (j := 0) rfl
            have r1 : (wr).cell? ⟨g0, k * 10 + 1, none⟩ = some (.bool m.win.has) := Lies.at (f := feeF) (l := p.fees) (Lies.of hRr.fo) (fun _ => rfl) (i := k) hm (j := 1) rfl
            have r2 : (wr).cell? ⟨g0, k * 10 + 2, none⟩ = some (.int .i64 m.win.from_.1) := Lies.at (f := feeF) (l := p.fees) (Lies.of hRr.fo) (fun _ => rfl) (i := k) hm (j := 2) rfl
            have r3 : (wr).cell? ⟨g0, k * 10 + 3, none⟩ = some (.int .i64 m.win.from_.2.1) := Lies.at (f := feeF) (l := p.fees) (Lies.of hRr.fo) (fun _ => rfl) (i := k) hm (j := 3) rfl
            have r4 : (wr).cell? ⟨g0, k * 10 + 4, none⟩ = some (.int .i64 m.win.from_.2.2) := Lies.at (f := feeF) (l := p.fees) (Lies.of hRr.fo) (fun _ => rfl) (i := k) hm (j := 4) rfl
            have r5 : (wr).cell? ⟨g0, k * 10 + 5, none⟩ = some (.int .i64 m.win.to_.1) := Lies.at (f := feeF) (l := p.fees) (Lies.of hRr.fo) (fun _ => rfl) (i := k) hm (j := 5) rfl
            have r6 : (wr).cell? ⟨g0, k * 10 + 6, none⟩ = some (.int .i64 m.win.to_.2.1) := Lies.at (f := feeF) (l := p.fees) (Lies.of hRr.fo) (fun _ => rfl) (i := k) hm (j := 6) rfl
            have r7 : (wr).cell? ⟨g0, k * 10 + 7, none⟩ = some (.int .i64 m.win.to_.2.2) := Lies.at (f := feeF) (l := p.fees) (Lies.of hRr.fo) (fun _ => rfl) (i := k) hm (j := 7) rfl
            have r8 : (wr).cell? ⟨g0, k * 10 + 8, none⟩ = some (.int .i64 m.line) := Lies.at (f := feeF) (l := p.fees) (Lies.of hRr.fo) (fun _ => rfl) (i := k) hm (j := 8) rfl
            have r9 : (wr).cell? ⟨g0, k * 10 + 9, none⟩ = some (.int .i64 m.col) := Lies.at (f := feeF) (l := p.fees) (Lies.of hRr.fo) (fun _ => rfl) (i := k) hm (j := 9) rfl
            have gg0 : (0 : Int) ≤ (k : Int) := by omega
            have gg1 : (k : Int) < (p.fees.length : Int) := by omega
            have gg2 : (k : Int) < (cf : Int) := by have := ht1; omega
            have kp1 := kpr.alloc (.cells #[.int .i64 m.amount, .bool m.win.has, .int .i64 m.win.from_.1, .int .i64 m.win.from_.2.1, .int .i64 m.win.from_.2.2, .int .i64 m.win.to_.1, .int .i64 m.win.to_.2.1, .int .i64 m.win.to_.2.2, .int .i64 m.line, .int .i64 m.col] 48)
            have kr1 := krr.alloc (.cells #[.int .i64 m.amount, .bool m.win.has, .int .i64 m.win.from_.1, .int .i64 m.win.from_.2.1, .int .i64 m.win.from_.2.2, .int .i64 m.win.to_.1, .int .i64 m.win.to_.2.1, .int .i64 m.win.to_.2.2, .int .i64 m.line, .int .i64 m.col] 48)
            have km1 := Blk.new wr 48 #[.int .i64 m.amount, .bool m.win.has, .int .i64 m.win.from_.1, .int .i64 m.win.from_.2.1, .int .i64 m.win.from_.2.2, .int .i64 m.win.to_.1, .int .i64 m.win.to_.2.1, .int .i64 m.win.to_.2.2, .int .i64 m.line, .int .i64 m.col]
            have hbw1 := bl_alloc hbw (.cells #[.int .i64 m.amount, .bool m.win.has, .int .i64 m.win.from_.1, .int .i64 m.win.from_.2.1, .int .i64 m.win.from_.2.2, .int .i64 m.win.to_.1, .int .i64 m.win.to_.2.1, .int .i64 m.win.to_.2.2, .int .i64 m.line, .int .i64 m.col] 48)
            have hC := Lib.hid (fee_any p Am (some ⟨g0, 0, none⟩) Ac cm cf cc cs k m _ (hR.below hbw1).fo hm hf ht (wok_wg (hP.fees m (List.mem_of_getElem? hm)).2))
            obtain ⟨z0, z1, z2, z3, z4, z5, z6, z7, z8, z9, _, _, _, _, _, _, _, _, _, _⟩ := km1.c10
            obtain ⟨a0, a1, a2, a3, a4, a5, a6, a7, a8, a9, a10, a11, a12, _, _, _, _, _, _, _, _, _, _, _, _, _⟩ := kp1.c13
            obtain ⟨E, hE⟩ : ∃ E, feeE p k m = E := ⟨_, rfl⟩
            rw [hE] at hC
            replace hE := Lib.hid hE
            go_wp2_with fail
            refine hC.out.mono ?_
            rintro e w2 ⟨rfl, hb2⟩
            have kp2 := kp1.call hb2
            have kr2 := kr1.call hb2
            have km2 := km1.call hb2
            have hbw2 := bl_call hbw1 hb2
            clear hC z0 z1 z2 z3 z4 z5 z6 z7 z8 z9 a0 a1 a2 a3 a4 a5 a6 a7 a8 a9 a10 a11 a12 r0 r1 r2 r3 r4 r5 r6 r7 r8 r9 kp1 kr1 km1 hbw1
            obtain ⟨z0, z1, z2, z3, z4, z5, z6, z7, z8, z9, _, _, _, _, _, _, _, _, _, _⟩ := km2.c10
            by_cases hEz : E = 0
            · subst hEz
              have hno2 : Hid (∀ (j : Nat) (x : Fee), j < k + 1 → p.fees[j]? = some x → feeE p j x = 0) := Lib.hid (fun j x hj hx => by
                rcases Nat.lt_or_ge j k with h1 | h1
                · exact hno.out j x h1 hx
                · obtain rfl : j = k := by omega
                  rw [hm] at hx; injection hx with hx; subst hx; exact hE.out)
              clear hm
              go_wp2_with fail
              go_roundw
              case rel => exact ⟨k + 1, by omega, by go_num, hno2, kp2, kr2, hbw2⟩
              case measure => simp [intOf]; omega
            · have hEq : feeE p k m ≠ 0 := by rw [hE.out]; exact hEz
              have hres : chkL p = (E, m.line, m.col) := by rw [← hE.out]; exact (chk_fee hor0.out hmet0.out (ne_fst (pl := plF) hno.out hm hEq).2).trans (ne_fst (pl := plF) hno.out hm hEq).1
              have hne : (E != 0) = true := bne_iff_ne.mpr hEz
              have lr2 := kr2.lt
              obtain ⟨q0, q1, q2, _, _, _⟩ := kr2.c3
              replace hres := Lib.hid hres
              clear hm hEq
              go_wp2_with fail
              exact bodyPost_ret (results_cell_row rfl _ _ (w.heap.size + 1) _ #[.int .i64 E, .int .i64 m.line, .int .i64 m.col] (0, 0) _ rfl (((kr2.set_ 0 (.int .i64 E)).set_ 1 (.int .i64 m.line)).set_ 2 (.int .i64 m.col)) Tryd.underlying34 rfl (by kernel_rfl)) rfl
                ⟨by rw [hres.out], bl_set (bl_set (bl_set hbw2 (by show w.heap.size ≤ w.heap.size + 1; omega) _) (by show w.heap.size ≤ w.heap.size + 1; omega) _) (by show w.heap.size ≤ w.heap.size + 1; omega) _⟩
          · obtain rfl : k = p.fees.length := by omega
            have hfee0 := Lib.hid (all_fst (pl := plF) hno.out)
            have hfl := Lib.hid (feeE_len fun j x hx => hno.out j x (List.getElem?_eq_some_iff.1 hx).1 hx)
            obtain ⟨a0, a1, a2, a3, a4, a5, a6, a7, a8, a9, a10, a11, a12, _, _, _, _, _, _, _, _, _, _, _, _, _⟩ := kpr.c13
            go_wp2_with fail
            clear a0 a1 a2 a3 a4 a5 a6 a7 a8 a9 a10 a11 a12 hlt hk
            go_loopw [68] (fun v wr => ∃ k : Nat, k ≤ cs.length ∧ v = .int .i64 k ∧ Hid (∀ (j : Nat) (x : Chg), j < k → p.chgs[j]? = some x → chgE p j x = 0) ∧ Blk wr w.heap.size 29 #[.string p.name, .string p.cur, .int .i64 p.from_.1, .int .i64 p.from_.2.1, .int .i64 p.from_.2.2, .int .i64 p.to_.1, .int .i64 p.to_.2.1, .int .i64 p.to_.2.2, .slice Am p.mets.length cm, .slice Af p.fees.length cf, .slice Ac cs.length cc, .int .i64 p.line, .int .i64 p.col] ∧ Blk wr (w.heap.size + 1) 34 #[.int .i64 0, .int .i64 0, .int .i64 0] ∧ Below w.heap.size w wr) (fun v _ => cs.length - (intOf v).toNat)
            case atStart => exact ⟨0, by omega, rfl, Lib.hid (fun j x hj => absurd hj (by omega)), kpr, krr, hbw⟩
            case round =>
              clear kpr krr hbw hRr lp lr hno
              obtain ⟨k, hk, rfl, hno, kpr, krr, hbw⟩ := hrel
              have hRr := hR.below hbw
              have lp := kpr.lt
              have lr := krr.lt
              by_cases hlt : k < cs.length
              · obtain ⟨g0, rfl, hg0⟩ := hc3 (by omega)
                obtain ⟨x, hmx⟩ : ∃ m, cs[k]? = some m := ⟨cs[k], List.getElem?_eq_getElem hlt⟩
                have hmem := List.mem_of_getElem? hmx
                have hm : p.chgs[k]? = some x.1 := by rw [← hR.eq, List.getElem?_map, hmx]; rfl
                obtain ⟨m, tv, av⟩ := x
                obtain ⟨At, ct, rfl, _, _, _⟩ := Lies.open (f := tierF) (l := m.tiers) (Lies.of (hR.ne _ hmem).1)
                obtain ⟨Aa, ca, rfl, _, _, _⟩ := Lies.open (f := adjF) (l := m.adjs) (Lies.of (hR.ne _ hmem).2)
                dsimp only at hm
                have r0 : (wr).cell? ⟨g0, k * 16, none⟩ = some (.string m.meter) := Lies.at (f := chgF) (l := cs) (Lies.of hRr.co) (fun _ => rfl) (i := k) hmx (j := 0) rfl
                have r1 : (wr).cell? ⟨g0, k * 16 + 1, none⟩ = some (.bool m.win.has) := Lies.at (f := chgF) (l := cs) (Lies.of hRr.co) (fun _ => rfl) (i := k) hmx (j := 1) rfl
                have r2 : (wr).cell? ⟨g0, k * 16 + 2, none⟩ = some (.int .i64 m.win.from_.1) := Lies.at (f := chgF) (l := cs) (Lies.of hRr.co) (fun _ => rfl) (i := k) hmx (j := 2) rfl
                have r3 : (wr).cell? ⟨g0, k * 16 + 3, none⟩ = some (.int .i64 m.win.from_.2.1) := Lies.at (f := chgF) (l := cs) (Lies.of hRr.co) (fun _ => rfl) (i := k) hmx (j := 3) rfl
                have r4 : (wr).cell? ⟨g0, k * 16 + 4, none⟩ = some (.int .i64 m.win.from_.2.2) := Lies.at (f := chgF) (l := cs) (Lies.of hRr.co) (fun _ => rfl) (i := k) hmx (j := 4) rfl
                have r5 : (wr).cell? ⟨g0, k * 16 + 5, none⟩ = some (.int .i64 m.win.to_.1) := Lies.at (f := chgF) (l := cs) (Lies.of hRr.co) (fun _ => rfl) (i := k) hmx (j := 5) rfl
                have r6 : (wr).cell? ⟨g0, k * 16 + 6, none⟩ = some (.int .i64 m.win.to_.2.1) := Lies.at (f := chgF) (l := cs) (Lies.of hRr.co) (fun _ => rfl) (i := k) hmx (j := 6) rfl
                have r7 : (wr).cell? ⟨g0, k * 16 + 7, none⟩ = some (.int .i64 m.win.to_.2.2) := Lies.at (f := chgF) (l := cs) (Lies.of hRr.co) (fun _ => rfl) (i := k) hmx (j := 7) rfl
                have r8 : (wr).cell? ⟨g0, k * 16 + 8, none⟩ = some (.int .i64 m.allow) := Lies.at (f := chgF) (l := cs) (Lies.of hRr.co) (fun _ => rfl) (i := k) hmx (j := 8) rfl
                have r9 : (wr).cell? ⟨g0, k * 16 + 9, none⟩ = some (.int .i64 m.block) := Lies.at (f := chgF) (l := cs) (Lies.of hRr.co) (fun _ => rfl) (i := k) hmx (j := 9) rfl
                have r10 : (wr).cell? ⟨g0, k * 16 + 10, none⟩ = some (.int .i64 m.kind) := Lies.at (f := chgF) (l := cs) (Lies.of hRr.co) (fun _ => rfl) (i := k) hmx (j := 10) rfl
                have r11 : (wr).cell? ⟨g0, k * 16 + 11, none⟩ = some (.slice At m.tiers.length ct) := Lies.at (f := chgF) (l := cs) (Lies.of hRr.co) (fun _ => rfl) (i := k) hmx (j := 11) rfl
                have r12 : (wr).cell? ⟨g0, k * 16 + 12, none⟩ = some (.int .i64 m.mode) := Lies.at (f := chgF) (l := cs) (Lies.of hRr.co) (fun _ => rfl) (i := k) hmx (j := 12) rfl
                have r13 : (wr).cell? ⟨g0, k * 16 + 13, none⟩ = some (.slice Aa m.adjs.length ca) := Lies.at (f := chgF) (l := cs) (Lies.of hRr.co) (fun _ => rfl) (i := k) hmx (j := 13) rfl
                have r14 : (wr).cell? ⟨g0, k * 16 + 14, none⟩ = some (.int .i64 m.line) := Lies.at (f := chgF) (l := cs) (Lies.of hRr.co) (fun _ => rfl) (i := k) hmx (j := 14) rfl
                have r15 : (wr).cell? ⟨g0, k * 16 + 15, none⟩ = some (.int .i64 m.col) := Lies.at (f := chgF) (l := cs) (Lies.of hRr.co) (fun _ => rfl) (i := k) hmx (j := 15) rfl
                have gg0 : (0 : Int) ≤ (k : Int) := by omega
                have gg1 : (k : Int) < (cs.length : Int) := by omega
                have gg2 : (k : Int) < (cc : Int) := by have := hc1; omega
                have kp1 := kpr.alloc (.cells #[.string m.meter, .bool m.win.has, .int .i64 m.win.from_.1, .int .i64 m.win.from_.2.1, .int .i64 m.win.from_.2.2, .int .i64 m.win.to_.1, .int .i64 m.win.to_.2.1, .int .i64 m.win.to_.2.2, .int .i64 m.allow, .int .i64 m.block, .int .i64 m.kind, .slice At m.tiers.length ct, .int .i64 m.mode, .slice Aa m.adjs.length ca, .int .i64 m.line, .int .i64 m.col] 52)
                have kr1 := krr.alloc (.cells #[.string m.meter, .bool m.win.has, .int .i64 m.win.from_.1, .int .i64 m.win.from_.2.1, .int .i64 m.win.from_.2.2, .int .i64 m.win.to_.1, .int .i64 m.win.to_.2.1, .int .i64 m.win.to_.2.2, .int .i64 m.allow, .int .i64 m.block, .int .i64 m.kind, .slice At m.tiers.length ct, .int .i64 m.mode, .slice Aa m.adjs.length ca, .int .i64 m.line, .int .i64 m.col] 52)
                have km1 := Blk.new wr 52 #[.string m.meter, .bool m.win.has, .int .i64 m.win.from_.1, .int .i64 m.win.from_.2.1, .int .i64 m.win.from_.2.2, .int .i64 m.win.to_.1, .int .i64 m.win.to_.2.1, .int .i64 m.win.to_.2.2, .int .i64 m.allow, .int .i64 m.block, .int .i64 m.kind, .slice At m.tiers.length ct, .int .i64 m.mode, .slice Aa m.adjs.length ca, .int .i64 m.line, .int .i64 m.col]
                have hbw1 := bl_alloc hbw (.cells #[.string m.meter, .bool m.win.has, .int .i64 m.win.from_.1, .int .i64 m.win.from_.2.1, .int .i64 m.win.from_.2.2, .int .i64 m.win.to_.1, .int .i64 m.win.to_.2.1, .int .i64 m.win.to_.2.2, .int .i64 m.allow, .int .i64 m.block, .int .i64 m.kind, .slice At m.tiers.length ct, .int .i64 m.mode, .slice Aa m.adjs.length ca, .int .i64 m.line, .int .i64 m.col] 52)
                have hC := Lib.hid (ccharge_any p Am Af (some ⟨g0, 0, none⟩) cm cf cc cs k m At Aa ct ca _ (hR.below hbw1) hmx hf ht (wok_wg (hP.chgs m (List.mem_of_getElem? hm)).win) (cok_upto (hP.chgs m (List.mem_of_getElem? hm))))
                obtain ⟨z0, z1, z2, z3, z4, z5, z6, z7, z8, z9, z10, z11, z12, z13, z14, z15, _, _, _, _, _, _, _, _, _, _, _, _, _, _, _, _⟩ := km1.c16
                obtain ⟨a0, a1, a2, a3, a4, a5, a6, a7, a8, a9, a10, a11, a12, _, _, _, _, _, _, _, _, _, _, _, _, _⟩ := kp1.c13
                obtain ⟨E, hE⟩ : ∃ E, chgE p k m = E := ⟨_, rfl⟩
                rw [hE] at hC
                replace hE := Lib.hid hE
                go_wp2_with fail
                refine hC.out.mono ?_
                rintro e w2 ⟨rfl, hb2⟩
                have kp2 := kp1.call hb2
                have kr2 := kr1.call hb2
                have km2 := km1.call hb2
                have hbw2 := bl_call hbw1 hb2
                clear hC z0 z1 z2 z3 z4 z5 z6 z7 z8 z9 z10 z11 z12 z13 z14 z15 a0 a1 a2 a3 a4 a5 a6 a7 a8 a9 a10 a11 a12 r0 r1 r2 r3 r4 r5 r6 r7 r8 r9 r10 r11 r12 r13 r14 r15 kp1 kr1 km1 hbw1
                obtain ⟨z0, z1, z2, z3, z4, z5, z6, z7, z8, z9, z10, z11, z12, z13, z14, z15, _, _, _, _, _, _, _, _, _, _, _, _, _, _, _, _⟩ := km2.c16
                by_cases hEz : E = 0
                · subst hEz
                  have hno2 : Hid (∀ (j : Nat) (x : Chg), j < k + 1 → p.chgs[j]? = some x → chgE p j x = 0) := Lib.hid (fun j x hj hx => by
                    rcases Nat.lt_or_ge j k with h1 | h1
                    · exact hno.out j x h1 hx
                    · obtain rfl : j = k := by omega
                      rw [hm] at hx; injection hx with hx; subst hx; exact hE.out)
                  clear hm
                  go_wp2_with fail
                  go_roundw
                  case rel => exact ⟨k + 1, by omega, by go_num, hno2, kp2, kr2, hbw2⟩
                  case measure => simp [intOf]; omega
                · have hEq : chgE p k m ≠ 0 := by rw [hE.out]; exact hEz
                  have hres : chkL p = (E, m.line, m.col) := by rw [← hE.out]; exact (chk_chg hor0.out hmet0.out hfee0.out (ne_fst (pl := plC) hno.out hm hEq).2).trans (ne_fst (pl := plC) hno.out hm hEq).1
                  have hne : (E != 0) = true := bne_iff_ne.mpr hEz
                  have lr2 := kr2.lt
                  obtain ⟨q0, q1, q2, _, _, _⟩ := kr2.c3
                  replace hres := Lib.hid hres
                  clear hm hEq
                  go_wp2_with fail
                  exact bodyPost_ret (results_cell_row rfl _ _ (w.heap.size + 1) _ #[.int .i64 E, .int .i64 m.line, .int .i64 m.col] (0, 0) _ rfl (((kr2.set_ 0 (.int .i64 E)).set_ 1 (.int .i64 m.line)).set_ 2 (.int .i64 m.col)) Tryd.underlying34 rfl (by kernel_rfl)) rfl
                    ⟨by rw [hres.out], bl_set (bl_set (bl_set hbw2 (by show w.heap.size ≤ w.heap.size + 1; omega) _) (by show w.heap.size ≤ w.heap.size + 1; omega) _) (by show w.heap.size ≤ w.heap.size + 1; omega) _⟩
              · obtain rfl : k = cs.length := by omega
                have hchg0 := Lib.hid (all_fst (pl := plC) (l := p.chgs) (fun j x hj hx => hno.out j x (by have := hcl.out; omega) hx))
                have hall := Lib.hid (fun (j : Nat) (x : Chg) (hx : p.chgs[j]? = some x) => hno.out j x (by have := hcl.out; have := (List.getElem?_eq_some_iff.1 hx).1; omega) hx)
                have hBN := pok_bnum hP (mem_at fun j x _ hx => chgE_block (hall.out j x hx))
                have hl8 := chgE_len hall.out
                have hB := Lib.hid (pbound_any p Am Af Ac cm cf cc cs _ hRr hBN ⟨by have := hfl.out; omega, by have := hcl.out; omega⟩)
                have hend := Lib.hid (chk_end hor0.out hmet0.out hfee0.out hchg0.out)
                clear hBN hl8
                obtain ⟨a0, a1, a2, a3, a4, a5, a6, a7, a8, a9, a10, a11, a12, _, _, _, _, _, _, _, _, _, _, _, _, _⟩ := kpr.c13
                go_wp2_with fail
                refine hB.out.mono ?_
                rintro e w2 ⟨rfl, hb2⟩
                have kp2 := kpr.call hb2
                have kr2 := krr.call hb2
                have hbw2 := bl_call hbw hb2
                have lr2 := kr2.lt
                clear a0 a1 a2 a3 a4 a5 a6 a7 a8 a9 a10 a11 a12
                obtain ⟨a0, a1, a2, a3, a4, a5, a6, a7, a8, a9, a10, a11, a12, _, _, _, _, _, _, _, _, _, _, _, _, _⟩ := kp2.c13
                obtain ⟨q0, q1, q2, _, _, _⟩ := kr2.c3
                cases hb : boundO p with
                | none =>
                  have hres := hend.out
                  rw [if_pos hb] at hres
                  replace hres := Lib.hid hres
                  go_wp2_with fail
                  exact bodyPost_ret (results_cell_row rfl _ _ (w.heap.size + 1) _ #[.int .i64 6, .int .i64 p.line, .int .i64 p.col] (0, 0) _ rfl (((kr2.set_ 0 (.int .i64 6)).set_ 1 (.int .i64 p.line)).set_ 2 (.int .i64 p.col)) Tryd.underlying34 rfl (by kernel_rfl)) rfl
                    ⟨by rw [hres.out], bl_set (bl_set (bl_set hbw2 (by show w.heap.size ≤ w.heap.size + 1; omega) _) (by show w.heap.size ≤ w.heap.size + 1; omega) _) (by show w.heap.size ≤ w.heap.size + 1; omega) _⟩
                | some v =>
                  have hres := hend.out
                  rw [if_neg (by rw [hb]; exact Option.some_ne_none v)] at hres
                  replace hres := Lib.hid hres
                  go_wp2_with fail
                  exact bodyPost_ret (results_cell_row rfl _ _ (w.heap.size + 1) _ #[.int .i64 0, .int .i64 0, .int .i64 0] (0, 0) _ rfl (((kr2.set_ 0 (.int .i64 0)).set_ 1 (.int .i64 0)).set_ 2 (.int .i64 0)) Tryd.underlying34 rfl (by kernel_rfl)) rfl
                    ⟨by rw [hres.out], bl_set (bl_set (bl_set hbw2 (by show w.heap.size ≤ w.heap.size + 1; omega) _) (by show w.heap.size ≤ w.heap.size + 1; omega) _) (by show w.heap.size ≤ w.heap.size + 1; omega) _⟩
  · have hne : (H != 0) = true := bne_iff_ne.mpr hz
    have hres := hX1.out hz
    clear hHe hX1
    go_wp2_with fail
    exact bodyPost_ret (results_cell_row rfl _ _ (w.heap.size + 1) _ #[.int .i64 H, .int .i64 p.line, .int .i64 p.col] (0, 0) _ rfl (((kr1.set_ 0 (.int .i64 H)).set_ 1 (.int .i64 p.line)).set_ 2 (.int .i64 p.col)) Tryd.underlying34 rfl (by kernel_rfl)) rfl
      ⟨by rw [hres], bl_set (bl_set (bl_set bb1 (by show w.heap.size ≤ w.heap.size + 1; omega) _) (by show w.heap.size ≤ w.heap.size + 1; omega) _) (by show w.heap.size ≤ w.heap.size + 1; omega) _⟩
end Go.Proofs.YtcgkfgklggjmaaaDoor.Par
end
