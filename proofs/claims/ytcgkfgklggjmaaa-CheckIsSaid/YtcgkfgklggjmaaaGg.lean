import Derived.Test.YtcgkfgklggjmaaaGf
section
namespace Go.Proofs.Ytcgkfgklggjmaaa.Par
set_option linter.unusedVariables false
set_option linter.unusedSimpArgs false
open Go.RowKit
def adjP1 (a : Adj) (s : Int × Bool) : Int × Bool := ((adjStep a s.1).1, s.2 && (adjStep a s.1).2 && decide ((adjStep a s.1).1 < 1152921504606846976))
theorem adjP_snoc (a : Adj) : ∀ (l : List Adj) (s : Int × Bool), adjP (l ++ [a]) s = adjP1 a (adjP l s)
  | [], s => rfl
  | x :: l, s => by
    rw [List.cons_append]
    unfold adjP
    exact adjP_snoc a l _
theorem adjP_take {l : List Adj} {k : Nat} {a : Adj} (h : l[k]? = some a) (s : Int × Bool) : adjP (l.take (k + 1)) s = adjP1 a (adjP (l.take k) s) := by
  rw [List.take_add_one, h]
  exact adjP_snoc a _ s
theorem rate_take {l : List Tier} {k : Nat} {t : Tier} (h : l[k]? = some t) : rateM (l.take (k + 1)) = max (rateM (l.take k)) t.rate := by
  unfold rateM
  rw [List.take_add_one, h]
  simp
theorem rate_le {M : Int} : ∀ {l : List Tier} {r : Int}, r ≤ M → (∀ t ∈ l, t.rate ≤ M) → l.foldl (fun r t => max r t.rate) r ≤ M
  | [], r, h, _ => h
  | t :: l, r, h, ht => by
    rw [List.foldl_cons]
    have := ht t List.mem_cons_self
    exact rate_le (by omega) fun x hx => ht x (List.mem_cons_of_mem _ hx)
theorem upB_lt {P c : Int} : (upB P c).1 < 9223372036854775808 := by
  unfold upB
  split
  · assumption
  · decide
theorem step_lt {a : Adj} {n : Int} (h : AOk a) (hn : n < 9223372036854775808) : (adjStep a n).1 < 9223372036854775808 := by
  have han : a.n < 9223372036854775808 := by rcases h with ⟨_, h, _⟩ | ⟨_, h, _⟩ <;> omega
  unfold adjStep
  split
  · exact upB_lt
  split
  · dsimp only; omega
  split
  · dsimp only; omega
  split
  · split
    · assumption
    · decide
  · exact hn
theorem adjO_small : ∀ {l : List Adj} {n m : Int}, adjO l n = some m → n < 1152921504606846976 → m < 1152921504606846976
  | [], n, m, h, hn => by simp [adjO] at h; omega
  | a :: l, n, m, h, hn => by
    unfold adjO at h
    split at h
    · rename_i hh; exact adjO_small h hh.2
    · cases h
/-- what a charge's numbers are -/
structure CNum (c : Chg) (mx : Int) : Prop where
  mx : 0 ≤ mx ∧ mx ≤ 2000
  allow : 0 ≤ c.allow ∧ c.allow ≤ 1000000
  block : 1 ≤ c.block ∧ c.block ≤ 1000000
  tiers : ∀ t ∈ c.tiers, 0 ≤ t.rate ∧ t.rate ≤ 1000000000000
  adjs : ∀ a ∈ c.adjs, AOk a
theorem CNum.qty {c : Chg} {mx : Int} (h : CNum c mx) : 0 ≤ qtyM c mx ∧ qtyM c mx ≤ 1002000 := by
  have h1 := cdiv_le (a := max (mx - c.allow) 0) (c := c.block) (by have := h.block; omega) (by omega)
  have := h.mx; have := h.allow; have := h.block
  unfold qtyM
  refine ⟨Int.mul_nonneg h1.1 (by omega), by omega⟩
theorem CNum.rate {c : Chg} {mx : Int} (h : CNum c mx) : 0 ≤ rateM c.tiers ∧ rateM c.tiers ≤ 1000000000000 :=
  ⟨rate_ge c.tiers 0, rate_le (by decide) fun t ht => (h.tiers t ht).2⟩
theorem CNum.prod {c : Chg} {mx : Int} (h : CNum c mx) : 0 ≤ rateM c.tiers * qtyM c mx ∧ rateM c.tiers * qtyM c mx ≤ 1002000000000000000 := by
  obtain ⟨q0, q1⟩ := h.qty
  obtain ⟨r0, r1⟩ := h.rate
  refine ⟨Int.mul_nonneg r0 q0, ?_⟩
  have := Int.mul_le_mul r1 q1 q0 (by omega : (0 : Int) ≤ 1000000000000)
  omega
theorem CNum.start {c : Chg} {mx : Int} (h : CNum c mx) : upB (rateM c.tiers * qtyM c mx) 1000000 = (startM c mx, true) ∧ 0 ≤ startM c mx ∧ startM c mx ≤ 1002000000001 := by
  obtain ⟨p0, p1⟩ := h.prod
  obtain ⟨c0, c1, c2⟩ := cdiv_le (a := rateM c.tiers * qtyM c mx) (c := 1000000) (by decide) p0
  have : startM c mx ≤ 1002000000001 := by unfold startM; omega
  refine ⟨?_, c0, this⟩
  unfold upB
  rw [if_pos (by unfold startM at this; omega)]
  rfl
set_option maxHeartbeats 16000000 in
set_option maxRecDepth 100000 in
theorem pmost_any (c : Chg) (At Aa : Option Addr) (ct ca : Nat) (mx : Int) (w : World) {B : Nat} (hT : TiersLie B w (.slice At c.tiers.length ct) c.tiers) (hA : AdjsLie B w (.slice Aa c.adjs.length ca) c.adjs) (hN : CNum c mx) :
    Calls Try.prog 29 #[.agg #[.string c.meter, .bool c.win.has, .int .i64 c.win.from_.1, .int .i64 c.win.from_.2.1, .int .i64 c.win.from_.2.2, .int .i64 c.win.to_.1, .int .i64 c.win.to_.2.1, .int .i64 c.win.to_.2.2, .int .i64 c.allow, .int .i64 c.block, .int .i64 c.kind, .slice At c.tiers.length ct, .int .i64 c.mode, .slice Aa c.adjs.length ca, .int .i64 c.line, .int .i64 c.col], .int .i64 mx] w fun e w' => ∃ n', e = .returned (.tuple #[.int .i64 n', .bool (mostO c mx).isSome]) ∧ (∀ m, mostO c mx = some m → n' = m) ∧ 0 ≤ n' ∧ n' < 9223372036854775808 ∧ Below w.heap.size w w' := by
  obtain ⟨hst, hs0, hs1⟩ := hN.start
  obtain ⟨q0, q1⟩ := hN.qty
  obtain ⟨r0, r1⟩ := hN.rate
  obtain ⟨p0, p1⟩ := hN.prod
  obtain ⟨n1, n2⟩ := adjP_true c.adjs (startM c mx)
  have hrt : ∀ t ∈ c.tiers, 0 ≤ t.rate ∧ t.rate ≤ 1000000000000 := hN.tiers
  have haj : ∀ a ∈ c.adjs, AOk a := hN.adjs
  obtain ⟨m0, m1⟩ := hN.mx
  obtain ⟨l0, l1⟩ := hN.allow
  obtain ⟨k0, k1⟩ := hN.block
  have hsm := fun m (h : mostO c mx = some m) => adjO_small h (by omega)
  have hUp := fun W => rup_any (max (mx - c.allow) 0) c.block W (by omega) (by omega) (by omega) (by omega)
  have hMD := fun W => rmuldiv_any (rateM c.tiers) (qtyM c mx) 1000000 W r0 (by omega) q0 (by omega) (by decide) (by decide) (.inl (by omega))
  rw [hst] at hMD
  have eq1 : cdiv (max (mx - c.allow) 0) c.block * c.block = qtyM c mx := rfl
  rw [eq1] at hUp
  have eM : adjO c.adjs (startM c mx) = mostO c mx := rfl
  rw [eM] at n1 n2
  generalize mostO c mx = O at *
  generalize startM c mx = st at *
  generalize qtyM c mx = qt at *
  clear eq1 hst p0 p1 eM hN
  replace hUp := Lib.hid hUp
  replace hMD := Lib.hid hMD
  replace n1 := Lib.hid n1
  replace n2 := Lib.hid n2
  replace hsm := Lib.hid hsm
  have kc0 := Blk.new w 58 #[.string c.meter, .bool c.win.has, .int .i64 c.win.from_.1, .int .i64 c.win.from_.2.1, .int .i64 c.win.from_.2.2, .int .i64 c.win.to_.1, .int .i64 c.win.to_.2.1, .int .i64 c.win.to_.2.2, .int .i64 c.allow, .int .i64 c.block, .int .i64 c.kind, .slice At c.tiers.length ct, .int .i64 c.mode, .slice Aa c.adjs.length ca, .int .i64 c.line, .int .i64 c.col]
  have b0 := bl_alloc (bl_refl w) (.cells #[.string c.meter, .bool c.win.has, .int .i64 c.win.from_.1, .int .i64 c.win.from_.2.1, .int .i64 c.win.from_.2.2, .int .i64 c.win.to_.1, .int .i64 c.win.to_.2.1, .int .i64 c.win.to_.2.2, .int .i64 c.allow, .int .i64 c.block, .int .i64 c.kind, .slice At c.tiers.length ct, .int .i64 c.mode, .slice Aa c.adjs.length ca, .int .i64 c.line, .int .i64 c.col] 58)
  have hT0 : (w.alloc (.cells #[.string c.meter, .bool c.win.has, .int .i64 c.win.from_.1, .int .i64 c.win.from_.2.1, .int .i64 c.win.from_.2.2, .int .i64 c.win.to_.1, .int .i64 c.win.to_.2.1, .int .i64 c.win.to_.2.2, .int .i64 c.allow, .int .i64 c.block, .int .i64 c.kind, .slice At c.tiers.length ct, .int .i64 c.mode, .slice Aa c.adjs.length ca, .int .i64 c.line, .int .i64 c.col] 58)).ownsRow B 94 2 (.slice At c.tiers.length ct) c.tiers.length (c.tiers.flatMap tierF) := own_keep hT fun g hg => b0.block g (World.ownsRow.lt hT g hg).2
  have hA0 : (w.alloc (.cells #[.string c.meter, .bool c.win.has, .int .i64 c.win.from_.1, .int .i64 c.win.from_.2.1, .int .i64 c.win.from_.2.2, .int .i64 c.win.to_.1, .int .i64 c.win.to_.2.1, .int .i64 c.win.to_.2.2, .int .i64 c.allow, .int .i64 c.block, .int .i64 c.kind, .slice At c.tiers.length ct, .int .i64 c.mode, .slice Aa c.adjs.length ca, .int .i64 c.line, .int .i64 c.col] 58)).ownsRow B 97 3 (.slice Aa c.adjs.length ca) c.adjs.length (c.adjs.flatMap adjF) := own_keep hA fun g hg => b0.block g (World.ownsRow.lt hA g hg).2
  have hw1 : IntKind.i64.wrap (mx - c.allow) = mx - c.allow := by rw [IntKind.wrap_i64]; omega
  obtain ⟨_, _, he, ht1, ht2, ht3⟩ := Lies.open (f := tierF) (l := c.tiers) (Lies.of hT0)
  injection he with he1 he2 he3
  subst he1 he3
  obtain ⟨_, _, he, ha1, ha2, ha3⟩ := Lies.open (f := adjF) (l := c.adjs) (Lies.of hA0)
  injection he with he1 he2 he3
  subst he1 he3
  unfold maxLen at ht2 ha2
  obtain ⟨e0, e1, e2, e3, e4, e5, e6, e7, e8, e9, e10, e11, e12, e13, e14, e15, _, _, _, _, _, _, _, _, _, _, _, _, _, _, _, _⟩ := kc0.c16
  go_enter Try.func29, Try.ntmps29
  go_wp2_with fail
  refine (hUp.out _).mono ?_
  rintro e w1 ⟨rfl, hb1⟩
  have kc1 := kc0.call hb1
  have b1 := bl_call b0 hb1
  have hT1 := own_keep hT0 fun g hg => hb1.block g (hT0.lt g hg).2
  have hA1 := own_keep hA0 fun g hg => hb1.block g (hA0.lt g hg).2
  clear e0 e1 e2 e3 e4 e5 e6 e7 e8 e9 e10 e11 e12 e13 e14 e15
  obtain ⟨e0, e1, e2, e3, e4, e5, e6, e7, e8, e9, e10, e11, e12, e13, e14, e15, _, _, _, _, _, _, _, _, _, _, _, _, _, _, _, _⟩ := kc1.c16
  go_wp2_with fail
  go_loopw [8, 30] (fun v8 v30 wr => ∃ k : Nat, k ≤ c.tiers.length ∧ v30 = .int .i64 k ∧ v8 = .int .i64 (rateM (c.tiers.take k)) ∧ Below w.heap.size w wr ∧ Below w1.heap.size w1 wr) (fun _ v30 _ => c.tiers.length - (intOf v30).toNat)
  case atStart => exact ⟨0, by omega, rfl, rfl, b1, bl_refl w1⟩
  case round =>
    obtain ⟨k, hk, rfl, rfl, hbw, hb1r⟩ := hrel
    have hTr := own_keep hT1 fun g hg => hb1r.block g (hT1.lt g hg).2
    have kcr := kc1.call hb1r
    clear e0 e1 e2 e3 e4 e5 e6 e7 e8 e9 e10 e11 e12 e13 e14 e15
    obtain ⟨e0, e1, e2, e3, e4, e5, e6, e7, e8, e9, e10, e11, e12, e13, e14, e15, _, _, _, _, _, _, _, _, _, _, _, _, _, _, _, _⟩ := kcr.c16
    by_cases hlt : k < c.tiers.length
    · obtain ⟨g0, rfl, hg0⟩ := ht3 (by omega)
      obtain ⟨m, hm⟩ : ∃ m, c.tiers[k]? = some m := ⟨c.tiers[k], List.getElem?_eq_getElem hlt⟩
      have r0 : (wr).cell? ⟨g0, k * 2, none⟩ = some (.int .i64 m.upto) := Lies.at (f := tierF) (l := c.tiers) (Lies.of hTr) (fun _ => rfl) (i := k) hm (j := 0) rfl
      have r1 : (wr).cell? ⟨g0, k * 2 + 1, none⟩ = some (.int .i64 m.rate) := Lies.at (f := tierF) (l := c.tiers) (Lies.of hTr) (fun _ => rfl) (i := k) hm (j := 1) rfl
      have gg0 : (0 : Int) ≤ (k : Int) := by omega
      have gg1 : (k : Int) < (c.tiers.length : Int) := by omega
      have gg2 : (k : Int) < (ct : Int) := by have := ht1; omega
      have hrk := Lib.hid (rate_take hm)
      have kt := Blk.new wr 94 #[.int .i64 m.upto, .int .i64 m.rate]
      have hbw1 := bl_alloc hbw (.cells #[.int .i64 m.upto, .int .i64 m.rate] 94)
      have hbw2 := bl_alloc hb1r (.cells #[.int .i64 m.upto, .int .i64 m.rate] 94)
      obtain ⟨z0, z1, _, _⟩ := kt.c2
      generalize rateM (c.tiers.take k) = R at *
      go_wp2_with fail
      go_roundw
      case rel => exact ⟨k + 1, by omega, by go_num, by rw [hrk.out], hbw1, hbw2⟩
      case measure => simp [intOf]; omega
    · obtain rfl : k = c.tiers.length := by omega
      have eT : rateM (c.tiers.take c.tiers.length) = rateM c.tiers := by rw [List.take_length]
      rw [eT]
      go_wp2_with fail
      refine (hMD.out _).mono ?_
      rintro e w2 ⟨rfl, hb2⟩
      have kc2 := kcr.call hb2
      have bb2 := bl_call hbw hb2
      have hA2 := own_keep hA1 fun g hg => (bl_call hb1r hb2).block g (hA1.lt g hg).2
      clear e0 e1 e2 e3 e4 e5 e6 e7 e8 e9 e10 e11 e12 e13 e14 e15
      obtain ⟨e0, e1, e2, e3, e4, e5, e6, e7, e8, e9, e10, e11, e12, e13, e14, e15, _, _, _, _, _, _, _, _, _, _, _, _, _, _, _, _⟩ := kc2.c16
      go_wp2_with fail
      clear e0 e1 e2 e3 e4 e5 e6 e7 e8 e9 e10 e11 e12 e13 e14 e15
      go_loopw [11, 7, 52] (fun v11 v7 v52 wr => ∃ (k : Nat) (N : Int) (ok : Bool), k ≤ c.adjs.length ∧ v52 = .int .i64 k ∧ v11 = .int .i64 N ∧ v7 = .bool ok ∧ adjP (c.adjs.take k) (st, true) = (N, ok) ∧ 0 ≤ N ∧ N < 9223372036854775808 ∧ Below w.heap.size w wr ∧ Below w2.heap.size w2 wr) (fun _ _ v52 _ => c.adjs.length - (intOf v52).toNat)
      case atStart => exact ⟨0, st, true, by omega, rfl, rfl, rfl, rfl, hs0, by omega, bb2, bl_refl w2⟩
      case round =>
        clear hk hlt hTr r0 r1
        obtain ⟨k, N, ok, hk, rfl, rfl, rfl, hadj, hN0, hN1, hbwx, hb2r⟩ := hrel
        have hAr := own_keep hA2 fun g hg => hb2r.block g (hA2.lt g hg).2
        have kcx := kc2.call hb2r
        have hadj' := Lib.hid hadj
        clear hadj
        by_cases hlt : k < c.adjs.length
        · obtain ⟨g0, rfl, hg0⟩ := ha3 (by omega)
          obtain ⟨m, hm⟩ : ∃ m, c.adjs[k]? = some m := ⟨c.adjs[k], List.getElem?_eq_getElem hlt⟩
          have r0 : (wr).cell? ⟨g0, k * 3, none⟩ = some (.int .i64 m.kind) := Lies.at (f := adjF) (l := c.adjs) (Lies.of hAr) (fun _ => rfl) (i := k) hm (j := 0) rfl
          have r1 : (wr).cell? ⟨g0, k * 3 + 1, none⟩ = some (.int .i64 m.n) := Lies.at (f := adjF) (l := c.adjs) (Lies.of hAr) (fun _ => rfl) (i := k) hm (j := 1) rfl
          have r2 : (wr).cell? ⟨g0, k * 3 + 2, none⟩ = some (.int .i64 m.mode) := Lies.at (f := adjF) (l := c.adjs) (Lies.of hAr) (fun _ => rfl) (i := k) hm (j := 2) rfl
          have gg0 : (0 : Int) ≤ (k : Int) := by omega
          have gg1 : (k : Int) < (c.adjs.length : Int) := by omega
          have gg2 : (k : Int) < (ca : Int) := by have := ha1; omega
          have hak := haj m (List.mem_of_getElem? hm)
          have hx0 := step_ge hak hN0
          have hx1 := step_lt hak hN1
          have hnx := adjP_take hm (st, true)
          rw [hadj'.out] at hnx
          unfold adjP1 at hnx
          have kt := Blk.new wr 97 #[.int .i64 m.kind, .int .i64 m.n, .int .i64 m.mode]
          have hbw1 := bl_alloc hbwx (.cells #[.int .i64 m.kind, .int .i64 m.n, .int .i64 m.mode] 97)
          have hbw2 := bl_alloc hb2r (.cells #[.int .i64 m.kind, .int .i64 m.n, .int .i64 m.mode] 97)
          obtain ⟨z0, z1, z2, _, _, _⟩ := kt.c3
          clear hm
          rcases hak with ⟨hk1, hn, hmd⟩ | ⟨hk1, hn, hmd⟩ <;> clear hmd
          · have ea : adjStep m N = upB (N * m.n) 100000 := by unfold adjStep; rw [if_pos hk1]
            have hC := fun W => rmuldiv_any N m.n 100000 W hN0 hN1 (by omega) (by omega) (by decide) (by decide) (.inr rfl)
            rw [← ea] at hC
            obtain ⟨x, hx⟩ : ∃ x, (adjStep m N).1 = x := ⟨_, rfl⟩
            obtain ⟨y, hy⟩ : ∃ x, (adjStep m N).2 = x := ⟨_, rfl⟩
            rw [hx, hy] at hC hnx
            rw [hx] at hx0 hx1
            replace hnx := Lib.hid hnx
            replace hC := Lib.hid hC
            clear ea hx hy
            have f1 : (m.kind == 1) = true := by rw [hk1]; rfl
            have f2 : (m.kind == 2) = false := by rw [hk1]; rfl
            have f3 : (m.kind == 3) = false := by rw [hk1]; rfl
            have f4 : (m.kind == 4) = false := by rw [hk1]; rfl
            clear hk1
            go_wp2_with fail
            refine (hC.out _).mono ?_
            rintro e w3 ⟨rfl, hb3⟩
            have kt3 := kt.call hb3
            clear z0 z1 z2
            obtain ⟨z0, z1, z2, _, _, _⟩ := kt3.c3
            replace hbw1 := bl_call hbw1 hb3
            replace hbw2 := bl_call hbw2 hb3
            cases ok with
            | false =>
              go_wp2_with fail
              go_roundw
              case rel => exact ⟨k + 1, x, false, by omega, by go_num, rfl, rfl, by rw [hnx.out]; simp, hx0, hx1, hbw1, hbw2⟩
              case measure => simp [intOf]; omega
            | true =>
              cases y with
              | false =>
                go_wp2_with fail
                go_roundw
                case rel => exact ⟨k + 1, x, false, by omega, by go_num, rfl, rfl, by rw [hnx.out]; simp, hx0, hx1, hbw1, hbw2⟩
                case measure => simp [intOf]; omega
              | true =>
                by_cases hc : x < 1152921504606846976
                · go_wp2_with fail
                  go_roundw
                  case rel => exact ⟨k + 1, x, true, by omega, by go_num, rfl, rfl, by rw [hnx.out]; simp [hc], hx0, hx1, hbw1, hbw2⟩
                  case measure => simp [intOf]; omega
                · go_wp2_with fail
                  go_roundw
                  case rel => exact ⟨k + 1, x, false, by omega, by go_num, rfl, by first | rfl | exact congrArg Value.bool (decide_eq_false (by omega)), by rw [hnx.out]; simp [hc], hx0, hx1, hbw1, hbw2⟩
                  case measure => simp [intOf]; omega
          · rcases hk1 with hk1 | hk1 | hk1
            · have ea : adjStep m N = (min N m.n, true) := by unfold adjStep; rw [if_neg (by omega), if_pos hk1]
              rw [ea] at hnx hx0 hx1
              obtain ⟨x, hx⟩ : ∃ x, min N m.n = x := ⟨_, rfl⟩
              dsimp only at hnx hx0 hx1
              rw [hx] at hnx hx0 hx1
              replace hnx := Lib.hid hnx
              clear ea
              have f1 : (m.kind == 1) = false := by rw [hk1]; rfl
              have f2 : (m.kind == 2) = true := by rw [hk1]; rfl
              have f3 : (m.kind == 3) = false := by rw [hk1]; rfl
              have f4 : (m.kind == 4) = false := by rw [hk1]; rfl
              clear hk1
              cases ok with
              | false =>
                go_wp2_with fail
                go_roundw
                case rel => exact ⟨k + 1, x, false, by omega, by go_num, rfl, rfl, by rw [hnx.out]; simp, hx0, hx1, hbw1, hbw2⟩
                case measure => simp [intOf]; omega
              | true =>
                by_cases hc : x < 1152921504606846976
                · go_wp2_with fail
                  go_roundw
                  case rel => exact ⟨k + 1, x, true, by omega, by go_num, rfl, rfl, by rw [hnx.out]; simp [hc], hx0, hx1, hbw1, hbw2⟩
                  case measure => simp [intOf]; omega
                · exfalso; omega
            · have ea : adjStep m N = (max N m.n, true) := by unfold adjStep; rw [if_neg (by omega), if_neg (by omega), if_pos hk1]
              rw [ea] at hnx hx0 hx1
              obtain ⟨x, hx⟩ : ∃ x, max N m.n = x := ⟨_, rfl⟩
              dsimp only at hnx hx0 hx1
              rw [hx] at hnx hx0 hx1
              replace hnx := Lib.hid hnx
              clear ea
              have f1 : (m.kind == 1) = false := by rw [hk1]; rfl
              have f2 : (m.kind == 2) = false := by rw [hk1]; rfl
              have f3 : (m.kind == 3) = true := by rw [hk1]; rfl
              have f4 : (m.kind == 4) = false := by rw [hk1]; rfl
              clear hk1
              cases ok with
              | false =>
                go_wp2_with fail
                go_roundw
                case rel => exact ⟨k + 1, x, false, by omega, by go_num, rfl, rfl, by rw [hnx.out]; simp, hx0, hx1, hbw1, hbw2⟩
                case measure => simp [intOf]; omega
              | true =>
                by_cases hc : x < 1152921504606846976
                · go_wp2_with fail
                  go_roundw
                  case rel => exact ⟨k + 1, x, true, by omega, by go_num, rfl, rfl, by rw [hnx.out]; simp [hc], hx0, hx1, hbw1, hbw2⟩
                  case measure => simp [intOf]; omega
                · go_wp2_with fail
                  go_roundw
                  case rel => exact ⟨k + 1, x, false, by omega, by go_num, rfl, by first | rfl | exact congrArg Value.bool (decide_eq_false (by omega)), by rw [hnx.out]; simp [hc], hx0, hx1, hbw1, hbw2⟩
                  case measure => simp [intOf]; omega
            · by_cases hs : N + m.n < 9223372036854775808
              · have ea : adjStep m N = (N + m.n, true) := by unfold adjStep; rw [if_neg (by omega), if_neg (by omega), if_neg (by omega), if_pos hk1, if_pos hs]
                have hC := fun W => eadd_yes N m.n W hN0 (by omega) hs
                rw [ea] at hnx hx0 hx1
                dsimp only at hnx hx0 hx1
                generalize N + m.n = x at *
                replace hnx := Lib.hid hnx
                replace hC := Lib.hid hC
                clear ea
                have f1 : (m.kind == 1) = false := by rw [hk1]; rfl
                have f2 : (m.kind == 2) = false := by rw [hk1]; rfl
                have f3 : (m.kind == 3) = false := by rw [hk1]; rfl
                have f4 : (m.kind == 4) = true := by rw [hk1]; rfl
                clear hk1
                go_wp2_with fail
                refine (hC.out _).mono ?_
                rintro e w3 ⟨rfl, rfl⟩
                cases ok with
                | false =>
                  go_wp2_with fail
                  go_roundw
                  case rel => exact ⟨k + 1, x, false, by omega, by go_num, rfl, rfl, by rw [hnx.out]; simp, hx0, hx1, hbw1, hbw2⟩
                  case measure => simp [intOf]; omega
                | true =>
                  by_cases hc : x < 1152921504606846976
                  · go_wp2_with fail
                    go_roundw
                    case rel => exact ⟨k + 1, x, true, by omega, by go_num, rfl, rfl, by rw [hnx.out]; simp [hc], hx0, hx1, hbw1, hbw2⟩
                    case measure => simp [intOf]; omega
                  · go_wp2_with fail
                    go_roundw
                    case rel => exact ⟨k + 1, x, false, by omega, by go_num, rfl, by first | rfl | exact congrArg Value.bool (decide_eq_false (by omega)), by rw [hnx.out]; simp [hc], hx0, hx1, hbw1, hbw2⟩
                    case measure => simp [intOf]; omega
              · have ea : adjStep m N = (0, false) := by unfold adjStep; rw [if_neg (by omega), if_neg (by omega), if_neg (by omega), if_pos hk1, if_neg hs]
                have hC := fun W => eadd_no N m.n W hN0 hN1 (by omega) (by omega) hs
                rw [ea] at hnx hx0 hx1
                dsimp only at hnx hx0 hx1
                replace hnx := Lib.hid hnx
                replace hC := Lib.hid hC
                clear ea hs
                have f1 : (m.kind == 1) = false := by rw [hk1]; rfl
                have f2 : (m.kind == 2) = false := by rw [hk1]; rfl
                have f3 : (m.kind == 3) = false := by rw [hk1]; rfl
                have f4 : (m.kind == 4) = true := by rw [hk1]; rfl
                clear hk1
                go_wp2_with fail
                refine (hC.out _).mono ?_
                rintro e w3 ⟨rfl, rfl⟩
                cases ok with
                | false =>
                  go_wp2_with fail
                  go_roundw
                  case rel => exact ⟨k + 1, 0, false, by omega, by go_num, rfl, rfl, by rw [hnx.out]; simp, hx0, hx1, hbw1, hbw2⟩
                  case measure => simp [intOf]; omega
                | true =>
                  go_wp2_with fail
                  go_roundw
                  case rel => exact ⟨k + 1, 0, false, by omega, by go_num, rfl, rfl, by rw [hnx.out]; simp, hx0, hx1, hbw1, hbw2⟩
                  case measure => simp [intOf]; omega
        · obtain rfl : k = c.adjs.length := by omega
          rw [List.take_length] at hadj'
          by_cases hO : O = none
          · have h1 := n1.out hO
            rw [hadj'.out] at h1
            obtain rfl : ok = false := h1
            subst hO
            go_wp2_with fail
            go_ret2
            first | exact ⟨N, rfl, fun m hm => (by cases hm), hN0, hN1, hbwx⟩ | exact ⟨N, rfl, hN0, hN1, hbwx⟩
          · obtain ⟨m, rfl⟩ : ∃ m, O = some m := by cases O with | none => exact absurd rfl hO | some m => exact ⟨m, rfl⟩
            have h2 := n2.out m rfl
            rw [hadj'.out] at h2
            injection h2 with h2 h3
            subst h2 h3
            have h4 := hsm.out N rfl
            go_wp2_with fail
            go_ret2
            exact ⟨N, by rfl, fun m hm => (by injection hm), hN0, hN1, hbwx⟩
end Go.Proofs.Ytcgkfgklggjmaaa.Par
end
section
namespace Go.Proofs.Ytcgkfgklggjmaaa.Par
set_option linter.unusedVariables false
set_option linter.unusedSimpArgs false
open Go.RowKit
theorem cdiv_only {D b j : Int} (hb : 1 ≤ b) (h0 : 0 ≤ j) (h1 : j = 0 ∨ (j - 1) * b < D) (h2 : D ≤ j * b) : cdiv (max D 0) b = j := by
  unfold cdiv
  have e1 : (j - 1) * b = j * b - b := by rw [Int.sub_mul, Int.one_mul]
  have e2 : (j + 1) * b = j * b + b := by rw [Int.add_mul, Int.one_mul]
  have hj : 0 ≤ j * b := Int.mul_nonneg h0 (by omega)
  have k1 : j ≤ (max D 0 + b - 1) / b := (Int.le_ediv_iff_mul_le (by omega)).2 (by
    rcases h1 with h1 | h1
    · subst h1; omega
    · omega)
  have k2 : (max D 0 + b - 1) / b < j + 1 := (Int.ediv_lt_iff_lt_mul (by omega)).2 (by rw [e2]; omega)
  omega
theorem adjO_next {l : List Adj} {k : Nat} {a : Adj} {n : Int} (h : l[k]? = some a) : adjO (l.drop k) n = if (adjStep a n).2 = true ∧ (adjStep a n).1 < 1152921504606846976 then adjO (l.drop (k + 1)) (adjStep a n).1 else none := by
  have hk := (List.getElem?_eq_some_iff.1 h).1
  have e : l.drop k = a :: l.drop (k + 1) := by
    rw [List.drop_eq_getElem_cons hk]
    rw [List.getElem?_eq_getElem hk] at h
    injection h with h
    rw [h]
  rw [e, adjO]
set_option maxHeartbeats 16000000 in
set_option maxRecDepth 100000 in
theorem rmost9_any (c : Chg) (At Aa : Option Addr) (ct ca : Nat) (mx : Int) (w : World) {B : Nat} (hT : TiersLie B w (.slice At c.tiers.length ct) c.tiers) (hA : AdjsLie B w (.slice Aa c.adjs.length ca) c.adjs) (hN : CNum c mx) :
    Calls Try.prog 43 #[.agg #[.string c.meter, .bool c.win.has, .int .i64 c.win.from_.1, .int .i64 c.win.from_.2.1, .int .i64 c.win.from_.2.2, .int .i64 c.win.to_.1, .int .i64 c.win.to_.2.1, .int .i64 c.win.to_.2.2, .int .i64 c.allow, .int .i64 c.block, .int .i64 c.kind, .slice At c.tiers.length ct, .int .i64 c.mode, .slice Aa c.adjs.length ca, .int .i64 c.line, .int .i64 c.col], .int .i64 mx] w fun e w' => e = .returned (.tuple #[.int .i64 ((mostO c mx).getD 0), .bool (mostO c mx).isSome]) ∧ Below w.heap.size w w' := by
  obtain ⟨hst, hs0, hs1⟩ := hN.start
  obtain ⟨q0, q1⟩ := hN.qty
  obtain ⟨r0, r1⟩ := hN.rate
  obtain ⟨p0, p1⟩ := hN.prod
  have hrt : ∀ t ∈ c.tiers, 0 ≤ t.rate ∧ t.rate ≤ 1000000000000 := hN.tiers
  have haj : ∀ a ∈ c.adjs, AOk a := hN.adjs
  obtain ⟨m0, m1⟩ := hN.mx
  obtain ⟨l0, l1⟩ := hN.allow
  obtain ⟨k0, k1⟩ := hN.block
  have hMD := fun W => rmd9_any (rateM c.tiers) (qtyM c mx) 1000000 W r0 (by omega) q0 (by omega) (by decide) (by decide)
  rw [hst] at hMD
  have eM : adjO c.adjs (startM c mx) = mostO c mx := rfl
  have eQ : ∀ j : Int, cdiv (max (mx - c.allow) 0) c.block = j → j * c.block = qtyM c mx := fun j h => by unfold qtyM; rw [h]
  generalize mostO c mx = O at *
  generalize startM c mx = st at *
  generalize qtyM c mx = qt at *
  clear hst p0 p1 hN
  replace hMD := Lib.hid hMD
  replace eM := Lib.hid eM
  replace eQ := Lib.hid eQ
  have kc0 := Blk.new w 58 #[.string c.meter, .bool c.win.has, .int .i64 c.win.from_.1, .int .i64 c.win.from_.2.1, .int .i64 c.win.from_.2.2, .int .i64 c.win.to_.1, .int .i64 c.win.to_.2.1, .int .i64 c.win.to_.2.2, .int .i64 c.allow, .int .i64 c.block, .int .i64 c.kind, .slice At c.tiers.length ct, .int .i64 c.mode, .slice Aa c.adjs.length ca, .int .i64 c.line, .int .i64 c.col]
  have b0 := bl_alloc (bl_refl w) (.cells #[.string c.meter, .bool c.win.has, .int .i64 c.win.from_.1, .int .i64 c.win.from_.2.1, .int .i64 c.win.from_.2.2, .int .i64 c.win.to_.1, .int .i64 c.win.to_.2.1, .int .i64 c.win.to_.2.2, .int .i64 c.allow, .int .i64 c.block, .int .i64 c.kind, .slice At c.tiers.length ct, .int .i64 c.mode, .slice Aa c.adjs.length ca, .int .i64 c.line, .int .i64 c.col] 58)
  have hT0 : (w.alloc (.cells #[.string c.meter, .bool c.win.has, .int .i64 c.win.from_.1, .int .i64 c.win.from_.2.1, .int .i64 c.win.from_.2.2, .int .i64 c.win.to_.1, .int .i64 c.win.to_.2.1, .int .i64 c.win.to_.2.2, .int .i64 c.allow, .int .i64 c.block, .int .i64 c.kind, .slice At c.tiers.length ct, .int .i64 c.mode, .slice Aa c.adjs.length ca, .int .i64 c.line, .int .i64 c.col] 58)).ownsRow B 94 2 (.slice At c.tiers.length ct) c.tiers.length (c.tiers.flatMap tierF) := own_keep hT fun g hg => b0.block g (World.ownsRow.lt hT g hg).2
  have hA0 : (w.alloc (.cells #[.string c.meter, .bool c.win.has, .int .i64 c.win.from_.1, .int .i64 c.win.from_.2.1, .int .i64 c.win.from_.2.2, .int .i64 c.win.to_.1, .int .i64 c.win.to_.2.1, .int .i64 c.win.to_.2.2, .int .i64 c.allow, .int .i64 c.block, .int .i64 c.kind, .slice At c.tiers.length ct, .int .i64 c.mode, .slice Aa c.adjs.length ca, .int .i64 c.line, .int .i64 c.col] 58)).ownsRow B 97 3 (.slice Aa c.adjs.length ca) c.adjs.length (c.adjs.flatMap adjF) := own_keep hA fun g hg => b0.block g (World.ownsRow.lt hA g hg).2
  have hw1 : IntKind.i64.wrap (mx - c.allow) = mx - c.allow := by rw [IntKind.wrap_i64]; omega
  obtain ⟨_, _, he, ht1, ht2, ht3⟩ := Lies.open (f := tierF) (l := c.tiers) (Lies.of hT0)
  injection he with he1 he2 he3
  subst he1 he3
  obtain ⟨_, _, he, ha1, ha2, ha3⟩ := Lies.open (f := adjF) (l := c.adjs) (Lies.of hA0)
  injection he with he1 he2 he3
  subst he1 he3
  unfold maxLen at ht2 ha2
  obtain ⟨e0, e1, e2, e3, e4, e5, e6, e7, e8, e9, e10, e11, e12, e13, e14, e15, _, _, _, _, _, _, _, _, _, _, _, _, _, _, _, _⟩ := kc0.c16
  go_enter Try.func43, Try.ntmps43
  go_upto_region 1 with fail
  generalize hu0 : w.alloc (.cells #[.string c.meter, .bool c.win.has, .int .i64 c.win.from_.1, .int .i64 c.win.from_.2.1, .int .i64 c.win.from_.2.2, .int .i64 c.win.to_.1, .int .i64 c.win.to_.2.1, .int .i64 c.win.to_.2.2, .int .i64 c.allow, .int .i64 c.block, .int .i64 c.kind, .slice At c.tiers.length ct, .int .i64 c.mode, .slice Aa c.adjs.length ca, .int .i64 c.line, .int .i64 c.col] 58) = u0 at *
  clear hu0
  go_wp2_with fail
  go_loopw [6] (fun v6 wr => ∃ j : Int, v6 = .int .i64 (j * c.block) ∧ 0 ≤ j ∧ 0 ≤ j * c.block ∧ j * c.block ≤ 1002000 ∧ (j = 0 ∨ (j - 1) * c.block < mx - c.allow) ∧ Below w.heap.size w wr ∧ Below u0.heap.size u0 wr) (fun v6 _ => (2000 - intOf v6).toNat)
  case atStart => exact ⟨0, by rw [Int.zero_mul], by omega, by omega, by omega, .inl rfl, b0, bl_refl u0⟩
  case round =>
    obtain ⟨j, rfl, hj0, hjb, hjm, hjs, hbw0, hb0r⟩ := hrel
    have kcw := kc0.call hb0r
    have hTw := own_keep hT0 fun g hg => hb0r.block g (hT0.lt g hg).2
    have hAw := own_keep hA0 fun g hg => hb0r.block g (hA0.lt g hg).2
    clear e0 e1 e2 e3 e4 e5 e6 e7 e8 e9 e10 e11 e12 e13 e14 e15
    obtain ⟨e0, e1, e2, e3, e4, e5, e6, e7, e8, e9, e10, e11, e12, e13, e14, e15, _, _, _, _, _, _, _, _, _, _, _, _, _, _, _, _⟩ := kcw.c16
    have ej : (j + 1) * c.block = j * c.block + c.block := by rw [Int.add_mul, Int.one_mul]
    have ej1 : (j + 1 - 1) * c.block = j * c.block := by rw [Int.add_sub_cancel]
    by_cases hlt : j * c.block < mx - c.allow
    · have hwj : IntKind.i64.wrap (j * c.block + c.block) = j * c.block + c.block := by rw [IntKind.wrap_i64]; omega
      replace ej := Lib.hid ej
      replace ej1 := Lib.hid ej1
      replace hjs := Lib.hid hjs
      generalize hJ : j * c.block = J at *
      go_wp2_with fail
      go_roundw
      case rel => exact ⟨j + 1, by rw [ej.out, ← hJ], by omega, by rw [ej.out]; omega, by rw [ej.out]; omega, .inr (by rw [ej1.out]; omega), hbw0, hb0r⟩
      case measure => simp [intOf]; omega
    · have hqt := eQ.out j (cdiv_only (by omega) hj0 hjs (by omega))
      rw [hqt]
      rw [hqt] at hlt
      clear hjs hjm hjb ej ej1 hqt eQ
      go_wp2_with fail
      clear e0 e1 e2 e3 e4 e5 e6 e7 e8 e9 e10 e11 e12 e13 e14 e15
      generalize wr = u1 at *
      go_loopw [7, 27] (fun v8 v30 wr => ∃ k : Nat, k ≤ c.tiers.length ∧ v30 = .int .i64 k ∧ v8 = .int .i64 (rateM (c.tiers.take k)) ∧ Below w.heap.size w wr ∧ Below u1.heap.size u1 wr) (fun _ v30 _ => c.tiers.length - (intOf v30).toNat)
      case atStart => exact ⟨0, by omega, rfl, rfl, hbw0, bl_refl u1⟩
      case round =>
        obtain ⟨k, hk, rfl, rfl, hbw, hb1r⟩ := hrel
        have hTr := own_keep hTw fun g hg => hb1r.block g (hTw.lt g hg).2
        have kcr := kcw.call hb1r
        obtain ⟨e0, e1, e2, e3, e4, e5, e6, e7, e8, e9, e10, e11, e12, e13, e14, e15, _, _, _, _, _, _, _, _, _, _, _, _, _, _, _, _⟩ := kcr.c16
        by_cases hlt : k < c.tiers.length
        · obtain ⟨g0, rfl, hg0⟩ := ht3 (by omega)
          obtain ⟨m, hm⟩ : ∃ m, c.tiers[k]? = some m := ⟨c.tiers[k], List.getElem?_eq_getElem hlt⟩
          have r0 : (wr).cell? ⟨g0, k * 2, none⟩ = some (.int .i64 m.upto) := Lies.at (f := tierF) (l := c.tiers) (Lies.of hTr) (fun _ => rfl) (i := k) hm (j := 0) rfl
          have r1 : (wr).cell? ⟨g0, k * 2 + 1, none⟩ = some (.int .i64 m.rate) := Lies.at (f := tierF) (l := c.tiers) (Lies.of hTr) (fun _ => rfl) (i := k) hm (j := 1) rfl
          have gg0 : (0 : Int) ≤ (k : Int) := by omega
          have gg1 : (k : Int) < (c.tiers.length : Int) := by omega
          have gg2 : (k : Int) < (ct : Int) := by have := ht1; omega
          have hrk := Lib.hid (rate_take hm)
          have kt := Blk.new wr 94 #[.int .i64 m.upto, .int .i64 m.rate]
          have hbw1 := bl_alloc hbw (.cells #[.int .i64 m.upto, .int .i64 m.rate] 94)
          have hbw2 := bl_alloc hb1r (.cells #[.int .i64 m.upto, .int .i64 m.rate] 94)
          obtain ⟨z0, z1, _, _⟩ := kt.c2
          generalize rateM (c.tiers.take k) = R at *
          go_wp2_with fail
          go_roundw
          case rel => exact ⟨k + 1, by omega, by go_num, by rw [hrk.out], hbw1, hbw2⟩
          case measure => simp [intOf]; omega
        · obtain rfl : k = c.tiers.length := by omega
          have eT : rateM (c.tiers.take c.tiers.length) = rateM c.tiers := by rw [List.take_length]
          rw [eT]
          go_wp2_with fail
          refine (hMD.out _).mono ?_
          rintro e w2 ⟨rfl, hb2⟩
          have kc2 := kcr.call hb2
          have bb2 := bl_call hbw hb2
          have hA2 := own_keep hAw fun g hg => (bl_call hb1r hb2).block g (hAw.lt g hg).2
          have hst60 : st < 1152921504606846976 := by omega
          clear e0 e1 e2 e3 e4 e5 e6 e7 e8 e9 e10 e11 e12 e13 e14 e15
          obtain ⟨e0, e1, e2, e3, e4, e5, e6, e7, e8, e9, e10, e11, e12, e13, e14, e15, _, _, _, _, _, _, _, _, _, _, _, _, _, _, _, _⟩ := kc2.c16
          go_wp2_with fail
          clear e0 e1 e2 e3 e4 e5 e6 e7 e8 e9 e10 e11 e12 e13 e14 e15
          go_loopw [10, 11, 51] (fun v10 v11 v51 wr => ∃ (k : Nat) (N : Int), k ≤ c.adjs.length ∧ v51 = .int .i64 k ∧ v10 = .int .i64 N ∧ v11 = .bool true ∧ Hid (adjO (c.adjs.drop k) N = O) ∧ 0 ≤ N ∧ N < 1152921504606846976 ∧ Below w.heap.size w wr ∧ Below w2.heap.size w2 wr) (fun _ _ v51 _ => c.adjs.length - (intOf v51).toNat)
          case atStart => exact ⟨0, st, by omega, rfl, rfl, rfl, eM, hs0, hst60, bb2, bl_refl w2⟩
          case round =>
            clear hk hlt hTr r0 r1
            obtain ⟨k, N, hk, rfl, rfl, rfl, hadj, hN0, hN1, hbwx, hb2r⟩ := hrel
            have hAr := own_keep hA2 fun g hg => hb2r.block g (hA2.lt g hg).2
            by_cases hlt : k < c.adjs.length
            · obtain ⟨g0, rfl, hg0⟩ := ha3 (by omega)
              obtain ⟨m, hm⟩ : ∃ m, c.adjs[k]? = some m := ⟨c.adjs[k], List.getElem?_eq_getElem hlt⟩
              have r0 : (wr).cell? ⟨g0, k * 3, none⟩ = some (.int .i64 m.kind) := Lies.at (f := adjF) (l := c.adjs) (Lies.of hAr) (fun _ => rfl) (i := k) hm (j := 0) rfl
              have r1 : (wr).cell? ⟨g0, k * 3 + 1, none⟩ = some (.int .i64 m.n) := Lies.at (f := adjF) (l := c.adjs) (Lies.of hAr) (fun _ => rfl) (i := k) hm (j := 1) rfl
              have r2 : (wr).cell? ⟨g0, k * 3 + 2, none⟩ = some (.int .i64 m.mode) := Lies.at (f := adjF) (l := c.adjs) (Lies.of hAr) (fun _ => rfl) (i := k) hm (j := 2) rfl
              have gg0 : (0 : Int) ≤ (k : Int) := by omega
              have gg1 : (k : Int) < (c.adjs.length : Int) := by omega
              have gg2 : (k : Int) < (ca : Int) := by have := ha1; omega
              have hak := haj m (List.mem_of_getElem? hm)
              have hx0 := step_ge hak hN0
              have hx1 := step_lt hak (show N < 9223372036854775808 by omega)
              have hnx := hadj.out
              rw [adjO_next hm] at hnx
              have kt := Blk.new wr 97 #[.int .i64 m.kind, .int .i64 m.n, .int .i64 m.mode]
              have hbw1 := bl_alloc hbwx (.cells #[.int .i64 m.kind, .int .i64 m.n, .int .i64 m.mode] 97)
              have hbw2 := bl_alloc hb2r (.cells #[.int .i64 m.kind, .int .i64 m.n, .int .i64 m.mode] 97)
              obtain ⟨z0, z1, z2, _, _, _⟩ := kt.c3
              clear hm hadj
              rcases hak with ⟨hk1, hn, hmd⟩ | ⟨hk1, hn, hmd⟩ <;> clear hmd
              · have ea : adjStep m N = upB (N * m.n) 100000 := by unfold adjStep; rw [if_pos hk1]
                have hC := fun W => rmd9_any N m.n 100000 W hN0 (by omega) (by omega) (by omega) (by decide) (by decide)
                rw [← ea] at hC
                obtain ⟨x, hx⟩ : ∃ x, (adjStep m N).1 = x := ⟨_, rfl⟩
                obtain ⟨y, hy⟩ : ∃ x, (adjStep m N).2 = x := ⟨_, rfl⟩
                rw [hx, hy] at hC hnx
                rw [hx] at hx0 hx1
                replace hnx := Lib.hid hnx
                replace hC := Lib.hid hC
                clear ea hx hy
                have f1 : (m.kind == 1) = true := by rw [hk1]; rfl
                have f2 : (m.kind == 2) = false := by rw [hk1]; rfl
                have f3 : (m.kind == 3) = false := by rw [hk1]; rfl
                have f4 : (m.kind == 4) = false := by rw [hk1]; rfl
                clear hk1
                go_wp2_with fail
                refine (hC.out _).mono ?_
                rintro e w3 ⟨rfl, hb3⟩
                have kt3 := kt.call hb3
                clear z0 z1 z2
                obtain ⟨z0, z1, z2, _, _, _⟩ := kt3.c3
                replace hbw1 := bl_call hbw1 hb3
                replace hbw2 := bl_call hbw2 hb3
                cases y with
                | false =>
                  obtain rfl : O = none := by rw [← hnx.out, if_neg (by simp)]
                  go_wp2_with fail
                  go_ret2
                  exact ⟨rfl, hbw1⟩
                | true =>
                  by_cases hc : x < 1152921504606846976
                  · have hnn := Lib.hid (show adjO (c.adjs.drop (k + 1)) x = O by rw [← hnx.out, if_pos (by simp [hc])])
                    clear hnx
                    go_wp2_with fail
                    go_roundw
                    case rel => exact ⟨k + 1, x, by omega, by go_num, rfl, rfl, hnn, hx0, hc, hbw1, hbw2⟩
                    case measure => simp [intOf]; omega
                  · obtain rfl : O = none := by rw [← hnx.out, if_neg (fun h => hc h.2)]
                    clear hnx
                    go_wp2_with fail
                    go_ret2
                    exact ⟨rfl, hbw1⟩
              · rcases hk1 with hk1 | hk1 | hk1
                · have ea : adjStep m N = (min N m.n, true) := by unfold adjStep; rw [if_neg (by omega), if_pos hk1]
                  rw [ea] at hnx hx0 hx1
                  dsimp only at hnx hx0 hx1
                  by_cases hgt : m.n < N
                  · rw [show min N m.n = m.n by omega] at hnx hx0 hx1
                    replace hnx := Lib.hid hnx
                    clear ea
                    have f1 : (m.kind == 1) = false := by rw [hk1]; rfl
                    have f2 : (m.kind == 2) = true := by rw [hk1]; rfl
                    have f3 : (m.kind == 3) = false := by rw [hk1]; rfl
                    have f4 : (m.kind == 4) = false := by rw [hk1]; rfl
                    clear hk1
                    have hc : m.n < 1152921504606846976 := by omega
                    have hnn := Lib.hid (show adjO (c.adjs.drop (k + 1)) m.n = O by rw [← hnx.out, if_pos (by simp [hc])])
                    clear hnx
                    go_wp2_with fail
                    go_roundw
                    case rel => exact ⟨k + 1, m.n, by omega, by go_num, rfl, rfl, hnn, hx0, hc, hbw1, hbw2⟩
                    case measure => simp [intOf]; omega
                  · rw [show min N m.n = N by omega] at hnx hx0 hx1
                    replace hnx := Lib.hid hnx
                    clear ea
                    have f1 : (m.kind == 1) = false := by rw [hk1]; rfl
                    have f2 : (m.kind == 2) = true := by rw [hk1]; rfl
                    have f3 : (m.kind == 3) = false := by rw [hk1]; rfl
                    have f4 : (m.kind == 4) = false := by rw [hk1]; rfl
                    clear hk1
                    have hc : N < 1152921504606846976 := by omega
                    have hnn := Lib.hid (show adjO (c.adjs.drop (k + 1)) N = O by rw [← hnx.out, if_pos (by simp [hc])])
                    clear hnx
                    go_wp2_with fail
                    go_roundw
                    case rel => exact ⟨k + 1, N, by omega, by go_num, rfl, rfl, hnn, hx0, hc, hbw1, hbw2⟩
                    case measure => simp [intOf]; omega
                · have ea : adjStep m N = (max N m.n, true) := by unfold adjStep; rw [if_neg (by omega), if_neg (by omega), if_pos hk1]
                  rw [ea] at hnx hx0 hx1
                  dsimp only at hnx hx0 hx1
                  by_cases hgt : N < m.n
                  · rw [show max N m.n = m.n by omega] at hnx hx0 hx1
                    replace hnx := Lib.hid hnx
                    clear ea
                    have f1 : (m.kind == 1) = false := by rw [hk1]; rfl
                    have f2 : (m.kind == 2) = false := by rw [hk1]; rfl
                    have f3 : (m.kind == 3) = true := by rw [hk1]; rfl
                    have f4 : (m.kind == 4) = false := by rw [hk1]; rfl
                    clear hk1
                    have hc : m.n < 1152921504606846976 := by omega
                    have hnn := Lib.hid (show adjO (c.adjs.drop (k + 1)) m.n = O by rw [← hnx.out, if_pos (by simp [hc])])
                    clear hnx
                    go_wp2_with fail
                    go_roundw
                    case rel => exact ⟨k + 1, m.n, by omega, by go_num, rfl, rfl, hnn, hx0, hc, hbw1, hbw2⟩
                    case measure => simp [intOf]; omega
                  · rw [show max N m.n = N by omega] at hnx hx0 hx1
                    replace hnx := Lib.hid hnx
                    clear ea
                    have f1 : (m.kind == 1) = false := by rw [hk1]; rfl
                    have f2 : (m.kind == 2) = false := by rw [hk1]; rfl
                    have f3 : (m.kind == 3) = true := by rw [hk1]; rfl
                    have f4 : (m.kind == 4) = false := by rw [hk1]; rfl
                    clear hk1
                    have hc : N < 1152921504606846976 := by omega
                    have hnn := Lib.hid (show adjO (c.adjs.drop (k + 1)) N = O by rw [← hnx.out, if_pos (by simp [hc])])
                    clear hnx
                    go_wp2_with fail
                    go_roundw
                    case rel => exact ⟨k + 1, N, by omega, by go_num, rfl, rfl, hnn, hx0, hc, hbw1, hbw2⟩
                    case measure => simp [intOf]; omega
                · have ea : adjStep m N = (N + m.n, true) := by unfold adjStep; rw [if_neg (by omega), if_neg (by omega), if_neg (by omega), if_pos hk1, if_pos (by omega)]
                  rw [ea] at hnx hx0 hx1
                  dsimp only at hnx hx0 hx1
                  have c1 := Lib.hid (fun W => Dec.wof_any N W hN0 (by omega))
                  have c2 := Lib.hid (fun W => Dec.wof_any m.n W (by omega) (by omega))
                  have c3 := Lib.hid (fun W => Dec.wadd_any 0 N 0 m.n 0 (N + m.n) W (by omega) hN0 (by omega) (by omega) (by omega) (by omega) (by omega) (by omega) (by omega))
                  have c4 := Lib.hid (fun W => Dec.wint_ok (N + m.n) W (by omega) (by omega))
                  generalize N + m.n = x at *
                  replace hnx := Lib.hid hnx
                  clear ea
                  have f1 : (m.kind == 1) = false := by rw [hk1]; rfl
                  have f2 : (m.kind == 2) = false := by rw [hk1]; rfl
                  have f3 : (m.kind == 3) = false := by rw [hk1]; rfl
                  have f4 : (m.kind == 4) = true := by rw [hk1]; rfl
                  clear hk1
                  go_upto_region 26 with fail
                  have kd := kt.drew
                  have kL : LB (wr.alloc (.cells #[.int .i64 m.kind, .int .i64 m.n, .int .i64 m.mode] 97)).drew (wr.alloc (.cells #[.int .i64 m.kind, .int .i64 m.n, .int .i64 m.mode] 97)).drew := ⟨bl_refl _⟩
                  replace hbw1 := bl_drew hbw1
                  replace hbw2 := bl_drew hbw2
                  clear z0 z1 z2
                  obtain ⟨z0, z1, z2, _, _, _⟩ := kd.c3
                  go_region_held3 (fun w' => w'.cell? ⟨wr.heap.size, 0, none⟩ = some (.int .i64 m.kind) ∧ w'.cell? ⟨wr.heap.size, 1, none⟩ = some (.int .i64 m.n) ∧ w'.cell? ⟨wr.heap.size, 2, none⟩ = some (.int .i64 m.mode))
                    (refine ⟨?_, ?_, ?_⟩ <;> with_reducible assumption)
                    ((first | (go_at_call 58; (with_reducible refine (c1.out _).mono ?_); rintro e' w5 ⟨rfl, hb5⟩; (have j1 := kd.call hb5); (have jL := kL.call hb5); obtain ⟨y0, y1, y2, _, _, _⟩ := j1.c3) | (go_at_call 58; (with_reducible refine (c2.out _).mono ?_); rintro e' w6 ⟨rfl, hb6⟩; (have i1 := j1.call hb6); (have iL := jL.call hb6); obtain ⟨v0, v1, v2, _, _, _⟩ := i1.c3) | (go_at_call 57; (with_reducible refine (c3.out _).mono ?_); rintro e' w7 ⟨rfl, hb7⟩; (have h1 := i1.call hb7); (have hL := iL.call hb7); obtain ⟨u0, u1, u2, _, _, _⟩ := h1.c3) | (go_at_call 56; (with_reducible refine (c4.out _).mono ?_); rintro e' w8 ⟨rfl, hb8⟩; (have o1 := h1.call hb8); (have oL := hL.call hb8); obtain ⟨t0, t1, t2, _, _, _⟩ := o1.c3)))
                  all_goals (have hbwA := bl_call hbw1 oL.out)
                  all_goals (have hbwB := bl_call hbw2 oL.out)
                  all_goals clear c1 c2 c3 c4 kL jL iL hL oL
                  all_goals by_cases hc : x < 1152921504606846976
                  all_goals first
                    | (have hnn := Lib.hid (show adjO (c.adjs.drop (k + 1)) x = O by rw [← hnx.out, if_pos (by simp [hc])])
                       clear hnx
                       go_wp2_with fail
                       go_roundw
                       case rel => exact ⟨k + 1, x, by omega, by go_num, rfl, rfl, hnn, hx0, hc, hbwA, hbwB⟩
                       case measure => simp [intOf]; omega)
                    | (obtain rfl : O = none := by rw [← hnx.out, if_neg (fun h => hc h.2)]
                       clear hnx
                       go_wp2_with fail
                       go_ret2
                       exact ⟨rfl, hbwA⟩)
            · obtain rfl : k = c.adjs.length := by omega
              have hO := hadj.out
              rw [List.drop_length] at hO
              obtain rfl : O = some N := hO.symm
              go_wp2_with fail
              go_ret2
              exact ⟨rfl, hbwx⟩
end Go.Proofs.Ytcgkfgklggjmaaa.Par
end
section
namespace Go.Proofs.Ytcgkfgklggjmaaa.Par
set_option linter.unusedVariables false
set_option linter.unusedSimpArgs false
open Go.RowKit
set_option maxHeartbeats 16000000 in
set_option maxRecDepth 100000 in
theorem ccharge_any (p : Plan) (Am Af Ac : Option Addr) (cm cf cc : Nat) (cs : List CT) (k : Nat) (c : Chg) (At Aa : Option Addr) (ct ca : Nat) (w : World) {B : Nat} (hR : Rows w B p (.slice Am p.mets.length cm) (.slice Af p.fees.length cf) (.slice Ac cs.length cc) cs)
    (hm : cs[k]? = some (c, .slice At c.tiers.length ct, .slice Aa c.adjs.length ca)) (hf : goodT p.from_ = true) (ht : goodT p.to_ = true) (hx : WG c.win) (hr : ∀ t ∈ c.tiers, 0 ≤ t.upto) :
    Calls Try.prog 16 #[.agg #[.string p.name, .string p.cur, .int .i64 p.from_.1, .int .i64 p.from_.2.1, .int .i64 p.from_.2.2, .int .i64 p.to_.1, .int .i64 p.to_.2.1, .int .i64 p.to_.2.2, .slice Am p.mets.length cm, .slice Af p.fees.length cf, .slice Ac cs.length cc, .int .i64 p.line, .int .i64 p.col], .int .i64 k] w fun e w' => e = .returned (.int .i64 (chgE p k c)) ∧ Below w.heap.size w w' := by
  have hlt : k < cs.length := (List.getElem?_eq_some_iff.1 hm).1
  have hco := hR.co
  have hmem := List.mem_of_getElem? hm
  obtain ⟨hT, hA⟩ := hR.ne _ hmem
  obtain ⟨_, _, he, ht1, ht2, ht3⟩ := Lies.open (f := chgF) (l := cs) (Lies.of hco)
  injection he with he1 he2 he3
  subst he1 he3
  obtain ⟨g0, rfl, hg0⟩ := ht3 (by omega)
  unfold maxLen at ht2
  have b0 := bl_alloc (bl_refl w) (.cells #[.string p.name, .string p.cur, .int .i64 p.from_.1, .int .i64 p.from_.2.1, .int .i64 p.from_.2.2, .int .i64 p.to_.1, .int .i64 p.to_.2.1, .int .i64 p.to_.2.2, .slice Am p.mets.length cm, .slice Af p.fees.length cf, .slice (some ⟨g0, 0, none⟩) cs.length cc, .int .i64 p.line, .int .i64 p.col] 29)
  have hR0 := hR.below b0
  have kp0 := Blk.new w 29 #[.string p.name, .string p.cur, .int .i64 p.from_.1, .int .i64 p.from_.2.1, .int .i64 p.from_.2.2, .int .i64 p.to_.1, .int .i64 p.to_.2.1, .int .i64 p.to_.2.2, .slice Am p.mets.length cm, .slice Af p.fees.length cf, .slice (some ⟨g0, 0, none⟩) cs.length cc, .int .i64 p.line, .int .i64 p.col]
  have r0 : (w.alloc (.cells #[.string p.name, .string p.cur, .int .i64 p.from_.1, .int .i64 p.from_.2.1, .int .i64 p.from_.2.2, .int .i64 p.to_.1, .int .i64 p.to_.2.1, .int .i64 p.to_.2.2, .slice Am p.mets.length cm, .slice Af p.fees.length cf, .slice (some ⟨g0, 0, none⟩) cs.length cc, .int .i64 p.line, .int .i64 p.col] 29)).cell? ⟨g0, k * 16, none⟩ = some (.string c.meter) := Lies.at (f := chgF) (l := cs) (Lies.of hR0.co) (fun _ => rfl) (i := k) hm (j := 0) rfl
  have r1 : (w.alloc (.cells #[.string p.name, .string p.cur, .int .i64 p.from_.1, .int .i64 p.from_.2.1, .int .i64 p.from_.2.2, .int .i64 p.to_.1, .int .i64 p.to_.2.1, .int .i64 p.to_.2.2, .slice Am p.mets.length cm, .slice Af p.fees.length cf, .slice (some ⟨g0, 0, none⟩) cs.length cc, .int .i64 p.line, .int .i64 p.col] 29)).cell? ⟨g0, k * 16 + 1, none⟩ = some (.bool c.win.has) := Lies.at (f := chgF) (l := cs) (Lies.of hR0.co) (fun _ => rfl) (i := k) hm (j := 1) rfl
  have r2 : (w.alloc (.cells #[.string p.name, .string p.cur, .int .i64 p.from_.1, .int .i64 p.from_.2.1, .int .i64 p.from_.2.2, .int .i64 p.to_.1, .int .i64 p.to_.2.1, .int .i64 p.to_.2.2, .slice Am p.mets.length cm, .slice Af p.fees.length cf, .slice (some ⟨g0, 0, none⟩) cs.length cc, .int .i64 p.line, .int .i64 p.col] 29)).cell? ⟨g0, k * 16 + 2, none⟩ = some (.int .i64 c.win.from_.1) := Lies.at (f := chgF) (l := cs) (Lies.of hR0.co) (fun _ => rfl) (i := k) hm (j := 2) rfl
  have r3 : (w.alloc (.cells #[.string p.name, .string p.cur, .int .i64 p.from_.1, .int .i64 p.from_.2.1, .int .i64 p.from_.2.2, .int .i64 p.to_.1, .int .i64 p.to_.2.1, .int .i64 p.to_.2.2, .slice Am p.mets.length cm, .slice Af p.fees.length cf, .slice (some ⟨g0, 0, none⟩) cs.length cc, .int .i64 p.line, .int .i64 p.col] 29)).cell? ⟨g0, k * 16 + 3, none⟩ = some (.int .i64 c.win.from_.2.1) := Lies.at (f := chgF) (l := cs) (Lies.of hR0.co) (fun _ => rfl) (i := k) hm (j := 3) rfl
  have r4 : (w.alloc (.cells #[.string p.name, .string p.cur, .int .i64 p.from_.1, .int .i64 p.from_.2.1, .int .i64 p.from_.2.2, .int .i64 p.to_.1, .int .i64 p.to_.2.1, .int .i64 p.to_.2.2, .slice Am p.mets.length cm, .slice Af p.fees.length cf, .slice (some ⟨g0, 0, none⟩) cs.length cc, .int .i64 p.line, .int .i64 p.col] 29)).cell? ⟨g0, k * 16 + 4, none⟩ = some (.int .i64 c.win.from_.2.2) := Lies.at (f := chgF) (l := cs) (Lies.of hR0.co) (fun _ => rfl) (i := k) hm (j := 4) rfl
  have r5 : (w.alloc (.cells #[.string p.name, .string p.cur, .int .i64 p.from_.1, .int .i64 p.from_.2.1, .int .i64 p.from_.2.2, .int .i64 p.to_.1, .int .i64 p.to_.2.1, .int .i64 p.to_.2.2, .slice Am p.mets.length cm, .slice Af p.fees.length cf, .slice (some ⟨g0, 0, none⟩) cs.length cc, .int .i64 p.line, .int .i64 p.col] 29)).cell? ⟨g0, k * 16 + 5, none⟩ = some (.int .i64 c.win.to_.1) := Lies.at (f := chgF) (l := cs) (Lies.of hR0.co) (fun _ => rfl) (i := k) hm (j := 5) rfl
  have r6 : (w.alloc (.cells #[.string p.name, .string p.cur, .int .i64 p.from_.1, .int .i64 p.from_.2.1, .int .i64 p.from_.2.2, .int .i64 p.to_.1, .int .i64 p.to_.2.1, .int .i64 p.to_.2.2, .slice Am p.mets.length cm, .slice Af p.fees.length cf, .slice (some ⟨g0, 0, none⟩) cs.length cc, .int .i64 p.line, .int .i64 p.col] 29)).cell? ⟨g0, k * 16 + 6, none⟩ = some (.int .i64 c.win.to_.2.1) := Lies.at (f := chgF) (l := cs) (Lies.of hR0.co) (fun _ => rfl) (i := k) hm (j := 6) rfl
  have r7 : (w.alloc (.cells #[.string p.name, .string p.cur, .int .i64 p.from_.1, .int .i64 p.from_.2.1, .int .i64 p.from_.2.2, .int .i64 p.to_.1, .int .i64 p.to_.2.1, .int .i64 p.to_.2.2, .slice Am p.mets.length cm, .slice Af p.fees.length cf, .slice (some ⟨g0, 0, none⟩) cs.length cc, .int .i64 p.line, .int .i64 p.col] 29)).cell? ⟨g0, k * 16 + 7, none⟩ = some (.int .i64 c.win.to_.2.2) := Lies.at (f := chgF) (l := cs) (Lies.of hR0.co) (fun _ => rfl) (i := k) hm (j := 7) rfl
  have r8 : (w.alloc (.cells #[.string p.name, .string p.cur, .int .i64 p.from_.1, .int .i64 p.from_.2.1, .int .i64 p.from_.2.2, .int .i64 p.to_.1, .int .i64 p.to_.2.1, .int .i64 p.to_.2.2, .slice Am p.mets.length cm, .slice Af p.fees.length cf, .slice (some ⟨g0, 0, none⟩) cs.length cc, .int .i64 p.line, .int .i64 p.col] 29)).cell? ⟨g0, k * 16 + 8, none⟩ = some (.int .i64 c.allow) := Lies.at (f := chgF) (l := cs) (Lies.of hR0.co) (fun _ => rfl) (i := k) hm (j := 8) rfl
  have r9 : (w.alloc (.cells #[.string p.name, .string p.cur, .int .i64 p.from_.1, .int .i64 p.from_.2.1, .int .i64 p.from_.2.2, .int .i64 p.to_.1, .int .i64 p.to_.2.1, .int .i64 p.to_.2.2, .slice Am p.mets.length cm, .slice Af p.fees.length cf, .slice (some ⟨g0, 0, none⟩) cs.length cc, .int .i64 p.line, .int .i64 p.col] 29)).cell? ⟨g0, k * 16 + 9, none⟩ = some (.int .i64 c.block) := Lies.at (f := chgF) (l := cs) (Lies.of hR0.co) (fun _ => rfl) (i := k) hm (j := 9) rfl
  have r10 : (w.alloc (.cells #[.string p.name, .string p.cur, .int .i64 p.from_.1, .int .i64 p.from_.2.1, .int .i64 p.from_.2.2, .int .i64 p.to_.1, .int .i64 p.to_.2.1, .int .i64 p.to_.2.2, .slice Am p.mets.length cm, .slice Af p.fees.length cf, .slice (some ⟨g0, 0, none⟩) cs.length cc, .int .i64 p.line, .int .i64 p.col] 29)).cell? ⟨g0, k * 16 + 10, none⟩ = some (.int .i64 c.kind) := Lies.at (f := chgF) (l := cs) (Lies.of hR0.co) (fun _ => rfl) (i := k) hm (j := 10) rfl
  have r11 : (w.alloc (.cells #[.string p.name, .string p.cur, .int .i64 p.from_.1, .int .i64 p.from_.2.1, .int .i64 p.from_.2.2, .int .i64 p.to_.1, .int .i64 p.to_.2.1, .int .i64 p.to_.2.2, .slice Am p.mets.length cm, .slice Af p.fees.length cf, .slice (some ⟨g0, 0, none⟩) cs.length cc, .int .i64 p.line, .int .i64 p.col] 29)).cell? ⟨g0, k * 16 + 11, none⟩ = some (.slice At c.tiers.length ct) := Lies.at (f := chgF) (l := cs) (Lies.of hR0.co) (fun _ => rfl) (i := k) hm (j := 11) rfl
  have r12 : (w.alloc (.cells #[.string p.name, .string p.cur, .int .i64 p.from_.1, .int .i64 p.from_.2.1, .int .i64 p.from_.2.2, .int .i64 p.to_.1, .int .i64 p.to_.2.1, .int .i64 p.to_.2.2, .slice Am p.mets.length cm, .slice Af p.fees.length cf, .slice (some ⟨g0, 0, none⟩) cs.length cc, .int .i64 p.line, .int .i64 p.col] 29)).cell? ⟨g0, k * 16 + 12, none⟩ = some (.int .i64 c.mode) := Lies.at (f := chgF) (l := cs) (Lies.of hR0.co) (fun _ => rfl) (i := k) hm (j := 12) rfl
  have r13 : (w.alloc (.cells #[.string p.name, .string p.cur, .int .i64 p.from_.1, .int .i64 p.from_.2.1, .int .i64 p.from_.2.2, .int .i64 p.to_.1, .int .i64 p.to_.2.1, .int .i64 p.to_.2.2, .slice Am p.mets.length cm, .slice Af p.fees.length cf, .slice (some ⟨g0, 0, none⟩) cs.length cc, .int .i64 p.line, .int .i64 p.col] 29)).cell? ⟨g0, k * 16 + 13, none⟩ = some (.slice Aa c.adjs.length ca) := Lies.at (f := chgF) (l := cs) (Lies.of hR0.co) (fun _ => rfl) (i := k) hm (j := 13) rfl
  have r14 : (w.alloc (.cells #[.string p.name, .string p.cur, .int .i64 p.from_.1, .int .i64 p.from_.2.1, .int .i64 p.from_.2.2, .int .i64 p.to_.1, .int .i64 p.to_.2.1, .int .i64 p.to_.2.2, .slice Am p.mets.length cm, .slice Af p.fees.length cf, .slice (some ⟨g0, 0, none⟩) cs.length cc, .int .i64 p.line, .int .i64 p.col] 29)).cell? ⟨g0, k * 16 + 14, none⟩ = some (.int .i64 c.line) := Lies.at (f := chgF) (l := cs) (Lies.of hR0.co) (fun _ => rfl) (i := k) hm (j := 14) rfl
  have r15 : (w.alloc (.cells #[.string p.name, .string p.cur, .int .i64 p.from_.1, .int .i64 p.from_.2.1, .int .i64 p.from_.2.2, .int .i64 p.to_.1, .int .i64 p.to_.2.1, .int .i64 p.to_.2.2, .slice Am p.mets.length cm, .slice Af p.fees.length cf, .slice (some ⟨g0, 0, none⟩) cs.length cc, .int .i64 p.line, .int .i64 p.col] 29)).cell? ⟨g0, k * 16 + 15, none⟩ = some (.int .i64 c.col) := Lies.at (f := chgF) (l := cs) (Lies.of hR0.co) (fun _ => rfl) (i := k) hm (j := 15) rfl
  have gg0 : (0 : Int) ≤ (k : Int) := by omega
  have gg1 : (k : Int) < (cs.length : Int) := by omega
  have gg2 : (k : Int) < (cc : Int) := by have := ht1; omega
  have kc0 := Blk.new (w.alloc (.cells #[.string p.name, .string p.cur, .int .i64 p.from_.1, .int .i64 p.from_.2.1, .int .i64 p.from_.2.2, .int .i64 p.to_.1, .int .i64 p.to_.2.1, .int .i64 p.to_.2.2, .slice Am p.mets.length cm, .slice Af p.fees.length cf, .slice (some ⟨g0, 0, none⟩) cs.length cc, .int .i64 p.line, .int .i64 p.col] 29)) 58 #[.string c.meter, .bool c.win.has, .int .i64 c.win.from_.1, .int .i64 c.win.from_.2.1, .int .i64 c.win.from_.2.2, .int .i64 c.win.to_.1, .int .i64 c.win.to_.2.1, .int .i64 c.win.to_.2.2, .int .i64 c.allow, .int .i64 c.block, .int .i64 c.kind, .slice At c.tiers.length ct, .int .i64 c.mode, .slice Aa c.adjs.length ca, .int .i64 c.line, .int .i64 c.col]
  rw [World.size_alloc] at kc0
  have kp1 := kp0.alloc (.cells #[.string c.meter, .bool c.win.has, .int .i64 c.win.from_.1, .int .i64 c.win.from_.2.1, .int .i64 c.win.from_.2.2, .int .i64 c.win.to_.1, .int .i64 c.win.to_.2.1, .int .i64 c.win.to_.2.2, .int .i64 c.allow, .int .i64 c.block, .int .i64 c.kind, .slice At c.tiers.length ct, .int .i64 c.mode, .slice Aa c.adjs.length ca, .int .i64 c.line, .int .i64 c.col] 58)
  have b1 := bl_alloc b0 (.cells #[.string c.meter, .bool c.win.has, .int .i64 c.win.from_.1, .int .i64 c.win.from_.2.1, .int .i64 c.win.from_.2.2, .int .i64 c.win.to_.1, .int .i64 c.win.to_.2.1, .int .i64 c.win.to_.2.2, .int .i64 c.allow, .int .i64 c.block, .int .i64 c.kind, .slice At c.tiers.length ct, .int .i64 c.mode, .slice Aa c.adjs.length ca, .int .i64 c.line, .int .i64 c.col] 58)
  have hR1 := hR0.below (bl_alloc (bl_refl _) (.cells #[.string c.meter, .bool c.win.has, .int .i64 c.win.from_.1, .int .i64 c.win.from_.2.1, .int .i64 c.win.from_.2.2, .int .i64 c.win.to_.1, .int .i64 c.win.to_.2.1, .int .i64 c.win.to_.2.2, .int .i64 c.allow, .int .i64 c.block, .int .i64 c.kind, .slice At c.tiers.length ct, .int .i64 c.mode, .slice Aa c.adjs.length ca, .int .i64 c.line, .int .i64 c.col] 58))
  obtain ⟨hT1, hA1⟩ := hR1.ne _ hmem
  have hM := fun W (h : Below ((w.alloc (.cells #[.string p.name, .string p.cur, .int .i64 p.from_.1, .int .i64 p.from_.2.1, .int .i64 p.from_.2.2, .int .i64 p.to_.1, .int .i64 p.to_.2.1, .int .i64 p.to_.2.2, .slice Am p.mets.length cm, .slice Af p.fees.length cf, .slice (some ⟨g0, 0, none⟩) cs.length cc, .int .i64 p.line, .int .i64 p.col] 29)).alloc (.cells #[.string c.meter, .bool c.win.has, .int .i64 c.win.from_.1, .int .i64 c.win.from_.2.1, .int .i64 c.win.from_.2.2, .int .i64 c.win.to_.1, .int .i64 c.win.to_.2.1, .int .i64 c.win.to_.2.2, .int .i64 c.allow, .int .i64 c.block, .int .i64 c.kind, .slice At c.tiers.length ct, .int .i64 c.mode, .slice Aa c.adjs.length ca, .int .i64 c.line, .int .i64 c.col] 58)).heap.size ((w.alloc (.cells #[.string p.name, .string p.cur, .int .i64 p.from_.1, .int .i64 p.from_.2.1, .int .i64 p.from_.2.2, .int .i64 p.to_.1, .int .i64 p.to_.2.1, .int .i64 p.to_.2.2, .slice Am p.mets.length cm, .slice Af p.fees.length cf, .slice (some ⟨g0, 0, none⟩) cs.length cc, .int .i64 p.line, .int .i64 p.col] 29)).alloc (.cells #[.string c.meter, .bool c.win.has, .int .i64 c.win.from_.1, .int .i64 c.win.from_.2.1, .int .i64 c.win.from_.2.2, .int .i64 c.win.to_.1, .int .i64 c.win.to_.2.1, .int .i64 c.win.to_.2.2, .int .i64 c.allow, .int .i64 c.block, .int .i64 c.kind, .slice At c.tiers.length ct, .int .i64 c.mode, .slice Aa c.adjs.length ca, .int .i64 c.line, .int .i64 c.col] 58)) W) => treeMeter_any p Am Af (some ⟨g0, 0, none⟩) cm cf cc cs c.meter W (hR1.below h).mo
  have hW := fun W => cwindow_any p Am Af (some ⟨g0, 0, none⟩) cm cf cc cs c.win W hf ht hx
  have hS := fun W (h : Below ((w.alloc (.cells #[.string p.name, .string p.cur, .int .i64 p.from_.1, .int .i64 p.from_.2.1, .int .i64 p.from_.2.2, .int .i64 p.to_.1, .int .i64 p.to_.2.1, .int .i64 p.to_.2.2, .slice Am p.mets.length cm, .slice Af p.fees.length cf, .slice (some ⟨g0, 0, none⟩) cs.length cc, .int .i64 p.line, .int .i64 p.col] 29)).alloc (.cells #[.string c.meter, .bool c.win.has, .int .i64 c.win.from_.1, .int .i64 c.win.from_.2.1, .int .i64 c.win.from_.2.2, .int .i64 c.win.to_.1, .int .i64 c.win.to_.2.1, .int .i64 c.win.to_.2.2, .int .i64 c.allow, .int .i64 c.block, .int .i64 c.kind, .slice At c.tiers.length ct, .int .i64 c.mode, .slice Aa c.adjs.length ca, .int .i64 c.line, .int .i64 c.col] 58)).heap.size ((w.alloc (.cells #[.string p.name, .string p.cur, .int .i64 p.from_.1, .int .i64 p.from_.2.1, .int .i64 p.from_.2.2, .int .i64 p.to_.1, .int .i64 p.to_.2.1, .int .i64 p.to_.2.2, .slice Am p.mets.length cm, .slice Af p.fees.length cf, .slice (some ⟨g0, 0, none⟩) cs.length cc, .int .i64 p.line, .int .i64 p.col] 29)).alloc (.cells #[.string c.meter, .bool c.win.has, .int .i64 c.win.from_.1, .int .i64 c.win.from_.2.1, .int .i64 c.win.from_.2.2, .int .i64 c.win.to_.1, .int .i64 c.win.to_.2.1, .int .i64 c.win.to_.2.2, .int .i64 c.allow, .int .i64 c.block, .int .i64 c.kind, .slice At c.tiers.length ct, .int .i64 c.mode, .slice Aa c.adjs.length ca, .int .i64 c.line, .int .i64 c.col] 58)) W) => rises_any c.tiers At ct W ((hR1.below h).ne _ hmem).1 hr
  unfold chgE
  obtain ⟨i, hi⟩ : ∃ i, metI c.meter p.mets = i := ⟨_, rfl⟩
  obtain ⟨wb, hwb⟩ : ∃ i, winB p c.win = i := ⟨_, rfl⟩
  obtain ⟨rb, hrb⟩ : ∃ i, risesB c.tiers = i := ⟨_, rfl⟩
  rw [hi] at hM
  rw [hwb] at hW
  rw [hrb] at hS
  rw [hi, hwb, hrb]
  obtain ⟨E, hE⟩ : ∃ E : Int, (if 8 ≤ k then 6 else if i < 0 then 5 else if wb = false then 5 else if c.block < 1 then 5 else if 8 < c.tiers.length then 6 else if rb = false then 5 else if 6 < c.adjs.length then 6 else 0) = E := ⟨_, rfl⟩
  rw [hE]
  replace hE := Lib.hid hE
  replace hM := Lib.hid hM
  replace hW := Lib.hid hW
  replace hS := Lib.hid hS
  clear hi hwb hrb hR hR0 hT hA hco hT1 hA1 hR1
  go_enter Try.func16, Try.ntmps16
  go_upto_region 2 with fail
  generalize hu : (w.alloc (.cells #[.string p.name, .string p.cur, .int .i64 p.from_.1, .int .i64 p.from_.2.1, .int .i64 p.from_.2.2, .int .i64 p.to_.1, .int .i64 p.to_.2.1, .int .i64 p.to_.2.2, .slice Am p.mets.length cm, .slice Af p.fees.length cf, .slice (some ⟨g0, 0, none⟩) cs.length cc, .int .i64 p.line, .int .i64 p.col] 29)).alloc (.cells #[.string c.meter, .bool c.win.has, .int .i64 c.win.from_.1, .int .i64 c.win.from_.2.1, .int .i64 c.win.from_.2.2, .int .i64 c.win.to_.1, .int .i64 c.win.to_.2.1, .int .i64 c.win.to_.2.2, .int .i64 c.allow, .int .i64 c.block, .int .i64 c.kind, .slice At c.tiers.length ct, .int .i64 c.mode, .slice Aa c.adjs.length ca, .int .i64 c.line, .int .i64 c.col] 58) = u at *
  obtain ⟨a0, a1, a2, a3, a4, a5, a6, a7, a8, a9, a10, a11, a12, _, _, _, _, _, _, _, _, _, _, _, _, _⟩ := kp1.c13
  obtain ⟨e0, e1, e2, e3, e4, e5, e6, e7, e8, e9, e10, e11, e12, e13, e14, e15, _, _, _, _, _, _, _, _, _, _, _, _, _, _, _, _⟩ := kc0.c16
  by_cases h8 : 8 ≤ k
  · obtain rfl : E = 6 := by rw [← hE.out, if_pos (by omega)]
    go_wp2_with fail
    go_ret
    exact ⟨rfl, b1⟩
  · go_wp2_with fail
    refine (hM.out _ (bl_refl _)).mono ?_
    rintro e w1 ⟨rfl, hb1⟩
    have kp2 := kp1.call hb1
    have kc2 := kc0.call hb1
    have bb1 := bl_call b1 hb1
    clear a0 a1 a2 a3 a4 a5 a6 a7 a8 a9 a10 a11 a12 e0 e1 e2 e3 e4 e5 e6 e7 e8 e9 e10 e11 e12 e13 e14 e15
    obtain ⟨a0, a1, a2, a3, a4, a5, a6, a7, a8, a9, a10, a11, a12, _, _, _, _, _, _, _, _, _, _, _, _, _⟩ := kp2.c13
    obtain ⟨e0, e1, e2, e3, e4, e5, e6, e7, e8, e9, e10, e11, e12, e13, e14, e15, _, _, _, _, _, _, _, _, _, _, _, _, _, _, _, _⟩ := kc2.c16
    by_cases hi : i < 0
    · obtain rfl : E = 5 := by rw [← hE.out, if_neg (by omega), if_pos (by omega)]
      go_wp2_with fail
      go_ret
      exact ⟨rfl, bb1⟩
    · go_wp2_with fail
      refine (hW.out _).mono ?_
      rintro e w2 ⟨rfl, hb2⟩
      have kc3 := kc2.call hb2
      have bb2 := bl_call bb1 hb2
      clear a0 a1 a2 a3 a4 a5 a6 a7 a8 a9 a10 a11 a12 e0 e1 e2 e3 e4 e5 e6 e7 e8 e9 e10 e11 e12 e13 e14 e15
      obtain ⟨e0, e1, e2, e3, e4, e5, e6, e7, e8, e9, e10, e11, e12, e13, e14, e15, _, _, _, _, _, _, _, _, _, _, _, _, _, _, _, _⟩ := kc3.c16
      cases wb with
      | false =>
        obtain rfl : E = 5 := by rw [← hE.out, if_neg (by omega), if_neg (by omega), if_pos rfl]
        go_wp2_with fail
        go_ret
        exact ⟨rfl, bb2⟩
      | true =>
        by_cases hbl : c.block < 1
        · obtain rfl : E = 5 := by rw [← hE.out, if_neg (by omega), if_neg (by omega), if_neg (by decide), if_pos (by omega)]
          go_wp2_with fail
          go_ret
          exact ⟨rfl, bb2⟩
        · by_cases htl : 8 < c.tiers.length
          · obtain rfl : E = 6 := by rw [← hE.out, if_neg (by omega), if_neg (by omega), if_neg (by decide), if_neg (by omega), if_pos (by omega)]
            go_wp2_with fail
            go_ret
            exact ⟨rfl, bb2⟩
          · go_wp2_with fail
            refine (hS.out _ (bl_call hb1 hb2)).mono ?_
            rintro e w3 ⟨rfl, hb3⟩
            have kc4 := kc3.call hb3
            have bb3 := bl_call bb2 hb3
            clear e0 e1 e2 e3 e4 e5 e6 e7 e8 e9 e10 e11 e12 e13 e14 e15
            obtain ⟨e0, e1, e2, e3, e4, e5, e6, e7, e8, e9, e10, e11, e12, e13, e14, e15, _, _, _, _, _, _, _, _, _, _, _, _, _, _, _, _⟩ := kc4.c16
            cases rb with
            | false =>
              obtain rfl : E = 5 := by rw [← hE.out, if_neg (by omega), if_neg (by omega), if_neg (by decide), if_neg (by omega), if_neg (by omega), if_pos rfl]
              go_wp2_with fail
              go_ret
              exact ⟨rfl, bb3⟩
            | true =>
              by_cases hal : 6 < c.adjs.length
              · obtain rfl : E = 6 := by rw [← hE.out, if_neg (by omega), if_neg (by omega), if_neg (by decide), if_neg (by omega), if_neg (by omega), if_neg (by decide), if_pos (by omega)]
                go_wp2_with fail
                go_ret
                exact ⟨rfl, bb3⟩
              · obtain rfl : E = 0 := by rw [← hE.out, if_neg (by omega), if_neg (by omega), if_neg (by decide), if_neg (by omega), if_neg (by omega), if_neg (by decide), if_neg (by omega)]
                go_wp2_with fail
                go_ret
                exact ⟨rfl, bb3⟩
end Go.Proofs.Ytcgkfgklggjmaaa.Par
end
section
namespace Go.Proofs.Ytcgkfgklggjmaaa.Par
set_option linter.unusedVariables false
set_option linter.unusedSimpArgs false
open Go.RowKit
/-- what a sum is, as it lies in memory -/
def SumSt (s : Option Int) (T : Int) (O : Bool) : Prop := O = s.isSome ∧ (∀ v, s = some v → T = v) ∧ 0 ≤ T ∧ T < 1152921504606846976
/-- all but two blocks stands -/
structure Fr2 (a b : Nat) (w w' : World) : Prop where
  os : w'.os = w.os
  tape : w'.tape = w.tape
  output : w'.output = w.output
  size : w'.heap.size = w.heap.size
  block : ∀ g, g ≠ a → g ≠ b → w'.heap[g]? = w.heap[g]?
theorem Fr2.below {a b : Nat} {w0 w w' : World} (h : Fr2 a b w w') (hb : Below w0.heap.size w0 w) (ha : w0.heap.size ≤ a) (hb' : w0.heap.size ≤ b) : Below w0.heap.size w0 w' :=
  ⟨h.os.trans hb.os, h.tape.trans hb.tape, h.output.trans hb.output, by rw [h.size]; exact hb.size, fun g hg => (h.block g (by omega) (by omega)).trans (hb.block g hg)⟩
theorem Fr2.blk {a b g : Nat} {w w' : World} {t : TypeId} {cs : Array Value} (h : Fr2 a b w w') (k : Blk w g t cs) (ha : g ≠ a) (hb : g ≠ b) : Blk w' g t cs := (h.block g ha hb).trans k
theorem sum_add {s x : Option Int} {T n : Int} {O f : Bool} (h : SumSt s T O) (hf : f = x.isSome) (hx : ∀ v, x = some v → n = v) (hn : 0 ≤ n) :
    (O = false ∨ f = false ∨ 1152921504606846976 ≤ T + n → addO s x = none) ∧ (O = true → f = true → T + n < 1152921504606846976 → addO s x = some (T + n)) := by
  obtain ⟨h1, h2, h3, h4⟩ := h
  cases s with
  | none =>
    refine ⟨fun _ => (by cases x <;> rfl), fun e => ?_⟩
    rw [h1] at e; cases e
  | some v =>
    obtain rfl := h2 v rfl
    cases x with
    | none => exact ⟨fun _ => rfl, fun _ e => by rw [hf] at e; cases e⟩
    | some m =>
      obtain rfl := hx m rfl
      have e : addO (some T) (some n) = if T + n < 1152921504606846976 then some (T + n) else none := rfl
      rw [e]
      refine ⟨fun hh => ?_, fun _ _ hlt => if_pos hlt⟩
      rcases hh with hh | hh | hh
      · rw [h1] at hh; cases hh
      · rw [hf] at hh; cases hh
      · exact if_neg (by omega)
theorem sumSt_none {T : Int} (h0 : 0 ≤ T) (h1 : T < 1152921504606846976) : SumSt none T false := ⟨rfl, fun v h => (by cases h), h0, h1⟩
theorem sumSt_some {T : Int} (h0 : 0 ≤ T) (h1 : T < 1152921504606846976) : SumSt (some T) T true := ⟨rfl, fun v h => (by injection h), h0, h1⟩
theorem fr2_ok (w : World) (gt go : Nat) (u : Value) : Fr2 gt go w (w.setCell ⟨go, 0, none⟩ u) :=
  ⟨rfl, rfl, rfl, by simp [World.setCell], fun g _ h2 => Below.heap_setCell w ⟨go, 0, none⟩ u g h2⟩
theorem fr2_both (w : World) (gt go : Nat) (u v : Value) : Fr2 gt go w ((w.setCell ⟨go, 0, none⟩ u).setCell ⟨gt, 0, none⟩ v) :=
  ⟨rfl, rfl, rfl, by simp [World.setCell], fun g h1 h2 => (Below.heap_setCell _ ⟨gt, 0, none⟩ v g h1).trans (Below.heap_setCell w ⟨go, 0, none⟩ u g h2)⟩
set_option maxHeartbeats 16000000 in
set_option maxRecDepth 100000 in
theorem badd_any (n : Int) (f : Bool) (gt go : Nat) (T : Int) (O : Bool) (s x : Option Int) (w : World) (kt : Blk w gt 3 #[.int .i64 T]) (ko : Blk w go 4 #[.bool O]) (h : SumSt s T O) (hf : f = x.isSome) (hx : ∀ v, x = some v → n = v) (hn : 0 ≤ n) (hn1 : n < 9223372036854775808) :
    Calls Try.prog 26 #[.int .i64 n, .bool f, .pointer (some ⟨gt, 0, none⟩), .pointer (some ⟨go, 0, none⟩)] w fun e w' => ∃ T' O', e = .returned (.tuple #[]) ∧ Blk w' gt 3 #[.int .i64 T'] ∧ Blk w' go 4 #[.bool O'] ∧ SumSt (addO s x) T' O' ∧ Fr2 gt go w w' := by
  have hne : gt ≠ go := kt.ne_ ko (by decide)
  obtain ⟨s1, s2⟩ := sum_add h hf hx hn
  obtain ⟨u1, u2, h3, h4⟩ := h
  clear u1 u2
  obtain ⟨x0, y0⟩ := kt.c1
  obtain ⟨x1, y1⟩ := ko.c1
  have lt1 := kt.lt
  have lt2 := ko.lt
  clear hf hx
  by_cases hov : T + n < 9223372036854775808
  · cases O with
    | false =>
      rw [s1 (.inl rfl)]
      have hs := sumSt_none h3 h4
      clear s1 s2
      go_enter Try.func26, Try.ntmps26
      go_wp2_with fail
      refine (eadd_yes T n _ h3 hn hov).mono ?_
      rintro e w1 ⟨rfl, rfl⟩
      have z0 := (ko.set_ 0 (.bool false)).c1.1
      go_wp2_with fail
      go_end0
      exact ⟨T, false, rfl, kt.far (p := ⟨go, 0, none⟩) hne (.bool false), ko.set_ 0 (.bool false), hs, fr2_ok w gt go _⟩
    | true =>
      cases f with
      | false =>
        rw [s1 (.inr (.inl rfl))]
        have hs := sumSt_none h3 h4
        clear s1 s2
        go_enter Try.func26, Try.ntmps26
        go_wp2_with fail
        refine (eadd_yes T n _ h3 hn hov).mono ?_
        rintro e w1 ⟨rfl, rfl⟩
        have z0 := (ko.set_ 0 (.bool false)).c1.1
        go_wp2_with fail
        go_end0
        exact ⟨T, false, rfl, kt.far (p := ⟨go, 0, none⟩) hne (.bool false), ko.set_ 0 (.bool false), hs, fr2_ok w gt go _⟩
      | true =>
        by_cases hlt : T + n < 1152921504606846976
        · rw [s2 rfl rfl hlt]
          have hs : SumSt (some (T + n)) (T + n) true := sumSt_some (by omega) hlt
          clear s1 s2
          have z0 := (ko.set_ 0 (.bool true)).c1.1
          have z1 := (kt.far (p := ⟨go, 0, none⟩) hne (.bool true)).c1
          obtain ⟨z1, z2⟩ := z1
          go_enter Try.func26, Try.ntmps26
          go_wp2_with fail
          refine (eadd_yes T n _ h3 hn hov).mono ?_
          rintro e w1 ⟨rfl, rfl⟩
          go_wp2_with fail
          go_end0
          exact ⟨T + n, true, rfl, (kt.far (p := ⟨go, 0, none⟩) hne (.bool true)).set_ 0 (.int .i64 (T + n)), (ko.set_ 0 (.bool true)).far (p := ⟨gt, 0, none⟩) (fun e => hne e.symm) (.int .i64 (T + n)), hs, fr2_both w gt go _ _⟩
        · rw [s1 (.inr (.inr (by omega)))]
          have hs := sumSt_none h3 h4
          have hd : decide (T + n < 1152921504606846976) = false := decide_eq_false hlt
          clear s1 s2
          go_enter Try.func26, Try.ntmps26
          go_wp2_with fail
          refine (eadd_yes T n _ h3 hn hov).mono ?_
          rintro e w1 ⟨rfl, rfl⟩
          have z0 := (ko.set_ 0 (.bool false)).c1.1
          go_wp2_with fail
          go_end0
          exact ⟨T, false, rfl, kt.far (p := ⟨go, 0, none⟩) hne (.bool false), ko.set_ 0 (.bool false), hs, fr2_ok w gt go _⟩
  · have hs := sumSt_none h3 h4
    rw [s1 (.inr (.inr (by omega)))]
    clear s1 s2
    cases O with
    | false =>
      go_enter Try.func26, Try.ntmps26
      go_wp2_with fail
      refine (eadd_no T n _ h3 (by omega) hn hn1 (by omega)).mono ?_
      rintro e w1 ⟨rfl, rfl⟩
      have z0 := (ko.set_ 0 (.bool false)).c1.1
      go_wp2_with fail
      go_end0
      exact ⟨T, false, rfl, kt.far (p := ⟨go, 0, none⟩) hne (.bool false), ko.set_ 0 (.bool false), hs, fr2_ok w gt go _⟩
    | true =>
      cases f with
      | false =>
        go_enter Try.func26, Try.ntmps26
        go_wp2_with fail
        refine (eadd_no T n _ h3 (by omega) hn hn1 (by omega)).mono ?_
        rintro e w1 ⟨rfl, rfl⟩
        have z0 := (ko.set_ 0 (.bool false)).c1.1
        go_wp2_with fail
        go_end0
        exact ⟨T, false, rfl, kt.far (p := ⟨go, 0, none⟩) hne (.bool false), ko.set_ 0 (.bool false), hs, fr2_ok w gt go _⟩
      | true =>
        go_enter Try.func26, Try.ntmps26
        go_wp2_with fail
        refine (eadd_no T n _ h3 (by omega) hn hn1 (by omega)).mono ?_
        rintro e w1 ⟨rfl, rfl⟩
        have z0 := (ko.set_ 0 (.bool false)).c1.1
        go_wp2_with fail
        go_end0
        exact ⟨T, false, rfl, kt.far (p := ⟨go, 0, none⟩) hne (.bool false), ko.set_ 0 (.bool false), hs, fr2_ok w gt go _⟩
end Go.Proofs.Ytcgkfgklggjmaaa.Par
end
section
namespace Go.Proofs.Ytcgkfgklggjmaaa.Par
set_option linter.unusedVariables false
set_option linter.unusedSimpArgs false
open Go.RowKit
/-- a plan's numbers, so that its bound can be told -/
structure BNum (p : Plan) : Prop where
  mets : ∀ m ∈ p.mets, 0 ≤ m.max ∧ m.max ≤ 2000
  fees : ∀ f ∈ p.fees, 0 ≤ f.amount ∧ f.amount ≤ 1000000000000
  chgs : ∀ c ∈ p.chgs, (0 ≤ c.allow ∧ c.allow ≤ 1000000) ∧ (1 ≤ c.block ∧ c.block ≤ 1000000) ∧ (∀ t ∈ c.tiers, 0 ≤ t.rate ∧ t.rate ≤ 1000000000000) ∧ ∀ a ∈ c.adjs, AOk a
theorem BNum.num {p : Plan} (h : BNum p) {c : Chg} (hc : c ∈ p.chgs) {k : Nat} {m : Met} (hm : p.mets[k]? = some m) : CNum c m.max := by
  obtain ⟨h1, h2, h3, h4⟩ := h.chgs c hc
  exact ⟨h.mets m (List.mem_of_getElem? hm), h1, h2, h3, h4⟩
theorem fees_take {l : List Fee} {k : Nat} {f : Fee} (h : l[k]? = some f) (s : Option Int) : ((l.take (k + 1)).map (fun f => some f.amount)).foldl addO s = addO (((l.take k).map (fun f => some f.amount)).foldl addO s) (some f.amount) := by
  rw [List.take_add_one, h]
  simp
theorem chgs_take {p : Plan} {k : Nat} {c : Chg} (h : p.chgs[k]? = some c) (s : Option Int) :
    ((p.chgs.take (k + 1)).filterMap (chgMost p)).foldl addO s = (match chgMost p c with | none => ((p.chgs.take k).filterMap (chgMost p)).foldl addO s | some x => addO (((p.chgs.take k).filterMap (chgMost p)).foldl addO s) x) := by
  rw [List.take_add_one, h, List.filterMap_append]
  cases hc : chgMost p c with
  | none => simp [hc]
  | some x => simp [hc]
theorem bound_eq (p : Plan) : boundO p = (p.chgs.filterMap (chgMost p)).foldl addO ((p.fees.map (fun f => some f.amount)).foldl addO (some 0)) := by
  unfold boundO sumList
  rw [List.foldl_append]
def FeeS (p : Plan) (k : Nat) : Option Int := ((p.fees.take k).map (fun f => some f.amount)).foldl addO (some 0)
def ChgS (p : Plan) (k : Nat) : Option Int := ((p.chgs.take k).filterMap (chgMost p)).foldl addO (FeeS p p.fees.length)
theorem FeeS_next {p : Plan} {k : Nat} {f : Fee} (h : p.fees[k]? = some f) : FeeS p (k + 1) = addO (FeeS p k) (some f.amount) := fees_take h _
theorem ChgS_zero (p : Plan) : ChgS p 0 = FeeS p p.fees.length := rfl
theorem ChgS_end (p : Plan) : ChgS p p.chgs.length = boundO p := by
  unfold ChgS FeeS
  rw [List.take_length, List.take_length, bound_eq]
theorem ChgS_skip {p : Plan} {k : Nat} {c : Chg} (h : p.chgs[k]? = some c) (hi : metI c.meter p.mets < 0) : ChgS p (k + 1) = ChgS p k := by
  unfold ChgS
  rw [chgs_take h, show chgMost p c = none from if_pos hi]
theorem ChgS_add {p : Plan} {k j : Nat} {c : Chg} {m : Met} (h : p.chgs[k]? = some c) (hi : metI c.meter p.mets = j) (hm : p.mets[j]? = some m) : ChgS p (k + 1) = addO (ChgS p k) (mostO c m.max) := by
  have e : chgMost p c = some (mostO c m.max) := by
    unfold chgMost
    rw [if_neg (by omega), hi, Int.toNat_natCast, hm]
    rfl
  unfold ChgS
  rw [chgs_take h, e]
theorem Rows.fr2 {a b : Nat} {w w' : World} {B : Nat} {p : Plan} {mv fv cv : Value} {cs : List CT} (h : Rows w B p mv fv cv cs) (hf : Fr2 a b w w') (ha : ∀ g, blocks mv fv cv cs g → g ≠ a ∧ g ≠ b) : Rows w' B p mv fv cv cs :=
  h.keep fun g hg => hf.block g (ha g hg).1 (ha g hg).2
set_option maxHeartbeats 16000000 in
set_option maxRecDepth 100000 in
theorem pbound_any (p : Plan) (Am Af Ac : Option Addr) (cm cf cc : Nat) (cs : List CT) (w : World) {B : Nat} (hR : Rows w B p (.slice Am p.mets.length cm) (.slice Af p.fees.length cf) (.slice Ac cs.length cc) cs) (hN : BNum p) (hcl : p.fees.length ≤ 10000 ∧ cs.length ≤ 10000) :
    Calls Try.prog 11 #[.agg #[.string p.name, .string p.cur, .int .i64 p.from_.1, .int .i64 p.from_.2.1, .int .i64 p.from_.2.2, .int .i64 p.to_.1, .int .i64 p.to_.2.1, .int .i64 p.to_.2.2, .slice Am p.mets.length cm, .slice Af p.fees.length cf, .slice Ac cs.length cc, .int .i64 p.line, .int .i64 p.col]] w fun e w' => e = .returned (.tuple #[.int .i64 ((boundO p).getD 0), .bool (boundO p).isSome]) ∧ Below w.heap.size w w' := by
  obtain ⟨hcl1, hcl2⟩ := hcl
  obtain ⟨_, _, he, ht1, ht2, ht3⟩ := Lies.open (f := feeF) (l := p.fees) (Lies.of hR.fo)
  injection he with he1 he2 he3
  subst he1 he3
  obtain ⟨_, _, he, hc1, hc2, hc3⟩ := Lies.open (f := chgF) (l := cs) (Lies.of hR.co)
  injection he with he1 he2 he3
  subst he1 he3
  obtain ⟨_, _, he, hm1, hm2, hm3⟩ := Lies.open (f := metF) (l := p.mets) (Lies.of hR.mo)
  injection he with he1 he2 he3
  subst he1 he3
  obtain ⟨W0, hW0⟩ : ∃ W0, W0 = ((w.alloc (.cells #[.string p.name, .string p.cur, .int .i64 p.from_.1, .int .i64 p.from_.2.1, .int .i64 p.from_.2.2, .int .i64 p.to_.1, .int .i64 p.to_.2.1, .int .i64 p.to_.2.2, .slice Am p.mets.length cm, .slice Af p.fees.length cf, .slice Ac cs.length cc, .int .i64 p.line, .int .i64 p.col] 29)).alloc (.cells #[.int .i64 0] 3)).alloc (.cells #[.bool true] 4) := ⟨_, rfl⟩
  have kp : Blk W0 w.heap.size 29 #[.string p.name, .string p.cur, .int .i64 p.from_.1, .int .i64 p.from_.2.1, .int .i64 p.from_.2.2, .int .i64 p.to_.1, .int .i64 p.to_.2.1, .int .i64 p.to_.2.2, .slice Am p.mets.length cm, .slice Af p.fees.length cf, .slice Ac cs.length cc, .int .i64 p.line, .int .i64 p.col] := by rw [hW0]; exact ((Blk.new w 29 #[.string p.name, .string p.cur, .int .i64 p.from_.1, .int .i64 p.from_.2.1, .int .i64 p.from_.2.2, .int .i64 p.to_.1, .int .i64 p.to_.2.1, .int .i64 p.to_.2.2, .slice Am p.mets.length cm, .slice Af p.fees.length cf, .slice Ac cs.length cc, .int .i64 p.line, .int .i64 p.col]).alloc _).alloc _
  have kt : Blk W0 (w.heap.size + 1) 3 #[.int .i64 0] := by
    rw [hW0]
    have := Dec.Blk.new2 w (.cells #[.string p.name, .string p.cur, .int .i64 p.from_.1, .int .i64 p.from_.2.1, .int .i64 p.from_.2.2, .int .i64 p.to_.1, .int .i64 p.to_.2.1, .int .i64 p.to_.2.2, .slice Am p.mets.length cm, .slice Af p.fees.length cf, .slice Ac cs.length cc, .int .i64 p.line, .int .i64 p.col] 29) 3 #[.int .i64 0]
    exact this.alloc _
  have ko : Blk W0 (w.heap.size + 1 + 1) 4 #[.bool true] := by
    rw [hW0]
    have := Dec.Blk.new2 (w.alloc (.cells #[.string p.name, .string p.cur, .int .i64 p.from_.1, .int .i64 p.from_.2.1, .int .i64 p.from_.2.2, .int .i64 p.to_.1, .int .i64 p.to_.2.1, .int .i64 p.to_.2.2, .slice Am p.mets.length cm, .slice Af p.fees.length cf, .slice Ac cs.length cc, .int .i64 p.line, .int .i64 p.col] 29)) (.cells #[.int .i64 0] 3) 4 #[.bool true]
    rwa [World.size_alloc] at this
  have b0 : Below w.heap.size w W0 := by rw [hW0]; exact bl_alloc (bl_alloc (bl_alloc (bl_refl w) _) _) _
  obtain ⟨a0, a1, a2, a3, a4, a5, a6, a7, a8, a9, a10, a11, a12, _, _, _, _, _, _, _, _, _, _, _, _, _⟩ := kp.c13
  go_enter Try.func11, Try.ntmps11
  go_upto_region 2 with fail
  rw [← hW0]
  clear hW0
  go_wp2_with fail
  go_loopw [16] (fun v16 wr => ∃ (k : Nat) (T : Int) (O : Bool), k ≤ p.fees.length ∧ v16 = .int .i64 k ∧ SumSt (FeeS p k) T O ∧ Blk wr w.heap.size 29 #[.string p.name, .string p.cur, .int .i64 p.from_.1, .int .i64 p.from_.2.1, .int .i64 p.from_.2.2, .int .i64 p.to_.1, .int .i64 p.to_.2.1, .int .i64 p.to_.2.2, .slice Am p.mets.length cm, .slice Af p.fees.length cf, .slice Ac cs.length cc, .int .i64 p.line, .int .i64 p.col] ∧ Blk wr (w.heap.size + 1) 3 #[.int .i64 T] ∧ Blk wr (w.heap.size + 1 + 1) 4 #[.bool O] ∧ Below w.heap.size w wr) (fun v16 _ => p.fees.length - (intOf v16).toNat)
  case atStart => exact ⟨0, 0, true, by omega, rfl, sumSt_some (by decide) (by decide), kp, kt, ko, b0⟩
  case round =>
    clear kp kt ko b0 a0 a1 a2 a3 a4 a5 a6 a7 a8 a9 a10 a11 a12
    obtain ⟨k, T, O, hk, rfl, hS, kpr, ktr, kor, hbw⟩ := hrel
    replace hS := Lib.hid hS
    have hfo := (hR.below hbw).fo
    have lp := kpr.lt
    have lt := ktr.lt
    have lo := kor.lt
    by_cases hlt : k < p.fees.length
    · obtain ⟨g0, rfl, hg0⟩ := ht3 (by omega)
      obtain ⟨m, hm⟩ : ∃ m, p.fees[k]? = some m := ⟨p.fees[k], List.getElem?_eq_getElem hlt⟩
      have r0 : (wr).cell? ⟨g0, k * 10, none⟩ = some (.int .i64 m.amount) := Lies.at (f := feeF) (l := p.fees) (Lies.of hfo) (fun _ => rfl) (i := k) hm (j := 0) rfl
      have r1 : (wr).cell? ⟨g0, k * 10 + 1, none⟩ = some (.bool m.win.has) := Lies.at (f := feeF) (l := p.fees) (Lies.of hfo) (fun _ => rfl) (i := k) hm (j := 1) rfl
      have r2 : (wr).cell? ⟨g0, k * 10 + 2, none⟩ = some (.int .i64 m.win.from_.1) := Lies.at (f := feeF) (l := p.fees) (Lies.of hfo) (fun _ => rfl) (i := k) hm (j := 2) rfl
      have r3 : (wr).cell? ⟨g0, k * 10 + 3, none⟩ = some (.int .i64 m.win.from_.2.1) := Lies.at (f := feeF) (l := p.fees) (Lies.of hfo) (fun _ => rfl) (i := k) hm (j := 3) rfl
      have r4 : (wr).cell? ⟨g0, k * 10 + 4, none⟩ = some (.int .i64 m.win.from_.2.2) := Lies.at (f := feeF) (l := p.fees) (Lies.of hfo) (fun _ => rfl) (i := k) hm (j := 4) rfl
      have r5 : (wr).cell? ⟨g0, k * 10 + 5, none⟩ = some (.int .i64 m.win.to_.1) := Lies.at (f := feeF) (l := p.fees) (Lies.of hfo) (fun _ => rfl) (i := k) hm (j := 5) rfl
      have r6 : (wr).cell? ⟨g0, k * 10 + 6, none⟩ = some (.int .i64 m.win.to_.2.1) := Lies.at (f := feeF) (l := p.fees) (Lies.of hfo) (fun _ => rfl) (i := k) hm (j := 6) rfl
      have r7 : (wr).cell? ⟨g0, k * 10 + 7, none⟩ = some (.int .i64 m.win.to_.2.2) := Lies.at (f := feeF) (l := p.fees) (Lies.of hfo) (fun _ => rfl) (i := k) hm (j := 7) rfl
      have r8 : (wr).cell? ⟨g0, k * 10 + 8, none⟩ = some (.int .i64 m.line) := Lies.at (f := feeF) (l := p.fees) (Lies.of hfo) (fun _ => rfl) (i := k) hm (j := 8) rfl
      have r9 : (wr).cell? ⟨g0, k * 10 + 9, none⟩ = some (.int .i64 m.col) := Lies.at (f := feeF) (l := p.fees) (Lies.of hfo) (fun _ => rfl) (i := k) hm (j := 9) rfl
      have gg0 : (0 : Int) ≤ (k : Int) := by omega
      have gg1 : (k : Int) < (p.fees.length : Int) := by omega
      have gg2 : (k : Int) < (cf : Int) := by have := ht1; omega
      have hnm := hN.fees m (List.mem_of_getElem? hm)
      have hnx := Lib.hid (FeeS_next hm)
      have kt1 := ktr.alloc (.cells #[.int .i64 m.amount, .bool m.win.has, .int .i64 m.win.from_.1, .int .i64 m.win.from_.2.1, .int .i64 m.win.from_.2.2, .int .i64 m.win.to_.1, .int .i64 m.win.to_.2.1, .int .i64 m.win.to_.2.2, .int .i64 m.line, .int .i64 m.col] 54)
      have ko1 := kor.alloc (.cells #[.int .i64 m.amount, .bool m.win.has, .int .i64 m.win.from_.1, .int .i64 m.win.from_.2.1, .int .i64 m.win.from_.2.2, .int .i64 m.win.to_.1, .int .i64 m.win.to_.2.1, .int .i64 m.win.to_.2.2, .int .i64 m.line, .int .i64 m.col] 54)
      have kp1 := kpr.alloc (.cells #[.int .i64 m.amount, .bool m.win.has, .int .i64 m.win.from_.1, .int .i64 m.win.from_.2.1, .int .i64 m.win.from_.2.2, .int .i64 m.win.to_.1, .int .i64 m.win.to_.2.1, .int .i64 m.win.to_.2.2, .int .i64 m.line, .int .i64 m.col] 54)
      have kf := Blk.new wr 54 #[.int .i64 m.amount, .bool m.win.has, .int .i64 m.win.from_.1, .int .i64 m.win.from_.2.1, .int .i64 m.win.from_.2.2, .int .i64 m.win.to_.1, .int .i64 m.win.to_.2.1, .int .i64 m.win.to_.2.2, .int .i64 m.line, .int .i64 m.col]
      have hbw1 := bl_alloc hbw (.cells #[.int .i64 m.amount, .bool m.win.has, .int .i64 m.win.from_.1, .int .i64 m.win.from_.2.1, .int .i64 m.win.from_.2.2, .int .i64 m.win.to_.1, .int .i64 m.win.to_.2.1, .int .i64 m.win.to_.2.2, .int .i64 m.line, .int .i64 m.col] 54)
      have hA := Lib.hid (badd_any m.amount true (w.heap.size + 1) (w.heap.size + 1 + 1) T O (FeeS p k) (some m.amount) _ kt1 ko1 hS.out rfl (fun v h => by injection h) (by omega) (by omega))
      obtain ⟨z0, z1, z2, z3, z4, z5, z6, z7, z8, z9, _, _, _, _, _, _, _, _, _, _⟩ := kf.c10
      clear hnm hm
      go_wp2_with fail
      refine hA.out.mono ?_
      rintro e w1 ⟨T', O', rfl, kt2, ko2, hS2, hfr⟩
      have hbw2 := hfr.below hbw1 (by omega) (by omega)
      have kp2 := hfr.blk kp1 (by omega) (by omega)
      rw [← hnx.out] at hS2
      replace hS2 := Lib.hid hS2
      go_wp2_with fail
      go_roundw
      case rel => exact ⟨k + 1, T', O', by omega, by go_num, hS2.out, kp2, kt2, ko2, hbw2⟩
      case measure => simp [intOf]; omega
    · obtain rfl : k = p.fees.length := by omega
      clear hlt hk
      obtain ⟨a0, a1, a2, a3, a4, a5, a6, a7, a8, a9, a10, a11, a12, _, _, _, _, _, _, _, _, _, _, _, _, _⟩ := kpr.c13
      go_wp2_with fail
      clear a0 a1 a2 a3 a4 a5 a6 a7 a8 a9 a10 a11 a12
      have eC := ChgS_zero p
      rw [← eC] at hS
      clear eC
      go_loopw [28] (fun v28 wr => ∃ (k : Nat) (T : Int) (O : Bool), k ≤ cs.length ∧ v28 = .int .i64 k ∧ Hid (SumSt (ChgS p k) T O) ∧ Blk wr w.heap.size 29 #[.string p.name, .string p.cur, .int .i64 p.from_.1, .int .i64 p.from_.2.1, .int .i64 p.from_.2.2, .int .i64 p.to_.1, .int .i64 p.to_.2.1, .int .i64 p.to_.2.2, .slice Am p.mets.length cm, .slice Af p.fees.length cf, .slice Ac cs.length cc, .int .i64 p.line, .int .i64 p.col] ∧ Blk wr (w.heap.size + 1) 3 #[.int .i64 T] ∧ Blk wr (w.heap.size + 1 + 1) 4 #[.bool O] ∧ Below w.heap.size w wr) (fun v28 _ => cs.length - (intOf v28).toNat)
      case atStart => exact ⟨0, T, O, by omega, rfl, hS, kpr, ktr, kor, hbw⟩
      case round =>
        clear kpr ktr kor hbw hfo lp lt lo hS
        obtain ⟨k, T, O, hk, rfl, hS, kpr, ktr, kor, hbw⟩ := hrel
        have hRr := hR.below hbw
        have lp := kpr.lt
        have lt := ktr.lt
        have lo := kor.lt
        by_cases hlt : k < cs.length
        · obtain ⟨g0, rfl, hg0⟩ := hc3 (by omega)
          obtain ⟨x, hm⟩ : ∃ m, cs[k]? = some m := ⟨cs[k], List.getElem?_eq_getElem hlt⟩
          have hmem := List.mem_of_getElem? hm
          have hcq : p.chgs[k]? = some x.1 := by rw [← hR.eq, List.getElem?_map, hm]; rfl
          obtain ⟨c, tv, av⟩ := x
          obtain ⟨At, ct, rfl, _, _, _⟩ := Lies.open (f := tierF) (l := c.tiers) (Lies.of (hR.ne _ hmem).1)
          obtain ⟨Aa, ca, rfl, _, _, _⟩ := Lies.open (f := adjF) (l := c.adjs) (Lies.of (hR.ne _ hmem).2)
          dsimp only at hcq
          have r0 : (wr).cell? ⟨g0, k * 16, none⟩ = some (.string c.meter) := Lies.at (f := chgF) (l := cs) (Lies.of hRr.co) (fun _ => rfl) (i := k) hm (j := 0) rfl
          have r1 : (wr).cell? ⟨g0, k * 16 + 1, none⟩ = some (.bool c.win.has) := Lies.at (f := chgF) (l := cs) (Lies.of hRr.co) (fun _ => rfl) (i := k) hm (j := 1) rfl
          have r2 : (wr).cell? ⟨g0, k * 16 + 2, none⟩ = some (.int .i64 c.win.from_.1) := Lies.at (f := chgF) (l := cs) (Lies.of hRr.co) (fun _ => rfl) (i := k) hm (j := 2) rfl
          have r3 : (wr).cell? ⟨g0, k * 16 + 3, none⟩ = some (.int .i64 c.win.from_.2.1) := Lies.at (f := chgF) (l := cs) (Lies.of hRr.co) (fun _ => rfl) (i := k) hm (j := 3) rfl
          have r4 : (wr).cell? ⟨g0, k * 16 + 4, none⟩ = some (.int .i64 c.win.from_.2.2) := Lies.at (f := chgF) (l := cs) (Lies.of hRr.co) (fun _ => rfl) (i := k) hm (j := 4) rfl
          have r5 : (wr).cell? ⟨g0, k * 16 + 5, none⟩ = some (.int .i64 c.win.to_.1) := Lies.at (f := chgF) (l := cs) (Lies.of hRr.co) (fun _ => rfl) (i := k) hm (j := 5) rfl
          have r6 : (wr).cell? ⟨g0, k * 16 + 6, none⟩ = some (.int .i64 c.win.to_.2.1) := Lies.at (f := chgF) (l := cs) (Lies.of hRr.co) (fun _ => rfl) (i := k) hm (j := 6) rfl
          have r7 : (wr).cell? ⟨g0, k * 16 + 7, none⟩ = some (.int .i64 c.win.to_.2.2) := Lies.at (f := chgF) (l := cs) (Lies.of hRr.co) (fun _ => rfl) (i := k) hm (j := 7) rfl
          have r8 : (wr).cell? ⟨g0, k * 16 + 8, none⟩ = some (.int .i64 c.allow) := Lies.at (f := chgF) (l := cs) (Lies.of hRr.co) (fun _ => rfl) (i := k) hm (j := 8) rfl
          have r9 : (wr).cell? ⟨g0, k * 16 + 9, none⟩ = some (.int .i64 c.block) := Lies.at (f := chgF) (l := cs) (Lies.of hRr.co) (fun _ => rfl) (i := k) hm (j := 9) rfl
          have r10 : (wr).cell? ⟨g0, k * 16 + 10, none⟩ = some (.int .i64 c.kind) := Lies.at (f := chgF) (l := cs) (Lies.of hRr.co) (fun _ => rfl) (i := k) hm (j := 10) rfl
          have r11 : (wr).cell? ⟨g0, k * 16 + 11, none⟩ = some (.slice At c.tiers.length ct) := Lies.at (f := chgF) (l := cs) (Lies.of hRr.co) (fun _ => rfl) (i := k) hm (j := 11) rfl
          have r12 : (wr).cell? ⟨g0, k * 16 + 12, none⟩ = some (.int .i64 c.mode) := Lies.at (f := chgF) (l := cs) (Lies.of hRr.co) (fun _ => rfl) (i := k) hm (j := 12) rfl
          have r13 : (wr).cell? ⟨g0, k * 16 + 13, none⟩ = some (.slice Aa c.adjs.length ca) := Lies.at (f := chgF) (l := cs) (Lies.of hRr.co) (fun _ => rfl) (i := k) hm (j := 13) rfl
          have r14 : (wr).cell? ⟨g0, k * 16 + 14, none⟩ = some (.int .i64 c.line) := Lies.at (f := chgF) (l := cs) (Lies.of hRr.co) (fun _ => rfl) (i := k) hm (j := 14) rfl
          have r15 : (wr).cell? ⟨g0, k * 16 + 15, none⟩ = some (.int .i64 c.col) := Lies.at (f := chgF) (l := cs) (Lies.of hRr.co) (fun _ => rfl) (i := k) hm (j := 15) rfl
          have gg0 : (0 : Int) ≤ (k : Int) := by omega
          have gg1 : (k : Int) < (cs.length : Int) := by omega
          have gg2 : (k : Int) < (cc : Int) := by have := hc1; omega
          have kt1 := ktr.alloc (.cells #[.string c.meter, .bool c.win.has, .int .i64 c.win.from_.1, .int .i64 c.win.from_.2.1, .int .i64 c.win.from_.2.2, .int .i64 c.win.to_.1, .int .i64 c.win.to_.2.1, .int .i64 c.win.to_.2.2, .int .i64 c.allow, .int .i64 c.block, .int .i64 c.kind, .slice At c.tiers.length ct, .int .i64 c.mode, .slice Aa c.adjs.length ca, .int .i64 c.line, .int .i64 c.col] 58)
          have ko1 := kor.alloc (.cells #[.string c.meter, .bool c.win.has, .int .i64 c.win.from_.1, .int .i64 c.win.from_.2.1, .int .i64 c.win.from_.2.2, .int .i64 c.win.to_.1, .int .i64 c.win.to_.2.1, .int .i64 c.win.to_.2.2, .int .i64 c.allow, .int .i64 c.block, .int .i64 c.kind, .slice At c.tiers.length ct, .int .i64 c.mode, .slice Aa c.adjs.length ca, .int .i64 c.line, .int .i64 c.col] 58)
          have kp1 := kpr.alloc (.cells #[.string c.meter, .bool c.win.has, .int .i64 c.win.from_.1, .int .i64 c.win.from_.2.1, .int .i64 c.win.from_.2.2, .int .i64 c.win.to_.1, .int .i64 c.win.to_.2.1, .int .i64 c.win.to_.2.2, .int .i64 c.allow, .int .i64 c.block, .int .i64 c.kind, .slice At c.tiers.length ct, .int .i64 c.mode, .slice Aa c.adjs.length ca, .int .i64 c.line, .int .i64 c.col] 58)
          have kc1 := Blk.new wr 58 #[.string c.meter, .bool c.win.has, .int .i64 c.win.from_.1, .int .i64 c.win.from_.2.1, .int .i64 c.win.from_.2.2, .int .i64 c.win.to_.1, .int .i64 c.win.to_.2.1, .int .i64 c.win.to_.2.2, .int .i64 c.allow, .int .i64 c.block, .int .i64 c.kind, .slice At c.tiers.length ct, .int .i64 c.mode, .slice Aa c.adjs.length ca, .int .i64 c.line, .int .i64 c.col]
          have hbw1 := bl_alloc hbw (.cells #[.string c.meter, .bool c.win.has, .int .i64 c.win.from_.1, .int .i64 c.win.from_.2.1, .int .i64 c.win.from_.2.2, .int .i64 c.win.to_.1, .int .i64 c.win.to_.2.1, .int .i64 c.win.to_.2.2, .int .i64 c.allow, .int .i64 c.block, .int .i64 c.kind, .slice At c.tiers.length ct, .int .i64 c.mode, .slice Aa c.adjs.length ca, .int .i64 c.line, .int .i64 c.col] 58)
          have hcm := List.mem_of_getElem? hcq
          have hM := Lib.hid (treeMeter_any p Am Af (some ⟨g0, 0, none⟩) cm cf cc cs c.meter _ (hR.below hbw1).mo)
          obtain ⟨i, hi⟩ : ∃ i, metI c.meter p.mets = i := ⟨_, rfl⟩
          rw [hi] at hM
          obtain ⟨z0, z1, z2, z3, z4, z5, z6, z7, z8, z9, z10, z11, z12, z13, z14, z15, _, _, _, _, _, _, _, _, _, _, _, _, _, _, _, _⟩ := kc1.c16
          obtain ⟨a0, a1, a2, a3, a4, a5, a6, a7, a8, a9, a10, a11, a12, _, _, _, _, _, _, _, _, _, _, _, _, _⟩ := kp1.c13
          go_wp2_with fail
          refine hM.out.mono ?_
          rintro e w2 ⟨rfl, hb2⟩
          have hbw2 := bl_call hbw1 hb2
          have kt2 := kt1.call hb2
          have ko2 := ko1.call hb2
          have kp2 := kp1.call hb2
          have kc2 := kc1.call hb2
          clear hM a0 a1 a2 a3 a4 a5 a6 a7 a8 a9 a10 a11 a12 z0 z1 z2 z3 z4 z5 z6 z7 z8 z9 z10 z11 z12 z13 z14 z15 kt1 ko1 kp1 kc1 hbw1
          by_cases hneg : i < 0
          · have hsk := Lib.hid (ChgS_skip hcq (by omega))
            clear hi hcq hm
            go_wp2_with fail
            go_roundw
            case rel => exact ⟨k + 1, T, O, by omega, by go_num, by rw [hsk.out]; exact hS, kp2, kt2, ko2, hbw2⟩
            case measure => simp [intOf]; omega
          · obtain ⟨j, mm, hj, hmm, _⟩ := metI_some (n := c.meter) (l := p.mets) (by omega)
            have hlm : j < p.mets.length := (List.getElem?_eq_some_iff.1 hmm).1
            have hnx := Lib.hid (ChgS_add hcq hj hmm)
            have hCN := hN.num hcm hmm
            obtain rfl : i = j := by omega
            clear hi hcq hm hj
            obtain ⟨gm, rfl, hgm⟩ := hm3 (by omega)
            go_upto_region 13 with fail
            have hRd : Rows w2.drew B p _ _ _ cs := hR.below (bl_drew hbw2)
            have hMo := Lib.hid (pmost_any c At Aa ct ca mm.max w2.drew (hRd.ne _ hmem).1 (hRd.ne _ hmem).2 hCN)
            have kt3 := kt2.drew
            have ko3 := ko2.drew
            have kp3 := kp2.drew
            have kc3 := kc2.drew
            have hbw3 := bl_drew hbw2
            have lgm : gm < w2.drew.heap.size := by have := hbw3.size; omega
            have m2 : (w2.drew).cell? ⟨gm, j * 5 + 2, none⟩ = some (.int .i64 mm.max) := Lies.at (f := metF) (l := p.mets) (Lies.of hRd.mo) (fun _ => rfl) (i := j) hmm (j := 2) rfl
            obtain ⟨z0, z1, z2, z3, z4, z5, z6, z7, z8, z9, z10, z11, z12, z13, z14, z15, _, _, _, _, _, _, _, _, _, _, _, _, _, _, _, _⟩ := kc3.c16
            obtain ⟨a0, a1, a2, a3, a4, a5, a6, a7, a8, a9, a10, a11, a12, _, _, _, _, _, _, _, _, _, _, _, _, _⟩ := kp3.c13
            clear hmm hRd
            have gg0 : (0 : Int) ≤ (j : Int) := by omega
            have gg1 : (j : Int) < (p.mets.length : Int) := by omega
            have gg2 : (j : Int) < (cm : Int) := by have := hm1; omega
            go_region_held3 (fun w' => w'.cell? ⟨wr.heap.size, 0, none⟩ = some (.string c.meter) ∧ w'.cell? ⟨wr.heap.size, 1, none⟩ = some (.bool c.win.has) ∧ w'.cell? ⟨wr.heap.size, 2, none⟩ = some (.int .i64 c.win.from_.1) ∧ w'.cell? ⟨wr.heap.size, 3, none⟩ = some (.int .i64 c.win.from_.2.1) ∧ w'.cell? ⟨wr.heap.size, 4, none⟩ = some (.int .i64 c.win.from_.2.2) ∧ w'.cell? ⟨wr.heap.size, 5, none⟩ = some (.int .i64 c.win.to_.1) ∧ w'.cell? ⟨wr.heap.size, 6, none⟩ = some (.int .i64 c.win.to_.2.1) ∧ w'.cell? ⟨wr.heap.size, 7, none⟩ = some (.int .i64 c.win.to_.2.2) ∧ w'.cell? ⟨wr.heap.size, 8, none⟩ = some (.int .i64 c.allow) ∧ w'.cell? ⟨wr.heap.size, 9, none⟩ = some (.int .i64 c.block) ∧ w'.cell? ⟨wr.heap.size, 10, none⟩ = some (.int .i64 c.kind) ∧ w'.cell? ⟨wr.heap.size, 11, none⟩ = some (.slice At c.tiers.length ct) ∧ w'.cell? ⟨wr.heap.size, 12, none⟩ = some (.int .i64 c.mode) ∧ w'.cell? ⟨wr.heap.size, 13, none⟩ = some (.slice Aa c.adjs.length ca) ∧ w'.cell? ⟨wr.heap.size, 14, none⟩ = some (.int .i64 c.line) ∧ w'.cell? ⟨wr.heap.size, 15, none⟩ = some (.int .i64 c.col) ∧ w'.cell? ⟨w.heap.size, 0, none⟩ = some (.string p.name) ∧ w'.cell? ⟨w.heap.size, 1, none⟩ = some (.string p.cur) ∧ w'.cell? ⟨w.heap.size, 2, none⟩ = some (.int .i64 p.from_.1) ∧ w'.cell? ⟨w.heap.size, 3, none⟩ = some (.int .i64 p.from_.2.1) ∧ w'.cell? ⟨w.heap.size, 4, none⟩ = some (.int .i64 p.from_.2.2) ∧ w'.cell? ⟨w.heap.size, 5, none⟩ = some (.int .i64 p.to_.1) ∧ w'.cell? ⟨w.heap.size, 6, none⟩ = some (.int .i64 p.to_.2.1) ∧ w'.cell? ⟨w.heap.size, 7, none⟩ = some (.int .i64 p.to_.2.2) ∧ w'.cell? ⟨w.heap.size, 8, none⟩ = some (.slice (some ⟨gm, 0, none⟩) p.mets.length cm) ∧ w'.cell? ⟨w.heap.size, 9, none⟩ = some (.slice Af p.fees.length cf) ∧ w'.cell? ⟨w.heap.size, 10, none⟩ = some (.slice (some ⟨g0, 0, none⟩) cs.length cc) ∧ w'.cell? ⟨w.heap.size, 11, none⟩ = some (.int .i64 p.line) ∧ w'.cell? ⟨w.heap.size, 12, none⟩ = some (.int .i64 p.col) ∧ w'.cell? ⟨gm, j * 5 + 2, none⟩ = some (.int .i64 mm.max))
              (refine ⟨?_, ?_, ?_, ?_, ?_, ?_, ?_, ?_, ?_, ?_, ?_, ?_, ?_, ?_, ?_, ?_, ?_, ?_, ?_, ?_, ?_, ?_, ?_, ?_, ?_, ?_, ?_, ?_, ?_, ?_⟩ <;> first | with_reducible assumption | (go_keep; done))
              ((first | (go_at_call 29; (refine hMo.out.mono ?_); rintro e' w5 ⟨n', rfl, hn1, hn2, hn3, hb5⟩; (replace hn1 := Lib.hid hn1); (have kt5 := kt3.call hb5); (have ko5 := ko3.call hb5); (have kp5 := kp3.call hb5); (have kc5 := kc3.call hb5); (have hbw5 := bl_call hbw3 hb5); (have lgm5 : gm < w5.heap.size := Nat.lt_of_lt_of_le lgm hb5.size); (have yy2 := (hb5.cell (p := ⟨gm, j * 5 + 2, none⟩) lgm).trans m2); obtain ⟨y0, y1, y2, y3, y4, y5, y6, y7, y8, y9, y10, y11, y12, y13, y14, y15, _, _, _, _, _, _, _, _, _, _, _, _, _, _, _, _⟩ := kc5.c16; obtain ⟨b0, b1, b2, b3, b4, b5, b6, b7, b8, b9, b10, b11, b12, _, _, _, _, _, _, _, _, _, _, _, _, _⟩ := kp5.c13) | (go_at_call 26; (refine (badd_any n' (mostO c mm.max).isSome (w.heap.size + 1) (w.heap.size + 1 + 1) T O (ChgS p k) (mostO c mm.max) _ kt5 ko5 hS.out rfl hn1.out hn2 hn3).mono ?_); rintro e' w6 ⟨T', O', rfl, kt6, ko6, hS6, hfr⟩; (rw [← hnx.out] at hS6); (replace hS6 := Lib.hid hS6); (have kp6 := hfr.blk kp5 (by omega) (by omega)); (have kc6 := hfr.blk kc5 (by omega) (by omega)); (have hbw6 := hfr.below hbw5 (by omega) (by omega)); (have x2 : w6.cell? ⟨gm, j * 5 + 2, none⟩ = some (.int .i64 mm.max) := (World.cell?_of_block (hfr.block gm (by omega) (by omega))).trans yy2); obtain ⟨x0, x1, x2, x3, x4, x5, x6, x7, x8, x9, x10, x11, x12, x13, x14, x15, _, _, _, _, _, _, _, _, _, _, _, _, _, _, _, _⟩ := kc6.c16; obtain ⟨d0, d1, d2, d3, d4, d5, d6, d7, d8, d9, d10, d11, d12, _, _, _, _, _, _, _, _, _, _, _, _, _⟩ := kp6.c13)))
            all_goals go_wp2_with fail
            all_goals go_roundw
            case rel => exact ⟨k + 1, T', O', by omega, by go_num, hS6, kp6, kt6, ko6, hbw6⟩
            case measure => simp [intOf]; omega
        · obtain rfl : k = cs.length := by omega
          have hcl : cs.length = p.chgs.length := by have h := congrArg List.length hR.eq; rw [List.length_map] at h; exact h
          have hE := ChgS_end p
          rw [← hcl] at hE
          obtain ⟨s1, s2, s3, s4⟩ := hS.out
          rw [hE] at s1 s2
          replace s2 := Lib.hid s2
          obtain ⟨x0, _⟩ := ktr.c1
          obtain ⟨x1, _⟩ := kor.c1
          clear hE
          cases hb : boundO p with
          | none =>
            rw [hb] at s1
            obtain rfl : O = false := s1
            go_wp2_with fail
            go_ret2
            exact ⟨by rw [hb]; rfl, hbw⟩
          | some v =>
            rw [hb] at s1
            obtain rfl : O = true := s1
            obtain rfl : T = v := s2.out v hb
            clear s2
            go_wp2_with fail
            go_ret2
            exact ⟨by rw [hb]; rfl, hbw⟩
end Go.Proofs.Ytcgkfgklggjmaaa.Par
end
section
namespace Go.Proofs.Ytcgkfgklggjmaaa.Par
set_option linter.unusedVariables false
set_option linter.unusedSimpArgs false
open Go.RowKit
/-! a plan's places -/
def placesL (p : Plan) : List Int := [p.line, p.col] ++ p.mets.flatMap (fun m => [m.line, m.col]) ++ p.fees.flatMap (fun f => [f.line, f.col]) ++ p.chgs.flatMap (fun c => [c.line, c.col])
theorem intInfo : (Try.prog.info? 3).map (fun i => (i.zero, i.size, i.bytes)) = some (some (.int .i64 0), 1, 8) := by kernel_rfl
/-- within Places -/
structure IW (w0 w : World) (C : Array Value) (v : Value) (l : List Int) : Prop where
  lb : LB w0 w
  kp : Blk w w0.heap.size 29 C
  out : w.ownsRow w0.heap.size 3 1 v l.length (l.map (Value.int .i64))
section
variable {w0 w w' : World} {C : Array Value} {v : Value} {l : List Int}
theorem IW.below (h : IW w0 w C v l) (hb : Below w.heap.size w w') : IW w0 w' C v l := ⟨h.lb.call hb, h.kp.call hb, own_keep h.out fun g hg => hb.block g (h.out.lt g hg).2⟩
theorem IW.alloc (h : IW w0 w C v l) (o : Obj) : IW w0 (w.alloc o) C v l := h.below (bl_alloc (bl_refl _) o)
theorem IW.add {v' : Value} {m : Nat} {news : List Value} {l' : List Int} (h : IW w0 w C v l) (hg : w.grownBy w' v.ownBlock) (ho : w'.ownsRow w0.heap.size 3 1 v' (l.length + m) (l.map (Value.int .i64) ++ news)) (hm : l'.length = m) (hn : l'.map (Value.int .i64) = news) : IW w0 w' C v' (l ++ l') :=
  ⟨⟨h.lb.out.grown hg h.lb.out.size (fun k hk => (h.out.lt k hk).1)⟩, h.kp.grown hg (fun e => own_ne_blk h.out h.kp (by decide) e.symm), by rw [List.length_append, hm, List.map_append, hn]; exact ho⟩
theorem IW.lt (h : IW w0 w C v l) : w0.heap.size < w.heap.size := h.kp.lt
end
end Go.Proofs.Ytcgkfgklggjmaaa.Par
end
section
namespace Go.Proofs.Ytcgkfgklggjmaaa.Par
set_option linter.unusedVariables false
set_option linter.unusedSimpArgs false
open Go.RowKit
def intF (n : Int) : List Value := [.int .i64 n]
theorem intF_len (n : Int) : (intF n).length = 1 := rfl
theorem int_flat (l : List Int) : l.flatMap intF = l.map (Value.int .i64) := by
  induction l with
  | nil => rfl
  | cons a l ih => simp [intF, ih]
theorem beq_ne_bytes {a b : ByteArray} (h : a ≠ b) : (a == b) = false := by
  cases hh : (a == b) with
  | false => rfl
  | true =>
    exfalso
    apply h
    cases a with
    | mk d =>
      cases b with
      | mk e =>
        have he : (d == e) = true := hh
        rw [beq_iff_eq.1 he]
theorem take_next {α : Type} {l l' : List α} {k : Nat} (hl : l.length = l'.length) (hk : k < l.length) (h : l.take k = l'.take k) (e : l[k]? = l'[k]?) : l.take (k + 1) = l'.take (k + 1) := by
  rw [List.take_add_one, List.take_add_one, h, e]
end Go.Proofs.Ytcgkfgklggjmaaa.Par
end
section
namespace Go.Proofs.Ytcgkfgklggjmaaa.Par
set_option linter.unusedVariables false
set_option linter.unusedSimpArgs false
open Go.RowKit
theorem intInfo9 : (Try.prog.info? 3).map (fun i => (i.zero, i.size, i.bytes)) = some (some (.int .i64 0), 1, 8) := by kernel_rfl
/-- within Bound: the plan's own block, and what has been written -/
structure RB (w0 w : World) (C : Array Value) (v : Value) (l : List Int) : Prop where
  lb : LB w0 w
  kp : Blk w w0.heap.size 29 C
  out : w.ownsRow w0.heap.size 3 1 v l.length (l.flatMap intF)
section
variable {w0 w w' : World} {C : Array Value} {v : Value} {l : List Int}
theorem RB.below (h : RB w0 w C v l) (hb : Below w.heap.size w w') : RB w0 w' C v l := ⟨h.lb.call hb, h.kp.call hb, own_keep h.out fun g hg => hb.block g (h.out.lt g hg).2⟩
theorem RB.alloc (h : RB w0 w C v l) (o : Obj) : RB w0 (w.alloc o) C v l := h.below (bl_alloc (bl_refl _) o)
theorem RB.drew (h : RB w0 w C v l) : RB w0 w.drew C v l := h.below (bl_drew (bl_refl _))
theorem RB.add {v' : Value} {m : Nat} {news : List Value} {l' : List Int} (h : RB w0 w C v l) (hg : w.grownBy w' v.ownBlock) (ho : w'.ownsRow w0.heap.size 3 1 v' (l.length + m) (l.flatMap intF ++ news)) (hm : l'.length = m) (hn : l'.flatMap intF = news) : RB w0 w' C v' (l ++ l') :=
  ⟨⟨h.lb.out.grown hg h.lb.out.size (fun k hk => (h.out.lt k hk).1)⟩, h.kp.grown hg (fun e => own_ne_blk h.out h.kp (by decide) e.symm), by rw [List.length_append, hm, List.flatMap_append, hn]; exact ho⟩
end
def ListOk (l : List Int) : Prop := ∀ x ∈ l, 0 ≤ x ∧ x < 1152921504606846976
theorem listOk_add {l : List Int} {x : Int} (h : ListOk l) (h0 : 0 ≤ x) (h1 : x < 1152921504606846976) : ListOk (l ++ [x]) := by
  intro y hy
  rcases List.mem_append.1 hy with hy | hy
  · exact h y hy
  · obtain rfl := List.mem_singleton.1 hy; exact ⟨h0, h1⟩
theorem fees_next {l : List Fee} {k : Nat} {f : Fee} (h : l[k]? = some f) : (l.take (k + 1)).map Fee.amount = (l.take k).map Fee.amount ++ [f.amount] := by
  rw [List.take_add_one, h]; simp
def partL (p : Plan) (k : Nat) : List (Option Int) := p.fees.map (fun f => some f.amount) ++ (p.chgs.take k).filterMap (chgMost p)
theorem partL_skip {p : Plan} {k : Nat} {c : Chg} (h : p.chgs[k]? = some c) (hi : metI c.meter p.mets < 0) : partL p (k + 1) = partL p k := by
  unfold partL
  rw [List.take_add_one, h, List.filterMap_append]
  simp [chgMost, hi]
theorem partL_add {p : Plan} {k j : Nat} {c : Chg} {m : Met} (h : p.chgs[k]? = some c) (hi : metI c.meter p.mets = j) (hm : p.mets[j]? = some m) : partL p (k + 1) = partL p k ++ [mostO c m.max] := by
  have e : chgMost p c = some (mostO c m.max) := by
    unfold chgMost
    rw [if_neg (by omega), hi, Int.toNat_natCast, hm]
    rfl
  unfold partL
  rw [List.take_add_one, h, List.filterMap_append]
  simp [e]
theorem partL_end (p : Plan) : partL p p.chgs.length = sumList p := by unfold partL sumList; rw [List.take_length]
theorem bound_none {p : Plan} {k j : Nat} {c : Chg} {m : Met} (h : p.chgs[k]? = some c) (hi : metI c.meter p.mets = j) (hm : p.mets[j]? = some m) (hn : mostO c m.max = none) : boundO p = none := by
  have e : chgMost p c = some none := by
    unfold chgMost
    rw [if_neg (by omega), hi, Int.toNat_natCast, hm]
    show some (mostO c m.max) = _
    rw [hn]
  unfold boundO
  refine fold_none ?_ _
  unfold sumList
  rw [List.mem_append]
  right
  exact List.mem_filterMap.2 ⟨c, List.mem_of_getElem? h, e⟩
theorem most_bd {c : Chg} {mx v : Int} (h : CNum c mx) (hv : mostO c mx = some v) : 0 ≤ v ∧ v < 1152921504606846976 := by
  obtain ⟨_, h0, h1⟩ := h.start
  exact ⟨adjO_ge h.adjs h0 hv, adjO_small hv (by omega)⟩
theorem sum_next {l : List Int} {k : Nat} {x : Int} (h : l[k]? = some x) (s : Option Int) : ((l.take (k + 1)).map some).foldl addO s = addO (((l.take k).map some).foldl addO s) (some x) := by
  rw [List.take_add_one, h]; simp
theorem sum_cut {l : List Int} {k : Nat} (h : ((l.take k).map some).foldl addO (some 0) = none) : (l.map some).foldl addO (some 0) = none := by
  have e : l.map some = (l.take k).map some ++ (l.drop k).map some := by rw [← List.map_append, List.take_append_drop]
  rw [e, List.foldl_append, h, addO_none]
theorem addO_some (n x : Int) : addO (some n) (some x) = if n + x < 1152921504606846976 then some (n + x) else none := rfl
set_option maxHeartbeats 16000000 in
set_option maxRecDepth 100000 in
theorem rbound9_any (p : Plan) (Am Af Ac : Option Addr) (cm cf cc : Nat) (cs : List CT) (w : World) {B : Nat} (hR : Rows w B p (.slice Am p.mets.length cm) (.slice Af p.fees.length cf) (.slice Ac cs.length cc) cs) (hN : BNum p) (hcl : p.fees.length ≤ 10000 ∧ cs.length ≤ 10000) :
    Calls Try.prog 21 #[.agg #[.string p.name, .string p.cur, .int .i64 p.from_.1, .int .i64 p.from_.2.1, .int .i64 p.from_.2.2, .int .i64 p.to_.1, .int .i64 p.to_.2.1, .int .i64 p.to_.2.2, .slice Am p.mets.length cm, .slice Af p.fees.length cf, .slice Ac cs.length cc, .int .i64 p.line, .int .i64 p.col]] w fun e w' => e = .returned (.tuple #[.int .i64 ((boundO p).getD 0), .bool (boundO p).isSome]) ∧ Below w.heap.size w w' := by
  obtain ⟨hcl1, hcl2⟩ := hcl
  obtain ⟨_, _, he, ht1, ht2, ht3⟩ := Lies.open (f := feeF) (l := p.fees) (Lies.of hR.fo)
  injection he with he1 he2 he3
  subst he1 he3
  obtain ⟨_, _, he, hc1, hc2, hc3⟩ := Lies.open (f := chgF) (l := cs) (Lies.of hR.co)
  injection he with he1 he2 he3
  subst he1 he3
  obtain ⟨_, _, he, hm1, hm2, hm3⟩ := Lies.open (f := metF) (l := p.mets) (Lies.of hR.mo)
  injection he with he1 he2 he3
  subst he1 he3
  unfold maxLen at ht2 hc2 hm2
  obtain ⟨iS, hS0, hS1, hS2, hS3⟩ := info_parts intInfo9
  have hW0 : RB w (w.alloc (.cells #[.string p.name, .string p.cur, .int .i64 p.from_.1, .int .i64 p.from_.2.1, .int .i64 p.from_.2.2, .int .i64 p.to_.1, .int .i64 p.to_.2.1, .int .i64 p.to_.2.2, .slice Am p.mets.length cm, .slice Af p.fees.length cf, .slice Ac cs.length cc, .int .i64 p.line, .int .i64 p.col] 29)) #[.string p.name, .string p.cur, .int .i64 p.from_.1, .int .i64 p.from_.2.1, .int .i64 p.from_.2.2, .int .i64 p.to_.1, .int .i64 p.to_.2.1, .int .i64 p.to_.2.2, .slice Am p.mets.length cm, .slice Af p.fees.length cf, .slice Ac cs.length cc, .int .i64 p.line, .int .i64 p.col] (.slice none 0 0) [] := ⟨⟨bl_alloc (bl_refl w) _⟩, Blk.new w 29 #[.string p.name, .string p.cur, .int .i64 p.from_.1, .int .i64 p.from_.2.1, .int .i64 p.from_.2.2, .int .i64 p.to_.1, .int .i64 p.to_.2.1, .int .i64 p.to_.2.2, .slice Am p.mets.length cm, .slice Af p.fees.length cf, .slice Ac cs.length cc, .int .i64 p.line, .int .i64 p.col], World.ownsRow_nil _ _ _ _⟩
  have kp := hW0.kp
  have bn := Lib.hid (fun (k j : Nat) (c : Chg) (m : Met) h1 h2 h3 h4 => bound_none (p := p) (k := k) (j := j) (c := c) (m := m) h1 h2 h3 h4)
  have hcq : Hid (cs.length = p.chgs.length) := Lib.hid (by have h := congrArg List.length hR.eq; rw [List.length_map] at h; exact h)
  obtain ⟨a0, a1, a2, a3, a4, a5, a6, a7, a8, a9, a10, a11, a12, _, _, _, _, _, _, _, _, _, _, _, _, _⟩ := kp.c13
  go_enter Try.func21, Try.ntmps21
  go_wp2_with fail
  clear a0 a1 a2 a3 a4 a5 a6 a7 a8 a9 a10 a11 a12 kp
  go_loopw [5, 18] (fun v5 v18 wr => ∃ (k : Nat) (L : List Int), k ≤ p.fees.length ∧ v18 = .int .i64 k ∧ Hid (L = (p.fees.take k).map Fee.amount) ∧ Hid (ListOk L) ∧ RB w wr #[.string p.name, .string p.cur, .int .i64 p.from_.1, .int .i64 p.from_.2.1, .int .i64 p.from_.2.2, .int .i64 p.to_.1, .int .i64 p.to_.2.1, .int .i64 p.to_.2.2, .slice Am p.mets.length cm, .slice Af p.fees.length cf, .slice Ac cs.length cc, .int .i64 p.line, .int .i64 p.col] v5 L) (fun _ v18 _ => p.fees.length - (intOf v18).toNat)
  case atStart => exact ⟨0, [], by omega, rfl, Lib.hid (by simp), Lib.hid (fun x hx => by cases hx), hW0⟩
  case round =>
    clear hW0
    obtain ⟨k, L, hk, rfl, hL, hLo, hW⟩ := hrel
    have hLn : L.length = k := by rw [hL.out, List.length_map, List.length_take]; omega
    have hRr := hR.below hW.lb.out
    have lp := hW.kp.lt
    by_cases hlt : k < p.fees.length
    · obtain ⟨g0, rfl, hg0⟩ := ht3 (by omega)
      obtain ⟨m, hm⟩ : ∃ m, p.fees[k]? = some m := ⟨p.fees[k], List.getElem?_eq_getElem hlt⟩
      have r0 : (wr).cell? ⟨g0, k * 10, none⟩ = some (.int .i64 m.amount) := Lies.at (f := feeF) (l := p.fees) (Lies.of hRr.fo) (fun _ => rfl) (i := k) hm (j := 0) rfl
      have r1 : (wr).cell? ⟨g0, k * 10 + 1, none⟩ = some (.bool m.win.has) := Lies.at (f := feeF) (l := p.fees) (Lies.of hRr.fo) (fun _ => rfl) (i := k) hm (j := 1) rfl
      have r2 : (wr).cell? ⟨g0, k * 10 + 2, none⟩ = some (.int .i64 m.win.from_.1) := Lies.at (f := feeF) (l := p.fees) (Lies.of hRr.fo) (fun _ => rfl) (i := k) hm (j := 2) rfl
      have r3 : (wr).cell? ⟨g0, k * 10 + 3, none⟩ = some (.int .i64 m.win.from_.2.1) := Lies.at (f := feeF) (l := p.fees) (Lies.of hRr.fo) (fun _ => rfl) (i := k) hm (j := 3) rfl
      have r4 : (wr).cell? ⟨g0, k * 10 + 4, none⟩ = some (.int .i64 m.win.from_.2.2) := Lies.at (f := feeF) (l := p.fees) (Lies.of hRr.fo) (fun _ => rfl) (i := k) hm (j := 4) rfl
      have r5 : (wr).cell? ⟨g0, k * 10 + 5, none⟩ = some (.int .i64 m.win.to_.1) := Lies.at (f := feeF) (l := p.fees) (Lies.of hRr.fo) (fun _ => rfl) (i := k) hm (j := 5) rfl
      have r6 : (wr).cell? ⟨g0, k * 10 + 6, none⟩ = some (.int .i64 m.win.to_.2.1) := Lies.at (f := feeF) (l := p.fees) (Lies.of hRr.fo) (fun _ => rfl) (i := k) hm (j := 6) rfl
      have r7 : (wr).cell? ⟨g0, k * 10 + 7, none⟩ = some (.int .i64 m.win.to_.2.2) := Lies.at (f := feeF) (l := p.fees) (Lies.of hRr.fo) (fun _ => rfl) (i := k) hm (j := 7) rfl
      have r8 : (wr).cell? ⟨g0, k * 10 + 8, none⟩ = some (.int .i64 m.line) := Lies.at (f := feeF) (l := p.fees) (Lies.of hRr.fo) (fun _ => rfl) (i := k) hm (j := 8) rfl
      have r9 : (wr).cell? ⟨g0, k * 10 + 9, none⟩ = some (.int .i64 m.col) := Lies.at (f := feeF) (l := p.fees) (Lies.of hRr.fo) (fun _ => rfl) (i := k) hm (j := 9) rfl
      have gg0 : (0 : Int) ≤ (k : Int) := by omega
      have gg1 : (k : Int) < (p.fees.length : Int) := by omega
      have gg2 : (k : Int) < (cf : Int) := by have := ht1; omega
      have hnm := hN.fees m (List.mem_of_getElem? hm)
      have hnx := fees_next hm
      have hLn2 : Hid (L ++ [m.amount] = (p.fees.take (k + 1)).map Fee.amount) := Lib.hid (by rw [hnx, hL.out])
      have hLo2 := Lib.hid (listOk_add hLo.out hnm.1 (by omega))
      have kf := Blk.new wr 54 #[.int .i64 m.amount, .bool m.win.has, .int .i64 m.win.from_.1, .int .i64 m.win.from_.2.1, .int .i64 m.win.from_.2.2, .int .i64 m.win.to_.1, .int .i64 m.win.to_.2.1, .int .i64 m.win.to_.2.2, .int .i64 m.line, .int .i64 m.col]
      have hWb := (hW.alloc (.cells #[.int .i64 m.amount, .bool m.win.has, .int .i64 m.win.from_.1, .int .i64 m.win.from_.2.1, .int .i64 m.win.from_.2.2, .int .i64 m.win.to_.1, .int .i64 m.win.to_.2.1, .int .i64 m.win.to_.2.2, .int .i64 m.line, .int .i64 m.col] 54)).alloc (.cells #[.int .i64 m.amount] 3)
      have hkb := Dec.Blk.new2 wr (.cells #[.int .i64 m.amount, .bool m.win.has, .int .i64 m.win.from_.1, .int .i64 m.win.from_.2.1, .int .i64 m.win.from_.2.2, .int .i64 m.win.to_.1, .int .i64 m.win.to_.2.1, .int .i64 m.win.to_.2.2, .int .i64 m.line, .int .i64 m.col] 54) 3 #[.int .i64 m.amount]
      obtain ⟨z0, z1, z2, z3, z4, z5, z6, z7, z8, z9, _, _, _, _, _, _, _, _, _, _⟩ := kf.c10
      clear hm hnx hnm hL hLo hRr hW
      go_wp2_with (at_builtin; refine wpList_append_lies _ rfl (.tmp 22) (.tmp 25) 89 rfl w.heap.size 3 iS _ 1 8 Try.underlying89 hS0 hS1 hS2 hS3 (by rfl) (by decide) _ _ _ (by rfl) hWb.out ⟨wr.heap.size + 1, 0, none⟩ 1 1 [.int .i64 m.amount] (by rfl) (by rfl) (World.news_of_block (cs := #[.int .i64 m.amount]) (t := 3) (fr := (0, 0)) hkb) (by simp [Value.oneCell']) (by decide) (by unfold maxLen; omega) (by omega) hWb.lb.out.size _ rfl ?_; intro g cp w10 hown10 hgrow10 hat10 hlt10; (have hW10 := hWb.add (l' := [m.amount]) hgrow10 hown10 rfl rfl))
      go_roundw
      case rel => exact ⟨k + 1, L ++ [m.amount], by omega, by go_num, hLn2, hLo2, (by rw [hLn] at hW10; exact hW10)⟩
      case measure => simp [intOf]; omega
    · obtain rfl : k = p.fees.length := by omega
      have hP0 : Hid (L.map some = partL p 0) := Lib.hid (by rw [hL.out, List.take_length, List.map_map]; simp [partL])
      have kp := hW.kp
      obtain ⟨a0, a1, a2, a3, a4, a5, a6, a7, a8, a9, a10, a11, a12, _, _, _, _, _, _, _, _, _, _, _, _, _⟩ := kp.c13
      go_wp2_with fail
      clear a0 a1 a2 a3 a4 a5 a6 a7 a8 a9 a10 a11 a12 kp hlt hk hL
      go_loopw [5, 31] (fun v5 v31 wr => ∃ (k : Nat) (L : List Int), k ≤ cs.length ∧ v31 = .int .i64 k ∧ L.length ≤ p.fees.length + k ∧ Hid (L.map some = partL p k) ∧ Hid (ListOk L) ∧ RB w wr #[.string p.name, .string p.cur, .int .i64 p.from_.1, .int .i64 p.from_.2.1, .int .i64 p.from_.2.2, .int .i64 p.to_.1, .int .i64 p.to_.2.1, .int .i64 p.to_.2.2, .slice Am p.mets.length cm, .slice Af p.fees.length cf, .slice Ac cs.length cc, .int .i64 p.line, .int .i64 p.col] v5 L) (fun _ v31 _ => cs.length - (intOf v31).toNat)
      case atStart => exact ⟨0, L, by omega, rfl, by omega, hP0, hLo, hW⟩
      case round =>
        clear hW hLo hP0 hRr lp hLn
        obtain ⟨k, L, hk, rfl, hLn, hL, hLo, hW⟩ := hrel
        have hRr := hR.below hW.lb.out
        have lp := hW.kp.lt
        by_cases hlt : k < cs.length
        · obtain ⟨g0, rfl, hg0⟩ := hc3 (by omega)
          obtain ⟨x, hm⟩ : ∃ m, cs[k]? = some m := ⟨cs[k], List.getElem?_eq_getElem hlt⟩
          have hmem := List.mem_of_getElem? hm
          have hch : p.chgs[k]? = some x.1 := by rw [← hR.eq, List.getElem?_map, hm]; rfl
          obtain ⟨c, tv, av⟩ := x
          obtain ⟨At, ct, rfl, _, _, _⟩ := Lies.open (f := tierF) (l := c.tiers) (Lies.of (hR.ne _ hmem).1)
          obtain ⟨Aa, ca, rfl, _, _, _⟩ := Lies.open (f := adjF) (l := c.adjs) (Lies.of (hR.ne _ hmem).2)
          dsimp only at hch
          have r0 : (wr).cell? ⟨g0, k * 16, none⟩ = some (.string c.meter) := Lies.at (f := chgF) (l := cs) (Lies.of hRr.co) (fun _ => rfl) (i := k) hm (j := 0) rfl
          have r1 : (wr).cell? ⟨g0, k * 16 + 1, none⟩ = some (.bool c.win.has) := Lies.at (f := chgF) (l := cs) (Lies.of hRr.co) (fun _ => rfl) (i := k) hm (j := 1) rfl
          have r2 : (wr).cell? ⟨g0, k * 16 + 2, none⟩ = some (.int .i64 c.win.from_.1) := Lies.at (f := chgF) (l := cs) (Lies.of hRr.co) (fun _ => rfl) (i := k) hm (j := 2) rfl
          have r3 : (wr).cell? ⟨g0, k * 16 + 3, none⟩ = some (.int .i64 c.win.from_.2.1) := Lies.at (f := chgF) (l := cs) (Lies.of hRr.co) (fun _ => rfl) (i := k) hm (j := 3) rfl
          have r4 : (wr).cell? ⟨g0, k * 16 + 4, none⟩ = some (.int .i64 c.win.from_.2.2) := Lies.at (f := chgF) (l := cs) (Lies.of hRr.co) (fun _ => rfl) (i := k) hm (j := 4) rfl
          have r5 : (wr).cell? ⟨g0, k * 16 + 5, none⟩ = some (.int .i64 c.win.to_.1) := Lies.at (f := chgF) (l := cs) (Lies.of hRr.co) (fun _ => rfl) (i := k) hm (j := 5) rfl
          have r6 : (wr).cell? ⟨g0, k * 16 + 6, none⟩ = some (.int .i64 c.win.to_.2.1) := Lies.at (f := chgF) (l := cs) (Lies.of hRr.co) (fun _ => rfl) (i := k) hm (j := 6) rfl
          have r7 : (wr).cell? ⟨g0, k * 16 + 7, none⟩ = some (.int .i64 c.win.to_.2.2) := Lies.at (f := chgF) (l := cs) (Lies.of hRr.co) (fun _ => rfl) (i := k) hm (j := 7) rfl
          have r8 : (wr).cell? ⟨g0, k * 16 + 8, none⟩ = some (.int .i64 c.allow) := Lies.at (f := chgF) (l := cs) (Lies.of hRr.co) (fun _ => rfl) (i := k) hm (j := 8) rfl
          have r9 : (wr).cell? ⟨g0, k * 16 + 9, none⟩ = some (.int .i64 c.block) := Lies.at (f := chgF) (l := cs) (Lies.of hRr.co) (fun _ => rfl) (i := k) hm (j := 9) rfl
          have r10 : (wr).cell? ⟨g0, k * 16 + 10, none⟩ = some (.int .i64 c.kind) := Lies.at (f := chgF) (l := cs) (Lies.of hRr.co) (fun _ => rfl) (i := k) hm (j := 10) rfl
          have r11 : (wr).cell? ⟨g0, k * 16 + 11, none⟩ = some (.slice At c.tiers.length ct) := Lies.at (f := chgF) (l := cs) (Lies.of hRr.co) (fun _ => rfl) (i := k) hm (j := 11) rfl
          have r12 : (wr).cell? ⟨g0, k * 16 + 12, none⟩ = some (.int .i64 c.mode) := Lies.at (f := chgF) (l := cs) (Lies.of hRr.co) (fun _ => rfl) (i := k) hm (j := 12) rfl
          have r13 : (wr).cell? ⟨g0, k * 16 + 13, none⟩ = some (.slice Aa c.adjs.length ca) := Lies.at (f := chgF) (l := cs) (Lies.of hRr.co) (fun _ => rfl) (i := k) hm (j := 13) rfl
          have r14 : (wr).cell? ⟨g0, k * 16 + 14, none⟩ = some (.int .i64 c.line) := Lies.at (f := chgF) (l := cs) (Lies.of hRr.co) (fun _ => rfl) (i := k) hm (j := 14) rfl
          have r15 : (wr).cell? ⟨g0, k * 16 + 15, none⟩ = some (.int .i64 c.col) := Lies.at (f := chgF) (l := cs) (Lies.of hRr.co) (fun _ => rfl) (i := k) hm (j := 15) rfl
          have gg0 : (0 : Int) ≤ (k : Int) := by omega
          have gg1 : (k : Int) < (cs.length : Int) := by omega
          have gg2 : (k : Int) < (cc : Int) := by have := hc1; omega
          have hW1 := hW.alloc (.cells #[.string c.meter, .bool c.win.has, .int .i64 c.win.from_.1, .int .i64 c.win.from_.2.1, .int .i64 c.win.from_.2.2, .int .i64 c.win.to_.1, .int .i64 c.win.to_.2.1, .int .i64 c.win.to_.2.2, .int .i64 c.allow, .int .i64 c.block, .int .i64 c.kind, .slice At c.tiers.length ct, .int .i64 c.mode, .slice Aa c.adjs.length ca, .int .i64 c.line, .int .i64 c.col] 58)
          have kp1 := hW1.kp
          have kc1 := Blk.new wr 58 #[.string c.meter, .bool c.win.has, .int .i64 c.win.from_.1, .int .i64 c.win.from_.2.1, .int .i64 c.win.from_.2.2, .int .i64 c.win.to_.1, .int .i64 c.win.to_.2.1, .int .i64 c.win.to_.2.2, .int .i64 c.allow, .int .i64 c.block, .int .i64 c.kind, .slice At c.tiers.length ct, .int .i64 c.mode, .slice Aa c.adjs.length ca, .int .i64 c.line, .int .i64 c.col]
          have hcm := List.mem_of_getElem? hch
          have hM := Lib.hid (rmeter9_any p Am Af (some ⟨g0, 0, none⟩) cm cf cc cs c.meter _ (hR.below hW1.lb.out).mo)
          obtain ⟨i, hi⟩ : ∃ i, metI c.meter p.mets = i := ⟨_, rfl⟩
          rw [hi] at hM
          obtain ⟨z0, z1, z2, z3, z4, z5, z6, z7, z8, z9, z10, z11, z12, z13, z14, z15, _, _, _, _, _, _, _, _, _, _, _, _, _, _, _, _⟩ := kc1.c16
          obtain ⟨a0, a1, a2, a3, a4, a5, a6, a7, a8, a9, a10, a11, a12, _, _, _, _, _, _, _, _, _, _, _, _, _⟩ := kp1.c13
          go_wp2_with fail
          refine hM.out.mono ?_
          rintro e w2 ⟨rfl, hb2⟩
          have hW2 := hW1.below hb2
          have kp2 := hW2.kp
          have kc2 := kc1.call hb2
          clear hM a0 a1 a2 a3 a4 a5 a6 a7 a8 a9 a10 a11 a12 z0 z1 z2 z3 z4 z5 z6 z7 z8 z9 z10 z11 z12 z13 z14 z15 kp1 kc1 hW1
          by_cases hneg : i < 0
          · have hsk := Lib.hid (partL_skip hch (by omega))
            clear hi hch hm
            go_wp2_with fail
            go_roundw
            case rel => exact ⟨k + 1, L, by omega, by go_num, by omega, Lib.hid (by rw [hL.out, hsk.out]), hLo, hW2⟩
            case measure => simp [intOf]; omega
          · obtain ⟨j, mm, hj, hmm, _⟩ := metI_some (n := c.meter) (l := p.mets) (by omega)
            have hlm : j < p.mets.length := (List.getElem?_eq_some_iff.1 hmm).1
            have hnx := Lib.hid (partL_add hch hj hmm)
            have hbn := Lib.hid (bn.out _ _ _ _ hch hj hmm)
            have hCN := hN.num hcm hmm
            have hbd := Lib.hid (fun v h => most_bd (v := v) hCN h)
            obtain rfl : i = j := by omega
            clear hi hch hm hj
            obtain ⟨gm, rfl, hgm⟩ := hm3 (by omega)
            go_upto_region 13 with fail
            have hW2d := hW2.drew
            have hRd : Rows w2.drew B p _ _ _ cs := hR.below hW2d.lb.out
            have hMo := Lib.hid (rmost9_any c At Aa ct ca mm.max w2.drew (hRd.ne _ hmem).1 (hRd.ne _ hmem).2 hCN)
            have kp3 := kp2.drew
            have kc3 := kc2.drew
            have lgm : gm < w2.drew.heap.size := by have := hW2d.lb.out.size; omega
            have m2 : (w2.drew).cell? ⟨gm, j * 5 + 2, none⟩ = some (.int .i64 mm.max) := Lies.at (f := metF) (l := p.mets) (Lies.of hRd.mo) (fun _ => rfl) (i := j) hmm (j := 2) rfl
            obtain ⟨z0, z1, z2, z3, z4, z5, z6, z7, z8, z9, z10, z11, z12, z13, z14, z15, _, _, _, _, _, _, _, _, _, _, _, _, _, _, _, _⟩ := kc3.c16
            obtain ⟨a0, a1, a2, a3, a4, a5, a6, a7, a8, a9, a10, a11, a12, _, _, _, _, _, _, _, _, _, _, _, _, _⟩ := kp3.c13
            clear hmm hRd hCN
            obtain ⟨O, hO⟩ : ∃ O, mostO c mm.max = O := ⟨_, rfl⟩
            rw [hO] at hMo hnx hbn hbd
            replace hO := Lib.hid hO
            have gg0 : (0 : Int) ≤ (j : Int) := by omega
            have gg1 : (j : Int) < (p.mets.length : Int) := by omega
            have gg2 : (j : Int) < (cm : Int) := by have := hm1; omega
            go_region_held3 (fun w' => w'.cell? ⟨wr.heap.size, 0, none⟩ = some (.string c.meter) ∧ w'.cell? ⟨wr.heap.size, 1, none⟩ = some (.bool c.win.has) ∧ w'.cell? ⟨wr.heap.size, 2, none⟩ = some (.int .i64 c.win.from_.1) ∧ w'.cell? ⟨wr.heap.size, 3, none⟩ = some (.int .i64 c.win.from_.2.1) ∧ w'.cell? ⟨wr.heap.size, 4, none⟩ = some (.int .i64 c.win.from_.2.2) ∧ w'.cell? ⟨wr.heap.size, 5, none⟩ = some (.int .i64 c.win.to_.1) ∧ w'.cell? ⟨wr.heap.size, 6, none⟩ = some (.int .i64 c.win.to_.2.1) ∧ w'.cell? ⟨wr.heap.size, 7, none⟩ = some (.int .i64 c.win.to_.2.2) ∧ w'.cell? ⟨wr.heap.size, 8, none⟩ = some (.int .i64 c.allow) ∧ w'.cell? ⟨wr.heap.size, 9, none⟩ = some (.int .i64 c.block) ∧ w'.cell? ⟨wr.heap.size, 10, none⟩ = some (.int .i64 c.kind) ∧ w'.cell? ⟨wr.heap.size, 11, none⟩ = some (.slice At c.tiers.length ct) ∧ w'.cell? ⟨wr.heap.size, 12, none⟩ = some (.int .i64 c.mode) ∧ w'.cell? ⟨wr.heap.size, 13, none⟩ = some (.slice Aa c.adjs.length ca) ∧ w'.cell? ⟨wr.heap.size, 14, none⟩ = some (.int .i64 c.line) ∧ w'.cell? ⟨wr.heap.size, 15, none⟩ = some (.int .i64 c.col) ∧ w'.cell? ⟨w.heap.size, 0, none⟩ = some (.string p.name) ∧ w'.cell? ⟨w.heap.size, 1, none⟩ = some (.string p.cur) ∧ w'.cell? ⟨w.heap.size, 2, none⟩ = some (.int .i64 p.from_.1) ∧ w'.cell? ⟨w.heap.size, 3, none⟩ = some (.int .i64 p.from_.2.1) ∧ w'.cell? ⟨w.heap.size, 4, none⟩ = some (.int .i64 p.from_.2.2) ∧ w'.cell? ⟨w.heap.size, 5, none⟩ = some (.int .i64 p.to_.1) ∧ w'.cell? ⟨w.heap.size, 6, none⟩ = some (.int .i64 p.to_.2.1) ∧ w'.cell? ⟨w.heap.size, 7, none⟩ = some (.int .i64 p.to_.2.2) ∧ w'.cell? ⟨w.heap.size, 8, none⟩ = some (.slice (some ⟨gm, 0, none⟩) p.mets.length cm) ∧ w'.cell? ⟨w.heap.size, 9, none⟩ = some (.slice Af p.fees.length cf) ∧ w'.cell? ⟨w.heap.size, 10, none⟩ = some (.slice (some ⟨g0, 0, none⟩) cs.length cc) ∧ w'.cell? ⟨w.heap.size, 11, none⟩ = some (.int .i64 p.line) ∧ w'.cell? ⟨w.heap.size, 12, none⟩ = some (.int .i64 p.col) ∧ w'.cell? ⟨gm, j * 5 + 2, none⟩ = some (.int .i64 mm.max))
              (refine ⟨?_, ?_, ?_, ?_, ?_, ?_, ?_, ?_, ?_, ?_, ?_, ?_, ?_, ?_, ?_, ?_, ?_, ?_, ?_, ?_, ?_, ?_, ?_, ?_, ?_, ?_, ?_, ?_, ?_, ?_⟩ <;> first | with_reducible assumption | (go_keep; done))
              ((go_at_call 43; (refine hMo.out.mono ?_); rintro e' w5 ⟨rfl, hb5⟩; (have kp5 := kp3.call hb5); (have kc5 := kc3.call hb5); (have hW5 := hW2d.below hb5); (have yy2 := (hb5.cell (p := ⟨gm, j * 5 + 2, none⟩) lgm).trans m2); obtain ⟨y0, y1, y2, y3, y4, y5, y6, y7, y8, y9, y10, y11, y12, y13, y14, y15, _, _, _, _, _, _, _, _, _, _, _, _, _, _, _, _⟩ := kc5.c16; obtain ⟨b0, b1, b2, b3, b4, b5, b6, b7, b8, b9, b10, b11, b12, _, _, _, _, _, _, _, _, _, _, _, _, _⟩ := kp5.c13))
            all_goals cases O with
            | none =>
              have hres := hbn.out rfl
              go_wp2_with fail
              go_ret2
              exact ⟨by first | rfl | (rw [hres]; rfl), hW5.lb.out⟩
            | some v =>
              obtain ⟨v0, v1⟩ := hbd.out v rfl
              have hLn2 : Hid ((L ++ [v]).map some = partL p (k + 1)) := Lib.hid (by rw [hnx.out, List.map_append, hL.out]; rfl)
              have hLo2 := Lib.hid (listOk_add hLo.out v0 v1)
              have hWb := hW5.alloc (.cells #[.int .i64 v] 3)
              have hkb := Blk.new w5 3 #[.int .i64 v]
              clear hL hLo hbn hnx hbd hMo y0 y1 y2 y3 y4 y5 y6 y7 y8 y9 y10 y11 y12 y13 y14 y15 b0 b1 b2 b3 b4 b5 b6 b7 b8 b9 b10 b11 b12 z0 z1 z2 z3 z4 z5 z6 z7 z8 z9 z10 z11 z12 z13 z14 z15 a0 a1 a2 a3 a4 a5 a6 a7 a8 a9 a10 a11 a12
              go_wp2_with (at_builtin; refine wpList_append_lies _ rfl (.tmp 54) (.tmp 56) 89 rfl w.heap.size 3 iS _ 1 8 Try.underlying89 hS0 hS1 hS2 hS3 (by rfl) (by decide) _ _ _ (by rfl) hWb.out ⟨w5.heap.size, 0, none⟩ 1 1 [.int .i64 v] (by rfl) (by rfl) (World.news_of_block (cs := #[.int .i64 v]) (t := 3) (fr := (0, 0)) hkb) (by simp [Value.oneCell']) (by decide) (by unfold maxLen; omega) (by omega) hWb.lb.out.size _ rfl ?_; intro g cp w10 hown10 hgrow10 hat10 hlt10; (have hW10 := hWb.add (l' := [v]) hgrow10 hown10 rfl rfl))
              go_roundw
              case rel => exact ⟨k + 1, L ++ [v], by omega, by go_num, by simp; omega, hLn2, hLo2, hW10⟩
              case measure => simp [intOf]; omega
        · obtain rfl : k = cs.length := by omega
          have hsum : boundO p = (L.map some).foldl addO (some 0) := by
            unfold boundO; rw [hL.out, hcq.out, partL_end]
          replace hsum := Lib.hid hsum
          have hout := hW.out
          obtain ⟨A, cp, rfl, hl1, hl2, hl3⟩ := Lies.open (f := intF) (l := L) (Lies.of hout)
          unfold maxLen at hl2
          clear hL hlt hk
          go_wp2_with fail
          generalize wr = wz at *
          go_loopw [4, 61] (fun v4 v61 wr => ∃ (k : Nat) (n : Int), k ≤ L.length ∧ v61 = .int .i64 k ∧ v4 = .int .i64 n ∧ 0 ≤ n ∧ n < 1152921504606846976 ∧ Hid (((L.take k).map some).foldl addO (some 0) = some n) ∧ Below wz.heap.size wz wr) (fun _ v61 _ => L.length - (intOf v61).toNat)
          case atStart => exact ⟨0, 0, by omega, rfl, rfl, by omega, by omega, Lib.hid rfl, bl_refl wz⟩
          case round =>
            obtain ⟨k, n, hk, rfl, rfl, hn0, hn1, hf, hbx⟩ := hrel
            have hoy := own_keep hout fun g hg => hbx.block g (hout.lt g hg).2
            have hbw := bl_call hW.lb.out hbx
            by_cases hlt : k < L.length
            · obtain ⟨gl, rfl, hgl⟩ := hl3 (by omega)
              obtain ⟨x, hx⟩ : ∃ x, L[k]? = some x := ⟨L[k], List.getElem?_eq_getElem hlt⟩
              obtain ⟨x0, x1⟩ := hLo.out x (List.mem_of_getElem? hx)
              have r0 : wr.cell? ⟨gl, k * 1, none⟩ = some (.int .i64 x) := Lies.at (f := intF) (l := L) (Lies.of hoy) intF_len (i := k) hx (j := 0) rfl
              rw [Nat.mul_one] at r0
              have hnx := sum_next hx (some 0)
              rw [hf.out, addO_some] at hnx
              have gg0 : (0 : Int) ≤ (k : Int) := by omega
              have gg1 : (k : Int) < (L.length : Int) := by omega
              have gg2 : (k : Int) < (cp : Int) := by omega
              have hwn : IntKind.i64.wrap (n + x) = n + x := by rw [IntKind.wrap_i64]; omega
              have hnx1 : ¬ 1152921504606846976 ≤ x := by omega
              clear hf
              by_cases hc : n + x < 1152921504606846976
              · rw [if_pos hc] at hnx
                have hnx2 := Lib.hid hnx
                clear hnx hx
                go_wp2_with fail
                go_roundw
                case rel => exact ⟨k + 1, n + x, by omega, by go_num, rfl, by omega, hc, hnx2, hbx⟩
                case measure => simp [intOf]; omega
              · rw [if_neg hc] at hnx
                have hres : boundO p = none := by rw [hsum.out]; exact sum_cut hnx
                have hc' : 1152921504606846976 ≤ n + x := by omega
                clear hnx hx
                go_wp2_with fail
                go_ret2
                exact ⟨by first | rfl | (rw [hres]; rfl), hbw⟩
            · obtain rfl : k = L.length := by omega
              have hres : boundO p = some n := by rw [hsum.out]; have := hf.out; rwa [List.take_length] at this
              go_wp2_with fail
              go_ret2
              exact ⟨by first | rfl | (rw [hres]; rfl), hbw⟩
end Go.Proofs.Ytcgkfgklggjmaaa.Par
end
