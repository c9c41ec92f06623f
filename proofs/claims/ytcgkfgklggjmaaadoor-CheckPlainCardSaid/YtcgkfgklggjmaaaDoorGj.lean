import Derived.Test.YtcgkfgklggjmaaaDoorGi
section
namespace Go.Proofs.YtcgkfgklggjmaaaDoor.Par
set_option linter.unusedVariables false
set_option linter.unusedSimpArgs false
open Go.RowKit
def adjP1 (a : Adj) (s : Int × Bool) : Int × Bool := ((adjStep a s.1).1, s.2 && (adjStep a s.1).2 && decide ((adjStep a s.1).1 < 1152921504606846976))
theorem adjP_snoc (a : Adj) : ∀ (l : List Adj) (s : Int × Bool), adjP (l ++ [a]) s = adjP1 a (adjP l s)
  | [], s => rfl
  | x :: l, s => by
    rw [List.cons_append]
    unfold adjP
    exact adjP_snoc a l _
theorem adjP_take {l : List Adj} {k : Nat} {a : Adj} (h : l[k]? = some a) (s : Int × Bool) : adjP (l.take (k + 1)) s = adjP1 a (adjP (l.take k) s) := by
  rw [List.take_add_one, h]
  exact adjP_snoc a _ s
theorem rate_take {l : List Tier} {k : Nat} {t : Tier} (h : l[k]? = some t) : rateM (l.take (k + 1)) = max (rateM (l.take k)) t.rate := by
  unfold rateM
  rw [List.take_add_one, h]
  simp
theorem rate_le {M : Int} : ∀ {l : List Tier} {r : Int}, r ≤ M → (∀ t ∈ l, t.rate ≤ M) → l.foldl (fun r t => max r t.rate) r ≤ M
  | [], r, h, _ => h
  | t :: l, r, h, ht => by
    rw [List.foldl_cons]
    have := ht t List.mem_cons_self
    exact rate_le (by omega) fun x hx => ht x (List.mem_cons_of_mem _ hx)
theorem upB_lt {P c : Int} : (upB P c).1 < 9223372036854775808 := by
  unfold upB
  split
  · assumption
  · decide
theorem step_lt {a : Adj} {n : Int} (h : AOk a) (hn : n < 9223372036854775808) : (adjStep a n).1 < 9223372036854775808 := by
  have han : a.n < 9223372036854775808 := by rcases h with ⟨_, h, _⟩ | ⟨_, h, _⟩ <;> omega
  unfold adjStep
  split
  · exact upB_lt
  split
  · dsimp only; omega
  split
  · dsimp only; omega
  split
  · split
    · assumption
    · decide
  · exact hn
theorem adjO_small : ∀ {l : List Adj} {n m : Int}, adjO l n = some m → n < 1152921504606846976 → m < 1152921504606846976
  | [], n, m, h, hn => by simp [adjO] at h; omega
  | a :: l, n, m, h, hn => by
    unfold adjO at h
    split at h
    · rename_i hh; exact adjO_small h hh.2
    · cases h
/-- what a charge's numbers are -/
structure CNum (c : Chg) (mx : Int) : Prop where
  mx : 0 ≤ mx ∧ mx ≤ 2000
  allow : 0 ≤ c.allow ∧ c.allow ≤ 1000000
  block : 1 ≤ c.block ∧ c.block ≤ 1000000
  tiers : ∀ t ∈ c.tiers, 0 ≤ t.rate ∧ t.rate ≤ 1000000000000
  adjs : ∀ a ∈ c.adjs, AOk a
theorem CNum.qty {c : Chg} {mx : Int} (h : CNum c mx) : 0 ≤ qtyM c mx ∧ qtyM c mx ≤ 1002000 := by
  have h1 := cdiv_le (a := max (mx - c.allow) 0) (c := c.block) (by have := h.block; omega) (by omega)
  have := h.mx; have := h.allow; have := h.block
  unfold qtyM
  refine ⟨Int.mul_nonneg h1.1 (by omega), by omega⟩
theorem CNum.rate {c : Chg} {mx : Int} (h : CNum c mx) : 0 ≤ rateM c.tiers ∧ rateM c.tiers ≤ 1000000000000 :=
  ⟨rate_ge c.tiers 0, rate_le (by decide) fun t ht => (h.tiers t ht).2⟩
theorem CNum.prod {c : Chg} {mx : Int} (h : CNum c mx) : 0 ≤ rateM c.tiers * qtyM c mx ∧ rateM c.tiers * qtyM c mx ≤ 1002000000000000000 := by
  obtain ⟨q0, q1⟩ := h.qty
  obtain ⟨r0, r1⟩ := h.rate
  refine ⟨Int.mul_nonneg r0 q0, ?_⟩
  have := Int.mul_le_mul r1 q1 q0 (by omega : (0 : Int) ≤ 1000000000000)
  omega
theorem CNum.start {c : Chg} {mx : Int} (h : CNum c mx) : upB (rateM c.tiers * qtyM c mx) 1000000 = (startM c mx, true) ∧ 0 ≤ startM c mx ∧ startM c mx ≤ 1002000000001 := by
  obtain ⟨p0, p1⟩ := h.prod
  obtain ⟨c0, c1, c2⟩ := cdiv_le (a := rateM c.tiers * qtyM c mx) (c := 1000000) (by decide) p0
  have : startM c mx ≤ 1002000000001 := by unfold startM; omega
  refine ⟨?_, c0, this⟩
  unfold upB
  rw [if_pos (by unfold startM at this; omega)]
  rfl
set_option maxHeartbeats 16000000 in
set_option maxRecDepth 100000 in
theorem pmost_any (c : Chg) (At Aa : Option Addr) (ct ca : Nat) (mx : Int) (w : World) {B : Nat} (hT : TiersLie B w (.slice At c.tiers.length ct) c.tiers) (hA : AdjsLie B w (.slice Aa c.adjs.length ca) c.adjs) (hN : CNum c mx) :
    Calls Tryd.prog 33 #[.agg #[.string c.meter, .bool c.win.has, .int .i64 c.win.from_.1, .int .i64 c.win.from_.2.1, .int .i64 c.win.from_.2.2, .int .i64 c.win.to_.1, .int .i64 c.win.to_.2.1, .int .i64 c.win.to_.2.2, .int .i64 c.allow, .int .i64 c.block, .int .i64 c.kind, .slice At c.tiers.length ct, .int .i64 c.mode, .slice Aa c.adjs.length ca, .int .i64 c.line, .int .i64 c.col], .int .i64 mx] w fun e w' => ∃ n', e = .returned (.tuple #[.int .i64 n', .bool (mostO c mx).isSome]) ∧ (∀ m, mostO c mx = some m → n' = m) ∧ 0 ≤ n' ∧ n' < 9223372036854775808 ∧ Below w.heap.size w w' := by
  obtain ⟨hst, hs0, hs1⟩ := hN.start
  obtain ⟨q0, q1⟩ := hN.qty
  obtain ⟨r0, r1⟩ := hN.rate
  obtain ⟨p0, p1⟩ := hN.prod
  obtain ⟨n1, n2⟩ := adjP_true c.adjs (startM c mx)
  have hrt : ∀ t ∈ c.tiers, 0 ≤ t.rate ∧ t.rate ≤ 1000000000000 := hN.tiers
  have haj : ∀ a ∈ c.adjs, AOk a := hN.adjs
  obtain ⟨m0, m1⟩ := hN.mx
  obtain ⟨l0, l1⟩ := hN.allow
  obtain ⟨k0, k1⟩ := hN.block
  have hsm := fun m (h : mostO c mx = some m) => adjO_small h (by omega)
  have hUp := fun W => rup_any (max (mx - c.allow) 0) c.block W (by omega) (by omega) (by omega) (by omega)
  have hMD := fun W => rmuldiv_any (rateM c.tiers) (qtyM c mx) 1000000 W r0 (by omega) q0 (by omega) (by decide) (by decide) (.inl (by omega))
  rw [hst] at hMD
  have eq1 : cdiv (max (mx - c.allow) 0) c.block * c.block = qtyM c mx := rfl
  rw [eq1] at hUp
  have eM : adjO c.adjs (startM c mx) = mostO c mx := rfl
  rw [eM] at n1 n2
  generalize mostO c mx = O at *
  generalize startM c mx = st at *
  generalize qtyM c mx = qt at *
  clear eq1 hst p0 p1 eM hN
  replace hUp := Lib.hid hUp
  replace hMD := Lib.hid hMD
  replace n1 := Lib.hid n1
  replace n2 := Lib.hid n2
  replace hsm := Lib.hid hsm
  have kc0 := Blk.new w 52 #[.string c.meter, .bool c.win.has, .int .i64 c.win.from_.1, .int .i64 c.win.from_.2.1, .int .i64 c.win.from_.2.2, .int .i64 c.win.to_.1, .int .i64 c.win.to_.2.1, .int .i64 c.win.to_.2.2, .int .i64 c.allow, .int .i64 c.block, .int .i64 c.kind, .slice At c.tiers.length ct, .int .i64 c.mode, .slice Aa c.adjs.length ca, .int .i64 c.line, .int .i64 c.col]
  have b0 := bl_alloc (bl_refl w) (.cells #[.string c.meter, .bool c.win.has, .int .i64 c.win.from_.1, .int .i64 c.win.from_.2.1, .int .i64 c.win.from_.2.2, .int .i64 c.win.to_.1, .int .i64 c.win.to_.2.1, .int .i64 c.win.to_.2.2, .int .i64 c.allow, .int .i64 c.block, .int .i64 c.kind, .slice At c.tiers.length ct, .int .i64 c.mode, .slice Aa c.adjs.length ca, .int .i64 c.line, .int .i64 c.col] 52)
  have hT0 : (w.alloc (.cells #[.string c.meter, .bool c.win.has, .int .i64 c.win.from_.1, .int .i64 c.win.from_.2.1, .int .i64 c.win.from_.2.2, .int .i64 c.win.to_.1, .int .i64 c.win.to_.2.1, .int .i64 c.win.to_.2.2, .int .i64 c.allow, .int .i64 c.block, .int .i64 c.kind, .slice At c.tiers.length ct, .int .i64 c.mode, .slice Aa c.adjs.length ca, .int .i64 c.line, .int .i64 c.col] 52)).ownsRow B 119 2 (.slice At c.tiers.length ct) c.tiers.length (c.tiers.flatMap tierF) := own_keep hT fun g hg => b0.block g (World.ownsRow.lt hT g hg).2
  have hA0 : (w.alloc (.cells #[.string c.meter, .bool c.win.has, .int .i64 c.win.from_.1, .int .i64 c.win.from_.2.1, .int .i64 c.win.from_.2.2, .int .i64 c.win.to_.1, .int .i64 c.win.to_.2.1, .int .i64 c.win.to_.2.2, .int .i64 c.allow, .int .i64 c.block, .int .i64 c.kind, .slice At c.tiers.length ct, .int .i64 c.mode, .slice Aa c.adjs.length ca, .int .i64 c.line, .int .i64 c.col] 52)).ownsRow B 121 3 (.slice Aa c.adjs.length ca) c.adjs.length (c.adjs.flatMap adjF) := own_keep hA fun g hg => b0.block g (World.ownsRow.lt hA g hg).2
  have hw1 : IntKind.i64.wrap (mx - c.allow) = mx - c.allow := by rw [IntKind.wrap_i64]; omega
  obtain ⟨_, _, he, ht1, ht2, ht3⟩ := Lies.open (f := tierF) (l := c.tiers) (Lies.of hT0)
  injection he with he1 he2 he3
  subst he1 he3
  obtain ⟨_, _, he, ha1, ha2, ha3⟩ := Lies.open (f := adjF) (l := c.adjs) (Lies.of hA0)
  injection he with he1 he2 he3
  subst he1 he3
  unfold maxLen at ht2 ha2
  obtain ⟨e0, e1, e2, e3, e4, e5, e6, e7, e8, e9, e10, e11, e12, e13, e14, e15, _, _, _, _, _, _, _, _, _, _, _, _, _, _, _, _⟩ := kc0.c16
  go_enter Tryd.func33, Tryd.ntmps33
  go_wp2_with fail
  refine (hUp.out _).mono ?_
  rintro e w1 ⟨rfl, hb1⟩
  have kc1 := kc0.call hb1
  have b1 := bl_call b0 hb1
  have hT1 := own_keep hT0 fun g hg => hb1.block g (hT0.lt g hg).2
  have hA1 := own_keep hA0 fun g hg => hb1.block g (hA0.lt g hg).2
  clear e0 e1 e2 e3 e4 e5 e6 e7 e8 e9 e10 e11 e12 e13 e14 e15
  obtain ⟨e0, e1, e2, e3, e4, e5, e6, e7, e8, e9, e10, e11, e12, e13, e14, e15, _, _, _, _, _, _, _, _, _, _, _, _, _, _, _, _⟩ := kc1.c16
  go_wp2_with fail
  go_loopw [8, 30] (fun v8 v30 wr => ∃ k : Nat, k ≤ c.tiers.length ∧ v30 = .int .i64 k ∧ v8 = .int .i64 (rateM (c.tiers.take k)) ∧ Below w.heap.size w wr ∧ Below w1.heap.size w1 wr) (fun _ v30 _ => c.tiers.length - (intOf v30).toNat)
  case atStart => exact ⟨0, by omega, rfl, rfl, b1, bl_refl w1⟩
  case round =>
    obtain ⟨k, hk, rfl, rfl, hbw, hb1r⟩ := hrel
    have hTr := own_keep hT1 fun g hg => hb1r.block g (hT1.lt g hg).2
    have kcr := kc1.call hb1r
    clear e0 e1 e2 e3 e4 e5 e6 e7 e8 e9 e10 e11 e12 e13 e14 e15
    obtain ⟨e0, e1, e2, e3, e4, e5, e6, e7, e8, e9, e10, e11, e12, e13, e14, e15, _, _, _, _, _, _, _, _, _, _, _, _, _, _, _, _⟩ := kcr.c16
    by_cases hlt : k < c.tiers.length
    · obtain ⟨g0, rfl, hg0⟩ := ht3 (by omega)
      obtain ⟨m, hm⟩ : ∃ m, c.tiers[k]? = some m := ⟨c.tiers[k], List.getElem?_eq_getElem hlt⟩
      have r0 : (wr).cell? ⟨g0, k * 2, none⟩ = some (.int .i64 m.upto) := Lies.at (f := tierF) (l := c.tiers) (Lies.of hTr) (fun _ => rfl) (i := k) hm (j := 0) rfl
      have r1 : (wr).cell? ⟨g0, k * 2 + 1, none⟩ = some (.int .i64 m.rate) := Lies.at (f := tierF) (l := c.tiers) (Lies.of hTr) (fun _ => rfl) (i := k) hm (j := 1) rfl
      have gg0 : (0 : Int) ≤ (k : Int) := by omega
      have gg1 : (k : Int) < (c.tiers.length : Int) := by omega
      have gg2 : (k : Int) < (ct : Int) := by have := ht1; omega
      have hrk := Lib.hid (rate_take hm)
      have kt := Blk.new wr 119 #[.int .i64 m.upto, .int .i64 m.rate]
      have hbw1 := bl_alloc hbw (.cells #[.int .i64 m.upto, .int .i64 m.rate] 119)
      have hbw2 := bl_alloc hb1r (.cells #[.int .i64 m.upto, .int .i64 m.rate] 119)
      obtain ⟨z0, z1, _, _⟩ := kt.c2
      generalize rateM (c.tiers.take k) = R at *
      go_wp2_with fail
      go_roundw
      case rel => exact ⟨k + 1, by omega, by go_num, by rw [hrk.out], hbw1, hbw2⟩
      case measure => simp [intOf]; omega
    · obtain rfl : k = c.tiers.length := by omega
      have eT : rateM (c.tiers.take c.tiers.length) = rateM c.tiers := by rw [List.take_length]
      rw [eT]
      go_wp2_with fail
      refine (hMD.out _).mono ?_
      rintro e w2 ⟨rfl, hb2⟩
      have kc2 := kcr.call hb2
      have bb2 := bl_call hbw hb2
      have hA2 := own_keep hA1 fun g hg => (bl_call hb1r hb2).block g (hA1.lt g hg).2
      clear e0 e1 e2 e3 e4 e5 e6 e7 e8 e9 e10 e11 e12 e13 e14 e15
      obtain ⟨e0, e1, e2, e3, e4, e5, e6, e7, e8, e9, e10, e11, e12, e13, e14, e15, _, _, _, _, _, _, _, _, _, _, _, _, _, _, _, _⟩ := kc2.c16
      go_wp2_with fail
      clear e0 e1 e2 e3 e4 e5 e6 e7 e8 e9 e10 e11 e12 e13 e14 e15
      go_loopw [11, 7, 52] (fun v11 v7 v52 wr => ∃ (k : Nat) (N : Int) (ok : Bool), k ≤ c.adjs.length ∧ v52 = .int .i64 k ∧ v11 = .int .i64 N ∧ v7 = .bool ok ∧ adjP (c.adjs.take k) (st, true) = (N, ok) ∧ 0 ≤ N ∧ N < 9223372036854775808 ∧ Below w.heap.size w wr ∧ Below w2.heap.size w2 wr) (fun _ _ v52 _ => c.adjs.length - (intOf v52).toNat)
      case atStart => exact ⟨0, st, true, by omega, rfl, rfl, rfl, rfl, hs0, by omega, bb2, bl_refl w2⟩
      case round =>
        clear hk hlt hTr r0 r1
        obtain ⟨k, N, ok, hk, rfl, rfl, rfl, hadj, hN0, hN1, hbwx, hb2r⟩ := hrel
        have hAr := own_keep hA2 fun g hg => hb2r.block g (hA2.lt g hg).2
        have kcx := kc2.call hb2r
        have hadj' := Lib.hid hadj
        clear hadj
        by_cases hlt : k < c.adjs.length
        · obtain ⟨g0, rfl, hg0⟩ := ha3 (by omega)
          obtain ⟨m, hm⟩ : ∃ m, c.adjs[k]? = some m := ⟨c.adjs[k], List.getElem?_eq_getElem hlt⟩
          have r0 : (wr).cell? ⟨g0, k * 3, none⟩ = some (.int .i64 m.kind) := Lies.at (f := adjF) (l := c.adjs) (Lies.of hAr) (fun _ => rfl) (i := k) hm (j := 0) rfl
          have r1 : (wr).cell? ⟨g0, k * 3 + 1, none⟩ = some (.int .i64 m.n) := Lies.at (f := adjF) (l := c.adjs) (Lies.of hAr) (fun _ => rfl) (i := k) hm (j := 1) rfl
          have r2 : (wr).cell? ⟨g0, k * 3 + 2, none⟩ = some (.int .i64 m.mode) := Lies.at (f := adjF) (l := c.adjs) (Lies.of hAr) (fun _ => rfl) (i := k) hm (j := 2) rfl
          have gg0 : (0 : Int) ≤ (k : Int) := by omega
          have gg1 : (k : Int) < (c.adjs.length : Int) := by omega
          have gg2 : (k : Int) < (ca : Int) := by have := ha1; omega
          have hak := haj m (List.mem_of_getElem? hm)
          have hx0 := step_ge hak hN0
          have hx1 := step_lt hak hN1
          have hnx := adjP_take hm (st, true)
          rw [hadj'.out] at hnx
          unfold adjP1 at hnx
          have kt := Blk.new wr 121 #[.int .i64 m.kind, .int .i64 m.n, .int .i64 m.mode]
          have hbw1 := bl_alloc hbwx (.cells #[.int .i64 m.kind, .int .i64 m.n, .int .i64 m.mode] 121)
          have hbw2 := bl_alloc hb2r (.cells #[.int .i64 m.kind, .int .i64 m.n, .int .i64 m.mode] 121)
          obtain ⟨z0, z1, z2, _, _, _⟩ := kt.c3
          clear hm
          rcases hak with ⟨hk1, hn, hmd⟩ | ⟨hk1, hn, hmd⟩ <;> clear hmd
          · have ea : adjStep m N = upB (N * m.n) 100000 := by unfold adjStep; rw [if_pos hk1]
            have hC := fun W => rmuldiv_any N m.n 100000 W hN0 hN1 (by omega) (by omega) (by decide) (by decide) (.inr rfl)
            rw [← ea] at hC
            obtain ⟨x, hx⟩ : ∃ x, (adjStep m N).1 = x := ⟨_, rfl⟩
            obtain ⟨y, hy⟩ : ∃ x, (adjStep m N).2 = x := ⟨_, rfl⟩
            rw [hx, hy] at hC hnx
            rw [hx] at hx0 hx1
            replace hnx := Lib.hid hnx
            replace hC := Lib.hid hC
            clear ea hx hy
            have f1 : (m.kind == 1) = true := by rw [hk1]; rfl
            have f2 : (m.kind == 2) = false := by rw [hk1]; rfl
            have f3 : (m.kind == 3) = false := by rw [hk1]; rfl
            have f4 : (m.kind == 4) = false := by rw [hk1]; rfl
            clear hk1
            go_wp2_with fail
            refine (hC.out _).mono ?_
            rintro e w3 ⟨rfl, hb3⟩
            have kt3 := kt.call hb3
            clear z0 z1 z2
            obtain ⟨z0, z1, z2, _, _, _⟩ := kt3.c3
            replace hbw1 := bl_call hbw1 hb3
            replace hbw2 := bl_call hbw2 hb3
            cases ok with
            | false =>
              go_wp2_with fail
              go_roundw
              case rel => exact ⟨k + 1, x, false, by omega, by go_num, rfl, rfl, by rw [hnx.out]; simp, hx0, hx1, hbw1, hbw2⟩
              case measure => simp [intOf]; omega
            | true =>
              cases y with
              | false =>
                go_wp2_with fail
                go_roundw
                case rel => exact ⟨k + 1, x, false, by omega, by go_num, rfl, rfl, by rw [hnx.out]; simp, hx0, hx1, hbw1, hbw2⟩
                case measure => simp [intOf]; omega
              | true =>
                by_cases hc : x < 1152921504606846976
                · go_wp2_with fail
                  go_roundw
                  case rel => exact ⟨k + 1, x, true, by omega, by go_num, rfl, rfl, by rw [hnx.out]; simp [hc], hx0, hx1, hbw1, hbw2⟩
                  case measure => simp [intOf]; omega
                · go_wp2_with fail
                  go_roundw
                  case rel => exact ⟨k + 1, x, false, by omega, by go_num, rfl, by first | rfl | exact congrArg Value.bool (decide_eq_false (by omega)), by rw [hnx.out]; simp [hc], hx0, hx1, hbw1, hbw2⟩
                  case measure => simp [intOf]; omega
          · rcases hk1 with hk1 | hk1 | hk1
            · have ea : adjStep m N = (min N m.n, true) := by unfold adjStep; rw [if_neg (by omega), if_pos hk1]
              rw [ea] at hnx hx0 hx1
              obtain ⟨x, hx⟩ : ∃ x, min N m.n = x := ⟨_, rfl⟩
              dsimp only at hnx hx0 hx1
              rw [hx] at hnx hx0 hx1
              replace hnx := Lib.hid hnx
              clear ea
              have f1 : (m.kind == 1) = false := by rw [hk1]; rfl
              have f2 : (m.kind == 2) = true := by rw [hk1]; rfl
              have f3 : (m.kind == 3) = false := by rw [hk1]; rfl
              have f4 : (m.kind == 4) = false := by rw [hk1]; rfl
              clear hk1
              cases ok with
              | false =>
                go_wp2_with fail
                go_roundw
                case rel => exact ⟨k + 1, x, false, by omega, by go_num, rfl, rfl, by rw [hnx.out]; simp, hx0, hx1, hbw1, hbw2⟩
                case measure => simp [intOf]; omega
              | true =>
                by_cases hc : x < 1152921504606846976
                · go_wp2_with fail
                  go_roundw
                  case rel => exact ⟨k + 1, x, true, by omega, by go_num, rfl, rfl, by rw [hnx.out]; simp [hc], hx0, hx1, hbw1, hbw2⟩
                  case measure => simp [intOf]; omega
                · exfalso; omega
            · have ea : adjStep m N = (max N m.n, true) := by unfold adjStep; rw [if_neg (by omega), if_neg (by omega), if_pos hk1]
              rw [ea] at hnx hx0 hx1
              obtain ⟨x, hx⟩ : ∃ x, max N m.n = x := ⟨_, rfl⟩
              dsimp only at hnx hx0 hx1
              rw [hx] at hnx hx0 hx1
              replace hnx := Lib.hid hnx
              clear ea
              have f1 : (m.kind == 1) = false := by rw [hk1]; rfl
              have f2 : (m.kind == 2) = false := by rw [hk1]; rfl
              have f3 : (m.kind == 3) = true := by rw [hk1]; rfl
              have f4 : (m.kind == 4) = false := by rw [hk1]; rfl
              clear hk1
              cases ok with
              | false =>
                go_wp2_with fail
                go_roundw
                case rel => exact ⟨k + 1, x, false, by omega, by go_num, rfl, rfl, by rw [hnx.out]; simp, hx0, hx1, hbw1, hbw2⟩
                case measure => simp [intOf]; omega
              | true =>
                by_cases hc : x < 1152921504606846976
                · go_wp2_with fail
                  go_roundw
                  case rel => exact ⟨k + 1, x, true, by omega, by go_num, rfl, rfl, by rw [hnx.out]; simp [hc], hx0, hx1, hbw1, hbw2⟩
                  case measure => simp [intOf]; omega
                · go_wp2_with fail
                  go_roundw
                  case rel => exact ⟨k + 1, x, false, by omega, by go_num, rfl, by first | rfl | exact congrArg Value.bool (decide_eq_false (by omega)), by rw [hnx.out]; simp [hc], hx0, hx1, hbw1, hbw2⟩
                  case measure => simp [intOf]; omega
            · by_cases hs : N + m.n < 9223372036854775808
              · have ea : adjStep m N = (N + m.n, true) := by unfold adjStep; rw [if_neg (by omega), if_neg (by omega), if_neg (by omega), if_pos hk1, if_pos hs]
                have hC := fun W => eadd_yes N m.n W hN0 (by omega) hs
                rw [ea] at hnx hx0 hx1
                dsimp only at hnx hx0 hx1
                generalize N + m.n = x at *
                replace hnx := Lib.hid hnx
                replace hC := Lib.hid hC
                clear ea
                have f1 : (m.kind == 1) = false := by rw [hk1]; rfl
                have f2 : (m.kind == 2) = false := by rw [hk1]; rfl
                have f3 : (m.kind == 3) = false := by rw [hk1]; rfl
                have f4 : (m.kind == 4) = true := by rw [hk1]; rfl
                clear hk1
                go_wp2_with fail
                refine (hC.out _).mono ?_
                rintro e w3 ⟨rfl, rfl⟩
                cases ok with
                | false =>
                  go_wp2_with fail
                  go_roundw
                  case rel => exact ⟨k + 1, x, false, by omega, by go_num, rfl, rfl, by rw [hnx.out]; simp, hx0, hx1, hbw1, hbw2⟩
                  case measure => simp [intOf]; omega
                | true =>
                  by_cases hc : x < 1152921504606846976
                  · go_wp2_with fail
                    go_roundw
                    case rel => exact ⟨k + 1, x, true, by omega, by go_num, rfl, rfl, by rw [hnx.out]; simp [hc], hx0, hx1, hbw1, hbw2⟩
                    case measure => simp [intOf]; omega
                  · go_wp2_with fail
                    go_roundw
                    case rel => exact ⟨k + 1, x, false, by omega, by go_num, rfl, by first | rfl | exact congrArg Value.bool (decide_eq_false (by omega)), by rw [hnx.out]; simp [hc], hx0, hx1, hbw1, hbw2⟩
                    case measure => simp [intOf]; omega
              · have ea : adjStep m N = (0, false) := by unfold adjStep; rw [if_neg (by omega), if_neg (by omega), if_neg (by omega), if_pos hk1, if_neg hs]
                have hC := fun W => eadd_no N m.n W hN0 hN1 (by omega) (by omega) hs
                rw [ea] at hnx hx0 hx1
                dsimp only at hnx hx0 hx1
                replace hnx := Lib.hid hnx
                replace hC := Lib.hid hC
                clear ea hs
                have f1 : (m.kind == 1) = false := by rw [hk1]; rfl
                have f2 : (m.kind == 2) = false := by rw [hk1]; rfl
                have f3 : (m.kind == 3) = false := by rw [hk1]; rfl
                have f4 : (m.kind == 4) = true := by rw [hk1]; rfl
                clear hk1
                go_wp2_with fail
                refine (hC.out _).mono ?_
                rintro e w3 ⟨rfl, rfl⟩
                cases ok with
                | false =>
                  go_wp2_with fail
                  go_roundw
                  case rel => exact ⟨k + 1, 0, false, by omega, by go_num, rfl, rfl, by rw [hnx.out]; simp, hx0, hx1, hbw1, hbw2⟩
                  case measure => simp [intOf]; omega
                | true =>
                  go_wp2_with fail
                  go_roundw
                  case rel => exact ⟨k + 1, 0, false, by omega, by go_num, rfl, rfl, by rw [hnx.out]; simp, hx0, hx1, hbw1, hbw2⟩
                  case measure => simp [intOf]; omega
        · obtain rfl : k = c.adjs.length := by omega
          rw [List.take_length] at hadj'
          by_cases hO : O = none
          · have h1 := n1.out hO
            rw [hadj'.out] at h1
            obtain rfl : ok = false := h1
            subst hO
            go_wp2_with fail
            go_ret2
            first | exact ⟨N, rfl, fun m hm => (by cases hm), hN0, hN1, hbwx⟩ | exact ⟨N, rfl, hN0, hN1, hbwx⟩
          · obtain ⟨m, rfl⟩ : ∃ m, O = some m := by cases O with | none => exact absurd rfl hO | some m => exact ⟨m, rfl⟩
            have h2 := n2.out m rfl
            rw [hadj'.out] at h2
            injection h2 with h2 h3
            subst h2 h3
            have h4 := hsm.out N rfl
            go_wp2_with fail
            go_ret2
            exact ⟨N, by rfl, fun m hm => (by injection hm), hN0, hN1, hbwx⟩
end Go.Proofs.YtcgkfgklggjmaaaDoor.Par
end
section
namespace Go.Proofs.YtcgkfgklggjmaaaDoor.Par
set_option linter.unusedVariables false
set_option linter.unusedSimpArgs false
open Go.RowKit
/-- what a sum is, as it lies in memory -/
def SumSt (s : Option Int) (T : Int) (O : Bool) : Prop := O = s.isSome ∧ (∀ v, s = some v → T = v) ∧ 0 ≤ T ∧ T < 1152921504606846976
/-- all but two blocks stands -/
structure Fr2 (a b : Nat) (w w' : World) : Prop where
  os : w'.os = w.os
  tape : w'.tape = w.tape
  output : w'.output = w.output
  size : w'.heap.size = w.heap.size
  block : ∀ g, g ≠ a → g ≠ b → w'.heap[g]? = w.heap[g]?
theorem Fr2.below {a b : Nat} {w0 w w' : World} (h : Fr2 a b w w') (hb : Below w0.heap.size w0 w) (ha : w0.heap.size ≤ a) (hb' : w0.heap.size ≤ b) : Below w0.heap.size w0 w' :=
  ⟨h.os.trans hb.os, h.tape.trans hb.tape, h.output.trans hb.output, by rw [h.size]; exact hb.size, fun g hg => (h.block g (by omega) (by omega)).trans (hb.block g hg)⟩
theorem Fr2.blk {a b g : Nat} {w w' : World} {t : TypeId} {cs : Array Value} (h : Fr2 a b w w') (k : Blk w g t cs) (ha : g ≠ a) (hb : g ≠ b) : Blk w' g t cs := (h.block g ha hb).trans k
theorem sum_add {s x : Option Int} {T n : Int} {O f : Bool} (h : SumSt s T O) (hf : f = x.isSome) (hx : ∀ v, x = some v → n = v) (hn : 0 ≤ n) :
    (O = false ∨ f = false ∨ 1152921504606846976 ≤ T + n → addO s x = none) ∧ (O = true → f = true → T + n < 1152921504606846976 → addO s x = some (T + n)) := by
  obtain ⟨h1, h2, h3, h4⟩ := h
  cases s with
  | none =>
    refine ⟨fun _ => (by cases x <;> rfl), fun e => ?_⟩
    rw [h1] at e; cases e
  | some v =>
    obtain rfl := h2 v rfl
    cases x with
    | none => exact ⟨fun _ => rfl, fun _ e => by rw [hf] at e; cases e⟩
    | some m =>
      obtain rfl := hx m rfl
      have e : addO (some T) (some n) = if T + n < 1152921504606846976 then some (T + n) else none := rfl
      rw [e]
      refine ⟨fun hh => ?_, fun _ _ hlt => if_pos hlt⟩
      rcases hh with hh | hh | hh
      · rw [h1] at hh; cases hh
      · rw [hf] at hh; cases hh
      · exact if_neg (by omega)
theorem sumSt_none {T : Int} (h0 : 0 ≤ T) (h1 : T < 1152921504606846976) : SumSt none T false := ⟨rfl, fun v h => (by cases h), h0, h1⟩
theorem sumSt_some {T : Int} (h0 : 0 ≤ T) (h1 : T < 1152921504606846976) : SumSt (some T) T true := ⟨rfl, fun v h => (by injection h), h0, h1⟩
theorem fr2_ok (w : World) (gt go : Nat) (u : Value) : Fr2 gt go w (w.setCell ⟨go, 0, none⟩ u) :=
  ⟨rfl, rfl, rfl, by simp [World.setCell], fun g _ h2 => Below.heap_setCell w ⟨go, 0, none⟩ u g h2⟩
theorem fr2_both (w : World) (gt go : Nat) (u v : Value) : Fr2 gt go w ((w.setCell ⟨go, 0, none⟩ u).setCell ⟨gt, 0, none⟩ v) :=
  ⟨rfl, rfl, rfl, by simp [World.setCell], fun g h1 h2 => (Below.heap_setCell _ ⟨gt, 0, none⟩ v g h1).trans (Below.heap_setCell w ⟨go, 0, none⟩ u g h2)⟩
set_option maxHeartbeats 16000000 in
set_option maxRecDepth 100000 in
theorem badd_any (n : Int) (f : Bool) (gt go : Nat) (T : Int) (O : Bool) (s x : Option Int) (w : World) (kt : Blk w gt 3 #[.int .i64 T]) (ko : Blk w go 4 #[.bool O]) (h : SumSt s T O) (hf : f = x.isSome) (hx : ∀ v, x = some v → n = v) (hn : 0 ≤ n) (hn1 : n < 9223372036854775808) :
    Calls Tryd.prog 30 #[.int .i64 n, .bool f, .pointer (some ⟨gt, 0, none⟩), .pointer (some ⟨go, 0, none⟩)] w fun e w' => ∃ T' O', e = .returned (.tuple #[]) ∧ Blk w' gt 3 #[.int .i64 T'] ∧ Blk w' go 4 #[.bool O'] ∧ SumSt (addO s x) T' O' ∧ Fr2 gt go w w' := by
  have hne : gt ≠ go := kt.ne_ ko (by decide)
  obtain ⟨s1, s2⟩ := sum_add h hf hx hn
  obtain ⟨u1, u2, h3, h4⟩ := h
  clear u1 u2
  obtain ⟨x0, y0⟩ := kt.c1
  obtain ⟨x1, y1⟩ := ko.c1
  have lt1 := kt.lt
  have lt2 := ko.lt
  clear hf hx
  by_cases hov : T + n < 9223372036854775808
  · cases O with
    | false =>
      rw [s1 (.inl rfl)]
      have hs := sumSt_none h3 h4
      clear s1 s2
      go_enter Tryd.func30, Tryd.ntmps30
      go_wp2_with fail
      refine (eadd_yes T n _ h3 hn hov).mono ?_
      rintro e w1 ⟨rfl, rfl⟩
      have z0 := (ko.set_ 0 (.bool false)).c1.1
      go_wp2_with fail
      go_end0
      exact ⟨T, false, rfl, kt.far (p := ⟨go, 0, none⟩) hne (.bool false), ko.set_ 0 (.bool false), hs, fr2_ok w gt go _⟩
    | true =>
      cases f with
      | false =>
        rw [s1 (.inr (.inl rfl))]
        have hs := sumSt_none h3 h4
        clear s1 s2
        go_enter Tryd.func30, Tryd.ntmps30
        go_wp2_with fail
        refine (eadd_yes T n _ h3 hn hov).mono ?_
        rintro e w1 ⟨rfl, rfl⟩
        have z0 := (ko.set_ 0 (.bool false)).c1.1
        go_wp2_with fail
        go_end0
        exact ⟨T, false, rfl, kt.far (p := ⟨go, 0, none⟩) hne (.bool false), ko.set_ 0 (.bool false), hs, fr2_ok w gt go _⟩
      | true =>
        by_cases hlt : T + n < 1152921504606846976
        · rw [s2 rfl rfl hlt]
          have hs : SumSt (some (T + n)) (T + n) true := sumSt_some (by omega) hlt
          clear s1 s2
          have z0 := (ko.set_ 0 (.bool true)).c1.1
          have z1 := (kt.far (p := ⟨go, 0, none⟩) hne (.bool true)).c1
          obtain ⟨z1, z2⟩ := z1
          go_enter Tryd.func30, Tryd.ntmps30
          go_wp2_with fail
          refine (eadd_yes T n _ h3 hn hov).mono ?_
          rintro e w1 ⟨rfl, rfl⟩
          go_wp2_with fail
          go_end0
          exact ⟨T + n, true, rfl, (kt.far (p := ⟨go, 0, none⟩) hne (.bool true)).set_ 0 (.int .i64 (T + n)), (ko.set_ 0 (.bool true)).far (p := ⟨gt, 0, none⟩) (fun e => hne e.symm) (.int .i64 (T + n)), hs, fr2_both w gt go _ _⟩
        · rw [s1 (.inr (.inr (by omega)))]
          have hs := sumSt_none h3 h4
          have hd : decide (T + n < 1152921504606846976) = false := decide_eq_false hlt
          clear s1 s2
          go_enter Tryd.func30, Tryd.ntmps30
          go_wp2_with fail
          refine (eadd_yes T n _ h3 hn hov).mono ?_
          rintro e w1 ⟨rfl, rfl⟩
          have z0 := (ko.set_ 0 (.bool false)).c1.1
          go_wp2_with fail
          go_end0
          exact ⟨T, false, rfl, kt.far (p := ⟨go, 0, none⟩) hne (.bool false), ko.set_ 0 (.bool false), hs, fr2_ok w gt go _⟩
  · have hs := sumSt_none h3 h4
    rw [s1 (.inr (.inr (by omega)))]
    clear s1 s2
    cases O with
    | false =>
      go_enter Tryd.func30, Tryd.ntmps30
      go_wp2_with fail
      refine (eadd_no T n _ h3 (by omega) hn hn1 (by omega)).mono ?_
      rintro e w1 ⟨rfl, rfl⟩
      have z0 := (ko.set_ 0 (.bool false)).c1.1
      go_wp2_with fail
      go_end0
      exact ⟨T, false, rfl, kt.far (p := ⟨go, 0, none⟩) hne (.bool false), ko.set_ 0 (.bool false), hs, fr2_ok w gt go _⟩
    | true =>
      cases f with
      | false =>
        go_enter Tryd.func30, Tryd.ntmps30
        go_wp2_with fail
        refine (eadd_no T n _ h3 (by omega) hn hn1 (by omega)).mono ?_
        rintro e w1 ⟨rfl, rfl⟩
        have z0 := (ko.set_ 0 (.bool false)).c1.1
        go_wp2_with fail
        go_end0
        exact ⟨T, false, rfl, kt.far (p := ⟨go, 0, none⟩) hne (.bool false), ko.set_ 0 (.bool false), hs, fr2_ok w gt go _⟩
      | true =>
        go_enter Tryd.func30, Tryd.ntmps30
        go_wp2_with fail
        refine (eadd_no T n _ h3 (by omega) hn hn1 (by omega)).mono ?_
        rintro e w1 ⟨rfl, rfl⟩
        have z0 := (ko.set_ 0 (.bool false)).c1.1
        go_wp2_with fail
        go_end0
        exact ⟨T, false, rfl, kt.far (p := ⟨go, 0, none⟩) hne (.bool false), ko.set_ 0 (.bool false), hs, fr2_ok w gt go _⟩
end Go.Proofs.YtcgkfgklggjmaaaDoor.Par
end
section
namespace Go.Proofs.YtcgkfgklggjmaaaDoor.Par
set_option linter.unusedVariables false
set_option linter.unusedSimpArgs false
open Go.RowKit
/-- a plan's numbers, so that its bound can be told -/
structure BNum (p : Plan) : Prop where
  mets : ∀ m ∈ p.mets, 0 ≤ m.max ∧ m.max ≤ 2000
  fees : ∀ f ∈ p.fees, 0 ≤ f.amount ∧ f.amount ≤ 1000000000000
  chgs : ∀ c ∈ p.chgs, (0 ≤ c.allow ∧ c.allow ≤ 1000000) ∧ (1 ≤ c.block ∧ c.block ≤ 1000000) ∧ (∀ t ∈ c.tiers, 0 ≤ t.rate ∧ t.rate ≤ 1000000000000) ∧ ∀ a ∈ c.adjs, AOk a
theorem BNum.num {p : Plan} (h : BNum p) {c : Chg} (hc : c ∈ p.chgs) {k : Nat} {m : Met} (hm : p.mets[k]? = some m) : CNum c m.max := by
  obtain ⟨h1, h2, h3, h4⟩ := h.chgs c hc
  exact ⟨h.mets m (List.mem_of_getElem? hm), h1, h2, h3, h4⟩
theorem fees_take {l : List Fee} {k : Nat} {f : Fee} (h : l[k]? = some f) (s : Option Int) : ((l.take (k + 1)).map (fun f => some f.amount)).foldl addO s = addO (((l.take k).map (fun f => some f.amount)).foldl addO s) (some f.amount) := by
  rw [List.take_add_one, h]
  simp
theorem chgs_take {p : Plan} {k : Nat} {c : Chg} (h : p.chgs[k]? = some c) (s : Option Int) :
    ((p.chgs.take (k + 1)).filterMap (chgMost p)).foldl addO s = (match chgMost p c with | none => ((p.chgs.take k).filterMap (chgMost p)).foldl addO s | some x => addO (((p.chgs.take k).filterMap (chgMost p)).foldl addO s) x) := by
  rw [List.take_add_one, h, List.filterMap_append]
  cases hc : chgMost p c with
  | none => simp [hc]
  | some x => simp [hc]
theorem bound_eq (p : Plan) : boundO p = (p.chgs.filterMap (chgMost p)).foldl addO ((p.fees.map (fun f => some f.amount)).foldl addO (some 0)) := by
  unfold boundO sumList
  rw [List.foldl_append]
def FeeS (p : Plan) (k : Nat) : Option Int := ((p.fees.take k).map (fun f => some f.amount)).foldl addO (some 0)
def ChgS (p : Plan) (k : Nat) : Option Int := ((p.chgs.take k).filterMap (chgMost p)).foldl addO (FeeS p p.fees.length)
theorem FeeS_next {p : Plan} {k : Nat} {f : Fee} (h : p.fees[k]? = some f) : FeeS p (k + 1) = addO (FeeS p k) (some f.amount) := fees_take h _
theorem ChgS_zero (p : Plan) : ChgS p 0 = FeeS p p.fees.length := rfl
theorem ChgS_end (p : Plan) : ChgS p p.chgs.length = boundO p := by
  unfold ChgS FeeS
  rw [List.take_length, List.take_length, bound_eq]
theorem ChgS_skip {p : Plan} {k : Nat} {c : Chg} (h : p.chgs[k]? = some c) (hi : metI c.meter p.mets < 0) : ChgS p (k + 1) = ChgS p k := by
  unfold ChgS
  rw [chgs_take h, show chgMost p c = none from if_pos hi]
theorem ChgS_add {p : Plan} {k j : Nat} {c : Chg} {m : Met} (h : p.chgs[k]? = some c) (hi : metI c.meter p.mets = j) (hm : p.mets[j]? = some m) : ChgS p (k + 1) = addO (ChgS p k) (mostO c m.max) := by
  have e : chgMost p c = some (mostO c m.max) := by
    unfold chgMost
    rw [if_neg (by omega), hi, Int.toNat_natCast, hm]
    rfl
  unfold ChgS
  rw [chgs_take h, e]
theorem Rows.fr2 {a b : Nat} {w w' : World} {B : Nat} {p : Plan} {mv fv cv : Value} {cs : List CT} (h : Rows w B p mv fv cv cs) (hf : Fr2 a b w w') (ha : ∀ g, blocks mv fv cv cs g → g ≠ a ∧ g ≠ b) : Rows w' B p mv fv cv cs :=
  h.keep fun g hg => hf.block g (ha g hg).1 (ha g hg).2
set_option maxHeartbeats 16000000 in
set_option maxRecDepth 100000 in
theorem pbound_any (p : Plan) (Am Af Ac : Option Addr) (cm cf cc : Nat) (cs : List CT) (w : World) {B : Nat} (hR : Rows w B p (.slice Am p.mets.length cm) (.slice Af p.fees.length cf) (.slice Ac cs.length cc) cs) (hN : BNum p) (hcl : p.fees.length ≤ 10000 ∧ cs.length ≤ 10000) :
    Calls Tryd.prog 14 #[.agg #[.string p.name, .string p.cur, .int .i64 p.from_.1, .int .i64 p.from_.2.1, .int .i64 p.from_.2.2, .int .i64 p.to_.1, .int .i64 p.to_.2.1, .int .i64 p.to_.2.2, .slice Am p.mets.length cm, .slice Af p.fees.length cf, .slice Ac cs.length cc, .int .i64 p.line, .int .i64 p.col]] w fun e w' => e = .returned (.tuple #[.int .i64 ((boundO p).getD 0), .bool (boundO p).isSome]) ∧ Below w.heap.size w w' := by
  obtain ⟨hcl1, hcl2⟩ := hcl
  obtain ⟨_, _, he, ht1, ht2, ht3⟩ := Lies.open (f := feeF) (l := p.fees) (Lies.of hR.fo)
  injection he with he1 he2 he3
  subst he1 he3
  obtain ⟨_, _, he, hc1, hc2, hc3⟩ := Lies.open (f := chgF) (l := cs) (Lies.of hR.co)
  injection he with he1 he2 he3
  subst he1 he3
  obtain ⟨_, _, he, hm1, hm2, hm3⟩ := Lies.open (f := metF) (l := p.mets) (Lies.of hR.mo)
  injection he with he1 he2 he3
  subst he1 he3
  obtain ⟨W0, hW0⟩ : ∃ W0, W0 = ((w.alloc (.cells #[.string p.name, .string p.cur, .int .i64 p.from_.1, .int .i64 p.from_.2.1, .int .i64 p.from_.2.2, .int .i64 p.to_.1, .int .i64 p.to_.2.1, .int .i64 p.to_.2.2, .slice Am p.mets.length cm, .slice Af p.fees.length cf, .slice Ac cs.length cc, .int .i64 p.line, .int .i64 p.col] 29)).alloc (.cells #[.int .i64 0] 3)).alloc (.cells #[.bool true] 4) := ⟨_, rfl⟩
  have kp : Blk W0 w.heap.size 29 #[.string p.name, .string p.cur, .int .i64 p.from_.1, .int .i64 p.from_.2.1, .int .i64 p.from_.2.2, .int .i64 p.to_.1, .int .i64 p.to_.2.1, .int .i64 p.to_.2.2, .slice Am p.mets.length cm, .slice Af p.fees.length cf, .slice Ac cs.length cc, .int .i64 p.line, .int .i64 p.col] := by rw [hW0]; exact ((Blk.new w 29 #[.string p.name, .string p.cur, .int .i64 p.from_.1, .int .i64 p.from_.2.1, .int .i64 p.from_.2.2, .int .i64 p.to_.1, .int .i64 p.to_.2.1, .int .i64 p.to_.2.2, .slice Am p.mets.length cm, .slice Af p.fees.length cf, .slice Ac cs.length cc, .int .i64 p.line, .int .i64 p.col]).alloc _).alloc _
  have kt : Blk W0 (w.heap.size + 1) 3 #[.int .i64 0] := by
    rw [hW0]
    have := Dec.Blk.new2 w (.cells #[.string p.name, .string p.cur, .int .i64 p.from_.1, .int .i64 p.from_.2.1, .int .i64 p.from_.2.2, .int .i64 p.to_.1, .int .i64 p.to_.2.1, .int .i64 p.to_.2.2, .slice Am p.mets.length cm, .slice Af p.fees.length cf, .slice Ac cs.length cc, .int .i64 p.line, .int .i64 p.col] 29) 3 #[.int .i64 0]
    exact this.alloc _
  have ko : Blk W0 (w.heap.size + 1 + 1) 4 #[.bool true] := by
    rw [hW0]
    have := Dec.Blk.new2 (w.alloc (.cells #[.string p.name, .string p.cur, .int .i64 p.from_.1, .int .i64 p.from_.2.1, .int .i64 p.from_.2.2, .int .i64 p.to_.1, .int .i64 p.to_.2.1, .int .i64 p.to_.2.2, .slice Am p.mets.length cm, .slice Af p.fees.length cf, .slice Ac cs.length cc, .int .i64 p.line, .int .i64 p.col] 29)) (.cells #[.int .i64 0] 3) 4 #[.bool true]
    rwa [World.size_alloc] at this
  have b0 : Below w.heap.size w W0 := by rw [hW0]; exact bl_alloc (bl_alloc (bl_alloc (bl_refl w) _) _) _
  obtain ⟨a0, a1, a2, a3, a4, a5, a6, a7, a8, a9, a10, a11, a12, _, _, _, _, _, _, _, _, _, _, _, _, _⟩ := kp.c13
  go_enter Tryd.func14, Tryd.ntmps14
  go_upto_region 2 with fail
  rw [← hW0]
  clear hW0
  go_wp2_with fail
  go_loopw [16] (fun v16 wr => ∃ (k : Nat) (T : Int) (O : Bool), k ≤ p.fees.length ∧ v16 = .int .i64 k ∧ SumSt (FeeS p k) T O ∧ Blk wr w.heap.size 29 #[.string p.name, .string p.cur, .int .i64 p.from_.1, .int .i64 p.from_.2.1, .int .i64 p.from_.2.2, .int .i64 p.to_.1, .int .i64 p.to_.2.1, .int .i64 p.to_.2.2, .slice Am p.mets.length cm, .slice Af p.fees.length cf, .slice Ac cs.length cc, .int .i64 p.line, .int .i64 p.col] ∧ Blk wr (w.heap.size + 1) 3 #[.int .i64 T] ∧ Blk wr (w.heap.size + 1 + 1) 4 #[.bool O] ∧ Below w.heap.size w wr) (fun v16 _ => p.fees.length - (intOf v16).toNat)
  case atStart => exact ⟨0, 0, true, by omega, rfl, sumSt_some (by decide) (by decide), kp, kt, ko, b0⟩
  case round =>
    clear kp kt ko b0 a0 a1 a2 a3 a4 a5 a6 a7 a8 a9 a10 a11 a12
    obtain ⟨k, T, O, hk, rfl, hS, kpr, ktr, kor, hbw⟩ := hrel
    replace hS := Lib.hid hS
    have hfo := (hR.below hbw).fo
    have lp := kpr.lt
    have lt := ktr.lt
    have lo := kor.lt
    by_cases hlt : k < p.fees.length
    · obtain ⟨g0, rfl, hg0⟩ := ht3 (by omega)
      obtain ⟨m, hm⟩ : ∃ m, p.fees[k]? = some m := ⟨p.fees[k], List.getElem?_eq_getElem hlt⟩
      have r0 : (wr).cell? ⟨g0, k * 10, none⟩ = some (.int .i64 m.amount) := Lies.at (f := feeF) (l := p.fees) (Lies.of hfo) (fun _ => rfl) (i := k) hm (j := 0) rfl
      have r1 : (wr).cell? ⟨g0, k * 10 + 1, none⟩ = some (.bool m.win.has) := Lies.at (f := feeF) (l := p.fees) (Lies.of hfo) (fun _ => rfl) (i := k) hm (j := 1) rfl
      have r2 : (wr).cell? ⟨g0, k * 10 + 2, none⟩ = some (.int .i64 m.win.from_.1) := Lies.at (f := feeF) (l := p.fees) (Lies.of hfo) (fun _ => rfl) (i := k) hm (j := 2) rfl
      have r3 : (wr).cell? ⟨g0, k * 10 + 3, none⟩ = some (.int .i64 m.win.from_.2.1) := Lies.at (f := feeF) (l := p.fees) (Lies.of hfo) (fun _ => rfl) (i := k) hm (j := 3) rfl
      have r4 : (wr).cell? ⟨g0, k * 10 + 4, none⟩ = some (.int .i64 m.win.from_.2.2) := Lies.at (f := feeF) (l := p.fees) (Lies.of hfo) (fun _ => rfl) (i := k) hm (j := 4) rfl
      have r5 : (wr).cell? ⟨g0, k * 10 + 5, none⟩ = some (.int .i64 m.win.to_.1) := Lies.at (f := feeF) (l := p.fees) (Lies.of hfo) (fun _ => rfl) (i := k) hm (j := 5) rfl
      have r6 : (wr).cell? ⟨g0, k * 10 + 6, none⟩ = some (.int .i64 m.win.to_.2.1) := Lies.at (f := feeF) (l := p.fees) (Lies.of hfo) (fun _ => rfl) (i := k) hm (j := 6) rfl
      have r7 : (wr).cell? ⟨g0, k * 10 + 7, none⟩ = some (.int .i64 m.win.to_.2.2) := Lies.at (f := feeF) (l := p.fees) (Lies.of hfo) (fun _ => rfl) (i := k) hm (j := 7) rfl
      have r8 : (wr).cell? ⟨g0, k * 10 + 8, none⟩ = some (.int .i64 m.line) := Lies.at (f := feeF) (l := p.fees) (Lies.of hfo) (fun _ => rfl) (i := k) hm (j := 8) rfl
      have r9 : (wr).cell? ⟨g0, k * 10 + 9, none⟩ = some (.int .i64 m.col) := Lies.at (f := feeF) (l := p.fees) (Lies.of hfo) (fun _ => rfl) (i := k) hm (j := 9) rfl
      have gg0 : (0 : Int) ≤ (k : Int) := by omega
      have gg1 : (k : Int) < (p.fees.length : Int) := by omega
      have gg2 : (k : Int) < (cf : Int) := by have := ht1; omega
      have hnm := hN.fees m (List.mem_of_getElem? hm)
      have hnx := Lib.hid (FeeS_next hm)
      have kt1 := ktr.alloc (.cells #[.int .i64 m.amount, .bool m.win.has, .int .i64 m.win.from_.1, .int .i64 m.win.from_.2.1, .int .i64 m.win.from_.2.2, .int .i64 m.win.to_.1, .int .i64 m.win.to_.2.1, .int .i64 m.win.to_.2.2, .int .i64 m.line, .int .i64 m.col] 48)
      have ko1 := kor.alloc (.cells #[.int .i64 m.amount, .bool m.win.has, .int .i64 m.win.from_.1, .int .i64 m.win.from_.2.1, .int .i64 m.win.from_.2.2, .int .i64 m.win.to_.1, .int .i64 m.win.to_.2.1, .int .i64 m.win.to_.2.2, .int .i64 m.line, .int .i64 m.col] 48)
      have kp1 := kpr.alloc (.cells #[.int .i64 m.amount, .bool m.win.has, .int .i64 m.win.from_.1, .int .i64 m.win.from_.2.1, .int .i64 m.win.from_.2.2, .int .i64 m.win.to_.1, .int .i64 m.win.to_.2.1, .int .i64 m.win.to_.2.2, .int .i64 m.line, .int .i64 m.col] 48)
      have kf := Blk.new wr 48 #[.int .i64 m.amount, .bool m.win.has, .int .i64 m.win.from_.1, .int .i64 m.win.from_.2.1, .int .i64 m.win.from_.2.2, .int .i64 m.win.to_.1, .int .i64 m.win.to_.2.1, .int .i64 m.win.to_.2.2, .int .i64 m.line, .int .i64 m.col]
      have hbw1 := bl_alloc hbw (.cells #[.int .i64 m.amount, .bool m.win.has, .int .i64 m.win.from_.1, .int .i64 m.win.from_.2.1, .int .i64 m.win.from_.2.2, .int .i64 m.win.to_.1, .int .i64 m.win.to_.2.1, .int .i64 m.win.to_.2.2, .int .i64 m.line, .int .i64 m.col] 48)
      have hA := Lib.hid (badd_any m.amount true (w.heap.size + 1) (w.heap.size + 1 + 1) T O (FeeS p k) (some m.amount) _ kt1 ko1 hS.out rfl (fun v h => by injection h) (by omega) (by omega))
      obtain ⟨z0, z1, z2, z3, z4, z5, z6, z7, z8, z9, _, _, _, _, _, _, _, _, _, _⟩ := kf.c10
      clear hnm hm
      go_wp2_with fail
      refine hA.out.mono ?_
      rintro e w1 ⟨T', O', rfl, kt2, ko2, hS2, hfr⟩
      have hbw2 := hfr.below hbw1 (by omega) (by omega)
      have kp2 := hfr.blk kp1 (by omega) (by omega)
      rw [← hnx.out] at hS2
      replace hS2 := Lib.hid hS2
      go_wp2_with fail
      go_roundw
      case rel => exact ⟨k + 1, T', O', by omega, by go_num, hS2.out, kp2, kt2, ko2, hbw2⟩
      case measure => simp [intOf]; omega
    · obtain rfl : k = p.fees.length := by omega
      clear hlt hk
      obtain ⟨a0, a1, a2, a3, a4, a5, a6, a7, a8, a9, a10, a11, a12, _, _, _, _, _, _, _, _, _, _, _, _, _⟩ := kpr.c13
      go_wp2_with fail
      clear a0 a1 a2 a3 a4 a5 a6 a7 a8 a9 a10 a11 a12
      have eC := ChgS_zero p
      rw [← eC] at hS
      clear eC
      go_loopw [28] (fun v28 wr => ∃ (k : Nat) (T : Int) (O : Bool), k ≤ cs.length ∧ v28 = .int .i64 k ∧ Hid (SumSt (ChgS p k) T O) ∧ Blk wr w.heap.size 29 #[.string p.name, .string p.cur, .int .i64 p.from_.1, .int .i64 p.from_.2.1, .int .i64 p.from_.2.2, .int .i64 p.to_.1, .int .i64 p.to_.2.1, .int .i64 p.to_.2.2, .slice Am p.mets.length cm, .slice Af p.fees.length cf, .slice Ac cs.length cc, .int .i64 p.line, .int .i64 p.col] ∧ Blk wr (w.heap.size + 1) 3 #[.int .i64 T] ∧ Blk wr (w.heap.size + 1 + 1) 4 #[.bool O] ∧ Below w.heap.size w wr) (fun v28 _ => cs.length - (intOf v28).toNat)
      case atStart => exact ⟨0, T, O, by omega, rfl, hS, kpr, ktr, kor, hbw⟩
      case round =>
        clear kpr ktr kor hbw hfo lp lt lo hS
        obtain ⟨k, T, O, hk, rfl, hS, kpr, ktr, kor, hbw⟩ := hrel
        have hRr := hR.below hbw
        have lp := kpr.lt
        have lt := ktr.lt
        have lo := kor.lt
        by_cases hlt : k < cs.length
        · obtain ⟨g0, rfl, hg0⟩ := hc3 (by omega)
          obtain ⟨x, hm⟩ : ∃ m, cs[k]? = some m := ⟨cs[k], List.getElem?_eq_getElem hlt⟩
          have hmem := List.mem_of_getElem? hm
          have hcq : p.chgs[k]? = some x.1 := by rw [← hR.eq, List.getElem?_map, hm]; rfl
          obtain ⟨c, tv, av⟩ := x
          obtain ⟨At, ct, rfl, _, _, _⟩ := Lies.open (f := tierF) (l := c.tiers) (Lies.of (hR.ne _ hmem).1)
          obtain ⟨Aa, ca, rfl, _, _, _⟩ := Lies.open (f := adjF) (l := c.adjs) (Lies.of (hR.ne _ hmem).2)
          dsimp only at hcq
          have r0 : (wr).cell? ⟨g0, k * 16, none⟩ = some (.string c.meter) := Lies.at (f := chgF) (l := cs) (Lies.of hRr.co) (fun _ => rfl) (i := k) hm (j := 0) rfl
          have r1 : (wr).cell? ⟨g0, k * 16 + 1, none⟩ = some (.bool c.win.has) := Lies.at (f := chgF) (l := cs) (Lies.of hRr.co) (fun _ => rfl) (i := k) hm (j := 1) rfl
          have r2 : (wr).cell? ⟨g0, k * 16 + 2, none⟩ = some (.int .i64 c.win.from_.1) := Lies.at (f := chgF) (l := cs) (Lies.of hRr.co) (fun _ => rfl) (i := k) hm (j := 2) rfl
          have r3 : (wr).cell? ⟨g0, k * 16 + 3, none⟩ = some (.int .i64 c.win.from_.2.1) := Lies.at (f := chgF) (l := cs) (Lies.of hRr.co) (fun _ => rfl) (i := k) hm (j := 3) rfl
          have r4 : (wr).cell? ⟨g0, k * 16 + 4, none⟩ = some (.int .i64 c.win.from_.2.2) := Lies.at (f := chgF) (l := cs) (Lies.of hRr.co) (fun _ => rfl) (i := k) hm (j := 4) rfl
          have r5 : (wr).cell? ⟨g0, k * 16 + 5, none⟩ = some (.int .i64 c.win.to_.1) := Lies.at (f := chgF) (l := cs) (Lies.of hRr.co) (fun _ => rfl) (i := k) hm (j := 5) rfl
          have r6 : (wr).cell? ⟨g0, k * 16 + 6, none⟩ = some (.int .i64 c.win.to_.2.1) := Lies.at (f := chgF) (l := cs) (Lies.of hRr.co) (fun _ => rfl) (i := k) hm (j := 6) rfl
          have r7 : (wr).cell? ⟨g0, k * 16 + 7, none⟩ = some (.int .i64 c.win.to_.2.2) := Lies.at (f := chgF) (l := cs) (Lies.of hRr.co) (fun _ => rfl) (i := k) hm (j := 7) rfl
          have r8 : (wr).cell? ⟨g0, k * 16 + 8, none⟩ = some (.int .i64 c.allow) := Lies.at (f := chgF) (l := cs) (Lies.of hRr.co) (fun _ => rfl) (i := k) hm (j := 8) rfl
          have r9 : (wr).cell? ⟨g0, k * 16 + 9, none⟩ = some (.int .i64 c.block) := Lies.at (f := chgF) (l := cs) (Lies.of hRr.co) (fun _ => rfl) (i := k) hm (j := 9) rfl
          have r10 : (wr).cell? ⟨g0, k * 16 + 10, none⟩ = some (.int .i64 c.kind) := Lies.at (f := chgF) (l := cs) (Lies.of hRr.co) (fun _ => rfl) (i := k) hm (j := 10) rfl
          have r11 : (wr).cell? ⟨g0, k * 16 + 11, none⟩ = some (.slice At c.tiers.length ct) := Lies.at (f := chgF) (l := cs) (Lies.of hRr.co) (fun _ => rfl) (i := k) hm (j := 11) rfl
          have r12 : (wr).cell? ⟨g0, k * 16 + 12, none⟩ = some (.int .i64 c.mode) := Lies.at (f := chgF) (l := cs) (Lies.of hRr.co) (fun _ => rfl) (i := k) hm (j := 12) rfl
          have r13 : (wr).cell? ⟨g0, k * 16 + 13, none⟩ = some (.slice Aa c.adjs.length ca) := Lies.at (f := chgF) (l := cs) (Lies.of hRr.co) (fun _ => rfl) (i := k) hm (j := 13) rfl
          have r14 : (wr).cell? ⟨g0, k * 16 + 14, none⟩ = some (.int .i64 c.line) := Lies.at (f := chgF) (l := cs) (Lies.of hRr.co) (fun _ => rfl) (i := k) hm (j := 14) rfl
          have r15 : (wr).cell? ⟨g0, k * 16 + 15, none⟩ = some (.int .i64 c.col) := Lies.at (f := chgF) (l := cs) (Lies.of hRr.co) (fun _ => rfl) (i := k) hm (j := 15) rfl
          have gg0 : (0 : Int) ≤ (k : Int) := by omega
          have gg1 : (k : Int) < (cs.length : Int) := by omega
          have gg2 : (k : Int) < (cc : Int) := by have := hc1; omega
          have kt1 := ktr.alloc (.cells #[.string c.meter, .bool c.win.has, .int .i64 c.win.from_.1, .int .i64 c.win.from_.2.1, .int .i64 c.win.from_.2.2, .int .i64 c.win.to_.1, .int .i64 c.win.to_.2.1, .int .i64 c.win.to_.2.2, .int .i64 c.allow, .int .i64 c.block, .int .i64 c.kind, .slice At c.tiers.length ct, .int .i64 c.mode, .slice Aa c.adjs.length ca, .int .i64 c.line, .int .i64 c.col] 52)
          have ko1 := kor.alloc (.cells #[.string c.meter, .bool c.win.has, .int .i64 c.win.from_.1, .int .i64 c.win.from_.2.1, .int .i64 c.win.from_.2.2, .int .i64 c.win.to_.1, .int .i64 c.win.to_.2.1, .int .i64 c.win.to_.2.2, .int .i64 c.allow, .int .i64 c.block, .int .i64 c.kind, .slice At c.tiers.length ct, .int .i64 c.mode, .slice Aa c.adjs.length ca, .int .i64 c.line, .int .i64 c.col] 52)
          have kp1 := kpr.alloc (.cells #[.string c.meter, .bool c.win.has, .int .i64 c.win.from_.1, .int .i64 c.win.from_.2.1, .int .i64 c.win.from_.2.2, .int .i64 c.win.to_.1, .int .i64 c.win.to_.2.1, .int .i64 c.win.to_.2.2, .int .i64 c.allow, .int .i64 c.block, .int .i64 c.kind, .slice At c.tiers.length ct, .int .i64 c.mode, .slice Aa c.adjs.length ca, .int .i64 c.line, .int .i64 c.col] 52)
          have kc1 := Blk.new wr 52 #[.string c.meter, .bool c.win.has, .int .i64 c.win.from_.1, .int .i64 c.win.from_.2.1, .int .i64 c.win.from_.2.2, .int .i64 c.win.to_.1, .int .i64 c.win.to_.2.1, .int .i64 c.win.to_.2.2, .int .i64 c.allow, .int .i64 c.block, .int .i64 c.kind, .slice At c.tiers.length ct, .int .i64 c.mode, .slice Aa c.adjs.length ca, .int .i64 c.line, .int .i64 c.col]
          have hbw1 := bl_alloc hbw (.cells #[.string c.meter, .bool c.win.has, .int .i64 c.win.from_.1, .int .i64 c.win.from_.2.1, .int .i64 c.win.from_.2.2, .int .i64 c.win.to_.1, .int .i64 c.win.to_.2.1, .int .i64 c.win.to_.2.2, .int .i64 c.allow, .int .i64 c.block, .int .i64 c.kind, .slice At c.tiers.length ct, .int .i64 c.mode, .slice Aa c.adjs.length ca, .int .i64 c.line, .int .i64 c.col] 52)
          have hcm := List.mem_of_getElem? hcq
          have hM := Lib.hid (treeMeter_any p Am Af (some ⟨g0, 0, none⟩) cm cf cc cs c.meter _ (hR.below hbw1).mo)
          obtain ⟨i, hi⟩ : ∃ i, metI c.meter p.mets = i := ⟨_, rfl⟩
          rw [hi] at hM
          obtain ⟨z0, z1, z2, z3, z4, z5, z6, z7, z8, z9, z10, z11, z12, z13, z14, z15, _, _, _, _, _, _, _, _, _, _, _, _, _, _, _, _⟩ := kc1.c16
          obtain ⟨a0, a1, a2, a3, a4, a5, a6, a7, a8, a9, a10, a11, a12, _, _, _, _, _, _, _, _, _, _, _, _, _⟩ := kp1.c13
          go_wp2_with fail
          refine hM.out.mono ?_
          rintro e w2 ⟨rfl, hb2⟩
          have hbw2 := bl_call hbw1 hb2
          have kt2 := kt1.call hb2
          have ko2 := ko1.call hb2
          have kp2 := kp1.call hb2
          have kc2 := kc1.call hb2
          clear hM a0 a1 a2 a3 a4 a5 a6 a7 a8 a9 a10 a11 a12 z0 z1 z2 z3 z4 z5 z6 z7 z8 z9 z10 z11 z12 z13 z14 z15 kt1 ko1 kp1 kc1 hbw1
          by_cases hneg : i < 0
          · have hsk := Lib.hid (ChgS_skip hcq (by omega))
            clear hi hcq hm
            go_wp2_with fail
            go_roundw
            case rel => exact ⟨k + 1, T, O, by omega, by go_num, by rw [hsk.out]; exact hS, kp2, kt2, ko2, hbw2⟩
            case measure => simp [intOf]; omega
          · obtain ⟨j, mm, hj, hmm, _⟩ := metI_some (n := c.meter) (l := p.mets) (by omega)
            have hlm : j < p.mets.length := (List.getElem?_eq_some_iff.1 hmm).1
            have hnx := Lib.hid (ChgS_add hcq hj hmm)
            have hCN := hN.num hcm hmm
            obtain rfl : i = j := by omega
            clear hi hcq hm hj
            obtain ⟨gm, rfl, hgm⟩ := hm3 (by omega)
            go_upto_region 13 with fail
            have hRd : Rows w2.drew B p _ _ _ cs := hR.below (bl_drew hbw2)
            have hMo := Lib.hid (pmost_any c At Aa ct ca mm.max w2.drew (hRd.ne _ hmem).1 (hRd.ne _ hmem).2 hCN)
            have kt3 := kt2.drew
            have ko3 := ko2.drew
            have kp3 := kp2.drew
            have kc3 := kc2.drew
            have hbw3 := bl_drew hbw2
            have lgm : gm < w2.drew.heap.size := by have := hbw3.size; omega
            have m2 : (w2.drew).cell? ⟨gm, j * 5 + 2, none⟩ = some (.int .i64 mm.max) := Lies.at (f := metF) (l := p.mets) (Lies.of hRd.mo) (fun _ => rfl) (i := j) hmm (j := 2) rfl
            obtain ⟨z0, z1, z2, z3, z4, z5, z6, z7, z8, z9, z10, z11, z12, z13, z14, z15, _, _, _, _, _, _, _, _, _, _, _, _, _, _, _, _⟩ := kc3.c16
            obtain ⟨a0, a1, a2, a3, a4, a5, a6, a7, a8, a9, a10, a11, a12, _, _, _, _, _, _, _, _, _, _, _, _, _⟩ := kp3.c13
            clear hmm hRd
            have gg0 : (0 : Int) ≤ (j : Int) := by omega
            have gg1 : (j : Int) < (p.mets.length : Int) := by omega
            have gg2 : (j : Int) < (cm : Int) := by have := hm1; omega
            go_region_held3 (fun w' => w'.cell? ⟨wr.heap.size, 0, none⟩ = some (.string c.meter) ∧ w'.cell? ⟨wr.heap.size, 1, none⟩ = some (.bool c.win.has) ∧ w'.cell? ⟨wr.heap.size, 2, none⟩ = some (.int .i64 c.win.from_.1) ∧ w'.cell? ⟨wr.heap.size, 3, none⟩ = some (.int .i64 c.win.from_.2.1) ∧ w'.cell? ⟨wr.heap.size, 4, none⟩ = some (.int .i64 c.win.from_.2.2) ∧ w'.cell? ⟨wr.heap.size, 5, none⟩ = some (.int .i64 c.win.to_.1) ∧ w'.cell? ⟨wr.heap.size, 6, none⟩ = some (.int .i64 c.win.to_.2.1) ∧ w'.cell? ⟨wr.heap.size, 7, none⟩ = some (.int .i64 c.win.to_.2.2) ∧ w'.cell? ⟨wr.heap.size, 8, none⟩ = some (.int .i64 c.allow) ∧ w'.cell? ⟨wr.heap.size, 9, none⟩ = some (.int .i64 c.block) ∧ w'.cell? ⟨wr.heap.size, 10, none⟩ = some (.int .i64 c.kind) ∧ w'.cell? ⟨wr.heap.size, 11, none⟩ = some (.slice At c.tiers.length ct) ∧ w'.cell? ⟨wr.heap.size, 12, none⟩ = some (.int .i64 c.mode) ∧ w'.cell? ⟨wr.heap.size, 13, none⟩ = some (.slice Aa c.adjs.length ca) ∧ w'.cell? ⟨wr.heap.size, 14, none⟩ = some (.int .i64 c.line) ∧ w'.cell? ⟨wr.heap.size, 15, none⟩ = some (.int .i64 c.col) ∧ w'.cell? ⟨w.heap.size, 0, none⟩ = some (.string p.name) ∧ w'.cell? ⟨w.heap.size, 1, none⟩ = some (.string p.cur) ∧ w'.cell? ⟨w.heap.size, 2, none⟩ = some (.int .i64 p.from_.1) ∧ w'.cell? ⟨w.heap.size, 3, none⟩ = some (.int .i64 p.from_.2.1) ∧ w'.cell? ⟨w.heap.size, 4, none⟩ = some (.int .i64 p.from_.2.2) ∧ w'.cell? ⟨w.heap.size, 5, none⟩ = some (.int .i64 p.to_.1) ∧ w'.cell? ⟨w.heap.size, 6, none⟩ = some (.int .i64 p.to_.2.1) ∧ w'.cell? ⟨w.heap.size, 7, none⟩ = some (.int .i64 p.to_.2.2) ∧ w'.cell? ⟨w.heap.size, 8, none⟩ = some (.slice (some ⟨gm, 0, none⟩) p.mets.length cm) ∧ w'.cell? ⟨w.heap.size, 9, none⟩ = some (.slice Af p.fees.length cf) ∧ w'.cell? ⟨w.heap.size, 10, none⟩ = some (.slice (some ⟨g0, 0, none⟩) cs.length cc) ∧ w'.cell? ⟨w.heap.size, 11, none⟩ = some (.int .i64 p.line) ∧ w'.cell? ⟨w.heap.size, 12, none⟩ = some (.int .i64 p.col) ∧ w'.cell? ⟨gm, j * 5 + 2, none⟩ = some (.int .i64 mm.max))
              (refine ⟨?_, ?_, ?_, ?_, ?_, ?_, ?_, ?_, ?_, ?_, ?_, ?_, ?_, ?_, ?_, ?_, ?_, ?_, ?_, ?_, ?_, ?_, ?_, ?_, ?_, ?_, ?_, ?_, ?_, ?_⟩ <;> first | with_reducible assumption | (go_keep; done))
              ((first | (go_at_call 33; (refine hMo.out.mono ?_); rintro e' w5 ⟨n', rfl, hn1, hn2, hn3, hb5⟩; (replace hn1 := Lib.hid hn1); (have kt5 := kt3.call hb5); (have ko5 := ko3.call hb5); (have kp5 := kp3.call hb5); (have kc5 := kc3.call hb5); (have hbw5 := bl_call hbw3 hb5); (have lgm5 : gm < w5.heap.size := Nat.lt_of_lt_of_le lgm hb5.size); (have yy2 := (hb5.cell (p := ⟨gm, j * 5 + 2, none⟩) lgm).trans m2); obtain ⟨y0, y1, y2, y3, y4, y5, y6, y7, y8, y9, y10, y11, y12, y13, y14, y15, _, _, _, _, _, _, _, _, _, _, _, _, _, _, _, _⟩ := kc5.c16; obtain ⟨b0, b1, b2, b3, b4, b5, b6, b7, b8, b9, b10, b11, b12, _, _, _, _, _, _, _, _, _, _, _, _, _⟩ := kp5.c13) | (go_at_call 30; (refine (badd_any n' (mostO c mm.max).isSome (w.heap.size + 1) (w.heap.size + 1 + 1) T O (ChgS p k) (mostO c mm.max) _ kt5 ko5 hS.out rfl hn1.out hn2 hn3).mono ?_); rintro e' w6 ⟨T', O', rfl, kt6, ko6, hS6, hfr⟩; (rw [← hnx.out] at hS6); (replace hS6 := Lib.hid hS6); (have kp6 := hfr.blk kp5 (by omega) (by omega)); (have kc6 := hfr.blk kc5 (by omega) (by omega)); (have hbw6 := hfr.below hbw5 (by omega) (by omega)); (have x2 : w6.cell? ⟨gm, j * 5 + 2, none⟩ = some (.int .i64 mm.max) := (World.cell?_of_block (hfr.block gm (by omega) (by omega))).trans yy2); obtain ⟨x0, x1, x2, x3, x4, x5, x6, x7, x8, x9, x10, x11, x12, x13, x14, x15, _, _, _, _, _, _, _, _, _, _, _, _, _, _, _, _⟩ := kc6.c16; obtain ⟨d0, d1, d2, d3, d4, d5, d6, d7, d8, d9, d10, d11, d12, _, _, _, _, _, _, _, _, _, _, _, _, _⟩ := kp6.c13)))
            all_goals go_wp2_with fail
            all_goals go_roundw
            case rel => exact ⟨k + 1, T', O', by omega, by go_num, hS6, kp6, kt6, ko6, hbw6⟩
            case measure => simp [intOf]; omega
        · obtain rfl : k = cs.length := by omega
          have hcl : cs.length = p.chgs.length := by have h := congrArg List.length hR.eq; rw [List.length_map] at h; exact h
          have hE := ChgS_end p
          rw [← hcl] at hE
          obtain ⟨s1, s2, s3, s4⟩ := hS.out
          rw [hE] at s1 s2
          replace s2 := Lib.hid s2
          obtain ⟨x0, _⟩ := ktr.c1
          obtain ⟨x1, _⟩ := kor.c1
          clear hE
          cases hb : boundO p with
          | none =>
            rw [hb] at s1
            obtain rfl : O = false := s1
            go_wp2_with fail
            go_ret2
            exact ⟨by rw [hb]; rfl, hbw⟩
          | some v =>
            rw [hb] at s1
            obtain rfl : O = true := s1
            obtain rfl : T = v := s2.out v hb
            clear s2
            go_wp2_with fail
            go_ret2
            exact ⟨by rw [hb]; rfl, hbw⟩
end Go.Proofs.YtcgkfgklggjmaaaDoor.Par
end
