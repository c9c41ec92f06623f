import Derived.Test.YtcgkfgklggjmaaaDoorGh
import Derived.Deep.DeepCutAuto
import Derived.Deep.RegionLaw
section
namespace Go.Proofs.YtcgkfgklggjmaaaDoor.Par
set_option linter.unusedVariables false
set_option linter.unusedSimpArgs false
open Go.RowKit
set_option maxHeartbeats 16000000 in
set_option maxRecDepth 100000 in
theorem prt3 (hRP : RParses8) (s : ByteArray) (w : World) (hG : Dec.GT w) (hs : s.size ≤ 9223372036854775807) : (prt2 hRP s w hG hs).m := by
  unfold prt2
  intro hbig hz1 p li co Q1 w1 hz9 w2 cs Am cm hm1 hm2 Af cf hf1 hf2 Ac cc hc1 hc2 hT u2 n2 hm3 hf3 hc3 u3 hu3 nb w3 s0 hz0 hb3 kb3 k3 b3 R3 G3 hH hs0z hs0 K1 wrO U11 U12 U44 U45 U46 U47 U48 U49 U50 U51 U52 U53 U54 U55 U56 U57 U58 TO Q2 K2 A2 K3 wr V14 V15 V63 V64 V65 V66 V67 V68 V69 V70 V71 V72 V73 V74 V75 V76 V77 T hbw hb3r hml kbr kpr Rr Gr lb lp hk hTx hTz hlt hTq hcl Q4 K4 A4 K5 A5
  go_loopw [9, 81] (fun v9 v43 wr => ∃ (k : Nat) (T : ByteArray), k ≤ cs.length ∧ v43 = .int .i64 k ∧ v9 = .string T ∧ Hid (T.data.toList = headL p ++ p.mets.flatMap metL ++ p.fees.flatMap feeL ++ (p.chgs.take k).flatMap chgL) ∧ T.size ≤ 201020000 + k * 3000000 ∧ Below w.heap.size w wr ∧ Below w3.heap.size w3 wr) (fun _ v43 _ => cs.length - (intOf v43).toNat)
  case atStart => exact ⟨0, T, by omega, rfl, rfl, Lib.hid (by rw [hTq.out]; simp), by omega, hbw, hb3r⟩
  case round =>
    clear kbr kpr Rr Gr lb lp hbw hb3r hTx hTq hTz hml hlt hk
    obtain ⟨k, T, hk, rfl, rfl, hTx, hTz, hbw, hb3r⟩ := hrel
    have hml : cs.length ≤ 10000 := hcl
    have kbr := kb3.call hb3r
    have kpr := k3.call hb3r
    have Rr := R3.below hb3r
    have Gr := G3.below hb3r
    have lb := kbr.lt
    have lp := kpr.lt
    by_cases hlt : k < cs.length
    · obtain ⟨g0, rfl, hg0⟩ := hc3 (by omega)
      obtain ⟨x, hmx⟩ : ∃ m, cs[k]? = some m := ⟨cs[k], List.getElem?_eq_getElem hlt⟩
      have hmem := List.mem_of_getElem? hmx
      have hm : p.chgs[k]? = some x.1 := by rw [← R3.eq, List.getElem?_map, hmx]; rfl
      obtain ⟨m, tv, av⟩ := x
      obtain ⟨At, ct, rfl, _, _, _⟩ := Lies.open (f := tierF) (l := m.tiers) (Lies.of (R3.ne _ hmem).1)
      obtain ⟨Aa, ca, rfl, _, _, _⟩ := Lies.open (f := adjF) (l := m.adjs) (Lies.of (R3.ne _ hmem).2)
      dsimp only at hm
      have r0 : (wr).cell? ⟨g0, k * 16, none⟩ = some (.string m.meter) := Lies.at (f := chgF) (l := cs) (Lies.of Rr.co) (fun _ => rfl) (i := k) hmx (j := 0) rfl
      have r1 : (wr).cell? ⟨g0, k * 16 + 1, none⟩ = some (.bool m.win.has) := Lies.at (f := chgF) (l := cs) (Lies.of Rr.co) (fun _ => rfl) (i := k) hmx (j := 1) rfl
      have r2 : (wr).cell? ⟨g0, k * 16 + 2, none⟩ = some (.int .i64 m.win.from_.1) := Lies.at (f := chgF) (l := cs) (Lies.of Rr.co) (fun _ => rfl) (i := k) hmx (j := 2) rfl
      have r3 : (wr).cell? ⟨g0, k * 16 + 3, none⟩ = some (.int .i64 m.win.from_.2.1) := Lies.at (f := chgF) (l := cs) (Lies.of Rr.co) (fun _ => rfl) (i := k) hmx (j := 3) rfl
      have r4 : (wr).cell? ⟨g0, k * 16 + 4, none⟩ = some (.int .i64 m.win.from_.2.2) := Lies.at (f := chgF) (l := cs) (Lies.of Rr.co) (fun _ => rfl) (i := k) hmx (j := 4) rfl
      have r5 : (wr).cell? ⟨g0, k * 16 + 5, none⟩ = some (.int .i64 m.win.to_.1) := Lies.at (f := chgF) (l := cs) (Lies.of Rr.co) (fun _ => rfl) (i := k) hmx (j := 5) rfl
      have r6 : (wr).cell? ⟨g0, k * 16 + 6, none⟩ = some (.int .i64 m.win.to_.2.1) := Lies.at (f := chgF) (l := cs) (Lies.of Rr.co) (fun _ => rfl) (i := k) hmx (j := 6) rfl
      have r7 : (wr).cell? ⟨g0, k * 16 + 7, none⟩ = some (.int .i64 m.win.to_.2.2) := Lies.at (f := chgF) (l := cs) (Lies.of Rr.co) (fun _ => rfl) (i := k) hmx (j := 7) rfl
      have r8 : (wr).cell? ⟨g0, k * 16 + 8, none⟩ = some (.int .i64 m.allow) := Lies.at (f := chgF) (l := cs) (Lies.of Rr.co) (fun _ => rfl) (i := k) hmx (j := 8) rfl
      have r9 : (wr).cell? ⟨g0, k * 16 + 9, none⟩ = some (.int .i64 m.block) := Lies.at (f := chgF) (l := cs) (Lies.of Rr.co) (fun _ => rfl) (i := k) hmx (j := 9) rfl
      have r10 : (wr).cell? ⟨g0, k * 16 + 10, none⟩ = some (.int .i64 m.kind) := Lies.at (f := chgF) (l := cs) (Lies.of Rr.co) (fun _ => rfl) (i := k) hmx (j := 10) rfl
      have r11 : (wr).cell? ⟨g0, k * 16 + 11, none⟩ = some (.slice At m.tiers.length ct) := Lies.at (f := chgF) (l := cs) (Lies.of Rr.co) (fun _ => rfl) (i := k) hmx (j := 11) rfl
      have r12 : (wr).cell? ⟨g0, k * 16 + 12, none⟩ = some (.int .i64 m.mode) := Lies.at (f := chgF) (l := cs) (Lies.of Rr.co) (fun _ => rfl) (i := k) hmx (j := 12) rfl
      have r13 : (wr).cell? ⟨g0, k * 16 + 13, none⟩ = some (.slice Aa m.adjs.length ca) := Lies.at (f := chgF) (l := cs) (Lies.of Rr.co) (fun _ => rfl) (i := k) hmx (j := 13) rfl
      have r14 : (wr).cell? ⟨g0, k * 16 + 14, none⟩ = some (.int .i64 m.line) := Lies.at (f := chgF) (l := cs) (Lies.of Rr.co) (fun _ => rfl) (i := k) hmx (j := 14) rfl
      have r15 : (wr).cell? ⟨g0, k * 16 + 15, none⟩ = some (.int .i64 m.col) := Lies.at (f := chgF) (l := cs) (Lies.of Rr.co) (fun _ => rfl) (i := k) hmx (j := 15) rfl
      have gg0 : (0 : Int) ≤ (k : Int) := by omega
      have gg1 : (k : Int) < (cs.length : Int) := by omega
      have gg2 : (k : Int) < (cc : Int) := by have := hc1; omega
      have hln := chgL_len (hT.num.chgs m (List.mem_of_getElem? hm)).1 (hT.num.chgs m (List.mem_of_getElem? hm)).2.1 (hT.num.chgs m (List.mem_of_getElem? hm)).2.2.1 (hT.num.chgs m (List.mem_of_getElem? hm)).2.2.2 (hT.small.tiers m (List.mem_of_getElem? hm)) (hT.small.adjs m (List.mem_of_getElem? hm)) (hT.chgs m (List.mem_of_getElem? hm))
      obtain ⟨z0, z1, z2, z3, z4, z5, z6, z7, z8, z9, z10, z11, z12, -, -, -, -, -, -, -, -, -, -, -, -, -⟩ := kbr.c13
      have km := Blk.new ((wr.alloc (.cells #[.string m.meter, .bool m.win.has, .int .i64 m.win.from_.1, .int .i64 m.win.from_.2.1, .int .i64 m.win.from_.2.2, .int .i64 m.win.to_.1, .int .i64 m.win.to_.2.1, .int .i64 m.win.to_.2.2, .int .i64 m.allow, .int .i64 m.block, .int .i64 m.kind, .slice At m.tiers.length ct, .int .i64 m.mode, .slice Aa m.adjs.length ca, .int .i64 m.line, .int .i64 m.col] 52)).alloc (.cells #[.string p.name, .string p.cur, .int .i64 p.from_.1, .int .i64 p.from_.2.1, .int .i64 p.from_.2.2, .int .i64 p.to_.1, .int .i64 p.to_.2.1, .int .i64 p.to_.2.2, .slice none 0 0, .slice none 0 0, .slice (some ⟨wr.heap.size + 1 + 1, 0, none⟩) 1 1, .int .i64 p.line, .int .i64 p.col] 29)) 52 #[.string m.meter, .bool m.win.has, .int .i64 m.win.from_.1, .int .i64 m.win.from_.2.1, .int .i64 m.win.from_.2.2, .int .i64 m.win.to_.1, .int .i64 m.win.to_.2.1, .int .i64 m.win.to_.2.2, .int .i64 m.allow, .int .i64 m.block, .int .i64 m.kind, .slice At m.tiers.length ct, .int .i64 m.mode, .slice Aa m.adjs.length ca, .int .i64 m.line, .int .i64 m.col]
      rw [World.size_alloc, World.size_alloc] at km
      have kq := (Dec.Blk.new2 wr (.cells #[.string m.meter, .bool m.win.has, .int .i64 m.win.from_.1, .int .i64 m.win.from_.2.1, .int .i64 m.win.from_.2.2, .int .i64 m.win.to_.1, .int .i64 m.win.to_.2.1, .int .i64 m.win.to_.2.2, .int .i64 m.allow, .int .i64 m.block, .int .i64 m.kind, .slice At m.tiers.length ct, .int .i64 m.mode, .slice Aa m.adjs.length ca, .int .i64 m.line, .int .i64 m.col] 52) 29 #[.string p.name, .string p.cur, .int .i64 p.from_.1, .int .i64 p.from_.2.1, .int .i64 p.from_.2.2, .int .i64 p.to_.1, .int .i64 p.to_.2.1, .int .i64 p.to_.2.2, .slice none 0 0, .slice none 0 0, .slice (some ⟨wr.heap.size + 1 + 1, 0, none⟩) 1 1, .int .i64 p.line, .int .i64 p.col]).alloc (.cells #[.string m.meter, .bool m.win.has, .int .i64 m.win.from_.1, .int .i64 m.win.from_.2.1, .int .i64 m.win.from_.2.2, .int .i64 m.win.to_.1, .int .i64 m.win.to_.2.1, .int .i64 m.win.to_.2.2, .int .i64 m.allow, .int .i64 m.block, .int .i64 m.kind, .slice At m.tiers.length ct, .int .i64 m.mode, .slice Aa m.adjs.length ca, .int .i64 m.line, .int .i64 m.col] 52)
      have l4 := bl_alloc (bl_alloc (bl_alloc (bl_refl wr) (.cells #[.string m.meter, .bool m.win.has, .int .i64 m.win.from_.1, .int .i64 m.win.from_.2.1, .int .i64 m.win.from_.2.2, .int .i64 m.win.to_.1, .int .i64 m.win.to_.2.1, .int .i64 m.win.to_.2.2, .int .i64 m.allow, .int .i64 m.block, .int .i64 m.kind, .slice At m.tiers.length ct, .int .i64 m.mode, .slice Aa m.adjs.length ca, .int .i64 m.line, .int .i64 m.col] 52)) (.cells #[.string p.name, .string p.cur, .int .i64 p.from_.1, .int .i64 p.from_.2.1, .int .i64 p.from_.2.2, .int .i64 p.to_.1, .int .i64 p.to_.2.1, .int .i64 p.to_.2.2, .slice none 0 0, .slice none 0 0, .slice (some ⟨wr.heap.size + 1 + 1, 0, none⟩) 1 1, .int .i64 p.line, .int .i64 p.col] 29)) (.cells #[.string m.meter, .bool m.win.has, .int .i64 m.win.from_.1, .int .i64 m.win.from_.2.1, .int .i64 m.win.from_.2.2, .int .i64 m.win.to_.1, .int .i64 m.win.to_.2.1, .int .i64 m.win.to_.2.2, .int .i64 m.allow, .int .i64 m.block, .int .i64 m.kind, .slice At m.tiers.length ct, .int .i64 m.mode, .slice Aa m.adjs.length ca, .int .i64 m.line, .int .i64 m.col] 52)
      have G4 := Gr.below l4
      have hne0 := (Rr.below (bl_alloc (bl_alloc (bl_alloc (bl_refl wr) (.cells #[.string m.meter, .bool m.win.has, .int .i64 m.win.from_.1, .int .i64 m.win.from_.2.1, .int .i64 m.win.from_.2.2, .int .i64 m.win.to_.1, .int .i64 m.win.to_.2.1, .int .i64 m.win.to_.2.2, .int .i64 m.allow, .int .i64 m.block, .int .i64 m.kind, .slice At m.tiers.length ct, .int .i64 m.mode, .slice Aa m.adjs.length ca, .int .i64 m.line, .int .i64 m.col] 52)) (.cells #[.string p.name, .string p.cur, .int .i64 p.from_.1, .int .i64 p.from_.2.1, .int .i64 p.from_.2.2, .int .i64 p.to_.1, .int .i64 p.to_.2.1, .int .i64 p.to_.2.2, .slice none 0 0, .slice none 0 0, .slice (some ⟨wr.heap.size + 1 + 1, 0, none⟩) 1 1, .int .i64 p.line, .int .i64 p.col] 29)) (.cells #[.string m.meter, .bool m.win.has, .int .i64 m.win.from_.1, .int .i64 m.win.from_.2.1, .int .i64 m.win.from_.2.2, .int .i64 m.win.to_.1, .int .i64 m.win.to_.2.1, .int .i64 m.win.to_.2.2, .int .i64 m.allow, .int .i64 m.block, .int .i64 m.kind, .slice At m.tiers.length ct, .int .i64 m.mode, .slice Aa m.adjs.length ca, .int .i64 m.line, .int .i64 m.col] 52))).ne _ hmem
      have rP := part_chg G4 hT (List.mem_of_getElem? hm) km hne0
      replace rP := Lib.hid rP
      have hfl := flat_next chgL hm
      replace hfl := Lib.hid hfl
      go_upto_region 33 with fail
      generalize ((wr.alloc (.cells #[.string m.meter, .bool m.win.has, .int .i64 m.win.from_.1, .int .i64 m.win.from_.2.1, .int .i64 m.win.from_.2.2, .int .i64 m.win.to_.1, .int .i64 m.win.to_.2.1, .int .i64 m.win.to_.2.2, .int .i64 m.allow, .int .i64 m.block, .int .i64 m.kind, .slice At m.tiers.length ct, .int .i64 m.mode, .slice Aa m.adjs.length ca, .int .i64 m.line, .int .i64 m.col] 52)).alloc (.cells #[.string p.name, .string p.cur, .int .i64 p.from_.1, .int .i64 p.from_.2.1, .int .i64 p.from_.2.2, .int .i64 p.to_.1, .int .i64 p.to_.2.1, .int .i64 p.to_.2.2, .slice none 0 0, .slice none 0 0, .slice (some ⟨wr.heap.size + 1 + 1, 0, none⟩) 1 1, .int .i64 p.line, .int .i64 p.col] 29)).alloc (.cells #[.string m.meter, .bool m.win.has, .int .i64 m.win.from_.1, .int .i64 m.win.from_.2.1, .int .i64 m.win.from_.2.2, .int .i64 m.win.to_.1, .int .i64 m.win.to_.2.1, .int .i64 m.win.to_.2.2, .int .i64 m.allow, .int .i64 m.block, .int .i64 m.kind, .slice At m.tiers.length ct, .int .i64 m.mode, .slice Aa m.adjs.length ca, .int .i64 m.line, .int .i64 m.col] 52) = u4 at *
      clear z0 z1 z2 z3 z4 z5 z6 z7 z8 z9 z10 z11 z12
      obtain ⟨z0, z1, z2, z3, z4, z5, z6, z7, z8, z9, z10, z11, z12, -, -, -, -, -, -, -, -, -, -, -, -, -⟩ := kq.c13
      go_wp2_with fail
      refine rP.out.mono ?_
      rintro e' w5 ⟨s4, rfl, hs4, hz4, hb5⟩
      have hbw5 := bl_call hbw (bl_call l4 hb5)
      have hb35 := bl_call hb3r (bl_call l4 hb5)
      have hz5 : s4.size = s0.size + (chgL m).length := by
        rw [← ba_len s4, ← ba_len s0, hs4, hs0.out, List.length_append]
      have hle : s0.size ≤ s4.size := by omega
      have hpc : (s4.extract s0.size s4.size).data.toList = chgL m := by
        rw [ext_drop, hs4, ← hs0.out, ← ba_len s0, List.drop_left]
      have hps : (s4.extract s0.size s4.size).size = (chgL m).length := by rw [← ba_len, hpc]
      have hTn : Hid ((T ++ s4.extract s0.size s4.size).data.toList = headL p ++ p.mets.flatMap metL ++ p.fees.flatMap feeL ++ (p.chgs.take (k + 1)).flatMap chgL) := Lib.hid (by
        rw [hfl.out, ← List.append_assoc, ← hTx.out, ← hpc]; simp)
      have hTs : (T ++ s4.extract s0.size s4.size).size ≤ 201020000 + (k + 1) * 3000000 := by rw [ByteArray.size_append, hps]; omega
      have ht1 : ¬ (9223372036854775807 < T.size + (s4.extract s0.size s4.size).size) := by rw [hps]; omega
      have ht2 : T.size + (s4.extract s0.size s4.size).size ≤ 9223372036854775807 := by rw [hps]; omega
      replace hps := Lib.hid hps
      replace hpc := Lib.hid hpc
      replace hz5 := Lib.hid hz5
      clear hs4 rP hfl hm
      go_wp2_with fail
      go_roundw
      case rel => exact ⟨k + 1, T ++ s4.extract s0.size s4.size, by omega, by go_num, rfl, hTn, hTs, hbw5, hb35⟩
      case measure => simp [intOf]; omega
    · obtain rfl : k = cs.length := by omega
      have hcq : cs.length = p.chgs.length := by have h := congrArg List.length R3.eq; rw [List.length_map] at h; exact h
      have hTe := hTx.out
      rw [hcq, List.take_length] at hTe
      have hTp : T.data.toList = planL p := hTe
      have rL := pplan_any _ Gr Rr hT
      unfold planC at rL
      replace rL := Lib.hid rL
      replace hTp := Lib.hid hTp
      clear hcq hTe hTx
      obtain ⟨a0, a1, a2, a3, a4, a5, a6, a7, a8, a9, a10, a11, a12, -, -, -, -, -, -, -, -, -, -, -, -, -⟩ := kpr.c13
      go_wp2_with fail
      refine rL.out.mono ?_
      rintro e' w9 ⟨s9, rfl, hs9, hz9, hb9⟩
      obtain rfl := ba_inj (hTp.out.trans hs9.symm)
      have qe := ba_beq T
      go_wp2_with fail
      go_ret
      exact ⟨by first | rfl | simp [qe], bl_call hbw hb9⟩
theorem showParts_any (hRP : RParses8) (s : ByteArray) (w : World) (hG : Dec.GT w) (hs : s.size ≤ 9223372036854775807) :
    Calls Tryd.prog 5 #[.string s] w fun e w' => e = .returned (.bool true) ∧ Below w.heap.size w w' :=
  (prt1 hRP s w hG hs).ok ⟨(prt2 hRP s w hG hs).ok ⟨prt3 hRP s w hG hs⟩⟩
end Go.Proofs.YtcgkfgklggjmaaaDoor.Par
end
section
namespace Go.Proofs.YtcgkfgklggjmaaaDoor.Par
set_option linter.unusedVariables false
set_option linter.unusedSimpArgs false
open Go.RowKit
/-! charges -/
/-- within charge: the result's block, and c's own -/
structure CS (w0 : World) (b : Nat) (ts : List Tok) (r cap : Nat) (w : World) (s : St) (cells : Array Value) : Prop where
  at_ : ∃ j, RAt w b ts r cap j s
  fr : Fr b w0 w
  rb : Blk w w0.heap.size 52 (chgC ⟨#[]⟩ noWin 0 0 0 (.slice none 0 0) 0 (.slice none 0 0) 0 0)
  cb : Blk w (w0.heap.size + 1) 52 cells
  hb : b < w0.heap.size
  hr : r < w0.heap.size
section
variable {w0 : World} {b : Nat} {ts : List Tok} {r cap : Nat} {w w' : World} {s s' : St} {cells : Array Value}
theorem CS.call (h : CS w0 b ts r cap w s cells) (hf : Fr b w w') (ha : ∃ j, RAt w' b ts r cap j s') : CS w0 b ts r cap w' s' cells :=
  ⟨ha, h.fr.trans hf, hf.blk h.rb (by have := h.hb; omega), hf.blk h.cb (by have := h.hb; omega), h.hb, h.hr⟩
theorem CS.below (h : CS w0 b ts r cap w s cells) (hf : Below w.heap.size w w') : CS w0 b ts r cap w' s cells :=
  h.call (Fr.of_below hf) (by obtain ⟨j, hj⟩ := h.at_; exact ⟨j, hj.below hf⟩)
theorem CS.drew (h : CS w0 b ts r cap w s cells) : CS w0 b ts r cap w.drew s cells := h.below (bl_drew (bl_refl _))
theorem CS.put (h : CS w0 b ts r cap w s cells) (k : Nat) (vs : List Value) : CS w0 b ts r cap (puts w (w0.heap.size + 1) k vs) s (setsA cells k vs) :=
  ⟨by obtain ⟨j, hj⟩ := h.at_; have h1 := h.hb; have h2 := h.hr; exact ⟨j, hj.putAll (by omega) (by omega) k vs⟩, h.fr.putsNew (by omega) k vs, h.rb.putsFar (by omega) k vs, h.cb.putAll vs k, h.hb, h.hr⟩
theorem CS.putOther (h : CS w0 b ts r cap w s cells) {g : Nat} (hg : w0.heap.size + 1 < g) (k : Nat) (vs : List Value) : CS w0 b ts r cap (puts w g k vs) s cells :=
  ⟨by obtain ⟨j, hj⟩ := h.at_; have h1 := h.hb; have h2 := h.hr; exact ⟨j, hj.putAll (by omega) (by omega) k vs⟩, h.fr.putsNew (by omega) k vs, h.rb.putsFar (by omega) k vs, h.cb.putsFar (by omega) k vs, h.hb, h.hr⟩
theorem CS.cell (h : CS w0 b ts r cap w s cells) (k : Nat) (v : Value) (hv : cells[k]? = some v) : w.cell? ⟨w0.heap.size + 1, k, none⟩ = some v ∧ w.frozen? ⟨w0.heap.size + 1, k, none⟩ = false := ⟨(h.cb.cell k).trans hv, h.cb.frozen k⟩
theorem CS.lt (h : CS w0 b ts r cap w s cells) : w0.heap.size + 1 < w.heap.size := h.cb.lt
end
theorem RAt.grown {w w' : World} {b : Nat} {ts : List Tok} {r cap i : Nat} {s : St} {row : Option Nat} (h : RAt w b ts r cap i s) (hg : w.grownBy w' row) (h1 : row ≠ some b) (h2 : row ≠ some r) : RAt w' b ts r cap i s :=
  ⟨h.blk.grown hg (fun e => h1 e.symm), own_keep h.row (fun x hx => by obtain rfl : r = x := Option.some.inj hx; exact hg.block r h.rlt (fun e => h2 e.symm)), h.ne, h.rest, h.lt, h.last, h.big, h.ends⟩
theorem CS.grown {w0 : World} {b : Nat} {ts : List Tok} {r cap : Nat} {w w' : World} {s : St} {cells : Array Value} {e : TypeId} {size n : Nat} {v : Value} {xs : List Value} (h : CS w0 b ts r cap w s cells) (ho : w.ownsRow w0.heap.size e size v n xs) (hg : w.grownBy w' v.ownBlock) (he : e ≠ 52) : CS w0 b ts r cap w' s cells := by
  have hb := h.hb
  have hr := h.hr
  have hne : ∀ g, g < w0.heap.size → v.ownBlock ≠ some g := fun g hgl e => by have := (ho.lt g e).1; omega
  have hn1 := own_ne_blk ho h.rb he
  have hn2 := own_ne_blk ho h.cb he
  refine ⟨?_, ?_, h.rb.grown hg (fun e => hn1 e.symm), h.cb.grown hg (fun e => hn2 e.symm), hb, hr⟩
  · obtain ⟨j, hj⟩ := h.at_
    exact ⟨j, hj.grown hg (hne b hb) (hne r hr)⟩
  · exact h.fr.trans_grown hg hne
/-- where the reference's parser stands -/
def atOf (w : World) (b : Nat) : Nat := (intOf ((w.cell? ⟨b, 1, none⟩).getD undef)).toNat
theorem atOf_eq {w : World} {b : Nat} {ts : List Tok} {r cap i : Nat} {s : St} (h : RAt w b ts r cap i s) : atOf w b = i := by
  simp [atOf, h.blk.c5.2.1, intOf]
theorem RAt.len {w : World} {b : Nat} {ts : List Tok} {r cap i : Nat} {s : St} (h : RAt w b ts r cap i s) : len s = ts.length - i := by
  unfold Par.len; rw [h.rest, List.length_drop]
theorem opt_yes {w : ByteArray} {d : Int} {s : St} (h : (R.take w s).1 = true) : R.opt npV w d s = ((R.number npV 0 1000000 (R.take w s).2).1, R.want wSemi (R.number npV 0 1000000 (R.take w s).2).2) := by unfold R.opt; rw [if_pos h]
theorem opt_no {w : ByteArray} {d : Int} {s : St} (h : (R.take w s).1 = false) : R.opt npV w d s = (d, (R.take w s).2) := by unfold R.opt; rw [if_neg (by rw [h]; exact Bool.false_ne_true)]
theorem one_shift : ∀ (l : List ByteArray) (i : Int) (s : St), 0 ≤ i → R.one l (i + 1) s = (if (R.one l i s).1 < 0 then -1 else (R.one l i s).1 + 1, (R.one l i s).2)
  | [], i, s, _ => rfl
  | w :: ws, i, s, hi => by
    rw [R.one, R.one]
    by_cases hc : (R.take w s).1 = true
    · rw [if_pos hc, if_pos hc, if_neg (by show ¬ i < 0; omega)]
    · rw [if_neg hc, if_neg hc]
      exact one_shift ws (i + 1) _ (by omega)
theorem ckind_eq (s : St) : R.ckind s = (if (R.one [wGraduated, wVolume] 0 s).1 < 0 then 0 else (R.one [wGraduated, wVolume] 0 s).1 + 1, if (R.one [wGraduated, wVolume] 0 s).1 < 0 then R.wrong 4 (R.one [wGraduated, wVolume] 0 s).2 else (R.one [wGraduated, wVolume] 0 s).2) := by
  unfold R.ckind
  have h1 := one_shift [wGraduated, wVolume] 0 s (Int.le_refl _)
  rw [Int.zero_add] at h1
  rw [h1]
  by_cases h : (R.one [wGraduated, wVolume] 0 s).1 < 0
  · simp only [if_pos h]
    rw [if_pos (by decide)]
  · simp only [if_neg h]
    rw [if_neg (by omega)]
set_option maxHeartbeats 16000000 in
set_option maxRecDepth 100000 in
theorem rcharge_any {w : World} {b : Nat} {ts : List Tok} {r cap i : Nat} {s : St} (h : RAt w b ts r cap i s) (line col : Int) :
    Calls Tryd.prog 41 #[.pointer (some ⟨b, 0, none⟩), .int .i64 line, .int .i64 col] w fun en w' => ∃ tv av, en = .returned (.agg (chgC (R.charge dp npV line col s).1.meter (R.charge dp npV line col s).1.win (R.charge dp npV line col s).1.allow (R.charge dp npV line col s).1.block (R.charge dp npV line col s).1.kind tv (R.charge dp npV line col s).1.mode av (R.charge dp npV line col s).1.line (R.charge dp npV line col s).1.col)) ∧ TiersLie w.heap.size w' tv (R.charge dp npV line col s).1.tiers ∧ AdjsLie w.heap.size w' av (R.charge dp npV line col s).1.adjs ∧ (∃ j, RAt w' b ts r cap j (R.charge dp npV line col s).2) ∧ Fr b w w' := by
  have hb := h.blk.lt
  have hr := h.rlt
  have hbig := h.big
  obtain ⟨R0, hR0⟩ : ∃ R0, R0 = R.charge dp npV line col s := ⟨_, rfl⟩
  rw [← hR0]
  unfold R.charge at hR0
  simp only at hR0
  have hn := fun v i (h : RAt v b ts r cap i s) => token_any h 1 (by decide)
  generalize R.token 1 s = n at *
  obtain ⟨n1, n2⟩ := n
  have hw := fun v i (h : RAt v b ts r cap i n2) => rwindow_any h
  simp only at hR0
  generalize R.window dp n2 = x at *
  obtain ⟨x1, x2⟩ := x
  unfold winV at hw
  have ho := fun v i (h : RAt v b ts r cap i x2) => want_any h wOpen
  simp only at hR0
  generalize R.want wOpen x2 = o at *
  have hta := fun v i (h : RAt v b ts r cap i o) => take_any h wAllowance
  have hay := @opt_yes wAllowance 0 o
  have han := @opt_no wAllowance 0 o
  generalize R.opt npV wAllowance 0 o = a at *
  obtain ⟨a1, a2⟩ := a
  generalize R.take wAllowance o = ta at *
  obtain ⟨ta1, ta2⟩ := ta
  have hna := fun v i (h : RAt v b ts r cap i ta2) => rnumber_any h 0 1000000
  simp only at hR0 hay han
  generalize R.number npV 0 1000000 ta2 = na at *
  obtain ⟨na1, na2⟩ := na
  have hsa := fun v i (h : RAt v b ts r cap i na2) => want_any h wSemi
  simp only at hay
  generalize R.want wSemi na2 = sa at *
  have htb := fun v i (h : RAt v b ts r cap i a2) => take_any h wBlock
  have hby := @opt_yes wBlock 1 a2
  have hbn := @opt_no wBlock 1 a2
  generalize R.opt npV wBlock 1 a2 = bk at *
  obtain ⟨bk1, bk2⟩ := bk
  generalize R.take wBlock a2 = tb at *
  obtain ⟨tb1, tb2⟩ := tb
  have hnb := fun v i (h : RAt v b ts r cap i tb2) => rnumber_any h 0 1000000
  simp only at hR0 hby hbn
  generalize R.number npV 0 1000000 tb2 = nb at *
  obtain ⟨nb1, nb2⟩ := nb
  have hsb := fun v i (h : RAt v b ts r cap i nb2) => want_any h wSemi
  simp only at hby
  generalize R.want wSemi nb2 = sb at *
  have hko := fun v i (h : RAt v b ts r cap i bk2) g (hg : g ≠ b) (hl : Lies strF 9 1 v (.slice (some ⟨g, 0, none⟩) 2 2) [wGraduated, wVolume]) => one_any h g 2 [wGraduated, wVolume] hg hl (by simp)
  have hkr := one_range [wGraduated, wVolume] 0 bk2
  have hke := ckind_eq bk2
  rw [← rone_eq] at hkr
  generalize R.ckind bk2 = ck at *
  obtain ⟨ck1, ck2⟩ := ck
  generalize R.one [wGraduated, wVolume] 0 bk2 = ko at *
  obtain ⟨k1, k2⟩ := ko
  simp only [List.length_cons, List.length_nil] at hko hkr hke
  have hkw := fun v i (h : RAt v b ts r cap i k2) => wrong_any h 4
  obtain ⟨hk1, hk2⟩ := Prod.mk.inj hke
  have hkv : 1 + k1 = ck1 := by rw [hk1]; split <;> omega
  have hkr1 : -1 ≤ k1 ∧ k1 ≤ 1 := by omega
  obtain ⟨hkr1, hkr3⟩ := hkr1
  have hky : (ck1 == 0) = true → ck2 = R.wrong 4 k2 := fun e => by rw [hk2, if_pos (by have := beq_iff_eq.1 e; omega)]
  have hkn : (ck1 == 0) = false → ck2 = k2 := fun e => by rw [hk2, if_neg (by have := beq_eq_false_iff_ne.1 e; omega)]
  generalize R.wrong 4 k2 = kw at *
  clear hke hk1 hk2 hkr
  simp only at hR0
  unfold R.tiers at hR0
  simp only at hR0
  have hmo := fun v i (h : RAt v b ts r cap i ck2) => want_any h wOpen
  generalize R.want wOpen ck2 = m at *
  have htl : R.tierLoop npV m.rest.length [] m = R.tierAll npV [] m := rfl
  rw [htl] at hR0
  clear htl
  obtain ⟨L, hL⟩ : ∃ L, L = R.tierAll npV [] m := ⟨_, rfl⟩
  rw [← hL] at hR0
  obtain ⟨l1, l2⟩ := L
  have HL := Lib.hid hL.symm
  clear hL
  simp only at hR0
  have hwr := fun v i (h : RAt v b ts r cap i l2) => want_any h wRest
  generalize R.want wRest l2 = q1 at *
  have hwq := fun v i (h : RAt v b ts r cap i q1) => want_any h wRate
  generalize R.want wRate q1 = q2 at *
  have hnr := fun v i (h : RAt v b ts r cap i q2) => rnumber_any h 6 1000000000000
  generalize R.number npV 6 1000000000000 q2 = nr at *
  obtain ⟨nr1, nr2⟩ := nr
  simp only at hR0 hnr
  have hs1 := fun v i (h : RAt v b ts r cap i nr2) => want_any h wSemi
  generalize R.want wSemi nr2 = q3 at *
  have hs2 := fun v i (h : RAt v b ts r cap i q3) => want_any h wClose
  generalize R.want wClose q3 = q4 at *
  have hs3 := fun v i (h : RAt v b ts r cap i q4) => want_any h wRound
  generalize R.want wRound q4 = q5 at *
  have hmd := fun v i (h : RAt v b ts r cap i q5) => rmode_any h
  generalize R.mode q5 = md at *
  obtain ⟨md1, md2⟩ := md
  simp only at hR0 hmd
  have hs4 := fun v i (h : RAt v b ts r cap i md2) => want_any h wSemi
  generalize R.want wSemi md2 = q6 at *
  have hal : R.adjLoop npV q6.rest.length [] q6 = R.adjAll npV [] q6 := rfl
  rw [hal] at hR0
  clear hal
  obtain ⟨D, hD⟩ : ∃ D, D = R.adjAll npV [] q6 := ⟨_, rfl⟩
  rw [← hD] at hR0
  obtain ⟨d1, d2⟩ := D
  have HD := Lib.hid hD.symm
  clear hD
  simp only at hR0
  have hs5 := fun v i (h : RAt v b ts r cap i d2) => want_any h wClose
  generalize R.want wClose d2 = q7 at *
  subst hR0
  simp only
  obtain ⟨i0, hi0, hz0, hz1, hz2⟩ := info_parts tierInfo
  obtain ⟨i1, hi1, hy0, hy1, hy2⟩ := info_parts adjInfo
  replace hn := Lib.hid hn
  replace hw := Lib.hid hw
  replace ho := Lib.hid ho
  replace hta := Lib.hid hta
  replace hay := Lib.hid hay
  replace han := Lib.hid han
  replace hna := Lib.hid hna
  replace hsa := Lib.hid hsa
  replace htb := Lib.hid htb
  replace hby := Lib.hid hby
  replace hbn := Lib.hid hbn
  replace hnb := Lib.hid hnb
  replace hsb := Lib.hid hsb
  replace hko := Lib.hid hko
  replace hkw := Lib.hid hkw
  replace hky := Lib.hid hky
  replace hkn := Lib.hid hkn
  replace hmo := Lib.hid hmo
  replace hwr := Lib.hid hwr
  replace hwq := Lib.hid hwq
  replace hnr := Lib.hid hnr
  replace hs1 := Lib.hid hs1
  replace hs2 := Lib.hid hs2
  replace hs3 := Lib.hid hs3
  replace hmd := Lib.hid hmd
  replace hs4 := Lib.hid hs4
  replace hs5 := Lib.hid hs5
  go_enter Tryd.func41, Tryd.ntmps41
  go_wp2_with fail
  have hS0 : CS w b ts r cap ((w.alloc (.cells (chgC ⟨#[]⟩ noWin 0 0 0 (.slice none 0 0) 0 (.slice none 0 0) 0 0) 52)).alloc (.cells (chgC ⟨#[]⟩ noWin 0 1 0 (.slice none 0 0) 0 (.slice none 0 0) line col) 52)) s (chgC ⟨#[]⟩ noWin 0 1 0 (.slice none 0 0) 0 (.slice none 0 0) line col) :=
    ⟨⟨i, (h.below (bl_alloc (bl_refl w) _)).below (bl_alloc (bl_refl _) _)⟩, (Fr.of_below (bl_alloc (bl_refl w) _)).trans (Fr.of_below (bl_alloc (bl_refl _) _)), (Blk.new w _ _).alloc _, by have := Blk.new (w.alloc (.cells (chgC ⟨#[]⟩ noWin 0 0 0 (.slice none 0 0) 0 (.slice none 0 0) 0 0) 52)) 52 (chgC ⟨#[]⟩ noWin 0 1 0 (.slice none 0 0) 0 (.slice none 0 0) line col); rwa [World.size_alloc] at this, hb, hr⟩
  obtain ⟨j0, hP0⟩ := hS0.at_
  refine (hn.out _ _ hP0).mono ?_
  rintro e w1 ⟨rfl, hA1, hF1⟩
  have hS1 := hS0.call hF1 hA1
  obtain ⟨q0, q0'⟩ := hS1.cell 0 _ rfl
  have hl1 := hS1.lt
  go_wp2_with fail
  have hS2 : CS w b ts r cap _ _ (chgC n1 noWin 0 1 0 (.slice none 0 0) 0 (.slice none 0 0) line col) := hS1.put 0 [.string n1]
  obtain ⟨j2, hP2⟩ := hS2.at_
  refine (hw.out _ _ hP2).mono ?_
  rintro e w3 ⟨rfl, hA3, hF3⟩
  have hS3 := hS2.call hF3 hA3
  obtain ⟨-, z1, z2, z3, z4, z5, z6, z7, -, -, -, -, -, -, -, -, -, y1, y2, y3, y4, y5, y6, y7, -, -, -, -, -, -, -, -⟩ := hS3.cb.c16
  have hl3 := hS3.lt
  go_wp2_with fail
  have hS4 : CS w b ts r cap _ _ (chgC n1 x1 0 1 0 (.slice none 0 0) 0 (.slice none 0 0) line col) := hS3.put 1 [.bool x1.has, .int .i64 x1.from_.1, .int .i64 x1.from_.2.1, .int .i64 x1.from_.2.2, .int .i64 x1.to_.1, .int .i64 x1.to_.2.1, .int .i64 x1.to_.2.2]
  obtain ⟨j4, hP4⟩ := hS4.at_
  refine (ho.out _ _ hP4).mono ?_
  rintro e w5 ⟨rfl, hA5, hF5⟩
  have hS5 := hS4.call hF5 hA5
  obtain ⟨j5, hP5⟩ := hS5.at_
  go_wp2_with fail
  refine (hta.out _ _ hP5).mono ?_
  rintro e w6 ⟨rfl, hA6, hF6⟩
  have hS6 := hS5.call hF6 hA6
  clear hS5 hS4 hS3 hS2 hS1 hS0 hP0 hP2 hP4 hP5 hn hw ho hta hF1 hF3 hF5 hF6 hA1 hA3 hA5 hA6 q0 q0' z1 z2 z3 z4 z5 z6 z7 y1 y2 y3 y4 y5 y6 y7 hl1 hl3
  go_upto_if 23 with fail
  go_cut [] (fun wx => CS w b ts r cap wx a2 (chgC n1 x1 a1 1 0 (.slice none 0 0) 0 (.slice none 0 0) line col))
  case first =>
    obtain ⟨j6, hP6⟩ := hS6.at_
    cases ta1 with
    | true =>
      obtain ⟨rfl, rfl⟩ := Prod.mk.inj (hay.out rfl)
      go_wp2_with fail
      refine (hna.out _ _ hP6).mono ?_
      rintro e w7 ⟨rfl, hA7, hF7⟩
      have hS7 := hS6.call hF7 hA7
      obtain ⟨p8, p8'⟩ := hS7.cell 8 _ rfl
      have hl7 := hS7.lt
      go_wp2_with fail
      have hS8 : CS w b ts r cap _ _ (chgC n1 x1 a1 1 0 (.slice none 0 0) 0 (.slice none 0 0) line col) := hS7.put 8 [.int .i64 a1]
      obtain ⟨j8, hP8⟩ := hS8.at_
      refine (hsa.out _ _ hP8).mono ?_
      rintro e w9 ⟨rfl, hA9, hF9⟩
      go_wp2_with fail
      go_meet
      exact hS8.call hF9 hA9
    | false =>
      obtain ⟨rfl, rfl⟩ := Prod.mk.inj (han.out rfl)
      go_wp2_with fail
      go_meet
      exact hS6
  case rest =>
    clear hS6 hay han hna hsa
    obtain ⟨j9, hP9⟩ := hcut.at_
    go_wp2_with fail
    refine (htb.out _ _ hP9).mono ?_
    rintro e w10 ⟨rfl, hA10, hF10⟩
    have hS10 := hcut.call hF10 hA10
    clear hcut hA10 hF10 hP9 htb
    go_upto_if 30 with fail
    go_cut [] (fun wx => CS w b ts r cap wx bk2 (chgC n1 x1 a1 bk1 0 (.slice none 0 0) 0 (.slice none 0 0) line col))
    case first =>
      obtain ⟨j6, hP6⟩ := hS10.at_
      cases tb1 with
      | true =>
        obtain ⟨rfl, rfl⟩ := Prod.mk.inj (hby.out rfl)
        go_wp2_with fail
        refine (hnb.out _ _ hP6).mono ?_
        rintro e w7 ⟨rfl, hA7, hF7⟩
        have hS7 := hS10.call hF7 hA7
        obtain ⟨p8, p8'⟩ := hS7.cell 9 _ rfl
        have hl7 := hS7.lt
        go_wp2_with fail
        have hS8 : CS w b ts r cap _ _ (chgC n1 x1 a1 bk1 0 (.slice none 0 0) 0 (.slice none 0 0) line col) := hS7.put 9 [.int .i64 bk1]
        obtain ⟨j8, hP8⟩ := hS8.at_
        refine (hsb.out _ _ hP8).mono ?_
        rintro e w9 ⟨rfl, hA9, hF9⟩
        go_wp2_with fail
        go_meet
        exact hS8.call hF9 hA9
      | false =>
        obtain ⟨rfl, rfl⟩ := Prod.mk.inj (hbn.out rfl)
        go_wp2_with fail
        go_meet
        exact hS10
    case rest =>
      clear hS10 hby hbn hnb hsb
      have hbl := bl_alloc (bl_refl wc) (.cells #[.string wGraduated, .string wVolume] 9)
      have hl0 := hcut.lt
      have hS11 := hcut.below hbl
      obtain ⟨j11, hP11⟩ := hS11.at_
      have hko1 := hko.out _ _ hP11 wc.heap.size (by omega) (strs_blk (Blk.new wc _ _) rfl rfl rfl (Nat.le_refl _) (by decide))
      clear hko
      go_wp2_with fail
      refine hko1.mono ?_
      rintro e w12 ⟨rfl, hA12, hF12⟩
      have hS12 := hS11.call hF12 hA12
      obtain ⟨p8, p8'⟩ := hS12.cell 10 _ rfl
      have hl12 := hS12.lt
      clear hcut hko1 hA12 hF12 hP11 hS11 hbl
      go_upto_if 43 with fail
      have hS13 : CS w b ts r cap _ _ (chgC n1 x1 a1 bk1 ck1 (.slice none 0 0) 0 (.slice none 0 0) line col) := hS12.put 10 [.int .i64 ck1]
      clear hS12 p8 p8'
      go_cut [] (fun wx => CS w b ts r cap wx ck2 (chgC n1 x1 a1 bk1 ck1 (.slice none 0 0) 0 (.slice none 0 0) line col))
      case first =>
        cases hck : (ck1 == 0) with
        | true =>
          obtain rfl := hky.out hck
          obtain ⟨j6, hP6⟩ := hS13.at_
          go_wp2_with fail
          refine (hkw.out _ _ hP6).mono ?_
          rintro e w9 ⟨rfl, hA9, hF9⟩
          go_wp2_with fail
          go_meet
          exact hS13.call hF9 ⟨_, hA9⟩
        | false =>
          obtain rfl := hkn.out hck
          go_wp2_with fail
          go_meet
          exact hS13
      case rest =>
        clear hS13 hky hkn hkw
        obtain ⟨j13, hP13⟩ := hcut.at_
        go_wp2_with fail
        refine (hmo.out _ _ hP13).mono ?_
        rintro e w14 ⟨rfl, hA14, hF14⟩
        have hS14 := hcut.call hF14 hA14
        clear hcut hmo hP13 hA14 hF14
        /- LOOPS -/
        go_wp2_with fail
        have hlm : len m ≤ 100000 := by obtain ⟨j, hj⟩ := hS14.at_; rw [hj.len]; omega
        clear h
        go_loopw [] (fun wr => ∃ acc s' tv, CS w b ts r cap wr s' (chgC n1 x1 a1 bk1 ck1 tv 0 (.slice none 0 0) line col) ∧ wr.ownsRow w.heap.size 119 2 tv acc.length (acc.flatMap tierF) ∧ acc.length + len s' ≤ 100000 ∧ Hid (R.tierAll npV acc s' = (l1, l2))) (fun wr => ts.length - atOf wr b)
        case atStart => exact ⟨[], m, (.slice none 0 0), hS14, World.ownsRow_nil _ _ _ _, by simpa using hlm, HL⟩
        case round =>
          obtain ⟨acc, s', tv, hS, hown, hlen, HK⟩ := hrel
          clear HL hlm hS14
          obtain ⟨jr, hPr⟩ := hS.at_
          have hmea := atOf_eq hPr
          have hln := hPr.len
          have hjl := hPr.lt
          have htu := fun v i (h : RAt v b ts r cap i s') => take_any h wUpto
          cases hc : (R.take wUpto s').1 with
          | true =>
            have hst := rtierAll_step npV (acc := acc) hc
            have hle := rtier_round npV hc
            rw [HK.out] at hst
            rw [hc] at htu
            clear HK hc hPr
            generalize R.take wUpto s' = u at *
            obtain ⟨u1, u2⟩ := u
            have hnu := fun v i (h : RAt v b ts r cap i u2) => rnumber_any h 0 1000000
            simp only at hst hle
            generalize R.number npV 0 1000000 u2 = nu at *
            obtain ⟨nu1, nu2⟩ := nu
            have hwu := fun v i (h : RAt v b ts r cap i nu2) => want_any h wRate
            simp only at hst hle
            generalize R.want wRate nu2 = wu at *
            have hnt := fun v i (h : RAt v b ts r cap i wu) => rnumber_any h 6 1000000000000
            generalize R.number npV 6 1000000000000 wu = nt at *
            obtain ⟨nt1, nt2⟩ := nt
            have hsu := fun v i (h : RAt v b ts r cap i nt2) => want_any h wSemi
            simp only at hst hle
            generalize R.want wSemi nt2 = su at *
            have HK2 := Lib.hid hst.symm
            clear hst
            replace htu := Lib.hid htu
            replace hnu := Lib.hid hnu
            replace hwu := Lib.hid hwu
            replace hnt := Lib.hid hnt
            replace hsu := Lib.hid hsu
            obtain ⟨jp1, hP1⟩ := hS.at_
            go_wp2_with fail
            refine (htu.out _ _ hP1).mono ?_
            rintro e v1 ⟨rfl, hA1, hF1⟩
            have hS1 := hS.call hF1 hA1
            have hown1 := own_fr hown hF1 hb
            obtain ⟨jp2, hP2⟩ := hS1.at_
            go_wp2_with fail
            refine (hnu.out _ _ hP2).mono ?_
            rintro e v2 ⟨rfl, hA2, hF2⟩
            have hS2 := hS1.call hF2 hA2
            have hown2 := own_fr hown1 hF2 hb
            obtain ⟨jp3, hP3⟩ := hS2.at_
            go_wp2_with fail
            refine (hwu.out _ _ hP3).mono ?_
            rintro e v3 ⟨rfl, hA3, hF3⟩
            have hS3 := hS2.call hF3 hA3
            have hown3 := own_fr hown2 hF3 hb
            clear hP1 hP2 hP3 hA1 hA2 hA3 hF1 hF2 hF3 hS1 hS2 hown1 hown2 hown hS htu hnu hwu
            go_wp2_with fail
            obtain ⟨jp4, hP4⟩ := hS3.at_
            obtain ⟨g11, g11'⟩ := hS3.cell 11 tv rfl
            have hlx4 := hS3.lt
            have hpd4 := hnt.out _ _ hP4.drew
            go_region_law (first | (refine step_append_lies _ rfl (.tmp 55) (.tmp 60) 49 rfl w.heap.size 119 i0 _ 2 16 Tryd.underlying49 hi0 hz0 hz1 hz2 rfl (by decide) _ _ _ rfl (hown4.alloc _) ⟨v4.heap.size, 0, none⟩ 1 1 [.int .i64 nu1, .int .i64 nt1] rfl rfl (World.news_of_block (cs := #[.int .i64 nu1, .int .i64 nt1]) (t := 119) (fr := (0, 0)) (heap_alloc_new _ _)) (by simp [Value.oneCell']) (by decide) (by unfold maxLen; omega) (by omega) (by simp; omega) _ rfl ?_; intro g cp w5 hown5 hgrow5 hat5 hlt5; (have hS5 := (hS4.below (bl_alloc (bl_refl _) _)).grown (hown4.alloc _) hgrow5 (by decide)); obtain ⟨m11, m11'⟩ := hS5.cell 11 tv rfl; (have hl5 := hS5.lt)) | (go_simp; go_at_call 39; refine hpd4.mono ?_; rintro e v4 ⟨rfl, hA4, hF4⟩; (have hS4 := hS3.drew.call hF4 hA4); (have hown4 := own_fr hown3 hF4.ofDrew hb); obtain ⟨k11, k11'⟩ := hS4.cell 11 tv rfl; (have hly := hS4.lt); (have hsz4 := hS4.fr.size)))
            all_goals
              have hS6 : CS w b ts r cap _ _ (chgC n1 x1 a1 bk1 ck1 _ 0 (.slice none 0 0) line col) := hS5.put 11 [.slice (some ⟨g, 0, none⟩) (acc.length + 1) cp]
              have hown6 := own_put hown5 (own_ne_blk hown5 hS5.cb (by decide)) 11 [.slice (some ⟨g, 0, none⟩) (acc.length + 1) cp]
              obtain ⟨jp6, hP6⟩ := hS6.at_
              go_wp2_with fail
              refine (hsu.out _ _ hP6).mono ?_
              rintro e v7 ⟨rfl, hA7, hF7⟩
              have hS7 := hS6.call hF7 hA7
              have hown7 := own_fr hown6 hF7 hb
              obtain ⟨jp7, hP7⟩ := hS7.at_
              have hmea7 := atOf_eq hP7
              have hln7 := hP7.len
              go_wp2_with fail
              go_roundw
              case rel => exact ⟨acc ++ [⟨nu1, nt1⟩], su, _, hS7, by rw [flat_snoc, List.length_append]; exact hown7, by rw [List.length_append, List.length_singleton]; omega, HK2⟩
              case measure => omega
          | false =>
            have hend := rtierAll_end npV (acc := acc) hc
            rw [HK.out] at hend
            obtain ⟨rfl, rfl⟩ := Prod.mk.inj hend
            rw [hc, take_no hc] at htu
            clear HK hc hPr hend
            obtain ⟨jp1, hP1⟩ := hS.at_
            go_wp2_with fail
            refine (htu _ _ hP1).mono ?_
            rintro e v1 ⟨rfl, hA1, hF1⟩
            have hS1 := hS.call hF1 hA1
            have hown1 := own_fr hown hF1 hb
            obtain ⟨jp2, hP2⟩ := hS1.at_
            go_wp2_with fail
            refine (hwr.out _ _ hP2).mono ?_
            rintro e v2 ⟨rfl, hA2, hF2⟩
            have hS2 := hS1.call hF2 hA2
            have hown2 := own_fr hown1 hF2 hb
            obtain ⟨jp3, hP3⟩ := hS2.at_
            go_wp2_with fail
            refine (hwq.out _ _ hP3).mono ?_
            rintro e v3 ⟨rfl, hA3, hF3⟩
            have hS3 := hS2.call hF3 hA3
            have hown3 := own_fr hown2 hF3 hb
            clear hP1 hP2 hP3 hA1 hA2 hA3 hF1 hF2 hF3 hS1 hS2 hown1 hown2 hown hS htu hwr hwq
            go_upto_region 22 with fail
            go_cut [] (fun wx => ∃ tv, CS w b ts r cap wx nr2 (chgC n1 x1 a1 bk1 ck1 tv 0 (.slice none 0 0) line col) ∧ wx.ownsRow w.heap.size 119 2 tv (l1 ++ [Tier.mk 0 nr1]).length ((l1 ++ [Tier.mk 0 nr1]).flatMap tierF))
            case first =>
              obtain ⟨jp4, hP4⟩ := hS3.at_
              obtain ⟨g11, g11'⟩ := hS3.cell 11 tv rfl
              have hlx4 := hS3.lt
              have hpd4 := hnr.out _ _ hP4.drew
              go_region_law (first | (refine step_append_lies _ rfl (.tmp 70) (.tmp 74) 49 rfl w.heap.size 119 i0 _ 2 16 Tryd.underlying49 hi0 hz0 hz1 hz2 rfl (by decide) _ _ _ rfl (hown4.alloc _) ⟨v4.heap.size, 0, none⟩ 1 1 [.int .i64 0, .int .i64 nr1] rfl rfl (World.news_of_block (cs := #[.int .i64 0, .int .i64 nr1]) (t := 119) (fr := (0, 0)) (heap_alloc_new _ _)) (by simp [Value.oneCell']) (by decide) (by unfold maxLen; omega) (by omega) (by simp; omega) _ rfl ?_; intro g cp w5 hown5 hgrow5 hat5 hlt5; (have hS5 := (hS4.below (bl_alloc (bl_refl _) _)).grown (hown4.alloc _) hgrow5 (by decide)); obtain ⟨m11, m11'⟩ := hS5.cell 11 tv rfl; (have hl5 := hS5.lt)) | (go_simp; go_at_call 39; refine hpd4.mono ?_; rintro e v4 ⟨rfl, hA4, hF4⟩; (have hS4 := hS3.drew.call hF4 hA4); (have hown4 := own_fr hown3 hF4.ofDrew hb); obtain ⟨k11, k11'⟩ := hS4.cell 11 tv rfl; (have hly := hS4.lt); (have hsz4 := hS4.fr.size)))
              all_goals
                have hS6 : CS w b ts r cap _ _ (chgC n1 x1 a1 bk1 ck1 _ 0 (.slice none 0 0) line col) := hS5.put 11 [.slice (some ⟨g, 0, none⟩) (l1.length + 1) cp]
                have hown6 := own_put hown5 (own_ne_blk hown5 hS5.cb (by decide)) 11 [.slice (some ⟨g, 0, none⟩) (l1.length + 1) cp]
                go_wp2_with fail
                go_meet
                exact ⟨_, hS6, by rw [flat_snoc, List.length_append]; exact hown6⟩
            case rest =>
              clear hS3 hown3 hnr hlen hmea hln
              obtain ⟨tw, hS, hown⟩ := hcut
              obtain ⟨A0, c0, rfl, hcl0, hcm0, hA0⟩ := Lies.open (f := tierF) (l := l1 ++ [Tier.mk 0 nr1]) (Lies.of hown)
              rw [show (l1 ++ [Tier.mk 0 nr1]).length = l1.length + 1 from by simp] at hS hown hcl0
              clear hjl
              obtain ⟨jp1, hP1⟩ := hS.at_
              go_wp2_with fail
              refine (hs1.out _ _ hP1).mono ?_
              rintro e v1 ⟨rfl, hA1, hF1⟩
              have hS1 := hS.call hF1 hA1
              have hown1 := own_fr hown hF1 hb
              obtain ⟨jp2, hP2⟩ := hS1.at_
              go_wp2_with fail
              refine (hs2.out _ _ hP2).mono ?_
              rintro e v2 ⟨rfl, hA2, hF2⟩
              have hS2 := hS1.call hF2 hA2
              have hown2 := own_fr hown1 hF2 hb
              obtain ⟨jp3, hP3⟩ := hS2.at_
              go_wp2_with fail
              refine (hs3.out _ _ hP3).mono ?_
              rintro e v3 ⟨rfl, hA3, hF3⟩
              have hS3 := hS2.call hF3 hA3
              have hown3 := own_fr hown2 hF3 hb
              obtain ⟨jp4, hP4⟩ := hS3.at_
              go_wp2_with fail
              refine (hmd.out _ _ hP4).mono ?_
              rintro e v4 ⟨rfl, hA4, hF4⟩
              have hS4 := hS3.call hF4 hA4
              have hown4 := own_fr hown3 hF4 hb
              obtain ⟨p12, p12'⟩ := hS4.cell 12 _ rfl
              have hl4 := hS4.lt
              have hS5 : CS w b ts r cap _ _ (chgC n1 x1 a1 bk1 ck1 (.slice A0 (l1.length + 1) c0) md1 (.slice none 0 0) line col) := hS4.put 12 [.int .i64 md1]
              have hown5 := own_put hown4 (own_ne_blk hown4 hS4.cb (by decide)) 12 [.int .i64 md1]
              obtain ⟨jp6, hP6⟩ := hS5.at_
              go_wp2_with fail
              refine (hs4.out _ _ hP6).mono ?_
              rintro e v6 ⟨rfl, hA6, hF6⟩
              have hS6 := hS5.call hF6 hA6
              have hown6 := own_fr hown5 hF6 hb
              clear hP1 hP2 hP3 hP4 hP6 hA1 hA2 hA3 hA4 hA6 hF1 hF2 hF3 hF4 hF6 hS1 hS2 hS3 hS4 hS5 hown1 hown2 hown3 hown4 hown5 hown hS hs1 hs2 hs3 hmd hs4 p12 p12'
              go_wp2_with fail
              have hlm : len q6 ≤ 100000 := by obtain ⟨j, hj⟩ := hS6.at_; rw [hj.len]; omega
              go_loopw [] (fun wr => ∃ acc s' av, CS w b ts r cap wr s' (chgC n1 x1 a1 bk1 ck1 (.slice A0 (l1.length + 1) c0) md1 av line col) ∧ wr.ownsRow w.heap.size 121 3 av acc.length (acc.flatMap adjF) ∧ wr.ownsRow w.heap.size 119 2 (.slice A0 (l1.length + 1) c0) (l1.length + 1) ((l1 ++ [Tier.mk 0 nr1]).flatMap tierF) ∧ acc.length + len s' ≤ 100000 ∧ Hid (R.adjAll npV acc s' = (d1, d2))) (fun wr => ts.length - atOf wr b)
              case atStart => exact ⟨[], q6, (.slice none 0 0), hS6, World.ownsRow_nil _ _ _ _, hown6, by simpa using hlm, HD⟩
              case round =>
                obtain ⟨acc, s', av, hS, hown, hownT, hlen, HK⟩ := hrel
                clear HD hlm hS6 hown6
                obtain ⟨jr, hPr⟩ := hS.at_
                have hmea := atOf_eq hPr
                have hln := hPr.len
                have hjl := hPr.lt
                have hl0 := hS.lt
                have hbl := bl_alloc (bl_refl wr) (.cells #[.string wPercent, .string wCap, .string wMinimum, .string wAdd] 9)
                have hon := one_any (hPr.below hbl) wr.heap.size 4 [wPercent, wCap, wMinimum, wAdd] (by omega) (strs_blk (Blk.new wr _ _) rfl rfl rfl (Nat.le_refl _) (by decide)) (by simp)
                have hrg := one_range [wPercent, wCap, wMinimum, wAdd] 0 s'
                have hsh := one_shift [wPercent, wCap, wMinimum, wAdd] 0 s' (Int.le_refl _)
                have hno := one_none [wPercent, wCap, wMinimum, wAdd] 0 s' (Int.le_refl _)
                rw [← rone_eq] at hrg hno
                rw [Int.zero_add] at hsh
                have hst := @radjAll_step npV acc s'
                have hen := @radjAll_end npV acc s'
                have hrd := @radj_round npV s'
                rw [HK.out, hsh] at hst hen
                rw [hsh] at hrd
                simp only at hst hen hrd
                clear HK hsh hPr
                simp only [List.length_cons, List.length_nil, Nat.zero_add] at hon hrg
                generalize R.one [wPercent, wCap, wMinimum, wAdd] 0 s' = on at *
                obtain ⟨o1, o2⟩ := on
                simp only at hon hrg hno hst hen hrd
                obtain ⟨A, c3, rfl, hcl, hcm, hA⟩ := Lies.open (f := adjF) (l := acc) (Lies.of hown)
                unfold maxLen at hcm
                have hS1 := hS.below hbl
                have o1' := hown.alloc (.cells #[.string wPercent, .string wCap, .string wMinimum, .string wAdd] 9)
                have u1' := hownT.alloc (.cells #[.string wPercent, .string wCap, .string wMinimum, .string wAdd] 9)
                by_cases hneg : o1 < 0
                · have ho1 : o1 = -1 := by omega
                  obtain ⟨rfl, rfl⟩ := Prod.mk.inj (hen (by rw [if_pos hneg]; decide))
                  obtain rfl := hno ho1
                  subst ho1
                  clear hst hen hrd hno hneg hrg
                  go_wp2_with fail
                  refine hon.mono ?_
                  rintro e v2 ⟨rfl, hA2, hF2⟩
                  have hS2 := hS1.call hF2 hA2
                  have o2' := own_fr o1' hF2 hb
                  have u2' := own_fr u1' hF2 hb
                  obtain ⟨j2, hP2⟩ := hS2.at_
                  go_wp2_with fail
                  refine (hs5.out _ _ hP2).mono ?_
                  rintro e v3 ⟨rfl, hA3, hF3⟩
                  have hS3 := hS2.call hF3 hA3
                  have o3' := own_fr o2' hF3 hb
                  have u3' := own_fr u2' hF3 hb
                  obtain ⟨j3, hP3⟩ := hS3.at_
                  have hr3 := hS3.hr
                  have o4' := own_row (cs := (chgC n1 x1 a1 bk1 ck1 (.slice A0 (l1.length + 1) c0) md1 (.slice A d1.length c3) line col)) o3' (own_ne_blk o3' hS3.rb (by decide))
                  have u4' := own_row (cs := (chgC n1 x1 a1 bk1 ck1 (.slice A0 (l1.length + 1) c0) md1 (.slice A d1.length c3) line col)) u3' (own_ne_blk u3' hS3.rb (by decide))
                  have hP4 := hP3.row_ (g := w.heap.size) (cs := (chgC n1 x1 a1 bk1 ck1 (.slice A0 (l1.length + 1) c0) md1 (.slice A d1.length c3) line col)) (by omega) (by omega)
                  have hF4 := hS3.fr.row (g := w.heap.size) (cs := (chgC n1 x1 a1 bk1 ck1 (.slice A0 (l1.length + 1) c0) md1 (.slice A d1.length c3) line col)) (Nat.le_refl _)
                  skip
                  have hsc : (storeCells ⟨w.heap.size, 0, none⟩ (chgC n1 x1 a1 bk1 ck1 (.slice A0 (l1.length + 1) c0) md1 (.slice A d1.length c3) line col).toList).run Tryd.prog v3 = .ok () (v3.setRow w.heap.size (chgC n1 x1 a1 bk1 ck1 (.slice A0 (l1.length + 1) c0) md1 (.slice A d1.length c3) line col)) := by
                    have hq := run_storeCells_from (P := Tryd.prog) w.heap.size 52 (chgC n1 x1 a1 bk1 ck1 (.slice A0 (l1.length + 1) c0) md1 (.slice A d1.length c3) line col).toList 0 _ v3 hS3.rb rfl (by simp [chgC, Value.oneCell'])
                    simpa using hq
                  go_wp2_with (refine wpList_load_row rfl 52 (.tmp 7) rfl (w.heap.size + 1) rfl 52 (chgC n1 x1 a1 bk1 ck1 (.slice A0 (l1.length + 1) c0) md1 (.slice A d1.length c3) line col) (0, 0) _ hS3.cb Tryd.underlying52 rfl (by kernel_rfl) ?_)
                  exact bodyPost_ret (results_cell_row rfl _ _ w.heap.size _ (chgC n1 x1 a1 bk1 ck1 (.slice A0 (l1.length + 1) c0) md1 (.slice A d1.length c3) line col) (0, 0) _ rfl (Blk.row hS3.rb) Tryd.underlying52 rfl (by kernel_rfl)) rfl ⟨.slice A0 (l1.length + 1) c0, .slice A d1.length c3, rfl, (by show World.ownsRow _ _ _ _ _ (l1 ++ [Tier.mk 0 nr1]).length _; rw [List.length_append]; exact u4'), o4', ⟨j3, hP4⟩, hF4⟩
                · have hge : 0 ≤ o1 := by omega
                  have hno2 : ¬ (if o1 < 0 then -1 else o1 + 1) < 0 := by rw [if_neg hneg]; omega
                  have hst2 := hst hno2
                  have hrd2 := hrd hno2
                  rw [if_neg hneg, Int.add_comm] at hst2 hrd2
                  have hz : (1 + o1 == 0) = false := beq_eq_false_iff_ne.2 (by omega)
                  have hole : o1 ≤ 3 := by omega
                  clear hst hen hrd hno hno2 hrg
                  by_cases hone : o1 = 0
                  · subst hone
                    clear hz hole hneg
                    have hab : R.adjBody npV (1 + 0) o2 = (⟨1, (R.number npV 3 100000000 o2).1, (R.mode (R.number npV 3 100000000 o2).2).1⟩, R.want wSemi (R.mode (R.number npV 3 100000000 o2).2).2) := by unfold R.adjBody; rw [if_pos (by decide)]
                    rw [hab] at hst2 hrd2
                    clear hab
                    have hnu2 := fun v i (h : RAt v b ts r cap i o2) => rnumber_any h 3 100000000
                    generalize R.number npV 3 100000000 o2 = nu at *
                    obtain ⟨nu1, nu2⟩ := nu
                    have hmo2 := fun v i (h : RAt v b ts r cap i nu2) => rmode_any h
                    simp only at hst2 hrd2 hnu2
                    generalize R.mode nu2 = mo at *
                    obtain ⟨mo1, mo2⟩ := mo
                    have hsu2 := fun v i (h : RAt v b ts r cap i mo2) => want_any h wSemi
                    simp only at hst2 hrd2 hmo2
                    generalize R.want wSemi mo2 = su at *
                    have HK2 := Lib.hid hst2.symm
                    clear hst2
                    go_wp2_with fail
                    refine hon.mono ?_
                    rintro e v2 ⟨rfl, hA2, hF2⟩
                    have hS2 := hS1.call hF2 hA2
                    have o2' := own_fr o1' hF2 hb
                    have u2' := own_fr u1' hF2 hb
                    have kA := Blk.new v2 121 #[.int .i64 1, .int .i64 0, .int .i64 0]
                    have hS2b := hS2.below (bl_alloc (bl_refl v2) (.cells #[.int .i64 1, .int .i64 0, .int .i64 0] 121))
                    have o2b := o2'.alloc (.cells #[.int .i64 1, .int .i64 0, .int .i64 0] 121)
                    have u2b := u2'.alloc (.cells #[.int .i64 1, .int .i64 0, .int .i64 0] 121)
                    have neo : (Value.slice A acc.length c3).ownBlock ≠ some v2.heap.size := fun e => by have := (o2'.lt _ e).2; omega
                    have neu : (Value.slice A0 (l1.length + 1) c0).ownBlock ≠ some v2.heap.size := fun e => by have := (u2'.lt _ e).2; omega
                    have hl2 := hS2.lt
                    have hsz2 := hS2.fr.size
                    obtain ⟨j2, hP2⟩ := hS2b.at_
                    clear hon hF2 hA2 hS1 o1' u1'
                    go_wp2_with fail
                    refine (hnu2 _ _ hP2).mono ?_
                    rintro e v3 ⟨rfl, hA3, hF3⟩
                    have hS3 := hS2b.call hF3 hA3
                    have o3' := own_fr o2b hF3 hb
                    have u3' := own_fr u2b hF3 hb
                    have kA3 := hF3.blk kA (by omega)
                    obtain ⟨a0', a1', a2', f0', f1', f2'⟩ := kA3.c3
                    have hlA := kA3.lt
                    have hS4 := hS3.putOther (g := v2.heap.size) (by omega) 1 [.int .i64 nu1]
                    have kA4 : Blk _ v2.heap.size 121 #[.int .i64 1, .int .i64 nu1, .int .i64 0] := kA3.putAll [.int .i64 nu1] 1
                    have o4' := own_put o3' neo 1 [.int .i64 nu1]
                    have u4' := own_put u3' neu 1 [.int .i64 nu1]
                    obtain ⟨j4, hP4⟩ := hS4.at_
                    go_wp2_with fail
                    refine (hmo2 _ _ hP4).mono ?_
                    rintro e v5 ⟨rfl, hA5, hF5⟩
                    have hS5 := hS4.call hF5 hA5
                    have o5' := own_fr o4' hF5 hb
                    have u5' := own_fr u4' hF5 hb
                    have kA5 := hF5.blk kA4 (by omega)
                    clear a0' a1' a2' f0' f1' f2'
                    obtain ⟨a0', a1', a2', f0', f1', f2'⟩ := kA5.c3
                    have hlA5 := kA5.lt
                    have hS6 := hS5.putOther (g := v2.heap.size) (by omega) 2 [.int .i64 mo1]
                    have kA6 : Blk _ v2.heap.size 121 #[.int .i64 1, .int .i64 nu1, .int .i64 mo1] := kA5.putAll [.int .i64 mo1] 2
                    have o6' := own_put o5' neo 2 [.int .i64 mo1]
                    have u6' := own_put u5' neu 2 [.int .i64 mo1]
                    obtain ⟨j7, hP7⟩ := hS6.at_
                    go_wp2_with fail
                    refine (hsu2 _ _ hP7).mono ?_
                    rintro e v8 ⟨rfl, hA8, hF8⟩
                    have hS8 := hS6.call hF8 hA8
                    have o8' := own_fr o6' hF8 hb
                    have u8' := own_fr u6' hF8 hb
                    have kA8 := hF8.blk kA6 (by omega)
                    clear a0' a1' a2' f0' f1' f2'
                    obtain ⟨a0', a1', a2', f0', f1', f2'⟩ := kA8.c3
                    obtain ⟨m13, m13'⟩ := hS8.cell 13 (.slice A acc.length c3) rfl
                    have hl8 := hS8.lt
                    have hlA8 := kA8.lt
                    have hsz8 := hS8.fr.size
                    have hS9 := hS8.below (bl_alloc (bl_refl v8) (.cells #[.int .i64 1, .int .i64 nu1, .int .i64 mo1] 121))
                    have o9' := o8'.alloc (.cells #[.int .i64 1, .int .i64 nu1, .int .i64 mo1] 121)
                    have u9' := u8'.alloc (.cells #[.int .i64 1, .int .i64 nu1, .int .i64 mo1] 121)
                    go_wp2_with (at_builtin; refine wpList_append_lies _ rfl (.tmp 110) (.tmp 112) 50 rfl w.heap.size 121 i1 _ 3 24 Tryd.underlying50 hi1 hy0 hy1 hy2 rfl (by decide) _ _ _ rfl o9' ⟨v8.heap.size, 0, none⟩ 1 1 [.int .i64 1, .int .i64 nu1, .int .i64 mo1] rfl rfl (World.news_of_block (cs := #[.int .i64 1, .int .i64 nu1, .int .i64 mo1]) (t := 121) (fr := (0, 0)) (heap_alloc_new _ _)) (by simp [Value.oneCell']) (by decide) (by unfold maxLen; omega) (by omega) (by simp; omega) _ rfl ?_; intro g cp w10 hown10 hgrow10 hat10 hlt10; (have hS10 := hS9.grown o9' hgrow10 (by decide)); obtain ⟨n13, n13'⟩ := hS10.cell 13 (.slice A acc.length c3) rfl; have hl10 := hS10.lt)
                    have hS11 : CS w b ts r cap _ _ (chgC n1 x1 a1 bk1 ck1 (.slice A0 (l1.length + 1) c0) md1 (.slice (some ⟨g, 0, none⟩) (acc.length + 1) cp) line col) := hS10.put 13 [.slice (some ⟨g, 0, none⟩) (acc.length + 1) cp]
                    have hown11 := own_put hown10 (own_ne_blk hown10 hS10.cb (by decide)) 13 [.slice (some ⟨g, 0, none⟩) (acc.length + 1) cp]
                    have u10 := u9'.kept hgrow10 (by
                      rcases ho : (Value.slice A0 (l1.length + 1) c0).ownBlock with _ | x
                      · exact .inl rfl
                      · exact .inr (fun e => own_ne_own u9' o9' (by decide) ho e.symm))
                    have u11 := own_put u10 (own_ne_blk u10 hS10.cb (by decide)) 13 [.slice (some ⟨g, 0, none⟩) (acc.length + 1) cp]
                    obtain ⟨j11, hP11⟩ := hS11.at_
                    have hmea11 := atOf_eq hP11
                    have hln11 := hP11.len
                    go_roundw
                    case rel => exact ⟨acc ++ [⟨1, nu1, mo1⟩], su, _, hS11, by rw [flat_snoc, List.length_append]; exact hown11, u11, by rw [List.length_append, List.length_singleton]; omega, HK2⟩
                    case measure => exact (by omega : ts.length - atOf (puts w10 (w.heap.size + 1) 13 [.slice (some ⟨g, 0, none⟩) (acc.length + 1) cp]) b < ts.length - atOf wr b)
                  · have hz1 : (1 + o1 == 1) = false := beq_eq_false_iff_ne.2 (by omega)
                    have hab : R.adjBody npV (1 + o1) o2 = (⟨1 + o1, (R.number npV 0 1000000000000 o2).1, 0⟩, R.want wSemi (R.number npV 0 1000000000000 o2).2) := by unfold R.adjBody; rw [if_neg (by omega)]
                    rw [hab] at hst2 hrd2
                    clear hab
                    have hnu2 := fun v i (h : RAt v b ts r cap i o2) => rnumber_any h 0 1000000000000
                    generalize R.number npV 0 1000000000000 o2 = nu at *
                    obtain ⟨nu1, nu2⟩ := nu
                    have hsu2 := fun v i (h : RAt v b ts r cap i nu2) => want_any h wSemi
                    simp only at hst2 hrd2 hnu2
                    generalize R.want wSemi nu2 = su at *
                    have HK2 := Lib.hid hst2.symm
                    clear hst2
                    go_wp2_with fail
                    refine hon.mono ?_
                    rintro e v2 ⟨rfl, hA2, hF2⟩
                    have hS2 := hS1.call hF2 hA2
                    have o2' := own_fr o1' hF2 hb
                    have u2' := own_fr u1' hF2 hb
                    have kA := Blk.new v2 121 #[.int .i64 (1 + o1), .int .i64 0, .int .i64 0]
                    have hS2b := hS2.below (bl_alloc (bl_refl v2) (.cells #[.int .i64 (1 + o1), .int .i64 0, .int .i64 0] 121))
                    have o2b := o2'.alloc (.cells #[.int .i64 (1 + o1), .int .i64 0, .int .i64 0] 121)
                    have u2b := u2'.alloc (.cells #[.int .i64 (1 + o1), .int .i64 0, .int .i64 0] 121)
                    have neo : (Value.slice A acc.length c3).ownBlock ≠ some v2.heap.size := fun e => by have := (o2'.lt _ e).2; omega
                    have neu : (Value.slice A0 (l1.length + 1) c0).ownBlock ≠ some v2.heap.size := fun e => by have := (u2'.lt _ e).2; omega
                    have hl2 := hS2.lt
                    have hsz2 := hS2.fr.size
                    obtain ⟨j2, hP2⟩ := hS2b.at_
                    clear hon hF2 hA2 hS1 o1' u1'
                    go_wp2_with fail
                    refine (hnu2 _ _ hP2).mono ?_
                    rintro e v3 ⟨rfl, hA3, hF3⟩
                    have hS3 := hS2b.call hF3 hA3
                    have o3' := own_fr o2b hF3 hb
                    have u3' := own_fr u2b hF3 hb
                    have kA3 := hF3.blk kA (by omega)
                    obtain ⟨a0', a1', a2', f0', f1', f2'⟩ := kA3.c3
                    have hlA := kA3.lt
                    have hS4 := hS3.putOther (g := v2.heap.size) (by omega) 1 [.int .i64 nu1]
                    have kA4 : Blk _ v2.heap.size 121 #[.int .i64 (1 + o1), .int .i64 nu1, .int .i64 0] := kA3.putAll [.int .i64 nu1] 1
                    have o4' := own_put o3' neo 1 [.int .i64 nu1]
                    have u4' := own_put u3' neu 1 [.int .i64 nu1]
                    obtain ⟨j7, hP7⟩ := hS4.at_
                    go_wp2_with fail
                    refine (hsu2 _ _ hP7).mono ?_
                    rintro e v8 ⟨rfl, hA8, hF8⟩
                    have hS8 := hS4.call hF8 hA8
                    have o8' := own_fr o4' hF8 hb
                    have u8' := own_fr u4' hF8 hb
                    have kA8 := hF8.blk kA4 (by omega)
                    clear a0' a1' a2' f0' f1' f2'
                    obtain ⟨a0', a1', a2', f0', f1', f2'⟩ := kA8.c3
                    obtain ⟨m13, m13'⟩ := hS8.cell 13 (.slice A acc.length c3) rfl
                    have hl8 := hS8.lt
                    have hlA8 := kA8.lt
                    have hsz8 := hS8.fr.size
                    have hS9 := hS8.below (bl_alloc (bl_refl v8) (.cells #[.int .i64 (1 + o1), .int .i64 nu1, .int .i64 0] 121))
                    have o9' := o8'.alloc (.cells #[.int .i64 (1 + o1), .int .i64 nu1, .int .i64 0] 121)
                    have u9' := u8'.alloc (.cells #[.int .i64 (1 + o1), .int .i64 nu1, .int .i64 0] 121)
                    go_wp2_with (at_builtin; refine wpList_append_lies _ rfl (.tmp 110) (.tmp 112) 50 rfl w.heap.size 121 i1 _ 3 24 Tryd.underlying50 hi1 hy0 hy1 hy2 rfl (by decide) _ _ _ rfl o9' ⟨v8.heap.size, 0, none⟩ 1 1 [.int .i64 (1 + o1), .int .i64 nu1, .int .i64 0] rfl rfl (World.news_of_block (cs := #[.int .i64 (1 + o1), .int .i64 nu1, .int .i64 0]) (t := 121) (fr := (0, 0)) (heap_alloc_new _ _)) (by simp [Value.oneCell']) (by decide) (by unfold maxLen; omega) (by omega) (by simp; omega) _ rfl ?_; intro g cp w10 hown10 hgrow10 hat10 hlt10; (have hS10 := hS9.grown o9' hgrow10 (by decide)); obtain ⟨n13, n13'⟩ := hS10.cell 13 (.slice A acc.length c3) rfl; have hl10 := hS10.lt)
                    have hS11 : CS w b ts r cap _ _ (chgC n1 x1 a1 bk1 ck1 (.slice A0 (l1.length + 1) c0) md1 (.slice (some ⟨g, 0, none⟩) (acc.length + 1) cp) line col) := hS10.put 13 [.slice (some ⟨g, 0, none⟩) (acc.length + 1) cp]
                    have hown11 := own_put hown10 (own_ne_blk hown10 hS10.cb (by decide)) 13 [.slice (some ⟨g, 0, none⟩) (acc.length + 1) cp]
                    have u10 := u9'.kept hgrow10 (by
                      rcases ho : (Value.slice A0 (l1.length + 1) c0).ownBlock with _ | x
                      · exact .inl rfl
                      · exact .inr (fun e => own_ne_own u9' o9' (by decide) ho e.symm))
                    have u11 := own_put u10 (own_ne_blk u10 hS10.cb (by decide)) 13 [.slice (some ⟨g, 0, none⟩) (acc.length + 1) cp]
                    obtain ⟨j11, hP11⟩ := hS11.at_
                    have hmea11 := atOf_eq hP11
                    have hln11 := hP11.len
                    go_roundw
                    case rel => exact ⟨acc ++ [⟨(1 + o1), nu1, 0⟩], su, _, hS11, by rw [flat_snoc, List.length_append]; exact hown11, u11, by rw [List.length_append, List.length_singleton]; omega, HK2⟩
                    case measure => exact (by omega : ts.length - atOf (puts w10 (w.heap.size + 1) 13 [.slice (some ⟨g, 0, none⟩) (acc.length + 1) cp]) b < ts.length - atOf wr b)
end Go.Proofs.YtcgkfgklggjmaaaDoor.Par
end
section
namespace Go.Proofs.YtcgkfgklggjmaaaDoor.Par
set_option linter.unusedVariables false
set_option linter.unusedSimpArgs false
open Go.RowKit
/-- within the reference's Parse -/
structure RS (w0 : World) (b O : Nat) (ts : List Tok) (r cap : Nat) (w : World) (s : St) (p : Plan) (mv fv cv : Value) (cs : List CT) : Prop where
  at_ : ∃ j, RAt w b ts r cap j s
  bl : Below w0.heap.size w0 w
  rb : Blk w w0.heap.size 29 (planC noPlan (.slice none 0 0) (.slice none 0 0) (.slice none 0 0))
  ob : Blk w O 29 (planC p mv fv cv)
  rows : Rows w w0.heap.size p mv fv cv cs
  hb : w0.heap.size ≤ b
  hO : w0.heap.size < O
section
variable {w0 : World} {b O : Nat} {ts : List Tok} {r cap : Nat} {w w' : World} {s s' : St} {p : Plan} {mv fv cv : Value} {cs : List CT}
theorem RS.nb (h : RS w0 b O ts r cap w s p mv fv cv cs) : ¬ blocks mv fv cv cs b := by
  obtain ⟨j, hj⟩ := h.at_
  exact h.rows.apart hj.blk (by decide) (by decide) (by decide) (by decide) (by decide)
theorem RS.nO (h : RS w0 b O ts r cap w s p mv fv cv cs) : ¬ blocks mv fv cv cs O := h.rows.apart h.ob (by decide) (by decide) (by decide) (by decide) (by decide)
theorem RS.nR (h : RS w0 b O ts r cap w s p mv fv cv cs) : ¬ blocks mv fv cv cs w0.heap.size := h.rows.apart h.rb (by decide) (by decide) (by decide) (by decide) (by decide)
theorem RS.nes (h : RS w0 b O ts r cap w s p mv fv cv cs) : b ≠ O ∧ b ≠ w0.heap.size ∧ r ≠ O ∧ r ≠ w0.heap.size := by
  obtain ⟨j, hj⟩ := h.at_
  exact ⟨Blk.ne_ hj.blk h.ob (by decide), Blk.ne_ hj.blk h.rb (by decide), fun e => own_ne_blk hj.row h.ob (by decide) (congrArg some e), fun e => own_ne_blk hj.row h.rb (by decide) (congrArg some e)⟩
theorem RS.call (h : RS w0 b O ts r cap w s p mv fv cv cs) (hf : Fr b w w') (ha : ∃ j, RAt w' b ts r cap j s') : RS w0 b O ts r cap w' s' p mv fv cv cs := by
  obtain ⟨h1, h2, h3, h4⟩ := h.nes
  exact ⟨ha, Fr.toBelow h.bl hf h.hb, hf.blk h.rb (Ne.symm h2), hf.blk h.ob (Ne.symm h1), h.rows.fr hf h.nb, h.hb, h.hO⟩
theorem RS.below (h : RS w0 b O ts r cap w s p mv fv cv cs) (hf : Below w.heap.size w w') : RS w0 b O ts r cap w' s p mv fv cv cs :=
  h.call (Fr.of_below hf) (by obtain ⟨j, hj⟩ := h.at_; exact ⟨j, hj.below hf⟩)
theorem RS.alloc (h : RS w0 b O ts r cap w s p mv fv cv cs) (o : Obj) : RS w0 b O ts r cap (w.alloc o) s p mv fv cv cs := h.below (bl_alloc (bl_refl _) o)
theorem RS.drew (h : RS w0 b O ts r cap w s p mv fv cv cs) : RS w0 b O ts r cap w.drew s p mv fv cv cs := h.below (bl_drew (bl_refl _))
theorem RS.lt (h : RS w0 b O ts r cap w s p mv fv cv cs) : O < w.heap.size ∧ w0.heap.size < w.heap.size := ⟨h.ob.lt, h.rb.lt⟩
theorem RS.cell (h : RS w0 b O ts r cap w s p mv fv cv cs) (k : Nat) (v : Value) (hv : (planC p mv fv cv)[k]? = some v) : w.cell? ⟨O, k, none⟩ = some v ∧ w.frozen? ⟨O, k, none⟩ = false := ⟨(h.ob.cell k).trans hv, h.ob.frozen k⟩
/-- stores into the plan itself, the rows as they are -/
theorem RS.putO (h : RS w0 b O ts r cap w s p mv fv cv cs) (k : Nat) (vs : List Value) (q : Plan) (hc : setsA (planC p mv fv cv) k vs = planC q mv fv cv) (h1 : q.mets = p.mets) (h2 : q.fees = p.fees) (h3 : q.chgs = p.chgs) : RS w0 b O ts r cap (puts w O k vs) s q mv fv cv cs := by
  obtain ⟨e1, e2, e3, e4⟩ := h.nes
  obtain ⟨j, hj⟩ := h.at_
  have hO := h.hO
  have hr := h.rows.puts_ h.nO k vs
  exact ⟨⟨j, hj.putAll e1 e3 k vs⟩, bl_puts h.bl (by omega) k vs, h.rb.putsFar (by omega) k vs, by have := h.ob.putAll vs k; rwa [hc] at this,
    ⟨by rw [h1]; exact hr.mo, by rw [h2]; exact hr.fo, hr.co, by rw [h3]; exact hr.eq, hr.ne⟩, h.hb, hO⟩
/-- stores into a block of one's own -/
theorem RS.putM (h : RS w0 b O ts r cap w s p mv fv cv cs) {g : Nat} {T : TypeId} {cells : Array Value} (hk : Blk w g T cells) (t1 : 75 ≠ T) (t2 : 29 ≠ T) (t3 : 61 ≠ T) (hg : w0.heap.size ≤ g) (hn : ¬ blocks mv fv cv cs g) (k : Nat) (vs : List Value) : RS w0 b O ts r cap (puts w g k vs) s p mv fv cv cs := by
  obtain ⟨j, hj⟩ := h.at_
  have e1 := Blk.ne_ hj.blk hk t1
  have e2 := Blk.ne_ h.ob hk t2
  have e3 := Blk.ne_ h.rb hk t2
  have e4 : r ≠ g := fun e => own_ne_blk hj.row hk t3 (congrArg some e)
  exact ⟨⟨j, hj.putAll e1 e4 k vs⟩, bl_puts h.bl hg k vs, h.rb.putsFar e3 k vs, h.ob.putsFar e2 k vs, h.rows.puts_ hn k vs, h.hb, h.hO⟩
theorem RS.grown {e : TypeId} {size n : Nat} {v : Value} {xs : List Value} (h : RS w0 b O ts r cap w s p mv fv cv cs) (ho : w.ownsRow w0.heap.size e size v n xs) (hg : w.grownBy w' v.ownBlock) (t1 : e ≠ 75) (t2 : e ≠ 29) (t3 : e ≠ 61) :
    (∃ j, RAt w' b ts r cap j s) ∧ Below w0.heap.size w0 w' ∧ Blk w' w0.heap.size 29 (planC noPlan (.slice none 0 0) (.slice none 0 0) (.slice none 0 0)) ∧ Blk w' O 29 (planC p mv fv cv) := by
  obtain ⟨j, hj⟩ := h.at_
  refine ⟨⟨j, hj.grown hg (own_ne_blk ho hj.blk t1) (fun e => own_ne_own ho hj.row t3 e rfl)⟩, h.bl.grown hg h.bl.size (fun k hk => (ho.lt k hk).1), h.rb.grown hg (fun e => own_ne_blk ho h.rb t2 e.symm), h.ob.grown hg (fun e => own_ne_blk ho h.ob t2 e.symm)⟩
theorem RS.addMet {mv' : Value} {m : Met} (h : RS w0 b O ts r cap w s p mv fv cv cs) (hg : w.grownBy w' mv.ownBlock) (ho : w'.ownsRow w0.heap.size 44 5 mv' (p.mets.length + 1) (p.mets.flatMap metF ++ metF m)) :
    Blk w' O 29 (planC p mv fv cv) ∧ RS w0 b O ts r cap (puts w' O 8 [mv']) s { p with mets := p.mets ++ [m] } mv' fv cv cs := by
  obtain ⟨e1, e2, e3, e4⟩ := h.nes
  obtain ⟨⟨j, hj⟩, hb, hr, hob⟩ := h.grown h.rows.mo hg (by decide) (by decide) (by decide)
  have hrows := h.rows.addMet hg ho
  have hn := hrows.apart hob (by decide) (by decide) (by decide) (by decide) (by decide)
  have hO := h.hO
  exact ⟨hob, ⟨j, hj.putAll e1 e3 8 _⟩, bl_puts hb (by omega) 8 _, hr.putsFar (by omega) 8 _, hob.putAll [mv'] 8, hrows.puts_ hn 8 _, h.hb, hO⟩
theorem RS.addFee {fv' : Value} {f : Fee} (h : RS w0 b O ts r cap w s p mv fv cv cs) (hg : w.grownBy w' fv.ownBlock) (ho : w'.ownsRow w0.heap.size 48 10 fv' (p.fees.length + 1) (p.fees.flatMap feeF ++ feeF f)) :
    Blk w' O 29 (planC p mv fv cv) ∧ RS w0 b O ts r cap (puts w' O 9 [fv']) s { p with fees := p.fees ++ [f] } mv fv' cv cs := by
  obtain ⟨e1, e2, e3, e4⟩ := h.nes
  obtain ⟨⟨j, hj⟩, hb, hr, hob⟩ := h.grown h.rows.fo hg (by decide) (by decide) (by decide)
  have hrows := h.rows.addFee hg ho
  have hn := hrows.apart hob (by decide) (by decide) (by decide) (by decide) (by decide)
  have hO := h.hO
  exact ⟨hob, ⟨j, hj.putAll e1 e3 9 _⟩, bl_puts hb (by omega) 9 _, hr.putsFar (by omega) 9 _, hob.putAll [fv'] 9, hrows.puts_ hn 9 _, h.hb, hO⟩
theorem RS.addChg {cv' tv av : Value} {c : Chg} (h : RS w0 b O ts r cap w s p mv fv cv cs) (ht : TiersLie w0.heap.size w tv c.tiers) (ha : AdjsLie w0.heap.size w av c.adjs) (hg : w.grownBy w' cv.ownBlock) (ho : w'.ownsRow w0.heap.size 52 16 cv' (cs.length + 1) (cs.flatMap chgF ++ chgF (c, tv, av))) :
    Blk w' O 29 (planC p mv fv cv) ∧ RS w0 b O ts r cap (puts w' O 10 [cv']) s { p with chgs := p.chgs ++ [c] } mv fv cv' (cs ++ [(c, tv, av)]) := by
  obtain ⟨e1, e2, e3, e4⟩ := h.nes
  obtain ⟨⟨j, hj⟩, hb, hr, hob⟩ := h.grown h.rows.co hg (by decide) (by decide) (by decide)
  have hrows := h.rows.addChg ht ha hg ho
  have hn := hrows.apart hob (by decide) (by decide) (by decide) (by decide) (by decide)
  have hO := h.hO
  exact ⟨hob, ⟨j, hj.putAll e1 e3 10 _⟩, bl_puts hb (by omega) 10 _, hr.putsFar (by omega) 10 _, hob.putAll [cv'] 10, hrows.puts_ hn 10 _, h.hb, hO⟩
end
end Go.Proofs.YtcgkfgklggjmaaaDoor.Par
end
section
namespace Go.Proofs.YtcgkfgklggjmaaaDoor.Par
set_option linter.unusedVariables false
set_option linter.unusedSimpArgs false
open Go.RowKit
section
variable {P : Program} {md : Region.Mode} {ops : Array Oper} {Q : Exit → Act → World → Prop} {S : World → Prop}
theorem take_want {i d : Nat} {oi : Oper} {v : Value} {fuel : Nat} {listed : Array Bool} {a : Act} {w : World} (hi : ops[i]? = some oi) (hd : oi.dst = some d)
    (hs : Region.noSelect ops = true) (hf : Region.free md ops listed i = true) (hr : (Region.ready md ops listed).contains i = true)
    (hQ : ∀ c a w, Q (.panic c) (a.put oi.dst v) w → Q (.panic c) a w) (hw : Region.wanted oi (yielded ops a.tmps) = true) (hy : ∀ w, S w → (execOp a.eval oi).run P w = .ok (.value v) w) (hS : S w)
    (h : wpAnyH P md ops Q S fuel (listed.setIfInBounds i true) { a with tmps := a.tmps.setIfInBounds d v } w) : wpAnyH P md ops Q S (fuel + 1) listed a w :=
  wpAnyH_take hi hs hf hr hQ (.inl ⟨hw, hy⟩) hS (by rw [hd]; exact h)
end
def meas (s : St) : Nat := 2 * len s + (if s.err = 0 then 1 else 0)
theorem ritem_len (p : Plan) (s : St) : len (R.item dp npV p s).2 ≤ len s := by
  unfold R.item
  simp only
  have h1 := len_rone [wMeter, wFee, wCharge] 0 s
  split
  · exact Nat.le_trans (len_rmeter npV (peek s).line (peek s).col _) h1
  · split
    · exact Nat.le_trans (len_rfee dp npV (peek s).line (peek s).col _) h1
    · split
      · exact Nat.le_trans (len_rcharge dp npV (peek s).line (peek s).col _) h1
      · show len (R.wrong 4 _) ≤ len s
        rw [len_wrong]; exact h1
theorem ritem_meas {p : Plan} {s : St} (h : s.err = 0) : meas (R.item dp npV p s).2 < meas s := by
  have h1 := ritem_len p s
  have h2 := ritem_round dp npV p s
  unfold meas
  rw [if_pos h]
  by_cases h3 : (R.item dp npV p s).2.err = 0
  · rw [if_pos h3]
    rcases h2 with h2 | h2
    · exact absurd h3 h2
    · omega
  · rw [if_neg h3]; omega
theorem ritem_lt {p : Plan} {s : St} (h : (R.one [wMeter, wFee, wCharge] 0 s).1 = 0 ∨ (R.one [wMeter, wFee, wCharge] 0 s).1 = 1 ∨ (R.one [wMeter, wFee, wCharge] 0 s).1 = 2) : len (R.item dp npV p s).2 < len s := by
  have h1 := len_oned [wMeter, wFee, wCharge] 0 s (by decide)
  rw [← rone_eq] at h1
  have h2 := h1 (by omega)
  unfold R.item
  simp only
  have h3 := len_rmeter npV (peek s).line (peek s).col (R.one [wMeter, wFee, wCharge] 0 s).2
  have h4 := len_rfee dp npV (peek s).line (peek s).col (R.one [wMeter, wFee, wCharge] 0 s).2
  have h5 := len_rcharge dp npV (peek s).line (peek s).col (R.one [wMeter, wFee, wCharge] 0 s).2
  by_cases c0 : (R.one [wMeter, wFee, wCharge] 0 s).1 = 0
  · rw [if_pos c0]; show len (R.meter npV (peek s).line (peek s).col (R.one [wMeter, wFee, wCharge] 0 s).2).2 < len s; omega
  · rw [if_neg c0]
    by_cases c1 : (R.one [wMeter, wFee, wCharge] 0 s).1 = 1
    · rw [if_pos c1]; show len (R.fee dp npV (peek s).line (peek s).col (R.one [wMeter, wFee, wCharge] 0 s).2).2 < len s; omega
    · rw [if_neg c1, if_pos (by omega)]; show len (R.charge dp npV (peek s).line (peek s).col (R.one [wMeter, wFee, wCharge] 0 s).2).2 < len s; omega
theorem results_cell_tmp3_row {P : Program} {fn : Func} {p u v x : Tmp} {ty : TypeId} (h : fn.results = #[.cell p ty, .tmp u, .tmp v, .tmp x]) (tmps : Array Value) (w : World) (g : Nat) (t : TypeId) (cs : Array Value) (d : TypeDesc)
    (hp : tmps.getD p undef = .pointer (some ⟨g, 0, none⟩)) (hg : Blk w g t cs)
    (hu : P.underlying ty = some d) (hd : (match d with | .struct _ | .array _ _ => true | _ => false) = true) (hi : (P.info? ty).map (·.size) = some cs.size) :
    (results fn tmps).run P w = .ok (.tuple #[.agg cs, tmps.getD u undef, tmps.getD v undef, tmps.getD x undef]) w := by
  have hp' : tmps[p]?.getD undef = .pointer (some ⟨g, 0, none⟩) := by simpa using hp
  simp [results, h, hp', asAddr, run_loadVar_row w g t ty cs (0, 0) d hg hu hd hi]
theorem lies3 {w : World} (x y z : ByteArray) : Lies strF 9 1 (w.alloc (.cells #[.string x, .string y, .string z] 9)) (.slice (some ⟨w.heap.size, 0, none⟩) 3 3) [x, y, z] := strs_blk (Blk.new w _ _) rfl rfl rfl (Nat.le_refl _) (by decide)
theorem run_plan (w : World) (g : Nat) (old new : Array Value) (hb : Blk w g 29 old) (hl : new.toList.length = old.size) (h1 : ∀ v ∈ new.toList, v.oneCell' = true) : (storeCells ⟨g, 0, none⟩ new.toList).run Tryd.prog w = .ok () (w.setRow g new) := by
  have hq := run_storeCells_from (P := Tryd.prog) g 29 new.toList 0 old w hb (by rw [Nat.zero_add]; exact hl) h1
  simpa using hq
theorem bl_row {w v : World} (h : Below w.heap.size w v) {g : Nat} (hg : w.heap.size ≤ g) (cs : Array Value) : Below w.heap.size w (v.setRow g cs) :=
  ⟨h.os, h.tape, h.output, by rw [setRow_size]; exact h.size, fun i hi => (setRow_far v g i cs (by omega)).trans (h.block i hi)⟩
theorem Rows.drewN_ {w : World} {B n : Nat} {p : Plan} {mv fv cv : Value} {cs : List CT} (h : Rows w B p mv fv cv cs) : Rows (w.drewN n) B p mv fv cv cs := h.keep fun _ _ => rfl
theorem R_item_met {p : Plan} {s : St} {o : Int × St} (h : R.one [wMeter, wFee, wCharge] 0 s = o) (h1 : o.1 = 0) : R.item dp npV p s = ({ p with mets := p.mets ++ [(R.meter npV (peek s).line (peek s).col o.2).1] }, (R.meter npV (peek s).line (peek s).col o.2).2) := by
  subst h; unfold R.item; simp only; rw [if_pos h1]
theorem R_item_fee {p : Plan} {s : St} {o : Int × St} (h : R.one [wMeter, wFee, wCharge] 0 s = o) (h1 : o.1 = 1) : R.item dp npV p s = ({ p with fees := p.fees ++ [(R.fee dp npV (peek s).line (peek s).col o.2).1] }, (R.fee dp npV (peek s).line (peek s).col o.2).2) := by
  subst h; unfold R.item; simp only; rw [if_neg (by omega), if_pos h1]
theorem R_item_chg {p : Plan} {s : St} {o : Int × St} (h : R.one [wMeter, wFee, wCharge] 0 s = o) (h1 : o.1 = 2) : R.item dp npV p s = ({ p with chgs := p.chgs ++ [(R.charge dp npV (peek s).line (peek s).col o.2).1] }, (R.charge dp npV (peek s).line (peek s).col o.2).2) := by
  subst h; unfold R.item; simp only; rw [if_neg (by omega), if_neg (by omega), if_pos h1]
theorem R_item_none {p : Plan} {s : St} {o : Int × St} (h : R.one [wMeter, wFee, wCharge] 0 s = o) (h1 : o.1 < 0) : R.item dp npV p s = (p, R.wrong 4 o.2) := by
  subst h; unfold R.item; simp only; rw [if_neg (by omega), if_neg (by omega), if_neg (by omega)]
/-- the reference's Parse -/
def ParseOut (w : World) (l : List UInt8) (e : Ending) (w' : World) : Prop :=
  ∃ v, e = .returned (.tuple #[v, .int .i64 (RParse l).2.1, .int .i64 (RParse l).2.2.1, .int .i64 (RParse l).2.2.2]) ∧ PlanLies w.heap.size w' v (RParse l).1 ∧ Below w.heap.size w w'
/-- a walk that asks for one part, of every case -/
structure Each (m : Int → Prop) : Prop where
  all : ∀ k, (k = 0 ∨ k = 1 ∨ k = 2 ∨ k = -1) → m k
structure Par1 (T : Prop) where
  m : Int → Prop
  ok : Each m → T
set_option maxHeartbeats 200000000 in
set_option maxRecDepth 100000 in
noncomputable def parsY (s : ByteArray) (w : World) (hs : s.size ≤ 9223372036854775807) : Par1 (Calls Tryd.prog 16 #[.string s] w (ParseOut w s.data.toList)) := by
  refine ⟨?PM, fun hp1 => ?PX⟩
  rotate_left 1
  · unfold ParseOut
    obtain ⟨Q, hQ⟩ : ∃ Q, Q = RParse s.data.toList := ⟨_, rfl⟩
    rw [← hQ]
    have HQ := Lib.hid hQ
    clear hQ
    have kz := Blk.new w 29 (planC noPlan (.slice none 0 0) (.slice none 0 0) (.slice none 0 0))
    have hbl0 := bl_alloc (bl_refl w) (.cells (planC noPlan (.slice none 0 0) (.slice none 0 0) (.slice none 0 0)) 29)
    go_enter Tryd.func16, Tryd.ntmps16
    go_wp2_with fail
    refine (rlex_any s _ hs).mono ?_
    rintro e w1 ⟨v, ts, er, li, co, rfl, hown, hb1, hall⟩
    unfold lexRR
    have hbl1 := bl_call hbl0 hb1
    have kz1 := kz.call hb1
    have hlt1 := kz1.lt
    obtain ⟨A, cap, rfl, hcap, hA⟩ := own_slice hown
    by_cases her : er = 0
    · subst her
      obtain ⟨hne, hlast, hcount⟩ := all_shape hall
      have hsz := all_sizes hall
      have hlen : 0 < ts.length := List.length_pos_iff.2 hne
      obtain ⟨r, rfl⟩ := hA hlen
      obtain ⟨X, hX⟩ : ∃ X, X = R.plan dp npV ts := ⟨_, rfl⟩
      have hbad : X.2.err ≠ 0 → Q = (noPlan, X.2.err, X.2.line, X.2.col) := fun h => by rw [HQ.out, hX]; exact RParse_bad hall (hX ▸ h)
      have hok : X.2.err = 0 → Q = (X.1, 0, 0, 0) := fun h => by rw [HQ.out, hX]; exact RParse_ok hall (hX ▸ h)
      replace hbad := Lib.hid hbad
      replace hok := Lib.hid hok
      have hrlt := (hown.lt r rfl).2
      have hP0 : RAt (w1.alloc (.cells #[.slice (some ⟨r, 0, none⟩) ts.length cap, .int .i64 ((0 : Nat) : Int), .int .i64 0, .int .i64 0, .int .i64 0] 75)) w1.heap.size ts r cap 0 ⟨ts, 0, 0, 0⟩ :=
        ⟨Blk.new w1 _ _, own_base (hown.alloc _) (Nat.zero_le _), by omega, rfl, hlen, hlast, by omega, hsz⟩
      have htk := tok_cells hown hP0.peek_at rfl
      simp only [Nat.zero_mul, Nat.zero_add] at htk
      obtain ⟨y0, y1, y2, y3⟩ := htk
      clear HQ hall hsz hlast hne
      rw [rplan_eq] at hX
      unfold R.head at hX
      simp only at hX
      generalize peek ⟨ts, 0, 0, 0⟩ = t at *
      have g1 := fun v i (h : RAt v w1.heap.size ts r cap i ⟨ts, 0, 0, 0⟩) => want_any h wPlan
      generalize R.want wPlan ⟨ts, 0, 0, 0⟩ = q1 at *
      have g2 := fun v i (h : RAt v w1.heap.size ts r cap i q1) => token_any h 1 (by decide)
      generalize R.token 1 q1 = n at *
      obtain ⟨n1, n2⟩ := n
      simp only at hX g2
      have g3 := fun v i (h : RAt v w1.heap.size ts r cap i n2) => want_any h wCurrency
      generalize R.want wCurrency n2 = q2 at *
      have g4 := fun v i (h : RAt v w1.heap.size ts r cap i q2) => token_any h 1 (by decide)
      generalize R.token 1 q2 = c at *
      obtain ⟨c1, c2⟩ := c
      simp only at hX g4
      have g5 := fun v i (h : RAt v w1.heap.size ts r cap i c2) => want_any h wSemi
      generalize R.want wSemi c2 = q3 at *
      have g6 := fun v i (h : RAt v w1.heap.size ts r cap i q3) => want_any h wHorizon
      generalize R.want wHorizon q3 = q4 at *
      have g7 := fun v i (h : RAt v w1.heap.size ts r cap i q4) => rday_any h
      generalize R.day dp q4 = f at *
      obtain ⟨f1, f2⟩ := f
      simp only at hX g7
      have g8 := fun v i (h : RAt v w1.heap.size ts r cap i f2) => rday_any h
      generalize R.day dp f2 = z at *
      obtain ⟨z1, z2⟩ := z
      simp only at hX g8
      have g9 := fun v i (h : RAt v w1.heap.size ts r cap i z2) => want_any h wSemi
      generalize R.want wSemi z2 = q5 at *
      unfold dayV at g7 g8
      have HX := Lib.hid hX.symm
      clear hX
      replace g1 := Lib.hid g1
      replace g2 := Lib.hid g2
      replace g3 := Lib.hid g3
      replace g4 := Lib.hid g4
      replace g5 := Lib.hid g5
      replace g6 := Lib.hid g6
      replace g7 := Lib.hid g7
      replace g8 := Lib.hid g8
      replace g9 := Lib.hid g9
      have b0 : (0 : Int) < (ts.length : Int) := by omega
      have hS0 : RS w w1.heap.size (w1.heap.size + 1) ts r cap ((w1.alloc (.cells #[.slice (some ⟨r, 0, none⟩) ts.length cap, .int .i64 0, .int .i64 0, .int .i64 0, .int .i64 0] 75)).alloc (.cells (planC (⟨⟨#[]⟩, ⟨#[]⟩, (0, 0, 0), (0, 0, 0), [], [], [], t.line, t.col⟩ : Plan) (.slice none 0 0) (.slice none 0 0) (.slice none 0 0)) 29)).drew ⟨ts, 0, 0, 0⟩ (⟨⟨#[]⟩, ⟨#[]⟩, (0, 0, 0), (0, 0, 0), [], [], [], t.line, t.col⟩ : Plan) (.slice none 0 0) (.slice none 0 0) (.slice none 0 0) [] := by
        refine RS.drew ⟨⟨0, hP0.below (bl_alloc (bl_refl _) _)⟩, bl_alloc (bl_alloc hbl1 _) _, (kz1.alloc _).alloc _, ?_, Rows.none _ _ _ rfl rfl rfl, by omega, by omega⟩
        have := Blk.new (w1.alloc (.cells #[.slice (some ⟨r, 0, none⟩) ts.length cap, .int .i64 0, .int .i64 0, .int .i64 0, .int .i64 0] 75)) 29 (planC (⟨⟨#[]⟩, ⟨#[]⟩, (0, 0, 0), (0, 0, 0), [], [], [], t.line, t.col⟩ : Plan) (.slice none 0 0) (.slice none 0 0) (.slice none 0 0))
        rwa [World.size_alloc] at this
      clear hP0 kz kz1 hbl0 hb1
      go_wp2_with fail
      go_region
      clear y0 y1 y2 y3 hown
      obtain ⟨p1, hP1⟩ := hS0.at_
      go_wp2_with fail
      refine (g1.out _ _ hP1).mono ?_
      rintro e v1 ⟨rfl, hA1, hF1⟩
      have hS1 := hS0.call hF1 hA1
      clear hP1 hA1 hF1 g1
      obtain ⟨p2, hP2⟩ := hS1.at_
      go_wp2_with fail
      refine (g2.out _ _ hP2).mono ?_
      rintro e v2 ⟨rfl, hA2, hF2⟩
      have hS2 := hS1.call hF2 hA2
      clear hP2 hA2 hF2 g2
      obtain ⟨x3, x3'⟩ := hS2.cell 0 _ rfl
      have hl3 := hS2.lt
      have hS3 : RS w w1.heap.size (w1.heap.size + 1) ts r cap _ n2 (⟨n1, ⟨#[]⟩, (0, 0, 0), (0, 0, 0), [], [], [], t.line, t.col⟩ : Plan) (.slice none 0 0) (.slice none 0 0) (.slice none 0 0) [] := hS2.putO 0 [.string n1] _ rfl rfl rfl rfl
      obtain ⟨p4, hP4⟩ := hS3.at_
      go_wp2_with fail
      refine (g3.out _ _ hP4).mono ?_
      rintro e v4 ⟨rfl, hA4, hF4⟩
      have hS4 := hS3.call hF4 hA4
      clear hP4 hA4 hF4 g3
      obtain ⟨p5, hP5⟩ := hS4.at_
      go_wp2_with fail
      refine (g4.out _ _ hP5).mono ?_
      rintro e v5 ⟨rfl, hA5, hF5⟩
      have hS5 := hS4.call hF5 hA5
      clear hP5 hA5 hF5 g4
      obtain ⟨x6, x6'⟩ := hS5.cell 1 _ rfl
      have hl6 := hS5.lt
      have hS6 : RS w w1.heap.size (w1.heap.size + 1) ts r cap _ c2 (⟨n1, c1, (0, 0, 0), (0, 0, 0), [], [], [], t.line, t.col⟩ : Plan) (.slice none 0 0) (.slice none 0 0) (.slice none 0 0) [] := hS5.putO 1 [.string c1] _ rfl rfl rfl rfl
      obtain ⟨p7, hP7⟩ := hS6.at_
      go_wp2_with fail
      refine (g5.out _ _ hP7).mono ?_
      rintro e v7 ⟨rfl, hA7, hF7⟩
      have hS7 := hS6.call hF7 hA7
      clear hP7 hA7 hF7 g5
      obtain ⟨p8, hP8⟩ := hS7.at_
      go_wp2_with fail
      refine (g6.out _ _ hP8).mono ?_
      rintro e v8 ⟨rfl, hA8, hF8⟩
      have hS8 := hS7.call hF8 hA8
      clear hP8 hA8 hF8 g6
      obtain ⟨p9, hP9⟩ := hS8.at_
      go_wp2_with fail
      refine (g7.out _ _ hP9).mono ?_
      rintro e v9 ⟨rfl, hA9, hF9⟩
      have hS9 := hS8.call hF9 hA9
      clear hP9 hA9 hF9 g7
      obtain ⟨x10_0, x10_0'⟩ := hS9.cell 2 _ rfl
      obtain ⟨x10_1, x10_1'⟩ := hS9.cell 3 _ rfl
      obtain ⟨x10_2, x10_2'⟩ := hS9.cell 4 _ rfl
      have hl10 := hS9.lt
      have hS10 : RS w w1.heap.size (w1.heap.size + 1) ts r cap _ f2 (⟨n1, c1, f1, (0, 0, 0), [], [], [], t.line, t.col⟩ : Plan) (.slice none 0 0) (.slice none 0 0) (.slice none 0 0) [] := hS9.putO 2 [.int .i64 f1.1, .int .i64 f1.2.1, .int .i64 f1.2.2] _ rfl rfl rfl rfl
      obtain ⟨p11, hP11⟩ := hS10.at_
      go_wp2_with fail
      refine (g8.out _ _ hP11).mono ?_
      rintro e v11 ⟨rfl, hA11, hF11⟩
      have hS11 := hS10.call hF11 hA11
      clear hP11 hA11 hF11 g8
      obtain ⟨x12_0, x12_0'⟩ := hS11.cell 5 _ rfl
      obtain ⟨x12_1, x12_1'⟩ := hS11.cell 6 _ rfl
      obtain ⟨x12_2, x12_2'⟩ := hS11.cell 7 _ rfl
      have hl12 := hS11.lt
      have hS12 : RS w w1.heap.size (w1.heap.size + 1) ts r cap _ z2 (⟨n1, c1, f1, z1, [], [], [], t.line, t.col⟩ : Plan) (.slice none 0 0) (.slice none 0 0) (.slice none 0 0) [] := hS11.putO 5 [.int .i64 z1.1, .int .i64 z1.2.1, .int .i64 z1.2.2] _ rfl rfl rfl rfl
      obtain ⟨p13, hP13⟩ := hS12.at_
      go_wp2_with fail
      refine (g9.out _ _ hP13).mono ?_
      rintro e v13 ⟨rfl, hA13, hF13⟩
      have hS13 := hS12.call hF13 hA13
      clear hP13 hA13 hF13 g9
      obtain ⟨hS, hSe⟩ : ∃ h : RS w w1.heap.size (w1.heap.size + 1) ts r cap v13 q5 (⟨n1, c1, f1, z1, [], [], [], t.line, t.col⟩ : Plan) (.slice none 0 0) (.slice none 0 0) (.slice none 0 0) [], h = hS13 := ⟨_, rfl⟩
      clear hSe
      clear hS0 hS1 hS2 hS3 hS4 hS5 hS6 hS7 hS8 hS9 hS10 hS11 hS12 hS13
      clear hl3 x3 x3' hl6 x6 x6' hl10 x10_0 x10_0' x10_1 x10_1' x10_2 x10_2' hl12 x12_0 x12_0' x12_1 x12_1' x12_2 x12_2'
      go_wp2_with fail
      have hlm : len q5 ≤ 100000 := by obtain ⟨j, hj⟩ := hS.at_; rw [hj.len]; have := hj.big; omega
      go_loopg [] (meas q5) (fun g wx => ∃ p s' mv fv cv cs, RS w w1.heap.size (w1.heap.size + 1) ts r cap wx s' p mv fv cv cs ∧ p.mets.length + p.fees.length + cs.length + len s' ≤ 100000 ∧ g = meas s' ∧ Hid (R.itemsAll dp npV p s' = X))
      case atStart => exact ⟨_, q5, _, _, _, _, hS, by simpa using hlm, rfl, HX⟩
      case round =>
        obtain ⟨p, s', mv, fv, cv, cs, hS, hcnt, rfl, HK⟩ := hrel
        clear HX hlm
        obtain ⟨jr, hPr⟩ := hS.at_
        have hpk := hPr.peek_at
        obtain ⟨y0, y1, y2, y3⟩ := hPr.tok
        obtain ⟨c0, c1, c2, c3, c4, f0, f1_, f2_, f3, f4⟩ := hPr.blk.c5
        have hbb := hPr.blk.lt
        have hrr := hPr.rlt
        have hlt := hPr.lt
        have hbig := hPr.big
        have b0 : (0 : Int) ≤ (jr : Int) := by omega
        have b1 : (jr : Int) < (ts.length : Int) := by omega
        clear hpk
        by_cases h0 : s'.err = 0
        · have e0 : (s'.err == 0) = true := beq_iff_eq.2 h0
          have e0' : (s'.err != 0) = false := by rw [h0]; rfl
          by_cases hk : (peek s').kind = 0
          · have hX2 := HK.out
            rw [ritemsAll_end dp npV (.inr hk)] at hX2
            subst hX2
            have hq := hok.out h0
            subst hq
            have ek : ((peek s').kind != 0) = false := by rw [hk]; rfl
            clear hok hbad HK h0 hk
            obtain ⟨Am, cm, rfl, _, _, _⟩ := Lies.open (f := metF) (l := p.mets) (Lies.of hS.rows.mo)
            obtain ⟨Af, cf, rfl, _, _, _⟩ := Lies.open (f := feeF) (l := p.fees) (Lies.of hS.rows.fo)
            obtain ⟨Ac, cc, rfl, _, _, _⟩ := Lies.open (f := chgF) (l := cs) (Lies.of hS.rows.co)
            have hsc := fun n => run_plan (wr.drewN n) w.heap.size (planC noPlan (.slice none 0 0) (.slice none 0 0) (.slice none 0 0)) (planC p (.slice Am p.mets.length cm) (.slice Af p.fees.length cf) (.slice Ac cs.length cc)) (hS.rb.drewN n) rfl (by simp [planC, Value.oneCell'])
            go_wp2_with fail
            go_quiet (fail)
            go_wp2_with (refine wpList_load_row rfl 29 (.tmp 11) rfl (w1.heap.size + 1) rfl 29 (planC p (.slice Am p.mets.length cm) (.slice Af p.fees.length cf) (.slice Ac cs.length cc)) (0, 0) _ (hS.ob.drewN _) Tryd.underlying29 rfl (by kernel_rfl) ?_)
            exact bodyPost_ret (results_cell_tmp3_row rfl _ _ w.heap.size _ (planC p (.slice Am p.mets.length cm) (.slice Af p.fees.length cf) (.slice Ac cs.length cc)) _ rfl (Blk.row (hS.rb.drewN _)) Tryd.underlying29 rfl (by kernel_rfl)) rfl ⟨_, rfl, ⟨_, _, _, cs, rfl, (hS.rows.drewN_).setRow_ hS.nR _⟩, bl_row (bl_drewN hS.bl _) (Nat.le_refl _) _⟩
          · have ek : ((peek s').kind != 0) = true := bne_iff_ne.2 hk
            have hst := ritemsAll_step dp npV (p := p) h0 hk
            rw [HK.out] at hst
            have hms := ritem_meas (p := p) h0
            have hln := @ritem_lt p s'
            have hle := ritem_len p s'
            have him := @R_item_met p s'
            have hif := @R_item_fee p s'
            have hic := @R_item_chg p s'
            have hin := @R_item_none p s'
            have hrg := one_range [wMeter, wFee, wCharge] 0 s'
            rw [← rone_eq] at hrg
            clear h0 hk HK hbad hok
            generalize ht : peek s' = t at *
            generalize hoo : R.one [wMeter, wFee, wCharge] 0 s' = o at *
            obtain ⟨o1, o2⟩ := o
            replace him := him rfl
            replace hif := hif rfl
            replace hic := hic rfl
            replace hin := hin rfl
            simp only [List.length_cons, List.length_nil, Nat.zero_add] at hrg him hif hic hin hln
            replace hst := Lib.hid hst
            replace him := Lib.hid him
            replace hif := Lib.hid hif
            replace hic := Lib.hid hic
            replace hin := Lib.hid hin
            go_wp2_with fail
            go_quiet (fail)
            have hSq := hS.below (bl_drewN (bl_refl wr) nq)
            clear hPr hS y0 y1 y2 y3 c0 c1 c2 c3 c4 f0 f1_ f2_ f3 f4 hbb hrr hlt b0 b1
            generalize wr.drewN nq = wq at *
            obtain ⟨hS, hSe⟩ : ∃ h : RS w w1.heap.size (w1.heap.size + 1) ts r cap wq s' p mv fv cv cs, h = hSq := ⟨_, rfl⟩
            clear hSe hSq
            obtain ⟨jq, hPr⟩ := hS.at_
            obtain ⟨y0, y1, y2, y3⟩ := hPr.tok
            rw [ht] at y0 y1 y2 y3
            obtain ⟨c0, c1, c2, c3, c4, f0, f1_, f2_, f3, f4⟩ := hPr.blk.c5
            have hbb := hPr.blk.lt
            have hrr := hPr.rlt
            have hlt := hPr.lt
            have b0 : (0 : Int) ≤ (jq : Int) := by omega
            have b1 : (jq : Int) < (ts.length : Int) := by omega
            have hS1 := ((hS.alloc (.cells #[.int .i64 t.kind, .string t.text, .int .i64 t.line, .int .i64 t.col] 61)).alloc (.cells #[.string wMeter, .string wFee, .string wCharge] 9)).drew
            have kt := ((Blk.new wq 61 #[.int .i64 t.kind, .string t.text, .int .i64 t.line, .int .i64 t.col]).alloc (.cells #[.string wMeter, .string wFee, .string wCharge] 9)).drew
            obtain ⟨j1, hP1⟩ := hS1.at_
            have hl3 := lies3 (w := wq.alloc (.cells #[.int .i64 t.kind, .string t.text, .int .i64 t.line, .int .i64 t.col] 61)) wMeter wFee wCharge
            rw [World.size_alloc] at hl3
            have hon := one_any hP1 (wq.heap.size + 1) 3 [wMeter, wFee, wCharge] (by omega) (hl3.keep (fun _ _ => rfl)) (by simp)
            rw [hoo] at hon
            clear hoo
            clear hl3 hPr hP1
            clear ht
            simp only [List.length_cons, List.length_nil, Nat.zero_add] at hon
            go_wp2_with fail
            go_region
            clear y0 y1 y2 y3 c0 c1 c2 c3 c4 f0 f1_ f2_ f3 f4
            go_wp2_with fail
            refine hon.mono ?_
            rintro e w2 ⟨rfl, hA2, hF2⟩
            have hS2 := hS1.call hF2 hA2
            have kt2 := hF2.blk kt (by omega)
            have hb2 : w1.heap.size < w2.heap.size := Nat.lt_of_lt_of_le (by simp; omega) hF2.size
            have hnb := fun g (h : blocks mv fv cv cs g) => hS2.rows.lt h
            have hbq : w1.heap.size < wq.heap.size := hbb
            replace hnb := Lib.hid hnb
            clear hon hA2 hF2 hS1 kt hS hbb hrr hlt b0 b1 ek e0 e0'
            obtain ⟨k, hko⟩ : ∃ k, k = o1 := ⟨_, rfl⟩
            have hcase : (k = 0 ∨ k = 1 ∨ k = 2 ∨ k = -1) := by omega
            clear hrg
            rename_i Q9 t9 K3 a4 J9 K2 a3 a2 K1 a1 K0 a0; revert Q Q9 w1 ts li co hbl1 hlt1 cap hcap hcount hlen r hA X hrlt t9 q1 n1 n2 q2 c1 c2 q3 q4 f1 f2 z1 z2 q5 b0 p1 v1 p2 v2 p4 v4 p5 v5 p7 v7 p8 v8 p9 v9 p11 v11 p13 v13 hS K3 a4 wr u12 u13 u14 u15 u63 u64 u65 u66 u67 u68 u69 u70 u71 u72 u73 u74 u75 u76 u77 u78 u79 u80 u81 u82 u83 u84 u85 u86 u87 u88 u89 u90 u91 u92 u93 u94 u95 u96 u97 u98 u99 u100 u101 u102 u103 u104 u105 u106 u107 u108 u109 u110 u111 u112 u113 u114 u115 u116 u117 u118 u119 u120 u121 u122 u123 u124 u125 u126 u127 u128 u129 u130 u131 u132 u133 u134 u135 u136 u137 u138 u139 u140 u141 u142 u143 u144 u145 u146 u147 u148 u149 u150 u151 u152 u153 u154 u155 u156 u157 J9 K2 a3 p s' mv fv cv cs hcnt a2 jr hbig hms hle t o1 o2 hln hst him hif hic hin nq wq jq j1 K1 a1 K0 a0 w2 hS2 kt2 hb2 hbq hnb hko; exact hp1.all k hcase
        · have e0 : (s'.err == 0) = false := beq_eq_false_iff_ne.2 h0
          have e0' : (s'.err != 0) = true := bne_iff_ne.2 h0
          have hX2 := HK.out
          rw [ritemsAll_end dp npV (.inl h0)] at hX2
          subst hX2
          have hq := hbad.out h0
          subst hq
          clear hok hbad HK h0 y0 y1 y2 y3
          obtain ⟨z0, z1, z2, z3, z4, z5, z6, z7, z8, z9, z10, z11, z12, f0_, f1_, f2_, f3_, f4_, f5_, f6_, f7_, f8_, f9_, f10_, f11_, f12_⟩ := hS.rb.c13
          have hlS := hS.lt
          go_wp2_with fail
          go_quiet (fail)
          go_wp2_with fail
          go_region
          all_goals go_wp2_with fail
          exact bodyPost_ret (results_cell_tmp3_row rfl _ _ w.heap.size _ (planC noPlan (.slice none 0 0) (.slice none 0 0) (.slice none 0 0)) _ rfl ((hS.rb.drewN _).putAll [_, _, _, _, _, _, _, _, _, _, _, _, _] 0) Tryd.underlying29 rfl (by kernel_rfl)) rfl ⟨_, rfl, ⟨(.slice none 0 0), (.slice none 0 0), (.slice none 0 0), [], rfl, Rows.none _ _ _ rfl rfl rfl⟩, bl_puts (bl_drewN hS.bl _) (Nat.le_refl _) 0 [_, _, _, _, _, _, _, _, _, _, _, _, _]⟩
    · have hq := HQ.out
      rw [RParse_lex hall her] at hq
      subst hq
      have hne : (er != 0) = true := bne_iff_ne.2 her
      clear her hall hown
      obtain ⟨z0, z1, z2, z3, z4, z5, z6, z7, z8, z9, z10, z11, z12, f0_, f1_, f2_, f3_, f4_, f5_, f6_, f7_, f8_, f9_, f10_, f11_, f12_⟩ := kz1.c13
      go_wp2_with fail
      exact bodyPost_ret (results_cell_tmp3_row rfl _ _ w.heap.size _ (planC noPlan (.slice none 0 0) (.slice none 0 0) (.slice none 0 0)) _ rfl (kz1.putAll [_, _, _, _, _, _, _, _, _, _, _, _, _] 0) Tryd.underlying29 rfl (by kernel_rfl)) rfl ⟨_, rfl, ⟨(.slice none 0 0), (.slice none 0 0), (.slice none 0 0), [], rfl, Rows.none _ _ _ rfl rfl rfl⟩, bl_puts hbl1 (Nat.le_refl _) 0 [_, _, _, _, _, _, _, _, _, _, _, _, _]⟩
end Go.Proofs.YtcgkfgklggjmaaaDoor.Par
end
