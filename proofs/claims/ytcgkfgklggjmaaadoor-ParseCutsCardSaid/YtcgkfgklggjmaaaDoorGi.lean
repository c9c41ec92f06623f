import Derived.Test.YtcgkfgklggjmaaaDoorGh
section
namespace Go.Proofs.YtcgkfgklggjmaaaDoor.Par
set_option linter.unusedVariables false
set_option linter.unusedSimpArgs false
open Go.RowKit
/-! a plan as a row of texts -/
def metT (m : Met) : List ByteArray := [m.name, m.unit, textB m.max]
def feeT (f : Fee) : List ByteArray := [textB f.amount] ++ winT f.win
def tierT (t : Tier) : List ByteArray := [textB t.upto, textB t.rate]
def adjT (a : Adj) : List ByteArray := [textB a.kind, textB a.n, textB a.mode]
def chgH (c : Chg) : List ByteArray := [c.meter] ++ winT c.win ++ [textB c.allow, textB c.block, textB c.kind, textB c.mode, textB c.tiers.length, textB c.adjs.length]
def chgT (c : Chg) : List ByteArray := chgH c ++ c.tiers.flatMap tierT ++ c.adjs.flatMap adjT
def headT (p : Plan) : List ByteArray := [p.name, p.cur] ++ winT ⟨false, p.from_, p.to_⟩ ++ [textB p.mets.length, textB p.fees.length, textB p.chgs.length]
def rowT (p : Plan) : List ByteArray := headT p ++ p.mets.flatMap metT ++ p.fees.flatMap feeT ++ p.chgs.flatMap chgT
/-- no row of a plan is longer than this -/
structure Small (p : Plan) : Prop where
  mets : p.mets.length ≤ 10000
  fees : p.fees.length ≤ 10000
  chgs : p.chgs.length ≤ 10000
  tiers : ∀ c ∈ p.chgs, c.tiers.length ≤ 10000
  adjs : ∀ c ∈ p.chgs, c.adjs.length ≤ 10000
theorem flat_take {α β : Type} (f : α → List β) {l : List α} {k : Nat} {a : α} (h : l[k]? = some a) : (l.take (k + 1)).flatMap f = (l.take k).flatMap f ++ f a := by
  rw [List.take_add_one, List.flatMap_append, h]
  simp
theorem flat_le {α β : Type} (f : α → List β) (n : Nat) : ∀ l : List α, (∀ a ∈ l, (f a).length ≤ n) → (l.flatMap f).length ≤ l.length * n
  | [], _ => by simp
  | a :: l, h => by
    have h1 := flat_le f n l (fun b hb => h b (by simp [hb]))
    have h2 := h a (by simp)
    rw [List.flatMap_cons, List.length_append, List.length_cons, Nat.succ_mul]
    omega
theorem winT_len (x : Win) : (winT x).length = 7 := rfl
theorem str_flat (l : List ByteArray) : l.flatMap strF = l.map Value.string := by
  induction l with
  | nil => rfl
  | cons a l ih => simp [strF, ih]
theorem strInfo : (Tryd.prog.info? 9).map (fun i => (i.zero, i.size, i.bytes)) = some (some (.string ⟨#[]⟩), 1, 16) := by kernel_rfl
/-- within Row: the plan's own block, and what has been written -/
structure RW (w0 w : World) (C : Array Value) (v : Value) (l : List ByteArray) : Prop where
  lb : LB w0 w
  kp : Blk w w0.heap.size 29 C
  out : w.ownsRow w0.heap.size 9 1 v l.length (l.flatMap strF)
section
variable {w0 w w' : World} {C : Array Value} {v : Value} {l : List ByteArray}
theorem RW.below (h : RW w0 w C v l) (hb : Below w.heap.size w w') : RW w0 w' C v l := ⟨h.lb.call hb, h.kp.call hb, own_keep h.out fun g hg => hb.block g (h.out.lt g hg).2⟩
theorem RW.alloc (h : RW w0 w C v l) (o : Obj) : RW w0 (w.alloc o) C v l := h.below (bl_alloc (bl_refl _) o)
theorem RW.drew (h : RW w0 w C v l) : RW w0 w.drew C v l := h.below (bl_drew (bl_refl _))
theorem RW.add {v' : Value} {m : Nat} {news : List Value} {l' : List ByteArray} (h : RW w0 w C v l) (hg : w.grownBy w' v.ownBlock) (ho : w'.ownsRow w0.heap.size 9 1 v' (l.length + m) (l.flatMap strF ++ news)) (hm : l'.length = m) (hn : l'.flatMap strF = news) : RW w0 w' C v' (l ++ l') :=
  ⟨⟨h.lb.out.grown hg h.lb.out.size (fun k hk => (h.out.lt k hk).1)⟩, h.kp.grown hg (fun e => own_ne_blk h.out h.kp (by decide) e.symm), by rw [List.length_append, hm, List.flatMap_append, hn]; exact ho⟩
theorem RW.apart (h : RW w0 w C v l) {g : Nat} {T : TypeId} {cells : Array Value} (hk : Blk w g T cells) (hT : 9 ≠ T) : some g ≠ v.ownBlock := fun e => own_ne_blk h.out hk hT e.symm
theorem RW.lt (h : RW w0 w C v l) : w0.heap.size < w.heap.size := h.kp.lt
end
set_option maxHeartbeats 16000000 in
set_option maxRecDepth 100000 in
theorem row_any {B : Nat} {p : Plan} {mv fv cv : Value} {cs : List CT} (w : World) (h : Rows w B p mv fv cv cs) (hsm : Small p) : Calls Tryd.prog 55 #[.agg (planC p mv fv cv)] w fun e w' => ∃ v, e = .returned v ∧ w'.ownsRow w.heap.size 9 1 v (rowT p).length ((rowT p).flatMap strF) ∧ Below w.heap.size w w' := by
  obtain ⟨Am, cm, rfl, hm1, hm2, hm3⟩ := Lies.open (f := metF) (l := p.mets) (Lies.of h.mo)
  obtain ⟨Af, cf, rfl, hf1, hf2, hf3⟩ := Lies.open (f := feeF) (l := p.fees) (Lies.of h.fo)
  obtain ⟨Ac, cc, rfl, hc1, hc2, hc3⟩ := Lies.open (f := chgF) (l := cs) (Lies.of h.co)
  have hcl : cs.length = p.chgs.length := by have := congrArg List.length h.eq; rwa [List.length_map] at this
  obtain ⟨n1, n2, n3, n4, n5⟩ := hsm
  replace n4 := Lib.hid n4
  replace n5 := Lib.hid n5
  have hR := Lib.hid h
  have hcl2 := Lib.hid hcl
  have n3' : cs.length ≤ 10000 := by omega
  clear h hcl
  obtain ⟨iS, hS0, hS1, hS2, hS3⟩ := info_parts strInfo
  have kb := Blk.new w 29 (planC p (.slice Am p.mets.length cm) (.slice Af p.fees.length cf) (.slice Ac cs.length cc))
  obtain ⟨c0, c1, c2, c3, c4, c5, c6, c7, c8, c9, c10, c11, c12, f0, f1, f2, f3, f4, f5, f6, f7, f8, f9, f10, f11, f12⟩ := kb.c13
  clear f0 f1 f2 f3 f4 f5 f6 f7 f8 f9 f10 f11 f12
  unfold planC
  have hW0 : RW w ((w.alloc (.cells #[.string p.name, .string p.cur, .int .i64 p.from_.1, .int .i64 p.from_.2.1, .int .i64 p.from_.2.2, .int .i64 p.to_.1, .int .i64 p.to_.2.1, .int .i64 p.to_.2.2, .slice Am p.mets.length cm, .slice Af p.fees.length cf, .slice Ac cs.length cc, .int .i64 p.line, .int .i64 p.col] 29)).alloc (.cells #[.string p.name, .string p.cur] 9)) (planC p (.slice Am p.mets.length cm) (.slice Af p.fees.length cf) (.slice Ac cs.length cc)) (.slice (some ⟨w.heap.size + 1, 0, none⟩) 2 2) [p.name, p.cur] := by
    refine ⟨⟨bl_alloc (bl_alloc (bl_refl w) _) _⟩, kb.alloc _, ?_⟩
    have hk := Blk.new (w.alloc (.cells #[.string p.name, .string p.cur, .int .i64 p.from_.1, .int .i64 p.from_.2.1, .int .i64 p.from_.2.2, .int .i64 p.to_.1, .int .i64 p.to_.2.1, .int .i64 p.to_.2.2, .slice Am p.mets.length cm, .slice Af p.fees.length cf, .slice Ac cs.length cc, .int .i64 p.line, .int .i64 p.col] 29)) 9 #[.string p.name, .string p.cur]
    rw [World.size_alloc] at hk
    exact ⟨rfl, .inr ⟨w.heap.size + 1, 2, _, rfl, Nat.le_succ _, hk, Nat.le_refl _, by decide, rfl, rfl⟩⟩
  have hwn := fun (W : World) => win6_any ⟨false, p.from_, p.to_⟩ W
  simp only at hwn
  replace hwn := Lib.hid hwn
  clear kb
  go_enter Tryd.func55, Tryd.ntmps55
  go_wp2_with fail
  refine (hwn.out _).mono ?_
  rintro e w1 ⟨g1, rfl, hk1, hg1, hb1⟩
  have hW1 := hW0.below hb1
  clear hW0 hb1 hwn c0 c1 c2 c3 c4 c5 c6 c7 c8 c9 c10 c11 c12
  have hl1 := hW1.lt
  go_wp2_with (at_builtin; refine wpList_append_lies _ rfl (.tmp 19) (.tmp 25) 79 rfl w.heap.size 9 iS _ 1 16 Tryd.underlying79 hS0 hS1 hS2 hS3 (by rfl) (by decide) _ _ _ (by rfl) hW1.out ⟨g1, 0, none⟩ 7 7 ((winT ⟨false, p.from_, p.to_⟩).map Value.string) (by rfl) (by rfl) (World.news_of_block (fr := (0, 0)) hk1) (by intro u hu; obtain ⟨b, _, rfl⟩ := List.mem_map.1 hu; rfl) (by decide) (by (try simp only [List.length_cons, List.length_nil, List.length_append, winT_len]); unfold maxLen; omega) (by (try simp only [List.length_cons, List.length_nil, List.length_append, winT_len]); omega) hW1.lb.out.size _ rfl ?_; intro g cp w10 hown10 hgrow10 hat10 hlt10; (have hW10 := hW1.add (l' := winT ⟨false, p.from_, p.to_⟩) hgrow10 hown10 rfl (str_flat _)))
  have hW2 := hW10
  have kP2 := hW2.kp
  unfold planC at kP2
  clear hW1 hk1 hgrow10 hown10 hat10 hlt10 hW10 hl1
  have kd_ : Blk w10.drew w.heap.size 29 #[.string p.name, .string p.cur, .int .i64 p.from_.1, .int .i64 p.from_.2.1, .int .i64 p.from_.2.2, .int .i64 p.to_.1, .int .i64 p.to_.2.1, .int .i64 p.to_.2.2, .slice Am p.mets.length cm, .slice Af p.fees.length cf, .slice Ac cs.length cc, .int .i64 p.line, .int .i64 p.col] := kP2.drew
  have hd_ : RW w w10.drew (planC p (.slice Am p.mets.length cm) (.slice Af p.fees.length cf) (.slice Ac cs.length cc)) (.slice (some ⟨g, 0, none⟩) ([p.name, p.cur].length + 7) cp) ([p.name, p.cur] ++ winT ⟨false, p.from_, p.to_⟩) := hW2.drew
  obtain ⟨_, _, _, _, _, _, _, _, k8_, k9_, k10_, _, _, _, _, _, _, _, _, _, _, _, _, _, _, _⟩ := kd_.c13
  go_region_held3 (fun w' => w'.cell? ⟨w.heap.size, 8, none⟩ = some (.slice Am p.mets.length cm) ∧ w'.cell? ⟨w.heap.size, 9, none⟩ = some (.slice Af p.fees.length cf) ∧ w'.cell? ⟨w.heap.size, 10, none⟩ = some (.slice Ac cs.length cc))
    (refine ⟨?_, ?_, ?_⟩ <;> first | with_reducible assumption | exact LB.alloc (by with_reducible assumption) _ | (go_keep; done))
    ((first | (refine step_append_lies _ (by rfl) (.tmp 27) (.tmp 40) 79 (by rfl) w.heap.size 9 iS _ 1 16 Tryd.underlying79 hS0 hS1 hS2 hS3 (by rfl) (by decide) _ _ _ (by rfl) (hW6.alloc _).out ⟨w6.heap.size, 0, none⟩ 3 3 [.string (textB p.mets.length), .string (textB p.fees.length), .string (textB cs.length)] (by rfl) rfl (World.news_of_block (cs := #[.string (textB p.mets.length), .string (textB p.fees.length), .string (textB cs.length)]) (t := 9) (fr := (0, 0)) (heap_alloc_new _ _)) (by simp [Value.oneCell']) (by decide) (by (try simp only [List.length_cons, List.length_nil, List.length_append, winT_len]); unfold maxLen; omega) (by (try simp only [List.length_cons, List.length_nil, List.length_append, winT_len]); omega) (hW6.alloc _).lb.out.size _ rfl ?_; intro g cp w10 hown10 hgrow10 hat10 hlt10; (have hW10 := (hW6.alloc _).add (l' := [textB p.mets.length, textB p.fees.length, textB cs.length]) hgrow10 hown10 rfl rfl); (have hl6 := hW6.lt); (have kX := kA.grown hgrow10 ((hW6.alloc _).apart kA (by decide))); obtain ⟨_, _, _, _, _, _, _, _, x8_, x9_, x10_, _, _, _, _, _, _, _, _, _, _, _, _, _, _, _⟩ := kX.c13) | (go_at_call 95; refine (text_any _ _).mono ?_; rintro e w6 ⟨rfl, hb6⟩; (have kW : Blk w6 w.heap.size 29 #[.string p.name, .string p.cur, .int .i64 p.from_.1, .int .i64 p.from_.2.1, .int .i64 p.from_.2.2, .int .i64 p.to_.1, .int .i64 p.to_.2.1, .int .i64 p.to_.2.2, .slice Am p.mets.length cm, .slice Af p.fees.length cf, .slice Ac cs.length cc, .int .i64 p.line, .int .i64 p.col] := Blk.call (by with_reducible assumption) hb6); obtain ⟨_, _, _, _, _, _, _, _, j8_, j9_, j10_, _, _, _, _, _, _, _, _, _, _, _, _, _, _, _⟩ := kW.c13; (have hW6 : RW w w6 (planC p (.slice Am p.mets.length cm) (.slice Af p.fees.length cf) (.slice Ac cs.length cc)) (.slice (some ⟨g, 0, none⟩) ([p.name, p.cur].length + 7) cp) ([p.name, p.cur] ++ winT ⟨false, p.from_, p.to_⟩) := RW.below (by with_reducible assumption) hb6); (have kA := kW.alloc (.cells #[.string (textB p.mets.length), .string (textB p.fees.length), .string (textB cs.length)] 9)); obtain ⟨_, _, _, _, _, _, _, _, a8_, a9_, a10_, _, _, _, _, _, _, _, _, _, _, _, _, _, _, _⟩ := kA.c13)))
  have hW3 := hW10
  have hH : ([p.name, p.cur] ++ winT ⟨false, p.from_, p.to_⟩) ++ [textB p.mets.length, textB p.fees.length, textB cs.length] = headT p := by unfold headT; rw [hcl2.out]
  rw [hH] at hW3
  clear hH hW2 kP2 hW6 hl6 hgrow10 hown10 hat10 hlt10 hW10 kA kX kW kd_ hd_ hb6 k8_ k9_ k10_ j8_ j9_ j10_ a8_ a9_ a10_ x8_ x9_ x10_
  have hP3 := hW3.kp
  unfold planC at hP3
  obtain ⟨_, _, _, _, _, _, _, _, z8_, z9_, z10_, _, _, _, _, _, _, _, _, _, _, _, _, _, _, _⟩ := hP3.c13
  go_wp2_with fail
  go_loopg [3, 45] p.mets.length (fun n_ v3_ vi_ wr => ∃ k : Nat, k ≤ p.mets.length ∧ vi_ = .int .i64 k ∧ n_ = p.mets.length - k ∧ RW w wr (planC p (.slice Am p.mets.length cm) (.slice Af p.fees.length cf) (.slice Ac cs.length cc)) v3_ (headT p ++ (p.mets.take k).flatMap metT))
  case atStart => exact ⟨0, Nat.zero_le _, rfl, rfl, by simpa using hW3⟩
  case round =>
    obtain ⟨k, hk, rfl, rfl, hW⟩ := hrel
    clear hW3 hP3 z8_ z9_ z10_
    by_cases hlt : k < p.mets.length
    · obtain ⟨m, hi⟩ : ∃ m, p.mets[k]? = some m := ⟨_, List.getElem?_eq_getElem hlt⟩
      obtain ⟨gm, rfl, hgm⟩ := hm3 (by omega)
      obtain ⟨L, hL⟩ : ∃ L, L = headT p ++ (p.mets.take k).flatMap metT := ⟨_, rfl⟩
      rw [← hL] at hW
      have hln : L.length ≤ 100000 := by
        have h1 := flat_le metT 3 (p.mets.take k) (fun _ _ => Nat.le_refl 3)
        have h2 : (headT p).length = 12 := rfl
        rw [List.length_take] at h1
        rw [hL, List.length_append]
        omega
      replace hL := Lib.hid hL
      have hLs := (Lies.of (hR.out.below hW.lb.out).mo : Lies metF 44 5 wr (.slice (some ⟨gm, 0, none⟩) p.mets.length cm) p.mets)
      have y0 := hLs.at metF_len hi (j := 0) rfl
      have y1 := hLs.at metF_len hi (j := 1) rfl
      have y2 := hLs.at metF_len hi (j := 2) rfl
      have y3 := hLs.at metF_len hi (j := 3) rfl
      have y4 := hLs.at metF_len hi (j := 4) rfl
      simp only [Nat.add_zero] at y0
      have b0 : (0 : Int) ≤ (k : Int) := by omega
      have b1 : (k : Int) < (p.mets.length : Int) := by omega
      have hlw := hW.lt
      have hWa := hW.alloc (.cells #[.string m.name, .string m.unit, .int .i64 m.max, .int .i64 m.line, .int .i64 m.col] 44)
      have kM := Blk.new wr 44 #[.string m.name, .string m.unit, .int .i64 m.max, .int .i64 m.line, .int .i64 m.col]
      replace hi := Lib.hid hi
      clear hLs
      go_wp2_with fail
      clear y0 y1 y2 y3 y4 hW
      generalize wr.alloc (.cells #[.string m.name, .string m.unit, .int .i64 m.max, .int .i64 m.line, .int .i64 m.col] 44) = W at *
      have kd_ : Blk W.drew wr.heap.size 44 #[.string m.name, .string m.unit, .int .i64 m.max, .int .i64 m.line, .int .i64 m.col] := kM.drew
      have hd_ : RW w W.drew (planC p (.slice (some ⟨gm, 0, none⟩) p.mets.length cm) (.slice Af p.fees.length cf) (.slice Ac cs.length cc)) u3 L := hWa.drew
      obtain ⟨k0_, k1_, k2_, _, _, _, _, _, _, _⟩ := kd_.c5
      go_region_held3 (fun w' => w'.cell? ⟨wr.heap.size, 0, none⟩ = some (.string m.name) ∧ w'.cell? ⟨wr.heap.size, 1, none⟩ = some (.string m.unit) ∧ w'.cell? ⟨wr.heap.size, 2, none⟩ = some (.int .i64 m.max))
        (refine ⟨?_, ?_, ?_⟩ <;> first | with_reducible assumption | exact LB.alloc (by with_reducible assumption) _ | (go_keep; done))
        ((first | (refine step_append_lies _ (by rfl) (.tmp 49) (.tmp 57) 79 (by rfl) w.heap.size 9 iS _ 1 16 Tryd.underlying79 hS0 hS1 hS2 hS3 (by rfl) (by decide) _ _ _ (by rfl) (hW6.alloc _).out ⟨w6.heap.size, 0, none⟩ 3 3 [.string m.name, .string m.unit, .string (textB m.max)] (by rfl) rfl (World.news_of_block (cs := #[.string m.name, .string m.unit, .string (textB m.max)]) (t := 9) (fr := (0, 0)) (heap_alloc_new _ _)) (by simp [Value.oneCell']) (by decide) (by (try simp only [List.length_cons, List.length_nil, List.length_append, winT_len]); unfold maxLen; omega) (by (try simp only [List.length_cons, List.length_nil, List.length_append, winT_len]); omega) (hW6.alloc _).lb.out.size _ rfl ?_; intro g cp w10 hown10 hgrow10 hat10 hlt10; (have hW10 := (hW6.alloc _).add (l' := [m.name, m.unit, textB m.max]) hgrow10 hown10 rfl rfl); (have hl6 := hW6.lt); (have kX := kA.grown hgrow10 ((hW6.alloc _).apart kA (by decide))); obtain ⟨x0_, x1_, x2_, _, _, _, _, _, _, _⟩ := kX.c5) | (go_at_call 95; refine (text_any _ _).mono ?_; rintro e w6 ⟨rfl, hb6⟩; (have kW : Blk w6 wr.heap.size 44 #[.string m.name, .string m.unit, .int .i64 m.max, .int .i64 m.line, .int .i64 m.col] := Blk.call (by with_reducible assumption) hb6); obtain ⟨j0_, j1_, j2_, _, _, _, _, _, _, _⟩ := kW.c5; (have hW6 : RW w w6 (planC p (.slice (some ⟨gm, 0, none⟩) p.mets.length cm) (.slice Af p.fees.length cf) (.slice Ac cs.length cc)) u3 L := RW.below (by with_reducible assumption) hb6); (have kA := kW.alloc (.cells #[.string m.name, .string m.unit, .string (textB m.max)] 9)); obtain ⟨a0_, a1_, a2_, _, _, _, _, _, _, _⟩ := kA.c5)))
      go_wp2_with fail
      go_roundg (p.mets.length - (k + 1))
      case rel => exact ⟨k + 1, by omega, by go_num, rfl, by rw [flat_take metT hi.out, ← List.append_assoc, ← hL.out]; exact hW10⟩
      case measure => omega
    · obtain rfl : k = p.mets.length := by omega
      rw [List.take_length] at hW
      have hW4 := hW
      clear hW
      have hP := hW4.kp
      unfold planC at hP
      obtain ⟨_, _, _, _, _, _, _, _, z8_, z9_, z10_, _, _, _, _, _, _, _, _, _, _, _, _, _, _, _⟩ := hP.c13
      go_wp2_with fail
      go_loopg [3, 63] p.fees.length (fun n_ v3_ vi_ wr => ∃ k : Nat, k ≤ p.fees.length ∧ vi_ = .int .i64 k ∧ n_ = p.fees.length - k ∧ RW w wr (planC p (.slice Am p.mets.length cm) (.slice Af p.fees.length cf) (.slice Ac cs.length cc)) v3_ ((headT p ++ p.mets.flatMap metT) ++ (p.fees.take k).flatMap feeT))
      case atStart => exact ⟨0, Nat.zero_le _, rfl, rfl, by simpa using hW4⟩
      case round =>
        obtain ⟨k, hk, rfl, rfl, hW⟩ := hrel
        clear hW4 hP z8_ z9_ z10_
        by_cases hlt : k < p.fees.length
        · obtain ⟨f, hi⟩ : ∃ f, p.fees[k]? = some f := ⟨_, List.getElem?_eq_getElem hlt⟩
          obtain ⟨gf, rfl, hgf⟩ := hf3 (by omega)
          obtain ⟨L, hL⟩ : ∃ L, L = headT p ++ p.mets.flatMap metT ++ (p.fees.take k).flatMap feeT := ⟨_, rfl⟩
          rw [← hL] at hW
          have hln : L.length ≤ 1000000 := by
            have h1 := flat_le feeT 8 (p.fees.take k) (fun _ _ => Nat.le_refl 8)
            have h3 := flat_le metT 3 p.mets (fun _ _ => Nat.le_refl 3)
            have h2 : (headT p).length = 12 := rfl
            rw [List.length_take] at h1
            rw [hL, List.length_append, List.length_append]
            omega
          replace hL := Lib.hid hL
          have hLs := (Lies.of (hR.out.below hW.lb.out).fo : Lies feeF 48 10 wr (.slice (some ⟨gf, 0, none⟩) p.fees.length cf) p.fees)
          have y0 := hLs.at feeF_len hi (j := 0) rfl
          have y1 := hLs.at feeF_len hi (j := 1) rfl
          have y2 := hLs.at feeF_len hi (j := 2) rfl
          have y3 := hLs.at feeF_len hi (j := 3) rfl
          have y4 := hLs.at feeF_len hi (j := 4) rfl
          have y5 := hLs.at feeF_len hi (j := 5) rfl
          have y6 := hLs.at feeF_len hi (j := 6) rfl
          have y7 := hLs.at feeF_len hi (j := 7) rfl
          have y8 := hLs.at feeF_len hi (j := 8) rfl
          have y9 := hLs.at feeF_len hi (j := 9) rfl
          simp only [Nat.add_zero] at y0
          have b0 : (0 : Int) ≤ (k : Int) := by omega
          have b1 : (k : Int) < (p.fees.length : Int) := by omega
          have hlw := hW.lt
          have hWa := hW.alloc (.cells #[.int .i64 f.amount, .bool f.win.has, .int .i64 f.win.from_.1, .int .i64 f.win.from_.2.1, .int .i64 f.win.from_.2.2, .int .i64 f.win.to_.1, .int .i64 f.win.to_.2.1, .int .i64 f.win.to_.2.2, .int .i64 f.line, .int .i64 f.col] 48)
          have kM := Blk.new wr 48 #[.int .i64 f.amount, .bool f.win.has, .int .i64 f.win.from_.1, .int .i64 f.win.from_.2.1, .int .i64 f.win.from_.2.2, .int .i64 f.win.to_.1, .int .i64 f.win.to_.2.1, .int .i64 f.win.to_.2.2, .int .i64 f.line, .int .i64 f.col]
          replace hi := Lib.hid hi
          clear hLs
          go_wp2_with fail
          clear y0 y1 y2 y3 y4 y5 y6 y7 y8 y9 hW
          generalize wr.alloc (.cells #[.int .i64 f.amount, .bool f.win.has, .int .i64 f.win.from_.1, .int .i64 f.win.from_.2.1, .int .i64 f.win.from_.2.2, .int .i64 f.win.to_.1, .int .i64 f.win.to_.2.1, .int .i64 f.win.to_.2.2, .int .i64 f.line, .int .i64 f.col] 48) = W at *
          have hlW := hWa.lt
          have kd_ : Blk W.drew wr.heap.size 48 #[.int .i64 f.amount, .bool f.win.has, .int .i64 f.win.from_.1, .int .i64 f.win.from_.2.1, .int .i64 f.win.from_.2.2, .int .i64 f.win.to_.1, .int .i64 f.win.to_.2.1, .int .i64 f.win.to_.2.2, .int .i64 f.line, .int .i64 f.col] := kM.drew
          have hd_ : RW w W.drew (planC p (.slice Am p.mets.length cm) (.slice (some ⟨gf, 0, none⟩) p.fees.length cf) (.slice Ac cs.length cc)) u3 L := hWa.drew
          obtain ⟨k0_, k1_, k2_, k3_, k4_, k5_, k6_, k7_, _, _, _, _, _, _, _, _, _, _, _, _⟩ := kd_.c10
          go_region_held3 (fun w' => w'.cell? ⟨wr.heap.size, 0, none⟩ = some (.int .i64 f.amount) ∧ w'.cell? ⟨wr.heap.size, 1, none⟩ = some (.bool f.win.has) ∧ w'.cell? ⟨wr.heap.size, 2, none⟩ = some (.int .i64 f.win.from_.1) ∧ w'.cell? ⟨wr.heap.size, 3, none⟩ = some (.int .i64 f.win.from_.2.1) ∧ w'.cell? ⟨wr.heap.size, 4, none⟩ = some (.int .i64 f.win.from_.2.2) ∧ w'.cell? ⟨wr.heap.size, 5, none⟩ = some (.int .i64 f.win.to_.1) ∧ w'.cell? ⟨wr.heap.size, 6, none⟩ = some (.int .i64 f.win.to_.2.1) ∧ w'.cell? ⟨wr.heap.size, 7, none⟩ = some (.int .i64 f.win.to_.2.2))
            (refine ⟨?_, ?_, ?_, ?_, ?_, ?_, ?_, ?_⟩ <;> first | with_reducible assumption | exact LB.alloc (by with_reducible assumption) _ | (go_keep; done))
            ((first | (refine step_append_lies _ (by rfl) (.tmp 72) (.tmp 75) 79 (by rfl) w.heap.size 9 iS _ 1 16 Tryd.underlying79 hS0 hS1 hS2 hS3 (by rfl) (by decide) _ _ _ (by rfl) hW11.out ⟨g1, 0, none⟩ 7 7 ((winT f.win).map Value.string) (by rfl) (by rfl) (World.news_of_block (fr := (0, 0)) hk1) (by intro u hu; obtain ⟨b, _, rfl⟩ := List.mem_map.1 hu; rfl) (by decide) (by (try simp only [List.length_cons, List.length_nil, List.length_append, winT_len]); unfold maxLen; omega) (by (try simp only [List.length_cons, List.length_nil, List.length_append, winT_len]); omega) hW11.lb.out.size _ rfl ?_; intro g2 cp2 w12 hown12 hgrow12 hat12 hlt12; (have hW12 := hW11.add (l' := winT f.win) hgrow12 hown12 rfl (str_flat _)); (have kZ := kY.grown hgrow12 (hW11.apart kY (by decide))); obtain ⟨q0_, q1_, q2_, q3_, q4_, q5_, q6_, q7_, _, _, _, _, _, _, _, _, _, _, _, _⟩ := kZ.c10) | (refine step_append_lies _ (by rfl) (.tmp 67) (.tmp 71) 79 (by rfl) w.heap.size 9 iS _ 1 16 Tryd.underlying79 hS0 hS1 hS2 hS3 (by rfl) (by decide) _ _ _ (by rfl) (hW6.alloc _).out ⟨w6.heap.size, 0, none⟩ 1 1 [.string (textB f.amount)] (by rfl) rfl (World.news_of_block (cs := #[.string (textB f.amount)]) (t := 9) (fr := (0, 0)) (heap_alloc_new _ _)) (by simp [Value.oneCell']) (by decide) (by (try simp only [List.length_cons, List.length_nil, List.length_append, winT_len]); unfold maxLen; omega) (by (try simp only [List.length_cons, List.length_nil, List.length_append, winT_len]); omega) (hW6.alloc _).lb.out.size _ rfl ?_; intro g cp w10 hown10 hgrow10 hat10 hlt10; (have hW10 := (hW6.alloc _).add (l' := [textB f.amount]) hgrow10 hown10 rfl rfl); (have hl6 := hW6.lt); (have kX := kA.grown hgrow10 ((hW6.alloc _).apart kA (by decide))); obtain ⟨x0_, x1_, x2_, x3_, x4_, x5_, x6_, x7_, _, _, _, _, _, _, _, _, _, _, _, _⟩ := kX.c10) | (go_at_call 95; refine (text_any _ _).mono ?_; rintro e w6 ⟨rfl, hb6⟩; (have kW : Blk w6 wr.heap.size 48 #[.int .i64 f.amount, .bool f.win.has, .int .i64 f.win.from_.1, .int .i64 f.win.from_.2.1, .int .i64 f.win.from_.2.2, .int .i64 f.win.to_.1, .int .i64 f.win.to_.2.1, .int .i64 f.win.to_.2.2, .int .i64 f.line, .int .i64 f.col] := Blk.call kd_ hb6); obtain ⟨j0_, j1_, j2_, j3_, j4_, j5_, j6_, j7_, _, _, _, _, _, _, _, _, _, _, _, _⟩ := kW.c10; (have hW6 : RW w w6 (planC p (.slice Am p.mets.length cm) (.slice (some ⟨gf, 0, none⟩) p.fees.length cf) (.slice Ac cs.length cc)) u3 L := RW.below hd_ hb6); (have kA := kW.alloc (.cells #[.string (textB f.amount)] 9)); obtain ⟨a0_, a1_, a2_, a3_, a4_, a5_, a6_, a7_, _, _, _, _, _, _, _, _, _, _, _, _⟩ := kA.c10) | (go_at_call 94; refine (win6_any f.win _).mono ?_; rintro e w11 ⟨g1, rfl, hk1, hg1, hb11⟩; (have kY := kX.call hb11); obtain ⟨v0_, v1_, v2_, v3_, v4_, v5_, v6_, v7_, _, _, _, _, _, _, _, _, _, _, _, _⟩ := kY.c10; (have hW11 := hW10.below hb11))))
          go_wp2_with fail
          go_roundg (p.fees.length - (k + 1))
          case rel => exact ⟨k + 1, by omega, by go_num, rfl, by rw [flat_take feeT hi.out, ← List.append_assoc, ← hL.out]; unfold feeT; rw [← List.append_assoc]; simp only [List.length_append, List.length_singleton] at hW12; exact hW12⟩
          case measure => omega
        · obtain rfl : k = p.fees.length := by omega
          rw [List.take_length] at hW
          have hW5 := hW
          clear hW
          have hP := hW5.kp
          unfold planC at hP
          obtain ⟨_, _, _, _, _, _, _, _, z8_, z9_, z10_, _, _, _, _, _, _, _, _, _, _, _, _, _, _, _⟩ := hP.c13
          go_wp2_with fail
          go_loopg [3, 81] cs.length (fun n_ v3_ vi_ wr => ∃ k : Nat, k ≤ cs.length ∧ vi_ = .int .i64 k ∧ n_ = cs.length - k ∧ RW w wr (planC p (.slice Am p.mets.length cm) (.slice Af p.fees.length cf) (.slice Ac cs.length cc)) v3_ ((headT p ++ p.mets.flatMap metT ++ p.fees.flatMap feeT) ++ (cs.take k).flatMap (fun x => chgT x.1)))
          case atStart => exact ⟨0, Nat.zero_le _, rfl, rfl, by simpa using hW5⟩
          case round =>
            obtain ⟨k, hk, rfl, rfl, hW⟩ := hrel
            clear hW5 hP z8_ z9_ z10_
            by_cases hlt : k < cs.length
            · obtain ⟨⟨c, tv, av⟩, hi⟩ : ∃ c, cs[k]? = some c := ⟨_, List.getElem?_eq_getElem hlt⟩
              have hmem : (c, tv, av) ∈ cs := List.mem_of_getElem? hi
              have hcm : c ∈ p.chgs := by rw [← hR.out.eq]; exact List.mem_map.2 ⟨_, hmem, rfl⟩
              have q4 := n4.out c hcm
              have q5 := n5.out c hcm
              have hti := (hR.out.ne _ hmem).1
              have haj := (hR.out.ne _ hmem).2
              simp only at hti haj
              obtain ⟨At, ct, rfl, ht1, ht2, ht3⟩ := Lies.open (f := tierF) (l := c.tiers) (Lies.of hti)
              obtain ⟨Aa, ca, rfl, ha1, ha2, ha3⟩ := Lies.open (f := adjF) (l := c.adjs) (Lies.of haj)
              replace hti := Lib.hid hti
              replace haj := Lib.hid haj
              replace hmem := Lib.hid hmem
              clear hcm
              obtain ⟨gc, rfl, hgc⟩ := hc3 (by omega)
              obtain ⟨L, hL⟩ : ∃ L, L = headT p ++ p.mets.flatMap metT ++ p.fees.flatMap feeT ++ (cs.take k).flatMap (fun x => chgT x.1) := ⟨_, rfl⟩
              rw [← hL] at hW
              have hln : L.length ≤ 600000000 := by
                have h1 := flat_le (fun x : CT => chgT x.1) 50014 (cs.take k) (fun x hx => by
                  have hm := List.mem_of_mem_take hx
                  have hm2 : x.1 ∈ p.chgs := by rw [← hR.out.eq]; exact List.mem_map.2 ⟨_, hm, rfl⟩
                  have e4 := n4.out x.1 hm2
                  have e5 := n5.out x.1 hm2
                  have e6 := flat_le tierT 2 x.1.tiers (fun _ _ => Nat.le_refl 2)
                  have e7 := flat_le adjT 3 x.1.adjs (fun _ _ => Nat.le_refl 3)
                  have e8 : (chgH x.1).length = 14 := rfl
                  show (chgH x.1 ++ x.1.tiers.flatMap tierT ++ x.1.adjs.flatMap adjT).length ≤ 50014
                  rw [List.length_append, List.length_append]
                  omega)
                have h3 := flat_le metT 3 p.mets (fun _ _ => Nat.le_refl 3)
                have h4 := flat_le feeT 8 p.fees (fun _ _ => Nat.le_refl 8)
                have h2 : (headT p).length = 12 := rfl
                rw [List.length_take] at h1
                rw [hL, List.length_append, List.length_append, List.length_append]
                omega
              replace hL := Lib.hid hL
              have hLs := (Lies.of (hR.out.below hW.lb.out).co : Lies chgF 52 16 wr (.slice (some ⟨gc, 0, none⟩) cs.length cc) cs)
              have y0 := hLs.at chgF_len hi (j := 0) rfl
              have y1 := hLs.at chgF_len hi (j := 1) rfl
              have y2 := hLs.at chgF_len hi (j := 2) rfl
              have y3 := hLs.at chgF_len hi (j := 3) rfl
              have y4 := hLs.at chgF_len hi (j := 4) rfl
              have y5 := hLs.at chgF_len hi (j := 5) rfl
              have y6 := hLs.at chgF_len hi (j := 6) rfl
              have y7 := hLs.at chgF_len hi (j := 7) rfl
              have y8 := hLs.at chgF_len hi (j := 8) rfl
              have y9 := hLs.at chgF_len hi (j := 9) rfl
              have y10 := hLs.at chgF_len hi (j := 10) rfl
              have y11 := hLs.at chgF_len hi (j := 11) rfl
              have y12 := hLs.at chgF_len hi (j := 12) rfl
              have y13 := hLs.at chgF_len hi (j := 13) rfl
              have y14 := hLs.at chgF_len hi (j := 14) rfl
              have y15 := hLs.at chgF_len hi (j := 15) rfl
              simp only [Nat.add_zero] at y0
              have b0 : (0 : Int) ≤ (k : Int) := by omega
              have b1 : (k : Int) < (cs.length : Int) := by omega
              have hlw := hW.lt
              have hWa := hW.alloc (.cells #[.string c.meter, .bool c.win.has, .int .i64 c.win.from_.1, .int .i64 c.win.from_.2.1, .int .i64 c.win.from_.2.2, .int .i64 c.win.to_.1, .int .i64 c.win.to_.2.1, .int .i64 c.win.to_.2.2, .int .i64 c.allow, .int .i64 c.block, .int .i64 c.kind, .slice At c.tiers.length ct, .int .i64 c.mode, .slice Aa c.adjs.length ca, .int .i64 c.line, .int .i64 c.col] 52)
              have kM := Blk.new wr 52 #[.string c.meter, .bool c.win.has, .int .i64 c.win.from_.1, .int .i64 c.win.from_.2.1, .int .i64 c.win.from_.2.2, .int .i64 c.win.to_.1, .int .i64 c.win.to_.2.1, .int .i64 c.win.to_.2.2, .int .i64 c.allow, .int .i64 c.block, .int .i64 c.kind, .slice At c.tiers.length ct, .int .i64 c.mode, .slice Aa c.adjs.length ca, .int .i64 c.line, .int .i64 c.col]
              replace hi := Lib.hid hi
              clear hLs
              go_wp2_with fail
              clear y0 y1 y2 y3 y4 y5 y6 y7 y8 y9 y10 y11 y12 y13 y14 y15 hW
              generalize wr.alloc (.cells #[.string c.meter, .bool c.win.has, .int .i64 c.win.from_.1, .int .i64 c.win.from_.2.1, .int .i64 c.win.from_.2.2, .int .i64 c.win.to_.1, .int .i64 c.win.to_.2.1, .int .i64 c.win.to_.2.2, .int .i64 c.allow, .int .i64 c.block, .int .i64 c.kind, .slice At c.tiers.length ct, .int .i64 c.mode, .slice Aa c.adjs.length ca, .int .i64 c.line, .int .i64 c.col] 52) = W at *
              have hlW := hWa.lt
              have hGW := kM.lt
              generalize wr.heap.size = GM at *
              have kd_ : Blk W.drew GM 52 #[.string c.meter, .bool c.win.has, .int .i64 c.win.from_.1, .int .i64 c.win.from_.2.1, .int .i64 c.win.from_.2.2, .int .i64 c.win.to_.1, .int .i64 c.win.to_.2.1, .int .i64 c.win.to_.2.2, .int .i64 c.allow, .int .i64 c.block, .int .i64 c.kind, .slice At c.tiers.length ct, .int .i64 c.mode, .slice Aa c.adjs.length ca, .int .i64 c.line, .int .i64 c.col] := kM.drew
              obtain ⟨k0_, k1_, k2_, k3_, k4_, k5_, k6_, k7_, _, _, _, _, _, _, _, _, _, _, _, _, _, _, _, _, _, _, _, _, _, _, _, _⟩ := kd_.c16
              have ke_ : Blk (W.alloc (.cells #[.string c.meter] 9)).drew GM 52 #[.string c.meter, .bool c.win.has, .int .i64 c.win.from_.1, .int .i64 c.win.from_.2.1, .int .i64 c.win.from_.2.2, .int .i64 c.win.to_.1, .int .i64 c.win.to_.2.1, .int .i64 c.win.to_.2.2, .int .i64 c.allow, .int .i64 c.block, .int .i64 c.kind, .slice At c.tiers.length ct, .int .i64 c.mode, .slice Aa c.adjs.length ca, .int .i64 c.line, .int .i64 c.col] := (kM.alloc (.cells #[.string c.meter] 9)).drew
              obtain ⟨e0_, e1_, e2_, e3_, e4_, e5_, e6_, e7_, _, _, _, _, _, _, _, _, _, _, _, _, _, _, _, _, _, _, _, _, _, _, _, _⟩ := ke_.c16
              have he_ : RW w (W.alloc (.cells #[.string c.meter] 9)).drew (planC p (.slice Am p.mets.length cm) (.slice Af p.fees.length cf) (.slice (some ⟨gc, 0, none⟩) cs.length cc)) u3 L := (hWa.alloc (.cells #[.string c.meter] 9)).drew
              have hne_ : (W.alloc (.cells #[.string c.meter] 9)).drew.heap[W.heap.size]? = some (.cells #[.string c.meter] 9) := heap_alloc_new W (.cells #[.string c.meter] 9)
              go_region_held3 (fun w' => w'.cell? ⟨GM, 0, none⟩ = some (.string c.meter) ∧ w'.cell? ⟨GM, 1, none⟩ = some (.bool c.win.has) ∧ w'.cell? ⟨GM, 2, none⟩ = some (.int .i64 c.win.from_.1) ∧ w'.cell? ⟨GM, 3, none⟩ = some (.int .i64 c.win.from_.2.1) ∧ w'.cell? ⟨GM, 4, none⟩ = some (.int .i64 c.win.from_.2.2) ∧ w'.cell? ⟨GM, 5, none⟩ = some (.int .i64 c.win.to_.1) ∧ w'.cell? ⟨GM, 6, none⟩ = some (.int .i64 c.win.to_.2.1) ∧ w'.cell? ⟨GM, 7, none⟩ = some (.int .i64 c.win.to_.2.2))
                (refine ⟨?_, ?_, ?_, ?_, ?_, ?_, ?_, ?_⟩ <;> first | with_reducible assumption | exact LB.alloc (by with_reducible assumption) _ | (go_keep; done))
                ((first | (refine step_append_lies _ (by rfl) (.tmp 89) (.tmp 92) 79 (by rfl) w.heap.size 9 iS _ 1 16 Tryd.underlying79 hS0 hS1 hS2 hS3 (by rfl) (by decide) _ _ _ (by rfl) hW11.out ⟨g1, 0, none⟩ 7 7 ((winT c.win).map Value.string) (by rfl) (by rfl) (World.news_of_block (fr := (0, 0)) hk1) (by intro u hu; obtain ⟨b, _, rfl⟩ := List.mem_map.1 hu; rfl) (by decide) (by (try simp only [List.length_cons, List.length_nil, List.length_append, winT_len]); unfold maxLen; omega) (by (try simp only [List.length_cons, List.length_nil, List.length_append, winT_len]); omega) hW11.lb.out.size _ rfl ?_; intro g2 cp2 w12 hown12 hgrow12 hat12 hlt12; (have hW12 := hW11.add (l' := winT c.win) hgrow12 hown12 rfl (str_flat _)); (have kZ := kY.grown hgrow12 (hW11.apart kY (by decide))); obtain ⟨q0_, q1_, q2_, q3_, q4_, q5_, q6_, q7_, _, _, _, _, _, _, _, _, _, _, _, _, _, _, _, _, _, _, _, _, _, _, _, _⟩ := kZ.c16) | (refine step_append_lies _ (by rfl) (.tmp 85) (.tmp 88) 79 (by rfl) w.heap.size 9 iS _ 1 16 Tryd.underlying79 hS0 hS1 hS2 hS3 (by rfl) (by decide) _ _ _ (by rfl) he_.out ⟨W.heap.size, 0, none⟩ 1 1 [.string c.meter] (by rfl) rfl (World.news_of_block (cs := #[.string c.meter]) (t := 9) (fr := (0, 0)) hne_) (by simp [Value.oneCell']) (by decide) (by (try simp only [List.length_cons, List.length_nil, List.length_append, winT_len]); unfold maxLen; omega) (by (try simp only [List.length_cons, List.length_nil, List.length_append, winT_len]); omega) he_.lb.out.size _ rfl ?_; intro g cp w10 hown10 hgrow10 hat10 hlt10; (have hW10 := he_.add (l' := [c.meter]) hgrow10 hown10 rfl rfl); (have kX := ke_.grown hgrow10 (he_.apart ke_ (by decide))); obtain ⟨x0_, x1_, x2_, x3_, x4_, x5_, x6_, x7_, _, _, _, _, _, _, _, _, _, _, _, _, _, _, _, _, _, _, _, _, _, _, _, _⟩ := kX.c16) | (go_at_call 94; refine (win6_any c.win _).mono ?_; rintro e w11 ⟨g1, rfl, hk1, hg1, hb11⟩; (have kY := kX.call hb11); obtain ⟨v0_, v1_, v2_, v3_, v4_, v5_, v6_, v7_, _, _, _, _, _, _, _, _, _, _, _, _, _, _, _, _, _, _, _, _, _, _, _, _⟩ := kY.c16; (have hW11 := hW10.below hb11))))
              simp only [List.length_append, List.length_singleton] at hW12
              clear k0_ k1_ k2_ k3_ k4_ k5_ k6_ k7_ e0_ e1_ e2_ e3_ e4_ e5_ e6_ e7_ x0_ x1_ x2_ x3_ x4_ x5_ x6_ x7_ v0_ v1_ v2_ v3_ v4_ v5_ v6_ v7_ q0_ q1_ q2_ q3_ q4_ q5_ q6_ q7_ kd_ ke_ he_ hne_ kX kY hk1 hW10 hW11 hgrow10 hgrow12 hown10 hown12 hat10 hat12 hlt10 hlt12
              go_wp2_with fail
              obtain ⟨L2, hL2⟩ : ∃ L2, L2 = L ++ [c.meter] ++ winT c.win := ⟨_, rfl⟩
              have hln3 : L2.length = L.length + 8 := by rw [hL2, List.length_append, List.length_append]; rfl
              rw [← hL2] at hW12
              rw [show L.length + 1 + 7 = L2.length from by omega] at hW12
              have hsv : (.slice (some ⟨g2, 0, none⟩) (L.length + 1 + 7) cp2 : Value) = (.slice (some ⟨g2, 0, none⟩) L2.length cp2) := by rw [hln3]
              rw [hsv]
              clear hsv
              replace hL2 := Lib.hid hL2
              replace hln3 := Lib.hid hln3
              have hln4 : L2.length ≤ 600000008 := by rw [hln3.out]; omega
              have kd_ : Blk w12.drew GM 52 #[.string c.meter, .bool c.win.has, .int .i64 c.win.from_.1, .int .i64 c.win.from_.2.1, .int .i64 c.win.from_.2.2, .int .i64 c.win.to_.1, .int .i64 c.win.to_.2.1, .int .i64 c.win.to_.2.2, .int .i64 c.allow, .int .i64 c.block, .int .i64 c.kind, .slice At c.tiers.length ct, .int .i64 c.mode, .slice Aa c.adjs.length ca, .int .i64 c.line, .int .i64 c.col] := kZ.drew
              have hd_ : RW w w12.drew (planC p (.slice Am p.mets.length cm) (.slice Af p.fees.length cf) (.slice (some ⟨gc, 0, none⟩) cs.length cc)) (.slice (some ⟨g2, 0, none⟩) L2.length cp2) L2 := hW12.drew
              obtain ⟨_, _, _, _, _, _, _, _, k8_, k9_, k10_, k11_, k12_, k13_, _, _, _, _, _, _, _, _, _, _, _, _, _, _, _, _, _, _⟩ := kd_.c16
              go_region_held3 (fun w' => w'.cell? ⟨GM, 8, none⟩ = some (.int .i64 c.allow) ∧ w'.cell? ⟨GM, 9, none⟩ = some (.int .i64 c.block) ∧ w'.cell? ⟨GM, 10, none⟩ = some (.int .i64 c.kind) ∧ w'.cell? ⟨GM, 11, none⟩ = some (.slice At c.tiers.length ct) ∧ w'.cell? ⟨GM, 12, none⟩ = some (.int .i64 c.mode) ∧ w'.cell? ⟨GM, 13, none⟩ = some (.slice Aa c.adjs.length ca))
                (refine ⟨?_, ?_, ?_, ?_, ?_, ?_⟩ <;> first | with_reducible assumption | exact LB.alloc (by with_reducible assumption) _ | (go_keep; done))
                ((first | (refine step_append_lies _ (by rfl) (.tmp 94) (.tmp 115) 79 (by rfl) w.heap.size 9 iS _ 1 16 Tryd.underlying79 hS0 hS1 hS2 hS3 (by rfl) (by decide) _ _ _ (by rfl) (hW6.alloc _).out ⟨w6.heap.size, 0, none⟩ 6 6 [.string (textB c.allow), .string (textB c.block), .string (textB c.kind), .string (textB c.mode), .string (textB c.tiers.length), .string (textB c.adjs.length)] (by rfl) rfl (World.news_of_block (cs := #[.string (textB c.allow), .string (textB c.block), .string (textB c.kind), .string (textB c.mode), .string (textB c.tiers.length), .string (textB c.adjs.length)]) (t := 9) (fr := (0, 0)) (heap_alloc_new _ _)) (by simp [Value.oneCell']) (by decide) (by (try simp only [List.length_cons, List.length_nil, List.length_append, winT_len]); unfold maxLen; omega) (by (try simp only [List.length_cons, List.length_nil, List.length_append, winT_len]); omega) (hW6.alloc _).lb.out.size _ rfl ?_; intro g cp w10 hown10 hgrow10 hat10 hlt10; (have hW10 := (hW6.alloc _).add (l' := [textB c.allow, textB c.block, textB c.kind, textB c.mode, textB c.tiers.length, textB c.adjs.length]) hgrow10 hown10 rfl rfl); (have hl6 := hW6.lt); (have kX := kA.grown hgrow10 ((hW6.alloc _).apart kA (by decide))); obtain ⟨_, _, _, _, _, _, _, _, x8_, x9_, x10_, x11_, x12_, x13_, _, _, _, _, _, _, _, _, _, _, _, _, _, _, _, _, _, _⟩ := kX.c16) | (go_at_call 95; refine (text_any _ _).mono ?_; rintro e w6 ⟨rfl, hb6⟩; (have kW : Blk w6 GM 52 #[.string c.meter, .bool c.win.has, .int .i64 c.win.from_.1, .int .i64 c.win.from_.2.1, .int .i64 c.win.from_.2.2, .int .i64 c.win.to_.1, .int .i64 c.win.to_.2.1, .int .i64 c.win.to_.2.2, .int .i64 c.allow, .int .i64 c.block, .int .i64 c.kind, .slice At c.tiers.length ct, .int .i64 c.mode, .slice Aa c.adjs.length ca, .int .i64 c.line, .int .i64 c.col] := Blk.call (by with_reducible assumption) hb6); obtain ⟨_, _, _, _, _, _, _, _, j8_, j9_, j10_, j11_, j12_, j13_, _, _, _, _, _, _, _, _, _, _, _, _, _, _, _, _, _, _⟩ := kW.c16; (have hW6 : RW w w6 (planC p (.slice Am p.mets.length cm) (.slice Af p.fees.length cf) (.slice (some ⟨gc, 0, none⟩) cs.length cc)) (.slice (some ⟨g2, 0, none⟩) L2.length cp2) L2 := RW.below (by with_reducible assumption) hb6); (have kA := kW.alloc (.cells #[.string (textB c.allow), .string (textB c.block), .string (textB c.kind), .string (textB c.mode), .string (textB c.tiers.length), .string (textB c.adjs.length)] 9)); obtain ⟨_, _, _, _, _, _, _, _, a8_, a9_, a10_, a11_, a12_, a13_, _, _, _, _, _, _, _, _, _, _, _, _, _, _, _, _, _, _⟩ := kA.c16)))
              have hLC0 : L2 ++ [textB c.allow, textB c.block, textB c.kind, textB c.mode, textB c.tiers.length, textB c.adjs.length] = L ++ chgH c := by rw [hL2.out]; unfold chgH; simp only [List.append_assoc]
              obtain ⟨LC, hLC⟩ : ∃ LC, LC = L ++ chgH c := ⟨_, rfl⟩
              rw [hLC0, ← hLC] at hW10
              have hlnC : LC.length ≤ 600000014 := by rw [hLC, List.length_append, show (chgH c).length = 14 from rfl]; omega
              replace hLC := Lib.hid hLC
              have hT := hW10
              have hTk := kX
              go_wp2_with fail
              clear hLC0 hW10 hW12 kX kZ kA kW hW6 hl6 hgrow10 hown10 hat10 hlt10 hd_ kd_ k8_ k9_ k10_ k11_ k12_ k13_ j8_ j9_ j10_ j11_ j12_ j13_ a8_ a9_ a10_ a11_ a12_ a13_
              go_loopg [3, 120] c.tiers.length (fun n_ v3_ vi_ wr2 => ∃ k2 : Nat, k2 ≤ c.tiers.length ∧ vi_ = .int .i64 k2 ∧ n_ = c.tiers.length - k2 ∧ RW w wr2 (planC p (.slice Am p.mets.length cm) (.slice Af p.fees.length cf) (.slice (some ⟨gc, 0, none⟩) cs.length cc)) v3_ (LC ++ (c.tiers.take k2).flatMap tierT) ∧ Blk wr2 GM 52 #[.string c.meter, .bool c.win.has, .int .i64 c.win.from_.1, .int .i64 c.win.from_.2.1, .int .i64 c.win.from_.2.2, .int .i64 c.win.to_.1, .int .i64 c.win.to_.2.1, .int .i64 c.win.to_.2.2, .int .i64 c.allow, .int .i64 c.block, .int .i64 c.kind, .slice At c.tiers.length ct, .int .i64 c.mode, .slice Aa c.adjs.length ca, .int .i64 c.line, .int .i64 c.col])
              case atStart => exact ⟨0, Nat.zero_le _, rfl, rfl, by simpa using hT, hTk⟩
              case round =>
                obtain ⟨k2, hkk2, rfl, rfl, hV, kC⟩ := hrel
                clear hT hTk x8_ x9_ x10_ x11_ x12_ x13_
                by_cases hltk2 : k2 < c.tiers.length
                · obtain ⟨t, hik2⟩ : ∃ t, c.tiers[k2]? = some t := ⟨_, List.getElem?_eq_getElem hltk2⟩
                  obtain ⟨gt, rfl, hgt⟩ := ht3 (by omega)
                  obtain ⟨Mk2, hMk2⟩ : ∃ L, L = LC ++ (c.tiers.take k2).flatMap tierT := ⟨_, rfl⟩
                  rw [← hMk2] at hV
                  have hln2 : Mk2.length ≤ 700000000 := by
                    have h1 := flat_le tierT 2 (c.tiers.take k2) (fun _ _ => Nat.le_refl 2)
                    rw [List.length_take] at h1
                    rw [hMk2, List.length_append]
                    omega
                  replace hMk2 := Lib.hid hMk2
                  have hLs2 := (Lies.of ((hR.out.below hV.lb.out).ne _ hmem.out).1 : Lies tierF 119 2 wr (.slice (some ⟨gt, 0, none⟩) c.tiers.length ct) c.tiers)
                  have y0 := hLs2.at tierF_len hik2 (j := 0) rfl
                  have y1 := hLs2.at tierF_len hik2 (j := 1) rfl
                  simp only [Nat.add_zero] at y0
                  have b2 : (0 : Int) ≤ (k2 : Int) := by omega
                  have b3 : (k2 : Int) < (c.tiers.length : Int) := by omega
                  have hlw2 := hV.lt
                  have hVa := hV.alloc (.cells #[.int .i64 t.upto, .int .i64 t.rate] 119)
                  have kM2 := Blk.new wr 119 #[.int .i64 t.upto, .int .i64 t.rate]
                  have kC2 := kC.alloc (.cells #[.int .i64 t.upto, .int .i64 t.rate] 119)
                  replace hik2 := Lib.hid hik2
                  clear hLs2
                  go_wp2_with fail
                  clear y0 y1 hV kC
                  generalize wr.alloc (.cells #[.int .i64 t.upto, .int .i64 t.rate] 119) = W2 at *
                  have kd_ : Blk W2.drew wr.heap.size 119 #[.int .i64 t.upto, .int .i64 t.rate] := kM2.drew
                  have hd_ : RW w W2.drew (planC p (.slice Am p.mets.length cm) (.slice Af p.fees.length cf) (.slice (some ⟨gc, 0, none⟩) cs.length cc)) u3 Mk2 := hVa.drew
                  obtain ⟨k0_, k1_, _, _⟩ := kd_.c2
                  have kC2d : Blk W2.drew GM 52 #[.string c.meter, .bool c.win.has, .int .i64 c.win.from_.1, .int .i64 c.win.from_.2.1, .int .i64 c.win.from_.2.2, .int .i64 c.win.to_.1, .int .i64 c.win.to_.2.1, .int .i64 c.win.to_.2.2, .int .i64 c.allow, .int .i64 c.block, .int .i64 c.kind, .slice (some ⟨gt, 0, none⟩) c.tiers.length ct, .int .i64 c.mode, .slice Aa c.adjs.length ca, .int .i64 c.line, .int .i64 c.col] := kC2.drew
                  go_region_held3 (fun w' => w'.cell? ⟨wr.heap.size, 0, none⟩ = some (.int .i64 t.upto) ∧ w'.cell? ⟨wr.heap.size, 1, none⟩ = some (.int .i64 t.rate))
                    (refine ⟨?_, ?_⟩ <;> first | with_reducible assumption | exact LB.alloc (by with_reducible assumption) _ | (go_keep; done))
                    ((first | (refine step_append_lies _ (by rfl) (.tmp 124) (.tmp 131) 79 (by rfl) w.heap.size 9 iS _ 1 16 Tryd.underlying79 hS0 hS1 hS2 hS3 (by rfl) (by decide) _ _ _ (by rfl) (hW6.alloc _).out ⟨w6.heap.size, 0, none⟩ 2 2 [.string (textB t.upto), .string (textB t.rate)] (by rfl) rfl (World.news_of_block (cs := #[.string (textB t.upto), .string (textB t.rate)]) (t := 9) (fr := (0, 0)) (heap_alloc_new _ _)) (by simp [Value.oneCell']) (by decide) (by (try simp only [List.length_cons, List.length_nil, List.length_append, winT_len]); unfold maxLen; omega) (by (try simp only [List.length_cons, List.length_nil, List.length_append, winT_len]); omega) (hW6.alloc _).lb.out.size _ rfl ?_; intro g cp w10 hown10 hgrow10 hat10 hlt10; (have hW10 := (hW6.alloc _).add (l' := [textB t.upto, textB t.rate]) hgrow10 hown10 rfl rfl); (have hl6 := hW6.lt); (have kX := kA.grown hgrow10 ((hW6.alloc _).apart kA (by decide))); obtain ⟨x0_, x1_, _, _⟩ := kX.c2; (have kC28 := kC27.grown hgrow10 ((hW6.alloc _).apart kC27 (by decide)))) | (go_at_call 95; refine (text_any _ _).mono ?_; rintro e w6 ⟨rfl, hb6⟩; (have kW : Blk w6 wr.heap.size 119 #[.int .i64 t.upto, .int .i64 t.rate] := Blk.call (by with_reducible assumption) hb6); obtain ⟨j0_, j1_, _, _⟩ := kW.c2; (have hW6 : RW w w6 (planC p (.slice Am p.mets.length cm) (.slice Af p.fees.length cf) (.slice (some ⟨gc, 0, none⟩) cs.length cc)) u3 Mk2 := RW.below (by with_reducible assumption) hb6); (have kC26 : Blk w6 GM 52 #[.string c.meter, .bool c.win.has, .int .i64 c.win.from_.1, .int .i64 c.win.from_.2.1, .int .i64 c.win.from_.2.2, .int .i64 c.win.to_.1, .int .i64 c.win.to_.2.1, .int .i64 c.win.to_.2.2, .int .i64 c.allow, .int .i64 c.block, .int .i64 c.kind, .slice (some ⟨gt, 0, none⟩) c.tiers.length ct, .int .i64 c.mode, .slice Aa c.adjs.length ca, .int .i64 c.line, .int .i64 c.col] := Blk.call (by with_reducible assumption) hb6); (have kC27 := kC26.alloc (.cells #[.string (textB t.upto), .string (textB t.rate)] 9)); (have kA := kW.alloc (.cells #[.string (textB t.upto), .string (textB t.rate)] 9)); obtain ⟨a0_, a1_, _, _⟩ := kA.c2)))
                  go_wp2_with fail
                  go_roundg (c.tiers.length - (k2 + 1))
                  case rel => exact ⟨k2 + 1, by omega, by go_num, rfl, by rw [flat_take tierT hik2.out, ← List.append_assoc, ← hMk2.out]; exact hW10, kC28⟩
                  case measure => omega
                · obtain rfl : k2 = c.tiers.length := by omega
                  rw [List.take_length] at hV
                  obtain ⟨LD, hLD⟩ : ∃ LD, LD = LC ++ c.tiers.flatMap tierT := ⟨_, rfl⟩
                  rw [← hLD] at hV
                  have hlnD : LD.length ≤ 600100014 := by
                    have h1 := flat_le tierT 2 c.tiers (fun _ _ => Nat.le_refl 2)
                    rw [hLD, List.length_append]
                    omega
                  replace hLD := Lib.hid hLD
                  have hU := hV
                  have hUk := kC
                  clear hV kC
                  obtain ⟨_, _, _, _, _, _, _, _, _, _, _, _, _, p13_, _, _, _, _, _, _, _, _, _, _, _, _, _, _, _, _, _, _⟩ := hUk.c16
                  go_wp2_with fail
                  go_loopg [3, 137] c.adjs.length (fun n_ v3_ vi_ wr2 => ∃ k3 : Nat, k3 ≤ c.adjs.length ∧ vi_ = .int .i64 k3 ∧ n_ = c.adjs.length - k3 ∧ RW w wr2 (planC p (.slice Am p.mets.length cm) (.slice Af p.fees.length cf) (.slice (some ⟨gc, 0, none⟩) cs.length cc)) v3_ (LD ++ (c.adjs.take k3).flatMap adjT) ∧ Blk wr2 GM 52 #[.string c.meter, .bool c.win.has, .int .i64 c.win.from_.1, .int .i64 c.win.from_.2.1, .int .i64 c.win.from_.2.2, .int .i64 c.win.to_.1, .int .i64 c.win.to_.2.1, .int .i64 c.win.to_.2.2, .int .i64 c.allow, .int .i64 c.block, .int .i64 c.kind, .slice At c.tiers.length ct, .int .i64 c.mode, .slice Aa c.adjs.length ca, .int .i64 c.line, .int .i64 c.col])
                  case atStart => exact ⟨0, Nat.zero_le _, rfl, rfl, by simpa using hU, hUk⟩
                  case round =>
                    obtain ⟨k3, hkk3, rfl, rfl, hV, kC⟩ := hrel
                    clear hU hUk p13_
                    by_cases hltk3 : k3 < c.adjs.length
                    · obtain ⟨a, hik3⟩ : ∃ a, c.adjs[k3]? = some a := ⟨_, List.getElem?_eq_getElem hltk3⟩
                      obtain ⟨ga, rfl, hga⟩ := ha3 (by omega)
                      obtain ⟨Mk3, hMk3⟩ : ∃ L, L = LD ++ (c.adjs.take k3).flatMap adjT := ⟨_, rfl⟩
                      rw [← hMk3] at hV
                      have hln2 : Mk3.length ≤ 700000000 := by
                        have h1 := flat_le adjT 3 (c.adjs.take k3) (fun _ _ => Nat.le_refl 3)
                        rw [List.length_take] at h1
                        rw [hMk3, List.length_append]
                        omega
                      replace hMk3 := Lib.hid hMk3
                      have hLs2 := (Lies.of ((hR.out.below hV.lb.out).ne _ hmem.out).2 : Lies adjF 121 3 wr (.slice (some ⟨ga, 0, none⟩) c.adjs.length ca) c.adjs)
                      have y0 := hLs2.at adjF_len hik3 (j := 0) rfl
                      have y1 := hLs2.at adjF_len hik3 (j := 1) rfl
                      have y2 := hLs2.at adjF_len hik3 (j := 2) rfl
                      simp only [Nat.add_zero] at y0
                      have b2 : (0 : Int) ≤ (k3 : Int) := by omega
                      have b3 : (k3 : Int) < (c.adjs.length : Int) := by omega
                      have hlw2 := hV.lt
                      have hVa := hV.alloc (.cells #[.int .i64 a.kind, .int .i64 a.n, .int .i64 a.mode] 121)
                      have kM2 := Blk.new wr 121 #[.int .i64 a.kind, .int .i64 a.n, .int .i64 a.mode]
                      have kC2 := kC.alloc (.cells #[.int .i64 a.kind, .int .i64 a.n, .int .i64 a.mode] 121)
                      replace hik3 := Lib.hid hik3
                      clear hLs2
                      go_wp2_with fail
                      clear y0 y1 y2 hV kC
                      generalize wr.alloc (.cells #[.int .i64 a.kind, .int .i64 a.n, .int .i64 a.mode] 121) = W2 at *
                      have kd_ : Blk W2.drew wr.heap.size 121 #[.int .i64 a.kind, .int .i64 a.n, .int .i64 a.mode] := kM2.drew
                      have hd_ : RW w W2.drew (planC p (.slice Am p.mets.length cm) (.slice Af p.fees.length cf) (.slice (some ⟨gc, 0, none⟩) cs.length cc)) u3 Mk3 := hVa.drew
                      obtain ⟨k0_, k1_, k2_, _, _, _⟩ := kd_.c3
                      have kC2d : Blk W2.drew GM 52 #[.string c.meter, .bool c.win.has, .int .i64 c.win.from_.1, .int .i64 c.win.from_.2.1, .int .i64 c.win.from_.2.2, .int .i64 c.win.to_.1, .int .i64 c.win.to_.2.1, .int .i64 c.win.to_.2.2, .int .i64 c.allow, .int .i64 c.block, .int .i64 c.kind, .slice At c.tiers.length ct, .int .i64 c.mode, .slice (some ⟨ga, 0, none⟩) c.adjs.length ca, .int .i64 c.line, .int .i64 c.col] := kC2.drew
                      go_region_held3 (fun w' => w'.cell? ⟨wr.heap.size, 0, none⟩ = some (.int .i64 a.kind) ∧ w'.cell? ⟨wr.heap.size, 1, none⟩ = some (.int .i64 a.n) ∧ w'.cell? ⟨wr.heap.size, 2, none⟩ = some (.int .i64 a.mode))
                        (refine ⟨?_, ?_, ?_⟩ <;> first | with_reducible assumption | exact LB.alloc (by with_reducible assumption) _ | (go_keep; done))
                        ((first | (refine step_append_lies _ (by rfl) (.tmp 141) (.tmp 151) 79 (by rfl) w.heap.size 9 iS _ 1 16 Tryd.underlying79 hS0 hS1 hS2 hS3 (by rfl) (by decide) _ _ _ (by rfl) (hW6.alloc _).out ⟨w6.heap.size, 0, none⟩ 3 3 [.string (textB a.kind), .string (textB a.n), .string (textB a.mode)] (by rfl) rfl (World.news_of_block (cs := #[.string (textB a.kind), .string (textB a.n), .string (textB a.mode)]) (t := 9) (fr := (0, 0)) (heap_alloc_new _ _)) (by simp [Value.oneCell']) (by decide) (by (try simp only [List.length_cons, List.length_nil, List.length_append, winT_len]); unfold maxLen; omega) (by (try simp only [List.length_cons, List.length_nil, List.length_append, winT_len]); omega) (hW6.alloc _).lb.out.size _ rfl ?_; intro g cp w10 hown10 hgrow10 hat10 hlt10; (have hW10 := (hW6.alloc _).add (l' := [textB a.kind, textB a.n, textB a.mode]) hgrow10 hown10 rfl rfl); (have hl6 := hW6.lt); (have kX := kA.grown hgrow10 ((hW6.alloc _).apart kA (by decide))); obtain ⟨x0_, x1_, x2_, _, _, _⟩ := kX.c3; (have kC28 := kC27.grown hgrow10 ((hW6.alloc _).apart kC27 (by decide)))) | (go_at_call 95; refine (text_any _ _).mono ?_; rintro e w6 ⟨rfl, hb6⟩; (have kW : Blk w6 wr.heap.size 121 #[.int .i64 a.kind, .int .i64 a.n, .int .i64 a.mode] := Blk.call (by with_reducible assumption) hb6); obtain ⟨j0_, j1_, j2_, _, _, _⟩ := kW.c3; (have hW6 : RW w w6 (planC p (.slice Am p.mets.length cm) (.slice Af p.fees.length cf) (.slice (some ⟨gc, 0, none⟩) cs.length cc)) u3 Mk3 := RW.below (by with_reducible assumption) hb6); (have kC26 : Blk w6 GM 52 #[.string c.meter, .bool c.win.has, .int .i64 c.win.from_.1, .int .i64 c.win.from_.2.1, .int .i64 c.win.from_.2.2, .int .i64 c.win.to_.1, .int .i64 c.win.to_.2.1, .int .i64 c.win.to_.2.2, .int .i64 c.allow, .int .i64 c.block, .int .i64 c.kind, .slice At c.tiers.length ct, .int .i64 c.mode, .slice (some ⟨ga, 0, none⟩) c.adjs.length ca, .int .i64 c.line, .int .i64 c.col] := Blk.call (by with_reducible assumption) hb6); (have kC27 := kC26.alloc (.cells #[.string (textB a.kind), .string (textB a.n), .string (textB a.mode)] 9)); (have kA := kW.alloc (.cells #[.string (textB a.kind), .string (textB a.n), .string (textB a.mode)] 9)); obtain ⟨a0_, a1_, a2_, _, _, _⟩ := kA.c3)))
                      go_wp2_with fail
                      go_roundg (c.adjs.length - (k3 + 1))
                      case rel => exact ⟨k3 + 1, by omega, by go_num, rfl, by rw [flat_take adjT hik3.out, ← List.append_assoc, ← hMk3.out]; exact hW10, kC28⟩
                      case measure => omega
                    · obtain rfl : k3 = c.adjs.length := by omega
                      rw [List.take_length] at hV
                      go_wp2_with fail
                      go_roundg (cs.length - (k + 1))
                      case rel => exact ⟨k + 1, by omega, by go_num, rfl, by rw [flat_take (fun x : CT => chgT x.1) hi.out, ← List.append_assoc, ← hL.out]; unfold chgT; simp only; rw [← List.append_assoc, ← List.append_assoc, ← hLC.out, ← hLD.out]; exact hV⟩
                      case measure => omega
            · obtain rfl : k = cs.length := by omega
              rw [List.take_length] at hW
              have hq : headT p ++ p.mets.flatMap metT ++ p.fees.flatMap feeT ++ cs.flatMap (fun x => chgT x.1) = rowT p := by
                unfold rowT
                rw [← hR.out.eq, List.flatMap_map]
              rw [hq] at hW
              go_wp2_with fail
              go_ret
              exact ⟨_, rfl, hW.out, hW.lb.out⟩
end Go.Proofs.YtcgkfgklggjmaaaDoor.Par
end
section
namespace Go.Proofs.YtcgkfgklggjmaaaDoor.Par
set_option linter.unusedVariables false
set_option linter.unusedSimpArgs false
/-! a plan that is parsed is small -/
theorem ptierLoop_len : ∀ (f : Nat) (acc : List Tier) (s : St), (P.tierLoop npV f acc s).1.length + len (P.tierLoop npV f acc s).2 ≤ acc.length + len s
  | 0, acc, s => Nat.le_refl _
  | f + 1, acc, s => by
    rw [P.tierLoop]
    by_cases hc : (P.eat wUpto s).1 = true
    · rw [if_pos hc]
      simp only
      have h1 := len_eaten hc
      have h2 := len_number npV 0 1000000 (P.eat wUpto s).2
      have h3 := len_must [wRate] (P.number npV 0 1000000 (P.eat wUpto s).2).2
      have h4 := len_number npV 6 1000000000000 (P.must [wRate] (P.number npV 0 1000000 (P.eat wUpto s).2).2)
      have h5 := len_must [wSemi] (P.number npV 6 1000000000000 (P.must [wRate] (P.number npV 0 1000000 (P.eat wUpto s).2).2)).2
      have ih := ptierLoop_len f (acc ++ [⟨(P.number npV 0 1000000 (P.eat wUpto s).2).1, (P.number npV 6 1000000000000 (P.must [wRate] (P.number npV 0 1000000 (P.eat wUpto s).2).2)).1⟩]) (P.must [wSemi] (P.number npV 6 1000000000000 (P.must [wRate] (P.number npV 0 1000000 (P.eat wUpto s).2).2)).2)
      rw [List.length_append, List.length_singleton] at ih
      omega
    · rw [if_neg hc]
      have := len_eat wUpto s
      simp only
      omega
theorem ptiers_len (s : St) : (P.tiers npV s).1.length ≤ len s + 1 := by
  have h1 := len_must [wOpen] s
  have h2 := ptierLoop_len (P.must [wOpen] s).rest.length [] (P.must [wOpen] s)
  unfold P.tiers
  simp only [List.length_append, List.length_singleton]
  rw [List.length_nil] at h2
  omega
theorem padjLoop_len : ∀ (f : Nat) (acc : List Adj) (s : St), (P.adjLoop npV f acc s).1.length + len (P.adjLoop npV f acc s).2 ≤ acc.length + len s
  | 0, acc, s => Nat.le_refl _
  | f + 1, acc, s => by
    rw [P.adjLoop]
    by_cases hc : (P.adjust npV s).1.2 = false ∨ (P.adjust npV s).2.err ≠ 0
    · rw [if_pos hc]
      have := len_adjust npV s
      simp only
      omega
    · rw [if_neg hc]
      have h1 : (P.adjust npV s).1.2 = true := by
        cases h : (P.adjust npV s).1.2 with
        | true => rfl
        | false => exact absurd (.inl h) hc
      have h2 := adj_round npV h1
      have ih := padjLoop_len f (acc ++ [(P.adjust npV s).1.1]) (P.adjust npV s).2
      rw [List.length_append, List.length_singleton] at ih
      omega
theorem pcharge_small (l c : Int) (s : St) : (P.charge dp npV l c s).1.tiers.length ≤ len s + 1 ∧ (P.charge dp npV l c s).1.adjs.length ≤ len s + 1 := by
  have h1 := len_kind 1 s
  have h2 := len_window dp (P.kind 1 s).2
  have h3 := len_must [wOpen] (P.window dp (P.kind 1 s).2).2
  have h4 := len_opt npV wAllowance 0 (P.must [wOpen] (P.window dp (P.kind 1 s).2).2)
  have h5 := len_opt npV wBlock 1 (P.opt npV wAllowance 0 (P.must [wOpen] (P.window dp (P.kind 1 s).2).2)).2
  have h6 := len_ckind (P.opt npV wBlock 1 (P.opt npV wAllowance 0 (P.must [wOpen] (P.window dp (P.kind 1 s).2).2)).2).2
  unfold P.charge
  simp only
  generalize P.ckind (P.opt npV wBlock 1 (P.opt npV wAllowance 0 (P.must [wOpen] (P.window dp (P.kind 1 s).2).2)).2).2 = k at *
  have h7 := ptiers_len k.2
  have h8 := len_tiers npV k.2
  have h9 := len_must [wRound] (P.tiers npV k.2).2
  have h10 := len_mode (P.must [wRound] (P.tiers npV k.2).2)
  have h11 := len_must [wSemi] (P.mode (P.must [wRound] (P.tiers npV k.2).2)).2
  have h12 := padjLoop_len (P.must [wSemi] (P.mode (P.must [wRound] (P.tiers npV k.2).2)).2).rest.length [] (P.must [wSemi] (P.mode (P.must [wRound] (P.tiers npV k.2).2)).2)
  rw [List.length_nil] at h12
  omega
/-- what a parse keeps: so many items, and so many parts of each, at most -/
def Bd (n : Nat) (p : Plan) (s : St) : Prop := countP p + len s ≤ n ∧ ∀ c ∈ p.chgs, c.tiers.length ≤ n + 1 ∧ c.adjs.length ≤ n + 1
theorem pitem_bd {n : Nat} {p : Plan} {s : St} (h : Bd n p s) : Bd n (P.item dp npV p s).1 (P.item dp npV p s).2 := by
  refine ⟨Nat.le_trans (pitem_all p s).1 h.1, ?_⟩
  have h0 := len_one [wMeter, wFee, wCharge] 0 s
  unfold P.item
  simp only
  split
  · exact h.2
  · split
    · exact h.2
    · split
      · intro c hc
        rcases List.mem_append.1 hc with hc | hc
        · exact h.2 c hc
        · obtain rfl := List.mem_singleton.1 hc
          have h1 := pcharge_small (peek s).line (peek s).col (P.one [wMeter, wFee, wCharge] 0 s).2
          have h2 := h.1
          omega
      · exact h.2
theorem pitems_bd {n : Nat} : ∀ (f : Nat) (p : Plan) (s : St), Bd n p s → Bd n (P.items dp npV f p s).1 (P.items dp npV f p s).2
  | 0, p, s, h => h
  | f + 1, p, s, h => by
    rw [P.items]
    split
    · exact pitems_bd f _ _ (pitem_bd h)
    · exact h
theorem phead_len (ts : List Tok) : len (P.head dp ⟨ts, 0, 0, 0⟩).2 ≤ ts.length := by
  unfold P.head
  simp only
  have g1 := len_must [wPlan] ⟨ts, 0, 0, 0⟩
  have g2 := len_kind 1 (P.must [wPlan] ⟨ts, 0, 0, 0⟩)
  generalize P.kind 1 (P.must [wPlan] ⟨ts, 0, 0, 0⟩) = n at *
  have g3 := len_must [wCurrency] n.2
  have g4 := len_kind 1 (P.must [wCurrency] n.2)
  generalize P.kind 1 (P.must [wCurrency] n.2) = c at *
  have g5 := len_must [wSemi, wHorizon] c.2
  have g6 := len_day dp (P.must [wSemi, wHorizon] c.2)
  generalize P.day dp (P.must [wSemi, wHorizon] c.2) = f at *
  have g7 := len_day dp f.2
  generalize P.day dp f.2 = t at *
  have g8 := len_must [wSemi] t.2
  have g0 : len (⟨ts, 0, 0, 0⟩ : St) = ts.length := rfl
  omega
theorem noPlan_small : Small noPlan := ⟨by decide, by decide, by decide, fun c h => (by cases h), fun c h => (by cases h)⟩
theorem RParse_small (l : List UInt8) : Small (RParse l).1 := by
  obtain ⟨ts, er, a, b, hall⟩ : ∃ ts er a b, lexAll l = (ts, er, a, b) := ⟨_, _, _, _, rfl⟩
  by_cases her : er = 0
  · subst her
    by_cases h0 : (P.plan dp npV ts).2.err = 0
    · rw [PParse_ok hall h0]
      obtain ⟨_, _, hc⟩ := all_shape hall
      have hb : Bd 8193 (P.plan dp npV ts).1 (P.plan dp npV ts).2 := by
        unfold P.plan
        refine pitems_bd _ _ _ ⟨?_, fun c hc => by cases hc⟩
        have := phead_len ts
        show 0 + 0 + 0 + len (P.head dp ⟨ts, 0, 0, 0⟩).2 ≤ 8193
        omega
      have h1 := hb.1
      unfold countP at h1
      exact ⟨by show (P.plan dp npV ts).1.mets.length ≤ 10000; omega, by show (P.plan dp npV ts).1.fees.length ≤ 10000; omega, by show (P.plan dp npV ts).1.chgs.length ≤ 10000; omega, fun c hc => Nat.le_trans (hb.2 c hc).1 (by decide), fun c hc => Nat.le_trans (hb.2 c hc).2 (by decide)⟩
    · rw [PParse_bad hall h0]; exact noPlan_small
  · rw [RParse_lex hall her]; exact noPlan_small
end Go.Proofs.YtcgkfgklggjmaaaDoor.Par
end
section
namespace Go.Proofs.YtcgkfgklggjmaaaDoor.Par
set_option linter.unusedVariables false
set_option linter.unusedSimpArgs false
/-! the items of a text behind those of another one -/
theorem lex_live : ∀ (n : Nat) (l : List UInt8) (line col : Int) (ts : List Tok), l.length ≤ n → lexL l line col = .ok ts → ∃ us e, ts = us ++ [e] ∧ e.kind = 0 ∧ ∀ x ∈ us, x.kind ≠ 0 := by
  intro n
  induction n with
  | zero =>
    intro l line col ts hn h
    obtain rfl : l = [] := List.eq_nil_of_length_eq_zero (by omega)
    rw [lexL] at h
    injection h with h
    subst h
    exact ⟨[], _, rfl, rfl, fun x hx => by cases hx⟩
  | succ n ih =>
    intro l line col ts hn h
    cases l with
    | nil =>
      rw [lexL] at h
      injection h with h
      subst h
      exact ⟨[], _, rfl, rfl, fun x hx => by cases hx⟩
    | cons c cs =>
      rw [lexL] at h
      rw [List.length_cons] at hn
      split at h
      · exact ih _ _ _ _ (by rw [List.length_drop]; omega) h
      · split at h
        · exact ih _ _ _ _ (by omega) h
        · split at h
          · exact ih _ _ _ _ (by omega) h
          · split at h
            · cases h
            · rename_i hk
              cases hr : lexL (cs.drop (tokLen c cs)) line (col + 1 + tokLen c cs) with
              | error e => rw [hr] at h; cases h
              | ok ts' =>
                rw [hr] at h
                injection h with h
                subst h
                obtain ⟨us, e, rfl, he, hx⟩ := ih _ _ _ _ (by rw [List.length_drop]; omega) hr
                refine ⟨_ :: us, e, rfl, he, fun x hm => ?_⟩
                rcases List.mem_cons.1 hm with rfl | hm
                · exact hk
                · exact hx x hm
theorem als_self : ∀ (l : List Tok), (∀ x ∈ l, x.kind ≠ 0) → Als l l
  | [], _ => trivial
  | x :: l, h => ⟨⟨rfl, rfl, h x (by simp)⟩, als_self l fun y hy => h y (by simp [hy])⟩
theorem als_down (a b : Int) : ∀ (l : List Tok), (∀ x ∈ l, x.kind ≠ 0) → Als (l.map (downT a)) (l.map (downT b))
  | [], _ => trivial
  | x :: l, h => ⟨⟨rfl, rfl, h x (by simp)⟩, als_down a b l fun y hy => h y (by simp [hy])⟩
theorem rowT_strip (p : Plan) : rowT (strip p) = rowT p := by
  unfold rowT headT strip
  simp only [List.length_map, List.flatMap_map]
  rfl
theorem strip_none {p q : Plan} (h : strip p = strip q) (hm : q.mets = []) (hf : q.fees = []) (hc : q.chgs = []) : p.mets = [] ∧ p.fees = [] ∧ p.chgs = [] := by
  have h1 := congrArg Plan.mets h
  have h2 := congrArg Plan.fees h
  have h3 := congrArg Plan.chgs h
  simp only [strip, hm, hf, hc, List.map_nil, List.map_eq_nil_iff] at h1 h2 h3
  exact ⟨h1, h2, h3⟩
theorem adds_none (b : Plan) {p : Plan} (h : p.mets = [] ∧ p.fees = [] ∧ p.chgs = []) : adds b p = b := by
  unfold adds; rw [h.1, h.2.1, h.2.2, List.append_nil, List.append_nil, List.append_nil]
theorem small_strip {p q : Plan} (h : strip p = strip q) (hs : Small p) : Small q := by
  have h1 := congrArg (fun x => x.mets.length) h
  have h2 := congrArg (fun x => x.fees.length) h
  have h3 := congrArg (fun x => x.chgs.length) h
  have h4 := congrArg Plan.chgs h
  simp only [strip, List.length_map] at h1 h2 h3
  refine ⟨h1 ▸ hs.mets, h2 ▸ hs.fees, h3 ▸ hs.chgs, fun c hc => ?_, fun c hc => ?_⟩
  · have hm : sC c ∈ (strip p).chgs := by rw [h4]; exact List.mem_map_of_mem hc
    obtain ⟨d, hd, he⟩ := List.mem_map.1 hm
    have := congrArg Chg.tiers he
    simp only [sC] at this
    exact this ▸ hs.tiers d hd
  · have hm : sC c ∈ (strip p).chgs := by rw [h4]; exact List.mem_map_of_mem hc
    obtain ⟨d, hd, he⟩ := List.mem_map.1 hm
    have := congrArg Chg.adjs he
    simp only [sC] at this
    exact this ▸ hs.adjs d hd
/-- a text that is parsed, and another one behind it: its plan, and the items of the tokens behind -/
theorem join_items {us vs : List Tok} {e : Tok} (he : e.kind = 0) (hu : ∀ x ∈ us, x.kind ≠ 0) (h0 : (P.plan dp npV (us ++ [e])).2.err = 0) :
    ∃ q r, r.err = 0 ∧ r.rest = vs ∧ strip q = strip (P.plan dp npV (us ++ [e])).1 ∧ P.plan dp npV (us ++ vs) = P.itemsAll dp npV q r := by
  have h := plan_cut dp npV (T := ⟨true, e, vs⟩) ⟨he, fun c => by cases c⟩ (als_self us hu)
  rcases h with h | h | ⟨_, _, q, r, h1, h2, h3, h4⟩
  · exact absurd h0 h.bad
  · exact absurd h0 h.1
  · exact ⟨q, r, h1, h2, h3, h4⟩
theorem n_plan : P.plan dp npV (nUs ++ [⟨0, ⟨#[]⟩, 1, 50⟩]) = (nHead, ⟨[⟨0, ⟨#[]⟩, 1, 50⟩], 0, 0, 0⟩) := by kernel_rfl
theorem n_live : ∀ x ∈ nUs, x.kind ≠ 0 := by decide
theorem items_join {us ws : List Tok} {e z : Tok} (d d' : Int) (he : e.kind = 0) (hz : z.kind = 0) (hu : ∀ x ∈ us, x.kind ≠ 0) (hw : ∀ x ∈ ws, x.kind ≠ 0) (h0 : (P.plan dp npV (us ++ [e])).2.err = 0) :
    (P.plan dp npV (nUs ++ (ws ++ [z]).map (downT d))).2.err = (P.plan dp npV (us ++ (ws ++ [z]).map (downT d'))).2.err ∧
    ((P.plan dp npV (nUs ++ (ws ++ [z]).map (downT d))).2.err = 0 → strip (P.plan dp npV (us ++ (ws ++ [z]).map (downT d'))).1 = strip (adds (P.plan dp npV (us ++ [e])).1 (P.plan dp npV (nUs ++ (ws ++ [z]).map (downT d))).1)) := by
  obtain ⟨q1, r1, a1, a2, a3, a4⟩ := join_items (vs := (ws ++ [z]).map (downT d)) (e := ⟨0, ⟨#[]⟩, 1, 50⟩) rfl n_live (by rw [n_plan])
  obtain ⟨q2, r2, b1, b2, b3, b4⟩ := join_items (vs := (ws ++ [z]).map (downT d')) he hu h0
  rw [n_plan] at a3
  rw [a4, b4]
  have hl : Loc ⟨false, downT d z, [downT d' z]⟩ r1 r2 := ⟨a1, b1, _, _, by rw [a2, List.map_append]; rfl, by rw [b2, List.map_append]; rfl, als_down d d' ws hw⟩
  refine items_alike dp npV ⟨hz, fun _ => ⟨downT d' z, rfl, hz⟩⟩ rfl _ _ _ _ _ _ (Nat.le_refl _) hl ?_
  rw [b3, adds_none _ (strip_none a3 rfl rfl rfl)]
/-- what is said of a text without a fault -/
theorem RParse_zero {l : List UInt8} (h : (RParse l).2.1 = 0) : (RParse l).2.2.1 = 0 ∧ (RParse l).2.2.2 = 0 ∧ ∃ ts a b, lexAll l = (ts, 0, a, b) ∧ (P.plan dp npV ts).2.err = 0 ∧ (RParse l).1 = (P.plan dp npV ts).1 := by
  obtain ⟨ts, er, a, b, hall⟩ : ∃ ts er a b, lexAll l = (ts, er, a, b) := ⟨_, _, _, _, rfl⟩
  by_cases her : er = 0
  · subst her
    by_cases h0 : (P.plan dp npV ts).2.err = 0
    · rw [PParse_ok hall h0]
      exact ⟨rfl, rfl, ts, a, b, hall, h0, rfl⟩
    · rw [PParse_bad hall h0] at h; exact absurd h h0
  · rw [RParse_lex hall her] at h; exact absurd h her
theorem join_text {l m : List UInt8} {us : List Tok} {e : Tok} (ha : lexL l 1 1 = .ok (us ++ [e])) (hl : (l ++ 10 :: m).length ≤ 8192) :
    (∃ ts, lexL m 1 1 = .ok ts ∧ lexAll (l ++ 10 :: m) = (us ++ ts.map (downT e.line), 0, 0, 0)) ∨ (∃ p q, lexL m 1 1 = .error (p, q) ∧ lexAll (l ++ 10 :: m) = ([], 3, p + e.line, q)) := by
  have hj := all_join_ok (b := m) ha hl
  cases hm : lexL m 1 1 with
  | ok ts =>
    refine .inl ⟨ts, rfl, ?_⟩
    rw [hm] at hj
    unfold lexAll
    rw [if_neg (by omega), hj]
    rfl
  | error x =>
    refine .inr ⟨x.1, x.2, rfl, ?_⟩
    rw [hm] at hj
    unfold lexAll
    rw [if_neg (by omega), hj]
    rfl
theorem items_plain (a more : List UInt8) (ha : a.length ≤ 4096) (hm : more.length ≤ 2048) (h0 : (RParse a).2.1 = 0) :
    ((RParse (nPre ++ 10 :: more)).2.1 = (RParse (a ++ 10 :: more)).2.1) ∧
    ((RParse (nPre ++ 10 :: more)).2.1 = 0 → strip (RParse (a ++ 10 :: more)).1 = strip (adds (RParse a).1 (RParse (nPre ++ 10 :: more)).1)) := by
  obtain ⟨_, _, ts, p, q, hall, he0, hpl⟩ := RParse_zero h0
  rcases all_cases a (by omega) with ⟨us, e, h1, h2⟩ | ⟨_, _, _, h2⟩
  · rw [h2] at hall
    injection hall with hall _
    subst hall
    obtain ⟨us', e', h3, hek, hul⟩ := lex_live _ a 1 1 _ (Nat.le_refl _) h1
    obtain ⟨h4, h5⟩ := List.append_inj' h3 rfl
    obtain rfl := h4
    injection h5 with h5
    obtain rfl := h5
    have hn : nPre.length = 49 := rfl
    have l1 : (nPre ++ 10 :: more).length ≤ 8192 := by rw [List.length_append, List.length_cons]; omega
    have l2 : (a ++ 10 :: more).length ≤ 8192 := by rw [List.length_append, List.length_cons]; omega
    rcases join_text (m := more) n_pre l1 with ⟨vs, j1, j2⟩ | ⟨x, y, j1, j2⟩
    · rcases join_text (m := more) h1 l2 with ⟨vs', k1, k2⟩ | ⟨x, y, k1, k2⟩
      · rw [j1] at k1
        injection k1 with k1
        subst k1
        obtain ⟨ws, z, rfl, hz, hw⟩ := lex_live _ more 1 1 _ (Nat.le_refl _) j1
        have hj := items_join 1 e.line hek hz hul hw he0
        have j3 : lexAll (nPre ++ 10 :: more) = (nUs ++ (ws ++ [z]).map (downT 1), 0, 0, 0) := j2
        rw [hpl]
        clear j2
        generalize nUs ++ (ws ++ [z]).map (downT 1) = A at *
        generalize us ++ (ws ++ [z]).map (downT e.line) = B at *
        obtain ⟨hj1, hj2⟩ := hj
        by_cases h6 : (P.plan dp npV A).2.err = 0
        · have h7 : (P.plan dp npV B).2.err = 0 := hj1.symm.trans h6
          rw [PParse_ok j3 h6, PParse_ok k2 h7]
          exact ⟨rfl, fun _ => hj2 h6⟩
        · have h7 : (P.plan dp npV B).2.err ≠ 0 := fun c => h6 (hj1.trans c)
          rw [PParse_bad j3 h6, PParse_bad k2 h7]
          exact ⟨hj1, fun c => absurd c h6⟩
      · rw [j1] at k1; cases k1
    · rcases join_text (m := more) h1 l2 with ⟨vs', k1, k2⟩ | ⟨x', y', k1, k2⟩
      · rw [j1] at k1; cases k1
      · rw [RParse_lex j2 (by decide), RParse_lex k2 (by decide)]
        exact ⟨rfl, fun c => absurd (show (3 : Int) = 0 from c) (by decide)⟩
  · rw [h2] at hall
    injection hall with _ hall
    injection hall with hall _
    cases hall
end Go.Proofs.YtcgkfgklggjmaaaDoor.Par
end
section
namespace Go.Proofs.YtcgkfgklggjmaaaDoor.Par
set_option linter.unusedVariables false
set_option linter.unusedSimpArgs false
/-! a text that breaks off -/
def cutL (ts : List Tok) : List UInt8 := ts.flatMap fun x => x.text.data.toList ++ [32]
theorem cutL_snoc (ts : List Tok) (x : Tok) : cutL (ts ++ [x]) = cutL ts ++ (x.text.data.toList ++ [32]) := by simp [cutL]
theorem cutL_app (a b : List Tok) : cutL (a ++ b) = cutL a ++ cutL b := by simp [cutL]
theorem cut_len : ∀ (n : Nat) (l : List UInt8) (line col : Int) (ts : List Tok), l.length ≤ n → lexL l line col = .ok ts → (cutL ts).length ≤ 2 * l.length + 1 := by
  intro n
  induction n with
  | zero =>
    intro l line col ts hn h
    obtain rfl : l = [] := List.eq_nil_of_length_eq_zero (by omega)
    rw [lexL] at h
    injection h with h
    subst h
    simp [cutL]
  | succ n ih =>
    intro l line col ts hn h
    cases l with
    | nil =>
      rw [lexL] at h
      injection h with h
      subst h
      simp [cutL]
    | cons c cs =>
      rw [lexL] at h
      rw [List.length_cons] at hn ⊢
      split at h
      · have := ih _ _ _ _ (by rw [List.length_drop]; omega) h
        rw [List.length_drop] at this
        omega
      · split at h
        · have := ih _ _ _ _ (by omega) h; omega
        · split at h
          · have := ih _ _ _ _ (by omega) h; omega
          · split at h
            · cases h
            · cases hr : lexL (cs.drop (tokLen c cs)) line (col + 1 + tokLen c cs) with
              | error e => rw [hr] at h; cases h
              | ok ts' =>
                rw [hr] at h
                injection h with h
                subst h
                have := ih _ _ _ _ (by rw [List.length_drop]; omega) hr
                rw [List.length_drop] at this
                have ht := tokLen_le c cs
                simp only [cutL, List.flatMap_cons, List.length_append, List.length_cons, List.length_nil, List.length_take] at this ⊢
                omega
/-- tokens with blanks between are read as they stand -/
theorem relex : ∀ (ts : List Tok) (line col : Int), (∀ x ∈ ts, kindOf x.text.data.toList = x.kind ∧ x.kind ≠ 0) →
    ∃ ls, lexL (cutL ts) line col = .ok (ls ++ [⟨0, ⟨#[]⟩, line, col + (cutL ts).length⟩]) ∧ Als ls ts ∧ (∀ σ, scan σ ls = scan σ ts) ∧ ∀ x ∈ ls, kindOf x.text.data.toList = x.kind
  | [], line, col, _ => ⟨[], by
      show lexL [] line col = _
      rw [lexL]
      simp [cutL], trivial, fun _ => rfl, fun x hx => by cases hx⟩
  | x :: ts, line, col, h => by
    obtain ⟨hk, h0⟩ := h x (by simp)
    obtain ⟨ls, h1, h2, h3, h4⟩ := relex ts line (col + x.text.data.toList.length + 1) fun y hy => h y (by simp [hy])
    have ht : (⟨x.text.data.toList.toArray⟩ : ByteArray) = x.text := by simp
    refine ⟨⟨x.kind, x.text, line, col⟩ :: ls, ?_, ⟨⟨rfl, rfl, h0⟩, h2⟩, fun σ => ?_, fun y hy => ?_⟩
    · have he : cutL (x :: ts) = x.text.data.toList ++ 32 :: cutL ts := by simp [cutL]
      rw [he, lex_tok _ _ _ _ (by rw [hk]; exact h0), h1, hk, ht]
      simp only [consR, List.cons_append, List.length_append, List.length_cons]
      rw [show col + (x.text.data.toList.length : Int) + 1 + ((cutL ts).length : Int) = col + ((x.text.data.toList.length + ((cutL ts).length + 1) : Nat) : Int) from by omega]
    · show scan (stp σ _) ls = scan (stp σ x) ts
      rw [h3]; rfl
    · rcases List.mem_cons.1 hy with rfl | hy
      · exact hk
      · exact h4 y hy
theorem tk_of {x : Tok} (h : kindOf x.text.data.toList = x.kind) : Tk x := by
  intro hk
  have k1 : kindOf wSemi.data.toList = 5 := by kernel_rfl
  have k2 : kindOf wOpen.data.toList = 5 := by kernel_rfl
  have k3 : kindOf wClose.data.toList = 5 := by kernel_rfl
  refine ⟨fun c => ?_, fun c => ?_, fun c => ?_⟩
  · rw [c, k1] at h; omega
  · rw [c, k2] at h; omega
  · rw [c, k3] at h; omega
def wholeC (ts : List Tok) : Prop := (scan ⟨0, 0, false⟩ ts).whole = true ∧ 2 ≤ (scan ⟨0, 0, false⟩ ts).ends
instance (ts : List Tok) : Decidable (wholeC ts) := by unfold wholeC; infer_instance
theorem cuts_plain {s : List UInt8} {us : List Tok} {e : Tok} {a b : Int} (hs : s.length ≤ 4096) (h0 : (RParse s).2.1 = 0) (hall : lexAll s = (us ++ [e], 0, a, b)) (n : Nat) (hn : n ≤ us.length) :
    (cutL (us.take n)).length ≤ 8192 ∧ (RParse (cutL (us.take n))).2 = (if wholeC (us.take n) then (0, 0, 0) else (4, 1, ((cutL (us.take n)).length : Int) + 1) : Int × Int × Int) := by
  obtain ⟨_, _, ts, p, q, hall', he0, hpl⟩ := RParse_zero h0
  rw [hall] at hall'
  injection hall' with hall' _
  subst hall'
  obtain ⟨us', e', h1, h2⟩ | ⟨_, _, _, h2⟩ := all_cases s (by omega)
  · rw [hall] at h2
    injection h2 with h2 _
    obtain ⟨h3, h4⟩ := List.append_inj' h2 rfl
    obtain rfl := h3
    injection h4 with h4
    obtain rfl := h4
    obtain ⟨us', e', h3, hek, hul⟩ := lex_live _ s 1 1 _ (Nat.le_refl _) h1
    obtain ⟨h4, h5⟩ := List.append_inj' h3 rfl
    obtain rfl := h4
    injection h5 with h5
    obtain rfl := h5
    have hk : ∀ x ∈ us, kindOf x.text.data.toList = x.kind ∧ x.kind ≠ 0 := fun x hx => by
      refine ⟨?_, hul x hx⟩
      obtain ⟨i, hi, rfl⟩ := List.getElem_of_mem hx
      exact all_kinds hall i _ (by rw [List.getElem?_append_left hi, List.getElem?_eq_getElem hi]) (by rw [List.length_append, List.length_singleton]; omega)
    have hl := cut_len _ s 1 1 _ (Nat.le_refl _) h1
    have hcut : (cutL (us.take n)).length ≤ 8192 := by
      have hsplit : cutL (us ++ [e]) = cutL (us.take n) ++ (cutL (us.drop n) ++ (e.text.data.toList ++ [32])) := by
        have h9 := cutL_app (us.take n) (us.drop n)
        rw [List.take_append_drop] at h9
        rw [cutL_snoc, h9, List.append_assoc]
      rw [hsplit, List.length_append, List.length_append, List.length_append, List.length_singleton] at hl
      omega
    refine ⟨hcut, ?_⟩
    obtain ⟨ls, l1, l2, l3, l4⟩ := relex (us.take n) 1 1 fun x hx => hk x (List.mem_of_mem_take hx)
    have hA : lexAll (cutL (us.take n)) = (ls ++ [⟨0, ⟨#[]⟩, 1, 1 + (cutL (us.take n)).length⟩], 0, 0, 0) := by
      unfold lexAll
      rw [if_neg (by omega), l1]
    have hP := plan_cut dp npV (T := ⟨true, ⟨0, ⟨#[]⟩, 1, 1 + (cutL (us.take n)).length⟩, us.drop n ++ [e]⟩) ⟨rfl, fun c => by cases c⟩ l2
    have hlong : us.take n ++ (us.drop n ++ [e]) = us ++ [e] := by rw [← List.append_assoc, List.take_append_drop]
    have hS := fun hr => scan_plan dp npV (l := ls) (e := ⟨0, ⟨#[]⟩, 1, 1 + (cutL (us.take n)).length⟩) rfl (fun x hx => tk_of (l4 x hx)) hr
    rw [l3] at hS
    rcases hP with hP | hP | ⟨g1, g2, _⟩
    · have hc : ¬ wholeC (us.take n) := (hS hP.2.2.2.2).2 hP.bad
      rw [if_neg hc, PParse_bad hA hP.bad]
      have e1 : (P.plan dp npV (ls ++ [⟨0, ⟨#[]⟩, 1, 1 + (cutL (us.take n)).length⟩])).2.err = 4 := hP.2.1
      have e2 : (P.plan dp npV (ls ++ [⟨0, ⟨#[]⟩, 1, 1 + (cutL (us.take n)).length⟩])).2.line = 1 := hP.2.2.1
      have e3 : (P.plan dp npV (ls ++ [⟨0, ⟨#[]⟩, 1, 1 + (cutL (us.take n)).length⟩])).2.col = 1 + (cutL (us.take n)).length := hP.2.2.2.1
      rw [e1, e2, e3, Int.add_comm]
    · have h6 := hP.2
      simp only [hlong] at h6
      exact absurd he0 h6
    · have hc : wholeC (us.take n) := (hS g2).1 g1
      rw [if_pos hc, PParse_ok hA g1]
  · rw [hall] at h2
    injection h2 with _ h2
    injection h2 with h2 _
    cases h2
end Go.Proofs.YtcgkfgklggjmaaaDoor.Par
end
section
namespace Go.Proofs.YtcgkfgklggjmaaaDoor.Par
set_option linter.unusedVariables false
set_option linter.unusedSimpArgs false
open Go.RowKit
/-! faults, compared whole -/
theorem flt_eq (d : Nat) (a b c a' b' c' : Int) (w : World) :
    (Op.equalIn (d + 2) 34 (.agg #[.int .i64 a, .int .i64 b, .int .i64 c]) (.agg #[.int .i64 a', .int .i64 b', .int .i64 c'])).run Tryd.prog w = .ok (a == a' && (b == b' && (c == c' && true))) w := by
  refine eqS_of _ _ _ _ _ _ Tryd.underlying34 (by kernel_rfl) ?_
  refine eqF_cons _ _ _ _ _ (.int .i64 a) (.int .i64 a') _ _ rfl (by go_simp) (by go_simp) (by go_simp) ?_
  refine eqF_cons _ _ _ _ _ (.int .i64 b) (.int .i64 b') _ _ rfl (by go_simp) (by go_simp) (by go_simp) ?_
  refine eqF_cons _ _ _ _ _ (.int .i64 c) (.int .i64 c') _ _ rfl (by go_simp) (by go_simp) (by go_simp) ?_
  exact eqF_nil _ _ _
theorem flt_same (a b c : Int) (w : World) : (binOp .eql 34 (.agg #[.int .i64 a, .int .i64 b, .int .i64 c]) (.agg #[.int .i64 a, .int .i64 b, .int .i64 c])).run Tryd.prog w = .ok (.bool true) w := by
  have h := eql_S (fun d => flt_eq (d + 1) a b c a b c w)
  simpa using h
theorem flt_zero (w : World) : (binOp .neq 34 (.agg #[.int .i64 0, .int .i64 0, .int .i64 0]) (.agg #[.int .i64 0, .int .i64 0, .int .i64 0])).run Tryd.prog w = .ok (.bool false) w := by
  have h := neq_S (fun d => flt_eq (d + 1) 0 0 0 0 0 0 w)
  simpa using h
theorem flt_bad {a : Int} (b c : Int) (ha : a ≠ 0) (w : World) : (binOp .neq 34 (.agg #[.int .i64 a, .int .i64 b, .int .i64 c]) (.agg #[.int .i64 0, .int .i64 0, .int .i64 0])).run Tryd.prog w = .ok (.bool true) w := by
  have h := neq_S (fun d => flt_eq (d + 1) a b c 0 0 0 w)
  have h0 : (a == 0) = false := by simpa using ha
  rw [h0] at h
  simpa using h
end Go.Proofs.YtcgkfgklggjmaaaDoor.Par
end
section
namespace Go.Proofs.YtcgkfgklggjmaaaDoor
set_option linter.unusedVariables false
set_option linter.unusedSimpArgs false
open Go.RowKit
theorem lexL_note (cs : List UInt8) (line col : Int) : lexL (35 :: cs) line col = lexL (cs.drop (noteLen cs)) line (col + 1 + noteLen cs) := by rw [lexL, if_pos rfl]
theorem lexL_nl (cs : List UInt8) (line col : Int) : lexL (10 :: cs) line col = lexL cs (line + 1) 1 := by rw [lexL, if_neg (by decide), if_pos rfl]
theorem lexL_bl (c : UInt8) (cs : List UInt8) (line col : Int) (h : c = 32 ∨ c = 9 ∨ c = 13) : lexL (c :: cs) line col = lexL cs line (col + 1) := by
  have h1 : c ≠ 35 := by rcases h with rfl | rfl | rfl <;> decide
  have h2 : c ≠ 10 := by rcases h with rfl | rfl | rfl <;> decide
  rw [lexL, if_neg h1, if_neg h2, if_pos h]
theorem lexL_tok (c : UInt8) (cs : List UInt8) (line col : Int) (h1 : c ≠ 35) (h2 : c ≠ 10) (h3 : ¬ (c = 32 ∨ c = 9 ∨ c = 13)) :
    lexL (c :: cs) line col = if kindOf (c :: cs.take (tokLen c cs)) = 0 then .error (line, col) else consR ⟨kindOf (c :: cs.take (tokLen c cs)), ⟨(c :: cs.take (tokLen c cs)).toArray⟩, line, col⟩ (lexL (cs.drop (tokLen c cs)) line (col + 1 + tokLen c cs)) := by
  rw [lexL, if_neg h1, if_neg h2, if_neg h3]
theorem noteLen_step (s : ByteArray) (k : Nat) (h : k < s.size) (hc : s[k] ≠ 10) : noteLen (s.data.toList.drop k) = 1 + noteLen (s.data.toList.drop (k + 1)) := by
  rw [drop_at s k h, noteLen, List.takeWhile_cons, if_pos (by simpa using hc)]; simp [noteLen]; omega
theorem noteLen_stop (s : ByteArray) (k : Nat) (h : k < s.size) (hc : s[k] = 10) : noteLen (s.data.toList.drop k) = 0 := by
  rw [drop_at s k h, noteLen, List.takeWhile_cons, if_neg (by simp [hc])]; rfl
def lexRR (v : Value) (er l c : Int) : Value := .tuple #[v, .int .i64 er, .int .i64 l, .int .i64 c]
theorem rtokInfo : (Tryd.prog.info? 61).map (fun i => (i.zero, i.size, i.bytes)) = some (some (.agg #[.int .i64 0, .string ⟨#[]⟩, .int .i64 0, .int .i64 0]), 4, 40) := by kernel_rfl
theorem results_tmp4 {fn : Func} {t u v x : Tmp} (h : fn.results = #[.tmp t, .tmp u, .tmp v, .tmp x]) (tmps : Array Value) (P : Program) (w : World) :
    (results fn tmps).run P w = .ok (.tuple #[tmps.getD t undef, tmps.getD u undef, tmps.getD v undef, tmps.getD x undef]) w := by simp [results, h]
set_option maxHeartbeats 4000000 in
set_option maxRecDepth 100000 in
theorem rlex_any (s : ByteArray) (w : World) (hs : s.size ≤ 9223372036854775807) :
    Calls Tryd.prog 21 #[.string s] w (LexOut 61 s w lexRR) := by
  have hlen : s.data.toList.length = s.size := by simp
  have HLEN := Lib.hid hlen
  clear hlen
  by_cases hbig : 8192 < s.size
  · have HA : Hid (lexAll s.data.toList = ([], 6, 1, 1)) := by
      show _ = _
      rw [lexAll, if_pos (by rw [HLEN.out]; exact hbig)]
    go_enter Tryd.func21, Tryd.ntmps21
    go_wp2
    refine bodyPost_ret (results_tmp4 rfl _ _ _) rfl ?_
    exact ⟨.slice none 0 0, [], 6, 1, 1, rfl, World.ownsRow_nil _ _ _ _, bl_refl _, HA.out⟩
  · obtain ⟨i0, hi0, hz0, hz1, hz2⟩ := info_parts rtokInfo
    go_enter Tryd.func21, Tryd.ntmps21
    go_wp2_with fail
    go_loopw [6, 7, 8, 9] (fun v6 v7 v8 v9 wr => ∃ (ts : List Tok) (a : Nat) (line col : Int), a ≤ s.size ∧ 0 ≤ line ∧ line ≤ a + 1 ∧ 0 ≤ col ∧ col ≤ a + 1 ∧ v7 = .int .i64 line ∧ v8 = .int .i64 col ∧ v9 = .int .i64 a ∧
      wr.ownsRow w.heap.size 61 4 v6 ts.length (toksCells ts) ∧ ts.length ≤ a ∧ Below w.heap.size w wr ∧ Hid (LexIn s.data.toList ts a line col)) (fun _ _ _ v9 _ => s.size - (intOf v9).toNat)
    case atStart => exact ⟨[], 0, 1, 1, by omega, by omega, by omega, by omega, by omega, rfl, rfl, rfl, World.ownsRow_nil _ _ _ _, Nat.le_refl _, bl_refl _, by simp [Hid, LexIn, preR_nil]⟩
    case round =>
      obtain ⟨ts, a, line, col, ha, l1, l2, c1, c2, rfl, rfl, rfl, hown, hts, hbw, HI⟩ := hrel
      have hlw := hbw.size
      by_cases hend : s.size ≤ a
      · obtain rfl : a = s.size := by omega
        have HR : Hid (lexAll s.data.toList = (ts ++ [⟨0, ⟨#[]⟩, line, col⟩], 0, 0, 0)) := by
          have h := HI.out
          unfold LexIn at h
          rw [drop_end, lexL] at h
          show _ = _
          rw [lexAll, if_neg (by rw [HLEN.out]; exact hbig), h]; rfl
        clear HI
        go_wp2_with (at_builtin; refine wpList_append_own _ rfl _ _ 57 rfl w.heap.size 61 i0 _ 4 40 Tryd.underlying57 hi0 hz0 hz1 hz2 rfl (by decide) _ _ _ rfl (hown.alloc _) ⟨wr.heap.size, 0, none⟩ 1 1 [.int .i64 0, .string ⟨#[]⟩, .int .i64 line, .int .i64 col] rfl rfl (World.news_of_block (cs := #[.int .i64 0, .string ⟨#[]⟩, .int .i64 line, .int .i64 col]) (t := 61) (fr := (0, 0)) (heap_alloc_new _ _)) (by simp [Value.oneCell']) (by unfold maxLen; omega) (by omega) (by simp; omega) ?_; intro v1 w1 hown1 hgrow1 hnil1)
        refine bodyPost_ret (results_tmp4 rfl _ _ _) rfl ?_
        refine ⟨v1, ts ++ [⟨0, ⟨#[]⟩, line, col⟩], 0, 0, 0, rfl, ?_, ?_, HR.out⟩
        · rw [toks_snoc, List.length_append]
          exact hown1
        · exact bl_grown (bl_alloc hbw _) hgrow1 (fun k hk => (hown.lt _ hk).1)
      · have hlt : a < s.size := by omega
        have hdr := drop_at s a hlt
        have HD := Lib.hid hdr
        have hcl := (s[a]'hlt).toNat_lt
        clear hdr
        by_cases h35 : s[a]'hlt = 35
        · have hb : (((s[a]'hlt).toNat : Int) == 35) = true := by rw [h35]; rfl
          have hb10 : (((s[a]'hlt).toNat : Int) == 10) = false := by rw [h35]; rfl
          have HST : ∀ k : Nat, k = a + 1 + noteLen (s.data.toList.drop (a + 1)) → LexIn s.data.toList ts k line (col + k - a) := fun k hk => by
            have h := HI.out
            unfold LexIn at h ⊢
            rw [HD.out, h35, lexL_note, List.drop_drop] at h
            rw [h, ← hk, show col + 1 + (noteLen (s.data.toList.drop (a + 1)) : Int) = col + k - a from by omega]
          have HSTH := Lib.hid HST
          clear HST h35 HI HD
          go_wp2_with fail
          obtain ⟨wo, rfl⟩ : ∃ wo : World, wo = wr := ⟨_, rfl⟩
          go_loop [11] (fun v => ∃ k : Nat, a + 1 ≤ k ∧ k ≤ s.size ∧ v = .int .i64 k ∧ Hid (k + noteLen (s.data.toList.drop k) = a + 1 + noteLen (s.data.toList.drop (a + 1)))) (fun v => s.size - (intOf v).toNat)
          case atStart => exact ⟨a + 1, by omega, by omega, by go_num, rfl⟩
          case round =>
            obtain ⟨k, hk1, hk2, rfl, HN⟩ := hrel
            by_cases hklt : k < s.size
            · have hckl := (s[k]'hklt).toNat_lt
              by_cases h10 : s[k]'hklt = 10
              · have hbk : (((s[k]'hklt).toNat : Int) != 10) = false := by rw [h10]; rfl
                have HF := Lib.hid (HSTH.out k (by rw [← HN.out, noteLen_stop s k hklt h10, Nat.add_zero]))
                clear h10
                go_wp2
                go_roundw
                case rel => exact ⟨ts, k, line, col + k - a, by omega, l1, by omega, by omega, by omega, rfl, rfl, rfl, hown, by omega, hbw, HF⟩
                case measure => simp [intOf]; omega
              · have hbk : (((s[k]'hklt).toNat : Int) != 10) = true := by simp [bne, u8_nb (d := 10) (n := 10) rfl h10]
                have HX : Hid (k + 1 + noteLen (s.data.toList.drop (k + 1)) = a + 1 + noteLen (s.data.toList.drop (a + 1))) := by
                  show _ = _
                  rw [← HN.out, noteLen_step s k hklt h10]; omega
                clear h10
                go_wp2
                go_round
                case rel => exact ⟨k + 1, by omega, by omega, by go_num, HX⟩
                case measure => simp [intOf]; omega
            · obtain rfl : k = s.size := by omega
              have HF := Lib.hid (HSTH.out s.size (by rw [← HN.out, drop_end]; rfl))
              go_wp2
              go_roundw
              case rel => exact ⟨ts, s.size, line, col + s.size - a, by omega, l1, by omega, by omega, by omega, rfl, rfl, rfl, hown, by omega, hbw, HF⟩
              case measure => simp [intOf]; omega
        · have hb : (((s[a]'hlt).toNat : Int) == 35) = false := u8_nb rfl h35
          by_cases h : s[a]'hlt = 32
          · have HF : Hid (LexIn s.data.toList ts (a + 1) line (col + 1)) := by
              have hh := HI.out
              show LexIn _ _ _ _ _
              unfold LexIn at hh ⊢
              rw [HD.out, h, lexL_bl _ _ _ _ (by decide)] at hh
              exact hh
            have g0 : (((s[a]'hlt).toNat : Int) != 32) = false := by rw [h]; rfl
            have gn : (((s[a]'hlt).toNat : Int) == 10) = false := by rw [h]; rfl
            clear h h35 HI HD
            go_wp2
            go_roundw
            case rel => exact ⟨ts, a + 1, line, col + 1, by omega, by omega, by omega, by omega, by omega, rfl, by go_num, by go_num, hown, by omega, hbw, HF⟩
            case measure => simp [intOf]; omega
          have n32 := h
          have g0 : (((s[a]'hlt).toNat : Int) != 32) = true := by simp [bne, u8_nb (d := 32) (n := 32) rfl h]
          clear h
          by_cases h : s[a]'hlt = 9
          · have HF : Hid (LexIn s.data.toList ts (a + 1) line (col + 1)) := by
              have hh := HI.out
              show LexIn _ _ _ _ _
              unfold LexIn at hh ⊢
              rw [HD.out, h, lexL_bl _ _ _ _ (by decide)] at hh
              exact hh
            have g0 : (((s[a]'hlt).toNat : Int) != 32) = true := by rw [h]; rfl
            have g1 : (((s[a]'hlt).toNat : Int) != 9) = false := by rw [h]; rfl
            have gn : (((s[a]'hlt).toNat : Int) == 10) = false := by rw [h]; rfl
            clear h h35 HI HD
            go_wp2
            go_roundw
            case rel => exact ⟨ts, a + 1, line, col + 1, by omega, by omega, by omega, by omega, by omega, rfl, by go_num, by go_num, hown, by omega, hbw, HF⟩
            case measure => simp [intOf]; omega
          have n9 := h
          have g1 : (((s[a]'hlt).toNat : Int) != 9) = true := by simp [bne, u8_nb (d := 9) (n := 9) rfl h]
          clear h
          by_cases h : s[a]'hlt = 10
          · have HF : Hid (LexIn s.data.toList ts (a + 1) (line + 1) 1) := by
              have hh := HI.out
              show LexIn _ _ _ _ _
              unfold LexIn at hh ⊢
              rw [HD.out, h, lexL_nl] at hh
              exact hh
            have g0 : (((s[a]'hlt).toNat : Int) != 32) = true := by rw [h]; rfl
            have g1 : (((s[a]'hlt).toNat : Int) != 9) = true := by rw [h]; rfl
            have g2 : (((s[a]'hlt).toNat : Int) != 10) = false := by rw [h]; rfl
            have gn : (((s[a]'hlt).toNat : Int) == 10) = true := by rw [h]; rfl
            clear h h35 HI HD
            go_wp2
            go_roundw
            case rel => exact ⟨ts, a + 1, line + 1, 1, by omega, by omega, by omega, by omega, by omega, rfl, rfl, by go_num, hown, by omega, hbw, HF⟩
            case measure => simp [intOf]; omega
          have n10 := h
          have g2 : (((s[a]'hlt).toNat : Int) != 10) = true := by simp [bne, u8_nb (d := 10) (n := 10) rfl h]
          clear h
          by_cases h : s[a]'hlt = 13
          · have HF : Hid (LexIn s.data.toList ts (a + 1) line (col + 1)) := by
              have hh := HI.out
              show LexIn _ _ _ _ _
              unfold LexIn at hh ⊢
              rw [HD.out, h, lexL_bl _ _ _ _ (by decide)] at hh
              exact hh
            have g0 : (((s[a]'hlt).toNat : Int) != 32) = true := by rw [h]; rfl
            have g1 : (((s[a]'hlt).toNat : Int) != 9) = true := by rw [h]; rfl
            have g2 : (((s[a]'hlt).toNat : Int) != 10) = true := by rw [h]; rfl
            have g3 : (((s[a]'hlt).toNat : Int) != 13) = false := by rw [h]; rfl
            have gn : (((s[a]'hlt).toNat : Int) == 10) = false := by rw [h]; rfl
            clear h h35 HI HD
            go_wp2
            go_roundw
            case rel => exact ⟨ts, a + 1, line, col + 1, by omega, by omega, by omega, by omega, by omega, rfl, by go_num, by go_num, hown, by omega, hbw, HF⟩
            case measure => simp [intOf]; omega
          have n13 := h
          have g3 : (((s[a]'hlt).toNat : Int) != 13) = true := by simp [bne, u8_nb (d := 13) (n := 13) rfl h]
          clear h
          have gn : (((s[a]'hlt).toNat : Int) == 10) = false := u8_nb rfl n10
          have n3 : ¬ (s[a]'hlt = 32 ∨ s[a]'hlt = 9 ∨ s[a]'hlt = 13) := fun h => by rcases h with h | h | h <;> simp_all
          have hst := lexL_tok (s[a]'hlt) (s.data.toList.drop (a + 1)) line col h35 n10 n3
          have hI := HI.out
          unfold LexIn at hI
          rw [HD.out, hst] at hI
          have HII := Lib.hid hI
          have htl := tokLen_le (s[a]'hlt) (s.data.toList.drop (a + 1))
          have hbnd : a + 1 + tokLen (s[a]'hlt) (s.data.toList.drop (a + 1)) ≤ s.size := by
            have := HLEN.out
            rw [List.length_drop] at htl; omega
          have hexl : (s.extract a (a + 1 + tokLen (s[a]'hlt) (s.data.toList.drop (a + 1)))).data.toList = s[a]'hlt :: (s.data.toList.drop (a + 1)).take (tokLen (s[a]'hlt) (s.data.toList.drop (a + 1))) := by
            rw [Lib.extract_data, HD.out, show a + 1 + tokLen (s[a]'hlt) (s.data.toList.drop (a + 1)) - a = tokLen (s[a]'hlt) (s.data.toList.drop (a + 1)) + 1 from by omega, List.take_succ_cons]
          have hex2 : (⟨(s[a]'hlt :: (s.data.toList.drop (a + 1)).take (tokLen (s[a]'hlt) (s.data.toList.drop (a + 1)))).toArray⟩ : ByteArray) = s.extract a (a + 1 + tokLen (s[a]'hlt) (s.data.toList.drop (a + 1))) := by rw [← hexl]
          rw [hex2] at HII
          have HEXL := Lib.hid hexl
          generalize htll : s[a]'hlt :: (s.data.toList.drop (a + 1)).take (tokLen (s[a]'hlt) (s.data.toList.drop (a + 1))) = tl at *
          have htk : ∀ l, tokLen (s[a]'hlt) l = if isLet (s[a]'hlt) then runLen l else 0 := fun l => rfl
          have HTK := Lib.hid htk
          generalize hn : tokLen (s[a]'hlt) (s.data.toList.drop (a + 1)) = n at *
          rw [List.drop_drop] at HII
          clear hst hI HI HD h35 n32 n9 n10 n13 n3 htl hexl hex2 htll htk
          have HNN := Lib.hid hn
          clear hn
          go_wp2_with fail
          obtain ⟨wo, rfl⟩ : ∃ wo : World, wo = wr := ⟨_, rfl⟩
          go_loop [11] (fun v => ∃ k : Nat, a + 1 ≤ k ∧ k ≤ s.size ∧ v = .int .i64 k ∧ Hid (k + tokLen (s[a]'hlt) (s.data.toList.drop k) = a + 1 + n)) (fun v => s.size - (intOf v).toNat)
          case atStart => exact ⟨a + 1, by omega, by omega, by go_num, by show _ = _; rw [HNN.out]⟩
          case round =>
            obtain ⟨k, hk1, hk2, rfl, HN⟩ := hrel
            cases hi : isLet (s[a]'hlt) with
            | false =>
              have HNK : Hid (k = a + 1 + n) := by
                have h := HN.out
                rw [HTK.out, hi] at h
                show _ = _
                simpa using h
              have hnk := HNK.out
              obtain rfl : n = k - (a + 1) := by omega
              have hex : a + 1 + (k - (a + 1)) = k := by omega
              rw [hex] at HII HEXL
              clear HN HNN hex HNK hnk
              have hszk : (s.extract a k).size ≤ 9223372036854775807 := Nat.le_trans (show (s.extract a k).size ≤ 8192 by rw [ByteArray.size_extract]; omega) (by decide)
              by_cases hkz : kindOf tl = 0
              · have HR : Hid (lexAll s.data.toList = ([], 3, line, col)) := by
                  have h := HII.out
                  rw [if_pos hkz] at h
                  show _ = _
                  rw [lexAll, if_neg (by rw [HLEN.out]; exact hbig), h]; rfl
                have HOF := Lib.hid (rOf5_any (s.extract a k))
                rw [HEXL.out, hkz] at HOF
                clear hkz HII HEXL
                go_wp2_with (first | (go_at_call 56; refine (rletter_any _ _).mono ?_; rintro e w' ⟨rfl, rfl⟩) | (go_at_call 57; refine (HOF.out _ hszk).mono ?_; rintro e w2 ⟨rfl, hb2⟩))
                refine bodyPost_ret (results_tmp4 rfl _ _ _) rfl ?_
                exact ⟨.slice none 0 0, [], 3, line, col, rfl, World.ownsRow_nil _ _ _ _, bl_call hbw hb2, HR.out⟩
              · have HS2 : Hid (LexIn s.data.toList (ts ++ [⟨kindOf tl, s.extract a k, line, col⟩]) k line (col + k - a)) := by
                  have h := HII.out
                  rw [if_neg hkz] at h
                  show LexIn _ _ _ _ _
                  unfold LexIn
                  rw [h, preR_snoc, show col + 1 + ((k - (a + 1) : Nat) : Int) = col + k - a from by omega]
                have hk0 : (kindOf tl == 0) = false := beq_eq_false_iff_ne.2 hkz
                have HOF := Lib.hid (rOf5_any (s.extract a k))
                rw [HEXL.out] at HOF
                clear hkz HII HEXL
                generalize hkk : kindOf tl = kd at *
                clear hkk
                go_wp2_with (first | (go_at_call 56; refine (rletter_any _ _).mono ?_; rintro e w' ⟨rfl, rfl⟩) | (go_at_call 57; refine (HOF.out _ hszk).mono ?_; rintro e w2 ⟨rfl, hb2⟩; (have hown2 := ownsRow_below hown hb2); (have hbw2 := bl_call hbw hb2); (have hlw2 := hbw2.size)) | (at_builtin; refine wpList_append_own _ rfl _ _ 57 rfl w.heap.size 61 i0 _ 4 40 Tryd.underlying57 hi0 hz0 hz1 hz2 rfl (by decide) _ _ _ rfl (hown2.alloc _) ⟨w2.heap.size, 0, none⟩ 1 1 [.int .i64 kd, .string (s.extract a k), .int .i64 line, .int .i64 col] rfl rfl (World.news_of_block (cs := #[.int .i64 kd, .string (s.extract a k), .int .i64 line, .int .i64 col]) (t := 61) (fr := (0, 0)) (heap_alloc_new _ _)) (by simp [Value.oneCell']) (by unfold maxLen; omega) (by omega) (by simp; omega) ?_; intro v1 w3 hown3 hgrow3 hnil3))
                go_roundw
                case rel =>
                  refine ⟨ts ++ [⟨kd, s.extract a k, line, col⟩], k, line, col + k - a, hk2, l1, by omega, by omega, by omega, rfl, rfl, rfl, ?_, by simp; omega, ?_, HS2⟩
                  · rw [toks_snoc, List.length_append]; exact hown3
                  · exact bl_grown (bl_alloc hbw2 _) hgrow3 (fun k hk => (hown2.lt _ hk).1)
                case measure => simp [intOf]; omega
            | true =>
              by_cases hklt : k < s.size
              · cases hik : isLet (s[k]'hklt) with
                | true =>
                  have HX : Hid (k + 1 + tokLen (s[a]'hlt) (s.data.toList.drop (k + 1)) = a + 1 + n) := by
                    have h := HN.out
                    rw [HTK.out, hi, if_pos rfl, runLen_step s k hklt hik] at h
                    show _ = _
                    rw [HTK.out, hi, if_pos rfl]; omega
                  go_wp2_with (go_at_call 56; refine (rletter_any _ _).mono ?_; rintro e w' ⟨rfl, rfl⟩)
                  go_round
                  case rel => exact ⟨k + 1, by omega, by omega, by go_num, HX⟩
                  case measure => simp [intOf]; omega
                | false =>
                  have HNK : Hid (k = a + 1 + n) := by
                    have h := HN.out
                    rw [HTK.out, hi, if_pos rfl, runLen_stop s k hklt hik] at h
                    exact h
                  have hnk := HNK.out
                  obtain rfl : n = k - (a + 1) := by omega
                  have hex : a + 1 + (k - (a + 1)) = k := by omega
                  rw [hex] at HII HEXL
                  clear HN HNN hex HNK hnk
                  have hszk : (s.extract a k).size ≤ 9223372036854775807 := Nat.le_trans (show (s.extract a k).size ≤ 8192 by rw [ByteArray.size_extract]; omega) (by decide)
                  by_cases hkz : kindOf tl = 0
                  · have HR : Hid (lexAll s.data.toList = ([], 3, line, col)) := by
                      have h := HII.out
                      rw [if_pos hkz] at h
                      show _ = _
                      rw [lexAll, if_neg (by rw [HLEN.out]; exact hbig), h]; rfl
                    have HOF := Lib.hid (rOf5_any (s.extract a k))
                    rw [HEXL.out, hkz] at HOF
                    clear hkz HII HEXL
                    go_wp2_with (first | (go_at_call 56; refine (rletter_any _ _).mono ?_; rintro e w' ⟨rfl, rfl⟩) | (go_at_call 57; refine (HOF.out _ hszk).mono ?_; rintro e w2 ⟨rfl, hb2⟩))
                    refine bodyPost_ret (results_tmp4 rfl _ _ _) rfl ?_
                    exact ⟨.slice none 0 0, [], 3, line, col, rfl, World.ownsRow_nil _ _ _ _, bl_call hbw hb2, HR.out⟩
                  · have HS2 : Hid (LexIn s.data.toList (ts ++ [⟨kindOf tl, s.extract a k, line, col⟩]) k line (col + k - a)) := by
                      have h := HII.out
                      rw [if_neg hkz] at h
                      show LexIn _ _ _ _ _
                      unfold LexIn
                      rw [h, preR_snoc, show col + 1 + ((k - (a + 1) : Nat) : Int) = col + k - a from by omega]
                    have hk0 : (kindOf tl == 0) = false := beq_eq_false_iff_ne.2 hkz
                    have HOF := Lib.hid (rOf5_any (s.extract a k))
                    rw [HEXL.out] at HOF
                    clear hkz HII HEXL
                    generalize hkk : kindOf tl = kd at *
                    clear hkk
                    go_wp2_with (first | (go_at_call 56; refine (rletter_any _ _).mono ?_; rintro e w' ⟨rfl, rfl⟩) | (go_at_call 57; refine (HOF.out _ hszk).mono ?_; rintro e w2 ⟨rfl, hb2⟩; (have hown2 := ownsRow_below hown hb2); (have hbw2 := bl_call hbw hb2); (have hlw2 := hbw2.size)) | (at_builtin; refine wpList_append_own _ rfl _ _ 57 rfl w.heap.size 61 i0 _ 4 40 Tryd.underlying57 hi0 hz0 hz1 hz2 rfl (by decide) _ _ _ rfl (hown2.alloc _) ⟨w2.heap.size, 0, none⟩ 1 1 [.int .i64 kd, .string (s.extract a k), .int .i64 line, .int .i64 col] rfl rfl (World.news_of_block (cs := #[.int .i64 kd, .string (s.extract a k), .int .i64 line, .int .i64 col]) (t := 61) (fr := (0, 0)) (heap_alloc_new _ _)) (by simp [Value.oneCell']) (by unfold maxLen; omega) (by omega) (by simp; omega) ?_; intro v1 w3 hown3 hgrow3 hnil3))
                    go_roundw
                    case rel =>
                      refine ⟨ts ++ [⟨kd, s.extract a k, line, col⟩], k, line, col + k - a, hk2, l1, by omega, by omega, by omega, rfl, rfl, rfl, ?_, by simp; omega, ?_, HS2⟩
                      · rw [toks_snoc, List.length_append]; exact hown3
                      · exact bl_grown (bl_alloc hbw2 _) hgrow3 (fun k hk => (hown2.lt _ hk).1)
                    case measure => simp [intOf]; omega
              · have HNK : Hid (k = a + 1 + n) := by
                  obtain rfl : k = s.size := by omega
                  have h := HN.out
                  rw [HTK.out, hi, if_pos rfl, drop_end] at h
                  exact h
                have hnk := HNK.out
                obtain rfl : n = k - (a + 1) := by omega
                have hex : a + 1 + (k - (a + 1)) = k := by omega
                rw [hex] at HII HEXL
                clear HN HNN hex HNK hnk
                have hszk : (s.extract a k).size ≤ 9223372036854775807 := Nat.le_trans (show (s.extract a k).size ≤ 8192 by rw [ByteArray.size_extract]; omega) (by decide)
                by_cases hkz : kindOf tl = 0
                · have HR : Hid (lexAll s.data.toList = ([], 3, line, col)) := by
                    have h := HII.out
                    rw [if_pos hkz] at h
                    show _ = _
                    rw [lexAll, if_neg (by rw [HLEN.out]; exact hbig), h]; rfl
                  have HOF := Lib.hid (rOf5_any (s.extract a k))
                  rw [HEXL.out, hkz] at HOF
                  clear hkz HII HEXL
                  go_wp2_with (first | (go_at_call 56; refine (rletter_any _ _).mono ?_; rintro e w' ⟨rfl, rfl⟩) | (go_at_call 57; refine (HOF.out _ hszk).mono ?_; rintro e w2 ⟨rfl, hb2⟩))
                  refine bodyPost_ret (results_tmp4 rfl _ _ _) rfl ?_
                  exact ⟨.slice none 0 0, [], 3, line, col, rfl, World.ownsRow_nil _ _ _ _, bl_call hbw hb2, HR.out⟩
                · have HS2 : Hid (LexIn s.data.toList (ts ++ [⟨kindOf tl, s.extract a k, line, col⟩]) k line (col + k - a)) := by
                    have h := HII.out
                    rw [if_neg hkz] at h
                    show LexIn _ _ _ _ _
                    unfold LexIn
                    rw [h, preR_snoc, show col + 1 + ((k - (a + 1) : Nat) : Int) = col + k - a from by omega]
                  have hk0 : (kindOf tl == 0) = false := beq_eq_false_iff_ne.2 hkz
                  have HOF := Lib.hid (rOf5_any (s.extract a k))
                  rw [HEXL.out] at HOF
                  clear hkz HII HEXL
                  generalize hkk : kindOf tl = kd at *
                  clear hkk
                  go_wp2_with (first | (go_at_call 56; refine (rletter_any _ _).mono ?_; rintro e w' ⟨rfl, rfl⟩) | (go_at_call 57; refine (HOF.out _ hszk).mono ?_; rintro e w2 ⟨rfl, hb2⟩; (have hown2 := ownsRow_below hown hb2); (have hbw2 := bl_call hbw hb2); (have hlw2 := hbw2.size)) | (at_builtin; refine wpList_append_own _ rfl _ _ 57 rfl w.heap.size 61 i0 _ 4 40 Tryd.underlying57 hi0 hz0 hz1 hz2 rfl (by decide) _ _ _ rfl (hown2.alloc _) ⟨w2.heap.size, 0, none⟩ 1 1 [.int .i64 kd, .string (s.extract a k), .int .i64 line, .int .i64 col] rfl rfl (World.news_of_block (cs := #[.int .i64 kd, .string (s.extract a k), .int .i64 line, .int .i64 col]) (t := 61) (fr := (0, 0)) (heap_alloc_new _ _)) (by simp [Value.oneCell']) (by unfold maxLen; omega) (by omega) (by simp; omega) ?_; intro v1 w3 hown3 hgrow3 hnil3))
                  go_roundw
                  case rel =>
                    refine ⟨ts ++ [⟨kd, s.extract a k, line, col⟩], k, line, col + k - a, hk2, l1, by omega, by omega, by omega, rfl, rfl, rfl, ?_, by simp; omega, ?_, HS2⟩
                    · rw [toks_snoc, List.length_append]; exact hown3
                    · exact bl_grown (bl_alloc hbw2 _) hgrow3 (fun k hk => (hown2.lt _ hk).1)
                  case measure => simp [intOf]; omega
end Go.Proofs.YtcgkfgklggjmaaaDoor
end
