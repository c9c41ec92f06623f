import Derived.Test.YtcgkfgklggjmaaaDoorGe
import Derived.Lib.ItoaMem
import Derived.Lib.Repeat
import Derived.KernelRfl
section
namespace Go.Proofs.YtcgkfgklggjmaaaDoor.Par
set_option linter.unusedVariables false
set_option linter.unusedSimpArgs false
open Go.RowKit
/-! a plan as a row of texts -/
def metT (m : Met) : List ByteArray := [m.name, m.unit, textB m.max]
def feeT (f : Fee) : List ByteArray := [textB f.amount] ++ winT f.win
def tierT (t : Tier) : List ByteArray := [textB t.upto, textB t.rate]
def adjT (a : Adj) : List ByteArray := [textB a.kind, textB a.n, textB a.mode]
def chgH (c : Chg) : List ByteArray := [c.meter] ++ winT c.win ++ [textB c.allow, textB c.block, textB c.kind, textB c.mode, textB c.tiers.length, textB c.adjs.length]
def chgT (c : Chg) : List ByteArray := chgH c ++ c.tiers.flatMap tierT ++ c.adjs.flatMap adjT
def headT (p : Plan) : List ByteArray := [p.name, p.cur] ++ winT ⟨false, p.from_, p.to_⟩ ++ [textB p.mets.length, textB p.fees.length, textB p.chgs.length]
def rowT (p : Plan) : List ByteArray := headT p ++ p.mets.flatMap metT ++ p.fees.flatMap feeT ++ p.chgs.flatMap chgT
/-- no row of a plan is longer than this -/
structure Small (p : Plan) : Prop where
  mets : p.mets.length ≤ 10000
  fees : p.fees.length ≤ 10000
  chgs : p.chgs.length ≤ 10000
  tiers : ∀ c ∈ p.chgs, c.tiers.length ≤ 10000
  adjs : ∀ c ∈ p.chgs, c.adjs.length ≤ 10000
theorem flat_take {α β : Type} (f : α → List β) {l : List α} {k : Nat} {a : α} (h : l[k]? = some a) : (l.take (k + 1)).flatMap f = (l.take k).flatMap f ++ f a := by
  rw [List.take_add_one, List.flatMap_append, h]
  simp
theorem flat_le {α β : Type} (f : α → List β) (n : Nat) : ∀ l : List α, (∀ a ∈ l, (f a).length ≤ n) → (l.flatMap f).length ≤ l.length * n
  | [], _ => by simp
  | a :: l, h => by
    have h1 := flat_le f n l (fun b hb => h b (by simp [hb]))
    have h2 := h a (by simp)
    rw [List.flatMap_cons, List.length_append, List.length_cons, Nat.succ_mul]
    omega
theorem winT_len (x : Win) : (winT x).length = 7 := rfl
theorem str_flat (l : List ByteArray) : l.flatMap strF = l.map Value.string := by
  induction l with
  | nil => rfl
  | cons a l ih => simp [strF, ih]
theorem strInfo : (Tryd.prog.info? 9).map (fun i => (i.zero, i.size, i.bytes)) = some (some (.string ⟨#[]⟩), 1, 16) := by kernel_rfl
/-- within Row: the plan's own block, and what has been written -/
structure RW (w0 w : World) (C : Array Value) (v : Value) (l : List ByteArray) : Prop where
  lb : LB w0 w
  kp : Blk w w0.heap.size 29 C
  out : w.ownsRow w0.heap.size 9 1 v l.length (l.flatMap strF)
section
variable {w0 w w' : World} {C : Array Value} {v : Value} {l : List ByteArray}
theorem RW.below (h : RW w0 w C v l) (hb : Below w.heap.size w w') : RW w0 w' C v l := ⟨h.lb.call hb, h.kp.call hb, own_keep h.out fun g hg => hb.block g (h.out.lt g hg).2⟩
theorem RW.alloc (h : RW w0 w C v l) (o : Obj) : RW w0 (w.alloc o) C v l := h.below (bl_alloc (bl_refl _) o)
theorem RW.drew (h : RW w0 w C v l) : RW w0 w.drew C v l := h.below (bl_drew (bl_refl _))
theorem RW.add {v' : Value} {m : Nat} {news : List Value} {l' : List ByteArray} (h : RW w0 w C v l) (hg : w.grownBy w' v.ownBlock) (ho : w'.ownsRow w0.heap.size 9 1 v' (l.length + m) (l.flatMap strF ++ news)) (hm : l'.length = m) (hn : l'.flatMap strF = news) : RW w0 w' C v' (l ++ l') :=
  ⟨⟨h.lb.out.grown hg h.lb.out.size (fun k hk => (h.out.lt k hk).1)⟩, h.kp.grown hg (fun e => own_ne_blk h.out h.kp (by decide) e.symm), by rw [List.length_append, hm, List.flatMap_append, hn]; exact ho⟩
theorem RW.apart (h : RW w0 w C v l) {g : Nat} {T : TypeId} {cells : Array Value} (hk : Blk w g T cells) (hT : 9 ≠ T) : some g ≠ v.ownBlock := fun e => own_ne_blk h.out hk hT e.symm
theorem RW.lt (h : RW w0 w C v l) : w0.heap.size < w.heap.size := h.kp.lt
end
set_option maxHeartbeats 16000000 in
set_option maxRecDepth 100000 in
theorem row_any {B : Nat} {p : Plan} {mv fv cv : Value} {cs : List CT} (w : World) (h : Rows w B p mv fv cv cs) (hsm : Small p) : Calls Tryd.prog 55 #[.agg (planC p mv fv cv)] w fun e w' => ∃ v, e = .returned v ∧ w'.ownsRow w.heap.size 9 1 v (rowT p).length ((rowT p).flatMap strF) ∧ Below w.heap.size w w' := by
  obtain ⟨Am, cm, rfl, hm1, hm2, hm3⟩ := Lies.open (f := metF) (l := p.mets) (Lies.of h.mo)
  obtain ⟨Af, cf, rfl, hf1, hf2, hf3⟩ := Lies.open (f := feeF) (l := p.fees) (Lies.of h.fo)
  obtain ⟨Ac, cc, rfl, hc1, hc2, hc3⟩ := Lies.open (f := chgF) (l := cs) (Lies.of h.co)
  have hcl : cs.length = p.chgs.length := by have := congrArg List.length h.eq; rwa [List.length_map] at this
  obtain ⟨n1, n2, n3, n4, n5⟩ := hsm
  replace n4 := Lib.hid n4
  replace n5 := Lib.hid n5
  have hR := Lib.hid h
  have hcl2 := Lib.hid hcl
  have n3' : cs.length ≤ 10000 := by omega
  clear h hcl
  obtain ⟨iS, hS0, hS1, hS2, hS3⟩ := info_parts strInfo
  have kb := Blk.new w 29 (planC p (.slice Am p.mets.length cm) (.slice Af p.fees.length cf) (.slice Ac cs.length cc))
  obtain ⟨c0, c1, c2, c3, c4, c5, c6, c7, c8, c9, c10, c11, c12, f0, f1, f2, f3, f4, f5, f6, f7, f8, f9, f10, f11, f12⟩ := kb.c13
  clear f0 f1 f2 f3 f4 f5 f6 f7 f8 f9 f10 f11 f12
  unfold planC
  have hW0 : RW w ((w.alloc (.cells #[.string p.name, .string p.cur, .int .i64 p.from_.1, .int .i64 p.from_.2.1, .int .i64 p.from_.2.2, .int .i64 p.to_.1, .int .i64 p.to_.2.1, .int .i64 p.to_.2.2, .slice Am p.mets.length cm, .slice Af p.fees.length cf, .slice Ac cs.length cc, .int .i64 p.line, .int .i64 p.col] 29)).alloc (.cells #[.string p.name, .string p.cur] 9)) (planC p (.slice Am p.mets.length cm) (.slice Af p.fees.length cf) (.slice Ac cs.length cc)) (.slice (some ⟨w.heap.size + 1, 0, none⟩) 2 2) [p.name, p.cur] := by
    refine ⟨⟨bl_alloc (bl_alloc (bl_refl w) _) _⟩, kb.alloc _, ?_⟩
    have hk := Blk.new (w.alloc (.cells #[.string p.name, .string p.cur, .int .i64 p.from_.1, .int .i64 p.from_.2.1, .int .i64 p.from_.2.2, .int .i64 p.to_.1, .int .i64 p.to_.2.1, .int .i64 p.to_.2.2, .slice Am p.mets.length cm, .slice Af p.fees.length cf, .slice Ac cs.length cc, .int .i64 p.line, .int .i64 p.col] 29)) 9 #[.string p.name, .string p.cur]
    rw [World.size_alloc] at hk
    exact ⟨rfl, .inr ⟨w.heap.size + 1, 2, _, rfl, Nat.le_succ _, hk, Nat.le_refl _, by decide, rfl, rfl⟩⟩
  have hwn := fun (W : World) => win6_any ⟨false, p.from_, p.to_⟩ W
  simp only at hwn
  replace hwn := Lib.hid hwn
  clear kb
  go_enter Tryd.func55, Tryd.ntmps55
  go_wp2_with fail
  refine (hwn.out _).mono ?_
  rintro e w1 ⟨g1, rfl, hk1, hg1, hb1⟩
  have hW1 := hW0.below hb1
  clear hW0 hb1 hwn c0 c1 c2 c3 c4 c5 c6 c7 c8 c9 c10 c11 c12
  have hl1 := hW1.lt
  go_wp2_with (at_builtin; refine wpList_append_lies _ rfl (.tmp 19) (.tmp 25) 79 rfl w.heap.size 9 iS _ 1 16 Tryd.underlying79 hS0 hS1 hS2 hS3 (by rfl) (by decide) _ _ _ (by rfl) hW1.out ⟨g1, 0, none⟩ 7 7 ((winT ⟨false, p.from_, p.to_⟩).map Value.string) (by rfl) (by rfl) (World.news_of_block (fr := (0, 0)) hk1) (by intro u hu; obtain ⟨b, _, rfl⟩ := List.mem_map.1 hu; rfl) (by decide) (by (try simp only [List.length_cons, List.length_nil, List.length_append, winT_len]); unfold maxLen; omega) (by (try simp only [List.length_cons, List.length_nil, List.length_append, winT_len]); omega) hW1.lb.out.size _ rfl ?_; intro g cp w10 hown10 hgrow10 hat10 hlt10; (have hW10 := hW1.add (l' := winT ⟨false, p.from_, p.to_⟩) hgrow10 hown10 rfl (str_flat _)))
  have hW2 := hW10
  have kP2 := hW2.kp
  unfold planC at kP2
  clear hW1 hk1 hgrow10 hown10 hat10 hlt10 hW10 hl1
  have kd_ : Blk w10.drew w.heap.size 29 #[.string p.name, .string p.cur, .int .i64 p.from_.1, .int .i64 p.from_.2.1, .int .i64 p.from_.2.2, .int .i64 p.to_.1, .int .i64 p.to_.2.1, .int .i64 p.to_.2.2, .slice Am p.mets.length cm, .slice Af p.fees.length cf, .slice Ac cs.length cc, .int .i64 p.line, .int .i64 p.col] := kP2.drew
  have hd_ : RW w w10.drew (planC p (.slice Am p.mets.length cm) (.slice Af p.fees.length cf) (.slice Ac cs.length cc)) (.slice (some ⟨g, 0, none⟩) ([p.name, p.cur].length + 7) cp) ([p.name, p.cur] ++ winT ⟨false, p.from_, p.to_⟩) := hW2.drew
  obtain ⟨_, _, _, _, _, _, _, _, k8_, k9_, k10_, _, _, _, _, _, _, _, _, _, _, _, _, _, _, _⟩ := kd_.c13
  go_region_held3 (fun w' => w'.cell? ⟨w.heap.size, 8, none⟩ = some (.slice Am p.mets.length cm) ∧ w'.cell? ⟨w.heap.size, 9, none⟩ = some (.slice Af p.fees.length cf) ∧ w'.cell? ⟨w.heap.size, 10, none⟩ = some (.slice Ac cs.length cc))
    (refine ⟨?_, ?_, ?_⟩ <;> first | with_reducible assumption | exact LB.alloc (by with_reducible assumption) _ | (go_keep; done))
    ((first | (refine step_append_lies _ (by rfl) (.tmp 27) (.tmp 40) 79 (by rfl) w.heap.size 9 iS _ 1 16 Tryd.underlying79 hS0 hS1 hS2 hS3 (by rfl) (by decide) _ _ _ (by rfl) (hW6.alloc _).out ⟨w6.heap.size, 0, none⟩ 3 3 [.string (textB p.mets.length), .string (textB p.fees.length), .string (textB cs.length)] (by rfl) rfl (World.news_of_block (cs := #[.string (textB p.mets.length), .string (textB p.fees.length), .string (textB cs.length)]) (t := 9) (fr := (0, 0)) (heap_alloc_new _ _)) (by simp [Value.oneCell']) (by decide) (by (try simp only [List.length_cons, List.length_nil, List.length_append, winT_len]); unfold maxLen; omega) (by (try simp only [List.length_cons, List.length_nil, List.length_append, winT_len]); omega) (hW6.alloc _).lb.out.size _ rfl ?_; intro g cp w10 hown10 hgrow10 hat10 hlt10; (have hW10 := (hW6.alloc _).add (l' := [textB p.mets.length, textB p.fees.length, textB cs.length]) hgrow10 hown10 rfl rfl); (have hl6 := hW6.lt); (have kX := kA.grown hgrow10 ((hW6.alloc _).apart kA (by decide))); obtain ⟨_, _, _, _, _, _, _, _, x8_, x9_, x10_, _, _, _, _, _, _, _, _, _, _, _, _, _, _, _⟩ := kX.c13) | (go_at_call 95; refine (text_any _ _).mono ?_; rintro e w6 ⟨rfl, hb6⟩; (have kW : Blk w6 w.heap.size 29 #[.string p.name, .string p.cur, .int .i64 p.from_.1, .int .i64 p.from_.2.1, .int .i64 p.from_.2.2, .int .i64 p.to_.1, .int .i64 p.to_.2.1, .int .i64 p.to_.2.2, .slice Am p.mets.length cm, .slice Af p.fees.length cf, .slice Ac cs.length cc, .int .i64 p.line, .int .i64 p.col] := Blk.call (by with_reducible assumption) hb6); obtain ⟨_, _, _, _, _, _, _, _, j8_, j9_, j10_, _, _, _, _, _, _, _, _, _, _, _, _, _, _, _⟩ := kW.c13; (have hW6 : RW w w6 (planC p (.slice Am p.mets.length cm) (.slice Af p.fees.length cf) (.slice Ac cs.length cc)) (.slice (some ⟨g, 0, none⟩) ([p.name, p.cur].length + 7) cp) ([p.name, p.cur] ++ winT ⟨false, p.from_, p.to_⟩) := RW.below (by with_reducible assumption) hb6); (have kA := kW.alloc (.cells #[.string (textB p.mets.length), .string (textB p.fees.length), .string (textB cs.length)] 9)); obtain ⟨_, _, _, _, _, _, _, _, a8_, a9_, a10_, _, _, _, _, _, _, _, _, _, _, _, _, _, _, _⟩ := kA.c13)))
  have hW3 := hW10
  have hH : ([p.name, p.cur] ++ winT ⟨false, p.from_, p.to_⟩) ++ [textB p.mets.length, textB p.fees.length, textB cs.length] = headT p := by unfold headT; rw [hcl2.out]
  rw [hH] at hW3
  clear hH hW2 kP2 hW6 hl6 hgrow10 hown10 hat10 hlt10 hW10 kA kX kW kd_ hd_ hb6 k8_ k9_ k10_ j8_ j9_ j10_ a8_ a9_ a10_ x8_ x9_ x10_
  have hP3 := hW3.kp
  unfold planC at hP3
  obtain ⟨_, _, _, _, _, _, _, _, z8_, z9_, z10_, _, _, _, _, _, _, _, _, _, _, _, _, _, _, _⟩ := hP3.c13
  go_wp2_with fail
  go_loopg [3, 45] p.mets.length (fun n_ v3_ vi_ wr => ∃ k : Nat, k ≤ p.mets.length ∧ vi_ = .int .i64 k ∧ n_ = p.mets.length - k ∧ RW w wr (planC p (.slice Am p.mets.length cm) (.slice Af p.fees.length cf) (.slice Ac cs.length cc)) v3_ (headT p ++ (p.mets.take k).flatMap metT))
  case atStart => exact ⟨0, Nat.zero_le _, rfl, rfl, by simpa using hW3⟩
  case round =>
    obtain ⟨k, hk, rfl, rfl, hW⟩ := hrel
    clear hW3 hP3 z8_ z9_ z10_
    by_cases hlt : k < p.mets.length
    · obtain ⟨m, hi⟩ : ∃ m, p.mets[k]? = some m := ⟨_, List.getElem?_eq_getElem hlt⟩
      obtain ⟨gm, rfl, hgm⟩ := hm3 (by omega)
      obtain ⟨L, hL⟩ : ∃ L, L = headT p ++ (p.mets.take k).flatMap metT := ⟨_, rfl⟩
      rw [← hL] at hW
      have hln : L.length ≤ 100000 := by
        have h1 := flat_le metT 3 (p.mets.take k) (fun _ _ => Nat.le_refl 3)
        have h2 : (headT p).length = 12 := rfl
        rw [List.length_take] at h1
        rw [hL, List.length_append]
        omega
      replace hL := Lib.hid hL
      have hLs := (Lies.of (hR.out.below hW.lb.out).mo : Lies metF 44 5 wr (.slice (some ⟨gm, 0, none⟩) p.mets.length cm) p.mets)
      have y0 := hLs.at metF_len hi (j := 0) rfl
      have y1 := hLs.at metF_len hi (j := 1) rfl
      have y2 := hLs.at metF_len hi (j := 2) rfl
      have y3 := hLs.at metF_len hi (j := 3) rfl
      have y4 := hLs.at metF_len hi (j := 4) rfl
      simp only [Nat.add_zero] at y0
      have b0 : (0 : Int) ≤ (k : Int) := by omega
      have b1 : (k : Int) < (p.mets.length : Int) := by omega
      have hlw := hW.lt
      have hWa := hW.alloc (.cells #[.string m.name, .string m.unit, .int .i64 m.max, .int .i64 m.line, .int .i64 m.col] 44)
      have kM := Blk.new wr 44 #[.string m.name, .string m.unit, .int .i64 m.max, .int .i64 m.line, .int .i64 m.col]
      replace hi := Lib.hid hi
      clear hLs
      go_wp2_with fail
      clear y0 y1 y2 y3 y4 hW
      generalize wr.alloc (.cells #[.string m.name, .string m.unit, .int .i64 m.max, .int .i64 m.line, .int .i64 m.col] 44) = W at *
      have kd_ : Blk W.drew wr.heap.size 44 #[.string m.name, .string m.unit, .int .i64 m.max, .int .i64 m.line, .int .i64 m.col] := kM.drew
      have hd_ : RW w W.drew (planC p (.slice (some ⟨gm, 0, none⟩) p.mets.length cm) (.slice Af p.fees.length cf) (.slice Ac cs.length cc)) u3 L := hWa.drew
      obtain ⟨k0_, k1_, k2_, _, _, _, _, _, _, _⟩ := kd_.c5
      go_region_held3 (fun w' => w'.cell? ⟨wr.heap.size, 0, none⟩ = some (.string m.name) ∧ w'.cell? ⟨wr.heap.size, 1, none⟩ = some (.string m.unit) ∧ w'.cell? ⟨wr.heap.size, 2, none⟩ = some (.int .i64 m.max))
        (refine ⟨?_, ?_, ?_⟩ <;> first | with_reducible assumption | exact LB.alloc (by with_reducible assumption) _ | (go_keep; done))
        ((first | (refine step_append_lies _ (by rfl) (.tmp 49) (.tmp 57) 79 (by rfl) w.heap.size 9 iS _ 1 16 Tryd.underlying79 hS0 hS1 hS2 hS3 (by rfl) (by decide) _ _ _ (by rfl) (hW6.alloc _).out ⟨w6.heap.size, 0, none⟩ 3 3 [.string m.name, .string m.unit, .string (textB m.max)] (by rfl) rfl (World.news_of_block (cs := #[.string m.name, .string m.unit, .string (textB m.max)]) (t := 9) (fr := (0, 0)) (heap_alloc_new _ _)) (by simp [Value.oneCell']) (by decide) (by (try simp only [List.length_cons, List.length_nil, List.length_append, winT_len]); unfold maxLen; omega) (by (try simp only [List.length_cons, List.length_nil, List.length_append, winT_len]); omega) (hW6.alloc _).lb.out.size _ rfl ?_; intro g cp w10 hown10 hgrow10 hat10 hlt10; (have hW10 := (hW6.alloc _).add (l' := [m.name, m.unit, textB m.max]) hgrow10 hown10 rfl rfl); (have hl6 := hW6.lt); (have kX := kA.grown hgrow10 ((hW6.alloc _).apart kA (by decide))); obtain ⟨x0_, x1_, x2_, _, _, _, _, _, _, _⟩ := kX.c5) | (go_at_call 95; refine (text_any _ _).mono ?_; rintro e w6 ⟨rfl, hb6⟩; (have kW : Blk w6 wr.heap.size 44 #[.string m.name, .string m.unit, .int .i64 m.max, .int .i64 m.line, .int .i64 m.col] := Blk.call (by with_reducible assumption) hb6); obtain ⟨j0_, j1_, j2_, _, _, _, _, _, _, _⟩ := kW.c5; (have hW6 : RW w w6 (planC p (.slice (some ⟨gm, 0, none⟩) p.mets.length cm) (.slice Af p.fees.length cf) (.slice Ac cs.length cc)) u3 L := RW.below (by with_reducible assumption) hb6); (have kA := kW.alloc (.cells #[.string m.name, .string m.unit, .string (textB m.max)] 9)); obtain ⟨a0_, a1_, a2_, _, _, _, _, _, _, _⟩ := kA.c5)))
      go_wp2_with fail
      go_roundg (p.mets.length - (k + 1))
      case rel => exact ⟨k + 1, by omega, by go_num, rfl, by rw [flat_take metT hi.out, ← List.append_assoc, ← hL.out]; exact hW10⟩
      case measure => omega
    · obtain rfl : k = p.mets.length := by omega
      rw [List.take_length] at hW
      have hW4 := hW
      clear hW
      have hP := hW4.kp
      unfold planC at hP
      obtain ⟨_, _, _, _, _, _, _, _, z8_, z9_, z10_, _, _, _, _, _, _, _, _, _, _, _, _, _, _, _⟩ := hP.c13
      go_wp2_with fail
      go_loopg [3, 63] p.fees.length (fun n_ v3_ vi_ wr => ∃ k : Nat, k ≤ p.fees.length ∧ vi_ = .int .i64 k ∧ n_ = p.fees.length - k ∧ RW w wr (planC p (.slice Am p.mets.length cm) (.slice Af p.fees.length cf) (.slice Ac cs.length cc)) v3_ ((headT p ++ p.mets.flatMap metT) ++ (p.fees.take k).flatMap feeT))
      case atStart => exact ⟨0, Nat.zero_le _, rfl, rfl, by simpa using hW4⟩
      case round =>
        obtain ⟨k, hk, rfl, rfl, hW⟩ := hrel
        clear hW4 hP z8_ z9_ z10_
        by_cases hlt : k < p.fees.length
        · obtain ⟨f, hi⟩ : ∃ f, p.fees[k]? = some f := ⟨_, List.getElem?_eq_getElem hlt⟩
          obtain ⟨gf, rfl, hgf⟩ := hf3 (by omega)
          obtain ⟨L, hL⟩ : ∃ L, L = headT p ++ p.mets.flatMap metT ++ (p.fees.take k).flatMap feeT := ⟨_, rfl⟩
          rw [← hL] at hW
          have hln : L.length ≤ 1000000 := by
            have h1 := flat_le feeT 8 (p.fees.take k) (fun _ _ => Nat.le_refl 8)
            have h3 := flat_le metT 3 p.mets (fun _ _ => Nat.le_refl 3)
            have h2 : (headT p).length = 12 := rfl
            rw [List.length_take] at h1
            rw [hL, List.length_append, List.length_append]
            omega
          replace hL := Lib.hid hL
          have hLs := (Lies.of (hR.out.below hW.lb.out).fo : Lies feeF 48 10 wr (.slice (some ⟨gf, 0, none⟩) p.fees.length cf) p.fees)
          have y0 := hLs.at feeF_len hi (j := 0) rfl
          have y1 := hLs.at feeF_len hi (j := 1) rfl
          have y2 := hLs.at feeF_len hi (j := 2) rfl
          have y3 := hLs.at feeF_len hi (j := 3) rfl
          have y4 := hLs.at feeF_len hi (j := 4) rfl
          have y5 := hLs.at feeF_len hi (j := 5) rfl
          have y6 := hLs.at feeF_len hi (j := 6) rfl
          have y7 := hLs.at feeF_len hi (j := 7) rfl
          have y8 := hLs.at feeF_len hi (j := 8) rfl
          have y9 := hLs.at feeF_len hi (j := 9) rfl
          simp only [Nat.add_zero] at y0
          have b0 : (0 : Int) ≤ (k : Int) := by omega
          have b1 : (k : Int) < (p.fees.length : Int) := by omega
          have hlw := hW.lt
          have hWa := hW.alloc (.cells #[.int .i64 f.amount, .bool f.win.has, .int .i64 f.win.from_.1, .int .i64 f.win.from_.2.1, .int .i64 f.win.from_.2.2, .int .i64 f.win.to_.1, .int .i64 f.win.to_.2.1, .int .i64 f.win.to_.2.2, .int .i64 f.line, .int .i64 f.col] 48)
          have kM := Blk.new wr 48 #[.int .i64 f.amount, .bool f.win.has, .int .i64 f.win.from_.1, .int .i64 f.win.from_.2.1, .int .i64 f.win.from_.2.2, .int .i64 f.win.to_.1, .int .i64 f.win.to_.2.1, .int .i64 f.win.to_.2.2, .int .i64 f.line, .int .i64 f.col]
          replace hi := Lib.hid hi
          clear hLs
          go_wp2_with fail
          clear y0 y1 y2 y3 y4 y5 y6 y7 y8 y9 hW
          generalize wr.alloc (.cells #[.int .i64 f.amount, .bool f.win.has, .int .i64 f.win.from_.1, .int .i64 f.win.from_.2.1, .int .i64 f.win.from_.2.2, .int .i64 f.win.to_.1, .int .i64 f.win.to_.2.1, .int .i64 f.win.to_.2.2, .int .i64 f.line, .int .i64 f.col] 48) = W at *
          have hlW := hWa.lt
          have kd_ : Blk W.drew wr.heap.size 48 #[.int .i64 f.amount, .bool f.win.has, .int .i64 f.win.from_.1, .int .i64 f.win.from_.2.1, .int .i64 f.win.from_.2.2, .int .i64 f.win.to_.1, .int .i64 f.win.to_.2.1, .int .i64 f.win.to_.2.2, .int .i64 f.line, .int .i64 f.col] := kM.drew
          have hd_ : RW w W.drew (planC p (.slice Am p.mets.length cm) (.slice (some ⟨gf, 0, none⟩) p.fees.length cf) (.slice Ac cs.length cc)) u3 L := hWa.drew
          obtain ⟨k0_, k1_, k2_, k3_, k4_, k5_, k6_, k7_, _, _, _, _, _, _, _, _, _, _, _, _⟩ := kd_.c10
          go_region_held3 (fun w' => w'.cell? ⟨wr.heap.size, 0, none⟩ = some (.int .i64 f.amount) ∧ w'.cell? ⟨wr.heap.size, 1, none⟩ = some (.bool f.win.has) ∧ w'.cell? ⟨wr.heap.size, 2, none⟩ = some (.int .i64 f.win.from_.1) ∧ w'.cell? ⟨wr.heap.size, 3, none⟩ = some (.int .i64 f.win.from_.2.1) ∧ w'.cell? ⟨wr.heap.size, 4, none⟩ = some (.int .i64 f.win.from_.2.2) ∧ w'.cell? ⟨wr.heap.size, 5, none⟩ = some (.int .i64 f.win.to_.1) ∧ w'.cell? ⟨wr.heap.size, 6, none⟩ = some (.int .i64 f.win.to_.2.1) ∧ w'.cell? ⟨wr.heap.size, 7, none⟩ = some (.int .i64 f.win.to_.2.2))
            (refine ⟨?_, ?_, ?_, ?_, ?_, ?_, ?_, ?_⟩ <;> first | with_reducible assumption | exact LB.alloc (by with_reducible assumption) _ | (go_keep; done))
            ((first | (refine step_append_lies _ (by rfl) (.tmp 72) (.tmp 75) 79 (by rfl) w.heap.size 9 iS _ 1 16 Tryd.underlying79 hS0 hS1 hS2 hS3 (by rfl) (by decide) _ _ _ (by rfl) hW11.out ⟨g1, 0, none⟩ 7 7 ((winT f.win).map Value.string) (by rfl) (by rfl) (World.news_of_block (fr := (0, 0)) hk1) (by intro u hu; obtain ⟨b, _, rfl⟩ := List.mem_map.1 hu; rfl) (by decide) (by (try simp only [List.length_cons, List.length_nil, List.length_append, winT_len]); unfold maxLen; omega) (by (try simp only [List.length_cons, List.length_nil, List.length_append, winT_len]); omega) hW11.lb.out.size _ rfl ?_; intro g2 cp2 w12 hown12 hgrow12 hat12 hlt12; (have hW12 := hW11.add (l' := winT f.win) hgrow12 hown12 rfl (str_flat _)); (have kZ := kY.grown hgrow12 (hW11.apart kY (by decide))); obtain ⟨q0_, q1_, q2_, q3_, q4_, q5_, q6_, q7_, _, _, _, _, _, _, _, _, _, _, _, _⟩ := kZ.c10) | (refine step_append_lies _ (by rfl) (.tmp 67) (.tmp 71) 79 (by rfl) w.heap.size 9 iS _ 1 16 Tryd.underlying79 hS0 hS1 hS2 hS3 (by rfl) (by decide) _ _ _ (by rfl) (hW6.alloc _).out ⟨w6.heap.size, 0, none⟩ 1 1 [.string (textB f.amount)] (by rfl) rfl (World.news_of_block (cs := #[.string (textB f.amount)]) (t := 9) (fr := (0, 0)) (heap_alloc_new _ _)) (by simp [Value.oneCell']) (by decide) (by (try simp only [List.length_cons, List.length_nil, List.length_append, winT_len]); unfold maxLen; omega) (by (try simp only [List.length_cons, List.length_nil, List.length_append, winT_len]); omega) (hW6.alloc _).lb.out.size _ rfl ?_; intro g cp w10 hown10 hgrow10 hat10 hlt10; (have hW10 := (hW6.alloc _).add (l' := [textB f.amount]) hgrow10 hown10 rfl rfl); (have hl6 := hW6.lt); (have kX := kA.grown hgrow10 ((hW6.alloc _).apart kA (by decide))); obtain ⟨x0_, x1_, x2_, x3_, x4_, x5_, x6_, x7_, _, _, _, _, _, _, _, _, _, _, _, _⟩ := kX.c10) | (go_at_call 95; refine (text_any _ _).mono ?_; rintro e w6 ⟨rfl, hb6⟩; (have kW : Blk w6 wr.heap.size 48 #[.int .i64 f.amount, .bool f.win.has, .int .i64 f.win.from_.1, .int .i64 f.win.from_.2.1, .int .i64 f.win.from_.2.2, .int .i64 f.win.to_.1, .int .i64 f.win.to_.2.1, .int .i64 f.win.to_.2.2, .int .i64 f.line, .int .i64 f.col] := Blk.call kd_ hb6); obtain ⟨j0_, j1_, j2_, j3_, j4_, j5_, j6_, j7_, _, _, _, _, _, _, _, _, _, _, _, _⟩ := kW.c10; (have hW6 : RW w w6 (planC p (.slice Am p.mets.length cm) (.slice (some ⟨gf, 0, none⟩) p.fees.length cf) (.slice Ac cs.length cc)) u3 L := RW.below hd_ hb6); (have kA := kW.alloc (.cells #[.string (textB f.amount)] 9)); obtain ⟨a0_, a1_, a2_, a3_, a4_, a5_, a6_, a7_, _, _, _, _, _, _, _, _, _, _, _, _⟩ := kA.c10) | (go_at_call 94; refine (win6_any f.win _).mono ?_; rintro e w11 ⟨g1, rfl, hk1, hg1, hb11⟩; (have kY := kX.call hb11); obtain ⟨v0_, v1_, v2_, v3_, v4_, v5_, v6_, v7_, _, _, _, _, _, _, _, _, _, _, _, _⟩ := kY.c10; (have hW11 := hW10.below hb11))))
          go_wp2_with fail
          go_roundg (p.fees.length - (k + 1))
          case rel => exact ⟨k + 1, by omega, by go_num, rfl, by rw [flat_take feeT hi.out, ← List.append_assoc, ← hL.out]; unfold feeT; rw [← List.append_assoc]; simp only [List.length_append, List.length_singleton] at hW12; exact hW12⟩
          case measure => omega
        · obtain rfl : k = p.fees.length := by omega
          rw [List.take_length] at hW
          have hW5 := hW
          clear hW
          have hP := hW5.kp
          unfold planC at hP
          obtain ⟨_, _, _, _, _, _, _, _, z8_, z9_, z10_, _, _, _, _, _, _, _, _, _, _, _, _, _, _, _⟩ := hP.c13
          go_wp2_with fail
          go_loopg [3, 81] cs.length (fun n_ v3_ vi_ wr => ∃ k : Nat, k ≤ cs.length ∧ vi_ = .int .i64 k ∧ n_ = cs.length - k ∧ RW w wr (planC p (.slice Am p.mets.length cm) (.slice Af p.fees.length cf) (.slice Ac cs.length cc)) v3_ ((headT p ++ p.mets.flatMap metT ++ p.fees.flatMap feeT) ++ (cs.take k).flatMap (fun x => chgT x.1)))
          case atStart => exact ⟨0, Nat.zero_le _, rfl, rfl, by simpa using hW5⟩
          case round =>
            obtain ⟨k, hk, rfl, rfl, hW⟩ := hrel
            clear hW5 hP z8_ z9_ z10_
            by_cases hlt : k < cs.length
            · obtain ⟨⟨c, tv, av⟩, hi⟩ : ∃ c, cs[k]? = some c := ⟨_, List.getElem?_eq_getElem hlt⟩
              have hmem : (c, tv, av) ∈ cs := List.mem_of_getElem? hi
              have hcm : c ∈ p.chgs := by rw [← hR.out.eq]; exact List.mem_map.2 ⟨_, hmem, rfl⟩
              have q4 := n4.out c hcm
              have q5 := n5.out c hcm
              have hti := (hR.out.ne _ hmem).1
              have haj := (hR.out.ne _ hmem).2
              simp only at hti haj
              obtain ⟨At, ct, rfl, ht1, ht2, ht3⟩ := Lies.open (f := tierF) (l := c.tiers) (Lies.of hti)
              obtain ⟨Aa, ca, rfl, ha1, ha2, ha3⟩ := Lies.open (f := adjF) (l := c.adjs) (Lies.of haj)
              replace hti := Lib.hid hti
              replace haj := Lib.hid haj
              replace hmem := Lib.hid hmem
              clear hcm
              obtain ⟨gc, rfl, hgc⟩ := hc3 (by omega)
              obtain ⟨L, hL⟩ : ∃ L, L = headT p ++ p.mets.flatMap metT ++ p.fees.flatMap feeT ++ (cs.take k).flatMap (fun x => chgT x.1) := ⟨_, rfl⟩
              rw [← hL] at hW
              have hln : L.length ≤ 600000000 := by
                have h1 := flat_le (fun x : CT => chgT x.1) 50014 (cs.take k) (fun x hx => by
                  have hm := List.mem_of_mem_take hx
                  have hm2 : x.1 ∈ p.chgs := by rw [← hR.out.eq]; exact List.mem_map.2 ⟨_, hm, rfl⟩
                  have e4 := n4.out x.1 hm2
                  have e5 := n5.out x.1 hm2
                  have e6 := flat_le tierT 2 x.1.tiers (fun _ _ => Nat.le_refl 2)
                  have e7 := flat_le adjT 3 x.1.adjs (fun _ _ => Nat.le_refl 3)
                  have e8 : (chgH x.1).length = 14 := rfl
                  show (chgH x.1 ++ x.1.tiers.flatMap tierT ++ x.1.adjs.flatMap adjT).length ≤ 50014
                  rw [List.length_append, List.length_append]
                  omega)
                have h3 := flat_le metT 3 p.mets (fun _ _ => Nat.le_refl 3)
                have h4 := flat_le feeT 8 p.fees (fun _ _ => Nat.le_refl 8)
                have h2 : (headT p).length = 12 := rfl
                rw [List.length_take] at h1
                rw [hL, List.length_append, List.length_append, List.length_append]
                omega
              replace hL := Lib.hid hL
              have hLs := (Lies.of (hR.out.below hW.lb.out).co : Lies chgF 52 16 wr (.slice (some ⟨gc, 0, none⟩) cs.length cc) cs)
              have y0 := hLs.at chgF_len hi (j := 0) rfl
              have y1 := hLs.at chgF_len hi (j := 1) rfl
              have y2 := hLs.at chgF_len hi (j := 2) rfl
              have y3 := hLs.at chgF_len hi (j := 3) rfl
              have y4 := hLs.at chgF_len hi (j := 4) rfl
              have y5 := hLs.at chgF_len hi (j := 5) rfl
              have y6 := hLs.at chgF_len hi (j := 6) rfl
              have y7 := hLs.at chgF_len hi (j := 7) rfl
              have y8 := hLs.at chgF_len hi (j := 8) rfl
              have y9 := hLs.at chgF_len hi (j := 9) rfl
              have y10 := hLs.at chgF_len hi (j := 10) rfl
              have y11 := hLs.at chgF_len hi (j := 11) rfl
              have y12 := hLs.at chgF_len hi (j := 12) rfl
              have y13 := hLs.at chgF_len hi (j := 13) rfl
              have y14 := hLs.at chgF_len hi (j := 14) rfl
              have y15 := hLs.at chgF_len hi (j := 15) rfl
              simp only [Nat.add_zero] at y0
              have b0 : (0 : Int) ≤ (k : Int) := by omega
              have b1 : (k : Int) < (cs.length : Int) := by omega
              have hlw := hW.lt
              have hWa := hW.alloc (.cells #[.string c.meter, .bool c.win.has, .int .i64 c.win.from_.1, .int .i64 c.win.from_.2.1, .int .i64 c.win.from_.2.2, .int .i64 c.win.to_.1, .int .i64 c.win.to_.2.1, .int .i64 c.win.to_.2.2, .int .i64 c.allow, .int .i64 c.block, .int .i64 c.kind, .slice At c.tiers.length ct, .int .i64 c.mode, .slice Aa c.adjs.length ca, .int .i64 c.line, .int .i64 c.col] 52)
              have kM := Blk.new wr 52 #[.string c.meter, .bool c.win.has, .int .i64 c.win.from_.1, .int .i64 c.win.from_.2.1, .int .i64 c.win.from_.2.2, .int .i64 c.win.to_.1, .int .i64 c.win.to_.2.1, .int .i64 c.win.to_.2.2, .int .i64 c.allow, .int .i64 c.block, .int .i64 c.kind, .slice At c.tiers.length ct, .int .i64 c.mode, .slice Aa c.adjs.length ca, .int .i64 c.line, .int .i64 c.col]
              replace hi := Lib.hid hi
              clear hLs
              go_wp2_with fail
              clear y0 y1 y2 y3 y4 y5 y6 y7 y8 y9 y10 y11 y12 y13 y14 y15 hW
              generalize wr.alloc (.cells #[.string c.meter, .bool c.win.has, .int .i64 c.win.from_.1, .int .i64 c.win.from_.2.1, .int .i64 c.win.from_.2.2, .int .i64 c.win.to_.1, .int .i64 c.win.to_.2.1, .int .i64 c.win.to_.2.2, .int .i64 c.allow, .int .i64 c.block, .int .i64 c.kind, .slice At c.tiers.length ct, .int .i64 c.mode, .slice Aa c.adjs.length ca, .int .i64 c.line, .int .i64 c.col] 52) = W at *
              have hlW := hWa.lt
              have hGW := kM.lt
              generalize wr.heap.size = GM at *
              have kd_ : Blk W.drew GM 52 #[.string c.meter, .bool c.win.has, .int .i64 c.win.from_.1, .int .i64 c.win.from_.2.1, .int .i64 c.win.from_.2.2, .int .i64 c.win.to_.1, .int .i64 c.win.to_.2.1, .int .i64 c.win.to_.2.2, .int .i64 c.allow, .int .i64 c.block, .int .i64 c.kind, .slice At c.tiers.length ct, .int .i64 c.mode, .slice Aa c.adjs.length ca, .int .i64 c.line, .int .i64 c.col] := kM.drew
              obtain ⟨k0_, k1_, k2_, k3_, k4_, k5_, k6_, k7_, _, _, _, _, _, _, _, _, _, _, _, _, _, _, _, _, _, _, _, _, _, _, _, _⟩ := kd_.c16
              have ke_ : Blk (W.alloc (.cells #[.string c.meter] 9)).drew GM 52 #[.string c.meter, .bool c.win.has, .int .i64 c.win.from_.1, .int .i64 c.win.from_.2.1, .int .i64 c.win.from_.2.2, .int .i64 c.win.to_.1, .int .i64 c.win.to_.2.1, .int .i64 c.win.to_.2.2, .int .i64 c.allow, .int .i64 c.block, .int .i64 c.kind, .slice At c.tiers.length ct, .int .i64 c.mode, .slice Aa c.adjs.length ca, .int .i64 c.line, .int .i64 c.col] := (kM.alloc (.cells #[.string c.meter] 9)).drew
              obtain ⟨e0_, e1_, e2_, e3_, e4_, e5_, e6_, e7_, _, _, _, _, _, _, _, _, _, _, _, _, _, _, _, _, _, _, _, _, _, _, _, _⟩ := ke_.c16
              have he_ : RW w (W.alloc (.cells #[.string c.meter] 9)).drew (planC p (.slice Am p.mets.length cm) (.slice Af p.fees.length cf) (.slice (some ⟨gc, 0, none⟩) cs.length cc)) u3 L := (hWa.alloc (.cells #[.string c.meter] 9)).drew
              have hne_ : (W.alloc (.cells #[.string c.meter] 9)).drew.heap[W.heap.size]? = some (.cells #[.string c.meter] 9) := heap_alloc_new W (.cells #[.string c.meter] 9)
              go_region_held3 (fun w' => w'.cell? ⟨GM, 0, none⟩ = some (.string c.meter) ∧ w'.cell? ⟨GM, 1, none⟩ = some (.bool c.win.has) ∧ w'.cell? ⟨GM, 2, none⟩ = some (.int .i64 c.win.from_.1) ∧ w'.cell? ⟨GM, 3, none⟩ = some (.int .i64 c.win.from_.2.1) ∧ w'.cell? ⟨GM, 4, none⟩ = some (.int .i64 c.win.from_.2.2) ∧ w'.cell? ⟨GM, 5, none⟩ = some (.int .i64 c.win.to_.1) ∧ w'.cell? ⟨GM, 6, none⟩ = some (.int .i64 c.win.to_.2.1) ∧ w'.cell? ⟨GM, 7, none⟩ = some (.int .i64 c.win.to_.2.2))
                (refine ⟨?_, ?_, ?_, ?_, ?_, ?_, ?_, ?_⟩ <;> first | with_reducible assumption | exact LB.alloc (by with_reducible assumption) _ | (go_keep; done))
                ((first | (refine step_append_lies _ (by rfl) (.tmp 89) (.tmp 92) 79 (by rfl) w.heap.size 9 iS _ 1 16 Tryd.underlying79 hS0 hS1 hS2 hS3 (by rfl) (by decide) _ _ _ (by rfl) hW11.out ⟨g1, 0, none⟩ 7 7 ((winT c.win).map Value.string) (by rfl) (by rfl) (World.news_of_block (fr := (0, 0)) hk1) (by intro u hu; obtain ⟨b, _, rfl⟩ := List.mem_map.1 hu; rfl) (by decide) (by (try simp only [List.length_cons, List.length_nil, List.length_append, winT_len]); unfold maxLen; omega) (by (try simp only [List.length_cons, List.length_nil, List.length_append, winT_len]); omega) hW11.lb.out.size _ rfl ?_; intro g2 cp2 w12 hown12 hgrow12 hat12 hlt12; (have hW12 := hW11.add (l' := winT c.win) hgrow12 hown12 rfl (str_flat _)); (have kZ := kY.grown hgrow12 (hW11.apart kY (by decide))); obtain ⟨q0_, q1_, q2_, q3_, q4_, q5_, q6_, q7_, _, _, _, _, _, _, _, _, _, _, _, _, _, _, _, _, _, _, _, _, _, _, _, _⟩ := kZ.c16) | (refine step_append_lies _ (by rfl) (.tmp 85) (.tmp 88) 79 (by rfl) w.heap.size 9 iS _ 1 16 Tryd.underlying79 hS0 hS1 hS2 hS3 (by rfl) (by decide) _ _ _ (by rfl) he_.out ⟨W.heap.size, 0, none⟩ 1 1 [.string c.meter] (by rfl) rfl (World.news_of_block (cs := #[.string c.meter]) (t := 9) (fr := (0, 0)) hne_) (by simp [Value.oneCell']) (by decide) (by (try simp only [List.length_cons, List.length_nil, List.length_append, winT_len]); unfold maxLen; omega) (by (try simp only [List.length_cons, List.length_nil, List.length_append, winT_len]); omega) he_.lb.out.size _ rfl ?_; intro g cp w10 hown10 hgrow10 hat10 hlt10; (have hW10 := he_.add (l' := [c.meter]) hgrow10 hown10 rfl rfl); (have kX := ke_.grown hgrow10 (he_.apart ke_ (by decide))); obtain ⟨x0_, x1_, x2_, x3_, x4_, x5_, x6_, x7_, _, _, _, _, _, _, _, _, _, _, _, _, _, _, _, _, _, _, _, _, _, _, _, _⟩ := kX.c16) | (go_at_call 94; refine (win6_any c.win _).mono ?_; rintro e w11 ⟨g1, rfl, hk1, hg1, hb11⟩; (have kY := kX.call hb11); obtain ⟨v0_, v1_, v2_, v3_, v4_, v5_, v6_, v7_, _, _, _, _, _, _, _, _, _, _, _, _, _, _, _, _, _, _, _, _, _, _, _, _⟩ := kY.c16; (have hW11 := hW10.below hb11))))
              simp only [List.length_append, List.length_singleton] at hW12
              clear k0_ k1_ k2_ k3_ k4_ k5_ k6_ k7_ e0_ e1_ e2_ e3_ e4_ e5_ e6_ e7_ x0_ x1_ x2_ x3_ x4_ x5_ x6_ x7_ v0_ v1_ v2_ v3_ v4_ v5_ v6_ v7_ q0_ q1_ q2_ q3_ q4_ q5_ q6_ q7_ kd_ ke_ he_ hne_ kX kY hk1 hW10 hW11 hgrow10 hgrow12 hown10 hown12 hat10 hat12 hlt10 hlt12
              go_wp2_with fail
              obtain ⟨L2, hL2⟩ : ∃ L2, L2 = L ++ [c.meter] ++ winT c.win := ⟨_, rfl⟩
              have hln3 : L2.length = L.length + 8 := by rw [hL2, List.length_append, List.length_append]; rfl
              rw [← hL2] at hW12
              rw [show L.length + 1 + 7 = L2.length from by omega] at hW12
              have hsv : (.slice (some ⟨g2, 0, none⟩) (L.length + 1 + 7) cp2 : Value) = (.slice (some ⟨g2, 0, none⟩) L2.length cp2) := by rw [hln3]
              rw [hsv]
              clear hsv
              replace hL2 := Lib.hid hL2
              replace hln3 := Lib.hid hln3
              have hln4 : L2.length ≤ 600000008 := by rw [hln3.out]; omega
              have kd_ : Blk w12.drew GM 52 #[.string c.meter, .bool c.win.has, .int .i64 c.win.from_.1, .int .i64 c.win.from_.2.1, .int .i64 c.win.from_.2.2, .int .i64 c.win.to_.1, .int .i64 c.win.to_.2.1, .int .i64 c.win.to_.2.2, .int .i64 c.allow, .int .i64 c.block, .int .i64 c.kind, .slice At c.tiers.length ct, .int .i64 c.mode, .slice Aa c.adjs.length ca, .int .i64 c.line, .int .i64 c.col] := kZ.drew
              have hd_ : RW w w12.drew (planC p (.slice Am p.mets.length cm) (.slice Af p.fees.length cf) (.slice (some ⟨gc, 0, none⟩) cs.length cc)) (.slice (some ⟨g2, 0, none⟩) L2.length cp2) L2 := hW12.drew
              obtain ⟨_, _, _, _, _, _, _, _, k8_, k9_, k10_, k11_, k12_, k13_, _, _, _, _, _, _, _, _, _, _, _, _, _, _, _, _, _, _⟩ := kd_.c16
              go_region_held3 (fun w' => w'.cell? ⟨GM, 8, none⟩ = some (.int .i64 c.allow) ∧ w'.cell? ⟨GM, 9, none⟩ = some (.int .i64 c.block) ∧ w'.cell? ⟨GM, 10, none⟩ = some (.int .i64 c.kind) ∧ w'.cell? ⟨GM, 11, none⟩ = some (.slice At c.tiers.length ct) ∧ w'.cell? ⟨GM, 12, none⟩ = some (.int .i64 c.mode) ∧ w'.cell? ⟨GM, 13, none⟩ = some (.slice Aa c.adjs.length ca))
                (refine ⟨?_, ?_, ?_, ?_, ?_, ?_⟩ <;> first | with_reducible assumption | exact LB.alloc (by with_reducible assumption) _ | (go_keep; done))
                ((first | (refine step_append_lies _ (by rfl) (.tmp 94) (.tmp 115) 79 (by rfl) w.heap.size 9 iS _ 1 16 Tryd.underlying79 hS0 hS1 hS2 hS3 (by rfl) (by decide) _ _ _ (by rfl) (hW6.alloc _).out ⟨w6.heap.size, 0, none⟩ 6 6 [.string (textB c.allow), .string (textB c.block), .string (textB c.kind), .string (textB c.mode), .string (textB c.tiers.length), .string (textB c.adjs.length)] (by rfl) rfl (World.news_of_block (cs := #[.string (textB c.allow), .string (textB c.block), .string (textB c.kind), .string (textB c.mode), .string (textB c.tiers.length), .string (textB c.adjs.length)]) (t := 9) (fr := (0, 0)) (heap_alloc_new _ _)) (by simp [Value.oneCell']) (by decide) (by (try simp only [List.length_cons, List.length_nil, List.length_append, winT_len]); unfold maxLen; omega) (by (try simp only [List.length_cons, List.length_nil, List.length_append, winT_len]); omega) (hW6.alloc _).lb.out.size _ rfl ?_; intro g cp w10 hown10 hgrow10 hat10 hlt10; (have hW10 := (hW6.alloc _).add (l' := [textB c.allow, textB c.block, textB c.kind, textB c.mode, textB c.tiers.length, textB c.adjs.length]) hgrow10 hown10 rfl rfl); (have hl6 := hW6.lt); (have kX := kA.grown hgrow10 ((hW6.alloc _).apart kA (by decide))); obtain ⟨_, _, _, _, _, _, _, _, x8_, x9_, x10_, x11_, x12_, x13_, _, _, _, _, _, _, _, _, _, _, _, _, _, _, _, _, _, _⟩ := kX.c16) | (go_at_call 95; refine (text_any _ _).mono ?_; rintro e w6 ⟨rfl, hb6⟩; (have kW : Blk w6 GM 52 #[.string c.meter, .bool c.win.has, .int .i64 c.win.from_.1, .int .i64 c.win.from_.2.1, .int .i64 c.win.from_.2.2, .int .i64 c.win.to_.1, .int .i64 c.win.to_.2.1, .int .i64 c.win.to_.2.2, .int .i64 c.allow, .int .i64 c.block, .int .i64 c.kind, .slice At c.tiers.length ct, .int .i64 c.mode, .slice Aa c.adjs.length ca, .int .i64 c.line, .int .i64 c.col] := Blk.call (by with_reducible assumption) hb6); obtain ⟨_, _, _, _, _, _, _, _, j8_, j9_, j10_, j11_, j12_, j13_, _, _, _, _, _, _, _, _, _, _, _, _, _, _, _, _, _, _⟩ := kW.c16; (have hW6 : RW w w6 (planC p (.slice Am p.mets.length cm) (.slice Af p.fees.length cf) (.slice (some ⟨gc, 0, none⟩) cs.length cc)) (.slice (some ⟨g2, 0, none⟩) L2.length cp2) L2 := RW.below (by with_reducible assumption) hb6); (have kA := kW.alloc (.cells #[.string (textB c.allow), .string (textB c.block), .string (textB c.kind), .string (textB c.mode), .string (textB c.tiers.length), .string (textB c.adjs.length)] 9)); obtain ⟨_, _, _, _, _, _, _, _, a8_, a9_, a10_, a11_, a12_, a13_, _, _, _, _, _, _, _, _, _, _, _, _, _, _, _, _, _, _⟩ := kA.c16)))
              have hLC0 : L2 ++ [textB c.allow, textB c.block, textB c.kind, textB c.mode, textB c.tiers.length, textB c.adjs.length] = L ++ chgH c := by rw [hL2.out]; unfold chgH; simp only [List.append_assoc]
              obtain ⟨LC, hLC⟩ : ∃ LC, LC = L ++ chgH c := ⟨_, rfl⟩
              rw [hLC0, ← hLC] at hW10
              have hlnC : LC.length ≤ 600000014 := by rw [hLC, List.length_append, show (chgH c).length = 14 from rfl]; omega
              replace hLC := Lib.hid hLC
              have hT := hW10
              have hTk := kX
              go_wp2_with fail
              clear hLC0 hW10 hW12 kX kZ kA kW hW6 hl6 hgrow10 hown10 hat10 hlt10 hd_ kd_ k8_ k9_ k10_ k11_ k12_ k13_ j8_ j9_ j10_ j11_ j12_ j13_ a8_ a9_ a10_ a11_ a12_ a13_
              go_loopg [3, 120] c.tiers.length (fun n_ v3_ vi_ wr2 => ∃ k2 : Nat, k2 ≤ c.tiers.length ∧ vi_ = .int .i64 k2 ∧ n_ = c.tiers.length - k2 ∧ RW w wr2 (planC p (.slice Am p.mets.length cm) (.slice Af p.fees.length cf) (.slice (some ⟨gc, 0, none⟩) cs.length cc)) v3_ (LC ++ (c.tiers.take k2).flatMap tierT) ∧ Blk wr2 GM 52 #[.string c.meter, .bool c.win.has, .int .i64 c.win.from_.1, .int .i64 c.win.from_.2.1, .int .i64 c.win.from_.2.2, .int .i64 c.win.to_.1, .int .i64 c.win.to_.2.1, .int .i64 c.win.to_.2.2, .int .i64 c.allow, .int .i64 c.block, .int .i64 c.kind, .slice At c.tiers.length ct, .int .i64 c.mode, .slice Aa c.adjs.length ca, .int .i64 c.line, .int .i64 c.col])
              case atStart => exact ⟨0, Nat.zero_le _, rfl, rfl, by simpa using hT, hTk⟩
              case round =>
                obtain ⟨k2, hkk2, rfl, rfl, hV, kC⟩ := hrel
                clear hT hTk x8_ x9_ x10_ x11_ x12_ x13_
                by_cases hltk2 : k2 < c.tiers.length
                · obtain ⟨t, hik2⟩ : ∃ t, c.tiers[k2]? = some t := ⟨_, List.getElem?_eq_getElem hltk2⟩
                  obtain ⟨gt, rfl, hgt⟩ := ht3 (by omega)
                  obtain ⟨Mk2, hMk2⟩ : ∃ L, L = LC ++ (c.tiers.take k2).flatMap tierT := ⟨_, rfl⟩
                  rw [← hMk2] at hV
                  have hln2 : Mk2.length ≤ 700000000 := by
                    have h1 := flat_le tierT 2 (c.tiers.take k2) (fun _ _ => Nat.le_refl 2)
                    rw [List.length_take] at h1
                    rw [hMk2, List.length_append]
                    omega
                  replace hMk2 := Lib.hid hMk2
                  have hLs2 := (Lies.of ((hR.out.below hV.lb.out).ne _ hmem.out).1 : Lies tierF 119 2 wr (.slice (some ⟨gt, 0, none⟩) c.tiers.length ct) c.tiers)
                  have y0 := hLs2.at tierF_len hik2 (j := 0) rfl
                  have y1 := hLs2.at tierF_len hik2 (j := 1) rfl
                  simp only [Nat.add_zero] at y0
                  have b2 : (0 : Int) ≤ (k2 : Int) := by omega
                  have b3 : (k2 : Int) < (c.tiers.length : Int) := by omega
                  have hlw2 := hV.lt
                  have hVa := hV.alloc (.cells #[.int .i64 t.upto, .int .i64 t.rate] 119)
                  have kM2 := Blk.new wr 119 #[.int .i64 t.upto, .int .i64 t.rate]
                  have kC2 := kC.alloc (.cells #[.int .i64 t.upto, .int .i64 t.rate] 119)
                  replace hik2 := Lib.hid hik2
                  clear hLs2
                  go_wp2_with fail
                  clear y0 y1 hV kC
                  generalize wr.alloc (.cells #[.int .i64 t.upto, .int .i64 t.rate] 119) = W2 at *
                  have kd_ : Blk W2.drew wr.heap.size 119 #[.int .i64 t.upto, .int .i64 t.rate] := kM2.drew
                  have hd_ : RW w W2.drew (planC p (.slice Am p.mets.length cm) (.slice Af p.fees.length cf) (.slice (some ⟨gc, 0, none⟩) cs.length cc)) u3 Mk2 := hVa.drew
                  obtain ⟨k0_, k1_, _, _⟩ := kd_.c2
                  have kC2d : Blk W2.drew GM 52 #[.string c.meter, .bool c.win.has, .int .i64 c.win.from_.1, .int .i64 c.win.from_.2.1, .int .i64 c.win.from_.2.2, .int .i64 c.win.to_.1, .int .i64 c.win.to_.2.1, .int .i64 c.win.to_.2.2, .int .i64 c.allow, .int .i64 c.block, .int .i64 c.kind, .slice (some ⟨gt, 0, none⟩) c.tiers.length ct, .int .i64 c.mode, .slice Aa c.adjs.length ca, .int .i64 c.line, .int .i64 c.col] := kC2.drew
                  go_region_held3 (fun w' => w'.cell? ⟨wr.heap.size, 0, none⟩ = some (.int .i64 t.upto) ∧ w'.cell? ⟨wr.heap.size, 1, none⟩ = some (.int .i64 t.rate))
                    (refine ⟨?_, ?_⟩ <;> first | with_reducible assumption | exact LB.alloc (by with_reducible assumption) _ | (go_keep; done))
                    ((first | (refine step_append_lies _ (by rfl) (.tmp 124) (.tmp 131) 79 (by rfl) w.heap.size 9 iS _ 1 16 Tryd.underlying79 hS0 hS1 hS2 hS3 (by rfl) (by decide) _ _ _ (by rfl) (hW6.alloc _).out ⟨w6.heap.size, 0, none⟩ 2 2 [.string (textB t.upto), .string (textB t.rate)] (by rfl) rfl (World.news_of_block (cs := #[.string (textB t.upto), .string (textB t.rate)]) (t := 9) (fr := (0, 0)) (heap_alloc_new _ _)) (by simp [Value.oneCell']) (by decide) (by (try simp only [List.length_cons, List.length_nil, List.length_append, winT_len]); unfold maxLen; omega) (by (try simp only [List.length_cons, List.length_nil, List.length_append, winT_len]); omega) (hW6.alloc _).lb.out.size _ rfl ?_; intro g cp w10 hown10 hgrow10 hat10 hlt10; (have hW10 := (hW6.alloc _).add (l' := [textB t.upto, textB t.rate]) hgrow10 hown10 rfl rfl); (have hl6 := hW6.lt); (have kX := kA.grown hgrow10 ((hW6.alloc _).apart kA (by decide))); obtain ⟨x0_, x1_, _, _⟩ := kX.c2; (have kC28 := kC27.grown hgrow10 ((hW6.alloc _).apart kC27 (by decide)))) | (go_at_call 95; refine (text_any _ _).mono ?_; rintro e w6 ⟨rfl, hb6⟩; (have kW : Blk w6 wr.heap.size 119 #[.int .i64 t.upto, .int .i64 t.rate] := Blk.call (by with_reducible assumption) hb6); obtain ⟨j0_, j1_, _, _⟩ := kW.c2; (have hW6 : RW w w6 (planC p (.slice Am p.mets.length cm) (.slice Af p.fees.length cf) (.slice (some ⟨gc, 0, none⟩) cs.length cc)) u3 Mk2 := RW.below (by with_reducible assumption) hb6); (have kC26 : Blk w6 GM 52 #[.string c.meter, .bool c.win.has, .int .i64 c.win.from_.1, .int .i64 c.win.from_.2.1, .int .i64 c.win.from_.2.2, .int .i64 c.win.to_.1, .int .i64 c.win.to_.2.1, .int .i64 c.win.to_.2.2, .int .i64 c.allow, .int .i64 c.block, .int .i64 c.kind, .slice (some ⟨gt, 0, none⟩) c.tiers.length ct, .int .i64 c.mode, .slice Aa c.adjs.length ca, .int .i64 c.line, .int .i64 c.col] := Blk.call (by with_reducible assumption) hb6); (have kC27 := kC26.alloc (.cells #[.string (textB t.upto), .string (textB t.rate)] 9)); (have kA := kW.alloc (.cells #[.string (textB t.upto), .string (textB t.rate)] 9)); obtain ⟨a0_, a1_, _, _⟩ := kA.c2)))
                  go_wp2_with fail
                  go_roundg (c.tiers.length - (k2 + 1))
                  case rel => exact ⟨k2 + 1, by omega, by go_num, rfl, by rw [flat_take tierT hik2.out, ← List.append_assoc, ← hMk2.out]; exact hW10, kC28⟩
                  case measure => omega
                · obtain rfl : k2 = c.tiers.length := by omega
                  rw [List.take_length] at hV
                  obtain ⟨LD, hLD⟩ : ∃ LD, LD = LC ++ c.tiers.flatMap tierT := ⟨_, rfl⟩
                  rw [← hLD] at hV
                  have hlnD : LD.length ≤ 600100014 := by
                    have h1 := flat_le tierT 2 c.tiers (fun _ _ => Nat.le_refl 2)
                    rw [hLD, List.length_append]
                    omega
                  replace hLD := Lib.hid hLD
                  have hU := hV
                  have hUk := kC
                  clear hV kC
                  obtain ⟨_, _, _, _, _, _, _, _, _, _, _, _, _, p13_, _, _, _, _, _, _, _, _, _, _, _, _, _, _, _, _, _, _⟩ := hUk.c16
                  go_wp2_with fail
                  go_loopg [3, 137] c.adjs.length (fun n_ v3_ vi_ wr2 => ∃ k3 : Nat, k3 ≤ c.adjs.length ∧ vi_ = .int .i64 k3 ∧ n_ = c.adjs.length - k3 ∧ RW w wr2 (planC p (.slice Am p.mets.length cm) (.slice Af p.fees.length cf) (.slice (some ⟨gc, 0, none⟩) cs.length cc)) v3_ (LD ++ (c.adjs.take k3).flatMap adjT) ∧ Blk wr2 GM 52 #[.string c.meter, .bool c.win.has, .int .i64 c.win.from_.1, .int .i64 c.win.from_.2.1, .int .i64 c.win.from_.2.2, .int .i64 c.win.to_.1, .int .i64 c.win.to_.2.1, .int .i64 c.win.to_.2.2, .int .i64 c.allow, .int .i64 c.block, .int .i64 c.kind, .slice At c.tiers.length ct, .int .i64 c.mode, .slice Aa c.adjs.length ca, .int .i64 c.line, .int .i64 c.col])
                  case atStart => exact ⟨0, Nat.zero_le _, rfl, rfl, by simpa using hU, hUk⟩
                  case round =>
                    obtain ⟨k3, hkk3, rfl, rfl, hV, kC⟩ := hrel
                    clear hU hUk p13_
                    by_cases hltk3 : k3 < c.adjs.length
                    · obtain ⟨a, hik3⟩ : ∃ a, c.adjs[k3]? = some a := ⟨_, List.getElem?_eq_getElem hltk3⟩
                      obtain ⟨ga, rfl, hga⟩ := ha3 (by omega)
                      obtain ⟨Mk3, hMk3⟩ : ∃ L, L = LD ++ (c.adjs.take k3).flatMap adjT := ⟨_, rfl⟩
                      rw [← hMk3] at hV
                      have hln2 : Mk3.length ≤ 700000000 := by
                        have h1 := flat_le adjT 3 (c.adjs.take k3) (fun _ _ => Nat.le_refl 3)
                        rw [List.length_take] at h1
                        rw [hMk3, List.length_append]
                        omega
                      replace hMk3 := Lib.hid hMk3
                      have hLs2 := (Lies.of ((hR.out.below hV.lb.out).ne _ hmem.out).2 : Lies adjF 121 3 wr (.slice (some ⟨ga, 0, none⟩) c.adjs.length ca) c.adjs)
                      have y0 := hLs2.at adjF_len hik3 (j := 0) rfl
                      have y1 := hLs2.at adjF_len hik3 (j := 1) rfl
                      have y2 := hLs2.at adjF_len hik3 (j := 2) rfl
                      simp only [Nat.add_zero] at y0
                      have b2 : (0 : Int) ≤ (k3 : Int) := by omega
                      have b3 : (k3 : Int) < (c.adjs.length : Int) := by omega
                      have hlw2 := hV.lt
                      have hVa := hV.alloc (.cells #[.int .i64 a.kind, .int .i64 a.n, .int .i64 a.mode] 121)
                      have kM2 := Blk.new wr 121 #[.int .i64 a.kind, .int .i64 a.n, .int .i64 a.mode]
                      have kC2 := kC.alloc (.cells #[.int .i64 a.kind, .int .i64 a.n, .int .i64 a.mode] 121)
                      replace hik3 := Lib.hid hik3
                      clear hLs2
                      go_wp2_with fail
                      clear y0 y1 y2 hV kC
                      generalize wr.alloc (.cells #[.int .i64 a.kind, .int .i64 a.n, .int .i64 a.mode] 121) = W2 at *
                      have kd_ : Blk W2.drew wr.heap.size 121 #[.int .i64 a.kind, .int .i64 a.n, .int .i64 a.mode] := kM2.drew
                      have hd_ : RW w W2.drew (planC p (.slice Am p.mets.length cm) (.slice Af p.fees.length cf) (.slice (some ⟨gc, 0, none⟩) cs.length cc)) u3 Mk3 := hVa.drew
                      obtain ⟨k0_, k1_, k2_, _, _, _⟩ := kd_.c3
                      have kC2d : Blk W2.drew GM 52 #[.string c.meter, .bool c.win.has, .int .i64 c.win.from_.1, .int .i64 c.win.from_.2.1, .int .i64 c.win.from_.2.2, .int .i64 c.win.to_.1, .int .i64 c.win.to_.2.1, .int .i64 c.win.to_.2.2, .int .i64 c.allow, .int .i64 c.block, .int .i64 c.kind, .slice At c.tiers.length ct, .int .i64 c.mode, .slice (some ⟨ga, 0, none⟩) c.adjs.length ca, .int .i64 c.line, .int .i64 c.col] := kC2.drew
                      go_region_held3 (fun w' => w'.cell? ⟨wr.heap.size, 0, none⟩ = some (.int .i64 a.kind) ∧ w'.cell? ⟨wr.heap.size, 1, none⟩ = some (.int .i64 a.n) ∧ w'.cell? ⟨wr.heap.size, 2, none⟩ = some (.int .i64 a.mode))
                        (refine ⟨?_, ?_, ?_⟩ <;> first | with_reducible assumption | exact LB.alloc (by with_reducible assumption) _ | (go_keep; done))
                        ((first | (refine step_append_lies _ (by rfl) (.tmp 141) (.tmp 151) 79 (by rfl) w.heap.size 9 iS _ 1 16 Tryd.underlying79 hS0 hS1 hS2 hS3 (by rfl) (by decide) _ _ _ (by rfl) (hW6.alloc _).out ⟨w6.heap.size, 0, none⟩ 3 3 [.string (textB a.kind), .string (textB a.n), .string (textB a.mode)] (by rfl) rfl (World.news_of_block (cs := #[.string (textB a.kind), .string (textB a.n), .string (textB a.mode)]) (t := 9) (fr := (0, 0)) (heap_alloc_new _ _)) (by simp [Value.oneCell']) (by decide) (by (try simp only [List.length_cons, List.length_nil, List.length_append, winT_len]); unfold maxLen; omega) (by (try simp only [List.length_cons, List.length_nil, List.length_append, winT_len]); omega) (hW6.alloc _).lb.out.size _ rfl ?_; intro g cp w10 hown10 hgrow10 hat10 hlt10; (have hW10 := (hW6.alloc _).add (l' := [textB a.kind, textB a.n, textB a.mode]) hgrow10 hown10 rfl rfl); (have hl6 := hW6.lt); (have kX := kA.grown hgrow10 ((hW6.alloc _).apart kA (by decide))); obtain ⟨x0_, x1_, x2_, _, _, _⟩ := kX.c3; (have kC28 := kC27.grown hgrow10 ((hW6.alloc _).apart kC27 (by decide)))) | (go_at_call 95; refine (text_any _ _).mono ?_; rintro e w6 ⟨rfl, hb6⟩; (have kW : Blk w6 wr.heap.size 121 #[.int .i64 a.kind, .int .i64 a.n, .int .i64 a.mode] := Blk.call (by with_reducible assumption) hb6); obtain ⟨j0_, j1_, j2_, _, _, _⟩ := kW.c3; (have hW6 : RW w w6 (planC p (.slice Am p.mets.length cm) (.slice Af p.fees.length cf) (.slice (some ⟨gc, 0, none⟩) cs.length cc)) u3 Mk3 := RW.below (by with_reducible assumption) hb6); (have kC26 : Blk w6 GM 52 #[.string c.meter, .bool c.win.has, .int .i64 c.win.from_.1, .int .i64 c.win.from_.2.1, .int .i64 c.win.from_.2.2, .int .i64 c.win.to_.1, .int .i64 c.win.to_.2.1, .int .i64 c.win.to_.2.2, .int .i64 c.allow, .int .i64 c.block, .int .i64 c.kind, .slice At c.tiers.length ct, .int .i64 c.mode, .slice (some ⟨ga, 0, none⟩) c.adjs.length ca, .int .i64 c.line, .int .i64 c.col] := Blk.call (by with_reducible assumption) hb6); (have kC27 := kC26.alloc (.cells #[.string (textB a.kind), .string (textB a.n), .string (textB a.mode)] 9)); (have kA := kW.alloc (.cells #[.string (textB a.kind), .string (textB a.n), .string (textB a.mode)] 9)); obtain ⟨a0_, a1_, a2_, _, _, _⟩ := kA.c3)))
                      go_wp2_with fail
                      go_roundg (c.adjs.length - (k3 + 1))
                      case rel => exact ⟨k3 + 1, by omega, by go_num, rfl, by rw [flat_take adjT hik3.out, ← List.append_assoc, ← hMk3.out]; exact hW10, kC28⟩
                      case measure => omega
                    · obtain rfl : k3 = c.adjs.length := by omega
                      rw [List.take_length] at hV
                      go_wp2_with fail
                      go_roundg (cs.length - (k + 1))
                      case rel => exact ⟨k + 1, by omega, by go_num, rfl, by rw [flat_take (fun x : CT => chgT x.1) hi.out, ← List.append_assoc, ← hL.out]; unfold chgT; simp only; rw [← List.append_assoc, ← List.append_assoc, ← hLC.out, ← hLD.out]; exact hV⟩
                      case measure => omega
            · obtain rfl : k = cs.length := by omega
              rw [List.take_length] at hW
              have hq : headT p ++ p.mets.flatMap metT ++ p.fees.flatMap feeT ++ cs.flatMap (fun x => chgT x.1) = rowT p := by
                unfold rowT
                rw [← hR.out.eq, List.flatMap_map]
              rw [hq] at hW
              go_wp2_with fail
              go_ret
              exact ⟨_, rfl, hW.out, hW.lb.out⟩
end Go.Proofs.YtcgkfgklggjmaaaDoor.Par
end
section
namespace Go.Proofs.YtcgkfgklggjmaaaDoor.Par
set_option linter.unusedVariables false
set_option linter.unusedSimpArgs false
/-! a plan that is parsed is small -/
theorem ptierLoop_len : ∀ (f : Nat) (acc : List Tier) (s : St), (P.tierLoop npV f acc s).1.length + len (P.tierLoop npV f acc s).2 ≤ acc.length + len s
  | 0, acc, s => Nat.le_refl _
  | f + 1, acc, s => by
    rw [P.tierLoop]
    by_cases hc : (P.eat wUpto s).1 = true
    · rw [if_pos hc]
      simp only
      have h1 := len_eaten hc
      have h2 := len_number npV 0 1000000 (P.eat wUpto s).2
      have h3 := len_must [wRate] (P.number npV 0 1000000 (P.eat wUpto s).2).2
      have h4 := len_number npV 6 1000000000000 (P.must [wRate] (P.number npV 0 1000000 (P.eat wUpto s).2).2)
      have h5 := len_must [wSemi] (P.number npV 6 1000000000000 (P.must [wRate] (P.number npV 0 1000000 (P.eat wUpto s).2).2)).2
      have ih := ptierLoop_len f (acc ++ [⟨(P.number npV 0 1000000 (P.eat wUpto s).2).1, (P.number npV 6 1000000000000 (P.must [wRate] (P.number npV 0 1000000 (P.eat wUpto s).2).2)).1⟩]) (P.must [wSemi] (P.number npV 6 1000000000000 (P.must [wRate] (P.number npV 0 1000000 (P.eat wUpto s).2).2)).2)
      rw [List.length_append, List.length_singleton] at ih
      omega
    · rw [if_neg hc]
      have := len_eat wUpto s
      simp only
      omega
theorem ptiers_len (s : St) : (P.tiers npV s).1.length ≤ len s + 1 := by
  have h1 := len_must [wOpen] s
  have h2 := ptierLoop_len (P.must [wOpen] s).rest.length [] (P.must [wOpen] s)
  unfold P.tiers
  simp only [List.length_append, List.length_singleton]
  rw [List.length_nil] at h2
  omega
theorem padjLoop_len : ∀ (f : Nat) (acc : List Adj) (s : St), (P.adjLoop npV f acc s).1.length + len (P.adjLoop npV f acc s).2 ≤ acc.length + len s
  | 0, acc, s => Nat.le_refl _
  | f + 1, acc, s => by
    rw [P.adjLoop]
    by_cases hc : (P.adjust npV s).1.2 = false ∨ (P.adjust npV s).2.err ≠ 0
    · rw [if_pos hc]
      have := len_adjust npV s
      simp only
      omega
    · rw [if_neg hc]
      have h1 : (P.adjust npV s).1.2 = true := by
        cases h : (P.adjust npV s).1.2 with
        | true => rfl
        | false => exact absurd (.inl h) hc
      have h2 := adj_round npV h1
      have ih := padjLoop_len f (acc ++ [(P.adjust npV s).1.1]) (P.adjust npV s).2
      rw [List.length_append, List.length_singleton] at ih
      omega
theorem pcharge_small (l c : Int) (s : St) : (P.charge dp npV l c s).1.tiers.length ≤ len s + 1 ∧ (P.charge dp npV l c s).1.adjs.length ≤ len s + 1 := by
  have h1 := len_kind 1 s
  have h2 := len_window dp (P.kind 1 s).2
  have h3 := len_must [wOpen] (P.window dp (P.kind 1 s).2).2
  have h4 := len_opt npV wAllowance 0 (P.must [wOpen] (P.window dp (P.kind 1 s).2).2)
  have h5 := len_opt npV wBlock 1 (P.opt npV wAllowance 0 (P.must [wOpen] (P.window dp (P.kind 1 s).2).2)).2
  have h6 := len_ckind (P.opt npV wBlock 1 (P.opt npV wAllowance 0 (P.must [wOpen] (P.window dp (P.kind 1 s).2).2)).2).2
  unfold P.charge
  simp only
  generalize P.ckind (P.opt npV wBlock 1 (P.opt npV wAllowance 0 (P.must [wOpen] (P.window dp (P.kind 1 s).2).2)).2).2 = k at *
  have h7 := ptiers_len k.2
  have h8 := len_tiers npV k.2
  have h9 := len_must [wRound] (P.tiers npV k.2).2
  have h10 := len_mode (P.must [wRound] (P.tiers npV k.2).2)
  have h11 := len_must [wSemi] (P.mode (P.must [wRound] (P.tiers npV k.2).2)).2
  have h12 := padjLoop_len (P.must [wSemi] (P.mode (P.must [wRound] (P.tiers npV k.2).2)).2).rest.length [] (P.must [wSemi] (P.mode (P.must [wRound] (P.tiers npV k.2).2)).2)
  rw [List.length_nil] at h12
  omega
/-- what a parse keeps: so many items, and so many parts of each, at most -/
def Bd (n : Nat) (p : Plan) (s : St) : Prop := countP p + len s ≤ n ∧ ∀ c ∈ p.chgs, c.tiers.length ≤ n + 1 ∧ c.adjs.length ≤ n + 1
theorem pitem_bd {n : Nat} {p : Plan} {s : St} (h : Bd n p s) : Bd n (P.item dp npV p s).1 (P.item dp npV p s).2 := by
  refine ⟨Nat.le_trans (pitem_all p s).1 h.1, ?_⟩
  have h0 := len_one [wMeter, wFee, wCharge] 0 s
  unfold P.item
  simp only
  split
  · exact h.2
  · split
    · exact h.2
    · split
      · intro c hc
        rcases List.mem_append.1 hc with hc | hc
        · exact h.2 c hc
        · obtain rfl := List.mem_singleton.1 hc
          have h1 := pcharge_small (peek s).line (peek s).col (P.one [wMeter, wFee, wCharge] 0 s).2
          have h2 := h.1
          omega
      · exact h.2
theorem pitems_bd {n : Nat} : ∀ (f : Nat) (p : Plan) (s : St), Bd n p s → Bd n (P.items dp npV f p s).1 (P.items dp npV f p s).2
  | 0, p, s, h => h
  | f + 1, p, s, h => by
    rw [P.items]
    split
    · exact pitems_bd f _ _ (pitem_bd h)
    · exact h
theorem phead_len (ts : List Tok) : len (P.head dp ⟨ts, 0, 0, 0⟩).2 ≤ ts.length := by
  unfold P.head
  simp only
  have g1 := len_must [wPlan] ⟨ts, 0, 0, 0⟩
  have g2 := len_kind 1 (P.must [wPlan] ⟨ts, 0, 0, 0⟩)
  generalize P.kind 1 (P.must [wPlan] ⟨ts, 0, 0, 0⟩) = n at *
  have g3 := len_must [wCurrency] n.2
  have g4 := len_kind 1 (P.must [wCurrency] n.2)
  generalize P.kind 1 (P.must [wCurrency] n.2) = c at *
  have g5 := len_must [wSemi, wHorizon] c.2
  have g6 := len_day dp (P.must [wSemi, wHorizon] c.2)
  generalize P.day dp (P.must [wSemi, wHorizon] c.2) = f at *
  have g7 := len_day dp f.2
  generalize P.day dp f.2 = t at *
  have g8 := len_must [wSemi] t.2
  have g0 : len (⟨ts, 0, 0, 0⟩ : St) = ts.length := rfl
  omega
theorem noPlan_small : Small noPlan := ⟨by decide, by decide, by decide, fun c h => (by cases h), fun c h => (by cases h)⟩
theorem RParse_small (l : List UInt8) : Small (RParse l).1 := by
  obtain ⟨ts, er, a, b, hall⟩ : ∃ ts er a b, lexAll l = (ts, er, a, b) := ⟨_, _, _, _, rfl⟩
  by_cases her : er = 0
  · subst her
    by_cases h0 : (P.plan dp npV ts).2.err = 0
    · rw [PParse_ok hall h0]
      obtain ⟨_, _, hc⟩ := all_shape hall
      have hb : Bd 8193 (P.plan dp npV ts).1 (P.plan dp npV ts).2 := by
        unfold P.plan
        refine pitems_bd _ _ _ ⟨?_, fun c hc => by cases hc⟩
        have := phead_len ts
        show 0 + 0 + 0 + len (P.head dp ⟨ts, 0, 0, 0⟩).2 ≤ 8193
        omega
      have h1 := hb.1
      unfold countP at h1
      exact ⟨by show (P.plan dp npV ts).1.mets.length ≤ 10000; omega, by show (P.plan dp npV ts).1.fees.length ≤ 10000; omega, by show (P.plan dp npV ts).1.chgs.length ≤ 10000; omega, fun c hc => Nat.le_trans (hb.2 c hc).1 (by decide), fun c hc => Nat.le_trans (hb.2 c hc).2 (by decide)⟩
    · rw [PParse_bad hall h0]; exact noPlan_small
  · rw [RParse_lex hall her]; exact noPlan_small
end Go.Proofs.YtcgkfgklggjmaaaDoor.Par
end
section
namespace Go.Proofs.YtcgkfgklggjmaaaDoor.Par
set_option linter.unusedVariables false
set_option linter.unusedSimpArgs false
/-! the items of a text behind those of another one -/
theorem lex_live : ∀ (n : Nat) (l : List UInt8) (line col : Int) (ts : List Tok), l.length ≤ n → lexL l line col = .ok ts → ∃ us e, ts = us ++ [e] ∧ e.kind = 0 ∧ ∀ x ∈ us, x.kind ≠ 0 := by
  intro n
  induction n with
  | zero =>
    intro l line col ts hn h
    obtain rfl : l = [] := List.eq_nil_of_length_eq_zero (by omega)
    rw [lexL] at h
    injection h with h
    subst h
    exact ⟨[], _, rfl, rfl, fun x hx => by cases hx⟩
  | succ n ih =>
    intro l line col ts hn h
    cases l with
    | nil =>
      rw [lexL] at h
      injection h with h
      subst h
      exact ⟨[], _, rfl, rfl, fun x hx => by cases hx⟩
    | cons c cs =>
      rw [lexL] at h
      rw [List.length_cons] at hn
      split at h
      · exact ih _ _ _ _ (by rw [List.length_drop]; omega) h
      · split at h
        · exact ih _ _ _ _ (by omega) h
        · split at h
          · exact ih _ _ _ _ (by omega) h
          · split at h
            · cases h
            · rename_i hk
              cases hr : lexL (cs.drop (tokLen c cs)) line (col + 1 + tokLen c cs) with
              | error e => rw [hr] at h; cases h
              | ok ts' =>
                rw [hr] at h
                injection h with h
                subst h
                obtain ⟨us, e, rfl, he, hx⟩ := ih _ _ _ _ (by rw [List.length_drop]; omega) hr
                refine ⟨_ :: us, e, rfl, he, fun x hm => ?_⟩
                rcases List.mem_cons.1 hm with rfl | hm
                · exact hk
                · exact hx x hm
theorem als_self : ∀ (l : List Tok), (∀ x ∈ l, x.kind ≠ 0) → Als l l
  | [], _ => trivial
  | x :: l, h => ⟨⟨rfl, rfl, h x (by simp)⟩, als_self l fun y hy => h y (by simp [hy])⟩
theorem als_down (a b : Int) : ∀ (l : List Tok), (∀ x ∈ l, x.kind ≠ 0) → Als (l.map (downT a)) (l.map (downT b))
  | [], _ => trivial
  | x :: l, h => ⟨⟨rfl, rfl, h x (by simp)⟩, als_down a b l fun y hy => h y (by simp [hy])⟩
theorem rowT_strip (p : Plan) : rowT (strip p) = rowT p := by
  unfold rowT headT strip
  simp only [List.length_map, List.flatMap_map]
  rfl
theorem strip_none {p q : Plan} (h : strip p = strip q) (hm : q.mets = []) (hf : q.fees = []) (hc : q.chgs = []) : p.mets = [] ∧ p.fees = [] ∧ p.chgs = [] := by
  have h1 := congrArg Plan.mets h
  have h2 := congrArg Plan.fees h
  have h3 := congrArg Plan.chgs h
  simp only [strip, hm, hf, hc, List.map_nil, List.map_eq_nil_iff] at h1 h2 h3
  exact ⟨h1, h2, h3⟩
theorem adds_none (b : Plan) {p : Plan} (h : p.mets = [] ∧ p.fees = [] ∧ p.chgs = []) : adds b p = b := by
  unfold adds; rw [h.1, h.2.1, h.2.2, List.append_nil, List.append_nil, List.append_nil]
theorem small_strip {p q : Plan} (h : strip p = strip q) (hs : Small p) : Small q := by
  have h1 := congrArg (fun x => x.mets.length) h
  have h2 := congrArg (fun x => x.fees.length) h
  have h3 := congrArg (fun x => x.chgs.length) h
  have h4 := congrArg Plan.chgs h
  simp only [strip, List.length_map] at h1 h2 h3
  refine ⟨h1 ▸ hs.mets, h2 ▸ hs.fees, h3 ▸ hs.chgs, fun c hc => ?_, fun c hc => ?_⟩
  · have hm : sC c ∈ (strip p).chgs := by rw [h4]; exact List.mem_map_of_mem hc
    obtain ⟨d, hd, he⟩ := List.mem_map.1 hm
    have := congrArg Chg.tiers he
    simp only [sC] at this
    exact this ▸ hs.tiers d hd
  · have hm : sC c ∈ (strip p).chgs := by rw [h4]; exact List.mem_map_of_mem hc
    obtain ⟨d, hd, he⟩ := List.mem_map.1 hm
    have := congrArg Chg.adjs he
    simp only [sC] at this
    exact this ▸ hs.adjs d hd
/-- a text that is parsed, and another one behind it: its plan, and the items of the tokens behind -/
theorem join_items {us vs : List Tok} {e : Tok} (he : e.kind = 0) (hu : ∀ x ∈ us, x.kind ≠ 0) (h0 : (P.plan dp npV (us ++ [e])).2.err = 0) :
    ∃ q r, r.err = 0 ∧ r.rest = vs ∧ strip q = strip (P.plan dp npV (us ++ [e])).1 ∧ P.plan dp npV (us ++ vs) = P.itemsAll dp npV q r := by
  have h := plan_cut dp npV (T := ⟨true, e, vs⟩) ⟨he, fun c => by cases c⟩ (als_self us hu)
  rcases h with h | h | ⟨_, _, q, r, h1, h2, h3, h4⟩
  · exact absurd h0 h.bad
  · exact absurd h0 h.1
  · exact ⟨q, r, h1, h2, h3, h4⟩
theorem n_plan : P.plan dp npV (nUs ++ [⟨0, ⟨#[]⟩, 1, 50⟩]) = (nHead, ⟨[⟨0, ⟨#[]⟩, 1, 50⟩], 0, 0, 0⟩) := by kernel_rfl
theorem n_live : ∀ x ∈ nUs, x.kind ≠ 0 := by decide
theorem items_join {us ws : List Tok} {e z : Tok} (d d' : Int) (he : e.kind = 0) (hz : z.kind = 0) (hu : ∀ x ∈ us, x.kind ≠ 0) (hw : ∀ x ∈ ws, x.kind ≠ 0) (h0 : (P.plan dp npV (us ++ [e])).2.err = 0) :
    (P.plan dp npV (nUs ++ (ws ++ [z]).map (downT d))).2.err = (P.plan dp npV (us ++ (ws ++ [z]).map (downT d'))).2.err ∧
    ((P.plan dp npV (nUs ++ (ws ++ [z]).map (downT d))).2.err = 0 → strip (P.plan dp npV (us ++ (ws ++ [z]).map (downT d'))).1 = strip (adds (P.plan dp npV (us ++ [e])).1 (P.plan dp npV (nUs ++ (ws ++ [z]).map (downT d))).1)) := by
  obtain ⟨q1, r1, a1, a2, a3, a4⟩ := join_items (vs := (ws ++ [z]).map (downT d)) (e := ⟨0, ⟨#[]⟩, 1, 50⟩) rfl n_live (by rw [n_plan])
  obtain ⟨q2, r2, b1, b2, b3, b4⟩ := join_items (vs := (ws ++ [z]).map (downT d')) he hu h0
  rw [n_plan] at a3
  rw [a4, b4]
  have hl : Loc ⟨false, downT d z, [downT d' z]⟩ r1 r2 := ⟨a1, b1, _, _, by rw [a2, List.map_append]; rfl, by rw [b2, List.map_append]; rfl, als_down d d' ws hw⟩
  refine items_alike dp npV ⟨hz, fun _ => ⟨downT d' z, rfl, hz⟩⟩ rfl _ _ _ _ _ _ (Nat.le_refl _) hl ?_
  rw [b3, adds_none _ (strip_none a3 rfl rfl rfl)]
/-- what is said of a text without a fault -/
theorem RParse_zero {l : List UInt8} (h : (RParse l).2.1 = 0) : (RParse l).2.2.1 = 0 ∧ (RParse l).2.2.2 = 0 ∧ ∃ ts a b, lexAll l = (ts, 0, a, b) ∧ (P.plan dp npV ts).2.err = 0 ∧ (RParse l).1 = (P.plan dp npV ts).1 := by
  obtain ⟨ts, er, a, b, hall⟩ : ∃ ts er a b, lexAll l = (ts, er, a, b) := ⟨_, _, _, _, rfl⟩
  by_cases her : er = 0
  · subst her
    by_cases h0 : (P.plan dp npV ts).2.err = 0
    · rw [PParse_ok hall h0]
      exact ⟨rfl, rfl, ts, a, b, hall, h0, rfl⟩
    · rw [PParse_bad hall h0] at h; exact absurd h h0
  · rw [RParse_lex hall her] at h; exact absurd h her
theorem join_text {l m : List UInt8} {us : List Tok} {e : Tok} (ha : lexL l 1 1 = .ok (us ++ [e])) (hl : (l ++ 10 :: m).length ≤ 8192) :
    (∃ ts, lexL m 1 1 = .ok ts ∧ lexAll (l ++ 10 :: m) = (us ++ ts.map (downT e.line), 0, 0, 0)) ∨ (∃ p q, lexL m 1 1 = .error (p, q) ∧ lexAll (l ++ 10 :: m) = ([], 3, p + e.line, q)) := by
  have hj := all_join_ok (b := m) ha hl
  cases hm : lexL m 1 1 with
  | ok ts =>
    refine .inl ⟨ts, rfl, ?_⟩
    rw [hm] at hj
    unfold lexAll
    rw [if_neg (by omega), hj]
    rfl
  | error x =>
    refine .inr ⟨x.1, x.2, rfl, ?_⟩
    rw [hm] at hj
    unfold lexAll
    rw [if_neg (by omega), hj]
    rfl
theorem items_plain (a more : List UInt8) (ha : a.length ≤ 4096) (hm : more.length ≤ 2048) (h0 : (RParse a).2.1 = 0) :
    ((RParse (nPre ++ 10 :: more)).2.1 = (RParse (a ++ 10 :: more)).2.1) ∧
    ((RParse (nPre ++ 10 :: more)).2.1 = 0 → strip (RParse (a ++ 10 :: more)).1 = strip (adds (RParse a).1 (RParse (nPre ++ 10 :: more)).1)) := by
  obtain ⟨_, _, ts, p, q, hall, he0, hpl⟩ := RParse_zero h0
  rcases all_cases a (by omega) with ⟨us, e, h1, h2⟩ | ⟨_, _, _, h2⟩
  · rw [h2] at hall
    injection hall with hall _
    subst hall
    obtain ⟨us', e', h3, hek, hul⟩ := lex_live _ a 1 1 _ (Nat.le_refl _) h1
    obtain ⟨h4, h5⟩ := List.append_inj' h3 rfl
    obtain rfl := h4
    injection h5 with h5
    obtain rfl := h5
    have hn : nPre.length = 49 := rfl
    have l1 : (nPre ++ 10 :: more).length ≤ 8192 := by rw [List.length_append, List.length_cons]; omega
    have l2 : (a ++ 10 :: more).length ≤ 8192 := by rw [List.length_append, List.length_cons]; omega
    rcases join_text (m := more) n_pre l1 with ⟨vs, j1, j2⟩ | ⟨x, y, j1, j2⟩
    · rcases join_text (m := more) h1 l2 with ⟨vs', k1, k2⟩ | ⟨x, y, k1, k2⟩
      · rw [j1] at k1
        injection k1 with k1
        subst k1
        obtain ⟨ws, z, rfl, hz, hw⟩ := lex_live _ more 1 1 _ (Nat.le_refl _) j1
        have hj := items_join 1 e.line hek hz hul hw he0
        have j3 : lexAll (nPre ++ 10 :: more) = (nUs ++ (ws ++ [z]).map (downT 1), 0, 0, 0) := j2
        rw [hpl]
        clear j2
        generalize nUs ++ (ws ++ [z]).map (downT 1) = A at *
        generalize us ++ (ws ++ [z]).map (downT e.line) = B at *
        obtain ⟨hj1, hj2⟩ := hj
        by_cases h6 : (P.plan dp npV A).2.err = 0
        · have h7 : (P.plan dp npV B).2.err = 0 := hj1.symm.trans h6
          rw [PParse_ok j3 h6, PParse_ok k2 h7]
          exact ⟨rfl, fun _ => hj2 h6⟩
        · have h7 : (P.plan dp npV B).2.err ≠ 0 := fun c => h6 (hj1.trans c)
          rw [PParse_bad j3 h6, PParse_bad k2 h7]
          exact ⟨hj1, fun c => absurd c h6⟩
      · rw [j1] at k1; cases k1
    · rcases join_text (m := more) h1 l2 with ⟨vs', k1, k2⟩ | ⟨x', y', k1, k2⟩
      · rw [j1] at k1; cases k1
      · rw [RParse_lex j2 (by decide), RParse_lex k2 (by decide)]
        exact ⟨rfl, fun c => absurd (show (3 : Int) = 0 from c) (by decide)⟩
  · rw [h2] at hall
    injection hall with _ hall
    injection hall with hall _
    cases hall
end Go.Proofs.YtcgkfgklggjmaaaDoor.Par
end
section
namespace Go.Proofs.YtcgkfgklggjmaaaDoor
set_option linter.unusedVariables false
set_option linter.unusedSimpArgs false
/-! numbers of days: plain words -/
def lp (y : Int) : Int := if leapB y then 1 else 0
def dby (y : Int) : Int := 365 * (y - 1) + (y - 1) / 4 - (y - 1) / 100 + (y - 1) / 400
def cum (y m : Int) : Int :=
  if m ≤ 1 then 0 else if m = 2 then 31 else if m = 3 then 59 + lp y else if m = 4 then 90 + lp y else if m = 5 then 120 + lp y else if m = 6 then 151 + lp y
  else if m = 7 then 181 + lp y else if m = 8 then 212 + lp y else if m = 9 then 243 + lp y else if m = 10 then 273 + lp y else if m = 11 then 304 + lp y else if m = 12 then 334 + lp y else 365 + lp y
def numD (y m d : Int) : Int := dby y + cum y m + d - 1
theorem lp_01 (y : Int) : 0 ≤ lp y ∧ lp y ≤ 1 := by unfold lp; split <;> omega
theorem lp_is (y : Int) : (lp y = 1 ∧ y % 4 = 0 ∧ (y % 100 ≠ 0 ∨ y % 400 = 0)) ∨ (lp y = 0 ∧ (y % 4 ≠ 0 ∨ (y % 100 = 0 ∧ y % 400 ≠ 0))) := by
  unfold lp
  cases h : leapB y with
  | true =>
    left
    simp [leapB] at h
    refine ⟨by simp, h.1, h.2⟩
  | false =>
    right
    refine ⟨by simp, ?_⟩
    by_cases h4 : y % 4 = 0
    · right
      by_cases h1 : y % 100 = 0
      · by_cases h2 : y % 400 = 0
        · rw [leap_400 y h2] at h; cases h
        · exact ⟨h1, h2⟩
      · by_cases h2 : y % 400 = 0
        · rw [leap_400 y h2] at h; cases h
        · rw [leap_ref y h2 h1] at h; simp [h4] at h
    · exact .inl h4
theorem dby_succ (y : Int) : dby (y + 1) = dby y + 365 + lp y := by
  have h := lp_is y
  unfold dby
  rcases h with ⟨h0, h1, h2⟩ | ⟨h0, h1⟩ <;> rw [h0] <;> omega
theorem dby_mono (a b : Int) (h : a ≤ b) : dby a ≤ dby b := by unfold dby; omega
theorem dby_lt (a b : Int) (h : a < b) : dby a + 365 ≤ dby b := by
  have h1 := dby_succ a
  have h2 := dby_mono (a + 1) b (by omega)
  have h3 := lp_01 a
  omega
theorem dby_bd (y : Int) (h1 : 1 ≤ y) (h2 : y ≤ 10000) : 0 ≤ dby y ∧ dby y ≤ 3652059 := by unfold dby; omega
theorem dby_one : dby 1 = 0 := by decide
theorem dby_end : dby 10000 = 3652059 := by decide
theorem cum_succ (y m : Int) (h1 : 1 ≤ m) (h2 : m ≤ 12) : cum y (m + 1) = cum y m + daysI y m := by
  rcases (by omega : m = 1 ∨ m = 2 ∨ m = 3 ∨ m = 4 ∨ m = 5 ∨ m = 6 ∨ m = 7 ∨ m = 8 ∨ m = 9 ∨ m = 10 ∨ m = 11 ∨ m = 12) with rfl | rfl | rfl | rfl | rfl | rfl | rfl | rfl | rfl | rfl | rfl | rfl
  all_goals
    simp [cum, daysI, lp]
    try (split <;> omega)
theorem cum_one (y : Int) : cum y 1 = 0 := by simp [cum]
theorem cum_end (y : Int) : cum y 13 = 365 + lp y := by simp [cum]
theorem cum_bd (y m : Int) : 0 ≤ cum y m ∧ cum y m ≤ 366 := by
  have hl := lp_01 y
  unfold cum
  generalize lp y = l at *
  by_cases h1 : m ≤ 1
  · rw [if_pos h1]; omega
  rw [if_neg h1]
  by_cases h2 : m = 2
  · rw [if_pos h2]; omega
  rw [if_neg h2]
  by_cases h3 : m = 3
  · rw [if_pos h3]; omega
  rw [if_neg h3]
  by_cases h4 : m = 4
  · rw [if_pos h4]; omega
  rw [if_neg h4]
  by_cases h5 : m = 5
  · rw [if_pos h5]; omega
  rw [if_neg h5]
  by_cases h6 : m = 6
  · rw [if_pos h6]; omega
  rw [if_neg h6]
  by_cases h7 : m = 7
  · rw [if_pos h7]; omega
  rw [if_neg h7]
  by_cases h8 : m = 8
  · rw [if_pos h8]; omega
  rw [if_neg h8]
  by_cases h9 : m = 9
  · rw [if_pos h9]; omega
  rw [if_neg h9]
  by_cases h10 : m = 10
  · rw [if_pos h10]; omega
  rw [if_neg h10]
  by_cases h11 : m = 11
  · rw [if_pos h11]; omega
  rw [if_neg h11]
  by_cases h12 : m = 12
  · rw [if_pos h12]; omega
  rw [if_neg h12]; omega
theorem cum_step (y a : Int) (h0 : 1 ≤ a) : ∀ (k : Nat), a + k ≤ 13 → cum y a ≤ cum y (a + k)
  | 0, _ => by simp
  | k + 1, h => by
    have ih := cum_step y a h0 k (by omega)
    have h1 := cum_succ y (a + k) (by omega) (by omega)
    have h2 := days_bd y (a + k)
    rw [show a + ((k + 1 : Nat) : Int) = a + k + 1 from by omega]
    omega
theorem cum_mono (y a b : Int) (h0 : 1 ≤ a) (h : a ≤ b) (h2 : b ≤ 13) : cum y a ≤ cum y b := by
  have := cum_step y a h0 (b - a).toNat (by omega)
  rwa [show a + ((b - a).toNat : Int) = b from by omega] at this
theorem cum_lt (y a b : Int) (h0 : 1 ≤ a) (h : a < b) (h2 : b ≤ 13) : cum y a + daysI y a ≤ cum y b := by
  have h1 := cum_succ y a h0 (by omega)
  have h2 := cum_mono y (a + 1) b (by omega) (by omega) h2
  omega
theorem num_in_year {y m d : Int} (h : goodB y m d = true) : dby y ≤ numD y m d ∧ numD y m d < dby (y + 1) := by
  obtain ⟨h1, h2, h3, h4, h5, h6, _⟩ := good_of h
  have c1 := cum_bd y m
  have c2 := cum_succ y m h5 h6
  have c3 := cum_mono y (m + 1) 13 (by omega) (by omega) (by omega)
  have c4 := cum_end y
  have c5 := dby_succ y
  unfold numD
  omega
theorem num_bd {y m d : Int} (h : goodB y m d = true) : 0 ≤ numD y m d ∧ numD y m d < 3652059 := by
  have h1 := num_in_year h
  obtain ⟨h2, h3, _⟩ := good_of h
  have h4 := dby_bd y h2 (by omega)
  have h5 := dby_mono (y + 1) 10000 (by omega)
  rw [dby_end] at h5
  omega
/-- a later day has a greater number -/
theorem num_lt {y m d y' m' d' : Int} (h : goodB y m d = true) (h' : goodB y' m' d' = true) (hl : y < y' ∨ (y = y' ∧ (m < m' ∨ (m = m' ∧ d < d')))) : numD y m d < numD y' m' d' := by
  rcases hl with hl | ⟨rfl, hl⟩
  · have h1 := num_in_year h
    have h2 := num_in_year h'
    have h3 := dby_mono (y + 1) y' (by omega)
    omega
  · obtain ⟨a1, a2, a3, a4, a5, a6, _⟩ := good_of h
    obtain ⟨b1, b2, b3, b4, b5, b6, _⟩ := good_of h'
    rcases hl with hl | ⟨rfl, hl⟩
    · have := cum_lt y m m' a5 hl (by omega)
      unfold numD; omega
    · unfold numD; omega
theorem num_inj {y m d y' m' d' : Int} (h : goodB y m d = true) (h' : goodB y' m' d' = true) (he : numD y m d = numD y' m' d') : y = y' ∧ m = m' ∧ d = d' := by
  have h1 := fun hl => num_lt h h' hl
  have h2 := fun hl => num_lt h' h hl
  refine Classical.byContradiction fun hc => ?_
  rcases (by omega : (y < y' ∨ (y = y' ∧ (m < m' ∨ (m = m' ∧ d < d')))) ∨ (y' < y ∨ (y' = y ∧ (m' < m ∨ (m' = m ∧ d' < d))))) with hl | hl
  · have := h1 hl; omega
  · have := h2 hl; omega
end Go.Proofs.YtcgkfgklggjmaaaDoor
end
section
namespace Go.Proofs.YtcgkfgklggjmaaaDoor
set_option linter.unusedVariables false
set_option linter.unusedSimpArgs false
/-! a number of so many digits; a day's text -/
def digL (n : Nat) : Nat → List UInt8
  | 0 => []
  | k + 1 => digL (n / 10) k ++ [UInt8.ofNat (48 + n % 10)]
theorem digL_len : ∀ (k n : Nat), (digL n k).length = k
  | 0, _ => rfl
  | k + 1, n => by simp [digL, digL_len k]
theorem digL_zero : ∀ k, digL 0 k = List.replicate k 48
  | 0 => rfl
  | k + 1 => by
    rw [digL, Nat.zero_div, digL_zero k, List.replicate_succ']
    rfl
theorem pad_eq : ∀ (k n : Nat), n < 10 ^ k → 1 ≤ k → (Lib.decDigits n).length ≤ k ∧ List.replicate (k - (Lib.decDigits n).length) 48 ++ Lib.decDigits n = digL n k
  | 0, _, _, h => absurd h (by omega)
  | k + 1, n, h, _ => by
    by_cases h10 : n < 10
    · rw [Lib.decDigits_one h10, digL, Nat.div_eq_of_lt h10, digL_zero, Nat.mod_eq_of_lt h10]
      exact ⟨by simp, by simp⟩
    · have hk : 1 ≤ k := by
        cases k with
        | zero => simp at h; omega
        | succ k => omega
      obtain ⟨h1, h2⟩ := pad_eq k (n / 10) (by rw [Nat.pow_succ] at h; omega) hk
      rw [Lib.decDigits, dif_neg h10, digL, ← h2]
      refine ⟨by simp; exact h1, ?_⟩
      rw [List.length_append, List.length_singleton, show k + 1 - ((Lib.decDigits (n / 10)).length + 1) = k - (Lib.decDigits (n / 10)).length from by omega, List.append_assoc]
/-- a good day's text -/
def dayL (y m d : Int) : List UInt8 := digL y.toNat 4 ++ 45 :: (digL m.toNat 2 ++ 45 :: digL d.toNat 2)
def textL (y m d : Int) : List UInt8 := if goodB y m d then dayL y m d else []
theorem dayL_len (y m d : Int) : (dayL y m d).length = 10 := by simp [dayL, digL_len]
end Go.Proofs.YtcgkfgklggjmaaaDoor
end
section
namespace Go.Proofs.YtcgkfgklggjmaaaDoor.Par
set_option linter.unusedVariables false
set_option linter.unusedSimpArgs false
/-! a plan's plain text, as bytes -/
def modeL (m : Int) : List UInt8 := if m = 0 then [102, 108, 111, 111, 114] else if m = 1 then [99, 101, 105, 108] else if m = 2 then [104, 97, 108, 102, 117, 112] else if m = 3 then [104, 97, 108, 102, 101, 118, 101, 110] else []
def dayT (d : Day) : List UInt8 := textL d.1 d.2.1 d.2.2
def digT (n : Int) : List UInt8 := Lib.decDigits n.toNat
def winL (w : Win) : List UInt8 := if w.has = true then [32, 102, 114, 111, 109, 32] ++ dayT w.from_ ++ [32, 116, 111, 32] ++ dayT w.to_ else []
def metL (m : Met) : List UInt8 := [109, 101, 116, 101, 114, 32] ++ m.name.data.toList ++ [32, 117, 110, 105, 116, 32] ++ m.unit.data.toList ++ [32, 109, 97, 120, 32] ++ digT m.max ++ [59, 10]
def feeL (f : Fee) : List UInt8 := [102, 101, 101, 32] ++ digT f.amount ++ winL f.win ++ [59, 10]
def tierL (last : Bool) (t : Tier) : List UInt8 := (if last = true then [9, 9, 114, 101, 115, 116, 32, 114, 97, 116, 101, 32] else [9, 9, 117, 112, 116, 111, 32] ++ digT t.upto ++ [32, 114, 97, 116, 101, 32]) ++ Dec.textL t.rate 6 ++ [59, 10]
/-- the first k of n tiers -/
def tiersL (ts : List Tier) (k : Nat) : List UInt8 := ((List.range k).map fun i => match ts[i]? with | some t => tierL (decide (i + 1 = ts.length)) t | none => []).flatten
def adjL (a : Adj) : List UInt8 :=
  if a.kind = 1 then [9, 112, 101, 114, 99, 101, 110, 116, 32] ++ Dec.textL a.n 3 ++ 32 :: (modeL a.mode ++ [59, 10])
  else if a.kind = 2 then [9, 99, 97, 112, 32] ++ digT a.n ++ [59, 10]
  else if a.kind = 3 then [9, 109, 105, 110, 105, 109, 117, 109, 32] ++ digT a.n ++ [59, 10]
  else if a.kind = 4 then [9, 97, 100, 100, 32] ++ digT a.n ++ [59, 10] else []
def chg1L (c : Chg) : List UInt8 := [99, 104, 97, 114, 103, 101, 32] ++ c.meter.data.toList ++ winL c.win ++ [32, 123, 10]
def alwL (c : Chg) : List UInt8 := if c.allow ≠ 0 then [9, 97, 108, 108, 111, 119, 97, 110, 99, 101, 32] ++ digT c.allow ++ [59, 10] else []
def blkL (c : Chg) : List UInt8 := if c.block ≠ 1 then [9, 98, 108, 111, 99, 107, 32] ++ digT c.block ++ [59, 10] else []
def kindL (c : Chg) : List UInt8 := if c.kind = 2 then [9, 118, 111, 108, 117, 109, 101, 32, 123, 10] else [9, 103, 114, 97, 100, 117, 97, 116, 101, 100, 32, 123, 10]
def rndL (c : Chg) : List UInt8 := [9, 125, 10, 9, 114, 111, 117, 110, 100, 32] ++ modeL c.mode ++ [59, 10]
def chgL (c : Chg) : List UInt8 := chg1L c ++ alwL c ++ blkL c ++ kindL c ++ tiersL c.tiers c.tiers.length ++ rndL c ++ c.adjs.flatMap adjL ++ [125, 10]
def headL (p : Plan) : List UInt8 := [112, 108, 97, 110, 32] ++ p.name.data.toList ++ [32, 99, 117, 114, 114, 101, 110, 99, 121, 32] ++ p.cur.data.toList ++ [59, 10, 104, 111, 114, 105, 122, 111, 110, 32] ++ dayT p.from_ ++ 32 :: (dayT p.to_ ++ [59, 10])
def planL (p : Plan) : List UInt8 := headL p ++ p.mets.flatMap metL ++ p.fees.flatMap feeL ++ p.chgs.flatMap chgL
theorem tiersL_succ {ts : List Tier} {k : Nat} {t : Tier} (h : ts[k]? = some t) : tiersL ts (k + 1) = tiersL ts k ++ tierL (decide (k + 1 = ts.length)) t := by
  unfold tiersL
  rw [List.range_succ, List.map_append, List.flatten_append]
  simp [h]
theorem flat_next {α : Type} (f : α → List UInt8) {l : List α} {k : Nat} {a : α} (h : l[k]? = some a) : (l.take (k + 1)).flatMap f = (l.take k).flatMap f ++ f a := by
  rw [List.take_add_one, List.flatMap_append, h]
  simp
/-- what the numbers of a plan are, so that its text can be told -/
structure NumP (p : Plan) : Prop where
  mets : ∀ m ∈ p.mets, 0 ≤ m.max ∧ m.max ≤ 2000
  fees : ∀ f ∈ p.fees, 0 ≤ f.amount ∧ f.amount ≤ 1000000000000
  chgs : ∀ c ∈ p.chgs, (0 ≤ c.allow ∧ c.allow ≤ 1000000) ∧ (0 ≤ c.block ∧ c.block ≤ 1000000) ∧ (∀ t ∈ c.tiers, (0 ≤ t.upto ∧ t.upto ≤ 1000000) ∧ (0 ≤ t.rate ∧ t.rate ≤ 1000000000000)) ∧ (∀ a ∈ c.adjs, 0 ≤ a.n ∧ a.n ≤ 1000000000000)
end Go.Proofs.YtcgkfgklggjmaaaDoor.Par
end
section
namespace Go.Proofs.YtcgkfgklggjmaaaDoor
set_option linter.unusedVariables false
set_option linter.unusedSimpArgs false
open Go.RowKit
theorem lexL_note (cs : List UInt8) (line col : Int) : lexL (35 :: cs) line col = lexL (cs.drop (noteLen cs)) line (col + 1 + noteLen cs) := by rw [lexL, if_pos rfl]
theorem lexL_nl (cs : List UInt8) (line col : Int) : lexL (10 :: cs) line col = lexL cs (line + 1) 1 := by rw [lexL, if_neg (by decide), if_pos rfl]
theorem lexL_bl (c : UInt8) (cs : List UInt8) (line col : Int) (h : c = 32 ∨ c = 9 ∨ c = 13) : lexL (c :: cs) line col = lexL cs line (col + 1) := by
  have h1 : c ≠ 35 := by rcases h with rfl | rfl | rfl <;> decide
  have h2 : c ≠ 10 := by rcases h with rfl | rfl | rfl <;> decide
  rw [lexL, if_neg h1, if_neg h2, if_pos h]
theorem lexL_tok (c : UInt8) (cs : List UInt8) (line col : Int) (h1 : c ≠ 35) (h2 : c ≠ 10) (h3 : ¬ (c = 32 ∨ c = 9 ∨ c = 13)) :
    lexL (c :: cs) line col = if kindOf (c :: cs.take (tokLen c cs)) = 0 then .error (line, col) else consR ⟨kindOf (c :: cs.take (tokLen c cs)), ⟨(c :: cs.take (tokLen c cs)).toArray⟩, line, col⟩ (lexL (cs.drop (tokLen c cs)) line (col + 1 + tokLen c cs)) := by
  rw [lexL, if_neg h1, if_neg h2, if_neg h3]
theorem noteLen_step (s : ByteArray) (k : Nat) (h : k < s.size) (hc : s[k] ≠ 10) : noteLen (s.data.toList.drop k) = 1 + noteLen (s.data.toList.drop (k + 1)) := by
  rw [drop_at s k h, noteLen, List.takeWhile_cons, if_pos (by simpa using hc)]; simp [noteLen]; omega
theorem noteLen_stop (s : ByteArray) (k : Nat) (h : k < s.size) (hc : s[k] = 10) : noteLen (s.data.toList.drop k) = 0 := by
  rw [drop_at s k h, noteLen, List.takeWhile_cons, if_neg (by simp [hc])]; rfl
def lexRR (v : Value) (er l c : Int) : Value := .tuple #[v, .int .i64 er, .int .i64 l, .int .i64 c]
theorem rtokInfo : (Tryd.prog.info? 61).map (fun i => (i.zero, i.size, i.bytes)) = some (some (.agg #[.int .i64 0, .string ⟨#[]⟩, .int .i64 0, .int .i64 0]), 4, 40) := by kernel_rfl
theorem results_tmp4 {fn : Func} {t u v x : Tmp} (h : fn.results = #[.tmp t, .tmp u, .tmp v, .tmp x]) (tmps : Array Value) (P : Program) (w : World) :
    (results fn tmps).run P w = .ok (.tuple #[tmps.getD t undef, tmps.getD u undef, tmps.getD v undef, tmps.getD x undef]) w := by simp [results, h]
set_option maxHeartbeats 4000000 in
set_option maxRecDepth 100000 in
theorem rlex_any (s : ByteArray) (w : World) (hs : s.size ≤ 9223372036854775807) :
    Calls Tryd.prog 21 #[.string s] w (LexOut 61 s w lexRR) := by
  have hlen : s.data.toList.length = s.size := by simp
  have HLEN := Lib.hid hlen
  clear hlen
  by_cases hbig : 8192 < s.size
  · have HA : Hid (lexAll s.data.toList = ([], 6, 1, 1)) := by
      show _ = _
      rw [lexAll, if_pos (by rw [HLEN.out]; exact hbig)]
    go_enter Tryd.func21, Tryd.ntmps21
    go_wp2
    refine bodyPost_ret (results_tmp4 rfl _ _ _) rfl ?_
    exact ⟨.slice none 0 0, [], 6, 1, 1, rfl, World.ownsRow_nil _ _ _ _, bl_refl _, HA.out⟩
  · obtain ⟨i0, hi0, hz0, hz1, hz2⟩ := info_parts rtokInfo
    go_enter Tryd.func21, Tryd.ntmps21
    go_wp2_with fail
    go_loopw [6, 7, 8, 9] (fun v6 v7 v8 v9 wr => ∃ (ts : List Tok) (a : Nat) (line col : Int), a ≤ s.size ∧ 0 ≤ line ∧ line ≤ a + 1 ∧ 0 ≤ col ∧ col ≤ a + 1 ∧ v7 = .int .i64 line ∧ v8 = .int .i64 col ∧ v9 = .int .i64 a ∧
      wr.ownsRow w.heap.size 61 4 v6 ts.length (toksCells ts) ∧ ts.length ≤ a ∧ Below w.heap.size w wr ∧ Hid (LexIn s.data.toList ts a line col)) (fun _ _ _ v9 _ => s.size - (intOf v9).toNat)
    case atStart => exact ⟨[], 0, 1, 1, by omega, by omega, by omega, by omega, by omega, rfl, rfl, rfl, World.ownsRow_nil _ _ _ _, Nat.le_refl _, bl_refl _, by simp [Hid, LexIn, preR_nil]⟩
    case round =>
      obtain ⟨ts, a, line, col, ha, l1, l2, c1, c2, rfl, rfl, rfl, hown, hts, hbw, HI⟩ := hrel
      have hlw := hbw.size
      by_cases hend : s.size ≤ a
      · obtain rfl : a = s.size := by omega
        have HR : Hid (lexAll s.data.toList = (ts ++ [⟨0, ⟨#[]⟩, line, col⟩], 0, 0, 0)) := by
          have h := HI.out
          unfold LexIn at h
          rw [drop_end, lexL] at h
          show _ = _
          rw [lexAll, if_neg (by rw [HLEN.out]; exact hbig), h]; rfl
        clear HI
        go_wp2_with (at_builtin; refine wpList_append_own _ rfl _ _ 57 rfl w.heap.size 61 i0 _ 4 40 Tryd.underlying57 hi0 hz0 hz1 hz2 rfl (by decide) _ _ _ rfl (hown.alloc _) ⟨wr.heap.size, 0, none⟩ 1 1 [.int .i64 0, .string ⟨#[]⟩, .int .i64 line, .int .i64 col] rfl rfl (World.news_of_block (cs := #[.int .i64 0, .string ⟨#[]⟩, .int .i64 line, .int .i64 col]) (t := 61) (fr := (0, 0)) (heap_alloc_new _ _)) (by simp [Value.oneCell']) (by unfold maxLen; omega) (by omega) (by simp; omega) ?_; intro v1 w1 hown1 hgrow1 hnil1)
        refine bodyPost_ret (results_tmp4 rfl _ _ _) rfl ?_
        refine ⟨v1, ts ++ [⟨0, ⟨#[]⟩, line, col⟩], 0, 0, 0, rfl, ?_, ?_, HR.out⟩
        · rw [toks_snoc, List.length_append]
          exact hown1
        · exact bl_grown (bl_alloc hbw _) hgrow1 (fun k hk => (hown.lt _ hk).1)
      · have hlt : a < s.size := by omega
        have hdr := drop_at s a hlt
        have HD := Lib.hid hdr
        have hcl := (s[a]'hlt).toNat_lt
        clear hdr
        by_cases h35 : s[a]'hlt = 35
        · have hb : (((s[a]'hlt).toNat : Int) == 35) = true := by rw [h35]; rfl
          have hb10 : (((s[a]'hlt).toNat : Int) == 10) = false := by rw [h35]; rfl
          have HST : ∀ k : Nat, k = a + 1 + noteLen (s.data.toList.drop (a + 1)) → LexIn s.data.toList ts k line (col + k - a) := fun k hk => by
            have h := HI.out
            unfold LexIn at h ⊢
            rw [HD.out, h35, lexL_note, List.drop_drop] at h
            rw [h, ← hk, show col + 1 + (noteLen (s.data.toList.drop (a + 1)) : Int) = col + k - a from by omega]
          have HSTH := Lib.hid HST
          clear HST h35 HI HD
          go_wp2_with fail
          obtain ⟨wo, rfl⟩ : ∃ wo : World, wo = wr := ⟨_, rfl⟩
          go_loop [11] (fun v => ∃ k : Nat, a + 1 ≤ k ∧ k ≤ s.size ∧ v = .int .i64 k ∧ Hid (k + noteLen (s.data.toList.drop k) = a + 1 + noteLen (s.data.toList.drop (a + 1)))) (fun v => s.size - (intOf v).toNat)
          case atStart => exact ⟨a + 1, by omega, by omega, by go_num, rfl⟩
          case round =>
            obtain ⟨k, hk1, hk2, rfl, HN⟩ := hrel
            by_cases hklt : k < s.size
            · have hckl := (s[k]'hklt).toNat_lt
              by_cases h10 : s[k]'hklt = 10
              · have hbk : (((s[k]'hklt).toNat : Int) != 10) = false := by rw [h10]; rfl
                have HF := Lib.hid (HSTH.out k (by rw [← HN.out, noteLen_stop s k hklt h10, Nat.add_zero]))
                clear h10
                go_wp2
                go_roundw
                case rel => exact ⟨ts, k, line, col + k - a, by omega, l1, by omega, by omega, by omega, rfl, rfl, rfl, hown, by omega, hbw, HF⟩
                case measure => simp [intOf]; omega
              · have hbk : (((s[k]'hklt).toNat : Int) != 10) = true := by simp [bne, u8_nb (d := 10) (n := 10) rfl h10]
                have HX : Hid (k + 1 + noteLen (s.data.toList.drop (k + 1)) = a + 1 + noteLen (s.data.toList.drop (a + 1))) := by
                  show _ = _
                  rw [← HN.out, noteLen_step s k hklt h10]; omega
                clear h10
                go_wp2
                go_round
                case rel => exact ⟨k + 1, by omega, by omega, by go_num, HX⟩
                case measure => simp [intOf]; omega
            · obtain rfl : k = s.size := by omega
              have HF := Lib.hid (HSTH.out s.size (by rw [← HN.out, drop_end]; rfl))
              go_wp2
              go_roundw
              case rel => exact ⟨ts, s.size, line, col + s.size - a, by omega, l1, by omega, by omega, by omega, rfl, rfl, rfl, hown, by omega, hbw, HF⟩
              case measure => simp [intOf]; omega
        · have hb : (((s[a]'hlt).toNat : Int) == 35) = false := u8_nb rfl h35
          by_cases h : s[a]'hlt = 32
          · have HF : Hid (LexIn s.data.toList ts (a + 1) line (col + 1)) := by
              have hh := HI.out
              show LexIn _ _ _ _ _
              unfold LexIn at hh ⊢
              rw [HD.out, h, lexL_bl _ _ _ _ (by decide)] at hh
              exact hh
            have g0 : (((s[a]'hlt).toNat : Int) != 32) = false := by rw [h]; rfl
            have gn : (((s[a]'hlt).toNat : Int) == 10) = false := by rw [h]; rfl
            clear h h35 HI HD
            go_wp2
            go_roundw
            case rel => exact ⟨ts, a + 1, line, col + 1, by omega, by omega, by omega, by omega, by omega, rfl, by go_num, by go_num, hown, by omega, hbw, HF⟩
            case measure => simp [intOf]; omega
          have n32 := h
          have g0 : (((s[a]'hlt).toNat : Int) != 32) = true := by simp [bne, u8_nb (d := 32) (n := 32) rfl h]
          clear h
          by_cases h : s[a]'hlt = 9
          · have HF : Hid (LexIn s.data.toList ts (a + 1) line (col + 1)) := by
              have hh := HI.out
              show LexIn _ _ _ _ _
              unfold LexIn at hh ⊢
              rw [HD.out, h, lexL_bl _ _ _ _ (by decide)] at hh
              exact hh
            have g0 : (((s[a]'hlt).toNat : Int) != 32) = true := by rw [h]; rfl
            have g1 : (((s[a]'hlt).toNat : Int) != 9) = false := by rw [h]; rfl
            have gn : (((s[a]'hlt).toNat : Int) == 10) = false := by rw [h]; rfl
            clear h h35 HI HD
            go_wp2
            go_roundw
            case rel => exact ⟨ts, a + 1, line, col + 1, by omega, by omega, by omega, by omega, by omega, rfl, by go_num, by go_num, hown, by omega, hbw, HF⟩
            case measure => simp [intOf]; omega
          have n9 := h
          have g1 : (((s[a]'hlt).toNat : Int) != 9) = true := by simp [bne, u8_nb (d := 9) (n := 9) rfl h]
          clear h
          by_cases h : s[a]'hlt = 10
          · have HF : Hid (LexIn s.data.toList ts (a + 1) (line + 1) 1) := by
              have hh := HI.out
              show LexIn _ _ _ _ _
              unfold LexIn at hh ⊢
              rw [HD.out, h, lexL_nl] at hh
              exact hh
            have g0 : (((s[a]'hlt).toNat : Int) != 32) = true := by rw [h]; rfl
            have g1 : (((s[a]'hlt).toNat : Int) != 9) = true := by rw [h]; rfl
            have g2 : (((s[a]'hlt).toNat : Int) != 10) = false := by rw [h]; rfl
            have gn : (((s[a]'hlt).toNat : Int) == 10) = true := by rw [h]; rfl
            clear h h35 HI HD
            go_wp2
            go_roundw
            case rel => exact ⟨ts, a + 1, line + 1, 1, by omega, by omega, by omega, by omega, by omega, rfl, rfl, by go_num, hown, by omega, hbw, HF⟩
            case measure => simp [intOf]; omega
          have n10 := h
          have g2 : (((s[a]'hlt).toNat : Int) != 10) = true := by simp [bne, u8_nb (d := 10) (n := 10) rfl h]
          clear h
          by_cases h : s[a]'hlt = 13
          · have HF : Hid (LexIn s.data.toList ts (a + 1) line (col + 1)) := by
              have hh := HI.out
              show LexIn _ _ _ _ _
              unfold LexIn at hh ⊢
              rw [HD.out, h, lexL_bl _ _ _ _ (by decide)] at hh
              exact hh
            have g0 : (((s[a]'hlt).toNat : Int) != 32) = true := by rw [h]; rfl
            have g1 : (((s[a]'hlt).toNat : Int) != 9) = true := by rw [h]; rfl
            have g2 : (((s[a]'hlt).toNat : Int) != 10) = true := by rw [h]; rfl
            have g3 : (((s[a]'hlt).toNat : Int) != 13) = false := by rw [h]; rfl
            have gn : (((s[a]'hlt).toNat : Int) == 10) = false := by rw [h]; rfl
            clear h h35 HI HD
            go_wp2
            go_roundw
            case rel => exact ⟨ts, a + 1, line, col + 1, by omega, by omega, by omega, by omega, by omega, rfl, by go_num, by go_num, hown, by omega, hbw, HF⟩
            case measure => simp [intOf]; omega
          have n13 := h
          have g3 : (((s[a]'hlt).toNat : Int) != 13) = true := by simp [bne, u8_nb (d := 13) (n := 13) rfl h]
          clear h
          have gn : (((s[a]'hlt).toNat : Int) == 10) = false := u8_nb rfl n10
          have n3 : ¬ (s[a]'hlt = 32 ∨ s[a]'hlt = 9 ∨ s[a]'hlt = 13) := fun h => by rcases h with h | h | h <;> simp_all
          have hst := lexL_tok (s[a]'hlt) (s.data.toList.drop (a + 1)) line col h35 n10 n3
          have hI := HI.out
          unfold LexIn at hI
          rw [HD.out, hst] at hI
          have HII := Lib.hid hI
          have htl := tokLen_le (s[a]'hlt) (s.data.toList.drop (a + 1))
          have hbnd : a + 1 + tokLen (s[a]'hlt) (s.data.toList.drop (a + 1)) ≤ s.size := by
            have := HLEN.out
            rw [List.length_drop] at htl; omega
          have hexl : (s.extract a (a + 1 + tokLen (s[a]'hlt) (s.data.toList.drop (a + 1)))).data.toList = s[a]'hlt :: (s.data.toList.drop (a + 1)).take (tokLen (s[a]'hlt) (s.data.toList.drop (a + 1))) := by
            rw [Lib.extract_data, HD.out, show a + 1 + tokLen (s[a]'hlt) (s.data.toList.drop (a + 1)) - a = tokLen (s[a]'hlt) (s.data.toList.drop (a + 1)) + 1 from by omega, List.take_succ_cons]
          have hex2 : (⟨(s[a]'hlt :: (s.data.toList.drop (a + 1)).take (tokLen (s[a]'hlt) (s.data.toList.drop (a + 1)))).toArray⟩ : ByteArray) = s.extract a (a + 1 + tokLen (s[a]'hlt) (s.data.toList.drop (a + 1))) := by rw [← hexl]
          rw [hex2] at HII
          have HEXL := Lib.hid hexl
          generalize htll : s[a]'hlt :: (s.data.toList.drop (a + 1)).take (tokLen (s[a]'hlt) (s.data.toList.drop (a + 1))) = tl at *
          have htk : ∀ l, tokLen (s[a]'hlt) l = if isLet (s[a]'hlt) then runLen l else 0 := fun l => rfl
          have HTK := Lib.hid htk
          generalize hn : tokLen (s[a]'hlt) (s.data.toList.drop (a + 1)) = n at *
          rw [List.drop_drop] at HII
          clear hst hI HI HD h35 n32 n9 n10 n13 n3 htl hexl hex2 htll htk
          have HNN := Lib.hid hn
          clear hn
          go_wp2_with fail
          obtain ⟨wo, rfl⟩ : ∃ wo : World, wo = wr := ⟨_, rfl⟩
          go_loop [11] (fun v => ∃ k : Nat, a + 1 ≤ k ∧ k ≤ s.size ∧ v = .int .i64 k ∧ Hid (k + tokLen (s[a]'hlt) (s.data.toList.drop k) = a + 1 + n)) (fun v => s.size - (intOf v).toNat)
          case atStart => exact ⟨a + 1, by omega, by omega, by go_num, by show _ = _; rw [HNN.out]⟩
          case round =>
            obtain ⟨k, hk1, hk2, rfl, HN⟩ := hrel
            cases hi : isLet (s[a]'hlt) with
            | false =>
              have HNK : Hid (k = a + 1 + n) := by
                have h := HN.out
                rw [HTK.out, hi] at h
                show _ = _
                simpa using h
              have hnk := HNK.out
              obtain rfl : n = k - (a + 1) := by omega
              have hex : a + 1 + (k - (a + 1)) = k := by omega
              rw [hex] at HII HEXL
              clear HN HNN hex HNK hnk
              have hszk : (s.extract a k).size ≤ 9223372036854775807 := Nat.le_trans (show (s.extract a k).size ≤ 8192 by rw [ByteArray.size_extract]; omega) (by decide)
              by_cases hkz : kindOf tl = 0
              · have HR : Hid (lexAll s.data.toList = ([], 3, line, col)) := by
                  have h := HII.out
                  rw [if_pos hkz] at h
                  show _ = _
                  rw [lexAll, if_neg (by rw [HLEN.out]; exact hbig), h]; rfl
                have HOF := Lib.hid (rOf5_any (s.extract a k))
                rw [HEXL.out, hkz] at HOF
                clear hkz HII HEXL
                go_wp2_with (first | (go_at_call 56; refine (rletter_any _ _).mono ?_; rintro e w' ⟨rfl, rfl⟩) | (go_at_call 57; refine (HOF.out _ hszk).mono ?_; rintro e w2 ⟨rfl, hb2⟩))
                refine bodyPost_ret (results_tmp4 rfl _ _ _) rfl ?_
                exact ⟨.slice none 0 0, [], 3, line, col, rfl, World.ownsRow_nil _ _ _ _, bl_call hbw hb2, HR.out⟩
              · have HS2 : Hid (LexIn s.data.toList (ts ++ [⟨kindOf tl, s.extract a k, line, col⟩]) k line (col + k - a)) := by
                  have h := HII.out
                  rw [if_neg hkz] at h
                  show LexIn _ _ _ _ _
                  unfold LexIn
                  rw [h, preR_snoc, show col + 1 + ((k - (a + 1) : Nat) : Int) = col + k - a from by omega]
                have hk0 : (kindOf tl == 0) = false := beq_eq_false_iff_ne.2 hkz
                have HOF := Lib.hid (rOf5_any (s.extract a k))
                rw [HEXL.out] at HOF
                clear hkz HII HEXL
                generalize hkk : kindOf tl = kd at *
                clear hkk
                go_wp2_with (first | (go_at_call 56; refine (rletter_any _ _).mono ?_; rintro e w' ⟨rfl, rfl⟩) | (go_at_call 57; refine (HOF.out _ hszk).mono ?_; rintro e w2 ⟨rfl, hb2⟩; (have hown2 := ownsRow_below hown hb2); (have hbw2 := bl_call hbw hb2); (have hlw2 := hbw2.size)) | (at_builtin; refine wpList_append_own _ rfl _ _ 57 rfl w.heap.size 61 i0 _ 4 40 Tryd.underlying57 hi0 hz0 hz1 hz2 rfl (by decide) _ _ _ rfl (hown2.alloc _) ⟨w2.heap.size, 0, none⟩ 1 1 [.int .i64 kd, .string (s.extract a k), .int .i64 line, .int .i64 col] rfl rfl (World.news_of_block (cs := #[.int .i64 kd, .string (s.extract a k), .int .i64 line, .int .i64 col]) (t := 61) (fr := (0, 0)) (heap_alloc_new _ _)) (by simp [Value.oneCell']) (by unfold maxLen; omega) (by omega) (by simp; omega) ?_; intro v1 w3 hown3 hgrow3 hnil3))
                go_roundw
                case rel =>
                  refine ⟨ts ++ [⟨kd, s.extract a k, line, col⟩], k, line, col + k - a, hk2, l1, by omega, by omega, by omega, rfl, rfl, rfl, ?_, by simp; omega, ?_, HS2⟩
                  · rw [toks_snoc, List.length_append]; exact hown3
                  · exact bl_grown (bl_alloc hbw2 _) hgrow3 (fun k hk => (hown2.lt _ hk).1)
                case measure => simp [intOf]; omega
            | true =>
              by_cases hklt : k < s.size
              · cases hik : isLet (s[k]'hklt) with
                | true =>
                  have HX : Hid (k + 1 + tokLen (s[a]'hlt) (s.data.toList.drop (k + 1)) = a + 1 + n) := by
                    have h := HN.out
                    rw [HTK.out, hi, if_pos rfl, runLen_step s k hklt hik] at h
                    show _ = _
                    rw [HTK.out, hi, if_pos rfl]; omega
                  go_wp2_with (go_at_call 56; refine (rletter_any _ _).mono ?_; rintro e w' ⟨rfl, rfl⟩)
                  go_round
                  case rel => exact ⟨k + 1, by omega, by omega, by go_num, HX⟩
                  case measure => simp [intOf]; omega
                | false =>
                  have HNK : Hid (k = a + 1 + n) := by
                    have h := HN.out
                    rw [HTK.out, hi, if_pos rfl, runLen_stop s k hklt hik] at h
                    exact h
                  have hnk := HNK.out
                  obtain rfl : n = k - (a + 1) := by omega
                  have hex : a + 1 + (k - (a + 1)) = k := by omega
                  rw [hex] at HII HEXL
                  clear HN HNN hex HNK hnk
                  have hszk : (s.extract a k).size ≤ 9223372036854775807 := Nat.le_trans (show (s.extract a k).size ≤ 8192 by rw [ByteArray.size_extract]; omega) (by decide)
                  by_cases hkz : kindOf tl = 0
                  · have HR : Hid (lexAll s.data.toList = ([], 3, line, col)) := by
                      have h := HII.out
                      rw [if_pos hkz] at h
                      show _ = _
                      rw [lexAll, if_neg (by rw [HLEN.out]; exact hbig), h]; rfl
                    have HOF := Lib.hid (rOf5_any (s.extract a k))
                    rw [HEXL.out, hkz] at HOF
                    clear hkz HII HEXL
                    go_wp2_with (first | (go_at_call 56; refine (rletter_any _ _).mono ?_; rintro e w' ⟨rfl, rfl⟩) | (go_at_call 57; refine (HOF.out _ hszk).mono ?_; rintro e w2 ⟨rfl, hb2⟩))
                    refine bodyPost_ret (results_tmp4 rfl _ _ _) rfl ?_
                    exact ⟨.slice none 0 0, [], 3, line, col, rfl, World.ownsRow_nil _ _ _ _, bl_call hbw hb2, HR.out⟩
                  · have HS2 : Hid (LexIn s.data.toList (ts ++ [⟨kindOf tl, s.extract a k, line, col⟩]) k line (col + k - a)) := by
                      have h := HII.out
                      rw [if_neg hkz] at h
                      show LexIn _ _ _ _ _
                      unfold LexIn
                      rw [h, preR_snoc, show col + 1 + ((k - (a + 1) : Nat) : Int) = col + k - a from by omega]
                    have hk0 : (kindOf tl == 0) = false := beq_eq_false_iff_ne.2 hkz
                    have HOF := Lib.hid (rOf5_any (s.extract a k))
                    rw [HEXL.out] at HOF
                    clear hkz HII HEXL
                    generalize hkk : kindOf tl = kd at *
                    clear hkk
                    go_wp2_with (first | (go_at_call 56; refine (rletter_any _ _).mono ?_; rintro e w' ⟨rfl, rfl⟩) | (go_at_call 57; refine (HOF.out _ hszk).mono ?_; rintro e w2 ⟨rfl, hb2⟩; (have hown2 := ownsRow_below hown hb2); (have hbw2 := bl_call hbw hb2); (have hlw2 := hbw2.size)) | (at_builtin; refine wpList_append_own _ rfl _ _ 57 rfl w.heap.size 61 i0 _ 4 40 Tryd.underlying57 hi0 hz0 hz1 hz2 rfl (by decide) _ _ _ rfl (hown2.alloc _) ⟨w2.heap.size, 0, none⟩ 1 1 [.int .i64 kd, .string (s.extract a k), .int .i64 line, .int .i64 col] rfl rfl (World.news_of_block (cs := #[.int .i64 kd, .string (s.extract a k), .int .i64 line, .int .i64 col]) (t := 61) (fr := (0, 0)) (heap_alloc_new _ _)) (by simp [Value.oneCell']) (by unfold maxLen; omega) (by omega) (by simp; omega) ?_; intro v1 w3 hown3 hgrow3 hnil3))
                    go_roundw
                    case rel =>
                      refine ⟨ts ++ [⟨kd, s.extract a k, line, col⟩], k, line, col + k - a, hk2, l1, by omega, by omega, by omega, rfl, rfl, rfl, ?_, by simp; omega, ?_, HS2⟩
                      · rw [toks_snoc, List.length_append]; exact hown3
                      · exact bl_grown (bl_alloc hbw2 _) hgrow3 (fun k hk => (hown2.lt _ hk).1)
                    case measure => simp [intOf]; omega
              · have HNK : Hid (k = a + 1 + n) := by
                  obtain rfl : k = s.size := by omega
                  have h := HN.out
                  rw [HTK.out, hi, if_pos rfl, drop_end] at h
                  exact h
                have hnk := HNK.out
                obtain rfl : n = k - (a + 1) := by omega
                have hex : a + 1 + (k - (a + 1)) = k := by omega
                rw [hex] at HII HEXL
                clear HN HNN hex HNK hnk
                have hszk : (s.extract a k).size ≤ 9223372036854775807 := Nat.le_trans (show (s.extract a k).size ≤ 8192 by rw [ByteArray.size_extract]; omega) (by decide)
                by_cases hkz : kindOf tl = 0
                · have HR : Hid (lexAll s.data.toList = ([], 3, line, col)) := by
                    have h := HII.out
                    rw [if_pos hkz] at h
                    show _ = _
                    rw [lexAll, if_neg (by rw [HLEN.out]; exact hbig), h]; rfl
                  have HOF := Lib.hid (rOf5_any (s.extract a k))
                  rw [HEXL.out, hkz] at HOF
                  clear hkz HII HEXL
                  go_wp2_with (first | (go_at_call 56; refine (rletter_any _ _).mono ?_; rintro e w' ⟨rfl, rfl⟩) | (go_at_call 57; refine (HOF.out _ hszk).mono ?_; rintro e w2 ⟨rfl, hb2⟩))
                  refine bodyPost_ret (results_tmp4 rfl _ _ _) rfl ?_
                  exact ⟨.slice none 0 0, [], 3, line, col, rfl, World.ownsRow_nil _ _ _ _, bl_call hbw hb2, HR.out⟩
                · have HS2 : Hid (LexIn s.data.toList (ts ++ [⟨kindOf tl, s.extract a k, line, col⟩]) k line (col + k - a)) := by
                    have h := HII.out
                    rw [if_neg hkz] at h
                    show LexIn _ _ _ _ _
                    unfold LexIn
                    rw [h, preR_snoc, show col + 1 + ((k - (a + 1) : Nat) : Int) = col + k - a from by omega]
                  have hk0 : (kindOf tl == 0) = false := beq_eq_false_iff_ne.2 hkz
                  have HOF := Lib.hid (rOf5_any (s.extract a k))
                  rw [HEXL.out] at HOF
                  clear hkz HII HEXL
                  generalize hkk : kindOf tl = kd at *
                  clear hkk
                  go_wp2_with (first | (go_at_call 56; refine (rletter_any _ _).mono ?_; rintro e w' ⟨rfl, rfl⟩) | (go_at_call 57; refine (HOF.out _ hszk).mono ?_; rintro e w2 ⟨rfl, hb2⟩; (have hown2 := ownsRow_below hown hb2); (have hbw2 := bl_call hbw hb2); (have hlw2 := hbw2.size)) | (at_builtin; refine wpList_append_own _ rfl _ _ 57 rfl w.heap.size 61 i0 _ 4 40 Tryd.underlying57 hi0 hz0 hz1 hz2 rfl (by decide) _ _ _ rfl (hown2.alloc _) ⟨w2.heap.size, 0, none⟩ 1 1 [.int .i64 kd, .string (s.extract a k), .int .i64 line, .int .i64 col] rfl rfl (World.news_of_block (cs := #[.int .i64 kd, .string (s.extract a k), .int .i64 line, .int .i64 col]) (t := 61) (fr := (0, 0)) (heap_alloc_new _ _)) (by simp [Value.oneCell']) (by unfold maxLen; omega) (by omega) (by simp; omega) ?_; intro v1 w3 hown3 hgrow3 hnil3))
                  go_roundw
                  case rel =>
                    refine ⟨ts ++ [⟨kd, s.extract a k, line, col⟩], k, line, col + k - a, hk2, l1, by omega, by omega, by omega, rfl, rfl, rfl, ?_, by simp; omega, ?_, HS2⟩
                    · rw [toks_snoc, List.length_append]; exact hown3
                    · exact bl_grown (bl_alloc hbw2 _) hgrow3 (fun k hk => (hown2.lt _ hk).1)
                  case measure => simp [intOf]; omega
end Go.Proofs.YtcgkfgklggjmaaaDoor
end
section
namespace Go.Proofs.YtcgkfgklggjmaaaDoor.Par
set_option linter.unusedVariables false
set_option linter.unusedSimpArgs false
/-! a plan's plain text, read: its tokens -/
/-- the tokens, whatever their places -/
def Tw (ls : List Tok) (ws : List (Int × List UInt8)) : Prop := ls.map (fun t => (t.kind, t.text.data.toList)) = ws
/-- a text that ends where a token ends: what stands behind it is read by itself -/
def Lx (l : List UInt8) (ws : List (Int × List UInt8)) : Prop := ∀ (r : List UInt8) (line col : Int), ∃ ls line' col', lexL (l ++ r) line col = preR ls (lexL r line' col') ∧ Tw ls ws
theorem preR_app (a b : List Tok) (r : Except (Int × Int) (List Tok)) : preR (a ++ b) r = preR a (preR b r) := by cases r <;> simp [preR]
theorem preR_one (t : Tok) (r : Except (Int × Int) (List Tok)) : preR [t] r = consR t r := by cases r <;> simp [preR, consR]
theorem Lx.nil : Lx [] [] := fun r line col => ⟨[], line, col, by rw [preR_nil]; rfl, rfl⟩
theorem Lx.app {a b : List UInt8} {u v : List (Int × List UInt8)} (h : Lx a u) (k : Lx b v) : Lx (a ++ b) (u ++ v) := by
  intro r line col
  obtain ⟨l1, n1, c1, e1, t1⟩ := h (b ++ r) line col
  obtain ⟨l2, n2, c2, e2, t2⟩ := k r n1 c1
  refine ⟨l1 ++ l2, n2, c2, by rw [List.append_assoc, e1, e2, preR_app], ?_⟩
  unfold Tw at t1 t2 ⊢
  rw [List.map_append, t1, t2]
/-- a word ahead of a blank -/
theorem Lx.word {w : List UInt8} (h : kindOf w ≠ 0) : Lx (w ++ [32]) [(kindOf w, w)] := by
  intro r line col
  refine ⟨[⟨kindOf w, ⟨w.toArray⟩, line, col⟩], line, col + w.length + 1, ?_, by simp [Tw]⟩
  rw [List.append_assoc, List.singleton_append, lex_tok w r line col h, preR_one]
/-- a word ahead of a semicolon -/
theorem Lx.semi {w : List UInt8} (h : kindOf w ≠ 0) (hl : w ≠ [] ∧ w.all isLet = true) : Lx (w ++ [59]) [(kindOf w, w), (5, [59])] := by
  intro r line col
  refine ⟨[⟨kindOf w, ⟨w.toArray⟩, line, col⟩, ⟨5, ⟨#[59]⟩, line, col + w.length⟩], line, col + w.length + 1, ?_, by simp [Tw]⟩
  rw [List.append_assoc, List.singleton_append, lex_semi w r line col h hl]
  cases lexL r line (col + w.length + 1) <;> simp [preR, consR]
theorem Lx.nl : Lx [10] [] := fun r line col => ⟨[], line + 1, 1, by rw [preR_nil, List.singleton_append, lexL_nl], rfl⟩
theorem Lx.tab : Lx [9] [] := fun r line col => ⟨[], line, col + 1, by rw [preR_nil, List.singleton_append, lexL_bl 9 r line col (by decide)], rfl⟩
theorem Lx.sp : Lx [32] [] := fun r line col => ⟨[], line, col + 1, by rw [preR_nil, List.singleton_append, lexL_bl 32 r line col (by decide)], rfl⟩
theorem Lx.sign (c : UInt8) (hc : c = 123 ∨ c = 125 ∨ c = 59) : Lx [c] [(5, [c])] := by
  intro r line col
  have hk : kindOf [c] = 5 := by rcases hc with rfl | rfl | rfl <;> decide +kernel
  have ht : tokLen c r = 0 := by
    have : isLet c = false := by rcases hc with rfl | rfl | rfl <;> decide
    unfold tokLen; rw [this]; rfl
  refine ⟨[⟨5, ⟨#[c]⟩, line, col⟩], line, col + 1, ?_, by simp [Tw]⟩
  rw [List.singleton_append, lexL_tok c r line col (by rcases hc with rfl | rfl | rfl <;> decide) (by rcases hc with rfl | rfl | rfl <;> decide) (by rcases hc with rfl | rfl | rfl <;> decide), ht, List.take_zero, List.drop_zero, hk, if_neg (by decide), preR_one]
  rw [show col + 1 + ((0 : Nat) : Int) = col + 1 from by omega]
theorem Lx.flat {α : Type} (f : α → List UInt8) (g : α → List (Int × List UInt8)) : ∀ (l : List α), (∀ x ∈ l, Lx (f x) (g x)) → Lx (l.flatMap f) (l.flatMap g)
  | [], _ => Lx.nil
  | x :: l, h => by
    rw [List.flatMap_cons, List.flatMap_cons]
    exact (h x (by simp)).app (Lx.flat f g l fun y hy => h y (by simp [hy]))
/-- the whole text's tokens -/
theorem Lx.all {l : List UInt8} {ws : List (Int × List UInt8)} (h : Lx l ws) (hl : l.length ≤ 8192) : ∃ ls n c, lexAll l = (ls ++ [⟨0, ⟨#[]⟩, n, c⟩], 0, 0, 0) ∧ Tw ls ws := by
  obtain ⟨ls, n, c, e, t⟩ := h [] 1 1
  rw [List.append_nil] at e
  refine ⟨ls, n, c, ?_, t⟩
  unfold lexAll
  rw [if_neg (by omega), e]
  have : lexL [] n c = .ok [⟨0, ⟨#[]⟩, n, c⟩] := by rw [lexL]
  rw [this]; rfl
end Go.Proofs.YtcgkfgklggjmaaaDoor.Par
end
section
namespace Go.Proofs.YtcgkfgklggjmaaaDoor.Dec
set_option linter.unusedVariables false
set_option linter.unusedSimpArgs false
open Go.RowKit
theorem text_len (N k : Nat) (h : N < 9223372036854775808) (hk : k ≤ 9) : (textN N k).length ≤ 30 := by
  have h1 := frac_len N k
  have h2 : (Lib.decDigits (N / 10 ^ k)).length ≤ 20 := by
    rw [Lib.decDigits_length]
    exact Lib.nDigits_le20 _ (Nat.lt_of_le_of_lt (Nat.div_le_self _ _) (by omega))
  unfold textN tailL
  rw [List.length_append]
  split
  · simp; omega
  · simp; omega
theorem text_bad {n places : Int} (h : n < 0 ∨ places < 0 ∨ 9 < places) : textL n places = [] := by unfold textL; rw [if_pos h]
theorem text_good (N k : Nat) (hk : k ≤ 9) : textL (N : Int) (k : Int) = textN N k := by
  unfold textL; rw [if_neg (by omega), Int.toNat_natCast, Int.toNat_natCast]
end Go.Proofs.YtcgkfgklggjmaaaDoor.Dec
end
section
namespace Go.Proofs.YtcgkfgklggjmaaaDoor.Par
set_option linter.unusedVariables false
set_option linter.unusedSimpArgs false
/-! numbers' texts are read back -/
theorem parse_most {l : List UInt8} {pl M m v : Int} (h : Dec.parseL l pl M = (v, 0)) (hv : v ≤ m) : Dec.parseL l pl m = (v, 0) := by
  unfold Dec.parseL Dec.parseW at h ⊢
  split at h
  · cases h
  · rename_i h1
    rw [if_neg h1]
    split at h
    · cases h
    · rename_i h2
      rw [if_neg h2]
      split at h
      · cases h
      · rename_i h3
        injection h with h4 _
        rw [if_neg (by rintro (c | c); exact h3 (.inl c); omega), h4]
theorem npV_dig {n m : Int} (h0 : 0 ≤ n) (h : n ≤ m) (h1 : n < 9223372036854775808) : npV ⟨(digT n).toArray⟩ 0 m = (n, 0) := by
  obtain ⟨N, rfl⟩ : ∃ N : Nat, n = N := ⟨n.toNat, by omega⟩
  have hb := Dec.parse_back N 0 (by omega) (by decide)
  have he : Dec.textN N 0 = Lib.decDigits N := by
    have hf : Dec.fracL N 0 = [] := rfl
    rw [Dec.textN, Dec.tailL, if_pos hf, List.append_nil, Nat.pow_zero, Nat.div_one]
  rw [he] at hb
  exact parse_most hb h
theorem npV_dec {n m : Int} (k : Nat) (hk : k ≤ 9) (h0 : 0 ≤ n) (h : n ≤ m) (h1 : n < 9223372036854775808) : npV ⟨(Dec.textL n k).toArray⟩ k m = (n, 0) := by
  obtain ⟨N, rfl⟩ : ∃ N : Nat, n = N := ⟨n.toNat, by omega⟩
  have hb := Dec.parse_back N k (by omega) hk
  have he := Dec.text_good N k hk
  unfold npV
  rw [he]
  exact parse_most hb h
theorem word_dig {l : List UInt8} (h : digFirst l = true) : isWord l = false := by
  cases hw : isWord l with
  | false => rfl
  | true =>
    have hm : l ∈ wordsL := by simpa [isWord] using hw
    have ha : ∀ w ∈ wordsL, digFirst w = false := by decide
    rw [ha l hm] at h
    cases h
theorem dig_let {l : List UInt8} (h : l.all Dec.isDig = true) : l.all isLet = true := by
  rw [List.all_eq_true] at h ⊢
  intro x hx
  have := h x hx
  simp only [Dec.isDig, isDig, decide_eq_true_eq, Bool.and_eq_true] at this
  simp only [isLet, decide_eq_true_eq]
  omega
theorem dec_word (N k : Nat) (hk : k ≤ 9) : kindOf (Dec.textN N k) = 3 ∧ Dec.textN N k ≠ [] ∧ (Dec.textN N k).all isLet = true := by
  unfold Dec.textN Dec.tailL
  by_cases hf : Dec.fracL N k = []
  · rw [if_pos hf, List.append_nil]
    exact ⟨kind_digits _, Dec.dec_ne _, dec_let _⟩
  · rw [if_neg hf]
    have hd := Dec.dec_all (N / 10 ^ k)
    have hne := Dec.dec_ne (N / 10 ^ k)
    have hfa := Dec.frac_all N k
    have hlead := Dec.lead_dec (N / 10 ^ k)
    generalize Lib.decDigits (N / 10 ^ k) = a at *
    generalize Dec.fracL N k = f at *
    have hl : (a ++ 46 :: f).all isLet = true := by
      rw [List.all_append, dig_let hd, List.all_cons, dig_let hfa]; decide
    have hne2 : a ++ 46 :: f ≠ [] := by simp
    have hdf : digFirst (a ++ 46 :: f) = true := by
      cases a with
      | nil => exact absurd rfl hne
      | cons c cs =>
        have hd' : (c :: cs).all isDig = true := hd
        simp only [List.all_cons, Bool.and_eq_true] at hd'
        exact hd'.1
    have hnum : numForm (a ++ 46 :: f) = 2 := by
      have hb1 : digitsB a = true := by
        unfold digitsB; rw [show a.all isDig = true from hd]
        cases a with
        | nil => exact absurd rfl hne
        | cons c cs => rfl
      have hb2 : digitsB f = true := by
        unfold digitsB; rw [show f.all isDig = true from hfa]
        cases f with
        | nil => exact absurd rfl hf
        | cons c cs => rfl
      have hz : ¬ (1 < a.length ∧ a.getD 0 0 = 48) := by
        rintro ⟨a1, a2⟩
        cases a with
        | nil => exact absurd rfl hne
        | cons c cs =>
          obtain rfl : c = 48 := a2
          unfold Dec.leadB at hlead
          rw [decide_eq_true a1] at hlead
          cases hlead
      unfold numForm
      rw [Dec.cut_point hd]
      simp only
      rw [if_neg (by rw [hb1]; exact fun h => h.elim (fun h => by cases h) hz), if_neg (by decide), if_pos hb2]
    refine ⟨?_, hne2, hl⟩
    rw [kind_let hl hne2, word_dig hdf, hdf, hnum]
    simp
end Go.Proofs.YtcgkfgklggjmaaaDoor.Par
end
section
namespace Go.Proofs.YtcgkfgklggjmaaaDoor
set_option linter.unusedVariables false
set_option linter.unusedSimpArgs false
/-! every number is a day's -/
theorem year_ex (n : Int) (h0 : 0 ≤ n) : ∀ (k : Nat), n < dby (1 + k) → ∃ y : Int, 1 ≤ y ∧ y ≤ k ∧ dby y ≤ n ∧ n < dby (y + 1)
  | 0, h => by
    have : dby (1 + ((0 : Nat) : Int)) = 0 := by decide
    omega
  | k + 1, h => by
    by_cases hk : n < dby (1 + k)
    · obtain ⟨y, h1, h2, h3, h4⟩ := year_ex n h0 k hk
      exact ⟨y, h1, by omega, h3, h4⟩
    · refine ⟨1 + k, by omega, by omega, by omega, ?_⟩
      rwa [show (1 : Int) + k + 1 = 1 + ((k + 1 : Nat) : Int) from by omega]
theorem month_ex (y r : Int) (h0 : 0 ≤ r) : ∀ (k : Nat), k ≤ 12 → r < cum y (1 + k) → ∃ m : Int, 1 ≤ m ∧ m ≤ k ∧ cum y m ≤ r ∧ r < cum y (m + 1)
  | 0, _, h => by
    rw [show (1 : Int) + ((0 : Nat) : Int) = 1 from by omega, cum_one] at h
    omega
  | k + 1, hk12, h => by
    by_cases hk : r < cum y (1 + k)
    · obtain ⟨m, h1, h2, h3, h4⟩ := month_ex y r h0 k (by omega) hk
      exact ⟨m, h1, by omega, h3, h4⟩
    · refine ⟨1 + k, by omega, by omega, by omega, ?_⟩
      rwa [show (1 : Int) + k + 1 = 1 + ((k + 1 : Nat) : Int) from by omega]
theorem of_ex (n : Int) (h0 : 0 ≤ n) (h1 : n < 3652059) : ∃ y m d : Int, goodB y m d = true ∧ numD y m d = n := by
  obtain ⟨y, y1, y2, y3, y4⟩ := year_ex n h0 9999 (by rw [show (1 : Int) + ((9999 : Nat) : Int) = 10000 from rfl, dby_end]; exact h1)
  have hs := dby_succ y
  have hl := lp_01 y
  have he := cum_end y
  obtain ⟨m, m1, m2, m3, m4⟩ := month_ex y (n - dby y) (by omega) 12 (by omega) (by rw [show (1 : Int) + ((12 : Nat) : Int) = 13 from rfl]; omega)
  have hc := cum_succ y m m1 (by omega)
  refine ⟨y, m, n - dby y - cum y m + 1, good_mk y1 (by omega) (by omega) (by omega), ?_⟩
  unfold numD; omega
end Go.Proofs.YtcgkfgklggjmaaaDoor
end
section
namespace Go.Proofs.YtcgkfgklggjmaaaDoor
set_option linter.unusedVariables false
set_option linter.unusedSimpArgs false
/-! texts and days: one by one -/
theorem dig_back (c : UInt8) (h : isDig c = true) : UInt8.ofNat (48 + (digI c).toNat) = c := by
  have h := of_decide_eq_true h
  have e : 48 + (digI c).toNat = c.toNat := by unfold digI; omega
  rw [e, UInt8.ofNat_toNat]
theorem digL_numL : ∀ (n : Nat) (l : List UInt8), l.length = n → l.all isDig = true → digL (numL l).toNat n = l
  | 0, l, h, _ => by
    obtain rfl := List.length_eq_zero_iff.1 h
    rfl
  | n + 1, l, h, hd => by
    have hne : l ≠ [] := by rintro rfl; simp at h
    obtain ⟨l', c, rfl⟩ : ∃ l' c, l = l' ++ [c] := ⟨l.dropLast, l.getLast hne, (List.dropLast_concat_getLast hne).symm⟩
    rw [List.all_append, Bool.and_eq_true] at hd
    obtain ⟨hd1, hd2⟩ := hd
    have hdc : isDig c = true := by simpa using hd2
    have hl : l'.length = n := by simpa using h
    have hb := digI_bd hdc
    have hn := numL_bd l' hd1
    have ih := digL_numL n l' hl hd1
    have e1 : (10 * numL l' + digI c).toNat / 10 = (numL l').toNat := by omega
    have e2 : (10 * numL l' + digI c).toNat % 10 = (digI c).toNat := by omega
    rw [numL_snoc, digL, e1, e2, ih, dig_back c hdc]
theorem isDig_of (k : Nat) : isDig (UInt8.ofNat (48 + k % 10)) = true := by
  unfold isDig
  rw [UInt8.toNat_ofNat_of_lt' (show 48 + k % 10 < 256 by omega)]
  exact decide_eq_true (by omega)
theorem digI_of (k : Nat) : digI (UInt8.ofNat (48 + k % 10)) = ((k % 10 : Nat) : Int) := by
  unfold digI
  rw [UInt8.toNat_ofNat_of_lt' (show 48 + k % 10 < 256 by omega)]
  omega
theorem digL_dig : ∀ (k n : Nat), (digL n k).all isDig = true
  | 0, _ => rfl
  | k + 1, n => by
    rw [digL, List.all_append, digL_dig k (n / 10), Bool.true_and, List.all_cons, List.all_nil, Bool.and_true]
    exact isDig_of n
theorem numL_digL : ∀ (k n : Nat), n < 10 ^ k → numL (digL n k) = n
  | 0, n, h => by
    obtain rfl : n = 0 := by simpa using h
    rfl
  | k + 1, n, h => by
    rw [digL, numL_snoc, numL_digL k (n / 10) (by rw [Nat.pow_succ] at h; omega), digI_of]
    omega
/-- a text that is a day's is what that day's text is -/
theorem parse_text {l : List UInt8} (h : parseOk l = true) : l.length = 10 ∧ goodB (parseY l) (parseM l) (parseD l) = true ∧ dayL (parseY l) (parseM l) (parseD l) = l := by
  unfold parseOk at h
  rw [Bool.and_eq_true] at h
  obtain ⟨hs, hg⟩ := h
  unfold dateShape at hs
  simp only [Bool.and_eq_true, beq_iff_eq] at hs
  obtain ⟨⟨⟨⟨⟨hl, h4⟩, h7⟩, hy⟩, hm⟩, hd⟩ := hs
  refine ⟨hl, hg, ?_⟩
  unfold dayL parseY parseM parseD
  rw [digL_numL 4 _ (by simp; omega) hy, digL_numL 2 _ (by simp; omega) hm, digL_numL 2 _ (by simp; omega) hd]
  match l, hl with
  | [a0, a1, a2, a3, a4, a5, a6, a7, a8, a9], _ =>
    simp at h4 h7
    subst h4 h7
    rfl
/-- a day's text is that day's -/
theorem text_parse {y m d : Int} (h : goodB y m d = true) : parseOk (dayL y m d) = true ∧ parseY (dayL y m d) = y ∧ parseM (dayL y m d) = m ∧ parseD (dayL y m d) = d := by
  obtain ⟨h1, h2, h3, h4, h5, h6, h7⟩ := good_of h
  have t4 : (dayL y m d).take 4 = digL y.toNat 4 := List.take_left' (digL_len 4 _)
  have d4 : (dayL y m d).drop 4 = 45 :: (digL m.toNat 2 ++ 45 :: digL d.toNat 2) := List.drop_left' (digL_len 4 _)
  have d5 : (dayL y m d).drop 5 = digL m.toNat 2 ++ 45 :: digL d.toNat 2 := by
    rw [show 5 = 4 + 1 from rfl, ← List.drop_drop, d4]; rfl
  have t2 : ((dayL y m d).drop 5).take 2 = digL m.toNat 2 := by rw [d5]; exact List.take_left' (digL_len 2 _)
  have d7 : (dayL y m d).drop 7 = 45 :: digL d.toNat 2 := by
    rw [show 7 = 5 + 2 from rfl, ← List.drop_drop, d5]; exact List.drop_left' (digL_len 2 _)
  have d8 : (dayL y m d).drop 8 = digL d.toNat 2 := by
    rw [show 8 = 7 + 1 from rfl, ← List.drop_drop, d7]; rfl
  have g4 : (dayL y m d).getD 4 0 = 45 := by
    have : (dayL y m d)[4]? = some 45 := by rw [← List.head?_drop, d4]; rfl
    simp [List.getD, this]
  have g7 : (dayL y m d).getD 7 0 = 45 := by
    have : (dayL y m d)[7]? = some 45 := by rw [← List.head?_drop, d7]; rfl
    simp [List.getD, this]
  have ey : parseY (dayL y m d) = y := by unfold parseY; rw [t4, numL_digL 4 _ (by show y.toNat < 10000; omega)]; omega
  have em : parseM (dayL y m d) = m := by unfold parseM; rw [t2, numL_digL 2 _ (by show m.toNat < 100; omega)]; omega
  have ed : parseD (dayL y m d) = d := by unfold parseD; rw [d8, numL_digL 2 _ (by show d.toNat < 100; omega)]; omega
  refine ⟨?_, ey, em, ed⟩
  unfold parseOk
  rw [ey, em, ed, h, Bool.and_true]
  unfold dateShape
  rw [dayL_len, g4, g7, t4, t2, d8, digL_dig, digL_dig, digL_dig]
  rfl
end Go.Proofs.YtcgkfgklggjmaaaDoor
end
section
namespace Go.Proofs.YtcgkfgklggjmaaaDoor.Par
set_option linter.unusedVariables false
set_option linter.unusedSimpArgs false
theorem k_plan : kindOf [112, 108, 97, 110] = 2 := by kernel_rfl
theorem k_currency : kindOf [99, 117, 114, 114, 101, 110, 99, 121] = 2 := by kernel_rfl
theorem k_horizon : kindOf [104, 111, 114, 105, 122, 111, 110] = 2 := by kernel_rfl
theorem k_meter : kindOf [109, 101, 116, 101, 114] = 2 := by kernel_rfl
theorem k_unit : kindOf [117, 110, 105, 116] = 2 := by kernel_rfl
theorem k_max : kindOf [109, 97, 120] = 2 := by kernel_rfl
theorem k_fee : kindOf [102, 101, 101] = 2 := by kernel_rfl
theorem k_charge : kindOf [99, 104, 97, 114, 103, 101] = 2 := by kernel_rfl
theorem k_from : kindOf [102, 114, 111, 109] = 2 := by kernel_rfl
theorem k_to : kindOf [116, 111] = 2 := by kernel_rfl
theorem k_allowance : kindOf [97, 108, 108, 111, 119, 97, 110, 99, 101] = 2 := by kernel_rfl
theorem k_block : kindOf [98, 108, 111, 99, 107] = 2 := by kernel_rfl
theorem k_volume : kindOf [118, 111, 108, 117, 109, 101] = 2 := by kernel_rfl
theorem k_graduated : kindOf [103, 114, 97, 100, 117, 97, 116, 101, 100] = 2 := by kernel_rfl
theorem k_rest : kindOf [114, 101, 115, 116] = 2 := by kernel_rfl
theorem k_rate : kindOf [114, 97, 116, 101] = 2 := by kernel_rfl
theorem k_upto : kindOf [117, 112, 116, 111] = 2 := by kernel_rfl
theorem k_round : kindOf [114, 111, 117, 110, 100] = 2 := by kernel_rfl
theorem k_percent : kindOf [112, 101, 114, 99, 101, 110, 116] = 2 := by kernel_rfl
theorem k_cap : kindOf [99, 97, 112] = 2 := by kernel_rfl
theorem k_minimum : kindOf [109, 105, 110, 105, 109, 117, 109] = 2 := by kernel_rfl
theorem k_add : kindOf [97, 100, 100] = 2 := by kernel_rfl
theorem k_floor : kindOf [102, 108, 111, 111, 114] = 2 := by kernel_rfl
theorem k_ceil : kindOf [99, 101, 105, 108] = 2 := by kernel_rfl
theorem k_halfup : kindOf [104, 97, 108, 102, 117, 112] = 2 := by kernel_rfl
theorem k_halfeven : kindOf [104, 97, 108, 102, 101, 118, 101, 110] = 2 := by kernel_rfl
/-- a day's text is read back -/
theorem day_read {t : List UInt8} (h : kindOf t = 4) : dayT (dp ⟨t.toArray⟩) = t := by
  have hp : parseOk t = true := by
    unfold kindOf at h
    split at h
    · cases h
    split at h
    · cases h
    split at h
    · cases h
    split at h
    · cases h
    split at h
    · cases h
    split at h
    · assumption
    · cases h
  have hp' : parseOk (⟨t.toArray⟩ : ByteArray).data.toList = true := hp
  obtain ⟨e1, e2, e3, _⟩ := p_yes hp'
  obtain ⟨_, hg, hl⟩ := parse_text hp
  unfold dayT dp textL
  simp only [e1, e2, e3]
  rw [if_pos hg]
  exact hl
theorem let_of {t : List UInt8} (h : kindOf t ≠ 0) (h5 : kindOf t ≠ 5) : t ≠ [] ∧ t.all isLet = true := by
  rcases kind_shape h with h1 | h1
  · exfalso; apply h5; rcases h1 with rfl | rfl | rfl <;> kernel_rfl
  · exact h1
/-- a day that is read -/
def DOk (d : Day) : Prop := kindOf (dayT d) = 4 ∧ dp ⟨(dayT d).toArray⟩ = d
theorem dok_of {t : ByteArray} (h : kindOf t.data.toList = 4) : DOk (dp t) := by
  have e : (⟨t.data.toList.toArray⟩ : ByteArray) = t := by simp
  have hb := day_read h
  rw [e] at hb
  unfold DOk
  rw [hb, e]
  exact ⟨h, rfl⟩
def NOk (b : ByteArray) : Prop := kindOf b.data.toList = 1
def WOk (w : Win) : Prop := (w.has = true ∧ DOk w.from_ ∧ DOk w.to_) ∨ w = noWin
def TOk (t : Tier) : Prop := (0 ≤ t.upto ∧ t.upto ≤ 1000000) ∧ (0 ≤ t.rate ∧ t.rate ≤ 1000000000000)
def AOk (a : Adj) : Prop := (a.kind = 1 ∧ (0 ≤ a.n ∧ a.n ≤ 100000000) ∧ 0 ≤ a.mode ∧ a.mode ≤ 3) ∨ ((a.kind = 2 ∨ a.kind = 3 ∨ a.kind = 4) ∧ (0 ≤ a.n ∧ a.n ≤ 1000000000000) ∧ a.mode = 0)
structure COk (c : Chg) : Prop where
  meter : NOk c.meter
  win : WOk c.win
  allow : 0 ≤ c.allow ∧ c.allow ≤ 1000000
  block : 0 ≤ c.block ∧ c.block ≤ 1000000
  kind : c.kind = 1 ∨ c.kind = 2
  tiers : ∃ l r, c.tiers = l ++ [⟨0, r⟩] ∧ (∀ t ∈ l, TOk t) ∧ 0 ≤ r ∧ r ≤ 1000000000000
  mode : 0 ≤ c.mode ∧ c.mode ≤ 3
  adjs : ∀ a ∈ c.adjs, AOk a
/-- what a plan is that is read without a fault -/
structure POk (p : Plan) : Prop where
  name : NOk p.name
  cur : NOk p.cur
  from_ : DOk p.from_
  to_ : DOk p.to_
  mets : ∀ m ∈ p.mets, NOk m.name ∧ NOk m.unit ∧ 0 ≤ m.max ∧ m.max ≤ 2000
  fees : ∀ f ∈ p.fees, (0 ≤ f.amount ∧ f.amount ≤ 1000000000000) ∧ WOk f.win
  chgs : ∀ c ∈ p.chgs, COk c
/-! the tokens -/
abbrev Wd := Int × List UInt8
def tkW (w : Win) : List Wd := if w.has = true then [(2, [102, 114, 111, 109]), (4, dayT w.from_), (2, [116, 111]), (4, dayT w.to_)] else []
def tkM (m : Met) : List Wd := [(2, [109, 101, 116, 101, 114]), (1, m.name.data.toList), (2, [117, 110, 105, 116]), (1, m.unit.data.toList), (2, [109, 97, 120]), (3, digT m.max), (5, [59])]
def tkF (f : Fee) : List Wd := [(2, [102, 101, 101]), (3, digT f.amount)] ++ tkW f.win ++ [(5, [59])]
def tkT (t : Tier) : List Wd := [(2, [117, 112, 116, 111]), (3, digT t.upto), (2, [114, 97, 116, 101]), (3, Dec.textL t.rate 6), (5, [59])]
def tkZ (r : Int) : List Wd := [(2, [114, 101, 115, 116]), (2, [114, 97, 116, 101]), (3, Dec.textL r 6), (5, [59])]
def modeW (m : Int) : List Wd := if m = 0 then [(2, [102, 108, 111, 111, 114])] else if m = 1 then [(2, [99, 101, 105, 108])] else if m = 2 then [(2, [104, 97, 108, 102, 117, 112])] else if m = 3 then [(2, [104, 97, 108, 102, 101, 118, 101, 110])] else []
def tkA (a : Adj) : List Wd :=
  if a.kind = 1 then [(2, [112, 101, 114, 99, 101, 110, 116]), (3, Dec.textL a.n 3)] ++ modeW a.mode ++ [(5, [59])]
  else if a.kind = 2 then [(2, [99, 97, 112]), (3, digT a.n), (5, [59])]
  else if a.kind = 3 then [(2, [109, 105, 110, 105, 109, 117, 109]), (3, digT a.n), (5, [59])]
  else if a.kind = 4 then [(2, [97, 100, 100]), (3, digT a.n), (5, [59])] else []
def tkC (c : Chg) (l : List Tier) (r : Int) : List Wd :=
  [(2, [99, 104, 97, 114, 103, 101]), (1, c.meter.data.toList)] ++ tkW c.win ++ [(5, [123])] ++ (if c.allow ≠ 0 then [(2, [97, 108, 108, 111, 119, 97, 110, 99, 101]), (3, digT c.allow), (5, [59])] else []) ++ (if c.block ≠ 1 then [(2, [98, 108, 111, 99, 107]), (3, digT c.block), (5, [59])] else []) ++
  [if c.kind = 2 then (2, [118, 111, 108, 117, 109, 101]) else (2, [103, 114, 97, 100, 117, 97, 116, 101, 100]), (5, [123])] ++ l.flatMap tkT ++ tkZ r ++ [(5, [125]), (2, [114, 111, 117, 110, 100])] ++ modeW c.mode ++ [(5, [59])] ++ c.adjs.flatMap tkA ++ [(5, [125])]
def tkH (p : Plan) : List Wd := [(2, [112, 108, 97, 110]), (1, p.name.data.toList), (2, [99, 117, 114, 114, 101, 110, 99, 121]), (1, p.cur.data.toList), (5, [59]), (2, [104, 111, 114, 105, 122, 111, 110]), (4, dayT p.from_), (4, dayT p.to_), (5, [59])]
theorem Lx.kw {w : List UInt8} {k : Int} (h : kindOf w = k) (h0 : k ≠ 0) : Lx (w ++ [32]) [(k, w)] := by
  subst h; exact Lx.word h0
theorem Lx.ks {w : List UInt8} {k : Int} (h : kindOf w = k) (h0 : k ≠ 0) (h5 : k ≠ 5) : Lx (w ++ [59]) [(k, w), (5, [59])] := by
  subst h; exact Lx.semi h0 (let_of h0 h5)
theorem Lx.of {a b : List UInt8} {u v : List Wd} (h : Lx a u) (e : b = a) (f : v = u) : Lx b v := by subst e f; exact h
theorem k_dig {n : Int} : kindOf (digT n) = 3 := kind_digits _
theorem k_dec {n : Int} (k : Nat) (hk : k ≤ 9) (h0 : 0 ≤ n) : kindOf (Dec.textL n k) = 3 := by
  obtain ⟨N, rfl⟩ : ∃ N : Nat, n = N := ⟨n.toNat, by omega⟩
  rw [Dec.text_good N k hk]; exact (dec_word N k hk).1
theorem lx_met {m : Met} (h1 : NOk m.name) (h2 : NOk m.unit) : Lx (metL m) (tkM m) :=
  ((((((Lx.kw k_meter (by decide)).app (Lx.kw h1 (by decide))).app (Lx.kw k_unit (by decide))).app (Lx.kw h2 (by decide))).app (Lx.kw k_max (by decide))).app (Lx.ks (k_dig (n := m.max)) (by decide) (by decide)) |>.app Lx.nl).of (by simp [metL]) (by simp [tkM])
theorem lx_head {p : Plan} (h : POk p) : Lx (headL p) (tkH p) :=
  ((((((((Lx.kw k_plan (by decide)).app (Lx.kw h.name (by decide))).app (Lx.kw k_currency (by decide))).app (Lx.ks h.cur (by decide) (by decide))).app Lx.nl).app (Lx.kw k_horizon (by decide))).app (Lx.kw h.from_.1 (by decide))).app (Lx.ks h.to_.1 (by decide) (by decide)) |>.app Lx.nl).of (by simp [headL]) (by simp [tkH])
theorem lx_fee {f : Fee} (h : WOk f.win) : Lx (feeL f) (tkF f) := by
  rcases h with ⟨h0, h1, h2⟩ | h0
  · exact ((((((Lx.kw k_fee (by decide)).app (Lx.kw (k_dig (n := f.amount)) (by decide))).app (Lx.kw k_from (by decide))).app (Lx.kw h1.1 (by decide))).app (Lx.kw k_to (by decide))).app (Lx.ks h2.1 (by decide) (by decide)) |>.app Lx.nl).of (by simp [feeL, winL, h0]) (by simp [tkF, tkW, h0])
  · exact (((Lx.kw k_fee (by decide)).app (Lx.ks (k_dig (n := f.amount)) (by decide) (by decide))).app Lx.nl).of (by simp [feeL, winL, h0, noWin]) (by simp [tkF, tkW, h0, noWin])
end Go.Proofs.YtcgkfgklggjmaaaDoor.Par
end
section
namespace Go.Proofs.YtcgkfgklggjmaaaDoor.Par
set_option linter.unusedVariables false
set_option linter.unusedSimpArgs false
/-! a charge's tokens, and the whole plan's -/
theorem lx_tier {t : Tier} (h : TOk t) : Lx (tierL false t) (tkT t) :=
  ((((((Lx.tab.app Lx.tab).app (Lx.kw k_upto (by decide))).app (Lx.kw (k_dig (n := t.upto)) (by decide))).app (Lx.kw k_rate (by decide))).app (Lx.ks (k_dec 6 (by decide) h.2.1) (by decide) (by decide)))|>.app Lx.nl).of (by simp [tierL]) (by simp [tkT])
theorem lx_rest {r : Int} (h : 0 ≤ r) : Lx (tierL true ⟨0, r⟩) (tkZ r) :=
  (((((Lx.tab.app Lx.tab).app (Lx.kw k_rest (by decide))).app (Lx.kw k_rate (by decide))).app (Lx.ks (k_dec 6 (by decide) h) (by decide) (by decide)))|>.app Lx.nl).of (by simp [tierL]) (by simp [tkZ])
theorem tiers_take (l : List Tier) (z : Tier) : ∀ k, k ≤ l.length → tiersL (l ++ [z]) k = (l.take k).flatMap (tierL false)
  | 0, _ => by simp [tiersL]
  | k + 1, h => by
    have e : l[k]? = some l[k] := by simp
    have e2 : (l ++ [z])[k]? = some l[k] := by rw [List.getElem?_append_left (by omega)]; exact e
    rw [tiersL_succ e2, tiers_take l z k (by omega), flat_next _ e]
    have : decide (k + 1 = (l ++ [z]).length) = false := by simp; omega
    rw [this]
theorem tiers_snoc (l : List Tier) (z : Tier) : tiersL (l ++ [z]) (l ++ [z]).length = l.flatMap (tierL false) ++ tierL true z := by
  have e2 : (l ++ [z])[l.length]? = some z := by simp
  have : (l ++ [z]).length = l.length + 1 := by simp
  rw [this, tiersL_succ e2, tiers_take l z l.length (by omega), List.take_length]
  simp
theorem lx_tiers {l : List Tier} {r : Int} (h : ∀ t ∈ l, TOk t) (hr : 0 ≤ r) : Lx (tiersL (l ++ [(⟨0, r⟩ : Tier)]) (l ++ [(⟨0, r⟩ : Tier)]).length) (l.flatMap tkT ++ tkZ r) := by
  rw [tiers_snoc]
  exact (Lx.flat _ _ l fun t ht => lx_tier (h t ht)).app (lx_rest hr)
theorem lx_mode {m : Int} (h0 : 0 ≤ m) (h3 : m ≤ 3) : Lx (modeL m ++ [59]) (modeW m ++ [(5, [59])]) := by
  have : m = 0 ∨ m = 1 ∨ m = 2 ∨ m = 3 := by omega
  rcases this with rfl | rfl | rfl | rfl
  · exact (Lx.ks k_floor (by decide) (by decide)).of (by simp [modeL]) (by simp [modeW])
  · exact (Lx.ks k_ceil (by decide) (by decide)).of (by simp [modeL]) (by simp [modeW])
  · exact (Lx.ks k_halfup (by decide) (by decide)).of (by simp [modeL]) (by simp [modeW])
  · exact (Lx.ks k_halfeven (by decide) (by decide)).of (by simp [modeL]) (by simp [modeW])
theorem lx_adj {a : Adj} (h : AOk a) : Lx (adjL a) (tkA a) := by
  rcases h with ⟨hk, h1, h2, h3⟩ | ⟨hk | hk | hk, h1, h2⟩
  · exact ((((Lx.tab.app (Lx.kw k_percent (by decide))).app (Lx.kw (k_dec 3 (by decide) h1.1) (by decide))).app (lx_mode h2 h3)).app Lx.nl).of (by simp [adjL, hk]) (by simp [tkA, hk])
  · exact (((Lx.tab.app (Lx.kw k_cap (by decide))).app (Lx.ks (k_dig (n := a.n)) (by decide) (by decide))).app Lx.nl).of (by simp [adjL, hk]) (by simp [tkA, hk])
  · exact (((Lx.tab.app (Lx.kw k_minimum (by decide))).app (Lx.ks (k_dig (n := a.n)) (by decide) (by decide))).app Lx.nl).of (by simp [adjL, hk]) (by simp [tkA, hk])
  · exact (((Lx.tab.app (Lx.kw k_add (by decide))).app (Lx.ks (k_dig (n := a.n)) (by decide) (by decide))).app Lx.nl).of (by simp [adjL, hk]) (by simp [tkA, hk])
theorem lx_chg1 {c : Chg} (h1 : NOk c.meter) (h : WOk c.win) : Lx (chg1L c) ([(2, [99, 104, 97, 114, 103, 101]), (1, c.meter.data.toList)] ++ tkW c.win ++ [(5, [123])]) := by
  rcases h with ⟨h0, h2, h3⟩ | h0
  · exact ((((((((Lx.kw k_charge (by decide)).app (Lx.kw h1 (by decide))).app (Lx.kw k_from (by decide))).app (Lx.kw h2.1 (by decide))).app (Lx.kw k_to (by decide))).app (Lx.kw h3.1 (by decide))).app (Lx.sign 123 (by decide)))|>.app Lx.nl).of (by simp [chg1L, winL, h0]) (by simp [tkW, h0])
  · exact ((((Lx.kw k_charge (by decide)).app (Lx.kw h1 (by decide))).app (Lx.sign 123 (by decide)))|>.app Lx.nl).of (by simp [chg1L, winL, h0, noWin]) (by simp [tkW, h0, noWin])
theorem lx_alw (c : Chg) : Lx (alwL c) (if c.allow ≠ 0 then [(2, [97, 108, 108, 111, 119, 97, 110, 99, 101]), (3, digT c.allow), (5, [59])] else []) := by
  unfold alwL
  split
  · exact ((Lx.tab.app (Lx.kw k_allowance (by decide))).app (Lx.ks (k_dig (n := c.allow)) (by decide) (by decide)) |>.app Lx.nl).of (by simp) (by simp)
  · exact Lx.nil
theorem lx_blk (c : Chg) : Lx (blkL c) (if c.block ≠ 1 then [(2, [98, 108, 111, 99, 107]), (3, digT c.block), (5, [59])] else []) := by
  unfold blkL
  split
  · exact ((Lx.tab.app (Lx.kw k_block (by decide))).app (Lx.ks (k_dig (n := c.block)) (by decide) (by decide)) |>.app Lx.nl).of (by simp) (by simp)
  · exact Lx.nil
theorem lx_kind (c : Chg) : Lx (kindL c) [if c.kind = 2 then (2, [118, 111, 108, 117, 109, 101]) else (2, [103, 114, 97, 100, 117, 97, 116, 101, 100]), (5, [123])] := by
  unfold kindL
  split
  · exact ((Lx.tab.app (Lx.kw k_volume (by decide))).app (Lx.sign 123 (by decide)) |>.app Lx.nl).of (by simp) (by simp)
  · exact ((Lx.tab.app (Lx.kw k_graduated (by decide))).app (Lx.sign 123 (by decide)) |>.app Lx.nl).of (by simp) (by simp)
theorem lx_rnd {c : Chg} (h : 0 ≤ c.mode ∧ c.mode ≤ 3) : Lx (rndL c) ([(5, [125]), (2, [114, 111, 117, 110, 100])] ++ modeW c.mode ++ [(5, [59])]) :=
  (((((Lx.tab.app (Lx.sign 125 (by decide))).app Lx.nl).app Lx.tab).app (Lx.kw k_round (by decide))).app (lx_mode h.1 h.2) |>.app Lx.nl).of (by simp [rndL]) (by simp)
theorem lx_chg {c : Chg} {l : List Tier} {r : Int} (h : COk c) (ht : c.tiers = l ++ [⟨0, r⟩]) (hl : ∀ t ∈ l, TOk t) (hr : 0 ≤ r) : Lx (chgL c) (tkC c l r) := by
  have ht' := lx_tiers hl hr
  rw [← ht] at ht'
  exact (((((((lx_chg1 h.meter h.win).app (lx_alw c)).app (lx_blk c)).app (lx_kind c)).app ht').app (lx_rnd h.mode)).app (Lx.flat _ _ c.adjs fun a ha => lx_adj (h.adjs a ha)) |>.app ((Lx.sign 125 (by decide)).app Lx.nl)).of (by simp [chgL]) (by simp [tkC])
/-- a charge's tokens, from the charge alone -/
def tkG (c : Chg) : List Wd := tkC c c.tiers.dropLast (match c.tiers.getLast? with | some t => t.rate | none => 0)
theorem lx_chgG {c : Chg} (h : COk c) : Lx (chgL c) (tkG c) := by
  obtain ⟨l, r, e, hl, hr, _⟩ := h.tiers
  have := lx_chg h e hl hr
  unfold tkG
  rw [e]
  simpa using this
def tkP (p : Plan) : List Wd := tkH p ++ p.mets.flatMap tkM ++ p.fees.flatMap tkF ++ p.chgs.flatMap tkG
/-- the tokens of a plan's plain text -/
theorem lx_plan {p : Plan} (h : POk p) : Lx (planL p) (tkP p) :=
  (((lx_head h).app (Lx.flat _ _ p.mets fun m hm => lx_met (h.mets m hm).1 (h.mets m hm).2.1)).app (Lx.flat _ _ p.fees fun f hf => lx_fee (h.fees f hf).2)).app (Lx.flat _ _ p.chgs fun c hc => lx_chgG (h.chgs c hc))
end Go.Proofs.YtcgkfgklggjmaaaDoor.Par
end
