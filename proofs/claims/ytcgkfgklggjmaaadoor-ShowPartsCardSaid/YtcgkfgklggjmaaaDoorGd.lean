import Derived.Test.YtcgkfgklggjmaaaDoorGc
import Derived.Test.YtcgkfgklggjmaaaDoorShelf
import Derived.Lib.ConvBytes
section
namespace Go.Proofs.YtcgkfgklggjmaaaDoor.Par
set_option linter.unusedVariables false
set_option linter.unusedSimpArgs false
open Go.RowKit
/-! a plan as a row of texts -/
def metT (m : Met) : List ByteArray := [m.name, m.unit, textB m.max]
def feeT (f : Fee) : List ByteArray := [textB f.amount] ++ winT f.win
def tierT (t : Tier) : List ByteArray := [textB t.upto, textB t.rate]
def adjT (a : Adj) : List ByteArray := [textB a.kind, textB a.n, textB a.mode]
def chgH (c : Chg) : List ByteArray := [c.meter] ++ winT c.win ++ [textB c.allow, textB c.block, textB c.kind, textB c.mode, textB c.tiers.length, textB c.adjs.length]
def chgT (c : Chg) : List ByteArray := chgH c ++ c.tiers.flatMap tierT ++ c.adjs.flatMap adjT
def headT (p : Plan) : List ByteArray := [p.name, p.cur] ++ winT ⟨false, p.from_, p.to_⟩ ++ [textB p.mets.length, textB p.fees.length, textB p.chgs.length]
def rowT (p : Plan) : List ByteArray := headT p ++ p.mets.flatMap metT ++ p.fees.flatMap feeT ++ p.chgs.flatMap chgT
/-- no row of a plan is longer than this -/
structure Small (p : Plan) : Prop where
  mets : p.mets.length ≤ 10000
  fees : p.fees.length ≤ 10000
  chgs : p.chgs.length ≤ 10000
  tiers : ∀ c ∈ p.chgs, c.tiers.length ≤ 10000
  adjs : ∀ c ∈ p.chgs, c.adjs.length ≤ 10000
theorem flat_take {α β : Type} (f : α → List β) {l : List α} {k : Nat} {a : α} (h : l[k]? = some a) : (l.take (k + 1)).flatMap f = (l.take k).flatMap f ++ f a := by
  rw [List.take_add_one, List.flatMap_append, h]
  simp
theorem flat_le {α β : Type} (f : α → List β) (n : Nat) : ∀ l : List α, (∀ a ∈ l, (f a).length ≤ n) → (l.flatMap f).length ≤ l.length * n
  | [], _ => by simp
  | a :: l, h => by
    have h1 := flat_le f n l (fun b hb => h b (by simp [hb]))
    have h2 := h a (by simp)
    rw [List.flatMap_cons, List.length_append, List.length_cons, Nat.succ_mul]
    omega
theorem winT_len (x : Win) : (winT x).length = 7 := rfl
theorem str_flat (l : List ByteArray) : l.flatMap strF = l.map Value.string := by
  induction l with
  | nil => rfl
  | cons a l ih => simp [strF, ih]
theorem strInfo : (Tryd.prog.info? 9).map (fun i => (i.zero, i.size, i.bytes)) = some (some (.string ⟨#[]⟩), 1, 16) := by kernel_rfl
/-- within Row: the plan's own block, and what has been written -/
structure RW (w0 w : World) (C : Array Value) (v : Value) (l : List ByteArray) : Prop where
  lb : LB w0 w
  kp : Blk w w0.heap.size 29 C
  out : w.ownsRow w0.heap.size 9 1 v l.length (l.flatMap strF)
section
variable {w0 w w' : World} {C : Array Value} {v : Value} {l : List ByteArray}
theorem RW.below (h : RW w0 w C v l) (hb : Below w.heap.size w w') : RW w0 w' C v l := ⟨h.lb.call hb, h.kp.call hb, own_keep h.out fun g hg => hb.block g (h.out.lt g hg).2⟩
theorem RW.alloc (h : RW w0 w C v l) (o : Obj) : RW w0 (w.alloc o) C v l := h.below (bl_alloc (bl_refl _) o)
theorem RW.drew (h : RW w0 w C v l) : RW w0 w.drew C v l := h.below (bl_drew (bl_refl _))
theorem RW.add {v' : Value} {m : Nat} {news : List Value} {l' : List ByteArray} (h : RW w0 w C v l) (hg : w.grownBy w' v.ownBlock) (ho : w'.ownsRow w0.heap.size 9 1 v' (l.length + m) (l.flatMap strF ++ news)) (hm : l'.length = m) (hn : l'.flatMap strF = news) : RW w0 w' C v' (l ++ l') :=
  ⟨⟨h.lb.out.grown hg h.lb.out.size (fun k hk => (h.out.lt k hk).1)⟩, h.kp.grown hg (fun e => own_ne_blk h.out h.kp (by decide) e.symm), by rw [List.length_append, hm, List.flatMap_append, hn]; exact ho⟩
theorem RW.apart (h : RW w0 w C v l) {g : Nat} {T : TypeId} {cells : Array Value} (hk : Blk w g T cells) (hT : 9 ≠ T) : some g ≠ v.ownBlock := fun e => own_ne_blk h.out hk hT e.symm
theorem RW.lt (h : RW w0 w C v l) : w0.heap.size < w.heap.size := h.kp.lt
end
set_option maxHeartbeats 16000000 in
set_option maxRecDepth 100000 in
theorem row_any {B : Nat} {p : Plan} {mv fv cv : Value} {cs : List CT} (w : World) (h : Rows w B p mv fv cv cs) (hsm : Small p) : Calls Tryd.prog 55 #[.agg (planC p mv fv cv)] w fun e w' => ∃ v, e = .returned v ∧ w'.ownsRow w.heap.size 9 1 v (rowT p).length ((rowT p).flatMap strF) ∧ Below w.heap.size w w' := by
  obtain ⟨Am, cm, rfl, hm1, hm2, hm3⟩ := Lies.open (f := metF) (l := p.mets) (Lies.of h.mo)
  obtain ⟨Af, cf, rfl, hf1, hf2, hf3⟩ := Lies.open (f := feeF) (l := p.fees) (Lies.of h.fo)
  obtain ⟨Ac, cc, rfl, hc1, hc2, hc3⟩ := Lies.open (f := chgF) (l := cs) (Lies.of h.co)
  have hcl : cs.length = p.chgs.length := by have := congrArg List.length h.eq; rwa [List.length_map] at this
  obtain ⟨n1, n2, n3, n4, n5⟩ := hsm
  replace n4 := Lib.hid n4
  replace n5 := Lib.hid n5
  have hR := Lib.hid h
  have hcl2 := Lib.hid hcl
  have n3' : cs.length ≤ 10000 := by omega
  clear h hcl
  obtain ⟨iS, hS0, hS1, hS2, hS3⟩ := info_parts strInfo
  have kb := Blk.new w 29 (planC p (.slice Am p.mets.length cm) (.slice Af p.fees.length cf) (.slice Ac cs.length cc))
  obtain ⟨c0, c1, c2, c3, c4, c5, c6, c7, c8, c9, c10, c11, c12, f0, f1, f2, f3, f4, f5, f6, f7, f8, f9, f10, f11, f12⟩ := kb.c13
  clear f0 f1 f2 f3 f4 f5 f6 f7 f8 f9 f10 f11 f12
  unfold planC
  have hW0 : RW w ((w.alloc (.cells #[.string p.name, .string p.cur, .int .i64 p.from_.1, .int .i64 p.from_.2.1, .int .i64 p.from_.2.2, .int .i64 p.to_.1, .int .i64 p.to_.2.1, .int .i64 p.to_.2.2, .slice Am p.mets.length cm, .slice Af p.fees.length cf, .slice Ac cs.length cc, .int .i64 p.line, .int .i64 p.col] 29)).alloc (.cells #[.string p.name, .string p.cur] 9)) (planC p (.slice Am p.mets.length cm) (.slice Af p.fees.length cf) (.slice Ac cs.length cc)) (.slice (some ⟨w.heap.size + 1, 0, none⟩) 2 2) [p.name, p.cur] := by
    refine ⟨⟨bl_alloc (bl_alloc (bl_refl w) _) _⟩, kb.alloc _, ?_⟩
    have hk := Blk.new (w.alloc (.cells #[.string p.name, .string p.cur, .int .i64 p.from_.1, .int .i64 p.from_.2.1, .int .i64 p.from_.2.2, .int .i64 p.to_.1, .int .i64 p.to_.2.1, .int .i64 p.to_.2.2, .slice Am p.mets.length cm, .slice Af p.fees.length cf, .slice Ac cs.length cc, .int .i64 p.line, .int .i64 p.col] 29)) 9 #[.string p.name, .string p.cur]
    rw [World.size_alloc] at hk
    exact ⟨rfl, .inr ⟨w.heap.size + 1, 2, _, rfl, Nat.le_succ _, hk, Nat.le_refl _, by decide, rfl, rfl⟩⟩
  have hwn := fun (W : World) => win6_any ⟨false, p.from_, p.to_⟩ W
  simp only at hwn
  replace hwn := Lib.hid hwn
  clear kb
  go_enter Tryd.func55, Tryd.ntmps55
  go_wp2_with fail
  refine (hwn.out _).mono ?_
  rintro e w1 ⟨g1, rfl, hk1, hg1, hb1⟩
  have hW1 := hW0.below hb1
  clear hW0 hb1 hwn c0 c1 c2 c3 c4 c5 c6 c7 c8 c9 c10 c11 c12
  have hl1 := hW1.lt
  go_wp2_with (at_builtin; refine wpList_append_lies _ rfl (.tmp 19) (.tmp 25) 79 rfl w.heap.size 9 iS _ 1 16 Tryd.underlying79 hS0 hS1 hS2 hS3 (by rfl) (by decide) _ _ _ (by rfl) hW1.out ⟨g1, 0, none⟩ 7 7 ((winT ⟨false, p.from_, p.to_⟩).map Value.string) (by rfl) (by rfl) (World.news_of_block (fr := (0, 0)) hk1) (by intro u hu; obtain ⟨b, _, rfl⟩ := List.mem_map.1 hu; rfl) (by decide) (by (try simp only [List.length_cons, List.length_nil, List.length_append, winT_len]); unfold maxLen; omega) (by (try simp only [List.length_cons, List.length_nil, List.length_append, winT_len]); omega) hW1.lb.out.size _ rfl ?_; intro g cp w10 hown10 hgrow10 hat10 hlt10; (have hW10 := hW1.add (l' := winT ⟨false, p.from_, p.to_⟩) hgrow10 hown10 rfl (str_flat _)))
  have hW2 := hW10
  have kP2 := hW2.kp
  unfold planC at kP2
  clear hW1 hk1 hgrow10 hown10 hat10 hlt10 hW10 hl1
  have kd_ : Blk w10.drew w.heap.size 29 #[.string p.name, .string p.cur, .int .i64 p.from_.1, .int .i64 p.from_.2.1, .int .i64 p.from_.2.2, .int .i64 p.to_.1, .int .i64 p.to_.2.1, .int .i64 p.to_.2.2, .slice Am p.mets.length cm, .slice Af p.fees.length cf, .slice Ac cs.length cc, .int .i64 p.line, .int .i64 p.col] := kP2.drew
  have hd_ : RW w w10.drew (planC p (.slice Am p.mets.length cm) (.slice Af p.fees.length cf) (.slice Ac cs.length cc)) (.slice (some ⟨g, 0, none⟩) ([p.name, p.cur].length + 7) cp) ([p.name, p.cur] ++ winT ⟨false, p.from_, p.to_⟩) := hW2.drew
  obtain ⟨_, _, _, _, _, _, _, _, k8_, k9_, k10_, _, _, _, _, _, _, _, _, _, _, _, _, _, _, _⟩ := kd_.c13
  go_region_held3 (fun w' => w'.cell? ⟨w.heap.size, 8, none⟩ = some (.slice Am p.mets.length cm) ∧ w'.cell? ⟨w.heap.size, 9, none⟩ = some (.slice Af p.fees.length cf) ∧ w'.cell? ⟨w.heap.size, 10, none⟩ = some (.slice Ac cs.length cc))
    (refine ⟨?_, ?_, ?_⟩ <;> first | with_reducible assumption | exact LB.alloc (by with_reducible assumption) _ | (go_keep; done))
    ((first | (refine step_append_lies _ (by rfl) (.tmp 27) (.tmp 40) 79 (by rfl) w.heap.size 9 iS _ 1 16 Tryd.underlying79 hS0 hS1 hS2 hS3 (by rfl) (by decide) _ _ _ (by rfl) (hW6.alloc _).out ⟨w6.heap.size, 0, none⟩ 3 3 [.string (textB p.mets.length), .string (textB p.fees.length), .string (textB cs.length)] (by rfl) rfl (World.news_of_block (cs := #[.string (textB p.mets.length), .string (textB p.fees.length), .string (textB cs.length)]) (t := 9) (fr := (0, 0)) (heap_alloc_new _ _)) (by simp [Value.oneCell']) (by decide) (by (try simp only [List.length_cons, List.length_nil, List.length_append, winT_len]); unfold maxLen; omega) (by (try simp only [List.length_cons, List.length_nil, List.length_append, winT_len]); omega) (hW6.alloc _).lb.out.size _ rfl ?_; intro g cp w10 hown10 hgrow10 hat10 hlt10; (have hW10 := (hW6.alloc _).add (l' := [textB p.mets.length, textB p.fees.length, textB cs.length]) hgrow10 hown10 rfl rfl); (have hl6 := hW6.lt); (have kX := kA.grown hgrow10 ((hW6.alloc _).apart kA (by decide))); obtain ⟨_, _, _, _, _, _, _, _, x8_, x9_, x10_, _, _, _, _, _, _, _, _, _, _, _, _, _, _, _⟩ := kX.c13) | (go_at_call 95; refine (text_any _ _).mono ?_; rintro e w6 ⟨rfl, hb6⟩; (have kW : Blk w6 w.heap.size 29 #[.string p.name, .string p.cur, .int .i64 p.from_.1, .int .i64 p.from_.2.1, .int .i64 p.from_.2.2, .int .i64 p.to_.1, .int .i64 p.to_.2.1, .int .i64 p.to_.2.2, .slice Am p.mets.length cm, .slice Af p.fees.length cf, .slice Ac cs.length cc, .int .i64 p.line, .int .i64 p.col] := Blk.call (by with_reducible assumption) hb6); obtain ⟨_, _, _, _, _, _, _, _, j8_, j9_, j10_, _, _, _, _, _, _, _, _, _, _, _, _, _, _, _⟩ := kW.c13; (have hW6 : RW w w6 (planC p (.slice Am p.mets.length cm) (.slice Af p.fees.length cf) (.slice Ac cs.length cc)) (.slice (some ⟨g, 0, none⟩) ([p.name, p.cur].length + 7) cp) ([p.name, p.cur] ++ winT ⟨false, p.from_, p.to_⟩) := RW.below (by with_reducible assumption) hb6); (have kA := kW.alloc (.cells #[.string (textB p.mets.length), .string (textB p.fees.length), .string (textB cs.length)] 9)); obtain ⟨_, _, _, _, _, _, _, _, a8_, a9_, a10_, _, _, _, _, _, _, _, _, _, _, _, _, _, _, _⟩ := kA.c13)))
  have hW3 := hW10
  have hH : ([p.name, p.cur] ++ winT ⟨false, p.from_, p.to_⟩) ++ [textB p.mets.length, textB p.fees.length, textB cs.length] = headT p := by unfold headT; rw [hcl2.out]
  rw [hH] at hW3
  clear hH hW2 kP2 hW6 hl6 hgrow10 hown10 hat10 hlt10 hW10 kA kX kW kd_ hd_ hb6 k8_ k9_ k10_ j8_ j9_ j10_ a8_ a9_ a10_ x8_ x9_ x10_
  have hP3 := hW3.kp
  unfold planC at hP3
  obtain ⟨_, _, _, _, _, _, _, _, z8_, z9_, z10_, _, _, _, _, _, _, _, _, _, _, _, _, _, _, _⟩ := hP3.c13
  go_wp2_with fail
  go_loopg [3, 45] p.mets.length (fun n_ v3_ vi_ wr => ∃ k : Nat, k ≤ p.mets.length ∧ vi_ = .int .i64 k ∧ n_ = p.mets.length - k ∧ RW w wr (planC p (.slice Am p.mets.length cm) (.slice Af p.fees.length cf) (.slice Ac cs.length cc)) v3_ (headT p ++ (p.mets.take k).flatMap metT))
  case atStart => exact ⟨0, Nat.zero_le _, rfl, rfl, by simpa using hW3⟩
  case round =>
    obtain ⟨k, hk, rfl, rfl, hW⟩ := hrel
    clear hW3 hP3 z8_ z9_ z10_
    by_cases hlt : k < p.mets.length
    · obtain ⟨m, hi⟩ : ∃ m, p.mets[k]? = some m := ⟨_, List.getElem?_eq_getElem hlt⟩
      obtain ⟨gm, rfl, hgm⟩ := hm3 (by omega)
      obtain ⟨L, hL⟩ : ∃ L, L = headT p ++ (p.mets.take k).flatMap metT := ⟨_, rfl⟩
      rw [← hL] at hW
      have hln : L.length ≤ 100000 := by
        have h1 := flat_le metT 3 (p.mets.take k) (fun _ _ => Nat.le_refl 3)
        have h2 : (headT p).length = 12 := rfl
        rw [List.length_take] at h1
        rw [hL, List.length_append]
        omega
      replace hL := Lib.hid hL
      have hLs := (Lies.of (hR.out.below hW.lb.out).mo : Lies metF 44 5 wr (.slice (some ⟨gm, 0, none⟩) p.mets.length cm) p.mets)
      have y0 := hLs.at metF_len hi (j := 0) rfl
      have y1 := hLs.at metF_len hi (j := 1) rfl
      have y2 := hLs.at metF_len hi (j := 2) rfl
      have y3 := hLs.at metF_len hi (j := 3) rfl
      have y4 := hLs.at metF_len hi (j := 4) rfl
      simp only [Nat.add_zero] at y0
      have b0 : (0 : Int) ≤ (k : Int) := by omega
      have b1 : (k : Int) < (p.mets.length : Int) := by omega
      have hlw := hW.lt
      have hWa := hW.alloc (.cells #[.string m.name, .string m.unit, .int .i64 m.max, .int .i64 m.line, .int .i64 m.col] 44)
      have kM := Blk.new wr 44 #[.string m.name, .string m.unit, .int .i64 m.max, .int .i64 m.line, .int .i64 m.col]
      replace hi := Lib.hid hi
      clear hLs
      go_wp2_with fail
      clear y0 y1 y2 y3 y4 hW
      generalize wr.alloc (.cells #[.string m.name, .string m.unit, .int .i64 m.max, .int .i64 m.line, .int .i64 m.col] 44) = W at *
      have kd_ : Blk W.drew wr.heap.size 44 #[.string m.name, .string m.unit, .int .i64 m.max, .int .i64 m.line, .int .i64 m.col] := kM.drew
      have hd_ : RW w W.drew (planC p (.slice (some ⟨gm, 0, none⟩) p.mets.length cm) (.slice Af p.fees.length cf) (.slice Ac cs.length cc)) u3 L := hWa.drew
      obtain ⟨k0_, k1_, k2_, _, _, _, _, _, _, _⟩ := kd_.c5
      go_region_held3 (fun w' => w'.cell? ⟨wr.heap.size, 0, none⟩ = some (.string m.name) ∧ w'.cell? ⟨wr.heap.size, 1, none⟩ = some (.string m.unit) ∧ w'.cell? ⟨wr.heap.size, 2, none⟩ = some (.int .i64 m.max))
        (refine ⟨?_, ?_, ?_⟩ <;> first | with_reducible assumption | exact LB.alloc (by with_reducible assumption) _ | (go_keep; done))
        ((first | (refine step_append_lies _ (by rfl) (.tmp 49) (.tmp 57) 79 (by rfl) w.heap.size 9 iS _ 1 16 Tryd.underlying79 hS0 hS1 hS2 hS3 (by rfl) (by decide) _ _ _ (by rfl) (hW6.alloc _).out ⟨w6.heap.size, 0, none⟩ 3 3 [.string m.name, .string m.unit, .string (textB m.max)] (by rfl) rfl (World.news_of_block (cs := #[.string m.name, .string m.unit, .string (textB m.max)]) (t := 9) (fr := (0, 0)) (heap_alloc_new _ _)) (by simp [Value.oneCell']) (by decide) (by (try simp only [List.length_cons, List.length_nil, List.length_append, winT_len]); unfold maxLen; omega) (by (try simp only [List.length_cons, List.length_nil, List.length_append, winT_len]); omega) (hW6.alloc _).lb.out.size _ rfl ?_; intro g cp w10 hown10 hgrow10 hat10 hlt10; (have hW10 := (hW6.alloc _).add (l' := [m.name, m.unit, textB m.max]) hgrow10 hown10 rfl rfl); (have hl6 := hW6.lt); (have kX := kA.grown hgrow10 ((hW6.alloc _).apart kA (by decide))); obtain ⟨x0_, x1_, x2_, _, _, _, _, _, _, _⟩ := kX.c5) | (go_at_call 95; refine (text_any _ _).mono ?_; rintro e w6 ⟨rfl, hb6⟩; (have kW : Blk w6 wr.heap.size 44 #[.string m.name, .string m.unit, .int .i64 m.max, .int .i64 m.line, .int .i64 m.col] := Blk.call (by with_reducible assumption) hb6); obtain ⟨j0_, j1_, j2_, _, _, _, _, _, _, _⟩ := kW.c5; (have hW6 : RW w w6 (planC p (.slice (some ⟨gm, 0, none⟩) p.mets.length cm) (.slice Af p.fees.length cf) (.slice Ac cs.length cc)) u3 L := RW.below (by with_reducible assumption) hb6); (have kA := kW.alloc (.cells #[.string m.name, .string m.unit, .string (textB m.max)] 9)); obtain ⟨a0_, a1_, a2_, _, _, _, _, _, _, _⟩ := kA.c5)))
      go_wp2_with fail
      go_roundg (p.mets.length - (k + 1))
      case rel => exact ⟨k + 1, by omega, by go_num, rfl, by rw [flat_take metT hi.out, ← List.append_assoc, ← hL.out]; exact hW10⟩
      case measure => omega
    · obtain rfl : k = p.mets.length := by omega
      rw [List.take_length] at hW
      have hW4 := hW
      clear hW
      have hP := hW4.kp
      unfold planC at hP
      obtain ⟨_, _, _, _, _, _, _, _, z8_, z9_, z10_, _, _, _, _, _, _, _, _, _, _, _, _, _, _, _⟩ := hP.c13
      go_wp2_with fail
      go_loopg [3, 63] p.fees.length (fun n_ v3_ vi_ wr => ∃ k : Nat, k ≤ p.fees.length ∧ vi_ = .int .i64 k ∧ n_ = p.fees.length - k ∧ RW w wr (planC p (.slice Am p.mets.length cm) (.slice Af p.fees.length cf) (.slice Ac cs.length cc)) v3_ ((headT p ++ p.mets.flatMap metT) ++ (p.fees.take k).flatMap feeT))
      case atStart => exact ⟨0, Nat.zero_le _, rfl, rfl, by simpa using hW4⟩
      case round =>
        obtain ⟨k, hk, rfl, rfl, hW⟩ := hrel
        clear hW4 hP z8_ z9_ z10_
        by_cases hlt : k < p.fees.length
        · obtain ⟨f, hi⟩ : ∃ f, p.fees[k]? = some f := ⟨_, List.getElem?_eq_getElem hlt⟩
          obtain ⟨gf, rfl, hgf⟩ := hf3 (by omega)
          obtain ⟨L, hL⟩ : ∃ L, L = headT p ++ p.mets.flatMap metT ++ (p.fees.take k).flatMap feeT := ⟨_, rfl⟩
          rw [← hL] at hW
          have hln : L.length ≤ 1000000 := by
            have h1 := flat_le feeT 8 (p.fees.take k) (fun _ _ => Nat.le_refl 8)
            have h3 := flat_le metT 3 p.mets (fun _ _ => Nat.le_refl 3)
            have h2 : (headT p).length = 12 := rfl
            rw [List.length_take] at h1
            rw [hL, List.length_append, List.length_append]
            omega
          replace hL := Lib.hid hL
          have hLs := (Lies.of (hR.out.below hW.lb.out).fo : Lies feeF 48 10 wr (.slice (some ⟨gf, 0, none⟩) p.fees.length cf) p.fees)
          have y0 := hLs.at feeF_len hi (j := 0) rfl
          have y1 := hLs.at feeF_len hi (j := 1) rfl
          have y2 := hLs.at feeF_len hi (j := 2) rfl
          have y3 := hLs.at feeF_len hi (j := 3) rfl
          have y4 := hLs.at feeF_len hi (j := 4) rfl
          have y5 := hLs.at feeF_len hi (j := 5) rfl
          have y6 := hLs.at feeF_len hi (j := 6) rfl
          have y7 := hLs.at feeF_len hi (j := 7) rfl
          have y8 := hLs.at feeF_len hi (j := 8) rfl
          have y9 := hLs.at feeF_len hi (j := 9) rfl
          simp only [Nat.add_zero] at y0
          have b0 : (0 : Int) ≤ (k : Int) := by omega
          have b1 : (k : Int) < (p.fees.length : Int) := by omega
          have hlw := hW.lt
          have hWa := hW.alloc (.cells #[.int .i64 f.amount, .bool f.win.has, .int .i64 f.win.from_.1, .int .i64 f.win.from_.2.1, .int .i64 f.win.from_.2.2, .int .i64 f.win.to_.1, .int .i64 f.win.to_.2.1, .int .i64 f.win.to_.2.2, .int .i64 f.line, .int .i64 f.col] 48)
          have kM := Blk.new wr 48 #[.int .i64 f.amount, .bool f.win.has, .int .i64 f.win.from_.1, .int .i64 f.win.from_.2.1, .int .i64 f.win.from_.2.2, .int .i64 f.win.to_.1, .int .i64 f.win.to_.2.1, .int .i64 f.win.to_.2.2, .int .i64 f.line, .int .i64 f.col]
          replace hi := Lib.hid hi
          clear hLs
          go_wp2_with fail
          clear y0 y1 y2 y3 y4 y5 y6 y7 y8 y9 hW
          generalize wr.alloc (.cells #[.int .i64 f.amount, .bool f.win.has, .int .i64 f.win.from_.1, .int .i64 f.win.from_.2.1, .int .i64 f.win.from_.2.2, .int .i64 f.win.to_.1, .int .i64 f.win.to_.2.1, .int .i64 f.win.to_.2.2, .int .i64 f.line, .int .i64 f.col] 48) = W at *
          have hlW := hWa.lt
          have kd_ : Blk W.drew wr.heap.size 48 #[.int .i64 f.amount, .bool f.win.has, .int .i64 f.win.from_.1, .int .i64 f.win.from_.2.1, .int .i64 f.win.from_.2.2, .int .i64 f.win.to_.1, .int .i64 f.win.to_.2.1, .int .i64 f.win.to_.2.2, .int .i64 f.line, .int .i64 f.col] := kM.drew
          have hd_ : RW w W.drew (planC p (.slice Am p.mets.length cm) (.slice (some ⟨gf, 0, none⟩) p.fees.length cf) (.slice Ac cs.length cc)) u3 L := hWa.drew
          obtain ⟨k0_, k1_, k2_, k3_, k4_, k5_, k6_, k7_, _, _, _, _, _, _, _, _, _, _, _, _⟩ := kd_.c10
          go_region_held3 (fun w' => w'.cell? ⟨wr.heap.size, 0, none⟩ = some (.int .i64 f.amount) ∧ w'.cell? ⟨wr.heap.size, 1, none⟩ = some (.bool f.win.has) ∧ w'.cell? ⟨wr.heap.size, 2, none⟩ = some (.int .i64 f.win.from_.1) ∧ w'.cell? ⟨wr.heap.size, 3, none⟩ = some (.int .i64 f.win.from_.2.1) ∧ w'.cell? ⟨wr.heap.size, 4, none⟩ = some (.int .i64 f.win.from_.2.2) ∧ w'.cell? ⟨wr.heap.size, 5, none⟩ = some (.int .i64 f.win.to_.1) ∧ w'.cell? ⟨wr.heap.size, 6, none⟩ = some (.int .i64 f.win.to_.2.1) ∧ w'.cell? ⟨wr.heap.size, 7, none⟩ = some (.int .i64 f.win.to_.2.2))
            (refine ⟨?_, ?_, ?_, ?_, ?_, ?_, ?_, ?_⟩ <;> first | with_reducible assumption | exact LB.alloc (by with_reducible assumption) _ | (go_keep; done))
            ((first | (refine step_append_lies _ (by rfl) (.tmp 72) (.tmp 75) 79 (by rfl) w.heap.size 9 iS _ 1 16 Tryd.underlying79 hS0 hS1 hS2 hS3 (by rfl) (by decide) _ _ _ (by rfl) hW11.out ⟨g1, 0, none⟩ 7 7 ((winT f.win).map Value.string) (by rfl) (by rfl) (World.news_of_block (fr := (0, 0)) hk1) (by intro u hu; obtain ⟨b, _, rfl⟩ := List.mem_map.1 hu; rfl) (by decide) (by (try simp only [List.length_cons, List.length_nil, List.length_append, winT_len]); unfold maxLen; omega) (by (try simp only [List.length_cons, List.length_nil, List.length_append, winT_len]); omega) hW11.lb.out.size _ rfl ?_; intro g2 cp2 w12 hown12 hgrow12 hat12 hlt12; (have hW12 := hW11.add (l' := winT f.win) hgrow12 hown12 rfl (str_flat _)); (have kZ := kY.grown hgrow12 (hW11.apart kY (by decide))); obtain ⟨q0_, q1_, q2_, q3_, q4_, q5_, q6_, q7_, _, _, _, _, _, _, _, _, _, _, _, _⟩ := kZ.c10) | (refine step_append_lies _ (by rfl) (.tmp 67) (.tmp 71) 79 (by rfl) w.heap.size 9 iS _ 1 16 Tryd.underlying79 hS0 hS1 hS2 hS3 (by rfl) (by decide) _ _ _ (by rfl) (hW6.alloc _).out ⟨w6.heap.size, 0, none⟩ 1 1 [.string (textB f.amount)] (by rfl) rfl (World.news_of_block (cs := #[.string (textB f.amount)]) (t := 9) (fr := (0, 0)) (heap_alloc_new _ _)) (by simp [Value.oneCell']) (by decide) (by (try simp only [List.length_cons, List.length_nil, List.length_append, winT_len]); unfold maxLen; omega) (by (try simp only [List.length_cons, List.length_nil, List.length_append, winT_len]); omega) (hW6.alloc _).lb.out.size _ rfl ?_; intro g cp w10 hown10 hgrow10 hat10 hlt10; (have hW10 := (hW6.alloc _).add (l' := [textB f.amount]) hgrow10 hown10 rfl rfl); (have hl6 := hW6.lt); (have kX := kA.grown hgrow10 ((hW6.alloc _).apart kA (by decide))); obtain ⟨x0_, x1_, x2_, x3_, x4_, x5_, x6_, x7_, _, _, _, _, _, _, _, _, _, _, _, _⟩ := kX.c10) | (go_at_call 95; refine (text_any _ _).mono ?_; rintro e w6 ⟨rfl, hb6⟩; (have kW : Blk w6 wr.heap.size 48 #[.int .i64 f.amount, .bool f.win.has, .int .i64 f.win.from_.1, .int .i64 f.win.from_.2.1, .int .i64 f.win.from_.2.2, .int .i64 f.win.to_.1, .int .i64 f.win.to_.2.1, .int .i64 f.win.to_.2.2, .int .i64 f.line, .int .i64 f.col] := Blk.call kd_ hb6); obtain ⟨j0_, j1_, j2_, j3_, j4_, j5_, j6_, j7_, _, _, _, _, _, _, _, _, _, _, _, _⟩ := kW.c10; (have hW6 : RW w w6 (planC p (.slice Am p.mets.length cm) (.slice (some ⟨gf, 0, none⟩) p.fees.length cf) (.slice Ac cs.length cc)) u3 L := RW.below hd_ hb6); (have kA := kW.alloc (.cells #[.string (textB f.amount)] 9)); obtain ⟨a0_, a1_, a2_, a3_, a4_, a5_, a6_, a7_, _, _, _, _, _, _, _, _, _, _, _, _⟩ := kA.c10) | (go_at_call 94; refine (win6_any f.win _).mono ?_; rintro e w11 ⟨g1, rfl, hk1, hg1, hb11⟩; (have kY := kX.call hb11); obtain ⟨v0_, v1_, v2_, v3_, v4_, v5_, v6_, v7_, _, _, _, _, _, _, _, _, _, _, _, _⟩ := kY.c10; (have hW11 := hW10.below hb11))))
          go_wp2_with fail
          go_roundg (p.fees.length - (k + 1))
          case rel => exact ⟨k + 1, by omega, by go_num, rfl, by rw [flat_take feeT hi.out, ← List.append_assoc, ← hL.out]; unfold feeT; rw [← List.append_assoc]; simp only [List.length_append, List.length_singleton] at hW12; exact hW12⟩
          case measure => omega
        · obtain rfl : k = p.fees.length := by omega
          rw [List.take_length] at hW
          have hW5 := hW
          clear hW
          have hP := hW5.kp
          unfold planC at hP
          obtain ⟨_, _, _, _, _, _, _, _, z8_, z9_, z10_, _, _, _, _, _, _, _, _, _, _, _, _, _, _, _⟩ := hP.c13
          go_wp2_with fail
          go_loopg [3, 81] cs.length (fun n_ v3_ vi_ wr => ∃ k : Nat, k ≤ cs.length ∧ vi_ = .int .i64 k ∧ n_ = cs.length - k ∧ RW w wr (planC p (.slice Am p.mets.length cm) (.slice Af p.fees.length cf) (.slice Ac cs.length cc)) v3_ ((headT p ++ p.mets.flatMap metT ++ p.fees.flatMap feeT) ++ (cs.take k).flatMap (fun x => chgT x.1)))
          case atStart => exact ⟨0, Nat.zero_le _, rfl, rfl, by simpa using hW5⟩
          case round =>
            obtain ⟨k, hk, rfl, rfl, hW⟩ := hrel
            clear hW5 hP z8_ z9_ z10_
            by_cases hlt : k < cs.length
            · obtain ⟨⟨c, tv, av⟩, hi⟩ : ∃ c, cs[k]? = some c := ⟨_, List.getElem?_eq_getElem hlt⟩
              have hmem : (c, tv, av) ∈ cs := List.mem_of_getElem? hi
              have hcm : c ∈ p.chgs := by rw [← hR.out.eq]; exact List.mem_map.2 ⟨_, hmem, rfl⟩
              have q4 := n4.out c hcm
              have q5 := n5.out c hcm
              have hti := (hR.out.ne _ hmem).1
              have haj := (hR.out.ne _ hmem).2
              simp only at hti haj
              obtain ⟨At, ct, rfl, ht1, ht2, ht3⟩ := Lies.open (f := tierF) (l := c.tiers) (Lies.of hti)
              obtain ⟨Aa, ca, rfl, ha1, ha2, ha3⟩ := Lies.open (f := adjF) (l := c.adjs) (Lies.of haj)
              replace hti := Lib.hid hti
              replace haj := Lib.hid haj
              replace hmem := Lib.hid hmem
              clear hcm
              obtain ⟨gc, rfl, hgc⟩ := hc3 (by omega)
              obtain ⟨L, hL⟩ : ∃ L, L = headT p ++ p.mets.flatMap metT ++ p.fees.flatMap feeT ++ (cs.take k).flatMap (fun x => chgT x.1) := ⟨_, rfl⟩
              rw [← hL] at hW
              have hln : L.length ≤ 600000000 := by
                have h1 := flat_le (fun x : CT => chgT x.1) 50014 (cs.take k) (fun x hx => by
                  have hm := List.mem_of_mem_take hx
                  have hm2 : x.1 ∈ p.chgs := by rw [← hR.out.eq]; exact List.mem_map.2 ⟨_, hm, rfl⟩
                  have e4 := n4.out x.1 hm2
                  have e5 := n5.out x.1 hm2
                  have e6 := flat_le tierT 2 x.1.tiers (fun _ _ => Nat.le_refl 2)
                  have e7 := flat_le adjT 3 x.1.adjs (fun _ _ => Nat.le_refl 3)
                  have e8 : (chgH x.1).length = 14 := rfl
                  show (chgH x.1 ++ x.1.tiers.flatMap tierT ++ x.1.adjs.flatMap adjT).length ≤ 50014
                  rw [List.length_append, List.length_append]
                  omega)
                have h3 := flat_le metT 3 p.mets (fun _ _ => Nat.le_refl 3)
                have h4 := flat_le feeT 8 p.fees (fun _ _ => Nat.le_refl 8)
                have h2 : (headT p).length = 12 := rfl
                rw [List.length_take] at h1
                rw [hL, List.length_append, List.length_append, List.length_append]
                omega
              replace hL := Lib.hid hL
              have hLs := (Lies.of (hR.out.below hW.lb.out).co : Lies chgF 52 16 wr (.slice (some ⟨gc, 0, none⟩) cs.length cc) cs)
              have y0 := hLs.at chgF_len hi (j := 0) rfl
              have y1 := hLs.at chgF_len hi (j := 1) rfl
              have y2 := hLs.at chgF_len hi (j := 2) rfl
              have y3 := hLs.at chgF_len hi (j := 3) rfl
              have y4 := hLs.at chgF_len hi (j := 4) rfl
              have y5 := hLs.at chgF_len hi (j := 5) rfl
              have y6 := hLs.at chgF_len hi (j := 6) rfl
              have y7 := hLs.at chgF_len hi (j := 7) rfl
              have y8 := hLs.at chgF_len hi (j := 8) rfl
              have y9 := hLs.at chgF_len hi (j := 9) rfl
              have y10 := hLs.at chgF_len hi (j := 10) rfl
              have y11 := hLs.at chgF_len hi (j := 11) rfl
              have y12 := hLs.at chgF_len hi (j := 12) rfl
              have y13 := hLs.at chgF_len hi (j := 13) rfl
              have y14 := hLs.at chgF_len hi (j := 14) rfl
              have y15 := hLs.at chgF_len hi (j := 15) rfl
              simp only [Nat.add_zero] at y0
              have b0 : (0 : Int) ≤ (k : Int) := by omega
              have b1 : (k : Int) < (cs.length : Int) := by omega
              have hlw := hW.lt
              have hWa := hW.alloc (.cells #[.string c.meter, .bool c.win.has, .int .i64 c.win.from_.1, .int .i64 c.win.from_.2.1, .int .i64 c.win.from_.2.2, .int .i64 c.win.to_.1, .int .i64 c.win.to_.2.1, .int .i64 c.win.to_.2.2, .int .i64 c.allow, .int .i64 c.block, .int .i64 c.kind, .slice At c.tiers.length ct, .int .i64 c.mode, .slice Aa c.adjs.length ca, .int .i64 c.line, .int .i64 c.col] 52)
              have kM := Blk.new wr 52 #[.string c.meter, .bool c.win.has, .int .i64 c.win.from_.1, .int .i64 c.win.from_.2.1, .int .i64 c.win.from_.2.2, .int .i64 c.win.to_.1, .int .i64 c.win.to_.2.1, .int .i64 c.win.to_.2.2, .int .i64 c.allow, .int .i64 c.block, .int .i64 c.kind, .slice At c.tiers.length ct, .int .i64 c.mode, .slice Aa c.adjs.length ca, .int .i64 c.line, .int .i64 c.col]
              replace hi := Lib.hid hi
              clear hLs
              go_wp2_with fail
              clear y0 y1 y2 y3 y4 y5 y6 y7 y8 y9 y10 y11 y12 y13 y14 y15 hW
              generalize wr.alloc (.cells #[.string c.meter, .bool c.win.has, .int .i64 c.win.from_.1, .int .i64 c.win.from_.2.1, .int .i64 c.win.from_.2.2, .int .i64 c.win.to_.1, .int .i64 c.win.to_.2.1, .int .i64 c.win.to_.2.2, .int .i64 c.allow, .int .i64 c.block, .int .i64 c.kind, .slice At c.tiers.length ct, .int .i64 c.mode, .slice Aa c.adjs.length ca, .int .i64 c.line, .int .i64 c.col] 52) = W at *
              have hlW := hWa.lt
              have hGW := kM.lt
              generalize wr.heap.size = GM at *
              have kd_ : Blk W.drew GM 52 #[.string c.meter, .bool c.win.has, .int .i64 c.win.from_.1, .int .i64 c.win.from_.2.1, .int .i64 c.win.from_.2.2, .int .i64 c.win.to_.1, .int .i64 c.win.to_.2.1, .int .i64 c.win.to_.2.2, .int .i64 c.allow, .int .i64 c.block, .int .i64 c.kind, .slice At c.tiers.length ct, .int .i64 c.mode, .slice Aa c.adjs.length ca, .int .i64 c.line, .int .i64 c.col] := kM.drew
              obtain ⟨k0_, k1_, k2_, k3_, k4_, k5_, k6_, k7_, _, _, _, _, _, _, _, _, _, _, _, _, _, _, _, _, _, _, _, _, _, _, _, _⟩ := kd_.c16
              have ke_ : Blk (W.alloc (.cells #[.string c.meter] 9)).drew GM 52 #[.string c.meter, .bool c.win.has, .int .i64 c.win.from_.1, .int .i64 c.win.from_.2.1, .int .i64 c.win.from_.2.2, .int .i64 c.win.to_.1, .int .i64 c.win.to_.2.1, .int .i64 c.win.to_.2.2, .int .i64 c.allow, .int .i64 c.block, .int .i64 c.kind, .slice At c.tiers.length ct, .int .i64 c.mode, .slice Aa c.adjs.length ca, .int .i64 c.line, .int .i64 c.col] := (kM.alloc (.cells #[.string c.meter] 9)).drew
              obtain ⟨e0_, e1_, e2_, e3_, e4_, e5_, e6_, e7_, _, _, _, _, _, _, _, _, _, _, _, _, _, _, _, _, _, _, _, _, _, _, _, _⟩ := ke_.c16
              have he_ : RW w (W.alloc (.cells #[.string c.meter] 9)).drew (planC p (.slice Am p.mets.length cm) (.slice Af p.fees.length cf) (.slice (some ⟨gc, 0, none⟩) cs.length cc)) u3 L := (hWa.alloc (.cells #[.string c.meter] 9)).drew
              have hne_ : (W.alloc (.cells #[.string c.meter] 9)).drew.heap[W.heap.size]? = some (.cells #[.string c.meter] 9) := heap_alloc_new W (.cells #[.string c.meter] 9)
              go_region_held3 (fun w' => w'.cell? ⟨GM, 0, none⟩ = some (.string c.meter) ∧ w'.cell? ⟨GM, 1, none⟩ = some (.bool c.win.has) ∧ w'.cell? ⟨GM, 2, none⟩ = some (.int .i64 c.win.from_.1) ∧ w'.cell? ⟨GM, 3, none⟩ = some (.int .i64 c.win.from_.2.1) ∧ w'.cell? ⟨GM, 4, none⟩ = some (.int .i64 c.win.from_.2.2) ∧ w'.cell? ⟨GM, 5, none⟩ = some (.int .i64 c.win.to_.1) ∧ w'.cell? ⟨GM, 6, none⟩ = some (.int .i64 c.win.to_.2.1) ∧ w'.cell? ⟨GM, 7, none⟩ = some (.int .i64 c.win.to_.2.2))
                (refine ⟨?_, ?_, ?_, ?_, ?_, ?_, ?_, ?_⟩ <;> first | with_reducible assumption | exact LB.alloc (by with_reducible assumption) _ | (go_keep; done))
                ((first | (refine step_append_lies _ (by rfl) (.tmp 89) (.tmp 92) 79 (by rfl) w.heap.size 9 iS _ 1 16 Tryd.underlying79 hS0 hS1 hS2 hS3 (by rfl) (by decide) _ _ _ (by rfl) hW11.out ⟨g1, 0, none⟩ 7 7 ((winT c.win).map Value.string) (by rfl) (by rfl) (World.news_of_block (fr := (0, 0)) hk1) (by intro u hu; obtain ⟨b, _, rfl⟩ := List.mem_map.1 hu; rfl) (by decide) (by (try simp only [List.length_cons, List.length_nil, List.length_append, winT_len]); unfold maxLen; omega) (by (try simp only [List.length_cons, List.length_nil, List.length_append, winT_len]); omega) hW11.lb.out.size _ rfl ?_; intro g2 cp2 w12 hown12 hgrow12 hat12 hlt12; (have hW12 := hW11.add (l' := winT c.win) hgrow12 hown12 rfl (str_flat _)); (have kZ := kY.grown hgrow12 (hW11.apart kY (by decide))); obtain ⟨q0_, q1_, q2_, q3_, q4_, q5_, q6_, q7_, _, _, _, _, _, _, _, _, _, _, _, _, _, _, _, _, _, _, _, _, _, _, _, _⟩ := kZ.c16) | (refine step_append_lies _ (by rfl) (.tmp 85) (.tmp 88) 79 (by rfl) w.heap.size 9 iS _ 1 16 Tryd.underlying79 hS0 hS1 hS2 hS3 (by rfl) (by decide) _ _ _ (by rfl) he_.out ⟨W.heap.size, 0, none⟩ 1 1 [.string c.meter] (by rfl) rfl (World.news_of_block (cs := #[.string c.meter]) (t := 9) (fr := (0, 0)) hne_) (by simp [Value.oneCell']) (by decide) (by (try simp only [List.length_cons, List.length_nil, List.length_append, winT_len]); unfold maxLen; omega) (by (try simp only [List.length_cons, List.length_nil, List.length_append, winT_len]); omega) he_.lb.out.size _ rfl ?_; intro g cp w10 hown10 hgrow10 hat10 hlt10; (have hW10 := he_.add (l' := [c.meter]) hgrow10 hown10 rfl rfl); (have kX := ke_.grown hgrow10 (he_.apart ke_ (by decide))); obtain ⟨x0_, x1_, x2_, x3_, x4_, x5_, x6_, x7_, _, _, _, _, _, _, _, _, _, _, _, _, _, _, _, _, _, _, _, _, _, _, _, _⟩ := kX.c16) | (go_at_call 94; refine (win6_any c.win _).mono ?_; rintro e w11 ⟨g1, rfl, hk1, hg1, hb11⟩; (have kY := kX.call hb11); obtain ⟨v0_, v1_, v2_, v3_, v4_, v5_, v6_, v7_, _, _, _, _, _, _, _, _, _, _, _, _, _, _, _, _, _, _, _, _, _, _, _, _⟩ := kY.c16; (have hW11 := hW10.below hb11))))
              simp only [List.length_append, List.length_singleton] at hW12
              clear k0_ k1_ k2_ k3_ k4_ k5_ k6_ k7_ e0_ e1_ e2_ e3_ e4_ e5_ e6_ e7_ x0_ x1_ x2_ x3_ x4_ x5_ x6_ x7_ v0_ v1_ v2_ v3_ v4_ v5_ v6_ v7_ q0_ q1_ q2_ q3_ q4_ q5_ q6_ q7_ kd_ ke_ he_ hne_ kX kY hk1 hW10 hW11 hgrow10 hgrow12 hown10 hown12 hat10 hat12 hlt10 hlt12
              go_wp2_with fail
              obtain ⟨L2, hL2⟩ : ∃ L2, L2 = L ++ [c.meter] ++ winT c.win := ⟨_, rfl⟩
              have hln3 : L2.length = L.length + 8 := by rw [hL2, List.length_append, List.length_append]; rfl
              rw [← hL2] at hW12
              rw [show L.length + 1 + 7 = L2.length from by omega] at hW12
              have hsv : (.slice (some ⟨g2, 0, none⟩) (L.length + 1 + 7) cp2 : Value) = (.slice (some ⟨g2, 0, none⟩) L2.length cp2) := by rw [hln3]
              rw [hsv]
              clear hsv
              replace hL2 := Lib.hid hL2
              replace hln3 := Lib.hid hln3
              have hln4 : L2.length ≤ 600000008 := by rw [hln3.out]; omega
              have kd_ : Blk w12.drew GM 52 #[.string c.meter, .bool c.win.has, .int .i64 c.win.from_.1, .int .i64 c.win.from_.2.1, .int .i64 c.win.from_.2.2, .int .i64 c.win.to_.1, .int .i64 c.win.to_.2.1, .int .i64 c.win.to_.2.2, .int .i64 c.allow, .int .i64 c.block, .int .i64 c.kind, .slice At c.tiers.length ct, .int .i64 c.mode, .slice Aa c.adjs.length ca, .int .i64 c.line, .int .i64 c.col] := kZ.drew
              have hd_ : RW w w12.drew (planC p (.slice Am p.mets.length cm) (.slice Af p.fees.length cf) (.slice (some ⟨gc, 0, none⟩) cs.length cc)) (.slice (some ⟨g2, 0, none⟩) L2.length cp2) L2 := hW12.drew
              obtain ⟨_, _, _, _, _, _, _, _, k8_, k9_, k10_, k11_, k12_, k13_, _, _, _, _, _, _, _, _, _, _, _, _, _, _, _, _, _, _⟩ := kd_.c16
              go_region_held3 (fun w' => w'.cell? ⟨GM, 8, none⟩ = some (.int .i64 c.allow) ∧ w'.cell? ⟨GM, 9, none⟩ = some (.int .i64 c.block) ∧ w'.cell? ⟨GM, 10, none⟩ = some (.int .i64 c.kind) ∧ w'.cell? ⟨GM, 11, none⟩ = some (.slice At c.tiers.length ct) ∧ w'.cell? ⟨GM, 12, none⟩ = some (.int .i64 c.mode) ∧ w'.cell? ⟨GM, 13, none⟩ = some (.slice Aa c.adjs.length ca))
                (refine ⟨?_, ?_, ?_, ?_, ?_, ?_⟩ <;> first | with_reducible assumption | exact LB.alloc (by with_reducible assumption) _ | (go_keep; done))
                ((first | (refine step_append_lies _ (by rfl) (.tmp 94) (.tmp 115) 79 (by rfl) w.heap.size 9 iS _ 1 16 Tryd.underlying79 hS0 hS1 hS2 hS3 (by rfl) (by decide) _ _ _ (by rfl) (hW6.alloc _).out ⟨w6.heap.size, 0, none⟩ 6 6 [.string (textB c.allow), .string (textB c.block), .string (textB c.kind), .string (textB c.mode), .string (textB c.tiers.length), .string (textB c.adjs.length)] (by rfl) rfl (World.news_of_block (cs := #[.string (textB c.allow), .string (textB c.block), .string (textB c.kind), .string (textB c.mode), .string (textB c.tiers.length), .string (textB c.adjs.length)]) (t := 9) (fr := (0, 0)) (heap_alloc_new _ _)) (by simp [Value.oneCell']) (by decide) (by (try simp only [List.length_cons, List.length_nil, List.length_append, winT_len]); unfold maxLen; omega) (by (try simp only [List.length_cons, List.length_nil, List.length_append, winT_len]); omega) (hW6.alloc _).lb.out.size _ rfl ?_; intro g cp w10 hown10 hgrow10 hat10 hlt10; (have hW10 := (hW6.alloc _).add (l' := [textB c.allow, textB c.block, textB c.kind, textB c.mode, textB c.tiers.length, textB c.adjs.length]) hgrow10 hown10 rfl rfl); (have hl6 := hW6.lt); (have kX := kA.grown hgrow10 ((hW6.alloc _).apart kA (by decide))); obtain ⟨_, _, _, _, _, _, _, _, x8_, x9_, x10_, x11_, x12_, x13_, _, _, _, _, _, _, _, _, _, _, _, _, _, _, _, _, _, _⟩ := kX.c16) | (go_at_call 95; refine (text_any _ _).mono ?_; rintro e w6 ⟨rfl, hb6⟩; (have kW : Blk w6 GM 52 #[.string c.meter, .bool c.win.has, .int .i64 c.win.from_.1, .int .i64 c.win.from_.2.1, .int .i64 c.win.from_.2.2, .int .i64 c.win.to_.1, .int .i64 c.win.to_.2.1, .int .i64 c.win.to_.2.2, .int .i64 c.allow, .int .i64 c.block, .int .i64 c.kind, .slice At c.tiers.length ct, .int .i64 c.mode, .slice Aa c.adjs.length ca, .int .i64 c.line, .int .i64 c.col] := Blk.call (by with_reducible assumption) hb6); obtain ⟨_, _, _, _, _, _, _, _, j8_, j9_, j10_, j11_, j12_, j13_, _, _, _, _, _, _, _, _, _, _, _, _, _, _, _, _, _, _⟩ := kW.c16; (have hW6 : RW w w6 (planC p (.slice Am p.mets.length cm) (.slice Af p.fees.length cf) (.slice (some ⟨gc, 0, none⟩) cs.length cc)) (.slice (some ⟨g2, 0, none⟩) L2.length cp2) L2 := RW.below (by with_reducible assumption) hb6); (have kA := kW.alloc (.cells #[.string (textB c.allow), .string (textB c.block), .string (textB c.kind), .string (textB c.mode), .string (textB c.tiers.length), .string (textB c.adjs.length)] 9)); obtain ⟨_, _, _, _, _, _, _, _, a8_, a9_, a10_, a11_, a12_, a13_, _, _, _, _, _, _, _, _, _, _, _, _, _, _, _, _, _, _⟩ := kA.c16)))
              have hLC0 : L2 ++ [textB c.allow, textB c.block, textB c.kind, textB c.mode, textB c.tiers.length, textB c.adjs.length] = L ++ chgH c := by rw [hL2.out]; unfold chgH; simp only [List.append_assoc]
              obtain ⟨LC, hLC⟩ : ∃ LC, LC = L ++ chgH c := ⟨_, rfl⟩
              rw [hLC0, ← hLC] at hW10
              have hlnC : LC.length ≤ 600000014 := by rw [hLC, List.length_append, show (chgH c).length = 14 from rfl]; omega
              replace hLC := Lib.hid hLC
              have hT := hW10
              have hTk := kX
              go_wp2_with fail
              clear hLC0 hW10 hW12 kX kZ kA kW hW6 hl6 hgrow10 hown10 hat10 hlt10 hd_ kd_ k8_ k9_ k10_ k11_ k12_ k13_ j8_ j9_ j10_ j11_ j12_ j13_ a8_ a9_ a10_ a11_ a12_ a13_
              go_loopg [3, 120] c.tiers.length (fun n_ v3_ vi_ wr2 => ∃ k2 : Nat, k2 ≤ c.tiers.length ∧ vi_ = .int .i64 k2 ∧ n_ = c.tiers.length - k2 ∧ RW w wr2 (planC p (.slice Am p.mets.length cm) (.slice Af p.fees.length cf) (.slice (some ⟨gc, 0, none⟩) cs.length cc)) v3_ (LC ++ (c.tiers.take k2).flatMap tierT) ∧ Blk wr2 GM 52 #[.string c.meter, .bool c.win.has, .int .i64 c.win.from_.1, .int .i64 c.win.from_.2.1, .int .i64 c.win.from_.2.2, .int .i64 c.win.to_.1, .int .i64 c.win.to_.2.1, .int .i64 c.win.to_.2.2, .int .i64 c.allow, .int .i64 c.block, .int .i64 c.kind, .slice At c.tiers.length ct, .int .i64 c.mode, .slice Aa c.adjs.length ca, .int .i64 c.line, .int .i64 c.col])
              case atStart => exact ⟨0, Nat.zero_le _, rfl, rfl, by simpa using hT, hTk⟩
              case round =>
                obtain ⟨k2, hkk2, rfl, rfl, hV, kC⟩ := hrel
                clear hT hTk x8_ x9_ x10_ x11_ x12_ x13_
                by_cases hltk2 : k2 < c.tiers.length
                · obtain ⟨t, hik2⟩ : ∃ t, c.tiers[k2]? = some t := ⟨_, List.getElem?_eq_getElem hltk2⟩
                  obtain ⟨gt, rfl, hgt⟩ := ht3 (by omega)
                  obtain ⟨Mk2, hMk2⟩ : ∃ L, L = LC ++ (c.tiers.take k2).flatMap tierT := ⟨_, rfl⟩
                  rw [← hMk2] at hV
                  have hln2 : Mk2.length ≤ 700000000 := by
                    have h1 := flat_le tierT 2 (c.tiers.take k2) (fun _ _ => Nat.le_refl 2)
                    rw [List.length_take] at h1
                    rw [hMk2, List.length_append]
                    omega
                  replace hMk2 := Lib.hid hMk2
                  have hLs2 := (Lies.of ((hR.out.below hV.lb.out).ne _ hmem.out).1 : Lies tierF 119 2 wr (.slice (some ⟨gt, 0, none⟩) c.tiers.length ct) c.tiers)
                  have y0 := hLs2.at tierF_len hik2 (j := 0) rfl
                  have y1 := hLs2.at tierF_len hik2 (j := 1) rfl
                  simp only [Nat.add_zero] at y0
                  have b2 : (0 : Int) ≤ (k2 : Int) := by omega
                  have b3 : (k2 : Int) < (c.tiers.length : Int) := by omega
                  have hlw2 := hV.lt
                  have hVa := hV.alloc (.cells #[.int .i64 t.upto, .int .i64 t.rate] 119)
                  have kM2 := Blk.new wr 119 #[.int .i64 t.upto, .int .i64 t.rate]
                  have kC2 := kC.alloc (.cells #[.int .i64 t.upto, .int .i64 t.rate] 119)
                  replace hik2 := Lib.hid hik2
                  clear hLs2
                  go_wp2_with fail
                  clear y0 y1 hV kC
                  generalize wr.alloc (.cells #[.int .i64 t.upto, .int .i64 t.rate] 119) = W2 at *
                  have kd_ : Blk W2.drew wr.heap.size 119 #[.int .i64 t.upto, .int .i64 t.rate] := kM2.drew
                  have hd_ : RW w W2.drew (planC p (.slice Am p.mets.length cm) (.slice Af p.fees.length cf) (.slice (some ⟨gc, 0, none⟩) cs.length cc)) u3 Mk2 := hVa.drew
                  obtain ⟨k0_, k1_, _, _⟩ := kd_.c2
                  have kC2d : Blk W2.drew GM 52 #[.string c.meter, .bool c.win.has, .int .i64 c.win.from_.1, .int .i64 c.win.from_.2.1, .int .i64 c.win.from_.2.2, .int .i64 c.win.to_.1, .int .i64 c.win.to_.2.1, .int .i64 c.win.to_.2.2, .int .i64 c.allow, .int .i64 c.block, .int .i64 c.kind, .slice (some ⟨gt, 0, none⟩) c.tiers.length ct, .int .i64 c.mode, .slice Aa c.adjs.length ca, .int .i64 c.line, .int .i64 c.col] := kC2.drew
                  go_region_held3 (fun w' => w'.cell? ⟨wr.heap.size, 0, none⟩ = some (.int .i64 t.upto) ∧ w'.cell? ⟨wr.heap.size, 1, none⟩ = some (.int .i64 t.rate))
                    (refine ⟨?_, ?_⟩ <;> first | with_reducible assumption | exact LB.alloc (by with_reducible assumption) _ | (go_keep; done))
                    ((first | (refine step_append_lies _ (by rfl) (.tmp 124) (.tmp 131) 79 (by rfl) w.heap.size 9 iS _ 1 16 Tryd.underlying79 hS0 hS1 hS2 hS3 (by rfl) (by decide) _ _ _ (by rfl) (hW6.alloc _).out ⟨w6.heap.size, 0, none⟩ 2 2 [.string (textB t.upto), .string (textB t.rate)] (by rfl) rfl (World.news_of_block (cs := #[.string (textB t.upto), .string (textB t.rate)]) (t := 9) (fr := (0, 0)) (heap_alloc_new _ _)) (by simp [Value.oneCell']) (by decide) (by (try simp only [List.length_cons, List.length_nil, List.length_append, winT_len]); unfold maxLen; omega) (by (try simp only [List.length_cons, List.length_nil, List.length_append, winT_len]); omega) (hW6.alloc _).lb.out.size _ rfl ?_; intro g cp w10 hown10 hgrow10 hat10 hlt10; (have hW10 := (hW6.alloc _).add (l' := [textB t.upto, textB t.rate]) hgrow10 hown10 rfl rfl); (have hl6 := hW6.lt); (have kX := kA.grown hgrow10 ((hW6.alloc _).apart kA (by decide))); obtain ⟨x0_, x1_, _, _⟩ := kX.c2; (have kC28 := kC27.grown hgrow10 ((hW6.alloc _).apart kC27 (by decide)))) | (go_at_call 95; refine (text_any _ _).mono ?_; rintro e w6 ⟨rfl, hb6⟩; (have kW : Blk w6 wr.heap.size 119 #[.int .i64 t.upto, .int .i64 t.rate] := Blk.call (by with_reducible assumption) hb6); obtain ⟨j0_, j1_, _, _⟩ := kW.c2; (have hW6 : RW w w6 (planC p (.slice Am p.mets.length cm) (.slice Af p.fees.length cf) (.slice (some ⟨gc, 0, none⟩) cs.length cc)) u3 Mk2 := RW.below (by with_reducible assumption) hb6); (have kC26 : Blk w6 GM 52 #[.string c.meter, .bool c.win.has, .int .i64 c.win.from_.1, .int .i64 c.win.from_.2.1, .int .i64 c.win.from_.2.2, .int .i64 c.win.to_.1, .int .i64 c.win.to_.2.1, .int .i64 c.win.to_.2.2, .int .i64 c.allow, .int .i64 c.block, .int .i64 c.kind, .slice (some ⟨gt, 0, none⟩) c.tiers.length ct, .int .i64 c.mode, .slice Aa c.adjs.length ca, .int .i64 c.line, .int .i64 c.col] := Blk.call (by with_reducible assumption) hb6); (have kC27 := kC26.alloc (.cells #[.string (textB t.upto), .string (textB t.rate)] 9)); (have kA := kW.alloc (.cells #[.string (textB t.upto), .string (textB t.rate)] 9)); obtain ⟨a0_, a1_, _, _⟩ := kA.c2)))
                  go_wp2_with fail
                  go_roundg (c.tiers.length - (k2 + 1))
                  case rel => exact ⟨k2 + 1, by omega, by go_num, rfl, by rw [flat_take tierT hik2.out, ← List.append_assoc, ← hMk2.out]; exact hW10, kC28⟩
                  case measure => omega
                · obtain rfl : k2 = c.tiers.length := by omega
                  rw [List.take_length] at hV
                  obtain ⟨LD, hLD⟩ : ∃ LD, LD = LC ++ c.tiers.flatMap tierT := ⟨_, rfl⟩
                  rw [← hLD] at hV
                  have hlnD : LD.length ≤ 600100014 := by
                    have h1 := flat_le tierT 2 c.tiers (fun _ _ => Nat.le_refl 2)
                    rw [hLD, List.length_append]
                    omega
                  replace hLD := Lib.hid hLD
                  have hU := hV
                  have hUk := kC
                  clear hV kC
                  obtain ⟨_, _, _, _, _, _, _, _, _, _, _, _, _, p13_, _, _, _, _, _, _, _, _, _, _, _, _, _, _, _, _, _, _⟩ := hUk.c16
                  go_wp2_with fail
                  go_loopg [3, 137] c.adjs.length (fun n_ v3_ vi_ wr2 => ∃ k3 : Nat, k3 ≤ c.adjs.length ∧ vi_ = .int .i64 k3 ∧ n_ = c.adjs.length - k3 ∧ RW w wr2 (planC p (.slice Am p.mets.length cm) (.slice Af p.fees.length cf) (.slice (some ⟨gc, 0, none⟩) cs.length cc)) v3_ (LD ++ (c.adjs.take k3).flatMap adjT) ∧ Blk wr2 GM 52 #[.string c.meter, .bool c.win.has, .int .i64 c.win.from_.1, .int .i64 c.win.from_.2.1, .int .i64 c.win.from_.2.2, .int .i64 c.win.to_.1, .int .i64 c.win.to_.2.1, .int .i64 c.win.to_.2.2, .int .i64 c.allow, .int .i64 c.block, .int .i64 c.kind, .slice At c.tiers.length ct, .int .i64 c.mode, .slice Aa c.adjs.length ca, .int .i64 c.line, .int .i64 c.col])
                  case atStart => exact ⟨0, Nat.zero_le _, rfl, rfl, by simpa using hU, hUk⟩
                  case round =>
                    obtain ⟨k3, hkk3, rfl, rfl, hV, kC⟩ := hrel
                    clear hU hUk p13_
                    by_cases hltk3 : k3 < c.adjs.length
                    · obtain ⟨a, hik3⟩ : ∃ a, c.adjs[k3]? = some a := ⟨_, List.getElem?_eq_getElem hltk3⟩
                      obtain ⟨ga, rfl, hga⟩ := ha3 (by omega)
                      obtain ⟨Mk3, hMk3⟩ : ∃ L, L = LD ++ (c.adjs.take k3).flatMap adjT := ⟨_, rfl⟩
                      rw [← hMk3] at hV
                      have hln2 : Mk3.length ≤ 700000000 := by
                        have h1 := flat_le adjT 3 (c.adjs.take k3) (fun _ _ => Nat.le_refl 3)
                        rw [List.length_take] at h1
                        rw [hMk3, List.length_append]
                        omega
                      replace hMk3 := Lib.hid hMk3
                      have hLs2 := (Lies.of ((hR.out.below hV.lb.out).ne _ hmem.out).2 : Lies adjF 121 3 wr (.slice (some ⟨ga, 0, none⟩) c.adjs.length ca) c.adjs)
                      have y0 := hLs2.at adjF_len hik3 (j := 0) rfl
                      have y1 := hLs2.at adjF_len hik3 (j := 1) rfl
                      have y2 := hLs2.at adjF_len hik3 (j := 2) rfl
                      simp only [Nat.add_zero] at y0
                      have b2 : (0 : Int) ≤ (k3 : Int) := by omega
                      have b3 : (k3 : Int) < (c.adjs.length : Int) := by omega
                      have hlw2 := hV.lt
                      have hVa := hV.alloc (.cells #[.int .i64 a.kind, .int .i64 a.n, .int .i64 a.mode] 121)
                      have kM2 := Blk.new wr 121 #[.int .i64 a.kind, .int .i64 a.n, .int .i64 a.mode]
                      have kC2 := kC.alloc (.cells #[.int .i64 a.kind, .int .i64 a.n, .int .i64 a.mode] 121)
                      replace hik3 := Lib.hid hik3
                      clear hLs2
                      go_wp2_with fail
                      clear y0 y1 y2 hV kC
                      generalize wr.alloc (.cells #[.int .i64 a.kind, .int .i64 a.n, .int .i64 a.mode] 121) = W2 at *
                      have kd_ : Blk W2.drew wr.heap.size 121 #[.int .i64 a.kind, .int .i64 a.n, .int .i64 a.mode] := kM2.drew
                      have hd_ : RW w W2.drew (planC p (.slice Am p.mets.length cm) (.slice Af p.fees.length cf) (.slice (some ⟨gc, 0, none⟩) cs.length cc)) u3 Mk3 := hVa.drew
                      obtain ⟨k0_, k1_, k2_, _, _, _⟩ := kd_.c3
                      have kC2d : Blk W2.drew GM 52 #[.string c.meter, .bool c.win.has, .int .i64 c.win.from_.1, .int .i64 c.win.from_.2.1, .int .i64 c.win.from_.2.2, .int .i64 c.win.to_.1, .int .i64 c.win.to_.2.1, .int .i64 c.win.to_.2.2, .int .i64 c.allow, .int .i64 c.block, .int .i64 c.kind, .slice At c.tiers.length ct, .int .i64 c.mode, .slice (some ⟨ga, 0, none⟩) c.adjs.length ca, .int .i64 c.line, .int .i64 c.col] := kC2.drew
                      go_region_held3 (fun w' => w'.cell? ⟨wr.heap.size, 0, none⟩ = some (.int .i64 a.kind) ∧ w'.cell? ⟨wr.heap.size, 1, none⟩ = some (.int .i64 a.n) ∧ w'.cell? ⟨wr.heap.size, 2, none⟩ = some (.int .i64 a.mode))
                        (refine ⟨?_, ?_, ?_⟩ <;> first | with_reducible assumption | exact LB.alloc (by with_reducible assumption) _ | (go_keep; done))
                        ((first | (refine step_append_lies _ (by rfl) (.tmp 141) (.tmp 151) 79 (by rfl) w.heap.size 9 iS _ 1 16 Tryd.underlying79 hS0 hS1 hS2 hS3 (by rfl) (by decide) _ _ _ (by rfl) (hW6.alloc _).out ⟨w6.heap.size, 0, none⟩ 3 3 [.string (textB a.kind), .string (textB a.n), .string (textB a.mode)] (by rfl) rfl (World.news_of_block (cs := #[.string (textB a.kind), .string (textB a.n), .string (textB a.mode)]) (t := 9) (fr := (0, 0)) (heap_alloc_new _ _)) (by simp [Value.oneCell']) (by decide) (by (try simp only [List.length_cons, List.length_nil, List.length_append, winT_len]); unfold maxLen; omega) (by (try simp only [List.length_cons, List.length_nil, List.length_append, winT_len]); omega) (hW6.alloc _).lb.out.size _ rfl ?_; intro g cp w10 hown10 hgrow10 hat10 hlt10; (have hW10 := (hW6.alloc _).add (l' := [textB a.kind, textB a.n, textB a.mode]) hgrow10 hown10 rfl rfl); (have hl6 := hW6.lt); (have kX := kA.grown hgrow10 ((hW6.alloc _).apart kA (by decide))); obtain ⟨x0_, x1_, x2_, _, _, _⟩ := kX.c3; (have kC28 := kC27.grown hgrow10 ((hW6.alloc _).apart kC27 (by decide)))) | (go_at_call 95; refine (text_any _ _).mono ?_; rintro e w6 ⟨rfl, hb6⟩; (have kW : Blk w6 wr.heap.size 121 #[.int .i64 a.kind, .int .i64 a.n, .int .i64 a.mode] := Blk.call (by with_reducible assumption) hb6); obtain ⟨j0_, j1_, j2_, _, _, _⟩ := kW.c3; (have hW6 : RW w w6 (planC p (.slice Am p.mets.length cm) (.slice Af p.fees.length cf) (.slice (some ⟨gc, 0, none⟩) cs.length cc)) u3 Mk3 := RW.below (by with_reducible assumption) hb6); (have kC26 : Blk w6 GM 52 #[.string c.meter, .bool c.win.has, .int .i64 c.win.from_.1, .int .i64 c.win.from_.2.1, .int .i64 c.win.from_.2.2, .int .i64 c.win.to_.1, .int .i64 c.win.to_.2.1, .int .i64 c.win.to_.2.2, .int .i64 c.allow, .int .i64 c.block, .int .i64 c.kind, .slice At c.tiers.length ct, .int .i64 c.mode, .slice (some ⟨ga, 0, none⟩) c.adjs.length ca, .int .i64 c.line, .int .i64 c.col] := Blk.call (by with_reducible assumption) hb6); (have kC27 := kC26.alloc (.cells #[.string (textB a.kind), .string (textB a.n), .string (textB a.mode)] 9)); (have kA := kW.alloc (.cells #[.string (textB a.kind), .string (textB a.n), .string (textB a.mode)] 9)); obtain ⟨a0_, a1_, a2_, _, _, _⟩ := kA.c3)))
                      go_wp2_with fail
                      go_roundg (c.adjs.length - (k3 + 1))
                      case rel => exact ⟨k3 + 1, by omega, by go_num, rfl, by rw [flat_take adjT hik3.out, ← List.append_assoc, ← hMk3.out]; exact hW10, kC28⟩
                      case measure => omega
                    · obtain rfl : k3 = c.adjs.length := by omega
                      rw [List.take_length] at hV
                      go_wp2_with fail
                      go_roundg (cs.length - (k + 1))
                      case rel => exact ⟨k + 1, by omega, by go_num, rfl, by rw [flat_take (fun x : CT => chgT x.1) hi.out, ← List.append_assoc, ← hL.out]; unfold chgT; simp only; rw [← List.append_assoc, ← List.append_assoc, ← hLC.out, ← hLD.out]; exact hV⟩
                      case measure => omega
            · obtain rfl : k = cs.length := by omega
              rw [List.take_length] at hW
              have hq : headT p ++ p.mets.flatMap metT ++ p.fees.flatMap feeT ++ cs.flatMap (fun x => chgT x.1) = rowT p := by
                unfold rowT
                rw [← hR.out.eq, List.flatMap_map]
              rw [hq] at hW
              go_wp2_with fail
              go_ret
              exact ⟨_, rfl, hW.out, hW.lb.out⟩
end Go.Proofs.YtcgkfgklggjmaaaDoor.Par
end
section
namespace Go.Proofs.YtcgkfgklggjmaaaDoor.Par
set_option linter.unusedVariables false
set_option linter.unusedSimpArgs false
open Go.RowKit
/-- it answers a text of these bytes, not longer than m; what was there is as it was -/
def Says (l : List UInt8) (m : Nat) (w : World) (e : Ending) (w' : World) : Prop := ∃ s : ByteArray, e = .returned (.string s) ∧ s.data.toList = l ∧ s.size ≤ m ∧ Below w.heap.size w w'
theorem ba_size (l : List UInt8) : (⟨l.toArray⟩ : ByteArray).size = l.length := by simp [ByteArray.size]
theorem ba_len (s : ByteArray) : s.data.toList.length = s.size := by simp
theorem says_of {l : List UInt8} {m : Nat} (h : l.length ≤ m) {w : World} {e : Ending} {w' : World} (he : e = .returned (.string ⟨l.toArray⟩) ∧ Below w.heap.size w w') : Says l m w e w' := ⟨_, he.1, by simp, by rw [ba_size]; exact h, he.2⟩
theorem dayT_len (d : Day) : (dayT d).length ≤ 10 := by
  unfold dayT textL
  split
  · rw [dayL_len]; exact Nat.le_refl _
  · exact Nat.zero_le _
theorem digT_len {n : Int} (h0 : 0 ≤ n) (h : n ≤ 1000000000000) : (digT n).length ≤ 13 := Dec.dec_len n.toNat 13 (by omega) (by decide)
theorem decT_len {n : Int} (k : Int) (h : n ≤ 1000000000000) : (Dec.textL n k).length ≤ 30 := by
  unfold Dec.textL
  split
  · exact Nat.zero_le _
  · exact Dec.text_len _ _ (by omega) (by omega)
theorem modeL_len (m : Int) : (modeL m).length ≤ 8 := by
  unfold modeL
  split
  · decide
  split
  · decide
  split
  · decide
  split <;> decide
/-! the contracts in this form -/
theorem sday_any (d : Day) (w : World) : Calls Tryd.prog 27 #[.agg #[.int .i64 d.1, .int .i64 d.2.1, .int .i64 d.2.2]] w (Says (dayT d) 10 w) :=
  (rtext_any d.1 d.2.1 d.2.2 w).mono fun e w' h => says_of (dayT_len d) h
theorem sdig_any (n : Int) (w : World) (hD : Dec.GT w) (h0 : 0 ≤ n) (h : n ≤ 1000000000000) : Calls Tryd.prog 22 #[.int .i64 n] w (Says (digT n) 13 w) := by
  obtain ⟨N, rfl⟩ : ∃ N : Nat, n = N := ⟨n.toNat, by omega⟩
  exact (Dec.itoaG_any N w hD (by omega)).mono fun e w' he => says_of (digT_len h0 h) he
theorem sdec_any (n k : Int) (w : World) (h : n ≤ 1000000000000) : Calls Tryd.prog 64 #[.int .i64 n, .int .i64 k] w (Says (Dec.textL n k) 30 w) :=
  (Dec.rtext_any n k w (by omega)).mono fun e w' he => says_of (decT_len k h) he
set_option maxHeartbeats 4000000 in
set_option maxRecDepth 100000 in
theorem smode_any (m : Int) (w : World) : Calls Tryd.prog 65 #[.int .i64 m] w (Says (modeL m) 8 w) := by
  have hc : (m < 0 ∨ (0 ≤ m ∧ 3 < m)) ∨ m = 0 ∨ m = 1 ∨ m = 2 ∨ m = 3 := by omega
  rcases hc with (h | ⟨h0, h⟩) | rfl | rfl | rfl | rfl
  · have e1 : modeL m = [] := by unfold modeL; rw [if_neg (by omega), if_neg (by omega), if_neg (by omega), if_neg (by omega)]
    rw [e1]
    go_enter Tryd.func65, Tryd.ntmps65
    go_wp2_with fail
    go_ret
    exact ⟨_, rfl, rfl, by decide, bl_refl w⟩
  · have e1 : modeL m = [] := by unfold modeL; rw [if_neg (by omega), if_neg (by omega), if_neg (by omega), if_neg (by omega)]
    rw [e1]
    go_enter Tryd.func65, Tryd.ntmps65
    go_wp2_with fail
    go_ret
    exact ⟨_, rfl, rfl, by decide, bl_refl w⟩
  all_goals
    go_enter Tryd.func65, Tryd.ntmps65
    go_wp2_with fail
    go_ret
    exact ⟨_, rfl, rfl, by decide, bl_alloc (bl_refl w) _⟩
def winA (x : Win) : Array Value := #[.bool x.has, .int .i64 x.from_.1, .int .i64 x.from_.2.1, .int .i64 x.from_.2.2, .int .i64 x.to_.1, .int .i64 x.to_.2.1, .int .i64 x.to_.2.2]
set_option maxHeartbeats 4000000 in
set_option maxRecDepth 100000 in
theorem swin_any (x : Win) (w : World) : Calls Tryd.prog 28 #[.agg (winA x)] w (Says (winL x) 40 w) := by
  obtain ⟨has, ⟨a, b, c⟩, ⟨d, e, f⟩⟩ := x
  unfold winA
  simp only
  cases has with
  | false =>
    have e1 : winL ⟨false, (a, b, c), (d, e, f)⟩ = [] := by unfold winL; rw [if_neg (fun h => by cases h)]
    rw [e1]
    go_enter Tryd.func28, Tryd.ntmps28
    go_wp2_with fail
    go_ret
    exact ⟨_, rfl, rfl, by decide, bl_alloc (bl_refl w) _⟩
  | true =>
    have e1 : winL ⟨true, (a, b, c), (d, e, f)⟩ = [32, 102, 114, 111, 109, 32] ++ dayT (a, b, c) ++ [32, 116, 111, 32] ++ dayT (d, e, f) := by unfold winL; rw [if_pos rfl]
    have E1 := Lib.hid e1
    have h1 := fun W => sday_any (a, b, c) W
    have h2 := fun W => sday_any (d, e, f) W
    clear e1
    generalize dayT (a, b, c) = A at *
    generalize dayT (d, e, f) = B at *
    generalize winL ⟨true, (a, b, c), (d, e, f)⟩ = R at *
    have k1 := (Blk.new w 46 #[.bool true, .int .i64 a, .int .i64 b, .int .i64 c, .int .i64 d, .int .i64 e, .int .i64 f]).drew
    have hL := (LB.alloc (⟨bl_refl w⟩ : LB w w) (.cells #[.bool true, .int .i64 a, .int .i64 b, .int .i64 c, .int .i64 d, .int .i64 e, .int .i64 f] 46)).drew
    obtain ⟨x0, x1, x2, x3, x4, x5, x6, _, _, _, _, _, _, _⟩ := k1.c7
    go_enter Tryd.func28, Tryd.ntmps28
    go_wp2_with fail
    go_region_held3 (fun w' => w'.cell? ⟨w.heap.size, 0, none⟩ = some (.bool true) ∧ w'.cell? ⟨w.heap.size, 1, none⟩ = some (.int .i64 a) ∧ w'.cell? ⟨w.heap.size, 2, none⟩ = some (.int .i64 b) ∧ w'.cell? ⟨w.heap.size, 3, none⟩ = some (.int .i64 c) ∧ w'.cell? ⟨w.heap.size, 4, none⟩ = some (.int .i64 d) ∧ w'.cell? ⟨w.heap.size, 5, none⟩ = some (.int .i64 e) ∧ w'.cell? ⟨w.heap.size, 6, none⟩ = some (.int .i64 f))
      (refine ⟨?_, ?_, ?_, ?_, ?_, ?_, ?_⟩ <;> first | with_reducible assumption | (go_keep; done))
      ((first | (go_at_call 27; (with_reducible refine (h1 _).mono ?_); rintro e' w6 ⟨s1, rfl, hs1, hz1, hb6⟩; (have t1 : ¬ (9223372036854775807 < 6 + s1.size) := by omega); (have t2 : ¬ (9223372036854775807 < 6 + s1.size + 4) := by omega); (have j1 := k1.call hb6); (have hL6 := hL.call hb6); obtain ⟨y0, y1, y2, y3, y4, y5, y6, _, _, _, _, _, _, _⟩ := j1.c7) | (go_at_call 27; (with_reducible refine (h2 _).mono ?_); rintro e' w7 ⟨s2, rfl, hs2, hz2, hb7⟩; (have t3 : ¬ (9223372036854775807 < 6 + s1.size + 4 + s2.size) := by omega); (have j2 := j1.call hb7); (have hL7 := hL6.call hb7); obtain ⟨z0, z1, z2, z3, z4, z5, z6, _, _, _, _, _, _, _⟩ := j2.c7)))
    all_goals go_wp2_with fail
    all_goals go_ret
    all_goals exact ⟨_, rfl, by rw [E1.out, ← hs1, ← hs2]; simp, by simp only [ByteArray.size_append]; show 6 + s1.size + 4 + s2.size ≤ 40; omega, hL7.out⟩
end Go.Proofs.YtcgkfgklggjmaaaDoor.Par
end
section
namespace Go.Proofs.YtcgkfgklggjmaaaDoor
set_option linter.unusedVariables false
set_option linter.unusedSimpArgs false
open Go.RowKit
def GL (w : World) : Prop := ∃ m, w.cell? ⟨3, 0, none⟩ = some (.int .i64 m)
theorem GL.drewN {w : World} (h : GL w) (n : Nat) : GL (w.drewN n) := h
theorem GL.drew {w : World} (h : GL w) : GL w.drew := h
theorem GL.lt {w : World} (h : GL w) : 3 < w.heap.size := let ⟨_, hm⟩ := h; World.block_lt_of_cell? w _ hm
theorem GL.below {w v : World} (h : GL w) (hb : Below w.heap.size w v) : GL v := let ⟨m, hm⟩ := h; ⟨m, (hb.cell (p := ⟨3, 0, none⟩) h.lt).trans hm⟩

theorem let_idx (c : UInt8) : decide (0 ≤ Lib.indexByte [95, 46, 45] c) = (c == 95 || c == 46 || c == 45) := by
  by_cases h1 : c = 95
  · subst h1; decide
  · by_cases h2 : c = 46
    · subst h2; decide
    · by_cases h3 : c = 45
      · subst h3; decide
      · have e1 : (95 == c) = false := beq_eq_false_iff_ne.2 (Ne.symm h1)
        have e2 : (46 == c) = false := beq_eq_false_iff_ne.2 (Ne.symm h2)
        have e3 : (45 == c) = false := beq_eq_false_iff_ne.2 (Ne.symm h3)
        simp [Lib.indexByte, e1, e2, e3, h1, h2, h3]
theorem u8_eq (c : UInt8) (n : Nat) (h : n < 256) : (c == UInt8.ofNat n) = decide (c.toNat = n) := by
  rw [Bool.eq_iff_iff, beq_iff_eq, decide_eq_true_eq]
  constructor
  · rintro rfl; simp; omega
  · intro he; apply UInt8.toNat.inj; simp; omega
theorem letter_any (c : UInt8) (w : World) :
    Calls Tryd.prog 120 #[.int .u8 c.toNat] w fun e w' => e = .returned (.bool (isLet c)) ∧ w = w' := by
  have hc := c.toNat_lt
  have hi := let_idx c
  have e1 := u8_eq c 95 (by omega)
  have e2 := u8_eq c 46 (by omega)
  have e3 := u8_eq c 45 (by omega)
  have HI := Lib.hid (hi.trans (by rw [show (95 : UInt8) = UInt8.ofNat 95 from rfl, show (46 : UInt8) = UInt8.ofNat 46 from rfl, show (45 : UInt8) = UInt8.ofNat 45 from rfl, e1, e2, e3]))
  clear hi e1 e2 e3
  go_enter Tryd.func120, Tryd.ntmps120
  go_wp2_with (go_at_call 119; refine (Tryd.strings_IndexByte _ _ _).mono ?_; rintro e w' ⟨rfl, rfl⟩)
  all_goals
    go_ret
    refine ⟨ret_bool ?_, rfl⟩
    rw [Bool.eq_iff_iff]
    simp [isLet, HI.out]
    try omega
theorem rletter_any (c : UInt8) (w : World) :
    Calls Tryd.prog 56 #[.int .u8 c.toNat] w fun e w' => e = .returned (.bool (isLet c)) ∧ w = w' := by
  have hc := c.toNat_lt
  go_enter Tryd.func56, Tryd.ntmps56
  go_wp2
  all_goals
    go_ret
    refine ⟨ret_bool ?_, rfl⟩
    rw [Bool.eq_iff_iff]
    simp [isLet] at *
    try omega
theorem rdigit_any (c : UInt8) (w : World) :
    Calls Tryd.prog 129 #[.int .u8 c.toNat] w fun e w' => e = .returned (.bool (isDig c)) ∧ w = w' := by
  have hc := c.toNat_lt
  go_enter Tryd.func129, Tryd.ntmps129
  go_wp2
  all_goals
    go_ret
    refine ⟨ret_bool ?_, rfl⟩
    rw [Bool.eq_iff_iff]
    simp [isDig]
    try omega
end Go.Proofs.YtcgkfgklggjmaaaDoor
end
section
namespace Go.Proofs.YtcgkfgklggjmaaaDoor
set_option linter.unusedVariables false
set_option linter.unusedSimpArgs false
open Go.RowKit
theorem all_upto (s : ByteArray) (p : UInt8 → Bool) (pos : Nat) (hp : pos < s.size) : (s.data.toList.take (pos + 1)).all p = ((s.data.toList.take pos).all p && p s[pos]) := by
  rw [take_snoc s pos hp]; simp
theorem take_end (s : ByteArray) : s.data.toList.take s.size = s.data.toList := List.take_of_length_le (by simp)
theorem all_false (s : ByteArray) (p : UInt8 → Bool) (pos : Nat) (hp : pos < s.size) (h : p s[pos] = false) : s.data.toList.all p = false := by
  rw [List.all_eq_false]
  refine ⟨s[pos], ?_, by simp [h]⟩
  have : s[pos] = s.data.toList[pos]'(by simpa using hp) := rfl
  rw [this]
  exact List.getElem_mem _
theorem digits_no (s : ByteArray) (pos : Nat) (hp : pos < s.size) (h : isDig s[pos] = false) : digitsB s.data.toList = false := by simp [digitsB, all_false s isDig pos hp h]
set_option maxHeartbeats 1000000 in
theorem digits_any (s : ByteArray) (w : World) :
    Calls Tryd.prog 150 #[.string s] w fun e w' => e = .returned (.bool (digitsB s.data.toList)) ∧ Below w.heap.size w w' := by
  go_enter Tryd.func150, Tryd.ntmps150
  go_wp2
  go_loopw [4] (fun _ wi => ∃ pos : Nat, wi.heap[w.heap.size]? = some (.stringIter s pos) ∧ Below w.heap.size w wi ∧ Hid ((s.data.toList.take pos).all isDig = true) ∧ pos ≤ s.size) (fun _ wi => s.size - wi.iterPos w.heap.size)
  case atStart => exact ⟨0, World.iter_heap w s 0, bl_alloc (bl_refl _) _, by simp [Hid], Nat.zero_le _⟩
  case round =>
    obtain ⟨pos, hit, hbi, HA, hpl⟩ := hrel
    have hpos0 := iterPos_of hit
    by_cases hp : pos < s.size
    · have hnx : ∀ ty, (Instr.next (.pointer (some ⟨w.heap.size, 0, none⟩)) true ty).run Tryd.prog wr = _ := fun ty => Lib.run_next_any_at wr w.heap.size s pos ty hit hp
      have hit2 := Lib.iterAt_heap wr w.heap.size s pos (pos + (Utf8.decode s pos).2) hit
      have hbw2 := Lib.below_iterAt hbi (k := w.heap.size) (Nat.le_refl _) s (pos + (Utf8.decode s pos).2)
      have hsn := all_upto s isDig pos hp
      obtain ⟨W1, hW1⟩ : ∃ W1, W1 = wr.iterAt w.heap.size s (pos + (Utf8.decode s pos).2) := ⟨_, rfl⟩
      rw [← hW1] at hnx hit2 hbw2
      clear hW1 hit hbi
      rcases width_one s pos hp with ⟨ha, hde⟩ | ⟨ha, hde, hde2⟩
      · rw [hde] at hnx hit2
        simp only at hnx hit2
        clear hde
        have hbad := digits_no s pos hp
        have HS := Lib.hid hsn
        clear hsn
        generalize (s[pos]'hp) = c at *
        by_cases hg : 48 ≤ c.toNat ∧ c.toNat ≤ 57
        · obtain ⟨hg1, hg2⟩ := hg
          have HG := Lib.hid (show isDig c = true by simp [isDig, hg1, hg2])
          clear hbad
          go_wp2
          go_roundw
          case rel => exact ⟨pos + 1, hit2, hbw2, (by show _ = _; rw [HS.out, HG.out, HA.out]; rfl), by omega⟩
          case measure => rw [iterPos_of hit2, hpos0]; omega
        · have HD := Lib.hid (hbad (show isDig c = false by simp [isDig]; omega))
          clear hbad
          by_cases hg1 : 48 ≤ c.toNat
          all_goals
            go_wp2
            go_ret
            exact ⟨ret_bool (by rw [HD.out]), hbw2⟩
      · have HD := Lib.hid (digits_no s pos hp (show isDig s[pos] = false by simp [isDig]; omega))
        clear hsn
        generalize (Utf8.decode s pos).1 = rr at *
        go_wp2
        go_ret
        exact ⟨ret_bool (by rw [HD.out]), hbw2⟩
    · obtain rfl : pos = s.size := by omega
      have hnx : ∀ ty, (Instr.next (.pointer (some ⟨w.heap.size, 0, none⟩)) true ty).run Tryd.prog wr = _ := fun ty => Lib.run_next_end_at wr w.heap.size s s.size ty hit hp
      have HD : Hid (digitsB s.data.toList = !s.data.toList.isEmpty) := by
        have := HA.out
        rw [take_end] at this
        show _ = _
        simp only [digitsB, this, Bool.and_true]
      go_wp2
      go_ret
      exact ⟨ret_bool (by rw [HD.out, ByteArray.toList_eq]), hbi⟩
def cutW (s : ByteArray) : ByteArray := ⟨(Lib.cut s.data.toList [46]).1.toArray⟩
def cutP (s : ByteArray) : ByteArray := ⟨(Lib.cut s.data.toList [46]).2.1.toArray⟩
def cutB (s : ByteArray) : Bool := (Lib.cut s.data.toList [46]).2.2
theorem numForm_cut (s : ByteArray) : numForm s.data.toList = if digitsB (cutW s).data.toList = false ∨ (1 < (cutW s).size ∧ (cutW s).data.toList.getD 0 0 = 48) then 0 else if cutB s = false then 1 else if digitsB (cutP s).data.toList then 2 else 0 := by
  rfl
set_option maxHeartbeats 1000000 in
theorem decOf_any (s : ByteArray) (w : World) (hG : GL w) (hs : s.size < 4294967281) :
    Calls Tryd.prog 123 #[.string s] w fun e w' => e = .returned (.int .i64 (numForm s.data.toList)) ∧ Below w.heap.size w w' := by
  obtain ⟨m, hm⟩ := hG
  have hN := numForm_cut s
  have HC := Lib.hid (Tryd.strings_Cut s ⟨#[46]⟩ m w hs hm)
  have e1 : (⟨(Lib.cut s.data.toList (⟨#[46]⟩ : ByteArray).data.toList).1.toArray⟩ : ByteArray) = cutW s := rfl
  have e2 : (⟨(Lib.cut s.data.toList (⟨#[46]⟩ : ByteArray).data.toList).2.1.toArray⟩ : ByteArray) = cutP s := rfl
  have e3 : (Lib.cut s.data.toList (⟨#[46]⟩ : ByteArray).data.toList).2.2 = cutB s := rfl
  rw [e1, e2, e3] at HC
  clear e1 e2 e3 hm
  generalize cutW s = a at *
  generalize cutP s = b at *
  generalize cutB s = c at *
  cases hd : digitsB a.data.toList with
  | false =>
    have HN := Lib.hid (hN.trans (by rw [if_pos (.inl hd)]))
    clear hN
    go_enter Tryd.func123, Tryd.ntmps123
    go_wp2_with (first
      | (go_at_call 149; refine HC.out.mono ?_; rintro e w' ⟨rfl, n, rfl⟩)
      | (go_at_call 150; refine (digits_any _ _).mono ?_; rintro e w' ⟨rfl, hb1⟩))
    go_ret
    exact ⟨ret_int (by rw [HN.out]), bl_call (bl_drewN (bl_refl _) _) hb1⟩
  | true =>
    have HN := Lib.hid hN
    clear hN
    have fin : ∀ x : Int, (if a.data.toList.getD 0 0 = 48 ∧ 1 < a.size then (0 : Int) else if c = false then 1 else if digitsB b.data.toList then 2 else 0) = x → numForm s.data.toList = x := by
      rintro x rfl
      rw [HN.out]
      simp only [hd, Bool.true_eq_false, false_or, And.comm]
    have FIN := Lib.hid fin
    clear fin
    have key : ∀ h : 0 < a.size, (a.data.toList.getD 0 0 = 48) ↔ ((a[0]'h).toNat : Int) = 48 := fun h => by
      rw [getD_at a 0 h]
      exact ⟨fun e => by rw [e]; rfl, fun e => UInt8.toNat.inj (by show _ = 48; omega)⟩
    have KEY := Lib.hid key
    clear key
    by_cases h1 : 1 < a.size
    · have h1p : 0 < a.size := by omega
      have hbb : (((a[0]'h1p).toNat : Int) == 48) = true ∨ (((a[0]'h1p).toNat : Int) == 48) = false := by cases (((a[0]'h1p).toNat : Int) == 48) <;> simp
      rcases hbb with hbb | hbb
      · have HX := Lib.hid (FIN.out 0 (if_pos ⟨(KEY.out h1p).2 (beq_iff_eq.1 hbb), h1⟩))
        go_enter Tryd.func123, Tryd.ntmps123
        go_wp2_with (first
          | (go_at_call 149; refine HC.out.mono ?_; rintro e w' ⟨rfl, n, rfl⟩)
          | (go_at_call 150; refine (digits_any _ _).mono ?_; rintro e w' ⟨rfl, hb1⟩))
        go_ret
        exact ⟨ret_int (by rw [HX.out]), bl_call (bl_drewN (bl_refl _) _) hb1⟩
      · have HX := Lib.hid (fun x hx => FIN.out x ((if_neg (fun h => by have := (KEY.out h1p).1 h.1; simp [this] at hbb)).trans hx))
        cases c with
        | false =>
          go_enter Tryd.func123, Tryd.ntmps123
          go_wp2_with (first
            | (go_at_call 149; refine HC.out.mono ?_; rintro e w' ⟨rfl, n, rfl⟩)
            | (go_at_call 150; refine (digits_any _ _).mono ?_; rintro e w' ⟨rfl, hb1⟩))
          go_ret
          exact ⟨ret_int (by rw [HX.out _ rfl]; simp), bl_call (bl_drewN (bl_refl _) _) hb1⟩
        | true =>
          cases hdb : digitsB b.data.toList <;>
          · go_enter Tryd.func123, Tryd.ntmps123
            go_wp2_with (first
              | (go_at_call 149; refine HC.out.mono ?_; rintro e w' ⟨rfl, n, rfl⟩)
              | (go_at_call 150; refine (digits_any _ _).mono ?_; rintro _ _ ⟨rfl, _⟩))
            go_ret
            exact ⟨ret_int (by rw [HX.out _ rfl]; simp [hdb]), by repeat (first | exact bl_refl _ | apply bl_drewN | refine bl_call ?_ (by assumption))⟩
    · have HX := Lib.hid (fun x hx => FIN.out x ((if_neg (fun h => h1 h.2)).trans hx))
      cases c with
      | false =>
        go_enter Tryd.func123, Tryd.ntmps123
        go_wp2_with (first
          | (go_at_call 149; refine HC.out.mono ?_; rintro e w' ⟨rfl, n, rfl⟩)
          | (go_at_call 150; refine (digits_any _ _).mono ?_; rintro e w' ⟨rfl, hb1⟩))
        go_ret
        exact ⟨ret_int (by rw [HX.out _ rfl]; simp), bl_call (bl_drewN (bl_refl _) _) hb1⟩
      | true =>
        cases hdb : digitsB b.data.toList <;>
        · go_enter Tryd.func123, Tryd.ntmps123
          go_wp2_with (first
            | (go_at_call 149; refine HC.out.mono ?_; rintro e w' ⟨rfl, n, rfl⟩)
            | (go_at_call 150; refine (digits_any _ _).mono ?_; rintro _ _ ⟨rfl, _⟩))
          go_ret
          exact ⟨ret_int (by rw [HX.out _ rfl]; simp [hdb]), by repeat (first | exact bl_refl _ | apply bl_drewN | refine bl_call ?_ (by assumption))⟩
/-! names -/
def nameB (l : List UInt8) : Bool := !l.isEmpty && plainB l && !digFirst l
def nameAt (l : List UInt8) (k : Nat) : Bool := l.getD k 0 != 46 && l.getD k 0 != 45 && !(k == 0 && isDig (l.getD k 0))
theorem nameB_is (l : List UInt8) : nameB l = true ↔ l ≠ [] ∧ ∀ j, j < l.length → nameAt l j = true := by
  cases l with
  | nil => simp [nameB]
  | cons x l =>
    simp only [nameB, plainB, digFirst, List.isEmpty_cons, Bool.not_false, Bool.true_and, Bool.and_eq_true, List.all_eq_true, Bool.not_eq_true', List.getD_cons_zero]
    constructor
    · rintro ⟨h1, h2⟩
      refine ⟨by simp, fun j hj => ?_⟩
      have hm : (x :: l).getD j 0 ∈ x :: l := by
        rw [List.getD, List.getElem?_eq_getElem hj]; exact List.getElem_mem hj
      have := h1 _ hm
      simp only [nameAt]
      rw [this.1, this.2]
      cases j with
      | zero => simp [h2]
      | succ j => simp
    · rintro ⟨_, h⟩
      constructor
      · intro y hy
        obtain ⟨j, hj, rfl⟩ := List.getElem_of_mem hy
        have := h j hj
        simp only [nameAt, List.getD, List.getElem?_eq_getElem hj, Option.getD_some, Bool.and_eq_true] at this
        exact ⟨this.1.1, this.1.2⟩
      · have := h 0 (by simp)
        simp [nameAt] at this
        exact this.2
theorem nameB_no {l : List UInt8} {k : Nat} (hk : k < l.length) (h : nameAt l k = false) : nameB l = false := by
  cases hn : nameB l with
  | false => rfl
  | true => have := ((nameB_is l).1 hn).2 k hk; rw [h] at this; cases this
def nameTo (l : List UInt8) (k : Nat) : Prop := ∀ j, j < k → nameAt l j = true
theorem nameTo_succ {l : List UInt8} {k : Nat} (h : nameTo l k) (hk : nameAt l k = true) : nameTo l (k + 1) := fun j hj => by
  rcases Nat.lt_or_eq_of_le (Nat.le_of_lt_succ hj) with h1 | h1
  · exact h j h1
  · rw [h1]; exact hk
theorem nameB_end {l : List UInt8} (h : nameTo l l.length) : nameB l = !l.isEmpty := by
  cases l with
  | nil => rfl
  | cons x l => simpa using (nameB_is (x :: l)).2 ⟨by simp, h⟩
set_option maxHeartbeats 1000000 in
theorem name_any (s : ByteArray) (w : World) (hs : s.size ≤ 9223372036854775807) :
    Calls Tryd.prog 122 #[.string s] w fun e w' => e = .returned (.bool (nameB s.data.toList)) ∧ w = w' := by
  go_enter Tryd.func122, Tryd.ntmps122
  go_wp2
  go_loop [7] (fun v => ∃ k : Nat, k ≤ s.size ∧ v = .int .i64 k ∧ Hid (nameTo s.data.toList k)) (fun v => s.size - (intOf v).toNat)
  case atStart => exact ⟨0, Nat.zero_le _, rfl, fun j hj => absurd hj (by omega)⟩
  case round =>
    obtain ⟨k, hk, rfl, HA⟩ := hrel
    by_cases hlt : k < s.size
    · have hgd := getD_at s k hlt
      have hcl := (s[k]'hlt).toNat_lt
      have hat : nameAt s.data.toList k = (decide (((s[k]'hlt).toNat : Int) ≠ 46) && decide (((s[k]'hlt).toNat : Int) ≠ 45) && !(decide (k = 0) && decide (48 ≤ ((s[k]'hlt).toNat : Int)) && decide (((s[k]'hlt).toNat : Int) ≤ 57))) := by
        simp only [nameAt, hgd, bne]
        rw [show (46 : UInt8) = UInt8.ofNat 46 from rfl, show (45 : UInt8) = UInt8.ofNat 45 from rfl, u8_eq _ 46 (by omega), u8_eq _ 45 (by omega)]
        rw [Bool.eq_iff_iff]; simp [isDig]; omega
      have hl : k < s.data.toList.length := by simpa using hlt
      have HT := Lib.hid hat
      have HL := Lib.hid hl
      clear hgd hat hl
      have hbq : ∀ n : Int, ((((s[k]'hlt).toNat : Int) == n) = true ∧ ((s[k]'hlt).toNat : Int) = n) ∨ ((((s[k]'hlt).toNat : Int) == n) = false ∧ ¬ ((s[k]'hlt).toNat : Int) = n) := fun n => by
        by_cases h : ((s[k]'hlt).toNat : Int) = n
        · exact .inl ⟨beq_iff_eq.2 h, h⟩
        · exact .inr ⟨beq_eq_false_iff_ne.2 h, h⟩
      rcases hbq 46 with ⟨q1, r1⟩ | ⟨q1, r1⟩
      · have NO := Lib.hid (nameB_no HL.out (HT.out.trans (show _ = false by simp [r1])))
        clear r1 hbq
        go_wp2
        go_ret
        exact ⟨ret_bool (by rw [NO.out]), rfl⟩
      rcases hbq 45 with ⟨q2, r2⟩ | ⟨q2, r2⟩
      · have NO := Lib.hid (nameB_no HL.out (HT.out.trans (show _ = false by simp [r2])))
        clear r1 r2 hbq
        go_wp2
        go_ret
        exact ⟨ret_bool (by rw [NO.out]), rfl⟩
      by_cases hk0 : k = 0
      · by_cases h48 : 48 ≤ ((s[k]'hlt).toNat : Int)
        · by_cases h57 : ((s[k]'hlt).toNat : Int) ≤ 57
          · have NO := Lib.hid (nameB_no HL.out (HT.out.trans (show _ = false by simp [hk0]; subst hk0; omega)))
            clear r1 r2 hbq
            subst hk0
            go_wp2
            go_ret
            exact ⟨ret_bool (by rw [NO.out]), rfl⟩
          · have YES := Lib.hid (HT.out.trans (show _ = true by simp [r1, r2]; omega))
            clear r1 r2 hbq
            subst hk0
            go_wp2
            go_round
            case rel => exact ⟨0 + 1, by omega, by go_num, nameTo_succ HA.out YES.out⟩
            case measure => simp [intOf]; omega
        · have YES := Lib.hid (HT.out.trans (show _ = true by simp [r1, r2]; omega))
          clear r1 r2 hbq
          subst hk0
          go_wp2
          go_round
          case rel => exact ⟨0 + 1, by omega, by go_num, nameTo_succ HA.out YES.out⟩
          case measure => simp [intOf]; omega
      · have YES := Lib.hid (HT.out.trans (show _ = true by simp [r1, r2, hk0]))
        have hkb : ((k : Int) == 0) = false := by simp; omega
        clear r1 r2 hbq hk0
        go_wp2
        go_round
        case rel => exact ⟨k + 1, by omega, by go_num, nameTo_succ HA.out YES.out⟩
        case measure => simp [intOf]; omega
    · obtain rfl : k = s.size := by omega
      have HE : Hid (nameB s.data.toList = !s.data.toList.isEmpty) := nameB_end (by have := HA.out; simpa using this)
      go_wp2
      go_ret
      exact ⟨ret_bool (by rw [HE.out, ByteArray.toList_eq]), rfl⟩
end Go.Proofs.YtcgkfgklggjmaaaDoor
end
section
namespace Go.Proofs.YtcgkfgklggjmaaaDoor
set_option linter.unusedVariables false
set_option linter.unusedSimpArgs false
open Go.RowKit
theorem drop_at (s : ByteArray) (k : Nat) (h : k < s.size) : s.data.toList.drop k = s[k] :: s.data.toList.drop (k + 1) := by
  rw [List.drop_eq_getElem_cons (by simpa using h)]; rfl
theorem drop_end (s : ByteArray) : s.data.toList.drop s.size = [] := List.drop_of_length_le (by simp)
def fmt4 (l : List UInt8) (o : Option Nat) : Int := match o with
  | none => 0
  | some p => if l.getD 0 0 = 48 ∧ 1 < l.length ∧ l.getD 1 0 ≠ 46 then 0 else 1 + (p : Int)
theorem numForm_scan (l : List UInt8) (h0 : l ≠ []) (h1 : isDig (l.getD 0 0) = true) : numForm l = fmt4 l (rform l 0) := by
  rw [← rform_is l, if_neg (by simp only [h0, h1, false_or]; simp)]; rfl
theorem numForm_zero (l : List UInt8) (h : l = [] ∨ isDig (l.getD 0 0) = false) : numForm l = 0 := by
  rw [← rform_is l, if_pos h]
theorem size_pos (s : ByteArray) : s.data.toList = [] ↔ s.size = 0 := by
  rw [← List.length_eq_zero_iff]; simp
theorem u8_nb {c d : UInt8} {n : Int} (hd : (d.toNat : Int) = n) (h : c ≠ d) : ((c.toNat : Int) == n) = false :=
  beq_eq_false_iff_ne.2 fun he => h (UInt8.toNat.inj (by omega))
set_option maxHeartbeats 2000000 in
theorem rOf4_any (s : ByteArray) (w : World) (hs : s.size ≤ 9223372036854775807) :
    Calls Tryd.prog 97 #[.string s] w fun e w' => e = .returned (.int .i64 (numForm s.data.toList)) ∧ w = w' := by
  have hem : s.toList.isEmpty = s.data.toList.isEmpty := by rw [ByteArray.toList_eq]
  by_cases hz : s.size = 0
  · have hl := (size_pos s).2 hz
    have h1 : s.toList.isEmpty = true := by rw [hem, hl]; rfl
    have hl2 : s.toList = [] := by simpa using h1
    have HN := Lib.hid (numForm_zero s.data.toList (.inl hl))
    clear hem hl h1
    go_enter Tryd.func97, Tryd.ntmps97
    go_wp2
    go_ret
    exact ⟨ret_int (by rw [HN.out]), rfl⟩
  · have hp : 0 < s.size := by omega
    have hl : s.data.toList ≠ [] := fun h => hz ((size_pos s).1 h)
    have h1 : s.toList.isEmpty = false := by rw [hem]; simpa using hl
    have hl2 : ¬ s.toList = [] := by simpa using h1
    have hg0 := getD_at s 0 hp
    clear hem hz
    cases hd : isDig (s[0]'hp) with
    | false =>
      have HN := Lib.hid (numForm_zero s.data.toList (.inr (by rw [hg0]; exact hd)))
      clear hg0 hl
      go_enter Tryd.func97, Tryd.ntmps97
      go_wp2_with (go_at_call 129; refine (rdigit_any _ _).mono ?_; rintro e w' ⟨rfl, rfl⟩)
      go_ret
      exact ⟨ret_int (by rw [HN.out]), rfl⟩
    | true =>
      have HN := Lib.hid (numForm_scan s.data.toList hl (by rw [hg0]; exact hd))
      have HG0 := Lib.hid hg0
      clear hg0 hl
      go_enter Tryd.func97, Tryd.ntmps97
      go_wp2_with (go_at_call 129; refine (rdigit_any _ _).mono ?_; rintro e w' ⟨rfl, rfl⟩)
      go_loop [3, 4] (fun pv v => ∃ k p : Nat, k ≤ s.size ∧ p ≤ 1 ∧ v = .int .i64 k ∧ pv = .int .i64 p ∧ Hid (rform (s.data.toList.drop k) p = rform s.data.toList 0)) (fun _ v => s.size - (intOf v).toNat)
      case atStart => exact ⟨0, 0, Nat.zero_le _, Nat.zero_le _, rfl, rfl, rfl⟩
      case round =>
        obtain ⟨k, p, hk, hp1, rfl, rfl, HA⟩ := hrel
        clear hl2 h1 hd
        by_cases hlt : k < s.size
        · have hdr := drop_at s k hlt
          have hcl := (s[k]'hlt).toNat_lt
          have hA2 := HA.out
          rw [hdr] at hA2
          have HA2 := Lib.hid hA2
          clear hA2
          by_cases hc : s[k]'hlt = 46
          · have hb : (((s[k]'hlt).toNat : Int) == 46) = true := by rw [hc]; rfl
            rw [hc] at HA2
            by_cases hlast : s.size = k + 1
            · have HX : Hid (rform s.data.toList 0 = none) := by
                show _ = _
                rw [← HA2.out, ← hlast, drop_end]; simp [rform]
              have hlb : ((k : Int) == (s.size : Int) - 1) = true := by rw [beq_iff_eq]; omega
              have hl3 : s.size ≤ k + 1 := by omega
              clear hc hdr  hlast HA HA2
              go_wp2
              all_goals
                go_ret
                exact ⟨ret_int (by rw [HN.out, HX.out]; rfl), rfl⟩
            · have hlb : ((k : Int) == (s.size : Int) - 1) = false := by rw [beq_eq_false_iff_ne]; omega
              have hnl : s.data.toList.drop (k + 1) ≠ [] := by
                intro h
                have := congrArg List.length h
                simp at this; omega
              by_cases hp0 : p = 0
              · subst hp0
                have HX : Hid (rform (s.data.toList.drop (k + 1)) 1 = rform s.data.toList 0) := by
                  show _ = _
                  rw [← HA2.out, rform, if_pos rfl, if_neg (by simp [hnl])]
                clear hc hdr  hlast HA HA2 hnl
                go_wp2
                go_round
                case rel => exact ⟨k + 1, 1, by omega, by omega, by go_num, by first | rfl | go_num, HX⟩
                case measure => simp [intOf]; omega
              · obtain rfl : p = 1 := by omega
                have HX : Hid (rform s.data.toList 0 = none) := by
                  show _ = _
                  rw [← HA2.out, rform, if_pos rfl, if_pos (.inl (by omega))]
                clear hc hdr  hlast HA HA2 hnl hp0
                go_wp2
                go_ret
                exact ⟨ret_int (by rw [HN.out, HX.out]; rfl), rfl⟩
          · have hb : (((s[k]'hlt).toNat : Int) == 46) = false := u8_nb rfl hc
            cases hd : isDig (s[k]'hlt) with
            | true =>
              have HX : Hid (rform (s.data.toList.drop (k + 1)) p = rform s.data.toList 0) := by
                show _ = _
                rw [← HA2.out, rform, if_neg hc, if_pos hd]
              clear hc hdr  HA HA2
              go_wp2_with (go_at_call 129; refine (rdigit_any _ _).mono ?_; rintro e w' ⟨rfl, rfl⟩)
              go_round
              case rel => exact ⟨k + 1, p, by omega, by omega, by go_num, rfl, HX⟩
              case measure => simp [intOf]; omega
            | false =>
              have HX : Hid (rform s.data.toList 0 = none) := by
                show _ = _
                rw [← HA2.out, rform, if_neg hc, if_neg (by rw [hd]; simp)]
              clear hc hdr  HA HA2
              go_wp2_with (go_at_call 129; refine (rdigit_any _ _).mono ?_; rintro e w' ⟨rfl, rfl⟩)
              go_ret
              exact ⟨ret_int (by rw [HN.out, HX.out]; rfl), rfl⟩
        · obtain rfl : k = s.size := by omega
          have HX : Hid (rform s.data.toList 0 = some p) := by
            show _ = _
            rw [← HA.out, drop_end]; rfl
          clear HA
          have hsz : s.data.toList.length = s.size := by simp
          by_cases h0 : s[0]'hp = 48
          · have hb0 : (((s[0]'hp).toNat : Int) == 48) = true := by rw [h0]; rfl
            by_cases h1 : 1 < s.size
            · have hg1 := getD_at s 1 h1
              by_cases h2 : s[1]'h1 = 46
              · have hb2 : (((s[1]'h1).toNat : Int) != 46) = false := by rw [h2]; rfl
                have HF : Hid (numForm s.data.toList = 1 + (p : Int)) := by
                  show _ = _
                  rw [HN.out, HX.out, fmt4, if_neg (by rw [hg1, h2]; simp)]
                clear hg1   h0 h2 hsz
                go_wp2
                go_ret
                exact ⟨ret_int (by rw [HF.out]), rfl⟩
              · have hb2 : (((s[1]'h1).toNat : Int) != 46) = true := by simp [bne, u8_nb (d := 46) (n := 46) rfl h2]
                have HF : Hid (numForm s.data.toList = 0) := by
                  show _ = _
                  rw [HN.out, HX.out, fmt4, if_pos ⟨by rw [HG0.out]; exact h0, by omega, by rw [hg1]; exact h2⟩]
                clear hg1   h0 h2 hsz
                go_wp2
                go_ret
                exact ⟨ret_int (by rw [HF.out]), rfl⟩
            · have HF : Hid (numForm s.data.toList = 1 + (p : Int)) := by
                show _ = _
                rw [HN.out, HX.out, fmt4, if_neg (by omega)]
              clear  h0 hsz
              go_wp2
              go_ret
              exact ⟨ret_int (by rw [HF.out]), rfl⟩
          · have hb0 : (((s[0]'hp).toNat : Int) == 48) = false := u8_nb rfl h0
            have HF : Hid (numForm s.data.toList = 1 + (p : Int)) := by
              show _ = _
              rw [HN.out, HX.out, fmt4, if_neg (by rw [HG0.out]; exact fun h => h0 h.1)]
            clear  h0 hsz
            go_wp2
            go_ret
            exact ⟨ret_int (by rw [HF.out]), rfl⟩
end Go.Proofs.YtcgkfgklggjmaaaDoor
end
section
namespace Go.Proofs.YtcgkfgklggjmaaaDoor
set_option linter.unusedVariables false
set_option linter.unusedSimpArgs false
open Go.RowKit
def wordsV : Array Value := (wordsL.map fun l => Value.string ⟨l.toArray⟩).toArray
theorem words_any (w : World) : Calls Tryd.prog 96 #[] w fun e w' => e = .returned (.slice (some ⟨w.heap.size, 0, none⟩) 26 26) ∧ Blk w' w.heap.size 9 wordsV ∧ Below w.heap.size w w' := by
  go_enter Tryd.func96, Tryd.ntmps96
  go_wp2
  go_ret
  exact ⟨rfl, Blk.new _ _ _, bl_alloc (bl_refl _) _⟩
theorem wordsV_at (k : Nat) (h : k < 26) : wordsV[k]? = some (.string ⟨(wordsL.getD k []).toArray⟩) := by
  have hl : k < wordsL.length := h
  simp only [wordsV, List.getElem?_toArray, List.getElem?_map, List.getElem?_eq_getElem hl, Option.map_some, List.getD, Option.getD_some]
theorem isWord_at {l : List UInt8} {k : Nat} (h : k < 26) (he : wordsL.getD k [] = l) : isWord l = true := by
  have hl : k < wordsL.length := h
  rw [List.getD, List.getElem?_eq_getElem hl] at he
  simp only [isWord, List.contains_iff_mem]
  rw [← he]; exact List.getElem_mem hl
theorem isWord_none {l : List UInt8} (h : ∀ j, j < 26 → wordsL.getD j [] ≠ l) : isWord l = false := by
  cases hw : isWord l with
  | false => rfl
  | true =>
    exfalso
    have hm : l ∈ wordsL := by simpa [isWord] using hw
    obtain ⟨j, hj, he⟩ := List.getElem_of_mem hm
    refine h j hj ?_
    rw [List.getD, List.getElem?_eq_getElem hj]; exact he
def noneTo (l : List UInt8) (k : Nat) : Prop := ∀ j, j < k → wordsL.getD j [] ≠ l
theorem noneTo_succ {l : List UInt8} {k : Nat} (h : noneTo l k) (hk : wordsL.getD k [] ≠ l) : noneTo l (k + 1) := fun j hj => by
  rcases Nat.lt_or_eq_of_le (Nat.le_of_lt_succ hj) with h1 | h1
  · exact h j h1
  · rw [h1]; exact hk
theorem str_eq (a b : ByteArray) : (a.toList == b.toList) = decide (a.data.toList = b.data.toList) := by
  rw [ByteArray.toList_eq, ByteArray.toList_eq, Bool.eq_iff_iff, beq_iff_eq, decide_eq_true_eq]
set_option maxHeartbeats 4000000 in
theorem rOf5_any (s : ByteArray) (w : World) (hs : s.size ≤ 9223372036854775807) :
    Calls Tryd.prog 57 #[.string s] w fun e w' => e = .returned (.int .i64 (kindOf s.data.toList)) ∧ Below w.heap.size w w' := by
  have hem : s.toList = s.data.toList := ByteArray.toList_eq s
  by_cases h5 : s.data.toList = [123] ∨ s.data.toList = [125] ∨ s.data.toList = [59]
  · have HK := Lib.hid (kind_sign h5)
    rw [← hem] at h5
    clear hem
    rcases h5 with h5 | h5 | h5
    all_goals
      go_enter Tryd.func57, Tryd.ntmps57
      go_wp2
      go_ret
      exact ⟨ret_int (by rw [HK.out]), bl_refl _⟩
  · have h5n := h5
    have q1 : (s.toList == [123]) = false := beq_eq_false_iff_ne.2 fun h => h5 (.inl (hem ▸ h))
    have q2 : (s.toList == [125]) = false := beq_eq_false_iff_ne.2 fun h => h5 (.inr (.inl (hem ▸ h)))
    have q3 : (s.toList == [59]) = false := beq_eq_false_iff_ne.2 fun h => h5 (.inr (.inr (hem ▸ h)))
    have H5 := Lib.hid h5
    clear h5 h5n
    by_cases hz : s.size = 0
    · have hl := (size_pos s).2 hz
      have h1 : s.toList.isEmpty = true := by rw [hem, hl]; rfl
      have HK := Lib.hid (kind_no H5.out (.inl hl))
      clear hl hem hz
      go_enter Tryd.func57, Tryd.ntmps57
      go_wp2
      go_ret
      exact ⟨ret_int (by rw [HK.out]), bl_refl _⟩
    · have hp : 0 < s.size := by omega
      have hl : s.data.toList ≠ [] := fun h => hz ((size_pos s).1 h)
      have h1 : s.toList.isEmpty = false := by rw [hem]; simpa using hl
      have HL := Lib.hid hl
      have HE := Lib.hid hem
      clear hz hl hem
      go_enter Tryd.func57, Tryd.ntmps57
      go_wp2_with fail
      clear q1 q2 q3 h1
      go_loop [3, 4] (fun pv v => ∃ (k : Nat) (b : Bool), k ≤ s.size ∧ v = .int .i64 k ∧ pv = .bool b ∧ Hid (b = plainB (s.data.toList.take k)) ∧ Hid ((s.data.toList.take k).all isLet = true)) (fun _ v => s.size - (intOf v).toNat)
      case atStart => exact ⟨0, true, Nat.zero_le _, rfl, rfl, by simp [Hid, plainB], by simp [Hid]⟩
      case round =>
        obtain ⟨k, b, hk, rfl, rfl, HB, HA⟩ := hrel
        by_cases hlt : k < s.size
        · have hu := all_upto s isLet k hlt
          have hv := all_upto s (fun c => c != 46 && c != 45) k hlt
          have hbad := all_false s isLet k hlt
          have HU := Lib.hid hu
          have HV := Lib.hid hv
          clear hu hv
          cases hi : isLet (s[k]'hlt) with
          | false =>
            have HK := Lib.hid (kind_no H5.out (.inr (hbad hi)))
            clear hbad
            go_wp2_with (go_at_call 56; refine (rletter_any _ _).mono ?_; rintro e w' ⟨rfl, rfl⟩)
            go_ret
            exact ⟨ret_int (by rw [HK.out]), bl_refl _⟩
          | true =>
            clear hbad
            have HI := Lib.hid hi
            have HX : Hid ((s.data.toList.take (k + 1)).all isLet = true) := by
              show _ = _
              rw [HU.out, HA.out, hi]; rfl
            have h46 : (((s[k]'hlt).toNat : Int) != 46) = (s[k]'hlt != 46) := by
              by_cases h : s[k]'hlt = 46
              · rw [h]; rfl
              · simp [bne, u8_nb (d := 46) (n := 46) rfl h, h]
            have h45 : (((s[k]'hlt).toNat : Int) != 45) = (s[k]'hlt != 45) := by
              by_cases h : s[k]'hlt = 45
              · rw [h]; rfl
              · simp [bne, u8_nb (d := 45) (n := 45) rfl h, h]
            have HP : Hid (plainB (s.data.toList.take (k + 1)) = (b && (((s[k]'hlt).toNat : Int) != 46 && ((s[k]'hlt).toNat : Int) != 45))) := by
              show _ = _
              rw [plainB, HV.out, h46, h45, HB.out]; rfl
            clear h46 h45
            cases b with
            | false =>
              go_wp2_with (go_at_call 56; refine (rletter_any _ _).mono ?_; rintro e w' ⟨rfl, rfl⟩)
              go_round
              case rel => exact ⟨k + 1, false, by omega, by go_num, rfl, (show _ = _ by rw [HP.out]; rfl), HX⟩
              case measure => simp [intOf]; omega
            | true =>
              have hbq : ∀ n : Int, (((s[k]'hlt).toNat : Int) != n) = true ∨ (((s[k]'hlt).toNat : Int) != n) = false := fun n => by cases (((s[k]'hlt).toNat : Int) != n) <;> simp
              rcases hbq 46 with g1 | g1
              · rcases hbq 45 with g2 | g2
                all_goals
                  have HPP := Lib.hid (HP.out.trans (by rw [g1, g2]))
                  clear hbq
                  go_wp2_with (go_at_call 56; refine (rletter_any _ _).mono ?_; rintro e w' ⟨rfl, rfl⟩)
                  go_round
                  case rel => exact ⟨k + 1, _, by omega, by go_num, rfl, (show _ = _ by rw [HPP.out]; simp), HX⟩
                  case measure => simp [intOf]; omega
              · have HPP := Lib.hid (HP.out.trans (by rw [g1]))
                clear hbq
                go_wp2_with (go_at_call 56; refine (rletter_any _ _).mono ?_; rintro e w' ⟨rfl, rfl⟩)
                go_round
                case rel => exact ⟨k + 1, _, by omega, by go_num, rfl, (show _ = _ by rw [HPP.out]; simp), HX⟩
                case measure => simp [intOf]; omega
        · obtain rfl : k = s.size := by omega
          have hA := HA.out
          have hB := HB.out
          rw [take_end] at hA hB
          have HK := Lib.hid (kind_let hA HL.out)
          have HBB := Lib.hid hB
          clear hA hB HA HB
          go_wp2_with (go_at_call 96; refine (words_any _).mono ?_; rintro e w1 ⟨rfl, hw1, hb1⟩)
          have hz1 := hw1.lt
          go_loop [47] (fun v => ∃ k : Nat, k ≤ 26 ∧ v = .int .i64 k ∧ Hid (noneTo s.data.toList k)) (fun v => 26 - (intOf v).toNat)
          case atStart => exact ⟨0, by omega, rfl, fun j hj => absurd hj (by omega)⟩
          case round =>
            obtain ⟨k, hk, rfl, HN⟩ := hrel
            by_cases hlt : k < 26
            · have hc := (hw1.cell k).trans (wordsV_at k hlt)
              by_cases hq : wordsL.getD k [] = s.data.toList
              · have hb := str_eq ⟨(wordsL.getD k []).toArray⟩ s
                rw [decide_eq_true (by simpa using hq)] at hb
                have HF : Hid (kindOf s.data.toList = 2) := by
                  show _ = _
                  rw [HK.out, if_pos (isWord_at hlt hq)]
                clear hq
                generalize (⟨(wordsL.getD k []).toArray⟩ : ByteArray) = x at *
                go_wp2
                go_ret
                exact ⟨ret_int (by rw [HF.out]), hb1⟩
              · have hb := str_eq ⟨(wordsL.getD k []).toArray⟩ s
                rw [decide_eq_false (by simpa using hq)] at hb
                have HX : Hid (noneTo s.data.toList (k + 1)) := noneTo_succ HN.out hq
                clear hq
                generalize (⟨(wordsL.getD k []).toArray⟩ : ByteArray) = x at *
                go_wp2
                go_round
                case rel => exact ⟨k + 1, by omega, by go_num, HX⟩
                case measure => simp [intOf]; omega
            · obtain rfl : k = 26 := by omega
              have HW := Lib.hid (HK.out.trans (by rw [if_neg (by rw [isWord_none HN.out]; simp)]))
              clear hlt HN
              have hg0 := getD_at s 0 hp
              have hcl := (s[0]'hp).toNat_lt
              have hnn := numForm_nonneg s.data.toList
              have HDF : Hid (digFirst s.data.toList = (decide (48 ≤ ((s[0]'hp).toNat : Int)) && decide (((s[0]'hp).toNat : Int) ≤ 57))) := by
                show _ = _
                rw [digFirst, hg0, Bool.eq_iff_iff]; simp [isDig]; omega
              clear hg0
              by_cases hA : b = true ∧ (((s[0]'hp).toNat : Int) < 48 ∨ 57 < ((s[0]'hp).toNat : Int))
              · obtain ⟨rfl, hA⟩ := hA
                have HF := Lib.hid (HW.out.trans (if_pos ⟨HBB.out.symm, HDF.out.trans (by simp; omega)⟩))
                rcases hA with hA | hA
                · go_wp2
                  go_ret
                  exact ⟨ret_int (by rw [HF.out]), hb1⟩
                · go_wp2
                  go_ret
                  exact ⟨ret_int (by rw [HF.out]), hb1⟩
              · have HF := Lib.hid (HW.out.trans (if_neg (fun h => hA ⟨HBB.out.trans h.1, by have := HDF.out.symm.trans h.2; simp at this; omega⟩)))
                clear HW
                by_cases hn : 0 < numForm s.data.toList
                · have HF3 := Lib.hid (HF.out.trans (if_pos (by omega)))
                  clear HF
                  cases b with
                  | false =>
                    go_wp2_with (go_at_call 97; refine (rOf4_any _ _ hs).mono ?_; rintro e w' ⟨rfl, rfl⟩)
                    go_ret
                    exact ⟨ret_int (by rw [HF3.out]), hb1⟩
                  | true =>
                    have hA2 : ¬ (((s[0]'hp).toNat : Int) < 48 ∨ 57 < ((s[0]'hp).toNat : Int)) := fun h => hA ⟨rfl, h⟩
                    have g1 : 48 ≤ ((s[0]'hp).toNat : Int) := by omega
                    have g2 : ((s[0]'hp).toNat : Int) ≤ 57 := by omega
                    clear hA hA2
                    go_wp2_with (go_at_call 97; refine (rOf4_any _ _ hs).mono ?_; rintro e w' ⟨rfl, rfl⟩)
                    go_ret
                    exact ⟨ret_int (by rw [HF3.out]), hb1⟩
                · have HF4 := Lib.hid (HF.out.trans (if_neg (by omega)))
                  clear HF
                  cases hpk : pOk s
                  all_goals
                    have HPK := Lib.hid hpk
                    cases b with
                    | false =>
                      go_wp2_with (first | (go_at_call 97; refine (rOf4_any _ _ hs).mono ?_; rintro e w' ⟨rfl, rfl⟩) | (go_at_call 71; refine (rparse_any _ _).mono ?_; rintro e w2 ⟨rfl, hb2⟩))
                      go_ret
                      refine ⟨ret_int (by rw [HF4.out]; have h := HPK.out; simp only [pOk] at h; rw [h]; rfl), ?_⟩
                      exact bl_alloc (bl_call hb1 hb2) _
                    | true =>
                      have hA2 : ¬ (((s[0]'hp).toNat : Int) < 48 ∨ 57 < ((s[0]'hp).toNat : Int)) := fun h => hA ⟨rfl, h⟩
                      have g1 : 48 ≤ ((s[0]'hp).toNat : Int) := by omega
                      have g2 : ((s[0]'hp).toNat : Int) ≤ 57 := by omega
                      clear hA hA2
                      go_wp2_with (first | (go_at_call 97; refine (rOf4_any _ _ hs).mono ?_; rintro e w' ⟨rfl, rfl⟩) | (go_at_call 71; refine (rparse_any _ _).mono ?_; rintro e w2 ⟨rfl, hb2⟩))
                      go_ret
                      refine ⟨ret_int (by rw [HF4.out]; have h := HPK.out; simp only [pOk] at h; rw [h]; rfl), ?_⟩
                      exact bl_alloc (bl_call hb1 hb2) _
end Go.Proofs.YtcgkfgklggjmaaaDoor
end
section
namespace Go.Proofs.YtcgkfgklggjmaaaDoor
set_option linter.unusedVariables false
set_option linter.unusedSimpArgs false
open Go.RowKit
/-! the program's Of -/
theorem spaced_list (s : ByteArray) : ((⟨#[32]⟩ : ByteArray) ++ s ++ ⟨#[32]⟩).data.toList = 32 :: (s.data.toList ++ [32]) := by
  simp only [ByteArray.data_append, Array.toList_append]; rfl
section
variable {l : List UInt8}
theorem kt_name (h : l ≠ []) : nameB l = true ↔ plainB l = true ∧ digFirst l = false := by
  have : l.isEmpty = false := by cases l with
    | nil => exact absurd rfl h
    | cons x l => rfl
  simp [nameB, this]
theorem kt2 (h : isWord l = true) : (if isWord l then (2 : Int) else if plainB l ∧ digFirst l = false then 1 else if numForm l ≠ 0 then 3 else if parseOk l then 4 else 0) = 2 := if_pos h
theorem kt1 (h0 : l ≠ []) (h : isWord l = false) (h1 : nameB l = true) : (if isWord l then (2 : Int) else if plainB l ∧ digFirst l = false then 1 else if numForm l ≠ 0 then 3 else if parseOk l then 4 else 0) = 1 := by
  rw [if_neg (by simp [h]), if_pos ((kt_name h0).1 h1)]
theorem kt3 (h0 : l ≠ []) (h : isWord l = false) (h1 : nameB l = false) (h2 : (numForm l != 0) = true) : (if isWord l then (2 : Int) else if plainB l ∧ digFirst l = false then 1 else if numForm l ≠ 0 then 3 else if parseOk l then 4 else 0) = 3 := by
  rw [if_neg (by simp [h]), if_neg (fun hc => by rw [(kt_name h0).2 hc] at h1; cases h1), if_pos (by simpa using h2)]
theorem kt4 (h0 : l ≠ []) (h : isWord l = false) (h1 : nameB l = false) (h2 : (numForm l != 0) = false) {b : Bool} (h3 : parseOk l = b) : (if isWord l then (2 : Int) else if plainB l ∧ digFirst l = false then 1 else if numForm l ≠ 0 then 3 else if parseOk l then 4 else 0) = if b then 4 else 0 := by
  rw [if_neg (by simp [h]), if_neg (fun hc => by rw [(kt_name h0).2 hc] at h1; cases h1), if_neg (by simpa using h2), h3]
end
theorem word_call (T S : ByteArray) (l : List UInt8) (w : World) (hG : GL w) (hT : T.data.toList = textW) (hS : S.data.toList = 32 :: (l ++ [32])) (hl : l.all isLet = true) :
    Calls Tryd.prog 121 #[.string T, .string S] w fun e w' => e = .returned (.bool (isWord l)) ∧ w = w' := by
  obtain ⟨m, hm⟩ := hG
  have hsz : T.size < 4294967281 := by
    have : T.size = T.data.toList.length := by simp
    have hl : textW.length ≤ 1000 := by decide +kernel
    rw [this, hT]; omega
  refine (Tryd.strings_Contains T S m w hsz hm).mono ?_
  rintro e w' ⟨rfl, rfl⟩
  exact ⟨by rw [hT, hS, contains_words l hl], rfl⟩
theorem sign_call (T S : ByteArray) (c : UInt8) (w : World) (hG : GL w) (hT : T.data.toList = [123, 125, 59]) (hS : S.data.toList = [c]) :
    Calls Tryd.prog 121 #[.string T, .string S] w fun e w' => e = .returned (.bool (c == 123 || c == 125 || c == 59)) ∧ w = w' := by
  obtain ⟨m, hm⟩ := hG
  have hsz : T.size < 4294967281 := by
    have : T.size = T.data.toList.length := by simp
    rw [this, hT]; decide
  refine (Tryd.strings_Contains T S m w hsz hm).mono ?_
  rintro e w' ⟨rfl, rfl⟩
  exact ⟨by rw [hT, hS, contains_sign c], rfl⟩
theorem GL.alloc {w : World} (h : GL w) (o : Obj) : GL (w.alloc o) := let ⟨m, hm⟩ := h; ⟨m, (World.cell?_alloc_lt _ _ _ (World.block_lt_of_cell? _ _ hm)).trans hm⟩
theorem one_list (s : ByteArray) (h : s.size = 1) : s.data.toList = [s[0]'(by omega)] := by
  have h1 := take_snoc s 0 (by omega)
  have h2 := take_end s
  rw [h] at h2
  rw [← h2]; simpa using h1
set_option maxHeartbeats 4000000 in
theorem lexOf_any (s : ByteArray) (w : World) (hG : GL w) (hs : s.size < 4294967281) :
    Calls Tryd.prog 86 #[.string s] w fun e w' => e = .returned (.int .i64 (kindOf s.data.toList)) ∧ Below w.heap.size w w' := by
  have HE := Lib.hid (ByteArray.toList_eq s)
  have HGL := Lib.hid hG
  clear hG
  go_enter Tryd.func86, Tryd.ntmps86
  go_wp2_with fail
  go_loop [8] (fun v => ∃ k : Nat, k ≤ s.size ∧ v = .int .i64 k ∧ Hid ((s.data.toList.take k).all isLet = true)) (fun v => s.size - (intOf v).toNat)
  case atStart => exact ⟨0, Nat.zero_le _, rfl, by simp [Hid]⟩
  case round =>
    obtain ⟨k, hk, rfl, HA⟩ := hrel
    by_cases hlt : k < s.size
    · have hu := all_upto s isLet k hlt
      have hbad := all_false s isLet k hlt
      have HU := Lib.hid hu
      clear hu
      cases hi : isLet (s[k]'hlt) with
      | false =>
        have HBad := Lib.hid (hbad hi)
        clear hbad
        by_cases h1 : s.size = 1
        · have hk0 : k = 0 := by omega
          subst hk0
          have hl1 := one_list s h1
          generalize hcc : s[0]'hlt = c at *
          have HL1 := Lib.hid hl1
          have hb1 : ((s.size : Int) == 1) = true := by rw [beq_iff_eq]; omega
          have hlt0 : 0 < s.size := hlt
          clear hl1 h1
          cases hsg : (c == 123 || c == 125 || c == 59) with
          | true =>
            have HK := Lib.hid (kind_sign (l := s.data.toList) (by rw [HL1.out]; simp only [Bool.or_eq_true, beq_iff_eq] at hsg; rcases hsg with (h | h) | h <;> simp [h]))
            have HSG := Lib.hid hsg
            clear hsg
            rw [← hcc] at hi
            clear hcc
            go_wp2_with (first
              | (go_at_call 120; refine (letter_any _ _).mono ?_; rintro e w' ⟨rfl, rfl⟩)
              | (go_at_call 121; refine (sign_call _ _ c _ HGL.out (by rfl) HL1.out).mono ?_; rw [HSG.out]; rintro e w' ⟨rfl, rfl⟩))
            go_ret
            exact ⟨ret_int (by rw [HK.out]), bl_refl _⟩
          | false =>
            have HK := Lib.hid (kind_no (l := s.data.toList) (by rw [HL1.out]; simp only [Bool.or_eq_false_iff, beq_eq_false_iff_ne] at hsg; simp [hsg.1.1, hsg.1.2, hsg.2]) (.inr HBad.out))
            have HSG := Lib.hid hsg
            clear hsg
            rw [← hcc] at hi
            clear hcc
            go_wp2_with (first
              | (go_at_call 120; refine (letter_any _ _).mono ?_; rintro e w' ⟨rfl, rfl⟩)
              | (go_at_call 121; refine (sign_call _ _ c _ HGL.out (by rfl) HL1.out).mono ?_; rw [HSG.out]; rintro e w' ⟨rfl, rfl⟩))
            go_ret
            exact ⟨ret_int (by rw [HK.out]), bl_refl _⟩
        · have HK := Lib.hid (kind_no (l := s.data.toList) (fun h => by
            have := h1; rw [show s.size = s.data.toList.length by simp] at this
            rcases h with h | h | h <;> rw [h] at this <;> simp at this) (.inr HBad.out))
          have hb1 : ((s.size : Int) == 1) = false := by rw [beq_eq_false_iff_ne]; omega
          clear h1
          go_wp2_with (go_at_call 120; refine (letter_any _ _).mono ?_; rintro e w' ⟨rfl, rfl⟩)
          go_ret
          exact ⟨ret_int (by rw [HK.out]), bl_refl _⟩
      | true =>
        have HX : Hid ((s.data.toList.take (k + 1)).all isLet = true) := by
          show _ = _
          rw [HU.out, HA.out, hi]; rfl
        clear hbad
        go_wp2_with (go_at_call 120; refine (letter_any _ _).mono ?_; rintro e w' ⟨rfl, rfl⟩)
        go_round
        case rel => exact ⟨k + 1, by omega, by go_num, HX⟩
        case measure => simp [intOf]; omega
    · obtain rfl : k = s.size := by omega
      have hA := HA.out
      rw [take_end] at hA
      have HAL := Lib.hid hA
      clear hA HA hlt
      by_cases hz : s.size = 0
      · have hl := (size_pos s).2 hz
        have h1 : s.toList.isEmpty = true := by rw [HE.out, hl]; rfl
        have HK := Lib.hid (kind_no (l := s.data.toList) (by rw [hl]; simp) (.inl hl))
        clear hl hz
        go_wp2_with (go_at_call 90; refine (dparse_any _ _).mono ?_; rintro e w1 ⟨rfl, hb1⟩)
        go_ret
        exact ⟨ret_int (by rw [HK.out]), bl_alloc hb1 _⟩
      · have hl : s.data.toList ≠ [] := fun h => hz ((size_pos s).1 h)
        have h1 : s.toList.isEmpty = false := by rw [HE.out]; simpa using hl
        have HK := Lib.hid (kind_let HAL.out hl)
        have HL := Lib.hid hl
        clear hl hz
        have hsum : s.size + 2 ≤ 9223372036854775807 := by omega
        go_wp2_with (first
          | (go_at_call 90; refine (dparse_any _ _).mono ?_; rintro e w1 ⟨rfl, hb1⟩)
          | (go_at_call 121; refine (word_call _ _ s.data.toList _ ((HGL.out.below hb1).alloc _) (by rfl) (spaced_list s) HAL.out).mono ?_; rintro e w' ⟨rfl, rfl⟩)
          | (go_at_call 122; refine (name_any _ _ (by omega)).mono ?_; rintro e w' ⟨rfl, rfl⟩)
          | (go_at_call 123; refine (decOf_any _ _ ((HGL.out.below hb1).alloc _) hs).mono ?_; rintro e w2 ⟨rfl, hb2⟩))
        all_goals
          go_ret
          refine ⟨ret_int ?_, ?_⟩
          · rw [HK.out]
            first
            | exact (kt2 (by assumption)).symm
            | exact (kt1 HL.out (by assumption) (by assumption)).symm
            | exact (kt3 HL.out (by assumption) (by assumption) (by assumption)).symm
            | exact (kt4 HL.out (by assumption) (by assumption) (by assumption) (b := true) (by assumption)).symm
            | exact (kt4 HL.out (by assumption) (by assumption) (by assumption) (b := false) (by assumption)).symm
          · repeat (first | exact hb1 | apply bl_alloc | refine bl_call ?_ (by assumption))
end Go.Proofs.YtcgkfgklggjmaaaDoor
end
section
namespace Go.Proofs.YtcgkfgklggjmaaaDoor
set_option linter.unusedVariables false
set_option linter.unusedSimpArgs false
open Go.RowKit
theorem blank_idx (c : UInt8) : decide (0 ≤ Lib.indexByte [32, 9, 13, 10] c) = decide (c = 32 ∨ c = 9 ∨ c = 13 ∨ c = 10) := by
  by_cases h1 : c = 32
  · subst h1; decide
  · by_cases h2 : c = 9
    · subst h2; decide
    · by_cases h3 : c = 13
      · subst h3; decide
      · by_cases h4 : c = 10
        · subst h4; decide
        · have e1 : (32 == c) = false := beq_eq_false_iff_ne.2 (Ne.symm h1)
          have e2 : (9 == c) = false := beq_eq_false_iff_ne.2 (Ne.symm h2)
          have e3 : (13 == c) = false := beq_eq_false_iff_ne.2 (Ne.symm h3)
          have e4 : (10 == c) = false := beq_eq_false_iff_ne.2 (Ne.symm h4)
          simp [Lib.indexByte, e1, e2, e3, e4, h1, h2, h3, h4]
theorem list_cons (s : ByteArray) (h : 0 < s.size) : s.data.toList = s[0] :: s.data.toList.drop 1 := by
  have := drop_at s 0 h
  simpa using this
set_option maxHeartbeats 1000000 in
theorem blank_any (s : ByteArray) (w : World) :
    Calls Tryd.prog 83 #[.string s] w fun e w' => e = .returned (.int .i64 (blankN s.data.toList)) ∧ w = w' := by
  have hem := ByteArray.toList_eq s
  by_cases hz : s.size = 0
  · have hl := (size_pos s).2 hz
    have h1 : s.toList.isEmpty = true := by rw [hem, hl]; rfl
    have HK : Hid (blankN s.data.toList = 0) := by show _ = _; rw [hl]; rfl
    clear hl hz hem
    go_enter Tryd.func83, Tryd.ntmps83
    go_wp2
    go_ret
    exact ⟨ret_int (by rw [HK.out]), rfl⟩
  · have hp : 0 < s.size := by omega
    have hl := list_cons s hp
    have h1 : s.toList.isEmpty = false := by rw [hem, hl]; rfl
    have HK : Hid (blankN s.data.toList = if s[0]'hp = 35 then (if 0 ≤ Lib.indexByte s.data.toList 10 then Lib.indexByte s.data.toList 10 else (s.size : Int)) else if s[0]'hp = 32 ∨ s[0]'hp = 9 ∨ s[0]'hp = 13 ∨ s[0]'hp = 10 then 1 else 0) := by
      show _ = _
      have hsz : (s.size : Int) = s.data.toList.length := by simp
      rw [hsz, hl]; rfl
    have HI := Lib.hid (blank_idx (s[0]'hp))
    clear hl hz hem
    by_cases h35 : s[0]'hp = 35
    · have hb : (((s[0]'hp).toNat : Int) == 35) = true := by rw [h35]; rfl
      have HK2 := Lib.hid (HK.out.trans (if_pos h35))
      clear h35 HK
      go_enter Tryd.func83, Tryd.ntmps83
      go_wp2_with (go_at_call 119; refine (Tryd.strings_IndexByte _ _ _).mono ?_; rintro e w' ⟨rfl, rfl⟩)
      all_goals
        go_ret
        refine ⟨ret_int ?_, rfl⟩
        rw [HK2.out]
        first | (rw [if_pos (by assumption)]; done) | (rw [if_neg (by omega)]; done)
    · have hb : (((s[0]'hp).toNat : Int) == 35) = false := u8_nb rfl h35
      have HK2 := Lib.hid (HK.out.trans (if_neg h35))
      clear h35 HK
      go_enter Tryd.func83, Tryd.ntmps83
      go_wp2_with (go_at_call 119; refine (Tryd.strings_IndexByte _ _ _).mono ?_; rintro e w' ⟨rfl, rfl⟩)
      all_goals
        go_ret
        refine ⟨ret_int ?_, rfl⟩
        rw [HK2.out]
        have hi := HI.out
        first
        | (rw [decide_eq_true (by assumption)] at hi; rw [if_pos (of_decide_eq_true hi.symm)]; done)
        | (rw [decide_eq_false (by omega)] at hi; rw [if_neg (of_decide_eq_false hi.symm)]; done)
theorem take_getD (l : List UInt8) (k : Nat) (h : k < l.length) : l.take (k + 1) = l.take k ++ [l.getD k 0] := by
  rw [List.take_succ_eq_append_getElem h, List.getD, List.getElem?_eq_getElem h]; rfl
def cellsAre (w : World) (g : Nat) (l : List UInt8) : Prop := ∀ j, j < l.length → w.cell? ⟨g, j, none⟩ = some (.int .u8 (l.getD j 0).toNat)
theorem cellsAre.set {w : World} {g : Nat} {l : List UInt8} (h : cellsAre w g l) {p : Addr} (hp : p.block ≠ g) (u : Value) : cellsAre (w.setCell p u) g l :=
  fun j hj => (World.cell?_setCell_other w p _ u (fun e => hp (by rw [e]))).trans (h j hj)
set_option maxHeartbeats 1000000 in
theorem over_any (s : ByteArray) (a n : Nat) (line col : Int) (w : World) (h : a + n ≤ s.size) (hs : s.size < 4294967281) (h1 : 0 ≤ line) (h2 : 0 ≤ col) (h3 : line ≤ 4294967296) (h4 : col ≤ 4294967296) :
    Calls Tryd.prog 84 #[.agg #[.int .i64 a, .int .i64 line, .int .i64 col], .string s, .int .i64 n] w fun e w' =>
      e = .returned (.agg #[.int .i64 ((a + n : Nat) : Int), .int .i64 (overL ((s.data.toList.drop a).take n) (line, col)).1, .int .i64 (overL ((s.data.toList.drop a).take n) (line, col)).2]) ∧ Below w.heap.size w w' := by
  have kc := fun (W : World) => Lib.run_convert_string_bytes (P := Tryd.prog) W 9 86 5 (s.extract a (a + n)) Tryd.underlying9 Tryd.underlying86 Tryd.underlying5
  go_enter Tryd.func84, Tryd.ntmps84
  go_wp2
  clear kc
  have hl : (s.extract a (a + n)).data.toList = (s.data.toList.drop a).take n := by rw [Lib.extract_data, show a + n - a = n from by omega]
  have hlen : ((s.data.toList.drop a).take n).length = n := by simp; omega
  generalize htt : (s.data.toList.drop a).take n = t at *
  generalize hW0 : (w.alloc (.cells #[.int .i64 a, .int .i64 line, .int .i64 col] 141)).alloc (.cells #[.int .i64 0, .int .i64 0, .int .i64 0] 141) = W0 at *
  have hz0 : W0.heap.size = w.heap.size + 1 + 1 := by rw [← hW0]; simp
  have k0 : Blk W0 w.heap.size 141 #[.int .i64 a, .int .i64 line, .int .i64 col] := by rw [← hW0]; exact (Blk.new _ _ _).alloc _
  have k1 : Blk W0 (w.heap.size + 1) 141 #[.int .i64 0, .int .i64 0, .int .i64 0] := by
    rw [← hW0]
    have := Blk.new (w.alloc (.cells #[.int .i64 a, .int .i64 line, .int .i64 col] 141)) 141 #[.int .i64 0, .int .i64 0, .int .i64 0]
    simpa using this
  have kb : Below w.heap.size w W0 := by rw [← hW0]; exact bl_alloc (bl_alloc (bl_refl _) _) _
  have j0 : Blk (Lib.bytesWorld W0 5 (s.extract a (a + n))) w.heap.size 141 #[.int .i64 a, .int .i64 line, .int .i64 col] := (Lib.bytesWorld_at_old _ _ _ _ (by omega)).trans k0
  have j1 : Blk (Lib.bytesWorld W0 5 (s.extract a (a + n))) (w.heap.size + 1) 141 #[.int .i64 0, .int .i64 0, .int .i64 0] := (Lib.bytesWorld_at_old _ _ _ _ (by omega)).trans k1
  have jb : Below w.heap.size w (Lib.bytesWorld W0 5 (s.extract a (a + n))) :=
    ⟨kb.os, kb.tape, kb.output, by rw [Lib.bytesWorld_size]; omega, fun i hi => (Lib.bytesWorld_at_old _ _ _ _ (by omega)).trans (kb.block i hi)⟩
  have jc : cellsAre (Lib.bytesWorld W0 5 (s.extract a (a + n))) (w.heap.size + 1 + 1) t := fun j hj => by
    have := Lib.bytesWorld_cell W0 5 (s.extract a (a + n)) j (by simp; omega)
    rw [hz0, hl] at this
    exact this
  generalize Lib.bytesWorld W0 5 (s.extract a (a + n)) = W1 at *
  generalize grownCap W0 n 0 5 = cap at *
  have HLEN := Lib.hid hlen
  have HTT := Lib.hid htt
  clear hW0 hz0 k0 k1 kb hl hlen htt
  go_loopw [19] (fun v wr => ∃ k : Nat, k ≤ n ∧ v = .int .i64 k ∧ Blk wr w.heap.size 141 #[.int .i64 ((a + k : Nat) : Int), .int .i64 (overL (t.take k) (line, col)).1, .int .i64 (overL (t.take k) (line, col)).2] ∧ Blk wr (w.heap.size + 1) 141 #[.int .i64 0, .int .i64 0, .int .i64 0] ∧ Below w.heap.size w wr ∧ Hid (cellsAre wr (w.heap.size + 1 + 1) t)) (fun v _ => n - (intOf v).toNat)
  case atStart => exact ⟨0, by omega, rfl, j0, j1, jb, jc⟩
  case round =>
    obtain ⟨k, hk, rfl, b0, b1, hb, HC⟩ := hrel
    clear j0 j1 jb jc
    have hbd := overL_bd (t.take k) (line, col) h1 h2
    have hlk : (t.take k).length ≤ k := List.length_take_le _ _
    simp only at hbd
    obtain ⟨d1, d2, d3, d4⟩ := hbd
    replace d2 : (overL (t.take k) (line, col)).1 ≤ 10000000000 := by omega
    replace d4 : (overL (t.take k) (line, col)).2 ≤ 10000000000 := by omega
    by_cases hlt : k < n
    · have hkl : k < t.length := by have := HLEN.out; omega
      have hc := HC.out k hkl
      have HS := Lib.hid (take_getD t k hkl)
      have HO := Lib.hid (overL_snoc (t.take k) (t.getD k 0) (line, col))
      obtain ⟨c0, c1, c2, f0, f1, f2⟩ := b0.c3
      have hlt0 := b0.lt
      generalize hcc : t.getD k 0 = c at *
      have hcl := c.toNat_lt
      generalize hov : overL (t.take k) (line, col) = ov at *
      obtain ⟨ol, oc⟩ := ov
      simp only at d1 d2 d3 d4 c1 c2
      clear hkl hcc hov hlk
      by_cases hnl : c = 10
      · have hcb : ((c.toNat : Int) == 10) = true := by rw [hnl]; rfl
        have HO2 := Lib.hid (HO.out.trans (if_pos hnl))
        clear hnl
        go_wp2
        go_roundw
        case rel =>
          refine ⟨k + 1, by omega, by go_num, ?_, ?_, ?_, ?_⟩
          · rw [HS.out, HO2.out]
            have hz := (((b0.set_ 0 (.int .i64 ((a : Int) + k + 1))).set_ 2 (.int .i64 (oc + 1))).set_ 1 (.int .i64 (ol + 1))).set_ 2 (.int .i64 1)
            simpa [Int.add_assoc] using hz
          · repeat (first | exact b1 | refine Blk.far ?_ (by simp) _)
          · repeat (first | exact hb | refine bl_set ?_ (by simp) _)
          · show cellsAre _ _ _
            repeat (first | exact HC.out | refine cellsAre.set ?_ (by simp; omega) _)
        case measure => simp [intOf]; omega
      · have hcb : ((c.toNat : Int) == 10) = false := u8_nb rfl hnl
        have HO2 := Lib.hid (HO.out.trans (if_neg hnl))
        clear hnl
        go_wp2
        go_roundw
        case rel =>
          refine ⟨k + 1, by omega, by go_num, ?_, ?_, ?_, ?_⟩
          · rw [HS.out, HO2.out]
            have hz := (b0.set_ 0 (.int .i64 ((a : Int) + k + 1))).set_ 2 (.int .i64 (oc + 1))
            simpa [Int.add_assoc] using hz
          · repeat (first | exact b1 | refine Blk.far ?_ (by simp) _)
          · repeat (first | exact hb | refine bl_set ?_ (by simp) _)
          · show cellsAre _ _ _
            repeat (first | exact HC.out | refine cellsAre.set ?_ (by simp; omega) _)
        case measure => simp [intOf]; omega
    · obtain rfl : k = n := by omega
      have ht : t.take k = t := List.take_of_length_le (by have := HLEN.out; omega)
      rw [ht] at b0
      obtain ⟨c0, c1, c2, f0, f1, f2⟩ := b0.c3
      obtain ⟨e0, e1, e2, g0, g1, g2⟩ := b1.c3
      clear ht
      go_wp2
      rw [HTT.out, Int.natCast_add]
      exact bodyPost_ret (results_cell_row rfl _ _ (w.heap.size + 1) _ #[_, _, _] (0, 0) _ rfl (((b1.set_ 0 _).set_ 1 _).set_ 2 _) Tryd.underlying141 rfl (by kernel_rfl)) rfl ⟨rfl, bl_set (bl_set (bl_set hb (by simp) _) (by simp) _) (by simp) _⟩
theorem runLen_step (s : ByteArray) (k : Nat) (h : k < s.size) (hi : isLet s[k] = true) : runLen (s.data.toList.drop k) = 1 + runLen (s.data.toList.drop (k + 1)) := by
  rw [drop_at s k h, runLen, List.takeWhile_cons, if_pos hi]; simp [runLen]; omega
theorem runLen_stop (s : ByteArray) (k : Nat) (h : k < s.size) (hi : isLet s[k] = false) : runLen (s.data.toList.drop k) = 0 := by
  rw [drop_at s k h, runLen, List.takeWhile_cons, if_neg (by simp [hi])]; rfl
set_option maxHeartbeats 1000000 in
theorem run_any (s : ByteArray) (w : World) (hs : s.size < 4294967281) :
    Calls Tryd.prog 85 #[.string s] w fun e w' => e = .returned (.int .i64 (runN s.data.toList)) ∧ w = w' := by
  go_enter Tryd.func85, Tryd.ntmps85
  go_wp2_with fail
  go_loop [3] (fun v => ∃ k : Nat, k ≤ s.size ∧ v = .int .i64 k ∧ Hid (k + runLen (s.data.toList.drop k) = runLen s.data.toList)) (fun v => s.size - (intOf v).toNat)
  case atStart => exact ⟨0, Nat.zero_le _, rfl, by simp [Hid]⟩
  case round =>
    obtain ⟨k, hk, rfl, HA⟩ := hrel
    have fin : runLen (s.data.toList.drop k) = 0 → runN s.data.toList = max (k : Int) (min (s.size : Int) 1) := fun h => by
      have h1 := HA.out
      have h2 : s.data.toList.length = s.size := by simp
      rw [h] at h1
      simp only [runN, h2]; omega
    have FIN := Lib.hid fin
    clear fin
    by_cases hlt : k < s.size
    · cases hi : isLet (s[k]'hlt) with
      | true =>
        have HX : Hid (k + 1 + runLen (s.data.toList.drop (k + 1)) = runLen s.data.toList) := by
          show _ = _
          rw [← HA.out, runLen_step s k hlt hi]; omega
        go_wp2_with (go_at_call 120; refine (letter_any _ _).mono ?_; rintro e w' ⟨rfl, rfl⟩)
        go_round
        case rel => exact ⟨k + 1, by omega, by go_num, HX⟩
        case measure => simp [intOf]; omega
      | false =>
        have HF := Lib.hid (FIN.out (runLen_stop s k hlt hi))
        go_wp2_with (go_at_call 120; refine (letter_any _ _).mono ?_; rintro e w' ⟨rfl, rfl⟩)
        go_ret
        exact ⟨ret_int (by rw [HF.out]), rfl⟩
    · obtain rfl : k = s.size := by omega
      have HF := Lib.hid (FIN.out (by rw [drop_end]; rfl))
      go_wp2_with fail
      go_ret
      exact ⟨ret_int (by rw [HF.out]), rfl⟩
end Go.Proofs.YtcgkfgklggjmaaaDoor
end
section
namespace Go.Proofs.YtcgkfgklggjmaaaDoor
set_option linter.unusedVariables false
set_option linter.unusedSimpArgs false
open Go.RowKit
theorem blank_at (s : ByteArray) (l : List UInt8) (w : World) (h : s.data.toList = l) :
    Calls Tryd.prog 83 #[.string s] w fun e w' => e = .returned (.int .i64 (blankN l)) ∧ w = w' := by
  subst h; exact blank_any s w
theorem run_at (s : ByteArray) (l : List UInt8) (w : World) (hs : s.size < 4294967281) (h : s.data.toList = l) :
    Calls Tryd.prog 85 #[.string s] w fun e w' => e = .returned (.int .i64 (runN l)) ∧ w = w' := by
  subst h; exact run_any s w hs
def lexR (v : Value) (er l c : Int) : Value := .tuple #[v, .agg #[.int .i64 er, .int .i64 l, .int .i64 c]]
theorem tokInfo : (Tryd.prog.info? 102).map (fun i => (i.zero, i.size, i.bytes)) = some (some (.agg #[.int .i64 0, .string ⟨#[]⟩, .int .i64 0, .int .i64 0]), 4, 40) := by kernel_rfl
set_option maxHeartbeats 4000000 in
set_option maxRecDepth 100000 in
theorem lex_any (s : ByteArray) (w : World) (hG : GL w) (hs : s.size ≤ 9223372036854775807) :
    Calls Tryd.prog 48 #[.string s] w (LexOut 102 s w lexR) := by
  have hlen : s.data.toList.length = s.size := by simp
  have HLEN := Lib.hid hlen
  clear hlen
  by_cases hbig : 8192 < s.size
  · have HA : Hid (lexAll s.data.toList = ([], 6, 1, 1)) := by
      show _ = _
      rw [lexAll, if_pos (by rw [HLEN.out]; exact hbig)]
    go_enter Tryd.func48, Tryd.ntmps48
    go_wp2
    refine bodyPost_ret (results_tmp_cell_row rfl _ _ w.heap.size _ #[.int .i64 6, .int .i64 1, .int .i64 1] _ rfl (Blk.new _ _ _) Tryd.underlying34 rfl (by kernel_rfl)) rfl ?_
    exact ⟨.slice none 0 0, [], 6, 1, 1, rfl, World.ownsRow_nil _ _ _ _, bl_alloc (bl_refl _) _, HA.out⟩
  · obtain ⟨i0, hi0, hz0, hz1, hz2⟩ := info_parts tokInfo
    go_enter Tryd.func48, Tryd.ntmps48
    go_wp2_with fail
    go_loopw [4] (fun v4 wr => ∃ (ts : List Tok) (a : Nat) (line col : Int), a ≤ s.size ∧ 0 ≤ line ∧ line ≤ a + 1 ∧ 0 ≤ col ∧ col ≤ 2 * a + 1 ∧
      Blk wr w.heap.size 34 #[.int .i64 0, .int .i64 0, .int .i64 0] ∧ Blk wr (w.heap.size + 1) 141 #[.int .i64 a, .int .i64 line, .int .i64 col] ∧
      wr.ownsRow (w.heap.size + 1 + 1) 102 4 v4 ts.length (toksCells ts) ∧ ts.length ≤ a ∧ Below w.heap.size w wr ∧ Hid (LexIn s.data.toList ts a line col)) (fun _ wr => s.size + 1 - posOf wr (w.heap.size + 1))
    case atStart => exact ⟨[], 0, 1, 1, by omega, by omega, by omega, by omega, by omega, (Blk.new _ _ _).alloc _, (show Blk _ _ _ _ from by have := Blk.new (w.alloc (.cells #[.int .i64 0, .int .i64 0, .int .i64 0] 34)) 141 #[.int .i64 0, .int .i64 1, .int .i64 1]; simpa using this), World.ownsRow_nil _ _ _ _, Nat.le_refl _, bl_alloc (bl_alloc (bl_refl _) _) _, by simp [Hid, LexIn, preR_nil]⟩
    case round =>
      obtain ⟨ts, a0, line0, col0, ha, l1, l2, c1, c2, kf, kp, hown, hts, hbw, HI⟩ := hrel
      obtain ⟨wo, rfl⟩ : ∃ wo : World, wo = wr := ⟨_, rfl⟩
      have hlp := kp.lt
      have hpo := posOf_blk kp
      obtain ⟨p0, p1, p2, f0, f1, f2⟩ := kp.c3
      go_wp2_with (go_at_call 83; refine (blank_at _ (s.data.toList.drop a0) _ (ext_drop s a0)).mono ?_; rintro e w' ⟨rfl, rfl⟩)
      clear p0 p1 p2 f0 f1 f2
      go_loopw [6] (fun v6 wi => ∃ (a : Nat) (line col : Int), a ≤ s.size ∧ 0 ≤ line ∧ line ≤ a + 1 ∧ 0 ≤ col ∧ col ≤ 2 * a + 1 ∧ v6 = .int .i64 (blankN (s.data.toList.drop a)) ∧
        Blk wi w.heap.size 34 #[.int .i64 0, .int .i64 0, .int .i64 0] ∧ Blk wi (w.heap.size + 1) 141 #[.int .i64 a, .int .i64 line, .int .i64 col] ∧
        wi.ownsRow (w.heap.size + 1 + 1) 102 4 u4 ts.length (toksCells ts) ∧ ts.length ≤ a ∧ a0 ≤ a ∧ Below w.heap.size w wi ∧ Hid (LexIn s.data.toList ts a line col)) (fun _ wi => s.size + 1 - posOf wi (w.heap.size + 1))
      case atStart => exact ⟨a0, line0, col0, ha, l1, l2, c1, c2, rfl, kf, kp, hown, hts, Nat.le_refl _, hbw, HI⟩
      case round =>
        clear ha l1 l2 c1 c2 kf kp hown hts hbw HI
        obtain ⟨a, line, col, ha, l1, l2, c1, c2, rfl, kf, kp, hown, hts, haa, hbw, HI⟩ := hrel
        have hpo2 := posOf_blk kp
        have hlp2 := kp.lt
        obtain ⟨p0, p1, p2, f0, f1, f2⟩ := kp.c3
        by_cases hbl : 0 < blankN (s.data.toList.drop a)
        · obtain ⟨n, hn, hn0, hnl, hst⟩ := blank_step (s.data.toList.drop a) line col hbl
          have hlen2 : a + n ≤ s.size := by
            have := HLEN.out
            rw [List.length_drop] at hnl; omega
          have hob := overL_bd ((s.data.toList.drop a).take n) (line, col) l1 c1
          have hol : ((s.data.toList.drop a).take n).length ≤ n := List.length_take_le _ _
          simp only at hob
          obtain ⟨o1, o2, o3, o4⟩ := hob
          have HST : Hid (LexIn s.data.toList ts (a + n) (overL ((s.data.toList.drop a).take n) (line, col)).1 (overL ((s.data.toList.drop a).take n) (line, col)).2) := by
            show LexIn _ _ _ _ _
            unfold LexIn
            rw [HI.out, hst, List.drop_drop]
          have HN := Lib.hid hn
          rw [hn]
          clear hn hst HI hnl hbl
          generalize hov : overL ((s.data.toList.drop a).take n) (line, col) = ov at *
          have HOV := Lib.hid hov
          clear hov
          go_wp2_with (first
            | (go_at_call 84; refine (over_any s a n line col _ hlen2 (by omega) l1 c1 (by omega) (by omega)).mono ?_; rw [HOV.out]; rintro e w2 ⟨rfl, hb2⟩; (have kp2 := kp.call hb2); (have kf2 := kf.call hb2); (have hown2 := ownsRow_below hown hb2); (have hbw2 := bl_call hbw hb2); clear p0 p1 p2 f0 f1 f2 kp kf hown; obtain ⟨p0, p1, p2, f0, f1, f2⟩ := kp2.c3)
            | (go_at_call 83; refine (blank_at _ (s.data.toList.drop (a + n)) _ (ext_drop s (a + n))).mono ?_; rintro e w' ⟨rfl, rfl⟩))
          go_roundw
          case rel =>
            have hz := ((kp2.set_ 0 (.int .i64 ((a : Int) + n))).set_ 1 (.int .i64 ov.1)).set_ 2 (.int .i64 ov.2)
            refine ⟨a + n, ov.1, ov.2, hlen2, o1, by omega, o3, by omega, rfl, ?_, by simpa using hz, ?_, by omega, by omega, ?_, HST⟩
            · exact ((kf2.far (by simp) _).far (by simp) _).far (by simp) _
            · exact ownsRow_set (ownsRow_set (ownsRow_set hown2 (by simp) _) (by simp) _) (by simp) _
            · exact bl_set (bl_set (bl_set hbw2 (by simp) _) (by simp) _) (by simp) _
          case measure =>
            have hz := ((kp2.set_ 0 (.int .i64 ((a : Int) + n))).set_ 1 (.int .i64 ov.1)).set_ 2 (.int .i64 ov.2)
            have := posOf_blk (a := a + n) (by simpa using hz)
            rw [this, hpo2]
            omega
        · by_cases hend : a = s.size
          · subst hend
            have HR : Hid (lexAll s.data.toList = (ts ++ [⟨0, ⟨#[]⟩, line, col⟩], 0, 0, 0)) := by
              have h := HI.out
              unfold LexIn at h
              rw [drop_end, lexL] at h
              show _ = _
              rw [lexAll, if_neg (by rw [HLEN.out]; exact hbig), h]; rfl
            have heq : (((s.size : Int)) == (s.size : Int)) = true := beq_iff_eq.2 rfl
            go_wp2_with (at_builtin; refine wpList_append_own _ rfl _ _ 94 rfl (w.heap.size + 1 + 1) 102 i0 _ 4 40 Tryd.underlying94 hi0 hz0 hz1 hz2 rfl (by decide) _ _ _ rfl (hown.alloc _) ⟨wr.heap.size, 0, none⟩ 1 1 [.int .i64 0, .string ⟨#[]⟩, .int .i64 line, .int .i64 col] rfl rfl (World.news_of_block (cs := #[.int .i64 0, .string ⟨#[]⟩, .int .i64 line, .int .i64 col]) (t := 102) (fr := (0, 0)) (heap_alloc_new _ _)) (by simp [Value.oneCell']) (by unfold maxLen; omega) (by omega) (by simp; omega) ?_; intro v1 w1 hown1 hgrow1 hnil1; (have kf1 := (kf.alloc _).grown hgrow1 (fun h => by have := (hown.lt _ h.symm).1; omega)); obtain ⟨q0, q1, q2, g0, g1, g2⟩ := kf1.c3)
            refine bodyPost_ret (results_tmp_cell_row rfl _ _ w.heap.size _ #[.int .i64 0, .int .i64 0, .int .i64 0] _ rfl (((kf1.set_ 0 _).set_ 1 _).set_ 2 _) Tryd.underlying34 rfl (by kernel_rfl)) rfl ?_
            refine ⟨v1, ts ++ [⟨0, ⟨#[]⟩, line, col⟩], 0, 0, 0, rfl, ?_, ?_, HR.out⟩
            · have h1 := ownsRow_set (ownsRow_set (ownsRow_set hown1 (p := ⟨w.heap.size, 0, none⟩) (by simp; omega) (.int .i64 0)) (p := ⟨w.heap.size, 1, none⟩) (by simp; omega) (.int .i64 0)) (p := ⟨w.heap.size, 2, none⟩) (by simp; omega) (.int .i64 0)
              rw [toks_snoc, List.length_append]
              exact ownsRow_base h1 (by omega)
            · exact bl_set (bl_set (bl_set (bl_grown (bl_alloc hbw _) hgrow1 (fun k hk => by have := (hown.lt _ hk).1; omega)) (Nat.le_refl _) _) (Nat.le_refl _) _) (Nat.le_refl _) _
          · have hle := HLEN.out
            have hne : s.data.toList.drop a ≠ [] := fun h => by
              have := congrArg List.length h
              simp at this; omega
            obtain ⟨n, hn, hn0, hnl, hst⟩ := tok_step (s.data.toList.drop a) line col hbl hne
            have hlen2 : a + n ≤ s.size := by
              rw [List.length_drop] at hnl; omega
            have hob := overL_bd ((s.data.toList.drop a).take n) (line, col) l1 c1
            have hol : ((s.data.toList.drop a).take n).length ≤ n := List.length_take_le _ _
            simp only at hob
            obtain ⟨o1, o2, o3, o4⟩ := hob
            have hx := ext_take s a n
            have HST := Lib.hid hst
            have hG1 := hG.below (hbw.mono (Nat.le_refl _))
            have HRUN := Lib.hid (run_at (s.extract a s.size) (s.data.toList.drop a))
            have HOF := Lib.hid (lexOf_any (s.extract a (a + n)))
            have heq : (((a : Int)) == (s.size : Int)) = false := by rw [beq_eq_false_iff_ne]; omega
            rw [hn] at HRUN
            rw [hx] at HOF
            clear hst hn hx hnl hne
            generalize htl : (s.data.toList.drop a).take n = tl at *
            generalize hov : overL tl (line, col) = ov at *
            have HTL := Lib.hid htl
            have HOV := Lib.hid hov
            clear htl hov
            have hls := hown.lt
            go_wp2_with (first
              | (go_at_call 85; refine (HRUN.out _ (by simp; omega) (ext_drop s a)).mono ?_; rintro e w' ⟨rfl, rfl⟩))
            have gg0 : (0 : Int) ≤ (a : Int) := by omega
            have gg1 : (0 : Int) ≤ (a : Int) + (n : Int) := by omega
            have gg2 : (a : Int) ≤ (a : Int) + (n : Int) := by omega
            have gg3 : (a : Int) + (n : Int) ≤ (s.size : Int) := by omega
            have gg4 : IntKind.i64.wrap ((a : Int) + (n : Int)) = (a : Int) + (n : Int) := by rw [IntKind.wrap_i64]; omega
            have gg5 : ((a : Int) + (n : Int)).toNat = a + n := by omega
            have gg6 : ((a : Int)).toNat = a := by omega
            go_region_held3 (fun w' => w'.cell? ⟨w.heap.size + 1, 0, none⟩ = some (.int .i64 a) ∧ w'.cell? ⟨w.heap.size + 1, 1, none⟩ = some (.int .i64 line) ∧ w'.cell? ⟨w.heap.size + 1, 2, none⟩ = some (.int .i64 col)) (go_keep) (fail)
            by_cases hk : kindOf tl = 0
            · have HR : Hid (lexAll s.data.toList = ([], 3, line, col)) := by
                have h := HI.out
                unfold LexIn at h
                rw [HST.out, if_pos hk] at h
                show _ = _
                rw [lexAll, if_neg (by rw [HLEN.out]; exact hbig), h]; rfl
              rw [hk] at HOF
              go_wp2_with fail
              refine (HOF.out _ ((hG1.alloc _).drew) (by simp; omega)).mono ?_
              rintro e w2 ⟨rfl, hb2⟩
              have kt := (Blk.drew (Blk.new wr 102 #[.int .i64 0, .string (s.extract a (a + n)), .int .i64 line, .int .i64 col])).call hb2
              have kf2 := (Blk.drew (kf.alloc (.cells #[.int .i64 0, .string (s.extract a (a + n)), .int .i64 line, .int .i64 col] 102))).call hb2
              have hbw2 := bl_call (bl_drew (bl_alloc hbw _)) hb2
              obtain ⟨q0, q1, q2, q3, g0, g1, g2, g3⟩ := kt.c4
              obtain ⟨r0, r1, r2, i0', i1', i2'⟩ := kf2.c3
              have hlt2 := kt.lt
              go_wp2_with fail
              have kt3 : Blk (w2.setCell ⟨wr.heap.size, 0, none⟩ (.int .i64 0)) wr.heap.size 102 #[.int .i64 0, .string (s.extract a (a + n)), .int .i64 line, .int .i64 col] := by simpa using kt.set_ 0 (.int .i64 0)
              have KB := Lib.hid kt3
              have KT3 := Lib.hid (And.intro kt3.c4.2.2.1 kt3.c4.2.2.2.1)
              have hwne : wr.heap.size ≠ w.heap.size := by have := hbw.size; omega
              go_region_held3 (fun w' => w'.cell? ⟨wr.heap.size, 2, none⟩ = some (.int .i64 line) ∧ w'.cell? ⟨wr.heap.size, 3, none⟩ = some (.int .i64 col)) (first | exact KT3.out | (refine blk_23 (t := 102) (a := .int .i64 0) (b := .string (s.extract a (a + n))) ?_; repeat (first | exact KB.out | refine Blk.far ?_ (by simp; omega) _ | apply Blk.drew))) (fail)
              go_wp2_with fail
              refine bodyPost_ret (results_tmp_cell_row rfl _ _ w.heap.size _ #[.int .i64 3, .int .i64 line, .int .i64 col] _ rfl (Blk.drew ((((kf2.far (by simp; omega) _).set_ 0 _).set_ 1 _).set_ 2 _)) Tryd.underlying34 rfl (by kernel_rfl)) rfl ?_
              exact ⟨.slice none 0 0, [], 3, line, col, rfl, World.ownsRow_nil _ _ _ _, bl_drew (bl_set (bl_set (bl_set (bl_set hbw2 (by simp; omega) _) (Nat.le_refl _) _) (Nat.le_refl _) _) (Nat.le_refl _) _), HR.out⟩
            · have HS2 : Hid (LexIn s.data.toList (ts ++ [⟨kindOf tl, s.extract a (a + n), line, col⟩]) (a + n) ov.1 ov.2) := by
                have h := HI.out
                unfold LexIn at h
                rw [HST.out, if_neg hk, List.drop_drop] at h
                show LexIn _ _ _ _ _
                unfold LexIn
                have he : (⟨tl.toArray⟩ : ByteArray) = s.extract a (a + n) := by
                  rw [← HTL.out, ← ext_take]
                rw [h, preR_snoc, he]
              have HK : Hid ((kindOf tl == 0) = false) := beq_eq_false_iff_ne.2 hk
              clear hk HST HI
              generalize hkk : kindOf tl = kd at *
              have hk0 := HK.out
              clear hkk
              go_wp2_with fail
              refine (HOF.out _ ((hG1.alloc _).drew) (by simp; omega)).mono ?_
              rintro e w2 ⟨rfl, hb2⟩
              have kt := (Blk.drew (Blk.new wr 102 #[.int .i64 0, .string (s.extract a (a + n)), .int .i64 line, .int .i64 col])).call hb2
              have kf2 := (Blk.drew (kf.alloc (.cells #[.int .i64 0, .string (s.extract a (a + n)), .int .i64 line, .int .i64 col] 102))).call hb2
              have kp2 := (Blk.drew (kp.alloc (.cells #[.int .i64 0, .string (s.extract a (a + n)), .int .i64 line, .int .i64 col] 102))).call hb2
              have hown2 := ownsRow_below (w := (wr.alloc (.cells #[.int .i64 0, .string (s.extract a (a + n)), .int .i64 line, .int .i64 col] 102)).drew) (hown.alloc _) hb2
              have hbw2 := bl_call (bl_drew (bl_alloc hbw _)) hb2
              have hown3 := ownsRow_far hown2 (p := ⟨wr.heap.size, 0, none⟩) (fun g hg => by have := (hls g hg).2; simp; omega) (.int .i64 kd)
              have kt3 : Blk (w2.setCell ⟨wr.heap.size, 0, none⟩ (.int .i64 kd)) wr.heap.size 102 #[.int .i64 kd, .string (s.extract a (a + n)), .int .i64 line, .int .i64 col] := by simpa using kt.set_ 0 (.int .i64 kd)
              obtain ⟨q0, q1, q2, q3, g0, g1, g2, g3⟩ := kt.c4
              have hlt2 := kt.lt
              have hlw2 := hbw.size
              go_wp2_with (at_builtin; refine wpList_append_own _ rfl _ _ 94 rfl (w.heap.size + 1 + 1) 102 i0 _ 4 40 Tryd.underlying94 hi0 hz0 hz1 hz2 rfl (by decide) _ _ _ rfl (hown3.alloc _) ⟨w2.heap.size, 0, none⟩ 1 1 [.int .i64 kd, .string (s.extract a (a + n)), .int .i64 line, .int .i64 col] rfl (by simp) (by have := World.news_of_block (cs := #[.int .i64 kd, .string (s.extract a (a + n)), .int .i64 line, .int .i64 col]) (t := 102) (fr := (0, 0)) (heap_alloc_new (w2.setCell ⟨wr.heap.size, 0, none⟩ (.int .i64 kd)) _); simpa using this) (by simp [Value.oneCell']) (by unfold maxLen; omega) (by omega) (by simp; omega) ?_; intro v1 w3 hown1 hgrow1 hnil1; (have kp3 := ((kp2.far (p := ⟨wr.heap.size, 0, none⟩) (by simp; omega) (.int .i64 kd)).alloc _).grown hgrow1 (fun h => by have := (hown3.lt _ h.symm).1; omega)); (have kf3 := ((kf2.far (p := ⟨wr.heap.size, 0, none⟩) (by simp; omega) (.int .i64 kd)).alloc _).grown hgrow1 (fun h => by have := (hown3.lt _ h.symm).1; omega)); (have hbw3 := bl_grown (bl_alloc (bl_set hbw2 (p := ⟨wr.heap.size, 0, none⟩) (by simp; omega) (.int .i64 kd)) _) hgrow1 (fun k hk => by have := (hown3.lt _ hk).1; omega)); clear hgrow1 hnil1; obtain ⟨r0, r1, r2, j0, j1, j2⟩ := kp3.c3)
              refine (over_any s a n line col _ hlen2 (by omega) l1 c1 (by omega) (by omega)).mono ?_
              rw [HTL.out, HOV.out]
              rintro e w4 ⟨rfl, hb4⟩
              have kp4 := kp3.call hb4
              have kf4 := kf3.call hb4
              have hown4 := ownsRow_below hown1 hb4
              have hbw4 := bl_call hbw3 hb4
              clear r0 r1 r2 j0 j1 j2
              obtain ⟨r0, r1, r2, j0, j1, j2⟩ := kp4.c3
              go_wp2_with fail
              go_roundw
              case rel =>
                have hz := ((kp4.set_ 0 (.int .i64 ((a : Int) + n))).set_ 1 (.int .i64 ov.1)).set_ 2 (.int .i64 ov.2)
                refine ⟨ts ++ [⟨kd, s.extract a (a + n), line, col⟩], a + n, ov.1, ov.2, hlen2, o1, by omega, o3, by omega, ?_, by simpa using hz, ?_, by simp; omega, ?_, HS2⟩
                · exact ((kf4.far (by simp) _).far (by simp) _).far (by simp) _
                · have h1 := ownsRow_set (ownsRow_set (ownsRow_set hown4 (p := ⟨w.heap.size + 1, 0, none⟩) (by simp) (.int .i64 ((a : Int) + n))) (p := ⟨w.heap.size + 1, 1, none⟩) (by simp) (.int .i64 ov.1)) (p := ⟨w.heap.size + 1, 2, none⟩) (by simp) (.int .i64 ov.2)
                  rw [toks_snoc, List.length_append]
                  exact h1
                · exact bl_set (bl_set (bl_set hbw4 (by simp) _) (by simp) _) (by simp) _
              case measure =>
                have hz := ((kp4.set_ 0 (.int .i64 ((a : Int) + n))).set_ 1 (.int .i64 ov.1)).set_ 2 (.int .i64 ov.2)
                have := posOf_blk (a := a + n) (by simpa using hz)
                rw [this]
                omega
end Go.Proofs.YtcgkfgklggjmaaaDoor
end
section
namespace Go.Proofs.YtcgkfgklggjmaaaDoor.Par
set_option linter.unusedVariables false
set_option linter.unusedSimpArgs false
open Go.RowKit
/-- the program's parser in memory: its block, the row of the tokens, how many are over -/
structure PAt (w : World) (b : Nat) (ts : List Tok) (r cap i : Nat) (s : St) : Prop where
  blk : Blk w b 99 #[.slice (some ⟨r, i * 4, none⟩) (ts.length - i) (cap - i), .int .i64 s.err, .int .i64 s.line, .int .i64 s.col]
  row : w.ownsRow 0 102 4 (.slice (some ⟨r, 0, none⟩) ts.length cap) ts.length (toksCells ts)
  ne : r ≠ b
  cap_ : ts.length ≤ cap
  rest : s.rest = ts.drop i
  lt : i < ts.length
  last : ∀ t, ts.getLast? = some t → t.kind = 0
  ok : s.err = 0 → s.line = 0 ∧ s.col = 0
theorem PAt.peek_at {w : World} {b : Nat} {ts : List Tok} {r cap i : Nat} {s : St} (h : PAt w b ts r cap i s) : ts[i]? = some (peek s) := by
  unfold peek
  rw [h.rest, List.getElem?_eq_getElem h.lt, List.drop_eq_getElem_cons h.lt]
  rfl
theorem PAt.tok {w : World} {b : Nat} {ts : List Tok} {r cap i : Nat} {s : St} (h : PAt w b ts r cap i s) :
    w.cell? ⟨r, i * 4, none⟩ = some (.int .i64 (peek s).kind) ∧ w.cell? ⟨r, i * 4 + 1, none⟩ = some (.string (peek s).text) ∧ w.cell? ⟨r, i * 4 + 2, none⟩ = some (.int .i64 (peek s).line) ∧ w.cell? ⟨r, i * 4 + 3, none⟩ = some (.int .i64 (peek s).col) :=
  tok_cells h.row h.peek_at rfl
theorem PAt.below {w w' : World} {b : Nat} {ts : List Tok} {r cap i : Nat} {s : St} (h : PAt w b ts r cap i s) (hb : Below w.heap.size w w') : PAt w' b ts r cap i s :=
  ⟨h.blk.call hb, ownsRow_base (ownsRow_below h.row hb) (Nat.zero_le _), h.ne, h.cap_, h.rest, h.lt, h.last, h.ok⟩
end Go.Proofs.YtcgkfgklggjmaaaDoor.Par
end
