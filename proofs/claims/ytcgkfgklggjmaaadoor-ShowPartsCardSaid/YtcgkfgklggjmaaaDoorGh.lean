import Derived.Test.YtcgkfgklggjmaaaDoorGg
import Derived.KernelRfl
section
namespace Go.Proofs.YtcgkfgklggjmaaaDoor.Par
set_option linter.unusedVariables false
set_option linter.unusedSimpArgs false
open Go.RowKit
/-- a world in which the pen stands, over the world w0 in which it was made; wE: the world at the function's beginning -/
structure PW (w0 wE w : World) (gp : Nat) (l : List UInt8) (deep : Int) : Prop where
  lb : Below w0.heap.size w0 w
  pen : PenAt w gp l deep
  g0 : w0.heap.size ≤ gp
  kp : PK gp wE w
section
variable {w0 wE w w' : World} {gp : Nat} {l l' : List UInt8} {deep deep' : Int}
theorem PW.start (h : PW w0 wE w gp l deep) : PW w0 w w gp l deep := ⟨h.lb, h.pen, h.g0, PK.refl gp w⟩
theorem PW.call (h : PW w0 wE w gp l deep) (hb : Below w.heap.size w w') : PW w0 wE w' gp l deep := ⟨bl_call h.lb hb, h.pen.call hb, h.g0, h.kp.call hb h.pen.lt⟩
theorem PW.alloc (h : PW w0 wE w gp l deep) (o : Obj) : PW w0 wE (w.alloc o) gp l deep := h.call (bl_alloc (bl_refl _) o)
theorem PW.drew (h : PW w0 wE w gp l deep) : PW w0 wE w.drew gp l deep := h.call (bl_drew (bl_refl _))
theorem PW.pk (h : PW w0 wE w gp l deep) (hk : PK gp w w') (hp : PenAt w' gp l' deep') : PW w0 wE w' gp l' deep' := ⟨h.lb.trans (hk.lb.mono h.g0), hp, h.g0, h.kp.trans hk⟩
theorem PW.to (h : PW w0 wE w gp l deep) (d : Int) : PW w0 wE (w.setCell ⟨gp, 2, none⟩ (.int .i64 d)) gp l d := h.pk (h.pen.to d).2 (h.pen.to d).1
theorem PW.dt (h : PW w0 wE w gp l deep) (hD : Dec.GT w0) : Dec.GT w := hD.below h.lb
theorem PW.row (h : PW w0 wE w gp l deep) {B : Nat} {e : TypeId} {size n : Nat} {v : Value} {xs : List Value} (ho : w0.ownsRow B e size v n xs) : w.ownsRow B e size v n xs := own_keep ho fun g hg => h.lb.block g (ho.lt g hg).2
end
theorem words_cell {w : World} {g : Nat} {T : TypeId} {cs : Array Value} {xs : List ByteArray} (hb : Blk w g T cs) (hc : cs.toList = xs.map Value.string) : ∀ j x, xs[j]? = some x → w.cell? ⟨g, j, none⟩ = some (.string x) := by
  intro j x hj
  rw [hb.cell j, ← Array.getElem?_toList, hc, List.getElem?_map, hj]; rfl
theorem pday_any (d : Day) (w : World) (hD : Dec.GT w) : Calls Tryd.prog 44 #[.agg #[.int .i64 d.1, .int .i64 d.2.1, .int .i64 d.2.2]] w (Says (dayT d) 10 w) :=
  (Go.Proofs.YtcgkfgklggjmaaaDoor.text_any d.1 d.2.1 d.2.2 w hD).mono fun e w' h => says_of (dayT_len d) h
theorem pdec_any (n k : Int) (w : World) (hD : Dec.GT w) (h : n ≤ 1000000000000) : Calls Tryd.prog 118 #[.int .i64 n, .int .i64 k] w (Says (Dec.textL n k) 30 w) :=
  (Dec.dtextG_any n k w hD (by omega)).mono fun e w' he => says_of (decT_len k h) he
set_option maxHeartbeats 4000000 in
set_option maxRecDepth 100000 in
theorem pmode_any (m : Int) (w : World) : Calls Tryd.prog 34 #[.int .i64 m] w (Says (modeL m) 8 w) := by
  have hc : (m < 0 ∨ (0 ≤ m ∧ 3 < m)) ∨ m = 0 ∨ m = 1 ∨ m = 2 ∨ m = 3 := by omega
  rcases hc with (h | ⟨h0, h⟩) | rfl | rfl | rfl | rfl
  · have e1 : modeL m = [] := by unfold modeL; rw [if_neg (by omega), if_neg (by omega), if_neg (by omega), if_neg (by omega)]
    rw [e1]
    go_enter Tryd.func34, Tryd.ntmps34
    go_wp2_with fail
    go_ret
    exact ⟨_, rfl, rfl, by decide, bl_alloc (bl_refl w) _⟩
  · have e1 : modeL m = [] := by unfold modeL; rw [if_neg (by omega), if_neg (by omega), if_neg (by omega), if_neg (by omega)]
    rw [e1]
    go_enter Tryd.func34, Tryd.ntmps34
    go_wp2_with fail
    go_ret
    exact ⟨_, rfl, rfl, by decide, bl_alloc (bl_refl w) _⟩
  all_goals
    go_enter Tryd.func34, Tryd.ntmps34
    go_wp2_with fail
    go_ret
    exact ⟨_, rfl, rfl, by decide, bl_alloc (bl_refl w) _⟩
set_option maxHeartbeats 4000000 in
set_option maxRecDepth 100000 in
theorem pwin_any (x : Win) (w : World) (hD : Dec.GT w) : Calls Tryd.prog 45 #[.agg (winA x)] w (Says (winL x) 40 w) := by
  obtain ⟨has, ⟨a, b, c⟩, ⟨d, e, f⟩⟩ := x
  unfold winA
  simp only
  cases has with
  | false =>
    have e1 : winL ⟨false, (a, b, c), (d, e, f)⟩ = [] := by unfold winL; rw [if_neg (fun h => by cases h)]
    rw [e1]
    go_enter Tryd.func45, Tryd.ntmps45
    go_wp2_with fail
    go_ret
    exact ⟨_, rfl, rfl, by decide, bl_alloc (bl_refl w) _⟩
  | true =>
    have e1 : winL ⟨true, (a, b, c), (d, e, f)⟩ = [32, 102, 114, 111, 109, 32] ++ dayT (a, b, c) ++ [32, 116, 111, 32] ++ dayT (d, e, f) := by unfold winL; rw [if_pos rfl]
    have E1 := Lib.hid e1
    have h1 := fun W => pday_any (a, b, c) W
    have h2 := fun W => pday_any (d, e, f) W
    clear e1
    generalize dayT (a, b, c) = A at *
    generalize dayT (d, e, f) = B at *
    generalize winL ⟨true, (a, b, c), (d, e, f)⟩ = R at *
    have k1 := (Blk.new w 46 #[.bool true, .int .i64 a, .int .i64 b, .int .i64 c, .int .i64 d, .int .i64 e, .int .i64 f]).drew
    have hL := (LB.alloc (⟨bl_refl w⟩ : LB w w) (.cells #[.bool true, .int .i64 a, .int .i64 b, .int .i64 c, .int .i64 d, .int .i64 e, .int .i64 f] 46)).drew
    obtain ⟨x0, x1, x2, x3, x4, x5, x6, _, _, _, _, _, _, _⟩ := k1.c7
    go_enter Tryd.func45, Tryd.ntmps45
    go_wp2_with fail
    go_region_held3 (fun w' => w'.cell? ⟨w.heap.size, 0, none⟩ = some (.bool true) ∧ w'.cell? ⟨w.heap.size, 1, none⟩ = some (.int .i64 a) ∧ w'.cell? ⟨w.heap.size, 2, none⟩ = some (.int .i64 b) ∧ w'.cell? ⟨w.heap.size, 3, none⟩ = some (.int .i64 c) ∧ w'.cell? ⟨w.heap.size, 4, none⟩ = some (.int .i64 d) ∧ w'.cell? ⟨w.heap.size, 5, none⟩ = some (.int .i64 e) ∧ w'.cell? ⟨w.heap.size, 6, none⟩ = some (.int .i64 f))
      (refine ⟨?_, ?_, ?_, ?_, ?_, ?_, ?_⟩ <;> first | with_reducible assumption | (go_keep; done))
      ((first | (go_at_call 44; (with_reducible refine (h1 _ (hD.below hL.out)).mono ?_); rintro e' w6 ⟨s1, rfl, hs1, hz1, hb6⟩; (have t1 : ¬ (9223372036854775807 < 6 + s1.size) := by omega); (have t2 : ¬ (9223372036854775807 < 6 + s1.size + 4) := by omega); (have j1 := k1.call hb6); (have hL6 := hL.call hb6); obtain ⟨y0, y1, y2, y3, y4, y5, y6, _, _, _, _, _, _, _⟩ := j1.c7) | (go_at_call 44; (with_reducible refine (h2 _ (hD.below hL6.out)).mono ?_); rintro e' w7 ⟨s2, rfl, hs2, hz2, hb7⟩; (have t3 : ¬ (9223372036854775807 < 6 + s1.size + 4 + s2.size) := by omega); (have j2 := j1.call hb7); (have hL7 := hL6.call hb7); obtain ⟨z0, z1, z2, z3, z4, z5, z6, _, _, _, _, _, _, _⟩ := j2.c7)))
    all_goals go_wp2_with fail
    all_goals go_ret
    all_goals exact ⟨_, rfl, by rw [E1.out, ← hs1, ← hs2]; simp, by simp only [ByteArray.size_append]; show 6 + s1.size + 4 + s2.size ≤ 40; omega, hL7.out⟩
end Go.Proofs.YtcgkfgklggjmaaaDoor.Par
end
section
namespace Go.Proofs.YtcgkfgklggjmaaaDoor.Par
set_option linter.unusedVariables false
set_option linter.unusedSimpArgs false
open Go.RowKit
theorem join2 (a b : ByteArray) (c : List UInt8) : Lib.join ([a, b].map (·.data.toList)) c = a.data.toList ++ c ++ b.data.toList := by simp [Lib.join]
theorem join3 (a b d : ByteArray) (c : List UInt8) : Lib.join ([a, b, d].map (·.data.toList)) c = a.data.toList ++ c ++ b.data.toList ++ c ++ d.data.toList := by simp [Lib.join]
theorem join1 (a : ByteArray) (c : List UInt8) : Lib.join ([a].map (·.data.toList)) c = a.data.toList := by simp [Lib.join]
theorem join4 (a b d e : ByteArray) (c : List UInt8) : Lib.join ([a, b, d, e].map (·.data.toList)) c = a.data.toList ++ c ++ b.data.toList ++ c ++ d.data.toList ++ c ++ e.data.toList := by simp [Lib.join]
theorem join6 (a b d e f g : ByteArray) (c : List UInt8) : Lib.join ([a, b, d, e, f, g].map (·.data.toList)) c = a.data.toList ++ c ++ b.data.toList ++ c ++ d.data.toList ++ c ++ e.data.toList ++ c ++ f.data.toList ++ c ++ g.data.toList := by simp [Lib.join]
theorem len2 {a b : ByteArray} (h : a.size + b.size ≤ 900000) : (Lib.join ([a, b].map (·.data.toList)) [32]).length ≤ 1000000 := by rw [join2]; simp only [List.length_append, ba_len, List.length_singleton]; omega
theorem len1 {a : ByteArray} (h : a.size ≤ 900000) : (Lib.join ([a].map (·.data.toList)) [32]).length ≤ 1000000 := by rw [join1]; simp only [ba_len]; omega
theorem len3 {a b d : ByteArray} (h : a.size + b.size + d.size ≤ 900000) : (Lib.join ([a, b, d].map (·.data.toList)) [32]).length ≤ 1000000 := by rw [join3]; simp only [List.length_append, ba_len, List.length_singleton]; omega
theorem len4 {a b d e : ByteArray} (h : a.size + b.size + d.size + e.size ≤ 900000) : (Lib.join ([a, b, d, e].map (·.data.toList)) [32]).length ≤ 1000000 := by rw [join4]; simp only [List.length_append, ba_len, List.length_singleton]; omega
theorem len6 {a b d e f g : ByteArray} (h : a.size + b.size + d.size + e.size + f.size + g.size ≤ 900000) : (Lib.join ([a, b, d, e, f, g].map (·.data.toList)) [32]).length ≤ 1000000 := by rw [join6]; simp only [List.length_append, ba_len, List.length_singleton]; omega
theorem semi_size : (⟨#[59]⟩ : ByteArray).size = 1 := rfl
theorem tabs1 : tabsL 1 = [9] := by decide
theorem tabs0 : tabsL 0 = [] := by decide
theorem tabs2 : tabsL 2 = [9, 9] := by decide
set_option maxHeartbeats 16000000 in
set_option maxRecDepth 100000 in
theorem penAdjust_any (w0 w : World) (gp : Nat) (l : List UInt8) (a : Adj) (hD : Dec.GT w0) {wE : World} (h : PW w0 wE w gp l ((1 : Nat) : Int)) (hn : 0 ≤ a.n ∧ a.n ≤ 1000000000000) (hl : l.length ≤ 100000000000) :
    Calls Tryd.prog 82 #[.pointer (some ⟨gp, 0, none⟩), .agg #[.int .i64 a.kind, .int .i64 a.n, .int .i64 a.mode]] w fun e w' => e = .returned (.tuple #[]) ∧ PenAt w' gp (l ++ adjL a) ((1 : Nat) : Int) ∧ PK gp w w' := by
  have hkk : a.kind = 1 ∨ a.kind = 2 ∨ a.kind = 3 ∨ a.kind = 4 ∨ (a.kind ≠ 1 ∧ a.kind ≠ 2 ∧ a.kind ≠ 3 ∧ a.kind ≠ 4) := by omega
  have hW := h.start.alloc (.cells #[.int .i64 a.kind, .int .i64 a.n, .int .i64 a.mode] 121)
  have kt := Blk.new w 121 #[.int .i64 a.kind, .int .i64 a.n, .int .i64 a.mode]
  have hgl := h.pen.lt
  obtain ⟨x0, x1, x2, _, _, _⟩ := kt.c3
  go_enter Tryd.func82, Tryd.ntmps82
  rcases hkk with hkk | hkk | hkk | hkk | hkk
  · have hk1 : (a.kind == 1) = true := by rw [hkk]; rfl
    have hk2 : (a.kind == 2) = false := by rw [hkk]; rfl
    have hk3 : (a.kind == 3) = false := by rw [hkk]; rfl
    have hk4 : (a.kind == 4) = false := by rw [hkk]; rfl
    have ea : adjL a = [9, 112, 101, 114, 99, 101, 110, 116, 32] ++ Dec.textL a.n 3 ++ 32 :: (modeL a.mode ++ [59, 10]) := by unfold adjL; rw [if_pos hkk]
    have eW : (⟨#[112, 101, 114, 99, 101, 110, 116]⟩ : ByteArray).size = 7 := rfl
    clear hkk
    go_upto_region 3 with fail
    generalize w.alloc (.cells #[.int .i64 a.kind, .int .i64 a.n, .int .i64 a.mode] 121) = W2 at *
    go_region_held3 (fun w' => w'.cell? ⟨w.heap.size, 1, none⟩ = some (.int .i64 a.n) ∧ w'.cell? ⟨w.heap.size, 2, none⟩ = some (.int .i64 a.mode))
      (refine ⟨?_, ?_⟩ <;> first | with_reducible assumption | (go_keep; done))
      ((first | (go_at_call 118; (with_reducible refine (pdec_any a.n 3 _ (hW.drew.dt hD) (by omega)).mono ?_); rintro e' w0_ ⟨s1, rfl, hs1, zs1, bs1⟩; (have hW0 := hW.drew.call bs1); (have kt0 := kt.drew.call bs1); (have ltkt0 := kt0.lt); obtain ⟨ckt0_0, ckt0_1, ckt0_2, _, _, _⟩ := kt0.c3) | (go_at_call 34; (with_reducible refine (pmode_any a.mode _).mono ?_); rintro e' w1_ ⟨s2, rfl, hs2, zs2, bs2⟩; (have t4 : ¬ (9223372036854775807 < s2.size + 1) := by omega); (have hW1 := hW0.call bs2); (have kt1 := kt0.call bs2); (have ltkt1 := kt1.lt); obtain ⟨ckt1_0, ckt1_1, ckt1_2, _, _, _⟩ := kt1.c3) | (go_at_call 43; (refine (line_any _ gp l 1 (by decide) w1_.heap.size 3 [⟨#[112, 101, 114, 99, 101, 110, 116]⟩, s1, s2 ++ ⟨#[59]⟩] (hW1.alloc (.cells #[.string (⟨#[112, 101, 114, 99, 101, 110, 116]⟩), .string (s1), .string (s2 ++ ⟨#[59]⟩)] 9)).pen (words_cell (Blk.new w1_ 9 #[.string (⟨#[112, 101, 114, 99, 101, 110, 116]⟩), .string (s1), .string (s2 ++ ⟨#[59]⟩)]) rfl) (by rw [World.size_alloc]; omega) (by exact Nat.le_refl _) (by simp) (len3 (by rw [ByteArray.size_append, semi_size, eW]; omega)) hl).mono ?_); rintro e' wL_ ⟨rfl, hp8, hk8⟩; (have hWL := (hW1.alloc (.cells #[.string (⟨#[112, 101, 114, 99, 101, 110, 116]⟩), .string (s1), .string (s2 ++ ⟨#[59]⟩)] 9)).pk hk8 hp8); (have ktL := hk8.blk (kt1.alloc (.cells #[.string (⟨#[112, 101, 114, 99, 101, 110, 116]⟩), .string (s1), .string (s2 ++ ⟨#[59]⟩)] 9)) (by decide) (by omega)); obtain ⟨dkt_0, dkt_1, dkt_2, _, _, _⟩ := ktL.c3)))
    all_goals go_wp2_with fail
    all_goals go_end0
    all_goals (have eL : l ++ lineL 1 [⟨#[112, 101, 114, 99, 101, 110, 116]⟩, s1, s2 ++ ⟨#[59]⟩] = l ++ adjL a := by rw [ea]; unfold lineL; rw [join3, tabs1, ba_app, hs1, hs2]; simp)
    all_goals (rw [eL] at hWL)
    all_goals exact ⟨rfl, hWL.pen, hWL.kp⟩
  · have hk1 : (a.kind == 1) = false := by rw [hkk]; rfl
    have hk2 : (a.kind == 2) = true := by rw [hkk]; rfl
    have hk3 : (a.kind == 3) = false := by rw [hkk]; rfl
    have hk4 : (a.kind == 4) = false := by rw [hkk]; rfl
    have ea : adjL a = [9, 99, 97, 112, 32] ++ digT a.n ++ [59, 10] := by unfold adjL; rw [hkk]; rfl
    have eW : (⟨#[99, 97, 112]⟩ : ByteArray).size = 3 := rfl
    clear hkk
    go_wp2_with fail
    refine (sdig_any a.n _ (hW.dt hD) (by omega) (by omega)).mono ?_
    rintro e' w0_ ⟨s2, rfl, hs2, zs2, bs2⟩
    have t4 : ¬ (9223372036854775807 < s2.size + 1) := by omega
    have hW0 := hW.call bs2
    have kt0 := kt.call bs2
    have ltkt0 := kt0.lt
    obtain ⟨ckt0_0, ckt0_1, ckt0_2, _, _, _⟩ := kt0.c3
    go_wp2_with fail
    refine (line_any _ gp l 1 (by decide) w0_.heap.size 2 [⟨#[99, 97, 112]⟩, s2 ++ ⟨#[59]⟩] (hW0.alloc (.cells #[.string (⟨#[99, 97, 112]⟩), .string (s2 ++ ⟨#[59]⟩)] 9)).pen (words_cell (Blk.new w0_ 9 #[.string (⟨#[99, 97, 112]⟩), .string (s2 ++ ⟨#[59]⟩)]) rfl) (by rw [World.size_alloc]; omega) (by exact Nat.le_refl _) (by simp) (len2 (by rw [ByteArray.size_append, semi_size, eW]; omega)) hl).mono ?_
    rintro e' wL_ ⟨rfl, hp8, hk8⟩
    have hWL := (hW0.alloc (.cells #[.string (⟨#[99, 97, 112]⟩), .string (s2 ++ ⟨#[59]⟩)] 9)).pk hk8 hp8
    have ktL := hk8.blk (kt0.alloc (.cells #[.string (⟨#[99, 97, 112]⟩), .string (s2 ++ ⟨#[59]⟩)] 9)) (by decide) (by omega)
    obtain ⟨dkt_0, dkt_1, dkt_2, _, _, _⟩ := ktL.c3
    all_goals go_wp2_with fail
    all_goals go_end0
    all_goals (have eL : l ++ lineL 1 [⟨#[99, 97, 112]⟩, s2 ++ ⟨#[59]⟩] = l ++ adjL a := by rw [ea]; unfold lineL; rw [join2, tabs1, ba_app, hs2]; simp)
    all_goals (rw [eL] at hWL)
    all_goals exact ⟨rfl, hWL.pen, hWL.kp⟩
  · have hk1 : (a.kind == 1) = false := by rw [hkk]; rfl
    have hk2 : (a.kind == 2) = false := by rw [hkk]; rfl
    have hk3 : (a.kind == 3) = true := by rw [hkk]; rfl
    have hk4 : (a.kind == 4) = false := by rw [hkk]; rfl
    have ea : adjL a = [9, 109, 105, 110, 105, 109, 117, 109, 32] ++ digT a.n ++ [59, 10] := by unfold adjL; rw [hkk]; rfl
    have eW : (⟨#[109, 105, 110, 105, 109, 117, 109]⟩ : ByteArray).size = 7 := rfl
    clear hkk
    go_wp2_with fail
    refine (sdig_any a.n _ (hW.dt hD) (by omega) (by omega)).mono ?_
    rintro e' w0_ ⟨s2, rfl, hs2, zs2, bs2⟩
    have t4 : ¬ (9223372036854775807 < s2.size + 1) := by omega
    have hW0 := hW.call bs2
    have kt0 := kt.call bs2
    have ltkt0 := kt0.lt
    obtain ⟨ckt0_0, ckt0_1, ckt0_2, _, _, _⟩ := kt0.c3
    go_wp2_with fail
    refine (line_any _ gp l 1 (by decide) w0_.heap.size 2 [⟨#[109, 105, 110, 105, 109, 117, 109]⟩, s2 ++ ⟨#[59]⟩] (hW0.alloc (.cells #[.string (⟨#[109, 105, 110, 105, 109, 117, 109]⟩), .string (s2 ++ ⟨#[59]⟩)] 9)).pen (words_cell (Blk.new w0_ 9 #[.string (⟨#[109, 105, 110, 105, 109, 117, 109]⟩), .string (s2 ++ ⟨#[59]⟩)]) rfl) (by rw [World.size_alloc]; omega) (by exact Nat.le_refl _) (by simp) (len2 (by rw [ByteArray.size_append, semi_size, eW]; omega)) hl).mono ?_
    rintro e' wL_ ⟨rfl, hp8, hk8⟩
    have hWL := (hW0.alloc (.cells #[.string (⟨#[109, 105, 110, 105, 109, 117, 109]⟩), .string (s2 ++ ⟨#[59]⟩)] 9)).pk hk8 hp8
    have ktL := hk8.blk (kt0.alloc (.cells #[.string (⟨#[109, 105, 110, 105, 109, 117, 109]⟩), .string (s2 ++ ⟨#[59]⟩)] 9)) (by decide) (by omega)
    obtain ⟨dkt_0, dkt_1, dkt_2, _, _, _⟩ := ktL.c3
    all_goals go_wp2_with fail
    all_goals go_end0
    all_goals (have eL : l ++ lineL 1 [⟨#[109, 105, 110, 105, 109, 117, 109]⟩, s2 ++ ⟨#[59]⟩] = l ++ adjL a := by rw [ea]; unfold lineL; rw [join2, tabs1, ba_app, hs2]; simp)
    all_goals (rw [eL] at hWL)
    all_goals exact ⟨rfl, hWL.pen, hWL.kp⟩
  · have hk1 : (a.kind == 1) = false := by rw [hkk]; rfl
    have hk2 : (a.kind == 2) = false := by rw [hkk]; rfl
    have hk3 : (a.kind == 3) = false := by rw [hkk]; rfl
    have hk4 : (a.kind == 4) = true := by rw [hkk]; rfl
    have ea : adjL a = [9, 97, 100, 100, 32] ++ digT a.n ++ [59, 10] := by unfold adjL; rw [hkk]; rfl
    have eW : (⟨#[97, 100, 100]⟩ : ByteArray).size = 3 := rfl
    clear hkk
    go_wp2_with fail
    refine (sdig_any a.n _ (hW.dt hD) (by omega) (by omega)).mono ?_
    rintro e' w0_ ⟨s2, rfl, hs2, zs2, bs2⟩
    have t4 : ¬ (9223372036854775807 < s2.size + 1) := by omega
    have hW0 := hW.call bs2
    have kt0 := kt.call bs2
    have ltkt0 := kt0.lt
    obtain ⟨ckt0_0, ckt0_1, ckt0_2, _, _, _⟩ := kt0.c3
    go_wp2_with fail
    refine (line_any _ gp l 1 (by decide) w0_.heap.size 2 [⟨#[97, 100, 100]⟩, s2 ++ ⟨#[59]⟩] (hW0.alloc (.cells #[.string (⟨#[97, 100, 100]⟩), .string (s2 ++ ⟨#[59]⟩)] 9)).pen (words_cell (Blk.new w0_ 9 #[.string (⟨#[97, 100, 100]⟩), .string (s2 ++ ⟨#[59]⟩)]) rfl) (by rw [World.size_alloc]; omega) (by exact Nat.le_refl _) (by simp) (len2 (by rw [ByteArray.size_append, semi_size, eW]; omega)) hl).mono ?_
    rintro e' wL_ ⟨rfl, hp8, hk8⟩
    have hWL := (hW0.alloc (.cells #[.string (⟨#[97, 100, 100]⟩), .string (s2 ++ ⟨#[59]⟩)] 9)).pk hk8 hp8
    have ktL := hk8.blk (kt0.alloc (.cells #[.string (⟨#[97, 100, 100]⟩), .string (s2 ++ ⟨#[59]⟩)] 9)) (by decide) (by omega)
    obtain ⟨dkt_0, dkt_1, dkt_2, _, _, _⟩ := ktL.c3
    all_goals go_wp2_with fail
    all_goals go_end0
    all_goals (have eL : l ++ lineL 1 [⟨#[97, 100, 100]⟩, s2 ++ ⟨#[59]⟩] = l ++ adjL a := by rw [ea]; unfold lineL; rw [join2, tabs1, ba_app, hs2]; simp)
    all_goals (rw [eL] at hWL)
    all_goals exact ⟨rfl, hWL.pen, hWL.kp⟩
  · have hk1 : (a.kind == 1) = false := by simp [hkk]
    have hk2 : (a.kind == 2) = false := by simp [hkk]
    have hk3 : (a.kind == 3) = false := by simp [hkk]
    have hk4 : (a.kind == 4) = false := by simp [hkk]
    have ea : adjL a = [] := by unfold adjL; rw [if_neg hkk.1, if_neg hkk.2.1, if_neg hkk.2.2.1, if_neg hkk.2.2.2]
    clear hkk
    go_wp2_with fail
    go_end0
    rw [ea, List.append_nil]
    exact ⟨rfl, hW.pen, hW.kp⟩
end Go.Proofs.YtcgkfgklggjmaaaDoor.Par
end
section
namespace Go.Proofs.YtcgkfgklggjmaaaDoor.Par
set_option linter.unusedVariables false
set_option linter.unusedSimpArgs false
open Go.RowKit
theorem tierL_len (b : Bool) {t : Tier} (h : (0 ≤ t.upto ∧ t.upto ≤ 1000000) ∧ (0 ≤ t.rate ∧ t.rate ≤ 1000000000000)) : (tierL b t).length ≤ 100 := by
  have h1 := digT_len (n := t.upto) (by omega) (by omega)
  have h2 := decT_len (n := t.rate) 6 (by omega)
  unfold tierL
  cases b <;> simp <;> omega
set_option maxHeartbeats 16000000 in
set_option maxRecDepth 100000 in
theorem tiers1_any (w0 w : World) (gp cb pb : Nat) (l : List UInt8) (c : Chg) (At Aa : Option Addr) (ct ca : Nat) {B : Nat} {wE : World} (hD : Dec.GT w0) (h : PW w0 wE w gp l ((2 : Nat) : Int)) (kc0 : Blk w cb 52 #[.string c.meter, .bool c.win.has, .int .i64 c.win.from_.1, .int .i64 c.win.from_.2.1, .int .i64 c.win.from_.2.2, .int .i64 c.win.to_.1, .int .i64 c.win.to_.2.1, .int .i64 c.win.to_.2.2, .int .i64 c.allow, .int .i64 c.block, .int .i64 c.kind, .slice At c.tiers.length ct, .int .i64 c.mode, .slice Aa c.adjs.length ca, .int .i64 c.line, .int .i64 c.col]) (kq0 : Blk w pb 84 #[.pointer (some ⟨gp, 0, none⟩)]) (hcb : cb ≠ gp) (hpb : pb ≠ gp)
    (ht : TiersLie B w0 (.slice At c.tiers.length ct) c.tiers) (hnt : ∀ t ∈ c.tiers, (0 ≤ t.upto ∧ t.upto ≤ 1000000) ∧ (0 ≤ t.rate ∧ t.rate ≤ 1000000000000)) (hl1 : c.tiers.length ≤ 10000) (hl0 : l.length ≤ 90000000000) :
    Calls Tryd.prog 117 #[.pointer (some ⟨cb, 0, none⟩), .pointer (some ⟨pb, 0, none⟩)] w fun e w' => e = .returned (.tuple #[]) ∧ PenAt w' gp (l ++ tiersL c.tiers c.tiers.length) ((2 : Nat) : Int) ∧ PK gp w w' ∧ Blk w' cb 52 #[.string c.meter, .bool c.win.has, .int .i64 c.win.from_.1, .int .i64 c.win.from_.2.1, .int .i64 c.win.from_.2.2, .int .i64 c.win.to_.1, .int .i64 c.win.to_.2.1, .int .i64 c.win.to_.2.2, .int .i64 c.allow, .int .i64 c.block, .int .i64 c.kind, .slice At c.tiers.length ct, .int .i64 c.mode, .slice Aa c.adjs.length ca, .int .i64 c.line, .int .i64 c.col] ∧ Blk w' pb 84 #[.pointer (some ⟨gp, 0, none⟩)] := by
  obtain ⟨_, _, he, ht1, ht2, ht3⟩ := Lies.open (f := tierF) (l := c.tiers) (Lies.of ht)
  injection he with he1 he2 he3
  subst he1 he3
  have q11 := kc0.c16.2.2.2.2.2.2.2.2.2.2.2.1
  go_enter Tryd.func117, Tryd.ntmps117
  go_wp2_with fail
  go_loopw [7] (fun v7 wr => ∃ k : Nat, k ≤ c.tiers.length ∧ v7 = .int .i64 k ∧ PW w0 w wr gp (l ++ tiersL c.tiers k) ((2 : Nat) : Int) ∧ Blk wr cb 52 #[.string c.meter, .bool c.win.has, .int .i64 c.win.from_.1, .int .i64 c.win.from_.2.1, .int .i64 c.win.from_.2.2, .int .i64 c.win.to_.1, .int .i64 c.win.to_.2.1, .int .i64 c.win.to_.2.2, .int .i64 c.allow, .int .i64 c.block, .int .i64 c.kind, .slice At c.tiers.length ct, .int .i64 c.mode, .slice Aa c.adjs.length ca, .int .i64 c.line, .int .i64 c.col] ∧ Blk wr pb 84 #[.pointer (some ⟨gp, 0, none⟩)] ∧ (tiersL c.tiers k).length ≤ k * 100) (fun v7 _ => c.tiers.length - (intOf v7).toNat)
  case atStart => exact ⟨0, Nat.zero_le _, rfl, by simpa [tiersL] using h.start, kc0, kq0, by simp [tiersL]⟩
  case round =>
    obtain ⟨k, hk, rfl, hWr, kcr, kqr, hlk⟩ := hrel
    clear q11
    have q11 := kcr.c16.2.2.2.2.2.2.2.2.2.2.2.1
    have hl : (l ++ tiersL c.tiers k).length ≤ 100000000000 := by rw [List.length_append]; omega
    by_cases hlt : k < c.tiers.length
    · obtain ⟨gt, rfl, hgt⟩ := ht3 (by omega)
      have htk : c.tiers[k]? = some c.tiers[k] := List.getElem?_eq_getElem hlt
      have e0 : wr.cell? ⟨gt, k * 2, none⟩ = some (.int .i64 c.tiers[k].upto) := Lies.at (f := tierF) (l := c.tiers) (Lies.of (hWr.row ht)) (fun _ => rfl) (i := k) htk (j := 0) rfl
      have e1 : wr.cell? ⟨gt, k * 2 + 1, none⟩ = some (.int .i64 c.tiers[k].rate) := Lies.at (f := tierF) (l := c.tiers) (Lies.of (hWr.row ht)) (fun _ => rfl) (i := k) htk (j := 1) rfl
      have hnk := hnt _ (List.getElem_mem hlt)
      have HS := Lib.hid (tiersL_succ htk)
      generalize c.tiers[k] = t at *
      have kt := Blk.new wr 119 #[.int .i64 t.upto, .int .i64 t.rate]
      have gg0 : (0 : Int) ≤ (k : Int) := by omega
      have gg1 : (k : Int) < (c.tiers.length : Int) := by omega
      have hcl : c.tiers.length ≤ ct := ht1
      have gg2 : (k : Int) < (ct : Int) := by omega
      have hlx : gt < wr.heap.size := by have := hWr.lb.size; omega
      have lcb := kcr.lt
      have lpb := kqr.lt
      have lgp := hWr.pen.lt
      clear htk
      have hWa := hWr.alloc (.cells #[.int .i64 t.upto, .int .i64 t.rate] 119)
      have kc := kcr.alloc (.cells #[.int .i64 t.upto, .int .i64 t.rate] 119)
      have kq := kqr.alloc (.cells #[.int .i64 t.upto, .int .i64 t.rate] 119)
      obtain ⟨z0, z1, _, _⟩ := kt.c2
      obtain ⟨u0, _⟩ := kq.c1
      by_cases hlast : k + 1 = c.tiers.length
      · have hle : decide (k + 1 = c.tiers.length) = true := by simp [hlast]
        rw [hle] at HS
        clear hle
        have hli : ((k : Int) == (c.tiers.length : Int) - 1) = true := by rw [beq_iff_eq]; omega
        have eW : (⟨#[114, 101, 115, 116, 32, 114, 97, 116, 101]⟩ : ByteArray).size = 9 := rfl
        go_upto_region 4 with fail
        generalize wr.alloc (.cells #[.int .i64 t.upto, .int .i64 t.rate] 119) = W2 at *
        go_region_held3 (fun w' => w'.cell? ⟨pb, 0, none⟩ = some (.pointer (some ⟨gp, 0, none⟩)) ∧ w'.cell? ⟨wr.heap.size, 1, none⟩ = some (.int .i64 t.rate))
          (refine ⟨?_, ?_⟩ <;> first | with_reducible assumption | (go_keep; done))
          ((first | (go_at_call 118; (with_reducible refine (pdec_any t.rate 6 _ (hWa.drew.dt hD) (by omega)).mono ?_); rintro e' w0_ ⟨s2, rfl, hs2, zs2, bs2⟩; (have t4 : ¬ (9223372036854775807 < s2.size + 1) := by omega); (have hW0 := hWa.drew.call bs2); (have kc0 := kc.drew.call bs2); (have ltkc0 := kc0.lt); obtain ⟨ckc0_0, ckc0_1, ckc0_2, ckc0_3, ckc0_4, ckc0_5, ckc0_6, ckc0_7, ckc0_8, ckc0_9, ckc0_10, ckc0_11, ckc0_12, ckc0_13, ckc0_14, ckc0_15, _, _, _, _, _, _, _, _, _, _, _, _, _, _, _, _⟩ := kc0.c16; (have kq0 := kq.drew.call bs2); (have ltkq0 := kq0.lt); obtain ⟨ckq0_0, _⟩ := kq0.c1; (have kt0 := kt.drew.call bs2); (have ltkt0 := kt0.lt); obtain ⟨ckt0_0, ckt0_1, _, _⟩ := kt0.c2) | (go_at_call 43; (refine (line_any _ gp (l ++ tiersL c.tiers k) 2 (by decide) w0_.heap.size 2 [⟨#[114, 101, 115, 116, 32, 114, 97, 116, 101]⟩, s2 ++ ⟨#[59]⟩] (hW0.alloc (.cells #[.string (⟨#[114, 101, 115, 116, 32, 114, 97, 116, 101]⟩), .string (s2 ++ ⟨#[59]⟩)] 9)).pen (words_cell (Blk.new w0_ 9 #[.string (⟨#[114, 101, 115, 116, 32, 114, 97, 116, 101]⟩), .string (s2 ++ ⟨#[59]⟩)]) rfl) (by rw [World.size_alloc]; omega) (by exact Nat.le_refl _) (by simp) (len2 (by rw [ByteArray.size_append, semi_size, eW]; omega)) hl).mono ?_); rintro e' wL_ ⟨rfl, hp8, hk8⟩; (have hWL := (hW0.alloc (.cells #[.string (⟨#[114, 101, 115, 116, 32, 114, 97, 116, 101]⟩), .string (s2 ++ ⟨#[59]⟩)] 9)).pk hk8 hp8); (have kcL := hk8.blk (kc0.alloc (.cells #[.string (⟨#[114, 101, 115, 116, 32, 114, 97, 116, 101]⟩), .string (s2 ++ ⟨#[59]⟩)] 9)) (by decide) (by omega)); obtain ⟨dkc_0, dkc_1, dkc_2, dkc_3, dkc_4, dkc_5, dkc_6, dkc_7, dkc_8, dkc_9, dkc_10, dkc_11, dkc_12, dkc_13, dkc_14, dkc_15, _, _, _, _, _, _, _, _, _, _, _, _, _, _, _, _⟩ := kcL.c16; (have kqL := hk8.blk (kq0.alloc (.cells #[.string (⟨#[114, 101, 115, 116, 32, 114, 97, 116, 101]⟩), .string (s2 ++ ⟨#[59]⟩)] 9)) (by decide) (by omega)); obtain ⟨dkq_0, _⟩ := kqL.c1; (have ktL := hk8.blk (kt0.alloc (.cells #[.string (⟨#[114, 101, 115, 116, 32, 114, 97, 116, 101]⟩), .string (s2 ++ ⟨#[59]⟩)] 9)) (by decide) (by omega)); obtain ⟨dkt_0, dkt_1, _, _⟩ := ktL.c2)))
        all_goals go_wp2_with fail
        all_goals (have eL : (l ++ tiersL c.tiers k) ++ lineL 2 [⟨#[114, 101, 115, 116, 32, 114, 97, 116, 101]⟩, s2 ++ ⟨#[59]⟩] = l ++ tiersL c.tiers (k + 1) := by rw [HS.out, ← List.append_assoc]; congr 1; unfold lineL; rw [join2, tabs2, ba_app, hs2]; simp [tierL])
        all_goals (rw [eL] at hWL)
        all_goals go_roundw
        case rel => exact ⟨k + 1, by omega, by go_num, hWL, kcL, kqL, by rw [HS.out, List.length_append]; have := tierL_len true hnk; omega⟩
        case measure => simp [intOf]; omega
      · have hle : decide (k + 1 = c.tiers.length) = false := by simp [hlast]
        rw [hle] at HS
        clear hle
        have hli : ((k : Int) == (c.tiers.length : Int) - 1) = false := by rw [beq_eq_false_iff_ne]; omega
        have eW : (⟨#[117, 112, 116, 111]⟩ : ByteArray).size = 4 := rfl
        have eW2 : (⟨#[114, 97, 116, 101]⟩ : ByteArray).size = 4 := rfl
        go_upto_region 5 with fail
        generalize wr.alloc (.cells #[.int .i64 t.upto, .int .i64 t.rate] 119) = W2 at *
        go_region_held3 (fun w' => w'.cell? ⟨pb, 0, none⟩ = some (.pointer (some ⟨gp, 0, none⟩)) ∧ w'.cell? ⟨wr.heap.size, 0, none⟩ = some (.int .i64 t.upto) ∧ w'.cell? ⟨wr.heap.size, 1, none⟩ = some (.int .i64 t.rate))
          (refine ⟨?_, ?_, ?_⟩ <;> first | with_reducible assumption | (go_keep; done))
          ((first | (go_at_call 22; (with_reducible refine (sdig_any t.upto _ (hWa.drew.dt hD) (by omega) (by omega)).mono ?_); rintro e' w0_ ⟨s1, rfl, hs1, zs1, bs1⟩; (have hW0 := hWa.drew.call bs1); (have kc0 := kc.drew.call bs1); (have ltkc0 := kc0.lt); obtain ⟨ckc0_0, ckc0_1, ckc0_2, ckc0_3, ckc0_4, ckc0_5, ckc0_6, ckc0_7, ckc0_8, ckc0_9, ckc0_10, ckc0_11, ckc0_12, ckc0_13, ckc0_14, ckc0_15, _, _, _, _, _, _, _, _, _, _, _, _, _, _, _, _⟩ := kc0.c16; (have kq0 := kq.drew.call bs1); (have ltkq0 := kq0.lt); obtain ⟨ckq0_0, _⟩ := kq0.c1; (have kt0 := kt.drew.call bs1); (have ltkt0 := kt0.lt); obtain ⟨ckt0_0, ckt0_1, _, _⟩ := kt0.c2) | (go_at_call 118; (with_reducible refine (pdec_any t.rate 6 _ (hW0.dt hD) (by omega)).mono ?_); rintro e' w1_ ⟨s2, rfl, hs2, zs2, bs2⟩; (have t4 : ¬ (9223372036854775807 < s2.size + 1) := by omega); (have hW1 := hW0.call bs2); (have kc1 := kc0.call bs2); (have ltkc1 := kc1.lt); obtain ⟨ckc1_0, ckc1_1, ckc1_2, ckc1_3, ckc1_4, ckc1_5, ckc1_6, ckc1_7, ckc1_8, ckc1_9, ckc1_10, ckc1_11, ckc1_12, ckc1_13, ckc1_14, ckc1_15, _, _, _, _, _, _, _, _, _, _, _, _, _, _, _, _⟩ := kc1.c16; (have kq1 := kq0.call bs2); (have ltkq1 := kq1.lt); obtain ⟨ckq1_0, _⟩ := kq1.c1; (have kt1 := kt0.call bs2); (have ltkt1 := kt1.lt); obtain ⟨ckt1_0, ckt1_1, _, _⟩ := kt1.c2) | (go_at_call 43; (refine (line_any _ gp (l ++ tiersL c.tiers k) 2 (by decide) w1_.heap.size 4 [⟨#[117, 112, 116, 111]⟩, s1, ⟨#[114, 97, 116, 101]⟩, s2 ++ ⟨#[59]⟩] (hW1.alloc (.cells #[.string (⟨#[117, 112, 116, 111]⟩), .string (s1), .string (⟨#[114, 97, 116, 101]⟩), .string (s2 ++ ⟨#[59]⟩)] 9)).pen (words_cell (Blk.new w1_ 9 #[.string (⟨#[117, 112, 116, 111]⟩), .string (s1), .string (⟨#[114, 97, 116, 101]⟩), .string (s2 ++ ⟨#[59]⟩)]) rfl) (by rw [World.size_alloc]; omega) (by exact Nat.le_refl _) (by simp) (len4 (by rw [ByteArray.size_append, semi_size, eW, eW2]; omega)) hl).mono ?_); rintro e' wL_ ⟨rfl, hp8, hk8⟩; (have hWL := (hW1.alloc (.cells #[.string (⟨#[117, 112, 116, 111]⟩), .string (s1), .string (⟨#[114, 97, 116, 101]⟩), .string (s2 ++ ⟨#[59]⟩)] 9)).pk hk8 hp8); (have kcL := hk8.blk (kc1.alloc (.cells #[.string (⟨#[117, 112, 116, 111]⟩), .string (s1), .string (⟨#[114, 97, 116, 101]⟩), .string (s2 ++ ⟨#[59]⟩)] 9)) (by decide) (by omega)); obtain ⟨dkc_0, dkc_1, dkc_2, dkc_3, dkc_4, dkc_5, dkc_6, dkc_7, dkc_8, dkc_9, dkc_10, dkc_11, dkc_12, dkc_13, dkc_14, dkc_15, _, _, _, _, _, _, _, _, _, _, _, _, _, _, _, _⟩ := kcL.c16; (have kqL := hk8.blk (kq1.alloc (.cells #[.string (⟨#[117, 112, 116, 111]⟩), .string (s1), .string (⟨#[114, 97, 116, 101]⟩), .string (s2 ++ ⟨#[59]⟩)] 9)) (by decide) (by omega)); obtain ⟨dkq_0, _⟩ := kqL.c1; (have ktL := hk8.blk (kt1.alloc (.cells #[.string (⟨#[117, 112, 116, 111]⟩), .string (s1), .string (⟨#[114, 97, 116, 101]⟩), .string (s2 ++ ⟨#[59]⟩)] 9)) (by decide) (by omega)); obtain ⟨dkt_0, dkt_1, _, _⟩ := ktL.c2)))
        all_goals go_wp2_with fail
        all_goals (have eL : (l ++ tiersL c.tiers k) ++ lineL 2 [⟨#[117, 112, 116, 111]⟩, s1, ⟨#[114, 97, 116, 101]⟩, s2 ++ ⟨#[59]⟩] = l ++ tiersL c.tiers (k + 1) := by rw [HS.out, ← List.append_assoc]; congr 1; unfold lineL; rw [join4, tabs2, ba_app, hs1, hs2]; simp [tierL])
        all_goals (rw [eL] at hWL)
        all_goals go_roundw
        case rel => exact ⟨k + 1, by omega, by go_num, hWL, kcL, kqL, by rw [HS.out, List.length_append]; have := tierL_len false hnk; omega⟩
        case measure => simp [intOf]; omega
    · obtain rfl : k = c.tiers.length := by omega
      go_wp2_with fail
      go_end0
      exact ⟨rfl, hWr.pen, hWr.kp, kcr, kqr⟩
end Go.Proofs.YtcgkfgklggjmaaaDoor.Par
end
section
namespace Go.Proofs.YtcgkfgklggjmaaaDoor.Par
set_option linter.unusedVariables false
set_option linter.unusedSimpArgs false
open Go.RowKit
theorem tiersL_len {ts : List Tier} (h : ∀ t ∈ ts, (0 ≤ t.upto ∧ t.upto ≤ 1000000) ∧ (0 ≤ t.rate ∧ t.rate ≤ 1000000000000)) : ∀ k, k ≤ ts.length → (tiersL ts k).length ≤ k * 100
  | 0, _ => by simp [tiersL]
  | k + 1, hk => by
    have ht : ts[k]? = some ts[k] := List.getElem?_eq_getElem (by omega)
    rw [tiersL_succ ht, List.length_append]
    have h1 := tiersL_len h k (by omega)
    have h2 := tierL_len (decide (k + 1 = ts.length)) (h _ (List.getElem_mem (show k < ts.length by omega)))
    omega
set_option maxHeartbeats 16000000 in
set_option maxRecDepth 100000 in
theorem within_tiers (w0 w : World) (gp cb pb : Nat) (l : List UInt8) (c : Chg) (At Aa : Option Addr) (ct ca : Nat) {B : Nat} {wE : World} (hD : Dec.GT w0) (h : PW w0 wE w gp l ((1 : Nat) : Int)) (kc0 : Blk w cb 52 #[.string c.meter, .bool c.win.has, .int .i64 c.win.from_.1, .int .i64 c.win.from_.2.1, .int .i64 c.win.from_.2.2, .int .i64 c.win.to_.1, .int .i64 c.win.to_.2.1, .int .i64 c.win.to_.2.2, .int .i64 c.allow, .int .i64 c.block, .int .i64 c.kind, .slice At c.tiers.length ct, .int .i64 c.mode, .slice Aa c.adjs.length ca, .int .i64 c.line, .int .i64 c.col]) (kq0 : Blk w pb 84 #[.pointer (some ⟨gp, 0, none⟩)]) (hcb : cb ≠ gp) (hpb : pb ≠ gp)
    (ht : TiersLie B w0 (.slice At c.tiers.length ct) c.tiers) (hnt : ∀ t ∈ c.tiers, (0 ≤ t.upto ∧ t.upto ≤ 1000000) ∧ (0 ≤ t.rate ∧ t.rate ≤ 1000000000000)) (hl1 : c.tiers.length ≤ 10000) (hl0 : l.length ≤ 90000000000) :
    Calls Tryd.prog 79 #[.pointer (some ⟨gp, 0, none⟩), .func (.func 117) #[] #[.pointer (some ⟨cb, 0, none⟩), .pointer (some ⟨pb, 0, none⟩)]] w fun e w' => e = .returned (.tuple #[]) ∧ PenAt w' gp (l ++ tiersL c.tiers c.tiers.length ++ lineL 1 [⟨#[125]⟩]) ((1 : Nat) : Int) ∧ PK gp w w' ∧ Blk w' cb 52 #[.string c.meter, .bool c.win.has, .int .i64 c.win.from_.1, .int .i64 c.win.from_.2.1, .int .i64 c.win.from_.2.2, .int .i64 c.win.to_.1, .int .i64 c.win.to_.2.1, .int .i64 c.win.to_.2.2, .int .i64 c.allow, .int .i64 c.block, .int .i64 c.kind, .slice At c.tiers.length ct, .int .i64 c.mode, .slice Aa c.adjs.length ca, .int .i64 c.line, .int .i64 c.col] ∧ Blk w' pb 84 #[.pointer (some ⟨gp, 0, none⟩)] := by
  obtain ⟨x2, x2'⟩ := h.pen.deep_
  have h2 : PW w0 w (w.setCell ⟨gp, 2, none⟩ (.int .i64 2)) gp l ((2 : Nat) : Int) := h.start.to ((2 : Nat) : Int)
  have kc2 := kc0.far (p := ⟨gp, 2, none⟩) hcb (.int .i64 2)
  have kq2 := kq0.far (p := ⟨gp, 2, none⟩) hpb (.int .i64 2)
  have hl : (l ++ tiersL c.tiers c.tiers.length).length ≤ 100000000000 := by rw [List.length_append]; have := tiersL_len hnt c.tiers.length (Nat.le_refl _); omega
  go_enter Tryd.func79, Tryd.ntmps79
  go_wp2_with fail
  refine (tiers1_any w0 _ gp cb pb l c At Aa ct ca hD h2 kc2 kq2 hcb hpb ht hnt hl1 hl0).mono ?_
  rintro e' w1 ⟨rfl, hp1, hk1, kc1, kq1⟩
  have h3 := h2.pk hk1 hp1
  obtain ⟨y2, y2'⟩ := hp1.deep_
  have h4 : PW w0 w (w1.setCell ⟨gp, 2, none⟩ (.int .i64 1)) gp (l ++ tiersL c.tiers c.tiers.length) ((1 : Nat) : Int) := h3.to ((1 : Nat) : Int)
  have kc3 := kc1.far (p := ⟨gp, 2, none⟩) hcb (.int .i64 1)
  have kq3 := kq1.far (p := ⟨gp, 2, none⟩) hpb (.int .i64 1)
  go_upto_region 3 with fail
  generalize w1.setCell ⟨gp, 2, none⟩ (.int .i64 1) = W3 at *
  go_wp2_with fail
  refine (line_any _ gp (l ++ tiersL c.tiers c.tiers.length) 1 (by decide) W3.heap.size 1 [⟨#[125]⟩] (h4.alloc (.cells #[.string (⟨#[125]⟩)] 9)).pen (words_cell (Blk.new W3 9 #[.string (⟨#[125]⟩)]) rfl) (by rw [World.size_alloc]; omega) (by exact Nat.le_refl _) (by simp) (len1 (by decide)) hl).mono ?_
  rintro e' wL_ ⟨rfl, hp8, hk8⟩
  have hWL := (h4.alloc (.cells #[.string (⟨#[125]⟩)] 9)).pk hk8 hp8
  have kc3L := hk8.blk (kc3.alloc (.cells #[.string (⟨#[125]⟩)] 9)) (by decide) (by omega)
  obtain ⟨dkc3_0, dkc3_1, dkc3_2, dkc3_3, dkc3_4, dkc3_5, dkc3_6, dkc3_7, dkc3_8, dkc3_9, dkc3_10, dkc3_11, dkc3_12, dkc3_13, dkc3_14, dkc3_15, _, _, _, _, _, _, _, _, _, _, _, _, _, _, _, _⟩ := kc3L.c16
  have kq3L := hk8.blk (kq3.alloc (.cells #[.string (⟨#[125]⟩)] 9)) (by decide) (by omega)
  obtain ⟨dkq3_0, _⟩ := kq3L.c1
  go_wp2_with fail
  go_end0
  exact ⟨rfl, hWL.pen, hWL.kp, kc3L, kq3L⟩
set_option maxHeartbeats 16000000 in
set_option maxRecDepth 100000 in
theorem penTiers_any (w0 w : World) (gp : Nat) (l : List UInt8) (c : Chg) (At Aa : Option Addr) (ct ca : Nat) {B : Nat} {wE : World} (hD : Dec.GT w0) (h : PW w0 wE w gp l ((1 : Nat) : Int))
    (ht : TiersLie B w0 (.slice At c.tiers.length ct) c.tiers) (hnt : ∀ t ∈ c.tiers, (0 ≤ t.upto ∧ t.upto ≤ 1000000) ∧ (0 ≤ t.rate ∧ t.rate ≤ 1000000000000)) (hl1 : c.tiers.length ≤ 10000) (hl0 : l.length ≤ 80000000000) :
    Calls Tryd.prog 81 #[.pointer (some ⟨gp, 0, none⟩), .agg #[.string c.meter, .bool c.win.has, .int .i64 c.win.from_.1, .int .i64 c.win.from_.2.1, .int .i64 c.win.from_.2.2, .int .i64 c.win.to_.1, .int .i64 c.win.to_.2.1, .int .i64 c.win.to_.2.2, .int .i64 c.allow, .int .i64 c.block, .int .i64 c.kind, .slice At c.tiers.length ct, .int .i64 c.mode, .slice Aa c.adjs.length ca, .int .i64 c.line, .int .i64 c.col]] w fun e w' => e = .returned (.tuple #[]) ∧ PenAt w' gp (l ++ kindL c ++ tiersL c.tiers c.tiers.length ++ lineL 1 [⟨#[125]⟩]) ((1 : Nat) : Int) ∧ PK gp w w' := by
  have hgl := h.pen.lt
  have hW := (h.start.alloc (.cells #[.pointer (some ⟨gp, 0, none⟩)] 84)).alloc (.cells #[.string c.meter, .bool c.win.has, .int .i64 c.win.from_.1, .int .i64 c.win.from_.2.1, .int .i64 c.win.from_.2.2, .int .i64 c.win.to_.1, .int .i64 c.win.to_.2.1, .int .i64 c.win.to_.2.2, .int .i64 c.allow, .int .i64 c.block, .int .i64 c.kind, .slice At c.tiers.length ct, .int .i64 c.mode, .slice Aa c.adjs.length ca, .int .i64 c.line, .int .i64 c.col] 52)
  have kq := (Blk.new w 84 #[.pointer (some ⟨gp, 0, none⟩)]).alloc (.cells #[.string c.meter, .bool c.win.has, .int .i64 c.win.from_.1, .int .i64 c.win.from_.2.1, .int .i64 c.win.from_.2.2, .int .i64 c.win.to_.1, .int .i64 c.win.to_.2.1, .int .i64 c.win.to_.2.2, .int .i64 c.allow, .int .i64 c.block, .int .i64 c.kind, .slice At c.tiers.length ct, .int .i64 c.mode, .slice Aa c.adjs.length ca, .int .i64 c.line, .int .i64 c.col] 52)
  have kc := Blk.new (w.alloc (.cells #[.pointer (some ⟨gp, 0, none⟩)] 84)) 52 #[.string c.meter, .bool c.win.has, .int .i64 c.win.from_.1, .int .i64 c.win.from_.2.1, .int .i64 c.win.from_.2.2, .int .i64 c.win.to_.1, .int .i64 c.win.to_.2.1, .int .i64 c.win.to_.2.2, .int .i64 c.allow, .int .i64 c.block, .int .i64 c.kind, .slice At c.tiers.length ct, .int .i64 c.mode, .slice Aa c.adjs.length ca, .int .i64 c.line, .int .i64 c.col]
  rw [World.size_alloc] at kc
  have q10 := kc.c16.2.2.2.2.2.2.2.2.2.2.1
  obtain ⟨u0, _⟩ := kq.c1
  have hl : l.length ≤ 100000000000 := by omega
  go_enter Tryd.func81, Tryd.ntmps81
  by_cases hk : c.kind = 2
  · have hkq : (c.kind == 2) = true := by simp [hk]
    have ea : kindL c = [9, 118, 111, 108, 117, 109, 101, 32, 123, 10] := by unfold kindL; rw [if_pos hk]
    clear hk
    go_upto_region 4 with fail
    generalize (w.alloc (.cells #[.pointer (some ⟨gp, 0, none⟩)] 84)).alloc (.cells #[.string c.meter, .bool c.win.has, .int .i64 c.win.from_.1, .int .i64 c.win.from_.2.1, .int .i64 c.win.from_.2.2, .int .i64 c.win.to_.1, .int .i64 c.win.to_.2.1, .int .i64 c.win.to_.2.2, .int .i64 c.allow, .int .i64 c.block, .int .i64 c.kind, .slice At c.tiers.length ct, .int .i64 c.mode, .slice Aa c.adjs.length ca, .int .i64 c.line, .int .i64 c.col] 52) = W2 at *
    go_wp2_with fail
    refine (line_any _ gp l 1 (by decide) W2.heap.size 2 [⟨#[118, 111, 108, 117, 109, 101]⟩, ⟨#[123]⟩] (hW.alloc (.cells #[.string (⟨#[118, 111, 108, 117, 109, 101]⟩), .string (⟨#[123]⟩)] 9)).pen (words_cell (Blk.new W2 9 #[.string (⟨#[118, 111, 108, 117, 109, 101]⟩), .string (⟨#[123]⟩)]) rfl) (by rw [World.size_alloc]; omega) (by exact Nat.le_refl _) (by simp) (len2 (by decide)) hl).mono ?_
    rintro e' wL_ ⟨rfl, hp8, hk8⟩
    have hWL := (hW.alloc (.cells #[.string (⟨#[118, 111, 108, 117, 109, 101]⟩), .string (⟨#[123]⟩)] 9)).pk hk8 hp8
    have kcL := hk8.blk (kc.alloc (.cells #[.string (⟨#[118, 111, 108, 117, 109, 101]⟩), .string (⟨#[123]⟩)] 9)) (by decide) (by omega)
    obtain ⟨dkc_0, dkc_1, dkc_2, dkc_3, dkc_4, dkc_5, dkc_6, dkc_7, dkc_8, dkc_9, dkc_10, dkc_11, dkc_12, dkc_13, dkc_14, dkc_15, _, _, _, _, _, _, _, _, _, _, _, _, _, _, _, _⟩ := kcL.c16
    have kqL := hk8.blk (kq.alloc (.cells #[.string (⟨#[118, 111, 108, 117, 109, 101]⟩), .string (⟨#[123]⟩)] 9)) (by decide) (by omega)
    obtain ⟨dkq_0, _⟩ := kqL.c1
    have eL : l ++ lineL 1 [⟨#[118, 111, 108, 117, 109, 101]⟩, ⟨#[123]⟩] = l ++ kindL c := by rw [ea]; congr 1
    rw [eL] at hWL
    go_wp2_with fail
    refine (within_tiers w0 _ gp (w.heap.size + 1) w.heap.size (l ++ kindL c) c At Aa ct ca hD hWL kcL kqL (by omega) (by omega) ht hnt hl1 (by rw [List.length_append, ea]; simp; omega)).mono ?_
    rintro e' w9 ⟨rfl, hp9, hk9, kc9, kq9⟩
    have hW9 := hWL.pk hk9 hp9
    go_wp2_with fail
    go_end0
    exact ⟨rfl, hW9.pen, hW9.kp⟩
  · have hkq : (c.kind == 2) = false := by simp [hk]
    have ea : kindL c = [9, 103, 114, 97, 100, 117, 97, 116, 101, 100, 32, 123, 10] := by unfold kindL; rw [if_neg hk]
    clear hk
    go_upto_region 4 with fail
    generalize (w.alloc (.cells #[.pointer (some ⟨gp, 0, none⟩)] 84)).alloc (.cells #[.string c.meter, .bool c.win.has, .int .i64 c.win.from_.1, .int .i64 c.win.from_.2.1, .int .i64 c.win.from_.2.2, .int .i64 c.win.to_.1, .int .i64 c.win.to_.2.1, .int .i64 c.win.to_.2.2, .int .i64 c.allow, .int .i64 c.block, .int .i64 c.kind, .slice At c.tiers.length ct, .int .i64 c.mode, .slice Aa c.adjs.length ca, .int .i64 c.line, .int .i64 c.col] 52) = W2 at *
    go_wp2_with fail
    refine (line_any _ gp l 1 (by decide) W2.heap.size 2 [⟨#[103, 114, 97, 100, 117, 97, 116, 101, 100]⟩, ⟨#[123]⟩] (hW.alloc (.cells #[.string (⟨#[103, 114, 97, 100, 117, 97, 116, 101, 100]⟩), .string (⟨#[123]⟩)] 9)).pen (words_cell (Blk.new W2 9 #[.string (⟨#[103, 114, 97, 100, 117, 97, 116, 101, 100]⟩), .string (⟨#[123]⟩)]) rfl) (by rw [World.size_alloc]; omega) (by exact Nat.le_refl _) (by simp) (len2 (by decide)) hl).mono ?_
    rintro e' wL_ ⟨rfl, hp8, hk8⟩
    have hWL := (hW.alloc (.cells #[.string (⟨#[103, 114, 97, 100, 117, 97, 116, 101, 100]⟩), .string (⟨#[123]⟩)] 9)).pk hk8 hp8
    have kcL := hk8.blk (kc.alloc (.cells #[.string (⟨#[103, 114, 97, 100, 117, 97, 116, 101, 100]⟩), .string (⟨#[123]⟩)] 9)) (by decide) (by omega)
    obtain ⟨dkc_0, dkc_1, dkc_2, dkc_3, dkc_4, dkc_5, dkc_6, dkc_7, dkc_8, dkc_9, dkc_10, dkc_11, dkc_12, dkc_13, dkc_14, dkc_15, _, _, _, _, _, _, _, _, _, _, _, _, _, _, _, _⟩ := kcL.c16
    have kqL := hk8.blk (kq.alloc (.cells #[.string (⟨#[103, 114, 97, 100, 117, 97, 116, 101, 100]⟩), .string (⟨#[123]⟩)] 9)) (by decide) (by omega)
    obtain ⟨dkq_0, _⟩ := kqL.c1
    have eL : l ++ lineL 1 [⟨#[103, 114, 97, 100, 117, 97, 116, 101, 100]⟩, ⟨#[123]⟩] = l ++ kindL c := by rw [ea]; congr 1
    rw [eL] at hWL
    go_wp2_with fail
    refine (within_tiers w0 _ gp (w.heap.size + 1) w.heap.size (l ++ kindL c) c At Aa ct ca hD hWL kcL kqL (by omega) (by omega) ht hnt hl1 (by rw [List.length_append, ea]; simp; omega)).mono ?_
    rintro e' w9 ⟨rfl, hp9, hk9, kc9, kq9⟩
    have hW9 := hWL.pk hk9 hp9
    go_wp2_with fail
    go_end0
    exact ⟨rfl, hW9.pen, hW9.kp⟩
end Go.Proofs.YtcgkfgklggjmaaaDoor.Par
end
section
namespace Go.Proofs.YtcgkfgklggjmaaaDoor.Par
set_option linter.unusedVariables false
set_option linter.unusedSimpArgs false
open Go.RowKit
theorem adjL_len {a : Adj} (h : 0 ≤ a.n ∧ a.n ≤ 1000000000000) : (adjL a).length ≤ 100 := by
  have h1 := digT_len (n := a.n) h.1 h.2
  have h2 := decT_len (n := a.n) 3 h.2
  have h3 := modeL_len a.mode
  unfold adjL
  split
  · simp; omega
  split
  · simp; omega
  split
  · simp; omega
  split
  · simp; omega
  · simp
theorem alwL_len {c : Chg} (h : 0 ≤ c.allow ∧ c.allow ≤ 1000000) : (alwL c).length ≤ 30 := by
  have h1 := digT_len (n := c.allow) h.1 (by omega)
  unfold alwL
  split
  · simp; omega
  · simp
theorem blkL_len {c : Chg} (h : 0 ≤ c.block ∧ c.block ≤ 1000000) : (blkL c).length ≤ 30 := by
  have h1 := digT_len (n := c.block) h.1 (by omega)
  unfold blkL
  split
  · simp; omega
  · simp
theorem kindL_len (c : Chg) : (kindL c).length ≤ 20 := by
  unfold kindL; split <;> decide
set_option maxHeartbeats 16000000 in
set_option maxRecDepth 100000 in
theorem charge1_any (w0 w : World) (gp cb pb : Nat) (l : List UInt8) (c : Chg) (At Aa : Option Addr) (ct ca : Nat) {B : Nat} {wE : World} (hD : Dec.GT w0) (h : PW w0 wE w gp l ((1 : Nat) : Int)) (kc0 : Blk w cb 52 #[.string c.meter, .bool c.win.has, .int .i64 c.win.from_.1, .int .i64 c.win.from_.2.1, .int .i64 c.win.from_.2.2, .int .i64 c.win.to_.1, .int .i64 c.win.to_.2.1, .int .i64 c.win.to_.2.2, .int .i64 c.allow, .int .i64 c.block, .int .i64 c.kind, .slice At c.tiers.length ct, .int .i64 c.mode, .slice Aa c.adjs.length ca, .int .i64 c.line, .int .i64 c.col]) (kq0 : Blk w pb 84 #[.pointer (some ⟨gp, 0, none⟩)]) (hcb : cb ≠ gp) (hpb : pb ≠ gp)
    (ht : TiersLie B w0 (.slice At c.tiers.length ct) c.tiers) (ha : AdjsLie B w0 (.slice Aa c.adjs.length ca) c.adjs) (hna : 0 ≤ c.allow ∧ c.allow ≤ 1000000) (hnb : 0 ≤ c.block ∧ c.block ≤ 1000000) (hnt : ∀ t ∈ c.tiers, (0 ≤ t.upto ∧ t.upto ≤ 1000000) ∧ (0 ≤ t.rate ∧ t.rate ≤ 1000000000000)) (hnd : ∀ a ∈ c.adjs, 0 ≤ a.n ∧ a.n ≤ 1000000000000) (hl1 : c.tiers.length ≤ 10000) (hl2 : c.adjs.length ≤ 10000) (hl0 : l.length ≤ 70000000000) :
    Calls Tryd.prog 80 #[.pointer (some ⟨cb, 0, none⟩), .pointer (some ⟨pb, 0, none⟩)] w fun e w' => e = .returned (.tuple #[]) ∧ PenAt w' gp (l ++ alwL c ++ blkL c ++ kindL c ++ tiersL c.tiers c.tiers.length ++ rndL c ++ c.adjs.flatMap adjL) ((1 : Nat) : Int) ∧ PK gp w w' ∧ Blk w' cb 52 #[.string c.meter, .bool c.win.has, .int .i64 c.win.from_.1, .int .i64 c.win.from_.2.1, .int .i64 c.win.from_.2.2, .int .i64 c.win.to_.1, .int .i64 c.win.to_.2.1, .int .i64 c.win.to_.2.2, .int .i64 c.allow, .int .i64 c.block, .int .i64 c.kind, .slice At c.tiers.length ct, .int .i64 c.mode, .slice Aa c.adjs.length ca, .int .i64 c.line, .int .i64 c.col] ∧ Blk w' pb 84 #[.pointer (some ⟨gp, 0, none⟩)] := by
  have n1 := alwL_len hna
  have n2 := blkL_len hnb
  have n3 := kindL_len c
  have n4 := tiersL_len hnt c.tiers.length (Nat.le_refl _)
  obtain ⟨_, _, he, ha1, ha2, ha3⟩ := Lies.open (f := adjF) (l := c.adjs) (Lies.of ha)
  injection he with he1 he2 he3
  subst he1 he3
  have hS := h.start
  go_enter Tryd.func80, Tryd.ntmps80
  have q8' := kc0.c16.2.2.2.2.2.2.2.2.1
  go_upto_if 6 with fail
  go_cut [] (fun wx => PW w0 w wx gp (l ++ alwL c) ((1 : Nat) : Int) ∧ Blk wx cb 52 #[.string c.meter, .bool c.win.has, .int .i64 c.win.from_.1, .int .i64 c.win.from_.2.1, .int .i64 c.win.from_.2.2, .int .i64 c.win.to_.1, .int .i64 c.win.to_.2.1, .int .i64 c.win.to_.2.2, .int .i64 c.allow, .int .i64 c.block, .int .i64 c.kind, .slice At c.tiers.length ct, .int .i64 c.mode, .slice Aa c.adjs.length ca, .int .i64 c.line, .int .i64 c.col] ∧ Blk wx pb 84 #[.pointer (some ⟨gp, 0, none⟩)])
  case first =>
    have hl : l.length ≤ 100000000000 := by omega
    have q8 := kc0.c16.2.2.2.2.2.2.2.2.1
    obtain ⟨u0, _⟩ := kq0.c1
    by_cases hk : c.allow = 0
    · have hq : (c.allow != 0) = false := by simp [hk]
      have ea : alwL c = [] := by unfold alwL; rw [if_neg (fun e => e hk)]
      go_wp2_with fail
      go_meet
      exact ⟨by rw [ea, List.append_nil]; exact hS, kc0, kq0⟩
    · have hq : (c.allow != 0) = true := by simp [hk]
      have ea := alw_yes hk
      have eW : (⟨#[97, 108, 108, 111, 119, 97, 110, 99, 101]⟩ : ByteArray).size = 9 := rfl
      have lcb := kc0.lt
      have lpb := kq0.lt
      have lgp := hS.pen.lt
      go_upto_region 1 with fail
      go_region_held3 (fun w' => w'.cell? ⟨pb, 0, none⟩ = some (.pointer (some ⟨gp, 0, none⟩)) ∧ w'.cell? ⟨cb, 8, none⟩ = some (.int .i64 c.allow))
        (refine ⟨?_, ?_⟩ <;> first | with_reducible assumption | (go_keep; done))
        ((first | (go_at_call 22; (with_reducible refine (sdig_any c.allow _ (hS.drew.dt hD) (by omega) (by omega)).mono ?_); rintro e' w0_ ⟨s2, rfl, hs2, zs2, bs2⟩; (have t4 : ¬ (9223372036854775807 < s2.size + 1) := by omega); (have hW0 := hS.drew.call bs2); (have kc00 := kc0.drew.call bs2); (have ltkc00 := kc00.lt); obtain ⟨ckc00_0, ckc00_1, ckc00_2, ckc00_3, ckc00_4, ckc00_5, ckc00_6, ckc00_7, ckc00_8, ckc00_9, ckc00_10, ckc00_11, ckc00_12, ckc00_13, ckc00_14, ckc00_15, _, _, _, _, _, _, _, _, _, _, _, _, _, _, _, _⟩ := kc00.c16; (have kq00 := kq0.drew.call bs2); (have ltkq00 := kq00.lt); obtain ⟨ckq00_0, _⟩ := kq00.c1) | (go_at_call 43; (refine (line_any _ gp (l) 1 (by decide) w0_.heap.size 2 [⟨#[97, 108, 108, 111, 119, 97, 110, 99, 101]⟩, s2 ++ ⟨#[59]⟩] (hW0.alloc (.cells #[.string (⟨#[97, 108, 108, 111, 119, 97, 110, 99, 101]⟩), .string (s2 ++ ⟨#[59]⟩)] 9)).pen (words_cell (Blk.new w0_ 9 #[.string (⟨#[97, 108, 108, 111, 119, 97, 110, 99, 101]⟩), .string (s2 ++ ⟨#[59]⟩)]) rfl) (by rw [World.size_alloc]; omega) (by exact Nat.le_refl _) (by simp) (len2 (by rw [ByteArray.size_append, semi_size, eW]; omega)) hl).mono ?_); rintro e' wL_ ⟨rfl, hp8, hk8⟩; (have hWL := (hW0.alloc (.cells #[.string (⟨#[97, 108, 108, 111, 119, 97, 110, 99, 101]⟩), .string (s2 ++ ⟨#[59]⟩)] 9)).pk hk8 hp8); (have kc0L := hk8.blk (kc00.alloc (.cells #[.string (⟨#[97, 108, 108, 111, 119, 97, 110, 99, 101]⟩), .string (s2 ++ ⟨#[59]⟩)] 9)) (by decide) (by omega)); obtain ⟨dkc0_0, dkc0_1, dkc0_2, dkc0_3, dkc0_4, dkc0_5, dkc0_6, dkc0_7, dkc0_8, dkc0_9, dkc0_10, dkc0_11, dkc0_12, dkc0_13, dkc0_14, dkc0_15, _, _, _, _, _, _, _, _, _, _, _, _, _, _, _, _⟩ := kc0L.c16; (have kq0L := hk8.blk (kq00.alloc (.cells #[.string (⟨#[97, 108, 108, 111, 119, 97, 110, 99, 101]⟩), .string (s2 ++ ⟨#[59]⟩)] 9)) (by decide) (by omega)); obtain ⟨dkq0_0, _⟩ := kq0L.c1)))
      all_goals go_wp2_with fail
      all_goals (have eL : (l) ++ lineL 1 [⟨#[97, 108, 108, 111, 119, 97, 110, 99, 101]⟩, s2 ++ ⟨#[59]⟩] = l ++ alwL c := by rw [ea]; unfold lineL; rw [join2, tabs1, ba_app, hs2]; simp)
      all_goals (rw [eL] at hWL)
      all_goals go_meet
      all_goals exact ⟨hWL, kc0L, kq0L⟩
  case rest =>
    obtain ⟨hW1, kc1, kq1⟩ := hcut
    clear q8' kc0 kq0 hS
    have q9' := kc1.c16.2.2.2.2.2.2.2.2.2.1
    go_upto_if 16 with fail
    go_cut [] (fun wx => PW w0 w wx gp (l ++ alwL c ++ blkL c) ((1 : Nat) : Int) ∧ Blk wx cb 52 #[.string c.meter, .bool c.win.has, .int .i64 c.win.from_.1, .int .i64 c.win.from_.2.1, .int .i64 c.win.from_.2.2, .int .i64 c.win.to_.1, .int .i64 c.win.to_.2.1, .int .i64 c.win.to_.2.2, .int .i64 c.allow, .int .i64 c.block, .int .i64 c.kind, .slice At c.tiers.length ct, .int .i64 c.mode, .slice Aa c.adjs.length ca, .int .i64 c.line, .int .i64 c.col] ∧ Blk wx pb 84 #[.pointer (some ⟨gp, 0, none⟩)])
    case first =>
      have hl : (l ++ alwL c).length ≤ 100000000000 := by rw [List.length_append]; omega
      have q8 := kc1.c16.2.2.2.2.2.2.2.2.2.1
      obtain ⟨u0, _⟩ := kq1.c1
      by_cases hk : c.block = 1
      · have hq : (c.block != 1) = false := by simp [hk]
        have ea : blkL c = [] := by unfold blkL; rw [if_neg (fun e => e hk)]
        go_wp2_with fail
        go_meet
        exact ⟨by rw [ea, List.append_nil]; exact hW1, kc1, kq1⟩
      · have hq : (c.block != 1) = true := by simp [hk]
        have ea := blk_yes hk
        have eW : (⟨#[98, 108, 111, 99, 107]⟩ : ByteArray).size = 5 := rfl
        have lcb := kc1.lt
        have lpb := kq1.lt
        have lgp := hW1.pen.lt
        go_upto_region 3 with fail
        go_region_held3 (fun w' => w'.cell? ⟨pb, 0, none⟩ = some (.pointer (some ⟨gp, 0, none⟩)) ∧ w'.cell? ⟨cb, 9, none⟩ = some (.int .i64 c.block))
          (refine ⟨?_, ?_⟩ <;> first | with_reducible assumption | (go_keep; done))
          ((first | (go_at_call 22; (with_reducible refine (sdig_any c.block _ (hW1.drew.dt hD) (by omega) (by omega)).mono ?_); rintro e' w0_ ⟨s2, rfl, hs2, zs2, bs2⟩; (have t4 : ¬ (9223372036854775807 < s2.size + 1) := by omega); (have hW0 := hW1.drew.call bs2); (have kc10 := kc1.drew.call bs2); (have ltkc10 := kc10.lt); obtain ⟨ckc10_0, ckc10_1, ckc10_2, ckc10_3, ckc10_4, ckc10_5, ckc10_6, ckc10_7, ckc10_8, ckc10_9, ckc10_10, ckc10_11, ckc10_12, ckc10_13, ckc10_14, ckc10_15, _, _, _, _, _, _, _, _, _, _, _, _, _, _, _, _⟩ := kc10.c16; (have kq10 := kq1.drew.call bs2); (have ltkq10 := kq10.lt); obtain ⟨ckq10_0, _⟩ := kq10.c1) | (go_at_call 43; (refine (line_any _ gp (l ++ alwL c) 1 (by decide) w0_.heap.size 2 [⟨#[98, 108, 111, 99, 107]⟩, s2 ++ ⟨#[59]⟩] (hW0.alloc (.cells #[.string (⟨#[98, 108, 111, 99, 107]⟩), .string (s2 ++ ⟨#[59]⟩)] 9)).pen (words_cell (Blk.new w0_ 9 #[.string (⟨#[98, 108, 111, 99, 107]⟩), .string (s2 ++ ⟨#[59]⟩)]) rfl) (by rw [World.size_alloc]; omega) (by exact Nat.le_refl _) (by simp) (len2 (by rw [ByteArray.size_append, semi_size, eW]; omega)) hl).mono ?_); rintro e' wL_ ⟨rfl, hp8, hk8⟩; (have hWL := (hW0.alloc (.cells #[.string (⟨#[98, 108, 111, 99, 107]⟩), .string (s2 ++ ⟨#[59]⟩)] 9)).pk hk8 hp8); (have kc1L := hk8.blk (kc10.alloc (.cells #[.string (⟨#[98, 108, 111, 99, 107]⟩), .string (s2 ++ ⟨#[59]⟩)] 9)) (by decide) (by omega)); obtain ⟨dkc1_0, dkc1_1, dkc1_2, dkc1_3, dkc1_4, dkc1_5, dkc1_6, dkc1_7, dkc1_8, dkc1_9, dkc1_10, dkc1_11, dkc1_12, dkc1_13, dkc1_14, dkc1_15, _, _, _, _, _, _, _, _, _, _, _, _, _, _, _, _⟩ := kc1L.c16; (have kq1L := hk8.blk (kq10.alloc (.cells #[.string (⟨#[98, 108, 111, 99, 107]⟩), .string (s2 ++ ⟨#[59]⟩)] 9)) (by decide) (by omega)); obtain ⟨dkq1_0, _⟩ := kq1L.c1)))
        all_goals go_wp2_with fail
        all_goals (have eL : (l ++ alwL c) ++ lineL 1 [⟨#[98, 108, 111, 99, 107]⟩, s2 ++ ⟨#[59]⟩] = l ++ alwL c ++ blkL c := by rw [ea]; unfold lineL; rw [join2, tabs1, ba_app, hs2]; simp)
        all_goals (rw [eL] at hWL)
        all_goals go_meet
        all_goals exact ⟨hWL, kc1L, kq1L⟩
    case rest =>
      obtain ⟨hW2, kc2, kq2⟩ := hcut
      clear q9' kc1 kq1 hW1
      obtain ⟨u0, _⟩ := kq2.c1
      obtain ⟨v0, v1, v2, v3, v4, v5, v6, v7, v8, v9, v10, v11, v12, v13, v14, v15, _, _, _, _, _, _, _, _, _, _, _, _, _, _, _, _⟩ := kc2.c16
      go_wp2_with fail
      refine (penTiers_any w0 _ gp (l ++ alwL c ++ blkL c) c At Aa ct ca hD hW2 ht hnt hl1 (by rw [List.length_append, List.length_append]; omega)).mono ?_
      rintro e' w3 ⟨rfl, hp3, hk3⟩
      have hW3 := hW2.pk hk3 hp3
      have kc3 := hk3.blk kc2 (by decide) hcb
      have kq3 := hk3.blk kq2 (by decide) hpb
      clear hp3 hk3 hW2 kc2 kq2 u0 v0 v1 v2 v3 v4 v5 v6 v7 v8 v9 v10 v11 v12 v13 v14 v15
      obtain ⟨u0, _⟩ := kq3.c1
      have q12 := kc3.c16.2.2.2.2.2.2.2.2.2.2.2.2.1
      have lcb := kc3.lt
      have lpb := kq3.lt
      have lgp := hW3.pen.lt
      have eW : (⟨#[114, 111, 117, 110, 100]⟩ : ByteArray).size = 5 := rfl
      have hl : (l ++ alwL c ++ blkL c ++ kindL c ++ tiersL c.tiers c.tiers.length ++ lineL 1 [⟨#[125]⟩]).length ≤ 100000000000 := by
        simp only [List.length_append]
        have : (lineL 1 [⟨#[125]⟩]).length = 3 := by decide
        omega
      go_upto_region 5 with fail
      go_region_held3 (fun w' => w'.cell? ⟨pb, 0, none⟩ = some (.pointer (some ⟨gp, 0, none⟩)) ∧ w'.cell? ⟨cb, 12, none⟩ = some (.int .i64 c.mode))
        (refine ⟨?_, ?_⟩ <;> first | with_reducible assumption | (go_keep; done))
        ((first | (go_at_call 34; (with_reducible refine (pmode_any c.mode _).mono ?_); rintro e' w0_ ⟨s2, rfl, hs2, zs2, bs2⟩; (have t4 : ¬ (9223372036854775807 < s2.size + 1) := by omega); (have hW0 := hW3.drew.call bs2); (have kc30 := kc3.drew.call bs2); (have ltkc30 := kc30.lt); obtain ⟨ckc30_0, ckc30_1, ckc30_2, ckc30_3, ckc30_4, ckc30_5, ckc30_6, ckc30_7, ckc30_8, ckc30_9, ckc30_10, ckc30_11, ckc30_12, ckc30_13, ckc30_14, ckc30_15, _, _, _, _, _, _, _, _, _, _, _, _, _, _, _, _⟩ := kc30.c16; (have kq30 := kq3.drew.call bs2); (have ltkq30 := kq30.lt); obtain ⟨ckq30_0, _⟩ := kq30.c1) | (go_at_call 43; (refine (line_any _ gp (l ++ alwL c ++ blkL c ++ kindL c ++ tiersL c.tiers c.tiers.length ++ lineL 1 [⟨#[125]⟩]) 1 (by decide) w0_.heap.size 2 [⟨#[114, 111, 117, 110, 100]⟩, s2 ++ ⟨#[59]⟩] (hW0.alloc (.cells #[.string (⟨#[114, 111, 117, 110, 100]⟩), .string (s2 ++ ⟨#[59]⟩)] 9)).pen (words_cell (Blk.new w0_ 9 #[.string (⟨#[114, 111, 117, 110, 100]⟩), .string (s2 ++ ⟨#[59]⟩)]) rfl) (by rw [World.size_alloc]; omega) (by exact Nat.le_refl _) (by simp) (len2 (by rw [ByteArray.size_append, semi_size, eW]; omega)) hl).mono ?_); rintro e' wL_ ⟨rfl, hp8, hk8⟩; (have hWL := (hW0.alloc (.cells #[.string (⟨#[114, 111, 117, 110, 100]⟩), .string (s2 ++ ⟨#[59]⟩)] 9)).pk hk8 hp8); (have kc3L := hk8.blk (kc30.alloc (.cells #[.string (⟨#[114, 111, 117, 110, 100]⟩), .string (s2 ++ ⟨#[59]⟩)] 9)) (by decide) (by omega)); obtain ⟨dkc3_0, dkc3_1, dkc3_2, dkc3_3, dkc3_4, dkc3_5, dkc3_6, dkc3_7, dkc3_8, dkc3_9, dkc3_10, dkc3_11, dkc3_12, dkc3_13, dkc3_14, dkc3_15, _, _, _, _, _, _, _, _, _, _, _, _, _, _, _, _⟩ := kc3L.c16; (have kq3L := hk8.blk (kq30.alloc (.cells #[.string (⟨#[114, 111, 117, 110, 100]⟩), .string (s2 ++ ⟨#[59]⟩)] 9)) (by decide) (by omega)); obtain ⟨dkq3_0, _⟩ := kq3L.c1)))
      have eL : (l ++ alwL c ++ blkL c ++ kindL c ++ tiersL c.tiers c.tiers.length ++ lineL 1 [⟨#[125]⟩]) ++ lineL 1 [⟨#[114, 111, 117, 110, 100]⟩, s2 ++ ⟨#[59]⟩] = l ++ alwL c ++ blkL c ++ kindL c ++ tiersL c.tiers c.tiers.length ++ rndL c := by
        have e1 : lineL 1 [⟨#[125]⟩] ++ lineL 1 [⟨#[114, 111, 117, 110, 100]⟩, s2 ++ ⟨#[59]⟩] = rndL c := by
          unfold lineL rndL; rw [join2, join1, tabs1, ba_app, hs2]; simp
        rw [List.append_assoc, e1]
      rw [eL] at hWL
      have n5 : (rndL c).length ≤ 30 := by
        have := modeL_len c.mode
        unfold rndL; simp; omega
      clear eL hW3 kc3 kq3 q12 u0
      have q13 := kc3L.c16.2.2.2.2.2.2.2.2.2.2.2.2.2.1
      go_wp2_with fail
      go_loopw [37] (fun v37 wr => ∃ k : Nat, k ≤ c.adjs.length ∧ v37 = .int .i64 k ∧ PW w0 w wr gp (l ++ alwL c ++ blkL c ++ kindL c ++ tiersL c.tiers c.tiers.length ++ rndL c ++ (c.adjs.take k).flatMap adjL) ((1 : Nat) : Int) ∧ Blk wr cb 52 #[.string c.meter, .bool c.win.has, .int .i64 c.win.from_.1, .int .i64 c.win.from_.2.1, .int .i64 c.win.from_.2.2, .int .i64 c.win.to_.1, .int .i64 c.win.to_.2.1, .int .i64 c.win.to_.2.2, .int .i64 c.allow, .int .i64 c.block, .int .i64 c.kind, .slice At c.tiers.length ct, .int .i64 c.mode, .slice Aa c.adjs.length ca, .int .i64 c.line, .int .i64 c.col] ∧ Blk wr pb 84 #[.pointer (some ⟨gp, 0, none⟩)] ∧ ((c.adjs.take k).flatMap adjL).length ≤ k * 100) (fun v37 _ => c.adjs.length - (intOf v37).toNat)
      case atStart => exact ⟨0, Nat.zero_le _, rfl, by simpa using hWL, kc3L, kq3L, by simp⟩
      case round =>
        obtain ⟨k, hk, rfl, hWr, kcr, kqr, hlk⟩ := hrel
        have hl : (l ++ alwL c ++ blkL c ++ kindL c ++ tiersL c.tiers c.tiers.length ++ rndL c ++ (c.adjs.take k).flatMap adjL).length ≤ 100000000000 := by simp only [List.length_append]; omega
        by_cases hlt : k < c.adjs.length
        · obtain ⟨gt, rfl, hgt⟩ := ha3 (by omega)
          have htk : c.adjs[k]? = some c.adjs[k] := List.getElem?_eq_getElem hlt
          have e0 : wr.cell? ⟨gt, k * 3, none⟩ = some (.int .i64 c.adjs[k].kind) := Lies.at (f := adjF) (l := c.adjs) (Lies.of (hWr.row ha)) (fun _ => rfl) (i := k) htk (j := 0) rfl
          have e1 : wr.cell? ⟨gt, k * 3 + 1, none⟩ = some (.int .i64 c.adjs[k].n) := Lies.at (f := adjF) (l := c.adjs) (Lies.of (hWr.row ha)) (fun _ => rfl) (i := k) htk (j := 1) rfl
          have e2 : wr.cell? ⟨gt, k * 3 + 2, none⟩ = some (.int .i64 c.adjs[k].mode) := Lies.at (f := adjF) (l := c.adjs) (Lies.of (hWr.row ha)) (fun _ => rfl) (i := k) htk (j := 2) rfl
          have hnk := hnd _ (List.getElem_mem hlt)
          have HS := Lib.hid (flat_next adjL htk)
          generalize c.adjs[k] = a at *
          have kt := Blk.new wr 121 #[.int .i64 a.kind, .int .i64 a.n, .int .i64 a.mode]
          have gg0 : (0 : Int) ≤ (k : Int) := by omega
          have gg1 : (k : Int) < (c.adjs.length : Int) := by omega
          have hcl : c.adjs.length ≤ ca := ha1
          have gg2 : (k : Int) < (ca : Int) := by omega
          have hlx : gt < wr.heap.size := by have := hWr.lb.size; omega
          have lcb := kcr.lt
          have lpb := kqr.lt
          clear htk
          have hWa := hWr.alloc (.cells #[.int .i64 a.kind, .int .i64 a.n, .int .i64 a.mode] 121)
          have kca := kcr.alloc (.cells #[.int .i64 a.kind, .int .i64 a.n, .int .i64 a.mode] 121)
          have kqa := kqr.alloc (.cells #[.int .i64 a.kind, .int .i64 a.n, .int .i64 a.mode] 121)
          obtain ⟨u0, _⟩ := kqr.c1
          obtain ⟨z0, z1, z2, _, _, _⟩ := kt.c3
          go_wp2_with fail
          refine (penAdjust_any w0 _ gp _ a hD hWa hnk hl).mono ?_
          rintro e' w8 ⟨rfl, hp8, hk8⟩
          have hW8 := hWa.pk hk8 hp8
          have kc8 := hk8.blk kca (by decide) hcb
          have kq8 := hk8.blk kqa (by decide) hpb
          go_wp2_with fail
          go_roundw
          case rel => exact ⟨k + 1, by omega, by go_num, by rw [HS.out, ← List.append_assoc]; exact hW8, kc8, kq8, by rw [HS.out, List.length_append]; have := adjL_len hnk; omega⟩
          case measure => simp [intOf]; omega
        · obtain rfl : k = c.adjs.length := by omega
          rw [List.take_length] at hWr
          go_wp2_with fail
          go_end0
          exact ⟨rfl, hWr.pen, hWr.kp, kcr, kqr⟩
end Go.Proofs.YtcgkfgklggjmaaaDoor.Par
end
section
namespace Go.Proofs.YtcgkfgklggjmaaaDoor.Par
set_option linter.unusedVariables false
set_option linter.unusedSimpArgs false
open Go.RowKit
theorem flat_len_le (l : List Adj) (h : ∀ a ∈ l, 0 ≤ a.n ∧ a.n ≤ 1000000000000) : (l.flatMap adjL).length ≤ l.length * 100 := by
  induction l with
  | nil => simp
  | cons a l ih =>
    have h1 := adjL_len (h a (by simp))
    have h2 := ih fun x hx => h x (by simp [hx])
    rw [List.flatMap_cons, List.length_append, List.length_cons]
    omega
theorem winL_len (x : Win) : (winL x).length ≤ 40 := by
  have h1 := dayT_len x.from_
  have h2 := dayT_len x.to_
  unfold winL
  split
  · simp; omega
  · simp
theorem body_len {c : Chg} (hna : 0 ≤ c.allow ∧ c.allow ≤ 1000000) (hnb : 0 ≤ c.block ∧ c.block ≤ 1000000) (hnt : ∀ t ∈ c.tiers, (0 ≤ t.upto ∧ t.upto ≤ 1000000) ∧ (0 ≤ t.rate ∧ t.rate ≤ 1000000000000)) (hnd : ∀ a ∈ c.adjs, 0 ≤ a.n ∧ a.n ≤ 1000000000000) (hl1 : c.tiers.length ≤ 10000) (hl2 : c.adjs.length ≤ 10000) : (alwL c ++ blkL c ++ kindL c ++ tiersL c.tiers c.tiers.length ++ rndL c ++ c.adjs.flatMap adjL).length ≤ 2500000 := by
  have n1 := alwL_len hna
  have n2 := blkL_len hnb
  have n3 := kindL_len c
  have n4 := tiersL_len hnt c.tiers.length (Nat.le_refl _)
  have n5 := flat_len_le c.adjs hnd
  have n6 : (rndL c).length ≤ 30 := by
    have := modeL_len c.mode
    unfold rndL; simp; omega
  simp only [List.length_append]
  omega
set_option maxHeartbeats 16000000 in
set_option maxRecDepth 100000 in
theorem within_charge (w0 w : World) (gp cb pb : Nat) (l : List UInt8) (c : Chg) (At Aa : Option Addr) (ct ca : Nat) {B : Nat} {wE : World} (hD : Dec.GT w0) (h : PW w0 wE w gp l ((0 : Nat) : Int)) (kc0 : Blk w cb 52 #[.string c.meter, .bool c.win.has, .int .i64 c.win.from_.1, .int .i64 c.win.from_.2.1, .int .i64 c.win.from_.2.2, .int .i64 c.win.to_.1, .int .i64 c.win.to_.2.1, .int .i64 c.win.to_.2.2, .int .i64 c.allow, .int .i64 c.block, .int .i64 c.kind, .slice At c.tiers.length ct, .int .i64 c.mode, .slice Aa c.adjs.length ca, .int .i64 c.line, .int .i64 c.col]) (kq0 : Blk w pb 84 #[.pointer (some ⟨gp, 0, none⟩)]) (hcb : cb ≠ gp) (hpb : pb ≠ gp)
    (ht : TiersLie B w0 (.slice At c.tiers.length ct) c.tiers) (ha : AdjsLie B w0 (.slice Aa c.adjs.length ca) c.adjs) (hna : 0 ≤ c.allow ∧ c.allow ≤ 1000000) (hnb : 0 ≤ c.block ∧ c.block ≤ 1000000) (hnt : ∀ t ∈ c.tiers, (0 ≤ t.upto ∧ t.upto ≤ 1000000) ∧ (0 ≤ t.rate ∧ t.rate ≤ 1000000000000)) (hnd : ∀ a ∈ c.adjs, 0 ≤ a.n ∧ a.n ≤ 1000000000000) (hl1 : c.tiers.length ≤ 10000) (hl2 : c.adjs.length ≤ 10000) (hl0 : l.length ≤ 60000000000) :
    Calls Tryd.prog 79 #[.pointer (some ⟨gp, 0, none⟩), .func (.func 80) #[] #[.pointer (some ⟨cb, 0, none⟩), .pointer (some ⟨pb, 0, none⟩)]] w fun e w' => e = .returned (.tuple #[]) ∧ PenAt w' gp (l ++ alwL c ++ blkL c ++ kindL c ++ tiersL c.tiers c.tiers.length ++ rndL c ++ c.adjs.flatMap adjL ++ lineL 0 [⟨#[125]⟩]) ((0 : Nat) : Int) ∧ PK gp w w' := by
  obtain ⟨x2, x2'⟩ := h.pen.deep_
  have h2 : PW w0 w (w.setCell ⟨gp, 2, none⟩ (.int .i64 1)) gp l ((1 : Nat) : Int) := h.start.to ((1 : Nat) : Int)
  have kc2 := kc0.far (p := ⟨gp, 2, none⟩) hcb (.int .i64 1)
  have kq2 := kq0.far (p := ⟨gp, 2, none⟩) hpb (.int .i64 1)
  have hbl := body_len hna hnb hnt hnd hl1 hl2
  have hl : (l ++ alwL c ++ blkL c ++ kindL c ++ tiersL c.tiers c.tiers.length ++ rndL c ++ c.adjs.flatMap adjL).length ≤ 100000000000 := by simp only [List.length_append] at hbl ⊢; omega
  go_enter Tryd.func79, Tryd.ntmps79
  go_wp2_with fail
  refine (charge1_any w0 _ gp cb pb l c At Aa ct ca hD h2 kc2 kq2 hcb hpb ht ha hna hnb hnt hnd hl1 hl2 (by omega)).mono ?_
  rintro e' w1 ⟨rfl, hp1, hk1, kc1, kq1⟩
  have h3 := h2.pk hk1 hp1
  obtain ⟨y2, y2'⟩ := hp1.deep_
  have h4 : PW w0 w (w1.setCell ⟨gp, 2, none⟩ (.int .i64 0)) gp (l ++ alwL c ++ blkL c ++ kindL c ++ tiersL c.tiers c.tiers.length ++ rndL c ++ c.adjs.flatMap adjL) ((0 : Nat) : Int) := h3.to ((0 : Nat) : Int)
  have kc3 := kc1.far (p := ⟨gp, 2, none⟩) hcb (.int .i64 0)
  have kq3 := kq1.far (p := ⟨gp, 2, none⟩) hpb (.int .i64 0)
  go_upto_region 3 with fail
  generalize w1.setCell ⟨gp, 2, none⟩ (.int .i64 0) = W3 at *
  go_wp2_with fail
  refine (line_any _ gp (l ++ alwL c ++ blkL c ++ kindL c ++ tiersL c.tiers c.tiers.length ++ rndL c ++ c.adjs.flatMap adjL) 0 (by decide) W3.heap.size 1 [⟨#[125]⟩] (h4.alloc (.cells #[.string (⟨#[125]⟩)] 9)).pen (words_cell (Blk.new W3 9 #[.string (⟨#[125]⟩)]) rfl) (by rw [World.size_alloc]; omega) (by exact Nat.le_refl _) (by simp) (len1 (by decide)) hl).mono ?_
  rintro e' wL_ ⟨rfl, hp8, hk8⟩
  have hWL := (h4.alloc (.cells #[.string (⟨#[125]⟩)] 9)).pk hk8 hp8
  have kc3L := hk8.blk (kc3.alloc (.cells #[.string (⟨#[125]⟩)] 9)) (by decide) (by omega)
  obtain ⟨dkc3_0, dkc3_1, dkc3_2, dkc3_3, dkc3_4, dkc3_5, dkc3_6, dkc3_7, dkc3_8, dkc3_9, dkc3_10, dkc3_11, dkc3_12, dkc3_13, dkc3_14, dkc3_15, _, _, _, _, _, _, _, _, _, _, _, _, _, _, _, _⟩ := kc3L.c16
  have kq3L := hk8.blk (kq3.alloc (.cells #[.string (⟨#[125]⟩)] 9)) (by decide) (by omega)
  obtain ⟨dkq3_0, _⟩ := kq3L.c1
  go_wp2_with fail
  go_end0
  exact ⟨rfl, hWL.pen, hWL.kp⟩
set_option maxHeartbeats 16000000 in
set_option maxRecDepth 100000 in
theorem penCharge_any (w0 w : World) (gp : Nat) (l : List UInt8) (c : Chg) (At Aa : Option Addr) (ct ca : Nat) {B : Nat} {wE : World} (hD : Dec.GT w0) (h : PW w0 wE w gp l ((0 : Nat) : Int))
    (ht : TiersLie B w0 (.slice At c.tiers.length ct) c.tiers) (ha : AdjsLie B w0 (.slice Aa c.adjs.length ca) c.adjs) (hna : 0 ≤ c.allow ∧ c.allow ≤ 1000000) (hnb : 0 ≤ c.block ∧ c.block ≤ 1000000) (hnt : ∀ t ∈ c.tiers, (0 ≤ t.upto ∧ t.upto ≤ 1000000) ∧ (0 ≤ t.rate ∧ t.rate ≤ 1000000000000)) (hnd : ∀ a ∈ c.adjs, 0 ≤ a.n ∧ a.n ≤ 1000000000000) (hl1 : c.tiers.length ≤ 10000) (hl2 : c.adjs.length ≤ 10000) (hm : c.meter.size ≤ 8192) (hl0 : l.length ≤ 50000000000) :
    Calls Tryd.prog 46 #[.pointer (some ⟨gp, 0, none⟩), .agg #[.string c.meter, .bool c.win.has, .int .i64 c.win.from_.1, .int .i64 c.win.from_.2.1, .int .i64 c.win.from_.2.2, .int .i64 c.win.to_.1, .int .i64 c.win.to_.2.1, .int .i64 c.win.to_.2.2, .int .i64 c.allow, .int .i64 c.block, .int .i64 c.kind, .slice At c.tiers.length ct, .int .i64 c.mode, .slice Aa c.adjs.length ca, .int .i64 c.line, .int .i64 c.col]] w fun e w' => e = .returned (.tuple #[]) ∧ PenAt w' gp (l ++ chgL c) ((0 : Nat) : Int) ∧ PK gp w w' := by
  have hgl := h.pen.lt
  have hW := (h.start.alloc (.cells #[.pointer (some ⟨gp, 0, none⟩)] 84)).alloc (.cells #[.string c.meter, .bool c.win.has, .int .i64 c.win.from_.1, .int .i64 c.win.from_.2.1, .int .i64 c.win.from_.2.2, .int .i64 c.win.to_.1, .int .i64 c.win.to_.2.1, .int .i64 c.win.to_.2.2, .int .i64 c.allow, .int .i64 c.block, .int .i64 c.kind, .slice At c.tiers.length ct, .int .i64 c.mode, .slice Aa c.adjs.length ca, .int .i64 c.line, .int .i64 c.col] 52)
  have kq := (Blk.new w 84 #[.pointer (some ⟨gp, 0, none⟩)]).alloc (.cells #[.string c.meter, .bool c.win.has, .int .i64 c.win.from_.1, .int .i64 c.win.from_.2.1, .int .i64 c.win.from_.2.2, .int .i64 c.win.to_.1, .int .i64 c.win.to_.2.1, .int .i64 c.win.to_.2.2, .int .i64 c.allow, .int .i64 c.block, .int .i64 c.kind, .slice At c.tiers.length ct, .int .i64 c.mode, .slice Aa c.adjs.length ca, .int .i64 c.line, .int .i64 c.col] 52)
  have kc := Blk.new (w.alloc (.cells #[.pointer (some ⟨gp, 0, none⟩)] 84)) 52 #[.string c.meter, .bool c.win.has, .int .i64 c.win.from_.1, .int .i64 c.win.from_.2.1, .int .i64 c.win.from_.2.2, .int .i64 c.win.to_.1, .int .i64 c.win.to_.2.1, .int .i64 c.win.to_.2.2, .int .i64 c.allow, .int .i64 c.block, .int .i64 c.kind, .slice At c.tiers.length ct, .int .i64 c.mode, .slice Aa c.adjs.length ca, .int .i64 c.line, .int .i64 c.col]
  rw [World.size_alloc] at kc
  obtain ⟨v0, v1, v2, v3, v4, v5, v6, v7, v8, v9, v10, v11, v12, v13, v14, v15, _, _, _, _, _, _, _, _, _, _, _, _, _, _, _, _⟩ := kc.c16
  obtain ⟨u0, _⟩ := kq.c1
  have hl : l.length ≤ 100000000000 := by omega
  have hwn := fun W hW => pwin_any c.win W hW
  unfold winA at hwn
  have eW : (⟨#[99, 104, 97, 114, 103, 101]⟩ : ByteArray).size = 6 := rfl
  have eW2 : (⟨#[123]⟩ : ByteArray).size = 1 := rfl
  go_enter Tryd.func46, Tryd.ntmps46
  go_upto_region 1 with fail
  generalize (w.alloc (.cells #[.pointer (some ⟨gp, 0, none⟩)] 84)).alloc (.cells #[.string c.meter, .bool c.win.has, .int .i64 c.win.from_.1, .int .i64 c.win.from_.2.1, .int .i64 c.win.from_.2.2, .int .i64 c.win.to_.1, .int .i64 c.win.to_.2.1, .int .i64 c.win.to_.2.2, .int .i64 c.allow, .int .i64 c.block, .int .i64 c.kind, .slice At c.tiers.length ct, .int .i64 c.mode, .slice Aa c.adjs.length ca, .int .i64 c.line, .int .i64 c.col] 52) = W2 at *
  go_region_held3 (fun w' => w'.cell? ⟨w.heap.size, 0, none⟩ = some (.pointer (some ⟨gp, 0, none⟩)) ∧ w'.cell? ⟨(w.heap.size + 1), 0, none⟩ = some (.string c.meter) ∧ w'.cell? ⟨(w.heap.size + 1), 1, none⟩ = some (.bool c.win.has) ∧ w'.cell? ⟨(w.heap.size + 1), 2, none⟩ = some (.int .i64 c.win.from_.1) ∧ w'.cell? ⟨(w.heap.size + 1), 3, none⟩ = some (.int .i64 c.win.from_.2.1) ∧ w'.cell? ⟨(w.heap.size + 1), 4, none⟩ = some (.int .i64 c.win.from_.2.2) ∧ w'.cell? ⟨(w.heap.size + 1), 5, none⟩ = some (.int .i64 c.win.to_.1) ∧ w'.cell? ⟨(w.heap.size + 1), 6, none⟩ = some (.int .i64 c.win.to_.2.1) ∧ w'.cell? ⟨(w.heap.size + 1), 7, none⟩ = some (.int .i64 c.win.to_.2.2))
    (refine ⟨?_, ?_, ?_, ?_, ?_, ?_, ?_, ?_, ?_⟩ <;> first | with_reducible assumption | (go_keep; done))
    ((first | (go_at_call 45; (with_reducible refine (hwn _ (hW.drew.dt hD)).mono ?_); rintro e' w0_ ⟨s2, rfl, hs2, zs2, bs2⟩; (have t4 : ¬ (9223372036854775807 < c.meter.size + s2.size) := by omega); (have hW0 := hW.drew.call bs2); (have kc0 := kc.drew.call bs2); (have ltkc0 := kc0.lt); obtain ⟨ckc0_0, ckc0_1, ckc0_2, ckc0_3, ckc0_4, ckc0_5, ckc0_6, ckc0_7, ckc0_8, ckc0_9, ckc0_10, ckc0_11, ckc0_12, ckc0_13, ckc0_14, ckc0_15, _, _, _, _, _, _, _, _, _, _, _, _, _, _, _, _⟩ := kc0.c16; (have kq0 := kq.drew.call bs2); (have ltkq0 := kq0.lt); obtain ⟨ckq0_0, _⟩ := kq0.c1) | (go_at_call 43; (refine (line_any _ gp l 0 (by decide) w0_.heap.size 3 [⟨#[99, 104, 97, 114, 103, 101]⟩, c.meter ++ s2, ⟨#[123]⟩] (hW0.alloc (.cells #[.string (⟨#[99, 104, 97, 114, 103, 101]⟩), .string (c.meter ++ s2), .string (⟨#[123]⟩)] 9)).pen (words_cell (Blk.new w0_ 9 #[.string (⟨#[99, 104, 97, 114, 103, 101]⟩), .string (c.meter ++ s2), .string (⟨#[123]⟩)]) rfl) (by rw [World.size_alloc]; omega) (by exact Nat.le_refl _) (by simp) (len3 (by rw [ByteArray.size_append, eW, eW2]; omega)) hl).mono ?_); rintro e' wL_ ⟨rfl, hp8, hk8⟩; (have hWL := (hW0.alloc (.cells #[.string (⟨#[99, 104, 97, 114, 103, 101]⟩), .string (c.meter ++ s2), .string (⟨#[123]⟩)] 9)).pk hk8 hp8); (have kcL := hk8.blk (kc0.alloc (.cells #[.string (⟨#[99, 104, 97, 114, 103, 101]⟩), .string (c.meter ++ s2), .string (⟨#[123]⟩)] 9)) (by decide) (by omega)); obtain ⟨dkc_0, dkc_1, dkc_2, dkc_3, dkc_4, dkc_5, dkc_6, dkc_7, dkc_8, dkc_9, dkc_10, dkc_11, dkc_12, dkc_13, dkc_14, dkc_15, _, _, _, _, _, _, _, _, _, _, _, _, _, _, _, _⟩ := kcL.c16; (have kqL := hk8.blk (kq0.alloc (.cells #[.string (⟨#[99, 104, 97, 114, 103, 101]⟩), .string (c.meter ++ s2), .string (⟨#[123]⟩)] 9)) (by decide) (by omega)); obtain ⟨dkq_0, _⟩ := kqL.c1)))
  have eL : l ++ lineL 0 [⟨#[99, 104, 97, 114, 103, 101]⟩, c.meter ++ s2, ⟨#[123]⟩] = l ++ chg1L c := by
    congr 1; unfold lineL; rw [join3, tabs0, ba_app, hs2]; simp [chg1L]
  rw [eL] at hWL
  have n1 : (chg1L c).length ≤ 8300 := by
    have h1 := winL_len c.win
    unfold chg1L; simp; omega
  go_wp2_with fail
  refine (within_charge w0 _ gp (w.heap.size + 1) w.heap.size (l ++ chg1L c) c At Aa ct ca hD hWL kcL kqL (by omega) (by omega) ht ha hna hnb hnt hnd hl1 hl2 (by rw [List.length_append]; omega)).mono ?_
  rintro e' w9 ⟨rfl, hp9, hk9⟩
  have hW9 := hWL.pk hk9 hp9
  have eZ : l ++ chg1L c ++ alwL c ++ blkL c ++ kindL c ++ tiersL c.tiers c.tiers.length ++ rndL c ++ c.adjs.flatMap adjL ++ lineL 0 [⟨#[125]⟩] = l ++ chgL c := by
    have e1 : lineL 0 [⟨#[125]⟩] = [125, 10] := by decide
    rw [e1]; unfold chgL; simp only [List.append_assoc]
  have hW9' : PW w0 w w9 gp (l ++ chg1L c ++ alwL c ++ blkL c ++ kindL c ++ tiersL c.tiers c.tiers.length ++ rndL c ++ c.adjs.flatMap adjL ++ lineL 0 [⟨#[125]⟩]) ((0 : Nat) : Int) := by
    simpa only [List.append_assoc] using hW9
  rw [eZ] at hW9'
  go_wp2_with fail
  go_end0
  exact ⟨rfl, hW9'.pen, hW9'.kp⟩
end Go.Proofs.YtcgkfgklggjmaaaDoor.Par
end
section
namespace Go.Proofs.YtcgkfgklggjmaaaDoor.Par
set_option linter.unusedVariables false
set_option linter.unusedSimpArgs false
open Go.RowKit
theorem metL_len {m : Met} (h : 0 ≤ m.max ∧ m.max ≤ 2000) (hs : m.name.size ≤ 8192 ∧ m.unit.size ≤ 8192) : (metL m).length ≤ 20000 := by
  have h1 := digT_len (n := m.max) h.1 (by omega)
  have h2 := hs.1
  have h3 := hs.2
  unfold metL; simp; omega
theorem feeL_len {f : Fee} (h : 0 ≤ f.amount ∧ f.amount ≤ 1000000000000) : (feeL f).length ≤ 100 := by
  have h1 := digT_len (n := f.amount) h.1 h.2
  have h2 := winL_len f.win
  unfold feeL; simp; omega
theorem chgL_len {c : Chg} (hna : 0 ≤ c.allow ∧ c.allow ≤ 1000000) (hnb : 0 ≤ c.block ∧ c.block ≤ 1000000) (hnt : ∀ t ∈ c.tiers, (0 ≤ t.upto ∧ t.upto ≤ 1000000) ∧ (0 ≤ t.rate ∧ t.rate ≤ 1000000000000)) (hnd : ∀ a ∈ c.adjs, 0 ≤ a.n ∧ a.n ≤ 1000000000000) (hl1 : c.tiers.length ≤ 10000) (hl2 : c.adjs.length ≤ 10000) (hm : c.meter.size ≤ 8192) : (chgL c).length ≤ 3000000 := by
  have h1 := body_len hna hnb hnt hnd hl1 hl2
  have h2 := winL_len c.win
  have h3 : (chg1L c).length ≤ 8300 := by unfold chg1L; simp; omega
  unfold chgL
  simp only [List.length_append] at h1 ⊢
  simp only [List.length_cons, List.length_nil]
  omega
theorem headL_len {p : Plan} (h1 : p.name.size ≤ 8192) (h2 : p.cur.size ≤ 8192) : (headL p).length ≤ 20000 := by
  have h3 := dayT_len p.from_
  have h4 := dayT_len p.to_
  unfold headL; simp; omega
theorem planL_ne (p : Plan) : planL p ≠ [] := by unfold planL headL; simp
set_option maxHeartbeats 16000000 in
set_option maxRecDepth 100000 in
theorem pplan_any {p : Plan} {mv fv cv : Value} {cs : List CT} {B : Nat} (w : World) (hD : Dec.GT w) (hR : Rows w B p mv fv cv cs) (hT : Told p) :
    Calls Tryd.prog 17 #[.agg (planC p mv fv cv)] w (Says (planL p) 40000000000 w) := by
  obtain ⟨Am, cm, rfl, hm1, hm2, hm3⟩ := Lies.open (f := metF) (l := p.mets) (Lies.of hR.mo)
  obtain ⟨Af, cf, rfl, hf1, hf2, hf3⟩ := Lies.open (f := feeF) (l := p.fees) (Lies.of hR.fo)
  obtain ⟨Ac, cc, rfl, hc1, hc2, hc3⟩ := Lies.open (f := chgF) (l := cs) (Lies.of hR.co)
  have hcl : cs.length ≤ 10000 := by have h := congrArg List.length hR.eq; rw [List.length_map] at h; have := hT.small.chgs; omega
  have hml := hT.small.mets
  have hfl := hT.small.fees
  have hn1 := hT.name
  have hn2 := hT.cur
  have hhl := headL_len hn1 hn2
  unfold planC
  obtain ⟨w0, hw0⟩ : ∃ w0, w0 = w.alloc (.cells #[.string p.name, .string p.cur, .int .i64 p.from_.1, .int .i64 p.from_.2.1, .int .i64 p.from_.2.2, .int .i64 p.to_.1, .int .i64 p.to_.2.1, .int .i64 p.to_.2.2, .slice Am p.mets.length cm, .slice Af p.fees.length cf, .slice Ac cs.length cc, .int .i64 p.line, .int .i64 p.col] 29) := ⟨_, rfl⟩
  obtain ⟨w1, hw1⟩ : ∃ w1, w1 = w0.alloc (.cells #[.pointer none, .slice none 0 0, .int .i64 0] 90) := ⟨_, rfl⟩
  have hs0 : w0.heap.size = w.heap.size + 1 := by rw [hw0, World.size_alloc]
  have hb0 : Below w.heap.size w w0 := by rw [hw0]; exact bl_alloc (bl_refl w) _
  have hD0 : Dec.GT w0 := hD.below hb0
  have h0row : ∀ {B : Nat} {e : TypeId} {size n : Nat} {v : Value} {xs : List Value}, w.ownsRow B e size v n xs → w0.ownsRow B e size v n xs := fun ho => own_keep ho fun g hg => hb0.block g (ho.lt g hg).2
  have hW1 : PW w0 w1 w1 (w.heap.size + 1) [] ((0 : Nat) : Int) := by
    refine ⟨by rw [hw1]; exact bl_alloc (bl_refl w0) _, ⟨_, _, .inl rfl, ?_, World.ownsRow_nil _ _ _ _⟩, by omega, PK.refl _ _⟩
    have := Blk.new w0 90 #[.pointer none, .slice none 0 0, .int .i64 0]
    rw [← hw1, hs0] at this
    exact this
  have kp0 : Blk w0 w.heap.size 29 #[.string p.name, .string p.cur, .int .i64 p.from_.1, .int .i64 p.from_.2.1, .int .i64 p.from_.2.2, .int .i64 p.to_.1, .int .i64 p.to_.2.1, .int .i64 p.to_.2.2, .slice Am p.mets.length cm, .slice Af p.fees.length cf, .slice Ac cs.length cc, .int .i64 p.line, .int .i64 p.col] := by rw [hw0]; exact Blk.new w _ _
  have kp : Blk w1 w.heap.size 29 #[.string p.name, .string p.cur, .int .i64 p.from_.1, .int .i64 p.from_.2.1, .int .i64 p.from_.2.2, .int .i64 p.to_.1, .int .i64 p.to_.2.1, .int .i64 p.to_.2.2, .slice Am p.mets.length cm, .slice Af p.fees.length cf, .slice Ac cs.length cc, .int .i64 p.line, .int .i64 p.col] := by rw [hw1]; exact kp0.alloc _
  obtain ⟨v0, v1, v2, v3, v4, v5, v6, v7, v8, v9, v10, v11, v12, _, _, _, _, _, _, _, _, _, _, _, _, _⟩ := kp.c13
  have eW1 : (⟨#[112, 108, 97, 110]⟩ : ByteArray).size = 4 := rfl
  have eW2 : (⟨#[99, 117, 114, 114, 101, 110, 99, 121]⟩ : ByteArray).size = 8 := rfl
  have eW3 : (⟨#[104, 111, 114, 105, 122, 111, 110]⟩ : ByteArray).size = 7 := rfl
  have t1 : ¬ (9223372036854775807 < p.cur.size + 1) := by omega
  have hl : ([] : List UInt8).length ≤ 100000000000 := by decide
  go_enter Tryd.func17, Tryd.ntmps17
  go_upto_region 2 with fail
  rw [← hw0, ← hw1]
  clear hw0 hw1
  go_wp2_with fail
  refine (line_any _ (w.heap.size + 1) [] 0 (by decide) w1.heap.size 4 [⟨#[112, 108, 97, 110]⟩, p.name, ⟨#[99, 117, 114, 114, 101, 110, 99, 121]⟩, p.cur ++ ⟨#[59]⟩] (hW1.alloc (.cells #[.string (⟨#[112, 108, 97, 110]⟩), .string (p.name), .string (⟨#[99, 117, 114, 114, 101, 110, 99, 121]⟩), .string (p.cur ++ ⟨#[59]⟩)] 9)).pen (words_cell (Blk.new w1 9 #[.string (⟨#[112, 108, 97, 110]⟩), .string (p.name), .string (⟨#[99, 117, 114, 114, 101, 110, 99, 121]⟩), .string (p.cur ++ ⟨#[59]⟩)]) rfl) (by rw [World.size_alloc]; omega) (by exact Nat.le_refl _) (by simp) (len4 (by rw [ByteArray.size_append, semi_size, eW1, eW2]; omega)) hl).mono ?_
  rintro e' wL_ ⟨rfl, hp8, hk8⟩
  have hWL := (hW1.alloc (.cells #[.string (⟨#[112, 108, 97, 110]⟩), .string (p.name), .string (⟨#[99, 117, 114, 114, 101, 110, 99, 121]⟩), .string (p.cur ++ ⟨#[59]⟩)] 9)).pk hk8 hp8
  have kpL := hk8.blk (kp.alloc (.cells #[.string (⟨#[112, 108, 97, 110]⟩), .string (p.name), .string (⟨#[99, 117, 114, 114, 101, 110, 99, 121]⟩), .string (p.cur ++ ⟨#[59]⟩)] 9)) (by decide) (by omega)
  obtain ⟨dkp_0, dkp_1, dkp_2, dkp_3, dkp_4, dkp_5, dkp_6, dkp_7, dkp_8, dkp_9, dkp_10, dkp_11, dkp_12, _, _, _, _, _, _, _, _, _, _, _, _, _⟩ := kpL.c13
  have hW2 := hWL
  rw [List.nil_append] at hW2
  clear hWL hp8 hk8 kp v0 v1 v2 v3 v4 v5 v6 v7 v8 v9 v10 v11 v12 hW1
  have hl : (lineL 0 [⟨#[112, 108, 97, 110]⟩, p.name, ⟨#[99, 117, 114, 114, 101, 110, 99, 121]⟩, p.cur ++ ⟨#[59]⟩]).length ≤ 100000000000 := by
    unfold lineL; rw [join4, tabs0]; simp; omega
  go_upto_region 3 with fail
  go_region_held3 (fun w' => w'.cell? ⟨w.heap.size, 2, none⟩ = some (.int .i64 p.from_.1) ∧ w'.cell? ⟨w.heap.size, 3, none⟩ = some (.int .i64 p.from_.2.1) ∧ w'.cell? ⟨w.heap.size, 4, none⟩ = some (.int .i64 p.from_.2.2) ∧ w'.cell? ⟨w.heap.size, 5, none⟩ = some (.int .i64 p.to_.1) ∧ w'.cell? ⟨w.heap.size, 6, none⟩ = some (.int .i64 p.to_.2.1) ∧ w'.cell? ⟨w.heap.size, 7, none⟩ = some (.int .i64 p.to_.2.2))
    (refine ⟨?_, ?_, ?_, ?_, ?_, ?_⟩ <;> first | with_reducible assumption | (go_keep; done))
    ((first | (go_at_call 44; (with_reducible refine (pday_any p.from_ _ (hW2.drew.dt hD0)).mono ?_); rintro e' w0_ ⟨s1, rfl, hs1, zs1, bs1⟩; (have hW0 := hW2.drew.call bs1); (have kpL0 := kpL.drew.call bs1); (have ltkpL0 := kpL0.lt); obtain ⟨ckpL0_0, ckpL0_1, ckpL0_2, ckpL0_3, ckpL0_4, ckpL0_5, ckpL0_6, ckpL0_7, ckpL0_8, ckpL0_9, ckpL0_10, ckpL0_11, ckpL0_12, _, _, _, _, _, _, _, _, _, _, _, _, _⟩ := kpL0.c13) | (go_at_call 44; (with_reducible refine (pday_any p.to_ _ (hW0.dt hD0)).mono ?_); rintro e' w1_ ⟨s2, rfl, hs2, zs2, bs2⟩; (have t4 : ¬ (9223372036854775807 < s2.size + 1) := by omega); (have hW1 := hW0.call bs2); (have kpL1 := kpL0.call bs2); (have ltkpL1 := kpL1.lt); obtain ⟨ckpL1_0, ckpL1_1, ckpL1_2, ckpL1_3, ckpL1_4, ckpL1_5, ckpL1_6, ckpL1_7, ckpL1_8, ckpL1_9, ckpL1_10, ckpL1_11, ckpL1_12, _, _, _, _, _, _, _, _, _, _, _, _, _⟩ := kpL1.c13) | (go_at_call 43; (refine (line_any _ (w.heap.size + 1) (lineL 0 [⟨#[112, 108, 97, 110]⟩, p.name, ⟨#[99, 117, 114, 114, 101, 110, 99, 121]⟩, p.cur ++ ⟨#[59]⟩]) 0 (by decide) w1_.heap.size 3 [⟨#[104, 111, 114, 105, 122, 111, 110]⟩, s1, s2 ++ ⟨#[59]⟩] (hW1.alloc (.cells #[.string (⟨#[104, 111, 114, 105, 122, 111, 110]⟩), .string (s1), .string (s2 ++ ⟨#[59]⟩)] 9)).pen (words_cell (Blk.new w1_ 9 #[.string (⟨#[104, 111, 114, 105, 122, 111, 110]⟩), .string (s1), .string (s2 ++ ⟨#[59]⟩)]) rfl) (by rw [World.size_alloc]; omega) (by exact Nat.le_refl _) (by simp) (len3 (by rw [ByteArray.size_append, semi_size, eW3]; omega)) hl).mono ?_); rintro e' wL_ ⟨rfl, hp8, hk8⟩; (have hWL := (hW1.alloc (.cells #[.string (⟨#[104, 111, 114, 105, 122, 111, 110]⟩), .string (s1), .string (s2 ++ ⟨#[59]⟩)] 9)).pk hk8 hp8); (have kpLL := hk8.blk (kpL1.alloc (.cells #[.string (⟨#[104, 111, 114, 105, 122, 111, 110]⟩), .string (s1), .string (s2 ++ ⟨#[59]⟩)] 9)) (by decide) (by omega)); obtain ⟨dkpL_0, dkpL_1, dkpL_2, dkpL_3, dkpL_4, dkpL_5, dkpL_6, dkpL_7, dkpL_8, dkpL_9, dkpL_10, dkpL_11, dkpL_12, _, _, _, _, _, _, _, _, _, _, _, _, _⟩ := kpLL.c13)))
  have eL : (lineL 0 [⟨#[112, 108, 97, 110]⟩, p.name, ⟨#[99, 117, 114, 114, 101, 110, 99, 121]⟩, p.cur ++ ⟨#[59]⟩]) ++ lineL 0 [⟨#[104, 111, 114, 105, 122, 111, 110]⟩, s1, s2 ++ ⟨#[59]⟩] = headL p := by
    unfold lineL; rw [join4, join3, tabs0, ba_app, ba_app, hs1, hs2]; simp [headL]
  rw [eL] at hWL
  have kpb := kpLL
  clear eL hW2 hp8 hk8 kpL kpLL
  have q8 := kpb.c13.2.2.2.2.2.2.2.2.1
  go_wp2_with fail
  go_loopw [33] (fun v33 wr => ∃ k : Nat, k ≤ p.mets.length ∧ v33 = .int .i64 k ∧ PW w0 w1 wr (w.heap.size + 1) (headL p ++ (p.mets.take k).flatMap metL) ((0 : Nat) : Int) ∧ Blk wr w.heap.size 29 #[.string p.name, .string p.cur, .int .i64 p.from_.1, .int .i64 p.from_.2.1, .int .i64 p.from_.2.2, .int .i64 p.to_.1, .int .i64 p.to_.2.1, .int .i64 p.to_.2.2, .slice Am p.mets.length cm, .slice Af p.fees.length cf, .slice Ac cs.length cc, .int .i64 p.line, .int .i64 p.col] ∧ ((p.mets.take k).flatMap metL).length ≤ k * 20000) (fun v33 _ => p.mets.length - (intOf v33).toNat)
  case atStart => exact ⟨0, Nat.zero_le _, rfl, by simpa using hWL, kpb, by simp⟩
  case round =>
    obtain ⟨k, hk, rfl, hWr, kpr, hlk⟩ := hrel
    clear hWL kpb q8
    have hl : (headL p ++ (p.mets.take k).flatMap metL).length ≤ 100000000000 := by rw [List.length_append]; omega
    by_cases hlt : k < p.mets.length
    · obtain ⟨gt, rfl, hgt⟩ := hm3 (by omega)
      have htk : p.mets[k]? = some p.mets[k] := List.getElem?_eq_getElem hlt
      have e0 : wr.cell? ⟨gt, k * 5, none⟩ = some (.string p.mets[k].name) := Lies.at (f := metF) (l := p.mets) (Lies.of (hWr.row (h0row hR.mo))) (fun _ => rfl) (i := k) htk (j := 0) rfl
      have e1 : wr.cell? ⟨gt, k * 5 + 1, none⟩ = some (.string p.mets[k].unit) := Lies.at (f := metF) (l := p.mets) (Lies.of (hWr.row (h0row hR.mo))) (fun _ => rfl) (i := k) htk (j := 1) rfl
      have e2 : wr.cell? ⟨gt, k * 5 + 2, none⟩ = some (.int .i64 p.mets[k].max) := Lies.at (f := metF) (l := p.mets) (Lies.of (hWr.row (h0row hR.mo))) (fun _ => rfl) (i := k) htk (j := 2) rfl
      have e3 : wr.cell? ⟨gt, k * 5 + 3, none⟩ = some (.int .i64 p.mets[k].line) := Lies.at (f := metF) (l := p.mets) (Lies.of (hWr.row (h0row hR.mo))) (fun _ => rfl) (i := k) htk (j := 3) rfl
      have e4 : wr.cell? ⟨gt, k * 5 + 4, none⟩ = some (.int .i64 p.mets[k].col) := Lies.at (f := metF) (l := p.mets) (Lies.of (hWr.row (h0row hR.mo))) (fun _ => rfl) (i := k) htk (j := 4) rfl
      have hnk := hT.num.mets _ (List.getElem_mem hlt)
      have hsk := hT.mets _ (List.getElem_mem hlt)
      have HS := Lib.hid (flat_next metL htk)
      generalize p.mets[k] = m at *
      have kt := Blk.new wr 44 #[.string m.name, .string m.unit, .int .i64 m.max, .int .i64 m.line, .int .i64 m.col]
      have gg0 : (0 : Int) ≤ (k : Int) := by omega
      have gg1 : (k : Int) < (p.mets.length : Int) := by omega
      have gg2 : (k : Int) < (cm : Int) := by omega
      have hlx : gt < wr.heap.size := by have := hWr.lb.size; omega
      have lgp := hWr.pen.lt
      have hWa := hWr.alloc (.cells #[.string m.name, .string m.unit, .int .i64 m.max, .int .i64 m.line, .int .i64 m.col] 44)
      have kpa := kpr.alloc (.cells #[.string m.name, .string m.unit, .int .i64 m.max, .int .i64 m.line, .int .i64 m.col] 44)
      have eM1 : (⟨#[109, 101, 116, 101, 114]⟩ : ByteArray).size = 5 := rfl
      have eM2 : (⟨#[117, 110, 105, 116]⟩ : ByteArray).size = 4 := rfl
      have eM3 : (⟨#[109, 97, 120]⟩ : ByteArray).size = 3 := rfl
      clear htk
      go_upto_region 7 with fail
      generalize wr.alloc (.cells #[.string m.name, .string m.unit, .int .i64 m.max, .int .i64 m.line, .int .i64 m.col] 44) = W2 at *
      obtain ⟨x0, x1, x2, x3, x4, _, _, _, _, _⟩ := kt.c5
      go_region_held3 (fun w' => w'.cell? ⟨wr.heap.size, 0, none⟩ = some (.string m.name) ∧ w'.cell? ⟨wr.heap.size, 1, none⟩ = some (.string m.unit) ∧ w'.cell? ⟨wr.heap.size, 2, none⟩ = some (.int .i64 m.max))
        (refine ⟨?_, ?_, ?_⟩ <;> first | with_reducible assumption | (go_keep; done))
        ((first | (go_at_call 22; (with_reducible refine (sdig_any m.max _ (hWa.drew.dt hD0) (by omega) (by omega)).mono ?_); rintro e' w0_ ⟨s2, rfl, hs2, zs2, bs2⟩; (have t4 : ¬ (9223372036854775807 < s2.size + 1) := by omega); (have hW0 := hWa.drew.call bs2); (have kpa0 := kpa.drew.call bs2); (have ltkpa0 := kpa0.lt); obtain ⟨ckpa0_0, ckpa0_1, ckpa0_2, ckpa0_3, ckpa0_4, ckpa0_5, ckpa0_6, ckpa0_7, ckpa0_8, ckpa0_9, ckpa0_10, ckpa0_11, ckpa0_12, _, _, _, _, _, _, _, _, _, _, _, _, _⟩ := kpa0.c13; (have kt0 := kt.drew.call bs2); (have ltkt0 := kt0.lt); obtain ⟨ckt0_0, ckt0_1, ckt0_2, ckt0_3, ckt0_4, _, _, _, _, _⟩ := kt0.c5) | (go_at_call 43; (refine (line_any _ (w.heap.size + 1) (headL p ++ (p.mets.take k).flatMap metL) 0 (by decide) w0_.heap.size 6 [⟨#[109, 101, 116, 101, 114]⟩, m.name, ⟨#[117, 110, 105, 116]⟩, m.unit, ⟨#[109, 97, 120]⟩, s2 ++ ⟨#[59]⟩] (hW0.alloc (.cells #[.string (⟨#[109, 101, 116, 101, 114]⟩), .string (m.name), .string (⟨#[117, 110, 105, 116]⟩), .string (m.unit), .string (⟨#[109, 97, 120]⟩), .string (s2 ++ ⟨#[59]⟩)] 9)).pen (words_cell (Blk.new w0_ 9 #[.string (⟨#[109, 101, 116, 101, 114]⟩), .string (m.name), .string (⟨#[117, 110, 105, 116]⟩), .string (m.unit), .string (⟨#[109, 97, 120]⟩), .string (s2 ++ ⟨#[59]⟩)]) rfl) (by rw [World.size_alloc]; omega) (by exact Nat.le_refl _) (by simp) (len6 (by rw [ByteArray.size_append, semi_size, eM1, eM2, eM3]; omega)) hl).mono ?_); rintro e' wL_ ⟨rfl, hp8, hk8⟩; (have hWL := (hW0.alloc (.cells #[.string (⟨#[109, 101, 116, 101, 114]⟩), .string (m.name), .string (⟨#[117, 110, 105, 116]⟩), .string (m.unit), .string (⟨#[109, 97, 120]⟩), .string (s2 ++ ⟨#[59]⟩)] 9)).pk hk8 hp8); (have kpaL := hk8.blk (kpa0.alloc (.cells #[.string (⟨#[109, 101, 116, 101, 114]⟩), .string (m.name), .string (⟨#[117, 110, 105, 116]⟩), .string (m.unit), .string (⟨#[109, 97, 120]⟩), .string (s2 ++ ⟨#[59]⟩)] 9)) (by decide) (by omega)); obtain ⟨dkpa_0, dkpa_1, dkpa_2, dkpa_3, dkpa_4, dkpa_5, dkpa_6, dkpa_7, dkpa_8, dkpa_9, dkpa_10, dkpa_11, dkpa_12, _, _, _, _, _, _, _, _, _, _, _, _, _⟩ := kpaL.c13; (have ktL := hk8.blk (kt0.alloc (.cells #[.string (⟨#[109, 101, 116, 101, 114]⟩), .string (m.name), .string (⟨#[117, 110, 105, 116]⟩), .string (m.unit), .string (⟨#[109, 97, 120]⟩), .string (s2 ++ ⟨#[59]⟩)] 9)) (by decide) (by omega)); obtain ⟨dkt_0, dkt_1, dkt_2, dkt_3, dkt_4, _, _, _, _, _⟩ := ktL.c5)))
      go_wp2_with fail
      have eL : (headL p ++ (p.mets.take k).flatMap metL) ++ lineL 0 [⟨#[109, 101, 116, 101, 114]⟩, m.name, ⟨#[117, 110, 105, 116]⟩, m.unit, ⟨#[109, 97, 120]⟩, s2 ++ ⟨#[59]⟩] = headL p ++ (p.mets.take (k + 1)).flatMap metL := by
        rw [HS.out, ← List.append_assoc]; congr 1; unfold lineL; rw [join6, tabs0, ba_app, hs2]; simp [metL]
      rw [eL] at hWL
      go_roundw
      case rel => exact ⟨k + 1, by omega, by go_num, hWL, kpaL, by rw [HS.out, List.length_append]; have := metL_len hnk hsk; omega⟩
      case measure => simp [intOf]; omega
    · obtain rfl : k = p.mets.length := by omega
      rw [List.take_length] at hWr hlk
      have q9 := kpr.c13.2.2.2.2.2.2.2.2.2.1
      go_wp2_with fail
      go_loopw [52] (fun v52 wr => ∃ k : Nat, k ≤ p.fees.length ∧ v52 = .int .i64 k ∧ PW w0 w1 wr (w.heap.size + 1) (headL p ++ p.mets.flatMap metL ++ (p.fees.take k).flatMap feeL) ((0 : Nat) : Int) ∧ Blk wr w.heap.size 29 #[.string p.name, .string p.cur, .int .i64 p.from_.1, .int .i64 p.from_.2.1, .int .i64 p.from_.2.2, .int .i64 p.to_.1, .int .i64 p.to_.2.1, .int .i64 p.to_.2.2, .slice Am p.mets.length cm, .slice Af p.fees.length cf, .slice Ac cs.length cc, .int .i64 p.line, .int .i64 p.col] ∧ ((p.fees.take k).flatMap feeL).length ≤ k * 100) (fun v52 _ => p.fees.length - (intOf v52).toNat)
      case atStart => exact ⟨0, Nat.zero_le _, rfl, by simpa using hWr, kpr, by simp⟩
      case round =>
        clear hWr kpr q9
        obtain ⟨k, hk, rfl, hWr, kpr, hlf⟩ := hrel
        have hl : (headL p ++ p.mets.flatMap metL ++ (p.fees.take k).flatMap feeL).length ≤ 100000000000 := by rw [List.length_append, List.length_append]; omega
        by_cases hlt : k < p.fees.length
        · obtain ⟨gt, rfl, hgt⟩ := hf3 (by omega)
          have htk : p.fees[k]? = some p.fees[k] := List.getElem?_eq_getElem hlt
          have e0 : wr.cell? ⟨gt, k * 10, none⟩ = some (.int .i64 p.fees[k].amount) := Lies.at (f := feeF) (l := p.fees) (Lies.of (hWr.row (h0row hR.fo))) (fun _ => rfl) (i := k) htk (j := 0) rfl
          have e1 : wr.cell? ⟨gt, k * 10 + 1, none⟩ = some (.bool p.fees[k].win.has) := Lies.at (f := feeF) (l := p.fees) (Lies.of (hWr.row (h0row hR.fo))) (fun _ => rfl) (i := k) htk (j := 1) rfl
          have e2 : wr.cell? ⟨gt, k * 10 + 2, none⟩ = some (.int .i64 p.fees[k].win.from_.1) := Lies.at (f := feeF) (l := p.fees) (Lies.of (hWr.row (h0row hR.fo))) (fun _ => rfl) (i := k) htk (j := 2) rfl
          have e3 : wr.cell? ⟨gt, k * 10 + 3, none⟩ = some (.int .i64 p.fees[k].win.from_.2.1) := Lies.at (f := feeF) (l := p.fees) (Lies.of (hWr.row (h0row hR.fo))) (fun _ => rfl) (i := k) htk (j := 3) rfl
          have e4 : wr.cell? ⟨gt, k * 10 + 4, none⟩ = some (.int .i64 p.fees[k].win.from_.2.2) := Lies.at (f := feeF) (l := p.fees) (Lies.of (hWr.row (h0row hR.fo))) (fun _ => rfl) (i := k) htk (j := 4) rfl
          have e5 : wr.cell? ⟨gt, k * 10 + 5, none⟩ = some (.int .i64 p.fees[k].win.to_.1) := Lies.at (f := feeF) (l := p.fees) (Lies.of (hWr.row (h0row hR.fo))) (fun _ => rfl) (i := k) htk (j := 5) rfl
          have e6 : wr.cell? ⟨gt, k * 10 + 6, none⟩ = some (.int .i64 p.fees[k].win.to_.2.1) := Lies.at (f := feeF) (l := p.fees) (Lies.of (hWr.row (h0row hR.fo))) (fun _ => rfl) (i := k) htk (j := 6) rfl
          have e7 : wr.cell? ⟨gt, k * 10 + 7, none⟩ = some (.int .i64 p.fees[k].win.to_.2.2) := Lies.at (f := feeF) (l := p.fees) (Lies.of (hWr.row (h0row hR.fo))) (fun _ => rfl) (i := k) htk (j := 7) rfl
          have e8 : wr.cell? ⟨gt, k * 10 + 8, none⟩ = some (.int .i64 p.fees[k].line) := Lies.at (f := feeF) (l := p.fees) (Lies.of (hWr.row (h0row hR.fo))) (fun _ => rfl) (i := k) htk (j := 8) rfl
          have e9 : wr.cell? ⟨gt, k * 10 + 9, none⟩ = some (.int .i64 p.fees[k].col) := Lies.at (f := feeF) (l := p.fees) (Lies.of (hWr.row (h0row hR.fo))) (fun _ => rfl) (i := k) htk (j := 9) rfl
          have hnk := hT.num.fees _ (List.getElem_mem hlt)
          have HS := Lib.hid (flat_next feeL htk)
          generalize p.fees[k] = f at *
          have kt := Blk.new wr 48 #[.int .i64 f.amount, .bool f.win.has, .int .i64 f.win.from_.1, .int .i64 f.win.from_.2.1, .int .i64 f.win.from_.2.2, .int .i64 f.win.to_.1, .int .i64 f.win.to_.2.1, .int .i64 f.win.to_.2.2, .int .i64 f.line, .int .i64 f.col]
          have gg0 : (0 : Int) ≤ (k : Int) := by omega
          have gg1 : (k : Int) < (p.fees.length : Int) := by omega
          have gg2 : (k : Int) < (cf : Int) := by omega
          have hlx : gt < wr.heap.size := by have := hWr.lb.size; omega
          have lgp := hWr.pen.lt
          have hWa := hWr.alloc (.cells #[.int .i64 f.amount, .bool f.win.has, .int .i64 f.win.from_.1, .int .i64 f.win.from_.2.1, .int .i64 f.win.from_.2.2, .int .i64 f.win.to_.1, .int .i64 f.win.to_.2.1, .int .i64 f.win.to_.2.2, .int .i64 f.line, .int .i64 f.col] 48)
          have kpa := kpr.alloc (.cells #[.int .i64 f.amount, .bool f.win.has, .int .i64 f.win.from_.1, .int .i64 f.win.from_.2.1, .int .i64 f.win.from_.2.2, .int .i64 f.win.to_.1, .int .i64 f.win.to_.2.1, .int .i64 f.win.to_.2.2, .int .i64 f.line, .int .i64 f.col] 48)
          have eF : (⟨#[102, 101, 101]⟩ : ByteArray).size = 3 := rfl
          have hwn := fun W hW => pwin_any f.win W hW
          unfold winA at hwn
          clear htk
          go_upto_region 12 with fail
          generalize wr.alloc (.cells #[.int .i64 f.amount, .bool f.win.has, .int .i64 f.win.from_.1, .int .i64 f.win.from_.2.1, .int .i64 f.win.from_.2.2, .int .i64 f.win.to_.1, .int .i64 f.win.to_.2.1, .int .i64 f.win.to_.2.2, .int .i64 f.line, .int .i64 f.col] 48) = W2 at *
          obtain ⟨x0, x1, x2, x3, x4, x5, x6, x7, x8, x9, _, _, _, _, _, _, _, _, _, _⟩ := kt.c10
          go_region_held3 (fun w' => w'.cell? ⟨wr.heap.size, 0, none⟩ = some (.int .i64 f.amount) ∧ w'.cell? ⟨wr.heap.size, 1, none⟩ = some (.bool f.win.has) ∧ w'.cell? ⟨wr.heap.size, 2, none⟩ = some (.int .i64 f.win.from_.1) ∧ w'.cell? ⟨wr.heap.size, 3, none⟩ = some (.int .i64 f.win.from_.2.1) ∧ w'.cell? ⟨wr.heap.size, 4, none⟩ = some (.int .i64 f.win.from_.2.2) ∧ w'.cell? ⟨wr.heap.size, 5, none⟩ = some (.int .i64 f.win.to_.1) ∧ w'.cell? ⟨wr.heap.size, 6, none⟩ = some (.int .i64 f.win.to_.2.1) ∧ w'.cell? ⟨wr.heap.size, 7, none⟩ = some (.int .i64 f.win.to_.2.2))
            (refine ⟨?_, ?_, ?_, ?_, ?_, ?_, ?_, ?_⟩ <;> first | with_reducible assumption | (go_keep; done))
            ((first | (go_at_call 22; (with_reducible refine (sdig_any f.amount _ (hWa.drew.dt hD0) (by omega) (by omega)).mono ?_); rintro e' w0_ ⟨s1, rfl, hs1, zs1, bs1⟩; (have hW0 := hWa.drew.call bs1); (have kpa0 := kpa.drew.call bs1); (have ltkpa0 := kpa0.lt); obtain ⟨ckpa0_0, ckpa0_1, ckpa0_2, ckpa0_3, ckpa0_4, ckpa0_5, ckpa0_6, ckpa0_7, ckpa0_8, ckpa0_9, ckpa0_10, ckpa0_11, ckpa0_12, _, _, _, _, _, _, _, _, _, _, _, _, _⟩ := kpa0.c13; (have kt0 := kt.drew.call bs1); (have ltkt0 := kt0.lt); obtain ⟨ckt0_0, ckt0_1, ckt0_2, ckt0_3, ckt0_4, ckt0_5, ckt0_6, ckt0_7, ckt0_8, ckt0_9, _, _, _, _, _, _, _, _, _, _⟩ := kt0.c10) | (go_at_call 45; (with_reducible refine (hwn _ (hW0.dt hD0)).mono ?_); rintro e' w1_ ⟨s2, rfl, hs2, zs2, bs2⟩; (have t4 : ¬ (9223372036854775807 < s1.size + s2.size) := by omega); (have t5 : ¬ (9223372036854775807 < s1.size + s2.size + 1) := by omega); (have hW1 := hW0.call bs2); (have kpa1 := kpa0.call bs2); (have ltkpa1 := kpa1.lt); obtain ⟨ckpa1_0, ckpa1_1, ckpa1_2, ckpa1_3, ckpa1_4, ckpa1_5, ckpa1_6, ckpa1_7, ckpa1_8, ckpa1_9, ckpa1_10, ckpa1_11, ckpa1_12, _, _, _, _, _, _, _, _, _, _, _, _, _⟩ := kpa1.c13; (have kt1 := kt0.call bs2); (have ltkt1 := kt1.lt); obtain ⟨ckt1_0, ckt1_1, ckt1_2, ckt1_3, ckt1_4, ckt1_5, ckt1_6, ckt1_7, ckt1_8, ckt1_9, _, _, _, _, _, _, _, _, _, _⟩ := kt1.c10) | (go_at_call 43; (refine (line_any _ (w.heap.size + 1) (headL p ++ p.mets.flatMap metL ++ (p.fees.take k).flatMap feeL) 0 (by decide) w1_.heap.size 2 [⟨#[102, 101, 101]⟩, s1 ++ s2 ++ ⟨#[59]⟩] (hW1.alloc (.cells #[.string (⟨#[102, 101, 101]⟩), .string (s1 ++ s2 ++ ⟨#[59]⟩)] 9)).pen (words_cell (Blk.new w1_ 9 #[.string (⟨#[102, 101, 101]⟩), .string (s1 ++ s2 ++ ⟨#[59]⟩)]) rfl) (by rw [World.size_alloc]; omega) (by exact Nat.le_refl _) (by simp) (len2 (by rw [ByteArray.size_append, ByteArray.size_append, semi_size, eF]; omega)) hl).mono ?_); rintro e' wL_ ⟨rfl, hp8, hk8⟩; (have hWL := (hW1.alloc (.cells #[.string (⟨#[102, 101, 101]⟩), .string (s1 ++ s2 ++ ⟨#[59]⟩)] 9)).pk hk8 hp8); (have kpaL := hk8.blk (kpa1.alloc (.cells #[.string (⟨#[102, 101, 101]⟩), .string (s1 ++ s2 ++ ⟨#[59]⟩)] 9)) (by decide) (by omega)); obtain ⟨dkpa_0, dkpa_1, dkpa_2, dkpa_3, dkpa_4, dkpa_5, dkpa_6, dkpa_7, dkpa_8, dkpa_9, dkpa_10, dkpa_11, dkpa_12, _, _, _, _, _, _, _, _, _, _, _, _, _⟩ := kpaL.c13; (have ktL := hk8.blk (kt1.alloc (.cells #[.string (⟨#[102, 101, 101]⟩), .string (s1 ++ s2 ++ ⟨#[59]⟩)] 9)) (by decide) (by omega)); obtain ⟨dkt_0, dkt_1, dkt_2, dkt_3, dkt_4, dkt_5, dkt_6, dkt_7, dkt_8, dkt_9, _, _, _, _, _, _, _, _, _, _⟩ := ktL.c10)))
          go_wp2_with fail
          have eL : (headL p ++ p.mets.flatMap metL ++ (p.fees.take k).flatMap feeL) ++ lineL 0 [⟨#[102, 101, 101]⟩, s1 ++ s2 ++ ⟨#[59]⟩] = headL p ++ p.mets.flatMap metL ++ (p.fees.take (k + 1)).flatMap feeL := by
            rw [HS.out, ← List.append_assoc]; congr 1; unfold lineL; rw [join2, tabs0, ba_app, ba_app, hs1, hs2]; simp [feeL]
          rw [eL] at hWL
          go_roundw
          case rel => exact ⟨k + 1, by omega, by go_num, hWL, kpaL, by rw [HS.out, List.length_append]; have := feeL_len hnk; omega⟩
          case measure => simp [intOf]; omega
        · obtain rfl : k = p.fees.length := by omega
          rw [List.take_length] at hWr hlf
          have q10 := kpr.c13.2.2.2.2.2.2.2.2.2.2.1
          go_wp2_with fail
          go_loopw [71] (fun v71 wr => ∃ k : Nat, k ≤ cs.length ∧ v71 = .int .i64 k ∧ PW w0 w1 wr (w.heap.size + 1) (headL p ++ p.mets.flatMap metL ++ p.fees.flatMap feeL ++ (cs.take k).flatMap (fun x => chgL x.1)) ((0 : Nat) : Int) ∧ Blk wr w.heap.size 29 #[.string p.name, .string p.cur, .int .i64 p.from_.1, .int .i64 p.from_.2.1, .int .i64 p.from_.2.2, .int .i64 p.to_.1, .int .i64 p.to_.2.1, .int .i64 p.to_.2.2, .slice Am p.mets.length cm, .slice Af p.fees.length cf, .slice Ac cs.length cc, .int .i64 p.line, .int .i64 p.col] ∧ ((cs.take k).flatMap (fun x => chgL x.1)).length ≤ k * 3000000) (fun v71 _ => cs.length - (intOf v71).toNat)
          case atStart => exact ⟨0, Nat.zero_le _, rfl, by simpa using hWr, kpr, by simp⟩
          case round =>
            clear hWr kpr q10
            obtain ⟨k, hk, rfl, hWr, kpr, hlc⟩ := hrel
            by_cases hlt : k < cs.length
            · obtain ⟨gt, rfl, hgt⟩ := hc3 (by omega)
              have htk : cs[k]? = some cs[k] := List.getElem?_eq_getElem hlt
              have e0 : wr.cell? ⟨gt, k * 16, none⟩ = some (.string cs[k].1.meter) := Lies.at (f := chgF) (l := cs) (Lies.of (hWr.row (h0row hR.co))) (fun _ => rfl) (i := k) htk (j := 0) rfl
              have e1 : wr.cell? ⟨gt, k * 16 + 1, none⟩ = some (.bool cs[k].1.win.has) := Lies.at (f := chgF) (l := cs) (Lies.of (hWr.row (h0row hR.co))) (fun _ => rfl) (i := k) htk (j := 1) rfl
              have e2 : wr.cell? ⟨gt, k * 16 + 2, none⟩ = some (.int .i64 cs[k].1.win.from_.1) := Lies.at (f := chgF) (l := cs) (Lies.of (hWr.row (h0row hR.co))) (fun _ => rfl) (i := k) htk (j := 2) rfl
              have e3 : wr.cell? ⟨gt, k * 16 + 3, none⟩ = some (.int .i64 cs[k].1.win.from_.2.1) := Lies.at (f := chgF) (l := cs) (Lies.of (hWr.row (h0row hR.co))) (fun _ => rfl) (i := k) htk (j := 3) rfl
              have e4 : wr.cell? ⟨gt, k * 16 + 4, none⟩ = some (.int .i64 cs[k].1.win.from_.2.2) := Lies.at (f := chgF) (l := cs) (Lies.of (hWr.row (h0row hR.co))) (fun _ => rfl) (i := k) htk (j := 4) rfl
              have e5 : wr.cell? ⟨gt, k * 16 + 5, none⟩ = some (.int .i64 cs[k].1.win.to_.1) := Lies.at (f := chgF) (l := cs) (Lies.of (hWr.row (h0row hR.co))) (fun _ => rfl) (i := k) htk (j := 5) rfl
              have e6 : wr.cell? ⟨gt, k * 16 + 6, none⟩ = some (.int .i64 cs[k].1.win.to_.2.1) := Lies.at (f := chgF) (l := cs) (Lies.of (hWr.row (h0row hR.co))) (fun _ => rfl) (i := k) htk (j := 6) rfl
              have e7 : wr.cell? ⟨gt, k * 16 + 7, none⟩ = some (.int .i64 cs[k].1.win.to_.2.2) := Lies.at (f := chgF) (l := cs) (Lies.of (hWr.row (h0row hR.co))) (fun _ => rfl) (i := k) htk (j := 7) rfl
              have e8 : wr.cell? ⟨gt, k * 16 + 8, none⟩ = some (.int .i64 cs[k].1.allow) := Lies.at (f := chgF) (l := cs) (Lies.of (hWr.row (h0row hR.co))) (fun _ => rfl) (i := k) htk (j := 8) rfl
              have e9 : wr.cell? ⟨gt, k * 16 + 9, none⟩ = some (.int .i64 cs[k].1.block) := Lies.at (f := chgF) (l := cs) (Lies.of (hWr.row (h0row hR.co))) (fun _ => rfl) (i := k) htk (j := 9) rfl
              have e10 : wr.cell? ⟨gt, k * 16 + 10, none⟩ = some (.int .i64 cs[k].1.kind) := Lies.at (f := chgF) (l := cs) (Lies.of (hWr.row (h0row hR.co))) (fun _ => rfl) (i := k) htk (j := 10) rfl
              have e11 : wr.cell? ⟨gt, k * 16 + 11, none⟩ = some (cs[k].2.1) := Lies.at (f := chgF) (l := cs) (Lies.of (hWr.row (h0row hR.co))) (fun _ => rfl) (i := k) htk (j := 11) rfl
              have e12 : wr.cell? ⟨gt, k * 16 + 12, none⟩ = some (.int .i64 cs[k].1.mode) := Lies.at (f := chgF) (l := cs) (Lies.of (hWr.row (h0row hR.co))) (fun _ => rfl) (i := k) htk (j := 12) rfl
              have e13 : wr.cell? ⟨gt, k * 16 + 13, none⟩ = some (cs[k].2.2) := Lies.at (f := chgF) (l := cs) (Lies.of (hWr.row (h0row hR.co))) (fun _ => rfl) (i := k) htk (j := 13) rfl
              have e14 : wr.cell? ⟨gt, k * 16 + 14, none⟩ = some (.int .i64 cs[k].1.line) := Lies.at (f := chgF) (l := cs) (Lies.of (hWr.row (h0row hR.co))) (fun _ => rfl) (i := k) htk (j := 14) rfl
              have e15 : wr.cell? ⟨gt, k * 16 + 15, none⟩ = some (.int .i64 cs[k].1.col) := Lies.at (f := chgF) (l := cs) (Lies.of (hWr.row (h0row hR.co))) (fun _ => rfl) (i := k) htk (j := 15) rfl
              have hmem : cs[k].1 ∈ p.chgs := by rw [← hR.eq]; exact List.mem_map_of_mem (List.getElem_mem hlt)
              have hnk := hT.num.chgs _ hmem
              have hsk := hT.chgs _ hmem
              have hst := hT.small.tiers _ hmem
              have hsa := hT.small.adjs _ hmem
              have hne := hR.ne _ (List.getElem_mem hlt)
              have HS := Lib.hid (flat_next (fun x : CT => chgL x.1) htk)
              generalize cs[k] = c at *
              obtain ⟨cx, tv, av⟩ := c
              simp only at e0 e1 e2 e3 e4 e5 e6 e7 e8 e9 e10 e11 e12 e13 e14 e15 hnk hsk hst hsa hne HS
              obtain ⟨At, ct, rfl, _⟩ := own_form w hne.1
              obtain ⟨Aa, ca, rfl, _⟩ := own_form w hne.2
              have kt := Blk.new wr 52 #[.string cx.meter, .bool cx.win.has, .int .i64 cx.win.from_.1, .int .i64 cx.win.from_.2.1, .int .i64 cx.win.from_.2.2, .int .i64 cx.win.to_.1, .int .i64 cx.win.to_.2.1, .int .i64 cx.win.to_.2.2, .int .i64 cx.allow, .int .i64 cx.block, .int .i64 cx.kind, .slice At cx.tiers.length ct, .int .i64 cx.mode, .slice Aa cx.adjs.length ca, .int .i64 cx.line, .int .i64 cx.col]
              have gg0 : (0 : Int) ≤ (k : Int) := by omega
              have gg1 : (k : Int) < (cs.length : Int) := by omega
              have gg2 : (k : Int) < (cc : Int) := by omega
              have hlx : gt < wr.heap.size := by have := hWr.lb.size; omega
              have lgp := hWr.pen.lt
              have lpb := kpr.lt
              clear htk hmem
              go_upto_region 17 with fail
              have hWa := hWr.alloc (.cells #[.string cx.meter, .bool cx.win.has, .int .i64 cx.win.from_.1, .int .i64 cx.win.from_.2.1, .int .i64 cx.win.from_.2.2, .int .i64 cx.win.to_.1, .int .i64 cx.win.to_.2.1, .int .i64 cx.win.to_.2.2, .int .i64 cx.allow, .int .i64 cx.block, .int .i64 cx.kind, .slice At cx.tiers.length ct, .int .i64 cx.mode, .slice Aa cx.adjs.length ca, .int .i64 cx.line, .int .i64 cx.col] 52)
              have kpa := kpr.alloc (.cells #[.string cx.meter, .bool cx.win.has, .int .i64 cx.win.from_.1, .int .i64 cx.win.from_.2.1, .int .i64 cx.win.from_.2.2, .int .i64 cx.win.to_.1, .int .i64 cx.win.to_.2.1, .int .i64 cx.win.to_.2.2, .int .i64 cx.allow, .int .i64 cx.block, .int .i64 cx.kind, .slice At cx.tiers.length ct, .int .i64 cx.mode, .slice Aa cx.adjs.length ca, .int .i64 cx.line, .int .i64 cx.col] 52)
              generalize wr.alloc (.cells #[.string cx.meter, .bool cx.win.has, .int .i64 cx.win.from_.1, .int .i64 cx.win.from_.2.1, .int .i64 cx.win.from_.2.2, .int .i64 cx.win.to_.1, .int .i64 cx.win.to_.2.1, .int .i64 cx.win.to_.2.2, .int .i64 cx.allow, .int .i64 cx.block, .int .i64 cx.kind, .slice At cx.tiers.length ct, .int .i64 cx.mode, .slice Aa cx.adjs.length ca, .int .i64 cx.line, .int .i64 cx.col] 52) = W2 at *
              obtain ⟨x0, x1, x2, x3, x4, x5, x6, x7, x8, x9, x10, x11, x12, x13, x14, x15, _, _, _, _, _, _, _, _, _, _, _, _, _, _, _, _⟩ := kt.c16
              go_wp2_with fail
              refine (penCharge_any w0 _ (w.heap.size + 1) _ cx At Aa ct ca hD0 hWa (h0row hne.1) (h0row hne.2) hnk.1 hnk.2.1 hnk.2.2.1 hnk.2.2.2 hst hsa hsk (by simp only [List.length_append]; omega)).mono ?_
              rintro e' w8 ⟨rfl, hp8, hk8⟩
              have hW8 := hWa.pk hk8 hp8
              have kp8 := hk8.blk kpa (by decide) (by omega)
              go_wp2_with fail
              go_roundw
              case rel => exact ⟨k + 1, by omega, by go_num, by rw [HS.out, ← List.append_assoc]; exact hW8, kp8, by rw [HS.out, List.length_append]; have := chgL_len hnk.1 hnk.2.1 hnk.2.2.1 hnk.2.2.2 hst hsa hsk; omega⟩
              case measure => simp [intOf]; omega
            · obtain rfl : k = cs.length := by omega
              have hq : (cs.flatMap fun x => chgL x.1) = p.chgs.flatMap chgL := by rw [← hR.eq, List.flatMap_map]
              rw [List.take_length, hq] at hWr hlc
              have hpl : (planL p).length ≤ 40000000000 := by
                unfold planL; simp only [List.length_append]; omega
              have hWz : PW w0 w1 wr (w.heap.size + 1) (planL p) ((0 : Nat) : Int) := hWr
              go_wp2_with fail
              refine (bs_any _ (w.heap.size + 1) (planL p) _ hWz.pen (planL_ne p) (by omega)).mono ?_
              rintro e' w9 ⟨rfl, hb9⟩
              go_wp2_with fail
              go_ret
              exact says_of hpl ⟨rfl, (hb0.trans ((hWz.lb.mono (by omega)))).trans (hb9.mono (by omega))⟩
end Go.Proofs.YtcgkfgklggjmaaaDoor.Par
end
section
namespace Go.Proofs.YtcgkfgklggjmaaaDoor.Par
set_option linter.unusedVariables false
set_option linter.unusedSimpArgs false
open Go.RowKit
/-! what chapter 08's written text is -/
def aTxt8 : List UInt8 := [112, 108, 97, 110, 32, 112, 32, 99, 117, 114, 114, 101, 110, 99, 121, 32, 69, 85, 82, 59, 10, 104, 111, 114, 105, 122, 111, 110, 32, 50, 48, 50, 52, 45, 48, 49, 45, 48, 49, 32, 50, 48, 50, 52, 45, 49, 50, 45, 51, 49, 59, 10, 109, 101, 116, 101, 114, 32, 109, 32, 117, 110, 105, 116, 32, 108, 32, 109, 97, 120, 32, 57, 59, 10, 102, 101, 101, 32, 53, 59, 10]
def aTok8 : List Tok := [⟨2, ⟨#[112, 108, 97, 110]⟩, 1, 1⟩, ⟨1, ⟨#[112]⟩, 1, 6⟩, ⟨2, ⟨#[99, 117, 114, 114, 101, 110, 99, 121]⟩, 1, 8⟩, ⟨1, ⟨#[69, 85, 82]⟩, 1, 17⟩, ⟨5, ⟨#[59]⟩, 1, 20⟩, ⟨2, ⟨#[104, 111, 114, 105, 122, 111, 110]⟩, 2, 1⟩, ⟨4, ⟨#[50, 48, 50, 52, 45, 48, 49, 45, 48, 49]⟩, 2, 9⟩, ⟨4, ⟨#[50, 48, 50, 52, 45, 49, 50, 45, 51, 49]⟩, 2, 20⟩, ⟨5, ⟨#[59]⟩, 2, 30⟩, ⟨2, ⟨#[109, 101, 116, 101, 114]⟩, 3, 1⟩, ⟨1, ⟨#[109]⟩, 3, 7⟩, ⟨2, ⟨#[117, 110, 105, 116]⟩, 3, 9⟩, ⟨1, ⟨#[108]⟩, 3, 14⟩, ⟨2, ⟨#[109, 97, 120]⟩, 3, 16⟩, ⟨3, ⟨#[57]⟩, 3, 20⟩, ⟨5, ⟨#[59]⟩, 3, 21⟩, ⟨2, ⟨#[102, 101, 101]⟩, 4, 1⟩, ⟨3, ⟨#[53]⟩, 4, 5⟩, ⟨5, ⟨#[59]⟩, 4, 6⟩, ⟨0, ⟨#[]⟩, 5, 1⟩]
def aP8 : Plan := ⟨⟨#[112]⟩, ⟨#[69, 85, 82]⟩, (2024, 1, 1), (2024, 12, 31), [⟨⟨#[109]⟩, ⟨#[108]⟩, 9, 3, 1⟩], [⟨5, noWin, 4, 1⟩], [], 1, 1⟩
theorem a8_tok : lexAll aTxt8 = (aTok8, 0, 0, 0) := by
  rw [lexAll, if_neg (by decide), ← lexF_eq 200 aTxt8 1 1 (by decide)]
  have : lexF 200 aTxt8 1 1 = .ok aTok8 := by kernel_rfl
  rw [this]
theorem a8_e : (P.plan dp npV aTok8).2.err = 0 := by kernel_rfl
theorem a8_parse : RParse aTxt8 = (aP8, 0, 0, 0) := by
  rw [PParse_ok a8_tok a8_e]
  exact congrArg (fun x => (x, (0 : Int), (0 : Int), (0 : Int))) (by kernel_rfl)
theorem a8_text : planL aP8 = aTxt8 := by kernel_rfl
theorem a8_mode : modeL 3 = [104, 97, 108, 102, 101, 118, 101, 110] := by kernel_rfl
theorem a8_lit : (⟨([112, 108, 97, 110, 32, 112, 32, 99, 117, 114, 114, 101, 110, 99, 121, 32, 69, 85, 82, 59, 10, 104, 111, 114, 105, 122, 111, 110, 32, 50, 48, 50, 52, 45, 48, 49, 45, 48, 49, 32].append [50, 48, 50, 52, 45, 49, 50, 45, 51, 49, 59, 10, 109, 101, 116, 101, 114, 32, 109, 32, 117, 110, 105, 116, 32, 108, 32, 109, 97, 120, 32, 57, 59, 10, 102, 101, 101, 32, 53, 59, 10]).toArray⟩ : ByteArray).data.toList = aTxt8 := rfl
theorem a8_told : Told aP8 := by
  have h := told_parse (l := aTxt8) (by rw [a8_parse])
  rw [a8_parse] at h
  exact h
set_option maxHeartbeats 16000000 in
set_option maxRecDepth 100000 in
theorem alive8_any (hRP : RParses8) (w : World) (hD : Dec.GT w) :
    Calls Tryd.prog 15 #[] w fun e w' => e = .returned (.bool true) ∧ Below w.heap.size w w' := by
  have hQ := fun W => hRP ⟨([112, 108, 97, 110, 32, 112, 32, 99, 117, 114, 114, 101, 110, 99, 121, 32, 69, 85, 82, 59, 10, 104, 111, 114, 105, 122, 111, 110, 32, 50, 48, 50, 52, 45, 48, 49, 45, 48, 49, 32].append [50, 48, 50, 52, 45, 49, 50, 45, 51, 49, 59, 10, 109, 101, 116, 101, 114, 32, 109, 32, 117, 110, 105, 116, 32, 108, 32, 109, 97, 120, 32, 57, 59, 10, 102, 101, 101, 32, 53, 59, 10]).toArray⟩ W (by decide)
  rw [a8_lit, a8_parse] at hQ
  clear hRP
  replace hQ := Lib.hid hQ
  go_enter Tryd.func15, Tryd.ntmps15
  go_wp2_with fail
  refine (hQ.out _).mono ?_
  rintro e w2 ⟨v, rfl, hv, hb2⟩
  obtain ⟨mv, fv, cv, cs, rfl, hR⟩ := hv
  obtain ⟨Am, cAm, rfl, _, _, _⟩ := Lies.open (f := metF) (l := aP8.mets) (Lies.of hR.mo)
  obtain ⟨Af, cAf, rfl, _, _, _⟩ := Lies.open (f := feeF) (l := aP8.fees) (Lies.of hR.fo)
  obtain ⟨Ac, cAc, rfl, _, _, _⟩ := Lies.open (f := chgF) (l := cs) (Lies.of hR.co)
  have k1 := Blk.new w2 29 #[.string aP8.name, .string aP8.cur, .int .i64 aP8.from_.1, .int .i64 aP8.from_.2.1, .int .i64 aP8.from_.2.2, .int .i64 aP8.to_.1, .int .i64 aP8.to_.2.1, .int .i64 aP8.to_.2.2, .slice Am aP8.mets.length cAm, .slice Af aP8.fees.length cAf, .slice Ac cs.length cAc, .int .i64 aP8.line, .int .i64 aP8.col]
  have hb3 := bl_alloc hb2 (.cells #[.string aP8.name, .string aP8.cur, .int .i64 aP8.from_.1, .int .i64 aP8.from_.2.1, .int .i64 aP8.from_.2.2, .int .i64 aP8.to_.1, .int .i64 aP8.to_.2.1, .int .i64 aP8.to_.2.2, .slice Am aP8.mets.length cAm, .slice Af aP8.fees.length cAf, .slice Ac cs.length cAc, .int .i64 aP8.line, .int .i64 aP8.col] 29)
  have rP := pplan_any (w2.alloc (.cells #[.string aP8.name, .string aP8.cur, .int .i64 aP8.from_.1, .int .i64 aP8.from_.2.1, .int .i64 aP8.from_.2.2, .int .i64 aP8.to_.1, .int .i64 aP8.to_.2.1, .int .i64 aP8.to_.2.2, .slice Am aP8.mets.length cAm, .slice Af aP8.fees.length cAf, .slice Ac cs.length cAc, .int .i64 aP8.line, .int .i64 aP8.col] 29)) (hD.below hb3) (hR.below (bl_alloc (bl_refl _) _)) a8_told
  unfold planC at rP ⊢
  clear hR hQ hb2
  obtain ⟨x0, x1, x2, x3, x4, x5, x6, x7, x8, x9, x10, x11, x12, _, _, _, _, _, _, _, _, _, _, _, _, _⟩ := k1.c13
  go_upto_region 3 with fail
  generalize w2.alloc (.cells #[.string aP8.name, .string aP8.cur, .int .i64 aP8.from_.1, .int .i64 aP8.from_.2.1, .int .i64 aP8.from_.2.2, .int .i64 aP8.to_.1, .int .i64 aP8.to_.2.1, .int .i64 aP8.to_.2.2, .slice Am aP8.mets.length cAm, .slice Af aP8.fees.length cAf, .slice Ac cs.length cAc, .int .i64 aP8.line, .int .i64 aP8.col] 29) = W3 at *
  go_wp2_with fail
  refine rP.mono ?_
  rintro e w5 ⟨s3, rfl, hs3, hz3, hb5⟩
  rw [a8_text, ← a8_lit] at hs3
  obtain rfl := ba_inj hs3
  have q1 := ba_beq ⟨([112, 108, 97, 110, 32, 112, 32, 99, 117, 114, 114, 101, 110, 99, 121, 32, 69, 85, 82, 59, 10, 104, 111, 114, 105, 122, 111, 110, 32, 50, 48, 50, 52, 45, 48, 49, 45, 48, 49, 32].append [50, 48, 50, 52, 45, 49, 50, 45, 51, 49, 59, 10, 109, 101, 116, 101, 114, 32, 109, 32, 117, 110, 105, 116, 32, 108, 32, 109, 97, 120, 32, 57, 59, 10, 102, 101, 101, 32, 53, 59, 10]).toArray⟩
  go_wp2_with fail
  refine (pmode_any 3 _).mono ?_
  rintro e w6 ⟨s4, rfl, hs4, hz4, hb6⟩
  rw [a8_mode] at hs4
  obtain rfl : s4 = ⟨#[104, 97, 108, 102, 101, 118, 101, 110]⟩ := ba_inj hs4
  have q2 := ba_beq ⟨#[104, 97, 108, 102, 101, 118, 101, 110]⟩
  go_wp2_with fail
  go_ret
  exact ⟨rfl, bl_call (bl_call hb3 hb5) hb6⟩
end Go.Proofs.YtcgkfgklggjmaaaDoor.Par
end
section
namespace Go.Proofs.YtcgkfgklggjmaaaDoor.Par
set_option linter.unusedVariables false
set_option linter.unusedSimpArgs false
open Go.RowKit
def bareP (p : Plan) : Plan := { p with mets := [], fees := [], chgs := [] }
def metP (p : Plan) (m : Met) : Plan := { p with mets := [m], fees := [], chgs := [] }
def feeP (p : Plan) (f : Fee) : Plan := { p with mets := [], fees := [f], chgs := [] }
def chgP (p : Plan) (c : Chg) : Plan := { p with mets := [], fees := [], chgs := [c] }
theorem bare_text (p : Plan) : planL (bareP p) = headL p := by
  show headL (bareP p) ++ [].flatMap metL ++ [].flatMap feeL ++ [].flatMap chgL = headL p
  simp [headL, bareP]
theorem met_text (p : Plan) (m : Met) : planL (metP p m) = headL p ++ metL m := by
  show headL (metP p m) ++ [m].flatMap metL ++ [].flatMap feeL ++ [].flatMap chgL = _
  simp [headL, metP]
theorem fee_text (p : Plan) (m : Fee) : planL (feeP p m) = headL p ++ feeL m := by
  show headL (feeP p m) ++ [].flatMap metL ++ [m].flatMap feeL ++ [].flatMap chgL = _
  simp [headL, feeP]
theorem chg_text (p : Plan) (m : Chg) : planL (chgP p m) = headL p ++ chgL m := by
  show headL (chgP p m) ++ [].flatMap metL ++ [].flatMap feeL ++ [m].flatMap chgL = _
  simp [headL, chgP]
theorem told_bare {p : Plan} (h : Told p) : Told (bareP p) :=
  ⟨⟨fun m hm => (by cases hm), fun m hm => (by cases hm), fun m hm => (by cases hm)⟩, ⟨Nat.zero_le _, Nat.zero_le _, Nat.zero_le _, fun m hm => (by cases hm), fun m hm => (by cases hm)⟩, h.name, h.cur, fun m hm => (by cases hm), fun m hm => (by cases hm)⟩
theorem told_met {p : Plan} (h : Told p) {m : Met} (hm : m ∈ p.mets) : Told (metP p m) :=
  ⟨⟨fun x hx => (by obtain rfl := List.mem_singleton.1 hx; exact h.num.mets x hm), fun m hm => (by cases hm), fun m hm => (by cases hm)⟩, ⟨by show 1 ≤ 10000; decide, Nat.zero_le _, Nat.zero_le _, fun m hm => (by cases hm), fun m hm => (by cases hm)⟩, h.name, h.cur, fun x hx => (by obtain rfl := List.mem_singleton.1 hx; exact h.mets x hm), fun m hm => (by cases hm)⟩
theorem told_fee {p : Plan} (h : Told p) {m : Fee} (hm : m ∈ p.fees) : Told (feeP p m) :=
  ⟨⟨fun m hm => (by cases hm), fun x hx => (by obtain rfl := List.mem_singleton.1 hx; exact h.num.fees x hm), fun m hm => (by cases hm)⟩, ⟨Nat.zero_le _, by show 1 ≤ 10000; decide, Nat.zero_le _, fun m hm => (by cases hm), fun m hm => (by cases hm)⟩, h.name, h.cur, fun m hm => (by cases hm), fun m hm => (by cases hm)⟩
theorem told_chg {p : Plan} (h : Told p) {m : Chg} (hm : m ∈ p.chgs) : Told (chgP p m) :=
  ⟨⟨fun m hm => (by cases hm), fun m hm => (by cases hm), fun x hx => (by obtain rfl := List.mem_singleton.1 hx; exact h.num.chgs x hm)⟩, ⟨Nat.zero_le _, Nat.zero_le _, by show 1 ≤ 10000; decide, fun x hx => (by obtain rfl := List.mem_singleton.1 hx; exact h.small.tiers x hm), fun x hx => (by obtain rfl := List.mem_singleton.1 hx; exact h.small.adjs x hm)⟩, h.name, h.cur, fun m hm => (by cases hm), fun x hx => (by obtain rfl := List.mem_singleton.1 hx; exact h.chgs x hm)⟩
/-- a row of one element, in a block of its own -/
theorem own_one {w : World} {g : Nat} {e : TypeId} {cur : Array Value} (h : Blk w g e cur) {size : Nat} (hs : cur.size = size) {B : Nat} (hB : B ≤ g) : w.ownsRow B e size (.slice (some ⟨g, 0, none⟩) 1 1) 1 cur.toList :=
  ⟨by simp [hs], .inr ⟨g, 1, cur, rfl, hB, h, Nat.le_refl _, by unfold maxLen; decide, by simp [hs], by rw [List.take_of_length_le (by simp [hs])]⟩⟩
theorem rows_bare (w : World) (B : Nat) (p : Plan) : Rows w B (bareP p) (.slice none 0 0) (.slice none 0 0) (.slice none 0 0) [] := Rows.none w B _ rfl rfl rfl
theorem rows_met {w : World} {g : Nat} {p : Plan} {m : Met} (h : Blk w g 44 (metF m).toArray) : Rows w 0 (metP p m) (.slice (some ⟨g, 0, none⟩) 1 1) (.slice none 0 0) (.slice none 0 0) [] :=
  ⟨by have := own_one h (size := 5) rfl (Nat.zero_le g); simpa [metP] using this, World.ownsRow_nil _ _ _ _, World.ownsRow_nil _ _ _ _, rfl, fun c hc => by cases hc⟩
theorem rows_fee {w : World} {g : Nat} {p : Plan} {m : Fee} (h : Blk w g 48 (feeF m).toArray) : Rows w 0 (feeP p m) (.slice none 0 0) (.slice (some ⟨g, 0, none⟩) 1 1) (.slice none 0 0) [] :=
  ⟨World.ownsRow_nil _ _ _ _, by have := own_one h (size := 10) rfl (Nat.zero_le g); simpa [feeP] using this, World.ownsRow_nil _ _ _ _, rfl, fun c hc => by cases hc⟩
theorem rows_chg {w : World} {g : Nat} {p : Plan} {x : CT} (h : Blk w g 52 (chgF x).toArray) (hn : TiersLie 0 w x.2.1 x.1.tiers ∧ AdjsLie 0 w x.2.2 x.1.adjs) : Rows w 0 (chgP p x.1) (.slice none 0 0) (.slice none 0 0) (.slice (some ⟨g, 0, none⟩) 1 1) [x] :=
  ⟨World.ownsRow_nil _ _ _ _, World.ownsRow_nil _ _ _ _, by have := own_one h (size := 16) rfl (Nat.zero_le g); simpa using this, rfl, fun c hc => by obtain rfl := List.mem_singleton.1 hc; exact hn⟩
theorem part_bare {u : World} {p : Plan} (G : Dec.GT u) (hT : Told p) : Calls Tryd.prog 17 #[.agg #[.string p.name, .string p.cur, .int .i64 p.from_.1, .int .i64 p.from_.2.1, .int .i64 p.from_.2.2, .int .i64 p.to_.1, .int .i64 p.to_.2.1, .int .i64 p.to_.2.2, .slice none 0 0, .slice none 0 0, .slice none 0 0, .int .i64 p.line, .int .i64 p.col]] u (Says (headL p) 40000000000 u) := by
  have h := pplan_any u G (rows_bare u 0 p) (told_bare hT)
  rw [bare_text] at h
  exact h
theorem part_met {u : World} {p : Plan} {m : Met} {g : Nat} (G : Dec.GT u) (hT : Told p) (hm : m ∈ p.mets) (km : Blk u g 44 #[.string m.name, .string m.unit, .int .i64 m.max, .int .i64 m.line, .int .i64 m.col]) : Calls Tryd.prog 17 #[.agg #[.string p.name, .string p.cur, .int .i64 p.from_.1, .int .i64 p.from_.2.1, .int .i64 p.from_.2.2, .int .i64 p.to_.1, .int .i64 p.to_.2.1, .int .i64 p.to_.2.2, .slice (some ⟨g, 0, none⟩) 1 1, .slice none 0 0, .slice none 0 0, .int .i64 p.line, .int .i64 p.col]] u (Says (headL p ++ metL m) 40000000000 u) := by
  have h := pplan_any u G (rows_met (p := p) (m := m) km) (told_met hT hm)
  rw [met_text] at h
  exact h
theorem part_fee {u : World} {p : Plan} {m : Fee} {g : Nat} (G : Dec.GT u) (hT : Told p) (hm : m ∈ p.fees) (km : Blk u g 48 #[.int .i64 m.amount, .bool m.win.has, .int .i64 m.win.from_.1, .int .i64 m.win.from_.2.1, .int .i64 m.win.from_.2.2, .int .i64 m.win.to_.1, .int .i64 m.win.to_.2.1, .int .i64 m.win.to_.2.2, .int .i64 m.line, .int .i64 m.col]) : Calls Tryd.prog 17 #[.agg #[.string p.name, .string p.cur, .int .i64 p.from_.1, .int .i64 p.from_.2.1, .int .i64 p.from_.2.2, .int .i64 p.to_.1, .int .i64 p.to_.2.1, .int .i64 p.to_.2.2, .slice none 0 0, .slice (some ⟨g, 0, none⟩) 1 1, .slice none 0 0, .int .i64 p.line, .int .i64 p.col]] u (Says (headL p ++ feeL m) 40000000000 u) := by
  have h := pplan_any u G (rows_fee (p := p) (m := m) km) (told_fee hT hm)
  rw [fee_text] at h
  exact h
theorem part_chg {u : World} {p : Plan} {m : Chg} {g : Nat} {At Aa : Option Addr} {ct ca : Nat} {B : Nat} (G : Dec.GT u) (hT : Told p) (hm : m ∈ p.chgs) (km : Blk u g 52 #[.string m.meter, .bool m.win.has, .int .i64 m.win.from_.1, .int .i64 m.win.from_.2.1, .int .i64 m.win.from_.2.2, .int .i64 m.win.to_.1, .int .i64 m.win.to_.2.1, .int .i64 m.win.to_.2.2, .int .i64 m.allow, .int .i64 m.block, .int .i64 m.kind, .slice At m.tiers.length ct, .int .i64 m.mode, .slice Aa m.adjs.length ca, .int .i64 m.line, .int .i64 m.col]) (hn : TiersLie B u (.slice At m.tiers.length ct) m.tiers ∧ AdjsLie B u (.slice Aa m.adjs.length ca) m.adjs) : Calls Tryd.prog 17 #[.agg #[.string p.name, .string p.cur, .int .i64 p.from_.1, .int .i64 p.from_.2.1, .int .i64 p.from_.2.2, .int .i64 p.to_.1, .int .i64 p.to_.2.1, .int .i64 p.to_.2.2, .slice none 0 0, .slice none 0 0, .slice (some ⟨g, 0, none⟩) 1 1, .int .i64 p.line, .int .i64 p.col]] u (Says (headL p ++ chgL m) 40000000000 u) := by
  have h := pplan_any u G (rows_chg (p := p) (x := (m, .slice At m.tiers.length ct, .slice Aa m.adjs.length ca)) km ⟨own_base hn.1 (Nat.zero_le _), own_base hn.2 (Nat.zero_le _)⟩) (told_chg hT hm)
  rw [chg_text] at h
  exact h
end Go.Proofs.YtcgkfgklggjmaaaDoor.Par
end
section
namespace Go.Proofs.YtcgkfgklggjmaaaDoor.Par
set_option linter.unusedVariables false
set_option linter.unusedSimpArgs false
open Go.RowKit
/-- a walk that asks for one part -/
structure Held (m : Prop) : Prop where
  out : m
structure Rest1 (T : Prop) where
  m : Prop
  ok : Held m → T
set_option maxHeartbeats 16000000 in
set_option maxRecDepth 100000 in
noncomputable def prt1 (hRP : RParses8) (s : ByteArray) (w : World) (hG : Dec.GT w) (hs : s.size ≤ 9223372036854775807) : Rest1 (Calls Tryd.prog 5 #[.string s] w fun e w' => e = .returned (.bool true) ∧ Below w.heap.size w w') := by
  refine ⟨?PM, fun hp1 => ?PX⟩
  rotate_left 1
  · skip
    by_cases hbig : 8192 < s.size
    · go_enter Tryd.func5, Tryd.ntmps5
      go_wp2_with (go_at_call 15; refine (alive8_any hRP _ hG).mono ?_; rintro e w1 ⟨rfl, hb1⟩)
      go_ret
      exact ⟨rfl, hb1⟩
    have hz1 : (s.size : Int) ≤ 8192 := by omega
    have hal := Lib.hid (fun W hW => alive8_any hRP W hW)
    have hQ := fun W => hRP s W hs
    have hTo : (RParse s.data.toList).2.1 = 0 → Told (RParse s.data.toList).1 := fun h => told_parse h
    obtain ⟨p, er, li, co, hpq⟩ : ∃ p er li co, RParse s.data.toList = (p, er, li, co) := ⟨_, _, _, _, rfl⟩
    rw [hpq] at hQ hTo
    clear hpq
    dsimp only at hQ hTo
    replace hQ := Lib.hid hQ
    replace hTo := Lib.hid hTo
    go_enter Tryd.func5, Tryd.ntmps5
    go_wp2_with fail
    refine (hal.out _ hG).mono ?_
    rintro e w1 ⟨rfl, hb1⟩
    go_wp2_with fail
    refine (hQ.out _).mono ?_
    rintro e w2 ⟨v, rfl, hv, hb2⟩
    obtain ⟨mv, fv, cv, cs, rfl, hR1⟩ := hv
    obtain ⟨Am, cm, rfl, hm1, hm2, hm3⟩ := Lies.open (f := metF) (l := p.mets) (Lies.of hR1.mo)
    obtain ⟨Af, cf, rfl, hf1, hf2, hf3⟩ := Lies.open (f := feeF) (l := p.fees) (Lies.of hR1.fo)
    obtain ⟨Ac, cc, rfl, hc1, hc2, hc3⟩ := Lies.open (f := chgF) (l := cs) (Lies.of hR1.co)
    unfold planC
    have k1 := Blk.new w2 29 #[.string p.name, .string p.cur, .int .i64 p.from_.1, .int .i64 p.from_.2.1, .int .i64 p.from_.2.2, .int .i64 p.to_.1, .int .i64 p.to_.2.1, .int .i64 p.to_.2.2, .slice Am p.mets.length cm, .slice Af p.fees.length cf, .slice Ac cs.length cc, .int .i64 p.line, .int .i64 p.col]
    have R1 := hR1.below (bl_alloc (bl_refl w2) (.cells #[.string p.name, .string p.cur, .int .i64 p.from_.1, .int .i64 p.from_.2.1, .int .i64 p.from_.2.2, .int .i64 p.to_.1, .int .i64 p.to_.2.1, .int .i64 p.to_.2.2, .slice Am p.mets.length cm, .slice Af p.fees.length cf, .slice Ac cs.length cc, .int .i64 p.line, .int .i64 p.col] 29))
    have b1 := bl_alloc (bl_call hb1 hb2) (.cells #[.string p.name, .string p.cur, .int .i64 p.from_.1, .int .i64 p.from_.2.1, .int .i64 p.from_.2.2, .int .i64 p.to_.1, .int .i64 p.to_.2.1, .int .i64 p.to_.2.2, .slice Am p.mets.length cm, .slice Af p.fees.length cf, .slice Ac cs.length cc, .int .i64 p.line, .int .i64 p.col] 29)
    have G1 := (hG.below hb1).below (bl_alloc hb2 (.cells #[.string p.name, .string p.cur, .int .i64 p.from_.1, .int .i64 p.from_.2.1, .int .i64 p.from_.2.2, .int .i64 p.to_.1, .int .i64 p.to_.2.1, .int .i64 p.to_.2.2, .slice Am p.mets.length cm, .slice Af p.fees.length cf, .slice Ac cs.length cc, .int .i64 p.line, .int .i64 p.col] 29))
    clear hR1 hal hQ hb1 hb2
    by_cases her : er = 0
    · subst her
      have hT := hTo.out rfl
      clear hTo
      obtain ⟨a0, a1, a2, a3, a4, a5, a6, a7, a8, a9, a10, a11, a12, -, -, -, -, -, -, -, -, -, -, -, -, -⟩ := k1.c13
      go_upto_region 6 with fail
      generalize w2.alloc (.cells #[.string p.name, .string p.cur, .int .i64 p.from_.1, .int .i64 p.from_.2.1, .int .i64 p.from_.2.2, .int .i64 p.to_.1, .int .i64 p.to_.2.1, .int .i64 p.to_.2.2, .slice Am p.mets.length cm, .slice Af p.fees.length cf, .slice Ac cs.length cc, .int .i64 p.line, .int .i64 p.col] 29) = u2 at *
      generalize w2.heap.size = n2 at *
      have kb := Blk.new u2 29 #[.string p.name, .string p.cur, .int .i64 p.from_.1, .int .i64 p.from_.2.1, .int .i64 p.from_.2.2, .int .i64 p.to_.1, .int .i64 p.to_.2.1, .int .i64 p.to_.2.2, .slice none 0 0, .slice none 0 0, .slice none 0 0, .int .i64 p.line, .int .i64 p.col]
      have k2 := k1.alloc (.cells #[.string p.name, .string p.cur, .int .i64 p.from_.1, .int .i64 p.from_.2.1, .int .i64 p.from_.2.2, .int .i64 p.to_.1, .int .i64 p.to_.2.1, .int .i64 p.to_.2.2, .slice none 0 0, .slice none 0 0, .slice none 0 0, .int .i64 p.line, .int .i64 p.col] 29)
      have b2 := bl_alloc b1 (.cells #[.string p.name, .string p.cur, .int .i64 p.from_.1, .int .i64 p.from_.2.1, .int .i64 p.from_.2.2, .int .i64 p.to_.1, .int .i64 p.to_.2.1, .int .i64 p.to_.2.2, .slice none 0 0, .slice none 0 0, .slice none 0 0, .int .i64 p.line, .int .i64 p.col] 29)
      have R2 := R1.below (bl_alloc (bl_refl u2) (.cells #[.string p.name, .string p.cur, .int .i64 p.from_.1, .int .i64 p.from_.2.1, .int .i64 p.from_.2.2, .int .i64 p.to_.1, .int .i64 p.to_.2.1, .int .i64 p.to_.2.2, .slice none 0 0, .slice none 0 0, .slice none 0 0, .int .i64 p.line, .int .i64 p.col] 29))
      have G2 := G1.below (bl_alloc (bl_refl u2) (.cells #[.string p.name, .string p.cur, .int .i64 p.from_.1, .int .i64 p.from_.2.1, .int .i64 p.from_.2.2, .int .i64 p.to_.1, .int .i64 p.to_.2.1, .int .i64 p.to_.2.2, .slice none 0 0, .slice none 0 0, .slice none 0 0, .int .i64 p.line, .int .i64 p.col] 29))
      have rB := part_bare G2 hT
      replace rB := Lib.hid rB
      go_upto_region 12 with fail
      generalize hu3 : u2.alloc (.cells #[.string p.name, .string p.cur, .int .i64 p.from_.1, .int .i64 p.from_.2.1, .int .i64 p.from_.2.2, .int .i64 p.to_.1, .int .i64 p.to_.2.1, .int .i64 p.to_.2.2, .slice none 0 0, .slice none 0 0, .slice none 0 0, .int .i64 p.line, .int .i64 p.col] 29) = u3 at *
      generalize u2.heap.size = nb at *
      clear a0 a1 a2 a3 a4 a5 a6 a7 a8 a9 a10 a11 a12
      obtain ⟨z0, z1, z2, z3, z4, z5, z6, z7, z8, z9, z10, z11, z12, -, -, -, -, -, -, -, -, -, -, -, -, -⟩ := kb.c13
      go_wp2_with fail
      refine rB.out.mono ?_
      rintro e w3 ⟨s0, rfl, hs0, hz0, hb3⟩
      have kb3 := kb.call hb3
      have k3 := k2.call hb3
      have b3 := bl_call b2 hb3
      have R3 := R2.below hb3
      have G3 := G2.below hb3
      have hH := headL_len hT.name hT.cur
      have hs0z : s0.size ≤ 20000 := by have h := ba_len s0; rw [hs0] at h; omega
      clear rB kb k2 b2 R2 G2 k1 R1 b1 G1 z0 z1 z2 z3 z4 z5 z6 z7 z8 z9 z10 z11 z12
      obtain ⟨a0, a1, a2, a3, a4, a5, a6, a7, a8, a9, a10, a11, a12, -, -, -, -, -, -, -, -, -, -, -, -, -⟩ := k3.c13
      replace hs0 := Lib.hid hs0
      go_wp2_with fail
      clear a0 a1 a2 a3 a4 a5 a6 a7 a8 a9 a10 a11 a12
      go_loopw [9, 43] (fun v9 v43 wr => ∃ (k : Nat) (T : ByteArray), k ≤ p.mets.length ∧ v43 = .int .i64 k ∧ v9 = .string T ∧ Hid (T.data.toList = headL p ++ (p.mets.take k).flatMap metL) ∧ T.size ≤ 20000 + k * 20000 ∧ Below w.heap.size w wr ∧ Below w3.heap.size w3 wr) (fun _ v43 _ => p.mets.length - (intOf v43).toNat)
      case atStart => exact ⟨0, s0, by omega, rfl, rfl, Lib.hid (by rw [hs0.out]; simp), by omega, b3, bl_refl w3⟩
      case round =>
        skip
        obtain ⟨k, T, hk, rfl, rfl, hTx, hTz, hbw, hb3r⟩ := hrel
        have hml : p.mets.length ≤ 10000 := hT.small.mets
        have kbr := kb3.call hb3r
        have kpr := k3.call hb3r
        have Rr := R3.below hb3r
        have Gr := G3.below hb3r
        have lb := kbr.lt
        have lp := kpr.lt
        by_cases hlt : k < p.mets.length
        · obtain ⟨g0, rfl, hg0⟩ := hm3 (by omega)
          obtain ⟨m, hm⟩ : ∃ m, p.mets[k]? = some m := ⟨p.mets[k], List.getElem?_eq_getElem hlt⟩
          have r0 : (wr).cell? ⟨g0, k * 5, none⟩ = some (.string m.name) := Lies.at (f := metF) (l := p.mets) (Lies.of Rr.mo) (fun _ => rfl) (i := k) hm (j := 0) rfl
          have r1 : (wr).cell? ⟨g0, k * 5 + 1, none⟩ = some (.string m.unit) := Lies.at (f := metF) (l := p.mets) (Lies.of Rr.mo) (fun _ => rfl) (i := k) hm (j := 1) rfl
          have r2 : (wr).cell? ⟨g0, k * 5 + 2, none⟩ = some (.int .i64 m.max) := Lies.at (f := metF) (l := p.mets) (Lies.of Rr.mo) (fun _ => rfl) (i := k) hm (j := 2) rfl
          have r3 : (wr).cell? ⟨g0, k * 5 + 3, none⟩ = some (.int .i64 m.line) := Lies.at (f := metF) (l := p.mets) (Lies.of Rr.mo) (fun _ => rfl) (i := k) hm (j := 3) rfl
          have r4 : (wr).cell? ⟨g0, k * 5 + 4, none⟩ = some (.int .i64 m.col) := Lies.at (f := metF) (l := p.mets) (Lies.of Rr.mo) (fun _ => rfl) (i := k) hm (j := 4) rfl
          have gg0 : (0 : Int) ≤ (k : Int) := by omega
          have gg1 : (k : Int) < (p.mets.length : Int) := by omega
          have gg2 : (k : Int) < (cm : Int) := by have := hm1; omega
          have hln := metL_len (hT.num.mets m (List.mem_of_getElem? hm)) (hT.mets m (List.mem_of_getElem? hm))
          obtain ⟨z0, z1, z2, z3, z4, z5, z6, z7, z8, z9, z10, z11, z12, -, -, -, -, -, -, -, -, -, -, -, -, -⟩ := kbr.c13
          have km := Blk.new ((wr.alloc (.cells #[.string m.name, .string m.unit, .int .i64 m.max, .int .i64 m.line, .int .i64 m.col] 44)).alloc (.cells #[.string p.name, .string p.cur, .int .i64 p.from_.1, .int .i64 p.from_.2.1, .int .i64 p.from_.2.2, .int .i64 p.to_.1, .int .i64 p.to_.2.1, .int .i64 p.to_.2.2, .slice (some ⟨wr.heap.size + 1 + 1, 0, none⟩) 1 1, .slice none 0 0, .slice none 0 0, .int .i64 p.line, .int .i64 p.col] 29)) 44 #[.string m.name, .string m.unit, .int .i64 m.max, .int .i64 m.line, .int .i64 m.col]
          rw [World.size_alloc, World.size_alloc] at km
          have kq := (Dec.Blk.new2 wr (.cells #[.string m.name, .string m.unit, .int .i64 m.max, .int .i64 m.line, .int .i64 m.col] 44) 29 #[.string p.name, .string p.cur, .int .i64 p.from_.1, .int .i64 p.from_.2.1, .int .i64 p.from_.2.2, .int .i64 p.to_.1, .int .i64 p.to_.2.1, .int .i64 p.to_.2.2, .slice (some ⟨wr.heap.size + 1 + 1, 0, none⟩) 1 1, .slice none 0 0, .slice none 0 0, .int .i64 p.line, .int .i64 p.col]).alloc (.cells #[.string m.name, .string m.unit, .int .i64 m.max, .int .i64 m.line, .int .i64 m.col] 44)
          have l4 := bl_alloc (bl_alloc (bl_alloc (bl_refl wr) (.cells #[.string m.name, .string m.unit, .int .i64 m.max, .int .i64 m.line, .int .i64 m.col] 44)) (.cells #[.string p.name, .string p.cur, .int .i64 p.from_.1, .int .i64 p.from_.2.1, .int .i64 p.from_.2.2, .int .i64 p.to_.1, .int .i64 p.to_.2.1, .int .i64 p.to_.2.2, .slice (some ⟨wr.heap.size + 1 + 1, 0, none⟩) 1 1, .slice none 0 0, .slice none 0 0, .int .i64 p.line, .int .i64 p.col] 29)) (.cells #[.string m.name, .string m.unit, .int .i64 m.max, .int .i64 m.line, .int .i64 m.col] 44)
          have G4 := Gr.below l4
          have rP := part_met G4 hT (List.mem_of_getElem? hm) km
          replace rP := Lib.hid rP
          have hfl := flat_next metL hm
          replace hfl := Lib.hid hfl
          go_upto_region 19 with fail
          generalize ((wr.alloc (.cells #[.string m.name, .string m.unit, .int .i64 m.max, .int .i64 m.line, .int .i64 m.col] 44)).alloc (.cells #[.string p.name, .string p.cur, .int .i64 p.from_.1, .int .i64 p.from_.2.1, .int .i64 p.from_.2.2, .int .i64 p.to_.1, .int .i64 p.to_.2.1, .int .i64 p.to_.2.2, .slice (some ⟨wr.heap.size + 1 + 1, 0, none⟩) 1 1, .slice none 0 0, .slice none 0 0, .int .i64 p.line, .int .i64 p.col] 29)).alloc (.cells #[.string m.name, .string m.unit, .int .i64 m.max, .int .i64 m.line, .int .i64 m.col] 44) = u4 at *
          clear z0 z1 z2 z3 z4 z5 z6 z7 z8 z9 z10 z11 z12
          obtain ⟨z0, z1, z2, z3, z4, z5, z6, z7, z8, z9, z10, z11, z12, -, -, -, -, -, -, -, -, -, -, -, -, -⟩ := kq.c13
          go_wp2_with fail
          refine rP.out.mono ?_
          rintro e' w5 ⟨s4, rfl, hs4, hz4, hb5⟩
          have hbw5 := bl_call hbw (bl_call l4 hb5)
          have hb35 := bl_call hb3r (bl_call l4 hb5)
          have hz5 : s4.size = s0.size + (metL m).length := by
            rw [← ba_len s4, ← ba_len s0, hs4, hs0.out, List.length_append]
          have hle : s0.size ≤ s4.size := by omega
          have hpc : (s4.extract s0.size s4.size).data.toList = metL m := by
            rw [ext_drop, hs4, ← hs0.out, ← ba_len s0, List.drop_left]
          have hps : (s4.extract s0.size s4.size).size = (metL m).length := by rw [← ba_len, hpc]
          have hTn : Hid ((T ++ s4.extract s0.size s4.size).data.toList = headL p ++ (p.mets.take (k + 1)).flatMap metL) := Lib.hid (by
            rw [hfl.out, ← List.append_assoc, ← hTx.out, ← hpc]; simp)
          have hTs : (T ++ s4.extract s0.size s4.size).size ≤ 20000 + (k + 1) * 20000 := by rw [ByteArray.size_append, hps]; omega
          have ht1 : ¬ (9223372036854775807 < T.size + (s4.extract s0.size s4.size).size) := by rw [hps]; omega
          have ht2 : T.size + (s4.extract s0.size s4.size).size ≤ 9223372036854775807 := by rw [hps]; omega
          replace hps := Lib.hid hps
          replace hpc := Lib.hid hpc
          replace hz5 := Lib.hid hz5
          clear hs4 rP hfl hm
          go_wp2_with fail
          go_roundw
          case rel => exact ⟨k + 1, T ++ s4.extract s0.size s4.size, by omega, by go_num, rfl, hTn, hTs, hbw5, hb35⟩
          case measure => simp [intOf]; omega
        · obtain rfl : k = p.mets.length := by omega
          have hTq : Hid (T.data.toList = headL p ++ p.mets.flatMap metL) := Lib.hid (by have h := hTx.out; rwa [List.take_length] at h)
          obtain ⟨a0, a1, a2, a3, a4, a5, a6, a7, a8, a9, a10, a11, a12, -, -, -, -, -, -, -, -, -, -, -, -, -⟩ := kpr.c13
          go_wp2_with fail
          clear a0 a1 a2 a3 a4 a5 a6 a7 a8 a9 a10 a11 a12
          rename_i Q1 hz9 K1 Q2 K2 A2 K3 A3; revert hbig hz1 p li co Q1 w1 hz9 w2 cs Am cm hm1 hm2 Af cf hf1 hf2 Ac cc hc1 hc2 hT u2 n2 hm3 hf3 hc3 u3 hu3 nb w3 s0 hz0 hb3 kb3 k3 b3 R3 G3 hH hs0z hs0 K1 wr u11 u12 u44 u45 u46 u47 u48 u49 u50 u51 u52 u53 u54 u55 u56 u57 u58 T hbw hb3r hml kbr kpr Rr Gr lb lp hk hTx hTz hlt hTq Q2 K2 A2 K3 A3; exact hp1.out
    · have hq : (er != 0) = true := bne_iff_ne.mpr her
      go_wp2_with fail
      go_ret
      exact ⟨rfl, b1⟩
end Go.Proofs.YtcgkfgklggjmaaaDoor.Par
end
section
namespace Go.Proofs.YtcgkfgklggjmaaaDoor.Par
set_option linter.unusedVariables false
set_option linter.unusedSimpArgs false
open Go.RowKit
set_option maxHeartbeats 16000000 in
set_option maxRecDepth 100000 in
noncomputable def prt2 (hRP : RParses8) (s : ByteArray) (w : World) (hG : Dec.GT w) (hs : s.size ≤ 9223372036854775807) : Rest1 ((prt1 hRP s w hG hs).m) := by
  refine ⟨?PM, fun hp2 => ?PX⟩
  rotate_left 1
  · unfold prt1
    intro hbig hz1 p li co Q1 w1 hz9 w2 cs Am cm hm1 hm2 Af cf hf1 hf2 Ac cc hc1 hc2 hT u2 n2 hm3 hf3 hc3 u3 hu3 nb w3 s0 hz0 hb3 kb3 k3 b3 R3 G3 hH hs0z hs0 K1 wr U11 U12 U44 U45 U46 U47 U48 U49 U50 U51 U52 U53 U54 U55 U56 U57 U58 T hbw hb3r hml kbr kpr Rr Gr lb lp hk hTx hTz hlt hTq Q2 K2 A2 K3 A3
    go_loopw [9, 62] (fun v9 v43 wr => ∃ (k : Nat) (T : ByteArray), k ≤ p.fees.length ∧ v43 = .int .i64 k ∧ v9 = .string T ∧ Hid (T.data.toList = headL p ++ p.mets.flatMap metL ++ (p.fees.take k).flatMap feeL) ∧ T.size ≤ 200020000 + k * 100 ∧ Below w.heap.size w wr ∧ Below w3.heap.size w3 wr) (fun _ v43 _ => p.fees.length - (intOf v43).toNat)
    case atStart => exact ⟨0, T, by omega, rfl, rfl, Lib.hid (by rw [hTq.out]; simp), by omega, hbw, hb3r⟩
    case round =>
      clear kbr kpr Rr Gr lb lp hbw hb3r hTx hTq hTz hml hlt hk
      obtain ⟨k, T, hk, rfl, rfl, hTx, hTz, hbw, hb3r⟩ := hrel
      have hml : p.fees.length ≤ 10000 := hT.small.fees
      have kbr := kb3.call hb3r
      have kpr := k3.call hb3r
      have Rr := R3.below hb3r
      have Gr := G3.below hb3r
      have lb := kbr.lt
      have lp := kpr.lt
      by_cases hlt : k < p.fees.length
      · obtain ⟨g0, rfl, hg0⟩ := hf3 (by omega)
        obtain ⟨m, hm⟩ : ∃ m, p.fees[k]? = some m := ⟨p.fees[k], List.getElem?_eq_getElem hlt⟩
        have r0 : (wr).cell? ⟨g0, k * 10, none⟩ = some (.int .i64 m.amount) := Lies.at (f := feeF) (l := p.fees) (Lies.of Rr.fo) (fun _ => rfl) (i := k) hm (j := 0) rfl
        have r1 : (wr).cell? ⟨g0, k * 10 + 1, none⟩ = some (.bool m.win.has) := Lies.at (f := feeF) (l := p.fees) (Lies.of Rr.fo) (fun _ => rfl) (i := k) hm (j := 1) rfl
        have r2 : (wr).cell? ⟨g0, k * 10 + 2, none⟩ = some (.int .i64 m.win.from_.1) := Lies.at (f := feeF) (l := p.fees) (Lies.of Rr.fo) (fun _ => rfl) (i := k) hm (j := 2) rfl
        have r3 : (wr).cell? ⟨g0, k * 10 + 3, none⟩ = some (.int .i64 m.win.from_.2.1) := Lies.at (f := feeF) (l := p.fees) (Lies.of Rr.fo) (fun _ => rfl) (i := k) hm (j := 3) rfl
        have r4 : (wr).cell? ⟨g0, k * 10 + 4, none⟩ = some (.int .i64 m.win.from_.2.2) := Lies.at (f := feeF) (l := p.fees) (Lies.of Rr.fo) (fun _ => rfl) (i := k) hm (j := 4) rfl
        have r5 : (wr).cell? ⟨g0, k * 10 + 5, none⟩ = some (.int .i64 m.win.to_.1) := Lies.at (f := feeF) (l := p.fees) (Lies.of Rr.fo) (fun _ => rfl) (i := k) hm (j := 5) rfl
        have r6 : (wr).cell? ⟨g0, k * 10 + 6, none⟩ = some (.int .i64 m.win.to_.2.1) := Lies.at (f := feeF) (l := p.fees) (Lies.of Rr.fo) (fun _ => rfl) (i := k) hm (j := 6) rfl
        have r7 : (wr).cell? ⟨g0, k * 10 + 7, none⟩ = some (.int .i64 m.win.to_.2.2) := Lies.at (f := feeF) (l := p.fees) (Lies.of Rr.fo) (fun _ => rfl) (i := k) hm (j := 7) rfl
        have r8 : (wr).cell? ⟨g0, k * 10 + 8, none⟩ = some (.int .i64 m.line) := Lies.at (f := feeF) (l := p.fees) (Lies.of Rr.fo) (fun _ => rfl) (i := k) hm (j := 8) rfl
        have r9 : (wr).cell? ⟨g0, k * 10 + 9, none⟩ = some (.int .i64 m.col) := Lies.at (f := feeF) (l := p.fees) (Lies.of Rr.fo) (fun _ => rfl) (i := k) hm (j := 9) rfl
        have gg0 : (0 : Int) ≤ (k : Int) := by omega
        have gg1 : (k : Int) < (p.fees.length : Int) := by omega
        have gg2 : (k : Int) < (cf : Int) := by have := hf1; omega
        have hln := feeL_len (hT.num.fees m (List.mem_of_getElem? hm))
        obtain ⟨z0, z1, z2, z3, z4, z5, z6, z7, z8, z9, z10, z11, z12, -, -, -, -, -, -, -, -, -, -, -, -, -⟩ := kbr.c13
        have km := Blk.new ((wr.alloc (.cells #[.int .i64 m.amount, .bool m.win.has, .int .i64 m.win.from_.1, .int .i64 m.win.from_.2.1, .int .i64 m.win.from_.2.2, .int .i64 m.win.to_.1, .int .i64 m.win.to_.2.1, .int .i64 m.win.to_.2.2, .int .i64 m.line, .int .i64 m.col] 48)).alloc (.cells #[.string p.name, .string p.cur, .int .i64 p.from_.1, .int .i64 p.from_.2.1, .int .i64 p.from_.2.2, .int .i64 p.to_.1, .int .i64 p.to_.2.1, .int .i64 p.to_.2.2, .slice none 0 0, .slice (some ⟨wr.heap.size + 1 + 1, 0, none⟩) 1 1, .slice none 0 0, .int .i64 p.line, .int .i64 p.col] 29)) 48 #[.int .i64 m.amount, .bool m.win.has, .int .i64 m.win.from_.1, .int .i64 m.win.from_.2.1, .int .i64 m.win.from_.2.2, .int .i64 m.win.to_.1, .int .i64 m.win.to_.2.1, .int .i64 m.win.to_.2.2, .int .i64 m.line, .int .i64 m.col]
        rw [World.size_alloc, World.size_alloc] at km
        have kq := (Dec.Blk.new2 wr (.cells #[.int .i64 m.amount, .bool m.win.has, .int .i64 m.win.from_.1, .int .i64 m.win.from_.2.1, .int .i64 m.win.from_.2.2, .int .i64 m.win.to_.1, .int .i64 m.win.to_.2.1, .int .i64 m.win.to_.2.2, .int .i64 m.line, .int .i64 m.col] 48) 29 #[.string p.name, .string p.cur, .int .i64 p.from_.1, .int .i64 p.from_.2.1, .int .i64 p.from_.2.2, .int .i64 p.to_.1, .int .i64 p.to_.2.1, .int .i64 p.to_.2.2, .slice none 0 0, .slice (some ⟨wr.heap.size + 1 + 1, 0, none⟩) 1 1, .slice none 0 0, .int .i64 p.line, .int .i64 p.col]).alloc (.cells #[.int .i64 m.amount, .bool m.win.has, .int .i64 m.win.from_.1, .int .i64 m.win.from_.2.1, .int .i64 m.win.from_.2.2, .int .i64 m.win.to_.1, .int .i64 m.win.to_.2.1, .int .i64 m.win.to_.2.2, .int .i64 m.line, .int .i64 m.col] 48)
        have l4 := bl_alloc (bl_alloc (bl_alloc (bl_refl wr) (.cells #[.int .i64 m.amount, .bool m.win.has, .int .i64 m.win.from_.1, .int .i64 m.win.from_.2.1, .int .i64 m.win.from_.2.2, .int .i64 m.win.to_.1, .int .i64 m.win.to_.2.1, .int .i64 m.win.to_.2.2, .int .i64 m.line, .int .i64 m.col] 48)) (.cells #[.string p.name, .string p.cur, .int .i64 p.from_.1, .int .i64 p.from_.2.1, .int .i64 p.from_.2.2, .int .i64 p.to_.1, .int .i64 p.to_.2.1, .int .i64 p.to_.2.2, .slice none 0 0, .slice (some ⟨wr.heap.size + 1 + 1, 0, none⟩) 1 1, .slice none 0 0, .int .i64 p.line, .int .i64 p.col] 29)) (.cells #[.int .i64 m.amount, .bool m.win.has, .int .i64 m.win.from_.1, .int .i64 m.win.from_.2.1, .int .i64 m.win.from_.2.2, .int .i64 m.win.to_.1, .int .i64 m.win.to_.2.1, .int .i64 m.win.to_.2.2, .int .i64 m.line, .int .i64 m.col] 48)
        have G4 := Gr.below l4
        have rP := part_fee G4 hT (List.mem_of_getElem? hm) km
        replace rP := Lib.hid rP
        have hfl := flat_next feeL hm
        replace hfl := Lib.hid hfl
        go_upto_region 26 with fail
        generalize ((wr.alloc (.cells #[.int .i64 m.amount, .bool m.win.has, .int .i64 m.win.from_.1, .int .i64 m.win.from_.2.1, .int .i64 m.win.from_.2.2, .int .i64 m.win.to_.1, .int .i64 m.win.to_.2.1, .int .i64 m.win.to_.2.2, .int .i64 m.line, .int .i64 m.col] 48)).alloc (.cells #[.string p.name, .string p.cur, .int .i64 p.from_.1, .int .i64 p.from_.2.1, .int .i64 p.from_.2.2, .int .i64 p.to_.1, .int .i64 p.to_.2.1, .int .i64 p.to_.2.2, .slice none 0 0, .slice (some ⟨wr.heap.size + 1 + 1, 0, none⟩) 1 1, .slice none 0 0, .int .i64 p.line, .int .i64 p.col] 29)).alloc (.cells #[.int .i64 m.amount, .bool m.win.has, .int .i64 m.win.from_.1, .int .i64 m.win.from_.2.1, .int .i64 m.win.from_.2.2, .int .i64 m.win.to_.1, .int .i64 m.win.to_.2.1, .int .i64 m.win.to_.2.2, .int .i64 m.line, .int .i64 m.col] 48) = u4 at *
        clear z0 z1 z2 z3 z4 z5 z6 z7 z8 z9 z10 z11 z12
        obtain ⟨z0, z1, z2, z3, z4, z5, z6, z7, z8, z9, z10, z11, z12, -, -, -, -, -, -, -, -, -, -, -, -, -⟩ := kq.c13
        go_wp2_with fail
        refine rP.out.mono ?_
        rintro e' w5 ⟨s4, rfl, hs4, hz4, hb5⟩
        have hbw5 := bl_call hbw (bl_call l4 hb5)
        have hb35 := bl_call hb3r (bl_call l4 hb5)
        have hz5 : s4.size = s0.size + (feeL m).length := by
          rw [← ba_len s4, ← ba_len s0, hs4, hs0.out, List.length_append]
        have hle : s0.size ≤ s4.size := by omega
        have hpc : (s4.extract s0.size s4.size).data.toList = feeL m := by
          rw [ext_drop, hs4, ← hs0.out, ← ba_len s0, List.drop_left]
        have hps : (s4.extract s0.size s4.size).size = (feeL m).length := by rw [← ba_len, hpc]
        have hTn : Hid ((T ++ s4.extract s0.size s4.size).data.toList = headL p ++ p.mets.flatMap metL ++ (p.fees.take (k + 1)).flatMap feeL) := Lib.hid (by
          rw [hfl.out, ← List.append_assoc, ← hTx.out, ← hpc]; simp)
        have hTs : (T ++ s4.extract s0.size s4.size).size ≤ 200020000 + (k + 1) * 100 := by rw [ByteArray.size_append, hps]; omega
        have ht1 : ¬ (9223372036854775807 < T.size + (s4.extract s0.size s4.size).size) := by rw [hps]; omega
        have ht2 : T.size + (s4.extract s0.size s4.size).size ≤ 9223372036854775807 := by rw [hps]; omega
        replace hps := Lib.hid hps
        replace hpc := Lib.hid hpc
        replace hz5 := Lib.hid hz5
        clear hs4 rP hfl hm
        go_wp2_with fail
        go_roundw
        case rel => exact ⟨k + 1, T ++ s4.extract s0.size s4.size, by omega, by go_num, rfl, hTn, hTs, hbw5, hb35⟩
        case measure => simp [intOf]; omega
      · obtain rfl : k = p.fees.length := by omega
        have hTq : Hid (T.data.toList = headL p ++ p.mets.flatMap metL ++ p.fees.flatMap feeL) := Lib.hid (by have h := hTx.out; rwa [List.take_length] at h)
        have hcl : cs.length ≤ 10000 := by have h := congrArg List.length R3.eq; rw [List.length_map] at h; have := hT.small.chgs; omega
        obtain ⟨a0, a1, a2, a3, a4, a5, a6, a7, a8, a9, a10, a11, a12, -, -, -, -, -, -, -, -, -, -, -, -, -⟩ := kpr.c13
        go_wp2_with fail
        clear a0 a1 a2 a3 a4 a5 a6 a7 a8 a9 a10 a11 a12
        rename_i wrO TO Q4 K4 A4 K5 A5; revert hbig hz1 p li co Q1 w1 hz9 w2 cs Am cm hm1 hm2 Af cf hf1 hf2 Ac cc hc1 hc2 hT u2 n2 hm3 hf3 hc3 u3 hu3 nb w3 s0 hz0 hb3 kb3 k3 b3 R3 G3 hH hs0z hs0 K1 wrO U11 U12 U44 U45 U46 U47 U48 U49 U50 U51 U52 U53 U54 U55 U56 U57 U58 TO Q2 K2 A2 K3 wr u14 u15 u63 u64 u65 u66 u67 u68 u69 u70 u71 u72 u73 u74 u75 u76 u77 T hbw hb3r hml kbr kpr Rr Gr lb lp hk hTx hTz hlt hTq hcl Q4 K4 A4 K5 A5; exact hp2.out
end Go.Proofs.YtcgkfgklggjmaaaDoor.Par
end
