import Derived.Test.YtaccanfjplgfnaaDoorDateG
import Derived.Test.YtaccanfjplgfnaaDoorDateH
import Derived.Test.YtaccanfjplgfnaaDoorShelf
import Derived.Lib.SmallJoins
namespace Go.Proofs.YtaccanfjplgfnaaDoor
set_option linter.unusedVariables false
set_option linter.unusedSimpArgs false
open Go.RowKit
def GT (w : World) : Prop := Lib.TabIs Tryd.prog w "internal/strconv.uint64pow10" .u64 Lib.pow10Tab
theorem gT : Tryd.prog.globalNamed "internal/strconv.uint64pow10" = some 0 := by kernel_rfl
theorem GT.below {w v : World} (h : GT w) (hb : Below w.heap.size w v) : GT v := Go.Joins.tab_stays gT h hb (Nat.le_refl _)
theorem bl_growN {w v : World} (h : Below w.heap.size w v) (k : Nat) (os : Array Obj) : Below w.heap.size w (Go.Sort.grow (v.drewN k) os) :=
  bl_call h ⟨rfl, rfl, rfl, by simp [Go.Sort.grow], fun i hi => by
    show ((v.drewN k).heap ++ os)[i]? = _
    rw [Array.getElem?_append_left (by show i < v.heap.size; omega)]
    rfl⟩
structure LB (w w' : World) : Prop where
  out : Below w.heap.size w w'
theorem LB.drew {w v : World} (h : LB w v) : LB w v.drew := ⟨bl_drew h.out⟩
theorem LB.call {w v w' : World} (h : LB w v) (hb : Below v.heap.size v w') : LB w w' := ⟨bl_call h.out hb⟩
theorem LB.start (w : World) : LB w w := ⟨bl_refl w⟩
theorem LB.alloc {w v : World} (h : LB w v) (o : Obj) : LB w (v.alloc o) := ⟨bl_alloc h.out o⟩
theorem cell_keep {v w' : World} {p : Addr} {x : Value} (h : v.cell? p = some x) (hb : Below v.heap.size v w') : w'.cell? p = some x := (hb.cell (World.block_lt_of_cell? v _ h)).trans h
theorem lt_ten {n k : Nat} (hn : n < 10 ^ k) (hk : k ≤ 4) : n < 10000 := Nat.lt_of_lt_of_le hn (Nat.pow_le_pow_right (by omega) hk)
theorem repeat_char (c : Nat) : Lib.repeatL (ByteArray.mk #[48]).data.toList c = List.replicate c 48 := by
  have := Lib.repeatL_replicate 48 1 c
  rw [Nat.mul_one] at this
  exact this
theorem pad_cat (a b : List UInt8) : (ByteArray.mk a.toArray) ++ ⟨b.toArray⟩ = ⟨(a ++ b).toArray⟩ := by
  apply ByteArray.ext; simp
set_option maxHeartbeats 2000000 in
set_option maxRecDepth 100000 in
theorem pad_any (n k : Nat) (w : World) (hT : GT w) (hn : n < 10 ^ k) (hk : 1 ≤ k) (hk4 : k ≤ 4) :
    Calls Tryd.prog 24 #[.int .i64 n, .int .i64 k] w fun e w' => e = .returned (.string ⟨(digL n k).toArray⟩) ∧ Below w.heap.size w w' := by
  obtain ⟨p1, p2⟩ := pad_eq k n hn hk
  have hb := lt_ten hn hk4
  rw [← p2]
  clear p2 hn
  obtain ⟨ds, hds⟩ : ∃ ds, Lib.decDigits n = ds := ⟨_, rfl⟩
  rw [hds] at p1 ⊢
  have HDS := Lib.hid hds
  clear hds
  go_enter Tryd.func24, Tryd.ntmps24
  go_wp2_with fail
  refine (Tryd.strconv_Itoa n (by omega) (by omega) w hT).mono ?_
  rintro e w1 ⟨rfl, q, os, rfl⟩
  rw [Lib.itoa_nonneg, HDS.out]
  have hb1 := bl_growN (bl_refl w) q os
  have hsz : (ByteArray.mk ds.toArray).size = ds.length := by simp [ByteArray.size]
  generalize Go.Sort.grow (w.drewN q) os = w1 at *
  have hc : (k : Int) - (ds.length : Int) = ((k - ds.length : Nat) : Int) := by omega
  have hmx : max ((k - ds.length : Nat) : Int) 0 = ((k - ds.length : Nat) : Int) := by omega
  go_wp2_with fail
  refine (Tryd.strings_Repeat _ (k - ds.length) _ (by omega) ?_).mono ?_
  · show 1 * (k - ds.length) ≤ _; omega
  rintro e w2 ⟨rfl, hb2⟩
  have hbb := bl_call hb1 hb2
  rw [repeat_char]
  go_wp2_with fail
  go_ret
  refine ⟨?_, hbb⟩
  show Ending.returned (.string ⟨((Array.replicate (k - ds.length) 48).toList ++ ds).toArray⟩) = _
  rw [Array.toList_replicate]
structure PadOk (n k : Int) : Prop where
  h0 : 0 ≤ n
  hn : n.toNat < 10 ^ k.toNat
  hk : 1 ≤ k
  hk4 : k ≤ 4
theorem pad4 {n : Int} (h0 : 0 ≤ n) (h1 : n ≤ 9999) : PadOk n 4 := ⟨h0, by show n.toNat < 10 ^ 4; omega, by omega, by omega⟩
theorem pad2 {n : Int} (h0 : 0 ≤ n) (h1 : n ≤ 99) : PadOk n 2 := ⟨h0, by show n.toNat < 10 ^ 2; omega, by omega, by omega⟩
theorem pad_int (n k : Int) (w : World) (hT : GT w) (h : PadOk n k) :
    Calls Tryd.prog 24 #[.int .i64 n, .int .i64 k] w fun e w' => e = .returned (.string ⟨(digL n.toNat k.toNat).toArray⟩) ∧ Below w.heap.size w w' := by
  have h1 := h.hk
  have h2 := h.hk4
  have hp := pad_any n.toNat k.toNat w hT h.hn (by omega) (by omega)
  rwa [Int.toNat_of_nonneg h.h0, Int.toNat_of_nonneg (by omega)] at hp
theorem text_cat (a b c : List UInt8) : (ByteArray.mk a.toArray) ++ ⟨#[45]⟩ ++ ⟨b.toArray⟩ ++ ⟨#[45]⟩ ++ ⟨c.toArray⟩ = ⟨(a ++ 45 :: (b ++ 45 :: c)).toArray⟩ := by
  apply ByteArray.ext; simp
set_option maxHeartbeats 400000 in
set_option maxRecDepth 100000 in
theorem text_yes (y m d : Int) (w : World) (hT : GT w) (hg : goodB y m d = true) :
    Calls Tryd.prog 16 #[.agg #[.int .i64 y, .int .i64 m, .int .i64 d]] w fun e w' => e = .returned (.string ⟨(dayL y m d).toArray⟩) ∧ Below w.heap.size w w' := by
  obtain ⟨g1, g2, g3, g4, g5, g6, g7⟩ := good_of hg
  have hG0 := hT.below (bl_alloc (bl_refl w) (.cells #[.int .i64 y, .int .i64 m, .int .i64 d] 23))
  go_enter Tryd.func16, Tryd.ntmps16
  go_wp2_with (go_at_call 14; refine (good_any _ _ _ _).mono ?_; rintro e w1 ⟨rfl, hb1⟩; rw [hg]; (have kb := (Blk.new w 23 #[.int .i64 y, .int .i64 m, .int .i64 d]).call hb1); obtain ⟨c0, c1, c2, _, _, _⟩ := kb.c3)
  have hbw := LB.mk (bl_call (bl_alloc (bl_refl w) _) hb1)
  have hlen := digL_len
  have py := pad4 (n := y) (by omega) (by omega)
  have pm := pad2 (n := m) (by omega) (by omega)
  have pd := pad2 (n := d) (by omega) (by omega)
  clear kb g1 g3 g4 g5 g6 g7 hG0 hb1
  go_region_held3 (fun w' => w'.cell? ⟨w.heap.size, 0, none⟩ = some (.int .i64 y) ∧ w'.cell? ⟨w.heap.size, 1, none⟩ = some (.int .i64 m) ∧ w'.cell? ⟨w.heap.size, 2, none⟩ = some (.int .i64 d) ∧ LB w w')
    (first
      | (refine ⟨?_, ?_, ?_, ?_⟩ <;> (first | assumption | (go_keep; done) | exact LB.drew (by assumption) | (refine cell_keep ?_ hb6; assumption) | (refine LB.call ?_ hb6; assumption))))
    ((go_at_call 24; go_split_ands; refine (pad_int _ _ _ (hT.below (LB.out (by assumption))) (by assumption)).mono ?_; rintro e w6 ⟨rfl, hb6⟩))
  all_goals
    go_split_ands
    go_wp2_with fail
    go_ret
    refine ⟨?_, LB.out (by assumption)⟩
    exact congrArg (fun b => Ending.returned (.string b)) (text_cat _ _ _)
set_option maxRecDepth 100000 in
theorem text_no (y m d : Int) (w : World) (hg : goodB y m d = false) :
    Calls Tryd.prog 16 #[.agg #[.int .i64 y, .int .i64 m, .int .i64 d]] w fun e w' => e = .returned (.string ⟨#[]⟩) ∧ Below w.heap.size w w' := by
  go_enter Tryd.func16, Tryd.ntmps16
  go_wp2_with (go_at_call 14; refine (good_any _ _ _ _).mono ?_; rintro e w1 ⟨rfl, hb1⟩; rw [hg])
  go_ret
  exact ⟨rfl, bl_call (bl_alloc (bl_refl w) _) hb1⟩
theorem text_any (y m d : Int) (w : World) (hT : GT w) :
    Calls Tryd.prog 16 #[.agg #[.int .i64 y, .int .i64 m, .int .i64 d]] w fun e w' => e = .returned (.string ⟨(textL y m d).toArray⟩) ∧ Below w.heap.size w w' := by
  cases hg : goodB y m d with
  | true => simpa only [textL, hg, if_true] using text_yes y m d w hT hg
  | false =>
    have h := text_no y m d w hg
    simpa [textL, hg] using h
end Go.Proofs.YtaccanfjplgfnaaDoor
