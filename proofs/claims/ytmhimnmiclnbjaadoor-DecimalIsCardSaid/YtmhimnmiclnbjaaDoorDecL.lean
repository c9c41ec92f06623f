import Derived.Test.YtmhimnmiclnbjaaDoorDecK
namespace Go.Proofs.YtmhimnmiclnbjaaDoor
set_option linter.unusedVariables false
set_option linter.unusedSimpArgs false
open Go.RowKit
def RInv (l : List UInt8) (i : Nat) (pts : Int) : Prop :=
  (pts = 0 ∧ (l.take i).all isDig = true) ∨ (pts = 1 ∧ ∃ a r, l.take i = a ++ 46 :: r ∧ a.all isDig = true ∧ r.all isDig = true ∧ a.length + 1 < l.length)
theorem RInv.start (l : List UInt8) : RInv l 0 0 := .inl ⟨rfl, rfl⟩
theorem RInv.digit {l : List UInt8} {i : Nat} {pts : Int} {c : UInt8} (h : RInv l i pts) (ht : l.take (i + 1) = l.take i ++ [c]) (hc : isDig c = true) : RInv l (i + 1) pts := by
  rcases h with ⟨h, h'⟩ | ⟨h, a, r, h1, h2, h3, h4⟩
  · exact .inl ⟨h, by rw [ht, List.all_append, h', List.all_cons, hc]; rfl⟩
  · exact .inr ⟨h, a, r ++ [c], by rw [ht, h1, List.append_assoc, List.cons_append], h2, by rw [List.all_append, h3, List.all_cons, hc]; rfl, h4⟩
theorem RInv.point {l : List UInt8} {i : Nat} (h : RInv l i 0) (ht : l.take (i + 1) = l.take i ++ [46]) (hi : i + 1 < l.length) : RInv l (i + 1) 1 := by
  rcases h with ⟨h, h'⟩ | ⟨h, _⟩
  · exact .inr ⟨rfl, l.take i, [], ht, h', rfl, by rw [List.length_take]; omega⟩
  · omega
theorem split_at {l : List UInt8} {i : Nat} {c : UInt8} (hi : i < l.length) (ht : l.take (i + 1) = l.take i ++ [c]) : l = l.take i ++ c :: l.drop (i + 1) := by
  have := List.take_append_drop (i + 1) l
  rw [ht, List.append_assoc, List.cons_append, List.nil_append] at this
  exact this.symm
theorem RInv.two {l : List UInt8} {i : Nat} (h : RInv l i 1) (hi : i < l.length) (ht : l.take (i + 1) = l.take i ++ [46]) : formL l = 0 := by
  rcases h with ⟨h, _⟩ | ⟨_, a, r, h1, _⟩
  · omega
  · rw [split_at hi ht]
    exact form_two (.inl (by rw [h1]; simp))
theorem form_last {l : List UInt8} {i : Nat} (hi : i + 1 = l.length) (ht : l.take (i + 1) = l.take i ++ [46]) : formL l = 0 := by
  rw [split_at (by omega) ht]
  exact form_two (.inr (by rw [hi, List.drop_length]))
theorem form_odd {l : List UInt8} {i : Nat} {c : UInt8} (hi : i < l.length) (ht : l.take (i + 1) = l.take i ++ [c]) (h1 : isDig c = false) (h2 : c ≠ 46) : formL l = 0 :=
  form_bad (c := c) (by rw [split_at hi ht]; simp) h1 h2
theorem rof_end {l : List UInt8} {pts : Int} (h : RInv l l.length pts) (hne : l ≠ []) (hd : isDig (l.headD 0) = true) :
    formL l = if l.headD 0 = 48 ∧ 1 < l.length ∧ l.getD 1 0 ≠ 46 then 0 else 1 + pts := by
  rcases h with ⟨rfl, h⟩ | ⟨rfl, a, r, h1, h2, h3, h4⟩
  · rw [List.take_length] at h
    rw [form_whole h hne]
    have h46 : 1 < l.length → l.getD 1 0 ≠ 46 := fun hl e => by
      have : (46 : UInt8) ∈ l := by
        rw [List.getD_eq_getElem?_getD, List.getElem?_eq_getElem hl, Option.getD_some] at e
        rw [← e]
        exact List.getElem_mem _
      exact all_none h this
    cases l with
    | nil => exact absurd rfl hne
    | cons c l' =>
      have hlb : leadB (c :: l') = (decide (1 < (c :: l').length) && (c == 48)) := rfl
      rw [List.headD_cons]
      by_cases c1 : c = 48
      · by_cases c2 : 1 < (c :: l').length
        · have e : leadB (c :: l') = true := by rw [hlb, decide_eq_true c2, beq_iff_eq.2 c1]; rfl
          rw [e, if_pos rfl, if_pos ⟨c1, c2, h46 c2⟩]
        · have e : leadB (c :: l') = false := by rw [hlb, decide_eq_false c2]; rfl
          rw [e, if_neg Bool.false_ne_true, if_neg (fun e => c2 e.2.1)]; rfl
      · have e : leadB (c :: l') = false := by rw [hlb, beq_eq_false_iff_ne.2 c1, Bool.and_false]
        rw [e, if_neg Bool.false_ne_true, if_neg (fun e => c1 e.1)]; rfl
  · rw [List.take_length] at h1
    have hane : a ≠ [] := fun e => by
      rw [h1, e] at hd
      have hd : isDig 46 = true := hd
      exact absurd hd (by decide)
    have hrne : r ≠ [] := fun e => by
      rw [h1, e] at h4
      simp at h4
    rw [h1, form_point h2 hane h3 hrne]
    unfold leadB
    cases a with
    | nil => exact absurd rfl hane
    | cons c a =>
      cases a with
      | nil => simp
      | cons c2 a =>
        have hc2 : c2 ≠ 46 := fun e => all_none h2 (by rw [e]; simp)
        by_cases c1 : c = 48
        · simp [c1, hc2]
        · simp [c1]
theorem get_one (l : List UInt8) (h : 1 < l.length) : l.getD 1 0 = l[1] := by
  rw [List.getD_eq_getElem?_getD, List.getElem?_eq_getElem h, Option.getD_some]
theorem head_get (l : List UInt8) (h : 0 < l.length) : l.headD 0 = l[0] := by
  cases l with
  | nil => exact absurd h (by simp)
  | cons a b => rfl
set_option maxHeartbeats 4000000 in
set_option maxRecDepth 100000 in
theorem rof_any (s : ByteArray) (w : World) (hs : s.size ≤ 100) :
    Calls Tryd.prog 11 #[.string s] w fun e w' => e = .returned (.int .i64 (formL s.data.toList)) ∧ Below w.heap.size w w' := by
  obtain ⟨f, hf⟩ : ∃ f, formL s.data.toList = f := ⟨_, rfl⟩
  rw [hf]
  have HF := Lib.hid hf
  clear hf
  have hsz := (Lib.size_eq s).symm
  by_cases h0 : s.size = 0
  · have hs0 : s.data.toList = [] := List.length_eq_zero_iff.1 (by omega)
    have hf0 : f = 0 := by rw [← HF.out, hs0]; exact form_head (.inl rfl)
    have hse : s = ⟨#[]⟩ := by apply ByteArray.ext; apply Array.toList_inj.mp; exact hs0
    subst hf0 hse
    clear HF
    go_enter Tryd.func11, Tryd.ntmps11
    go_wp2_with fail
    go_ret
    exact ⟨rfl, bl_refl w⟩
  · have hp : 0 < s.size := by omega
    have hse : s.toList.isEmpty = false := by
      rw [Lib.toList_data]
      cases hh : s.data.toList with
      | nil => rw [hh] at hsz; simp at hsz; omega
      | cons a b => rfl
    have hh0 : s.data.toList.headD 0 = s[0] := head_get s.data.toList (by omega)
    go_enter Tryd.func11, Tryd.ntmps11
    go_wp2_with fail
    refine (rdigit_any _ _).mono ?_
    rintro e w1 ⟨rfl, rfl⟩
    cases hd0 : isDig s[0] with
    | false =>
      have hf0 : f = 0 := by rw [← HF.out]; exact form_head (.inr (by rw [hh0]; exact hd0))
      subst hf0
      go_wp2_with fail
      go_ret
      exact ⟨rfl, bl_refl w⟩
    | true =>
      have HD0 := Lib.hid hd0
      have HH0 := Lib.hid hh0
      clear hd0 hh0
      go_wp2_with fail
      go_loop [3, 4] (fun v3 v4 => ∃ (i : Nat) (pts : Int), i ≤ s.size ∧ v4 = .int .i64 i ∧ v3 = .int .i64 pts ∧ (pts = 0 ∨ pts = 1) ∧ Hid (RInv s.data.toList i pts)) (fun _ v4 => s.size - (intOf v4).toNat)
      case atStart => exact ⟨0, 0, Nat.zero_le _, rfl, rfl, .inl rfl, RInv.start _⟩
      case round =>
        obtain ⟨i, pts, hi, rfl, rfl, hpt, HR⟩ := hrel
        by_cases hlt : i < s.size
        · have hsn := take_snoc s i hlt
          have hil : i < s.data.toList.length := by omega
          by_cases hc : (s[i]'hlt) = 46
          · rw [hc] at hsn
            have hc' : (((s[i]'hlt).toNat : Nat) : Int) = 46 := by rw [hc]; rfl
            have hcase : (f = 0 ∧ pts = 1) ∨ (f = 0 ∧ pts = 0 ∧ ((i : Int) == (s.size : Int) - 1) = true) ∨ (pts = 0 ∧ ((i : Int) == (s.size : Int) - 1) = false ∧ Hid (RInv s.data.toList (i + 1) 1)) := by
              rcases hpt with rfl | rfl
              · by_cases he : i + 1 = s.size
                · exact .inr (.inl ⟨by rw [← HF.out]; exact form_last (by omega) hsn, rfl, by rw [beq_iff_eq]; omega⟩)
                · exact .inr (.inr ⟨rfl, by rw [beq_eq_false_iff_ne]; omega, RInv.point HR.out hsn (by omega)⟩)
              · exact .inl ⟨by rw [← HF.out]; exact RInv.two HR.out hil hsn, rfl⟩
            clear hpt HR hsn hc HF HD0 HH0
            rcases hcase with ⟨rfl, rfl⟩ | ⟨rfl, rfl, he⟩ | ⟨rfl, he, HR⟩
            · go_wp2
              go_ret
              exact ⟨rfl, bl_refl w⟩
            · go_wp2
              go_ret
              exact ⟨rfl, bl_refl w⟩
            · go_wp2
              go_round
              case rel => exact ⟨i + 1, 1, by omega, by go_num, rfl, .inr rfl, HR⟩
              case measure => simp [intOf]; omega
          · have hc' : ((((s[i]'hlt).toNat : Nat) : Int) == 46) = false := by
              rw [beq_eq_false_iff_ne]
              exact fun e => hc (UInt8.toNat.inj (by show _ = 46; omega))
            have hdg := fun u => rdigit_any (s[i]'hlt) u
            cases hd : isDig (s[i]'hlt) with
            | true =>
              rw [hd] at hdg
              have HR2 : Hid (RInv s.data.toList (i + 1) pts) := RInv.digit HR.out hsn hd
              clear hd hsn hc HR
              go_wp2_with fail
              refine (hdg _).mono ?_
              rintro e w2 ⟨rfl, rfl⟩
              go_wp2_with fail
              go_round
              case rel => exact ⟨i + 1, pts, by omega, by go_num, rfl, hpt, HR2⟩
              case measure => simp [intOf]; omega
            | false =>
              rw [hd] at hdg
              have hf0 : f = 0 := by rw [← HF.out]; exact form_odd hil hsn hd hc
              subst hf0
              clear hd hsn hc HR
              go_wp2_with fail
              refine (hdg _).mono ?_
              rintro e w2 ⟨rfl, rfl⟩
              go_wp2_with fail
              go_ret
              exact ⟨rfl, bl_refl w⟩
        · obtain rfl : i = s.size := by omega
          have hR := HR.out
          rw [← hsz] at hR
          have hend := rof_end hR (fun e => by rw [e] at hsz; simp at hsz; omega) (by rw [HH0.out]; exact HD0.out)
          rw [HF.out, HH0.out] at hend
          have hcase : (((s[0].toNat : Int) == 48) = false ∧ f = 1 + pts) ∨ ((s[0].toNat : Int) = 48 ∧ (s.size : Int) ≤ 1 ∧ f = 1 + pts) ∨ (∃ h1 : 1 < s.size, (s[0].toNat : Int) = 48 ∧ (((s[1]'h1).toNat : Int) != 46) = false ∧ f = 1 + pts) ∨ (∃ h1 : 1 < s.size, (s[0].toNat : Int) = 48 ∧ (((s[1]'h1).toNat : Int) != 46) = true ∧ f = 0) := by
            by_cases a1 : (s[0].toNat : Int) = 48
            · have e0 : s[0] = 48 := UInt8.toNat.inj (by show _ = 48; omega)
              by_cases a2 : 1 < s.size
              · have hg : s.data.toList.getD 1 0 = s[1]'a2 := get_one s.data.toList (by omega)
                by_cases a3 : s[1]'a2 = 46
                · refine .inr (.inr (.inl ⟨a2, a1, by rw [a3]; rfl, ?_⟩))
                  rw [hend, if_neg (fun e => e.2.2 (by rw [hg, a3]))]
                · refine .inr (.inr (.inr ⟨a2, a1, ?_, ?_⟩))
                  · rw [bne_iff_ne]; exact fun e => a3 (UInt8.toNat.inj (by show _ = 46; omega))
                  · rw [hend, if_pos ⟨e0, by omega, by rw [hg]; exact a3⟩]
              · exact .inr (.inl ⟨a1, by omega, by rw [hend, if_neg (fun e => a2 (by have := e.2.1; omega))]⟩)
            · exact .inl ⟨beq_eq_false_iff_ne.2 a1, by rw [hend, if_neg (fun e => a1 (by rw [e.1]; rfl))]⟩
          clear hend hR HF HD0 HH0 HR
          rcases hcase with ⟨c1, rfl⟩ | ⟨c1, c2, rfl⟩ | ⟨c2, c1, c3, rfl⟩ | ⟨c2, c1, c3, rfl⟩
          · rcases hpt with rfl | rfl
            all_goals
              go_wp2_with fail
              go_ret
              exact ⟨rfl, bl_refl w⟩
          · rcases hpt with rfl | rfl
            all_goals
              go_wp2_with fail
              go_ret
              exact ⟨rfl, bl_refl w⟩
          · have c2' : (1 : Int) < (s.size : Int) := by omega
            rcases hpt with rfl | rfl
            all_goals
              go_wp2_with fail
              go_ret
              exact ⟨rfl, bl_refl w⟩
          · have c2' : (1 : Int) < (s.size : Int) := by omega
            rcases hpt with rfl | rfl
            all_goals
              go_wp2_with fail
              go_ret
              exact ⟨rfl, bl_refl w⟩
end Go.Proofs.YtmhimnmiclnbjaaDoor
