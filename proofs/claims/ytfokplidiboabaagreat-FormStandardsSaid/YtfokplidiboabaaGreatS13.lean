/- Tables: what the laws make of numbers; Tables. -/
import Derived.Test.YtfokplidiboabaaGreatS12
set_option linter.unusedVariables false
set_option linter.unusedSimpArgs false
set_option maxRecDepth 100000
namespace Go.Proofs.YtfokplidiboabaaGreat
open Go.RowKit Go.Shelf
attribute [local go_sem ↓] Go.wp_at_zero Go.wp_at_succ
theorem rats_one {E : Elem} {w : World} {g : Nat} {s s' : Bool} {A A' : Option Addr} {n c n' c' : Nat} {p : Rat} (hr : Row w g 36 [.bool s, .slice A n c, .bool s', .slice A' n' c']) (h : E w (.agg #[.bool s, .slice A n c, .bool s', .slice A' n' c']) p) :
 Rats E w (.slice (some ⟨g, 0, none⟩) 1 1) [p] := by
 refine ⟨_, 1, rfl, Nat.le_refl _, by decide, fun i q hi => ?_⟩
 match i, hi with
 | 0, hi => simp at hi; subst hi; exact ⟨g, 0, s, A, n, c, s', A', n', c', rfl, hr.cell rfl, hr.cell rfl, hr.cell rfl, hr.cell rfl, h⟩
 | i+1, hi => simp at hi
theorem rats_two {E : Elem} {w : World} {g : Nat} {s s' r r' : Bool} {A A' B B' : Option Addr} {n c n' c' m d m' d' : Nat} {p q : Rat} (hr : Row w g 36 [.bool s, .slice A n c, .bool s', .slice A' n' c', .bool r, .slice B m d, .bool r', .slice B' m' d'])
 (h : E w (.agg #[.bool s, .slice A n c, .bool s', .slice A' n' c']) p) (k : E w (.agg #[.bool r, .slice B m d, .bool r', .slice B' m' d']) q) :
 Rats E w (.slice (some ⟨g, 0, none⟩) 2 2) [p, q] := by
 refine ⟨_, 2, rfl, Nat.le_refl _, by decide, fun i q hi => ?_⟩
 match i, hi with
 | 0, hi => simp at hi; subst hi; exact ⟨g, 0, s, A, n, c, s', A', n', c', rfl, hr.cell rfl, hr.cell rfl, hr.cell rfl, hr.cell rfl, h⟩
 | 1, hi => simp at hi; subst hi; exact ⟨g, 0, r, B, m, d, r', B', m', d', rfl, hr.cell rfl, hr.cell rfl, hr.cell rfl, hr.cell rfl, k⟩
 | i+2, hi => simp at hi
theorem tab_two {E : Elem} {w : World} {g : Nat} {A B : Option Addr} {n c m d : Nat} {p q : List Rat} (hr : Row w g 22 [.slice A n c, .slice B m d]) (h : Rats E w (.slice A n c) p) (k : Rats E w (.slice B m d) q) :
 Tab E w (.slice (some ⟨g, 0, none⟩) 2 2) [p, q] := by
 refine ⟨_, 2, rfl, Nat.le_refl _, by decide, fun i row hi => ?_⟩
 match i, hi with
 | 0, hi => simp at hi; subst hi; exact ⟨g, 0, A, n, c, rfl, hr.cell rfl, h⟩
 | 1, hi => simp at hi; subst hi; exact ⟨g, 0, B, m, d, rfl, hr.cell rfl, k⟩
 | i+2, hi => simp at hi
set_option maxHeartbeats 1000000 in
theorem lawof_calls (w : World) (n : Int) (h1 : -9223372036854775808 <= n) (h2 : n < 9223372036854775808) (q : Rat) (hq : Rat.divInt n 1 = q) :
 Calls Tryz.prog 91 #[.int .i64 n] w (Ret w fun w' v => OwnR w' w.heap.size v q) := by
 obtain ⟨W0, hW0⟩ : ∃ W0, W0 = w.alloc (Obj.cells #[Value.bool false, Value.slice none 0 0, Value.bool false, Value.slice none 0 0] 36) := ⟨_, rfl⟩
 obtain ⟨hb0, r1, hsz0⟩ := boxes1 w [.bool false, .slice none 0 0, .bool false, .slice none 0 0] 36 hW0
 have R1 := hide r1; have B0' := hide hb0; have HW0 := hide hW0
 clear r1 hb0 hW0
 go_enter Tryz.func91, Tryz.ntmps91
 go_wp2_with fail
 rw [<- HW0.out]
 refine (qof_calls _ n 1 h1 h2 (by omega) (by omega) (by omega) q hq).mono ?_
 rintro e w1 ⟨v1, ok1, rfl, ⟨o1, rfl⟩, b1⟩
 obtain ⟨s1, P1, q1, e1, P1', q1', e1', rfl, o1⟩ := o1.open_; have O1 := hide o1; clear o1
 have hs1 := b1.size
 have hb2 := b1.alloc (Obj.cells #[Value.bool s1, Value.slice P1 q1 e1, Value.bool false, Value.slice P1' q1' e1'] 36)
 have HR := hide (R1.out.later hb2)
 have hL := hide (B0'.out.trans hb2)
 obtain ⟨d1, d2, d3, d4, d5, d6, d7, d8⟩ := row_cells4 HR.out
 go_wp2_with fail
 refine bodyPost_ret (results_rat rfl rfl (HR.out.four _ _ _ _)) rfl ?_
 have oo := Only.four w.heap.size (w1.alloc (Obj.cells #[Value.bool s1, Value.slice P1 q1 e1, Value.bool false, Value.slice P1' q1' e1'] 36)) (.bool s1) (.slice P1 q1 e1) (.bool false) (.slice P1' q1' e1')
 exact ⟨_, rfl, ((O1.out.later ((Later.refl _).alloc _)).only oo (by omega)).weaken (by omega), hL.out.only oo (Nat.le_refl _)⟩
set_option maxHeartbeats 2000000 in
theorem tsame_calls (w : World) (va vb : Value) (a b : List (List Rat)) (k m : Nat) (ha : Tab EOwn w va a) (hb : Tab EOwn w vb b) (hA : ∀ row ∈ a, ∀ q ∈ row, Sized q k) (hB : ∀ row ∈ b, ∀ q ∈ row, Sized q m) (hk : k <= 1000000000) (hm : m <= 1000000000) (hla : a.length <= 1000000000) (hla2 : ∀ row ∈ a, row.length <= 1000000000) (t : Bool) (ht : decide (a = b) = t) :
 Calls Tryz.prog 77 #[va, vb] w (RetV w (.bool t)) := by
 have HA := hide ha; have HB := hide hb; have HT := hide ht; have SA := hide hA; have SB := hide hB; have HL2 := hide hla2
 obtain ⟨A0, na, ca, rfl, hna, -⟩ := ha.form
 obtain ⟨B0, nb, cb, rfl, hnb, -⟩ := hb.form
 have HNA := hide hna; have HNB := hide hnb
 have hla9 : na <= 1000000000 := by omega
 by_cases hne : na = nb
 ·subst hne
  have t1 : ((na : Int) != na) = false := by simp
  clear ha hb ht hA hB hna hnb hla hla2
  go_enter Tryz.func77, Tryz.ntmps77
  go_wp2_with fail
  go_loopw [5] (fun i wr => ∃ j : Nat, j <= na /\ i = .int .i64 (j : Int) /\ Hid (a.take j = b.take j) /\ Later w wr) (fun i _ => (na - intOf i).toNat)
  case atStart => exact ⟨0, by omega, rfl, hide rfl, Later.refl w⟩
  case round =>
   obtain ⟨j, hj, rfl, hpre, hL⟩ := hrel
   by_cases hjn : j < na
   ·obtain ⟨x, hx⟩ : ∃ x, a[j]? = some x := ⟨a[j]'(by have := HNA.out; omega), List.getElem?_eq_getElem _⟩
    obtain ⟨y, hy⟩ : ∃ y, b[j]? = some y := ⟨b[j]'(by have := HNB.out; omega), List.getElem?_eq_getElem _⟩
    obtain ⟨b1, off1, A5, n5, c5, rfl, z1, hx1⟩ := (HA.out.later EOwn.later hL).at_ hx
    obtain ⟨b2, off2, A6, n6, c6, rfl, z2, hy1⟩ := (HB.out.later EOwn.later hL).at_ hy
    have HX := hide (hx1.later EOwn.later (Later.refl wr).drew); have HY := hide (hy1.later EOwn.later (Later.refl wr).drew)
    have HXM := hide (List.mem_of_getElem? hx); have HYM := hide (List.mem_of_getElem? hy)
    have HEX := hide hx; have HEY := hide hy; have HL := hide hL.drew
    have HS : Hid (∀ w', Later wr.drew w' -> w'.cell? ⟨b1, off1 + j, none⟩ = some (.slice A5 n5 c5) /\ w'.cell? ⟨b2, off2 + j, none⟩ = some (.slice A6 n6 c6)) := hide fun w' hb => ⟨Later.cell ((Later.refl wr).drew.trans hb) z1, Later.cell ((Later.refl wr).drew.trans hb) z2⟩
    have hj0 : (0 : Int) <= (j : Int) := by omega
    have hj1 : (j : Int) < na := by omega
    obtain ⟨u, hu⟩ : ∃ u, decide (x = y) = u := ⟨_, rfl⟩
    have HU := hide hu
    clear hx hy hx1 hy1 hL z1 z2 hu
    go_upto_region 6 with fail
    rename_i K4 hK4
    go_region_held3 (fun w' => w'.cell? ⟨b1, off1 + j, none⟩ = some (.slice A5 n5 c5) /\ w'.cell? ⟨b2, off2 + j, none⟩ = some (.slice A6 n6 c6))
     (first | exact HS.out _ (Later.refl _) | exact HS.out _ b3)
     (first
      | ((with_reducible refine (lsame_calls _ _ _ x y k m HX.out HY.out (SA.out x HXM.out) (SB.out y HYM.out) hk hm (HL2.out x HXM.out) u HU.out).mono ?_); rintro e w3 ⟨rfl, b3⟩))
    show K4 _ _
    refine hK4 _ _ ?_
    clear hK4
    have hLL := hide (HL.out.trans b3)
    cases u with
    | false =>
      have HF : Hid (t = false) := hide (by
       rw [<- HT.out, decide_eq_false_iff_not]
       rintro rfl
       have h1 := HEX.out
       rw [HEY.out] at h1
       injection h1 with h1
       have := HU.out
       simp [h1] at this)
      go_wp2_with fail
      go_ret
      exact ⟨by rw [HF.out]; rfl, hLL.out⟩
    | true =>
      have HP : Hid (a.take (j+1) = b.take (j+1)) := hide (by
       have h1 : x = y := by simpa using HU.out
       rw [List.take_add_one, List.take_add_one, hpre.out, HEX.out, HEY.out, h1])
      go_wp2_with fail
      exact ⟨⟨j+1, by omega, by go_num, HP, hLL.out⟩, by simp [intOf]; omega⟩
   ·obtain rfl : j = na := by omega
    have HF : Hid (t = true) := hide (by
     have h1 := hpre.out
     rw [List.take_of_length_le (by rw [<- HNA.out]; exact Nat.le_refl _), List.take_of_length_le (by rw [<- HNB.out]; exact Nat.le_refl _)] at h1
     rw [<- HT.out]; simpa using h1)
    have HL := hide hL
    go_wp2_with fail
    go_ret
    exact ⟨by rw [HF.out]; rfl, HL.out⟩
 ·have t1 : ((na : Int) != nb) = true := by rw [bne_iff_ne]; omega
  have HF : Hid (t = false) := hide (by
   rw [<- ht, decide_eq_false_iff_not]
   rintro rfl
   omega)
  clear ha hb ht hA hB hna hnb hla hla2
  go_enter Tryz.func77, Tryz.ntmps77
  go_wp2_with fail
  go_ret
  exact ⟨by rw [HF.out]; rfl, Later.refl w⟩
end Go.Proofs.YtfokplidiboabaaGreat
namespace Go.Proofs.YtfokplidiboabaaGreat
theorem sized_small {q : Rat} (h1 : q.num.natAbs < 2 ^ 32) (h2 : q.den < 2 ^ 32) : Sized q 1 := ⟨length_limbs_le (by simpa using h1), length_limbs_le (by simpa using h2)⟩
theorem sized_0 : Sized 0 1 := sized_small (by decide) (by decide)
theorem sized_1 : Sized 1 1 := sized_small (by decide) (by decide)
theorem sized_2 : Sized 2 1 := sized_small (by decide) (by decide)
theorem sized_3 : Sized 3 1 := sized_small (by decide) (by decide)
theorem sized_m1 : Sized (-1) 1 := sized_small (by decide) (by decide)
theorem sized_m2 : Sized (-2) 1 := sized_small (by decide) (by decide)
theorem sized_half : Sized (1/2) 1 := sized_small (by decide +kernel) (by decide +kernel)
theorem div_0 : Rat.divInt 0 1 = 0 := by decide +kernel
theorem div_1 : Rat.divInt 1 1 = 1 := by decide +kernel
theorem div_2 : Rat.divInt 2 1 = 2 := by decide +kernel
theorem div_3 : Rat.divInt 3 1 = 3 := by decide +kernel
theorem div_m1 : Rat.divInt (-1) 1 = -1 := by decide +kernel
theorem sized_list1 {l : List Rat} (h : ∀ q ∈ l, q = 0 ∨ q = 1 ∨ q = 2 ∨ q = 3 ∨ q = -1 ∨ q = -2 ∨ q = 1/2) : ∀ q ∈ l, Sized q 1 := by
 intro q hq
 rcases h q hq with rfl | rfl | rfl | rfl | rfl | rfl | rfl
 ·exact sized_0
 ·exact sized_1
 ·exact sized_2
 ·exact sized_3
 ·exact sized_m1
 ·exact sized_m2
 ·exact sized_half
end Go.Proofs.YtfokplidiboabaaGreat
