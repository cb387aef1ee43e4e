import Derived.Test.YtfokplidiboabaaGreatRows
import Derived.Test.YtfokplidiboabaaGreatQ26
import Derived.WalkKit
import Derived.ProofKit
import Derived.OpenShut
import Derived.ShutString
import Derived.ChangeOld
import Derived.Below

set_option linter.unusedVariables false
set_option linter.unusedSimpArgs false
set_option maxRecDepth 100000
namespace Go.Proofs.YtfokplidiboabaaGreat
open Go.RowKit Go.Shelf
attribute [local go_sem ↓] Go.wp_at_zero Go.wp_at_succ

theorem sized_axpy {a b : List Rat} {q : Rat} {k m p : Nat} (ha : ∀ x ∈ a, Sized x k) (hb : ∀ x ∈ b, Sized x m) (hq : Sized q p) : ∀ x ∈ axpyL a b q, Sized x (k + (p + m) + 1) := by
  unfold axpyL
  induction a generalizing b with
  | nil => simp
  | cons x a ih => cases b with
    | nil => simp
    | cons y b =>
      intro z hz
      rw [List.zipWith_cons_cons] at hz
      rcases List.mem_cons.1 hz with rfl | hz
      · exact (ha x (List.mem_cons_self ..)).add (hq.mul (hb y (List.mem_cons_self ..)))
      · exact ih (fun q h => ha q (List.mem_cons_of_mem _ h)) (fun q h => hb q (List.mem_cons_of_mem _ h)) z hz
end Go.Proofs.YtfokplidiboabaaGreat


set_option linter.unusedVariables false
set_option linter.unusedSimpArgs false
namespace Go.Proofs.YtfokplidiboabaaGreat

theorem foldl_add (l : List Rat) (x : Rat) : l.foldl (· + ·) x = x + l.foldl (· + ·) 0 := by
  induction l generalizing x with
  | nil => simp only [List.foldl_nil]; grind
  | cons y l ih => simp only [List.foldl_cons]; rw [ih (x + y), ih (0 + y)]; grind
theorem sumR_cons (x : Rat) (l : List Rat) : sumR (x :: l) = x + sumR l := by
  unfold sumR; rw [List.foldl_cons, foldl_add]; grind
theorem dotL_comm (a b : List Rat) : dotL a b = dotL b a := by
  unfold dotL
  rw [List.zipWith_comm]
  congr 2
  funext x y; grind
end Go.Proofs.YtfokplidiboabaaGreat


set_option linter.unusedVariables false
set_option linter.unusedSimpArgs false
set_option maxRecDepth 100000
namespace Go.Proofs.YtfokplidiboabaaGreat

theorem dotL_nil (z : List Rat) : dotL [] z = 0 := by unfold dotL; rw [List.zipWith_nil_left]; rfl
theorem dotL_cons (x y : Rat) (a b : List Rat) : dotL (x :: a) (y :: b) = x * y + dotL a b := by
  unfold dotL; rw [List.zipWith_cons_cons, sumR_cons]
theorem dotL_add : ∀ (a b z : List Rat) (q : Rat), a.length = b.length → dotL (axpyL a b q) z = dotL a z + q * dotL b z := by
  intro a
  induction a with
  | nil =>
    intro b z q h
    cases b with
    | nil => rw [show axpyL [] [] q = [] from rfl, dotL_nil]; grind
    | cons y b => simp at h
  | cons x a ih =>
    intro b z q h
    cases b with
    | nil => simp at h
    | cons y b =>
      have hl : a.length = b.length := by simpa using h
      cases z with
      | nil => rw [dotL_comm _ [], dotL_comm _ [], dotL_comm _ [], dotL_nil, dotL_nil, dotL_nil]; grind
      | cons z zs => rw [axpy_cons, dotL_cons, dotL_cons, dotL_cons, ih b zs q hl]; grind
section
variable {A : List (List Rat)} {B C y u z r : List Rat} {ok : Bool}
end
end Go.Proofs.YtfokplidiboabaaGreat


set_option linter.unusedVariables false
set_option linter.unusedSimpArgs false
set_option maxRecDepth 100000
namespace Go.Proofs.YtfokplidiboabaaGreat

theorem dot_dbl (a u : List Rat) : dotL a (axpyL u u 1) = dotL a u + dotL a u := by
  rw [dotL_comm, dotL_add u u a 1 rfl, dotL_comm u a]; grind
end Go.Proofs.YtfokplidiboabaaGreat


set_option linter.unusedVariables false
set_option linter.unusedSimpArgs false
set_option maxRecDepth 100000
namespace Go.Proofs.YtfokplidiboabaaGreat

section
variable {P : PLp} {by_ : List Rat} (h : LpP P) (hb : by_.length = P.cost.length)
include h hb
end
def bareP (P : PLp) : PLp := { P with rows := [] }
theorem bare_may {P : PLp} (h : LpP P) : LpP (bareP P) := ⟨h.n1, h.n24, h.lo, h.hi, h.opn, Nat.zero_le _, h.f, fun r hr => absurd hr (List.not_mem_nil), h.ends⟩
theorem bare_lo {P : PLp} (h : LpP P) : fulfL (bareP P) P.lo = true := fulfL_iff.2 ⟨bare_may h, h.lo, fun j hj => ⟨Rat.le_refl, fun ho => h.ends j hj ho⟩, fun r hr => absurd hr (List.not_mem_nil)⟩
theorem bare_hi {P : PLp} (h : LpP P) (ho : P.opn.any id = false) : fulfL (bareP P) P.hi = true :=
  fulfL_iff.2 ⟨bare_may h, h.hi, fun j hj => ⟨h.ends j hj (by
    have hj' : j < P.opn.length := by have := h.opn; have : j < P.cost.length := hj; omega
    rw [List.getD_eq_getElem?_getD, List.getElem?_eq_getElem hj']
    have := List.any_eq_false.1 ho P.opn[j] (List.getElem_mem hj')
    simpa using this), fun _ => Rat.le_refl⟩, fun r hr => absurd hr (List.not_mem_nil)⟩
theorem dbl_cost (c x : List Rat) : dotL c (axpyL x x 1) = dotL c x + dotL c x := dot_dbl c x

end Go.Proofs.YtfokplidiboabaaGreat

/- FormCosts, walk. -/
set_option linter.unusedVariables false
set_option linter.unusedSimpArgs false
set_option maxRecDepth 100000
namespace Go.Proofs.YtfokplidiboabaaGreat
open Go.RowKit Go.Shelf
attribute [local go_sem ↓] Go.wp_at_zero Go.wp_at_succ

theorem bare_in {w : World} {vC vR vL vH vO : Value} {k : Nat} {P : PLp} (h : LpIn w vC vR vL vH vO k P) : LpIn w vC (.slice none 0 0) vL vH vO k (bareP P) :=
  { h with rows := LRows.nil _ _, rl := Nat.zero_le _ }
theorem lpCost_dot {P : PLp} (hP : LpP P) {x : List Rat} (hx : x.length = P.cost.length) : lpCost P x = dotL P.cost x := by
  unfold lpCost dotD; rw [if_pos (lpB_iff.2 hP), if_pos hx.symm]

set_option maxHeartbeats 16000000 in
theorem formcosts_walk (w : World) (v vx : Value) (x : List Rat) (h : ArgLp w v) (hx : Rats EAny w vx x) : Calls Tryz.prog 6 #[v, vx] w (RetV w (.bool true)) := by
  obtain ⟨A1, n1, c1, A2, n2, c2, A3, n3, c3, A4, n4, c4, A5, n5, c5, cost, rows, lo, hi, opn, rfl, h1, h2, h3, h4, h5⟩ := h
  obtain ⟨Ax, nx, cx, rfl, hnx, -⟩ := hx.form
  have H1 := hide h1; have H2 := hide h2; have H3 := hide h3; have H4 := hide h4; have H5 := hide h5; have HX0 := hide hx; have HNX := hide hnx
  clear h1 h2 h3 h4 h5 hx hnx
  obtain ⟨W0, hW0⟩ : ∃ W0, W0 = (w.alloc (Obj.cells #[Value.slice A1 n1 c1, Value.slice A2 n2 c2, Value.slice A3 n3 c3, Value.slice A4 n4 c4, Value.slice A5 n5 c5] 26)) := ⟨_, rfl⟩
  obtain ⟨hb0, r0, hsz0⟩ := boxes1 w [.slice A1 n1 c1, .slice A2 n2 c2, .slice A3 n3 c3, .slice A4 n4 c4, .slice A5 n5 c5] 26 hW0
  have B0 := hide hb0; have HW0 := hide hW0; have HSZ0 := hide hsz0
  have R0 := hide r0
  clear hb0 hW0 hsz0 r0
  go_enter Tryz.func6, Tryz.ntmps6
  go_upto_region 1 with fail
  rw [← HW0.out]
  go_wp2_with fail
  refine (awake11_calls _).mono ?_
  rintro e w1 ⟨rfl, b1⟩
  have HL1 := hide b1
  clear b1
  have r_d := R0.out.later HL1.out
  have d0 := r_d.cell (i := 0) rfl; have d1 := r_d.cell (i := 1) rfl; have d2 := r_d.cell (i := 2) rfl; have d3 := r_d.cell (i := 3) rfl; have d4 := r_d.cell (i := 4) rfl
  clear r_d
  go_wp2_with fail
  have hl1 := hide (B0.out.trans HL1.out)
  refine (fewlp_calls _ _ _ _ _ _ _ _ _ _ _ _ _ _ _ _ cost rows lo hi opn 4 (by omega) (H1.out.later EAny.later hl1.out) (H2.out.later EAnyRow.later hl1.out) (H3.out.later EAny.later hl1.out) (H4.out.later EAny.later hl1.out) (H5.out.later hl1.out)).mono ?_
  rintro e w2 ⟨t, rfl, hP, b2⟩
  have HL2 := hide (HL1.out.trans b2)
  clear b2 hl1 d0 d1 d2 d3 d4 H1 H2 H3 H4 H5
  have r_d := R0.out.later HL2.out
  have d0 := r_d.cell (i := 0) rfl; have d1 := r_d.cell (i := 1) rfl; have d2 := r_d.cell (i := 2) rfl; have d3 := r_d.cell (i := 3) rfl; have d4 := r_d.cell (i := 4) rfl
  clear r_d
  cases t with
  | false =>
    go_wp2_with fail
    go_ret
    exact ⟨rfl, B0.out.trans HL2.out⟩
  | true =>
    obtain ⟨P, hI, hc4, hlo4, hhi4, hr4, hrc4⟩ := hP rfl
    have HI2 := hide hI
    clear hP hI
    go_wp2_with fail
    refine (few_calls _ _ x 4 (HX0.out.later EAny.later (B0.out.trans HL2.out)) (by omega)).mono ?_
    rintro e w2' ⟨t, rfl, hX, rfl⟩
    cases t with
    | false =>
      go_wp2_with fail
      go_ret
      exact ⟨rfl, B0.out.trans HL2.out⟩
    | true =>
      have HX2 := hide (hX rfl)
      clear hX
      obtain ⟨u, hu⟩ : ∃ u, lpB P = u := ⟨_, rfl⟩
      have HU := hide hu
      clear hu
      go_wp2_with fail
      refine (rmay11_calls _ _ _ _ _ _ _ _ _ _ _ _ _ _ _ _ 1 P HI2.out).mono ?_
      rintro e w3 ⟨rfl, b3⟩
      rw [HU.out]
      have HL3 := hide (HL2.out.trans b3)
      have HI3 := hide (HI2.out.later b3); have HX3 := hide (HX2.out.2.later ERaw.later b3); have hx4 := HX2.out.1
      clear b3 d0 d1 d2 d3 d4 HI2 HX2
      have r_d := R0.out.later HL3.out
      have d0 := r_d.cell (i := 0) rfl; have d1 := r_d.cell (i := 1) rfl; have d2 := r_d.cell (i := 2) rfl; have d3 := r_d.cell (i := 3) rfl; have d4 := r_d.cell (i := 4) rfl
      clear r_d
      cases u with
      | false =>
          go_wp2_with fail
          go_ret
          exact ⟨rfl, B0.out.trans HL3.out⟩
      | true =>
        have HP := hide (lpB_iff.1 HU.out)
        have L1 := hide HI3.out.cost.len_
        by_cases hlen : nx = n1
        rotate_left
        · have t1 : ((nx : Int) != (n1 : Int)) = true := by rw [bne_iff_ne]; omega
          go_wp2_with fail
          go_ret
          exact ⟨rfl, B0.out.trans HL3.out⟩
        have t1 : ((nx : Int) != (n1 : Int)) = false := by rw [hlen]; simp
        have HLEN : Hid (x.length = P.cost.length) := hide (by rw [← HNX.out, ← L1.out]; exact hlen)
        clear hlen
        go_wp2_with fail
        refine (of11_calls _ 1 (by omega) (by omega) 1 div_1).mono ?_
        rintro e w4 ⟨v4, rfl, o4, b4⟩
        obtain ⟨s4, P4, q4, e4, P4', q4', e4', rfl, o4⟩ := o4.open_; have O4 := hide o4; clear o4
        go_wp2_with fail
        refine (qaddtimes_calls _ _ _ _ x x 1 1 1 1 (HX3.out.later ERaw.later b4) (HX3.out.later ERaw.later b4) (OwnR.raw O4.out sized_1) rfl (by omega) (by omega)).mono ?_
        rintro e w5 ⟨v5, ok5, rfl, ⟨o5, rfl⟩, b5⟩
        have hl5 := b4.trans b5
        have HL5 := hide (HL3.out.trans hl5)
        have hr5 := o5.now
        obtain ⟨A9, n9, c9, rfl, -⟩ := hr5.form
        have HTW : Hid (Rats (ERaw 10) w5 (.slice A9 n9 c9) (axpyL x x 1)) := hide (hr5.map fun v q hq ho => OwnR.raw (show OwnR w5 0 v q from ho) ((sized_axpy HX3.out.sized HX3.out.sized sized_1 q hq).mono (by omega)))
        have HTL : Hid ((axpyL x x 1).length = P.cost.length) := hide (by rw [axpy_len_ rfl]; exact HLEN.out)
        have HI5 := hide (HI3.out.later hl5); have HX5 := hide (HX3.out.later ERaw.later hl5)
        clear b4 b5 hl5 o5 hr5 O4 HI3 HX3 d0 d1 d2 d3 d4
        have r_d := R0.out.later HL5.out
        have d0 := r_d.cell (i := 0) rfl; have d1 := r_d.cell (i := 1) rfl; have d2 := r_d.cell (i := 2) rfl; have d3 := r_d.cell (i := 3) rfl; have d4 := r_d.cell (i := 4) rfl
        clear r_d
        obtain ⟨cv, hcv⟩ : ∃ q, lpCost P x = q := ⟨_, rfl⟩
        obtain ⟨dv, hdv⟩ : ∃ q, lpCost P (axpyL x x 1) = q := ⟨_, rfl⟩
        have HDC : Hid (dv = cv + cv) := hide (by rw [← hcv, ← hdv, lpCost_dot HP.out HLEN.out, lpCost_dot HP.out HTL.out, dbl_cost])
        have HSC : Hid (Sized cv 100) := hide (by
          rw [← hcv, lpCost_dot HP.out HLEN.out]
          refine (sized_dotL HI5.out.cost.sized HX5.out.sized).mono ?_
          have : P.cost.length * (1 + 1 + (1 + 1) + 1) ≤ 4 * 5 := Nat.mul_le_mul (by omega) (by omega)
          omega)
        have HSCC : Hid (Sized (cv + cv) 1000) := hide ((HSC.out.add HSC.out).mono (by omega))
        have HSD : Hid (Sized dv 1000) := hide (by rw [HDC.out]; exact HSCC.out)
        have HB1 : Hid ((lpB P && decide (x.length = P.cost.length)) = true) := hide (by rw [HU.out, decide_eq_true HLEN.out]; rfl)
        have HB2 : Hid ((lpB P && decide ((axpyL x x 1).length = P.cost.length)) = true) := hide (by rw [HU.out, decide_eq_true HTL.out]; rfl)
        have HCV := hide hcv; have HDV := hide hdv
        clear hcv hdv
        go_wp2_with fail
        refine (pcost_calls _ _ _ _ _ _ _ _ _ _ _ _ _ _ _ _ 1 P HI5.out _ x 1 HX5.out (by omega)).mono ?_
        rintro e w6 ⟨v6, ok6, rfl, ⟨o6, rfl⟩, b6⟩
        rw [HB1.out]; rw [HCV.out] at o6
        obtain ⟨s6, P6, q6, e6, P6', q6', e6', rfl, o6⟩ := o6.open_; have O6 := hide o6; clear o6
        have HL6 := hide (HL5.out.trans b6)
        clear d0 d1 d2 d3 d4
        go_upto_region 7 with fail
        obtain ⟨wc, hwc⟩ : ∃ wc, wc = w6.alloc (Obj.cells #[Value.bool s6, Value.slice P6 q6 e6, Value.bool false, Value.slice P6' q6' e6'] 36) := ⟨_, rfl⟩
        obtain ⟨gc, hgc⟩ : ∃ gc, gc = w6.heap.size := ⟨_, rfl⟩
        have bwc : Later w6 wc := by rw [hwc]; exact (Later.refl _).alloc _
        have rgc : Row wc gc 36 [.bool s6, .slice P6 q6 e6, .bool false, .slice P6' q6' e6'] := by rw [hwc, hgc]; exact Row.new _ _ _
        rw [← hwc, ← hgc]
        have l6 := b6.trans bwc
        have HL6c := hide (HL5.out.trans l6); have HI6 := hide (HI5.out.later l6); have HTW6 := hide (HTW.out.later ERaw.later l6); have HC6 := hide (OwnR.later O6.out bwc); have RC := hide rgc
        clear l6 b6 hwc hgc bwc rgc HI5 HTW O6
        have r_d := R0.out.later HL6c.out
        have d0 := r_d.cell (i := 0) rfl; have d1 := r_d.cell (i := 1) rfl; have d2 := r_d.cell (i := 2) rfl; have d3 := r_d.cell (i := 3) rfl; have d4 := r_d.cell (i := 4) rfl
        clear r_d
        go_wp2_with fail
        refine (pcost_calls _ _ _ _ _ _ _ _ _ _ _ _ _ _ _ _ 1 P HI6.out _ (axpyL x x 1) 10 HTW6.out (by omega)).mono ?_
        rintro e w7 ⟨v7, ok7, rfl, ⟨o7, rfl⟩, b7⟩
        rw [HB2.out]; rw [HDV.out] at o7
        obtain ⟨s7, P7, q7, e7, P7', q7', e7', rfl, o7⟩ := o7.open_; have O7 := hide o7; clear o7
        clear d0 d1 d2 d3 d4
        go_upto_region 8 with fail
        obtain ⟨wd, hwd⟩ : ∃ wd, wd = w7.alloc (Obj.cells #[Value.bool s7, Value.slice P7 q7 e7, Value.bool false, Value.slice P7' q7' e7'] 36) := ⟨_, rfl⟩
        obtain ⟨gd, hgd⟩ : ∃ gd, gd = w7.heap.size := ⟨_, rfl⟩
        have bwd : Later w7 wd := by rw [hwd]; exact (Later.refl _).alloc _
        have rgd : Row wd gd 36 [.bool s7, .slice P7 q7 e7, .bool false, .slice P7' q7' e7'] := by rw [hwd, hgd]; exact Row.new _ _ _
        rw [← hwd, ← hgd]
        have l7 := b7.trans bwd
        have HL7 := hide (HL6c.out.trans l7); have HI7 := hide (HI6.out.later l7); have HC7 := hide (OwnR.later HC6.out l7); have RC7 := hide (RC.out.later l7); have HD7 := hide (OwnR.later O7.out bwd); have RD := hide rgd
        clear l7 b7 hwd hgd bwd rgd HI6 HTW6 HC6 RC O7
        have r_d := R0.out.later HL7.out
        have d0 := r_d.cell (i := 0) rfl; have d1 := r_d.cell (i := 1) rfl; have d2 := r_d.cell (i := 2) rfl; have d3 := r_d.cell (i := 3) rfl; have d4 := r_d.cell (i := 4) rfl
        clear r_d
        go_upto_region 9 with fail
        go_upto_region 10 with fail
        obtain ⟨wx, hwx⟩ : ∃ wx, wx = wd.alloc (Obj.cells #[Value.slice A1 n1 c1, Value.slice none 0 0, Value.slice A3 n3 c3, Value.slice A4 n4 c4, Value.slice A5 n5 c5] 26) := ⟨_, rfl⟩
        obtain ⟨gb, hgb⟩ : ∃ gb, gb = wd.heap.size := ⟨_, rfl⟩
        have bwx : Later wd wx := by rw [hwx]; exact (Later.refl _).alloc _
        have rgx : Row wx gb 26 [.slice A1 n1 c1, .slice none 0 0, .slice A3 n3 c3, .slice A4 n4 c4, .slice A5 n5 c5] := by rw [hwx, hgb]; exact Row.new _ _ _
        rw [← hwx, ← hgb]
        have HLx := hide (HL7.out.trans bwx); have HI := hide (HI7.out.later bwx); have HC := hide (OwnR.later HC7.out bwx); have HD := hide (OwnR.later HD7.out bwx)
        have RCx := hide (RC7.out.later bwx); have RDx := hide (RD.out.later bwx); have RBx := hide rgx
        have HB := hide (bare_in HI.out)
        have HFL : Hid (fulfL (bareP P) P.lo = true) := hide (bare_lo HP.out)
        clear hwx hgb bwx rgx HI7 HC7 HD7 RC7 RD d0 d1 d2 d3 d4
        have HT1 : Hid (∀ w', Later wx w' → w'.cell? ⟨w.heap.size, 0, none⟩ = some (.slice A1 n1 c1) ∧ w'.cell? ⟨w.heap.size, 1, none⟩ = some (.slice A2 n2 c2) ∧ w'.cell? ⟨w.heap.size, 2, none⟩ = some (.slice A3 n3 c3) ∧ w'.cell? ⟨w.heap.size, 3, none⟩ = some (.slice A4 n4 c4) ∧ w'.cell? ⟨w.heap.size, 4, none⟩ = some (.slice A5 n5 c5) ∧ w'.cell? ⟨gc, 0, none⟩ = some (.bool s6) ∧ w'.cell? ⟨gc, 1, none⟩ = some (.slice P6 q6 e6) ∧ w'.cell? ⟨gc, 2, none⟩ = some (.bool false) ∧ w'.cell? ⟨gc, 3, none⟩ = some (.slice P6' q6' e6') ∧ w'.cell? ⟨gd, 0, none⟩ = some (.bool s7) ∧ w'.cell? ⟨gd, 1, none⟩ = some (.slice P7 q7 e7) ∧ w'.cell? ⟨gd, 2, none⟩ = some (.bool false) ∧ w'.cell? ⟨gd, 3, none⟩ = some (.slice P7' q7' e7') ∧ w'.cell? ⟨gb, 0, none⟩ = some (.slice A1 n1 c1) ∧ w'.cell? ⟨gb, 1, none⟩ = some (.slice none 0 0) ∧ w'.cell? ⟨gb, 2, none⟩ = some (.slice A3 n3 c3) ∧ w'.cell? ⟨gb, 3, none⟩ = some (.slice A4 n4 c4) ∧ w'.cell? ⟨gb, 4, none⟩ = some (.slice A5 n5 c5)) := hide fun W hW => by
          have h1 := R0.out.later (HLx.out.trans hW); have h2 := RCx.out.later hW; have h3 := RDx.out.later hW; have h4 := RBx.out.later hW
          exact ⟨h1.cell (i := 0) rfl, h1.cell (i := 1) rfl, h1.cell (i := 2) rfl, h1.cell (i := 3) rfl, h1.cell (i := 4) rfl, h2.cell (i := 0) rfl, h2.cell (i := 1) rfl, h2.cell (i := 2) rfl, h2.cell (i := 3) rfl, h3.cell (i := 0) rfl, h3.cell (i := 1) rfl, h3.cell (i := 2) rfl, h3.cell (i := 3) rfl, h4.cell (i := 0) rfl, h4.cell (i := 1) rfl, h4.cell (i := 2) rfl, h4.cell (i := 3) rfl, h4.cell (i := 4) rfl⟩
        have hmx : Tryz.prog.follows .mixedOrders = true := by kernel_rfl
        obtain ⟨uh, huh⟩ : ∃ b, fulfL (bareP P) P.hi = b := ⟨_, rfl⟩
        have HFH := hide huh
        cases uh with
        | true =>
          clear huh
          refine wp_region_N (fun w' => w'.cell? ⟨w.heap.size, 0, none⟩ = some (.slice A1 n1 c1) ∧ w'.cell? ⟨w.heap.size, 1, none⟩ = some (.slice A2 n2 c2) ∧ w'.cell? ⟨w.heap.size, 2, none⟩ = some (.slice A3 n3 c3) ∧ w'.cell? ⟨w.heap.size, 3, none⟩ = some (.slice A4 n4 c4) ∧ w'.cell? ⟨w.heap.size, 4, none⟩ = some (.slice A5 n5 c5) ∧ w'.cell? ⟨gc, 0, none⟩ = some (.bool s6) ∧ w'.cell? ⟨gc, 1, none⟩ = some (.slice P6 q6 e6) ∧ w'.cell? ⟨gc, 2, none⟩ = some (.bool false) ∧ w'.cell? ⟨gc, 3, none⟩ = some (.slice P6' q6' e6') ∧ w'.cell? ⟨gd, 0, none⟩ = some (.bool s7) ∧ w'.cell? ⟨gd, 1, none⟩ = some (.slice P7 q7 e7) ∧ w'.cell? ⟨gd, 2, none⟩ = some (.bool false) ∧ w'.cell? ⟨gd, 3, none⟩ = some (.slice P7' q7' e7') ∧ w'.cell? ⟨gb, 0, none⟩ = some (.slice A1 n1 c1) ∧ w'.cell? ⟨gb, 1, none⟩ = some (.slice none 0 0) ∧ w'.cell? ⟨gb, 2, none⟩ = some (.slice A3 n3 c3) ∧ w'.cell? ⟨gb, 3, none⟩ = some (.slice A4 n4 c4) ∧ w'.cell? ⟨gb, 4, none⟩ = some (.slice A5 n5 c5)) [] hmx (HT1.out _ lt_) (fun hHeld => ?_)
          refine tkA 56 0 ?_
          try simp only [Act.put, List.setIfInBounds_toArray, List.set_cons_zero, List.set_cons_succ]
          refine tkA 57 1 ?_
          try simp only [Act.put, List.setIfInBounds_toArray, List.set_cons_zero, List.set_cons_succ]
          refine tkA 58 2 ?_
          try simp only [Act.put, List.setIfInBounds_toArray, List.set_cons_zero, List.set_cons_succ]
          refine tkA 59 3 ?_
          try simp only [Act.put, List.setIfInBounds_toArray, List.set_cons_zero, List.set_cons_succ]
          refine tkA 60 4 ?_
          try simp only [Act.put, List.setIfInBounds_toArray, List.set_cons_zero, List.set_cons_succ]
          refine tkA 61 5 ?_
          try simp only [Act.put, List.setIfInBounds_toArray, List.set_cons_zero, List.set_cons_succ]
          refine tkA 62 6 ?_
          try simp only [Act.put, List.setIfInBounds_toArray, List.set_cons_zero, List.set_cons_succ]
          refine tkA 63 7 ?_
          try simp only [Act.put, List.setIfInBounds_toArray, List.set_cons_zero, List.set_cons_succ]
          refine wpAnyN_ready (rs := [8]) (by kernel_rfl) (by simp) ?_
          refine AllReadyN.held rfl (by rfl) (fun K hK => ?_) AllReadyN.nil
          go_simp
          refine (qadd_calls _ _ _ cv cv 100 100 (OwnR.raw (OwnR.later HC.out lt_) HSC.out) (OwnR.raw (OwnR.later HC.out lt_) HSC.out) (by omega)).mono ?_
          rintro e w11 ⟨v11, rfl, o11, b11⟩
          obtain ⟨s11, P11, q11, e11, P11', q11', e11', rfl, o11⟩ := o11.open_; have O11 := hide o11; clear o11
          have l11 : Later wx w11 := Later.trans lt_ b11
          refine hK.out _ _ ?_ (fun hHeld => ?_)
          · exact HT1.out _ lt_
          clear hK K
          try simp only [Act.put, List.setIfInBounds_toArray, List.set_cons_zero, List.set_cons_succ]
          refine wpAnyN_ready (rs := [9]) (by kernel_rfl) (by simp) ?_
          refine AllReadyN.held rfl (by rfl) (fun K hK => ?_) AllReadyN.nil
          go_simp
          refine (qsame_calls _ _ _ dv (cv + cv) 0 0 1000 1000 (OwnR.later HD.out lt_) ((OwnR.later O11.out lt_).weaken (Nat.zero_le _)) HSD.out HSCC.out (by omega) (by omega) true (by rw [HDC.out]; simp)).mono ?_
          rintro e w12 ⟨rfl, b12⟩
          have l12 : Later wx w12 := Later.trans lt_ b12
          refine hK.out _ _ ?_ (fun hHeld => ?_)
          · exact HT1.out _ lt_
          clear hK K
          try simp only [Act.put, List.setIfInBounds_toArray, List.set_cons_zero, List.set_cons_succ]
          refine tkA 66 10 ?_
          try simp only [Act.put, List.setIfInBounds_toArray, List.set_cons_zero, List.set_cons_succ]
          refine tkA 67 11 ?_
          try simp only [Act.put, List.setIfInBounds_toArray, List.set_cons_zero, List.set_cons_succ]
          refine tkA 68 12 ?_
          try simp only [Act.put, List.setIfInBounds_toArray, List.set_cons_zero, List.set_cons_succ]
          refine tkA 69 13 ?_
          try simp only [Act.put, List.setIfInBounds_toArray, List.set_cons_zero, List.set_cons_succ]
          refine tkA 70 14 ?_
          try simp only [Act.put, List.setIfInBounds_toArray, List.set_cons_zero, List.set_cons_succ]
          refine wpAnyN_ready (rs := [15]) (by kernel_rfl) (by simp) ?_
          refine AllReadyN.held rfl (by rfl) (fun K hK => ?_) AllReadyN.nil
          go_simp
          refine (pfulfils_calls _ _ _ _ _ _ _ _ _ _ _ _ _ _ _ _ 1 (bareP P) (HB.out.later lt_) _ P.lo 1 (HB.out.later lt_).lo (by omega)).mono ?_
          rintro e w13 ⟨rfl, b13⟩
          rw [HFL.out]
          have l13 : Later wx w13 := Later.trans lt_ b13
          refine hK.out _ _ ?_ (fun hHeld => ?_)
          · exact HT1.out _ lt_
          clear hK K
          try simp only [Act.put, List.setIfInBounds_toArray, List.set_cons_zero, List.set_cons_succ]
          refine tkA 72 16 ?_
          try simp only [Act.put, List.setIfInBounds_toArray, List.set_cons_zero, List.set_cons_succ]
          refine tkA 73 17 ?_
          try simp only [Act.put, List.setIfInBounds_toArray, List.set_cons_zero, List.set_cons_succ]
          refine tkA 74 18 ?_
          try simp only [Act.put, List.setIfInBounds_toArray, List.set_cons_zero, List.set_cons_succ]
          refine tkA 75 19 ?_
          try simp only [Act.put, List.setIfInBounds_toArray, List.set_cons_zero, List.set_cons_succ]
          refine tkA 76 20 ?_
          try simp only [Act.put, List.setIfInBounds_toArray, List.set_cons_zero, List.set_cons_succ]
          refine wpAnyN_ready (rs := [21]) (by kernel_rfl) (by simp) ?_
          refine AllReadyN.held rfl (by rfl) (fun K hK => ?_) AllReadyN.nil
          go_simp
          refine (pfulfils_calls _ _ _ _ _ _ _ _ _ _ _ _ _ _ _ _ 1 (bareP P) (HB.out.later lt_) _ P.hi 1 (HB.out.later lt_).hi (by omega)).mono ?_
          rintro e w14 ⟨rfl, b14⟩
          rw [HFH.out]
          have l14 : Later wx w14 := Later.trans lt_ b14
          refine hK.out _ _ ?_ (fun hHeld => ?_)
          · exact HT1.out _ lt_
          clear hK K
          try simp only [Act.put, List.setIfInBounds_toArray, List.set_cons_zero, List.set_cons_succ]
          refine tkA 78 22 ?_
          try simp only [Act.put, List.setIfInBounds_toArray, List.set_cons_zero, List.set_cons_succ]
          refine tkU 79 23 ?_
          try simp only [Act.put, List.setIfInBounds_toArray, List.set_cons_zero, List.set_cons_succ]
          refine tkU 80 24 ?_
          try simp only [Act.put, List.setIfInBounds_toArray, List.set_cons_zero, List.set_cons_succ]
          refine tkA 81 25 ?_
          try simp only [Act.put, List.setIfInBounds_toArray, List.set_cons_zero, List.set_cons_succ]
          refine tkA 82 26 ?_
          try simp only [Act.put, List.setIfInBounds_toArray, List.set_cons_zero, List.set_cons_succ]
          refine tkA 4 27 ?_
          try simp only [Act.put, List.setIfInBounds_toArray, List.set_cons_zero, List.set_cons_succ]
          refine wpAnyN_done (by kernel_rfl) ?_ _
          have LE := hide (HLx.out.trans (show Later wx w14 from lt_))
          clear hHeld
          go_wp2_with fail
          go_ret
          exact ⟨rfl, B0.out.trans LE.out⟩
        | false =>
          have HAO : Hid (P.opn.any id = true) := hide (by
            cases ha : P.opn.any id with
            | true => rfl
            | false => rw [bare_hi HP.out ha] at huh; cases huh)
          clear huh
          refine wp_region_N (fun w' => w'.cell? ⟨w.heap.size, 0, none⟩ = some (.slice A1 n1 c1) ∧ w'.cell? ⟨w.heap.size, 1, none⟩ = some (.slice A2 n2 c2) ∧ w'.cell? ⟨w.heap.size, 2, none⟩ = some (.slice A3 n3 c3) ∧ w'.cell? ⟨w.heap.size, 3, none⟩ = some (.slice A4 n4 c4) ∧ w'.cell? ⟨w.heap.size, 4, none⟩ = some (.slice A5 n5 c5) ∧ w'.cell? ⟨gc, 0, none⟩ = some (.bool s6) ∧ w'.cell? ⟨gc, 1, none⟩ = some (.slice P6 q6 e6) ∧ w'.cell? ⟨gc, 2, none⟩ = some (.bool false) ∧ w'.cell? ⟨gc, 3, none⟩ = some (.slice P6' q6' e6') ∧ w'.cell? ⟨gd, 0, none⟩ = some (.bool s7) ∧ w'.cell? ⟨gd, 1, none⟩ = some (.slice P7 q7 e7) ∧ w'.cell? ⟨gd, 2, none⟩ = some (.bool false) ∧ w'.cell? ⟨gd, 3, none⟩ = some (.slice P7' q7' e7') ∧ w'.cell? ⟨gb, 0, none⟩ = some (.slice A1 n1 c1) ∧ w'.cell? ⟨gb, 1, none⟩ = some (.slice none 0 0) ∧ w'.cell? ⟨gb, 2, none⟩ = some (.slice A3 n3 c3) ∧ w'.cell? ⟨gb, 3, none⟩ = some (.slice A4 n4 c4) ∧ w'.cell? ⟨gb, 4, none⟩ = some (.slice A5 n5 c5)) [] hmx (HT1.out _ lt_) (fun hHeld => ?_)
          refine tkA 56 0 ?_
          try simp only [Act.put, List.setIfInBounds_toArray, List.set_cons_zero, List.set_cons_succ]
          refine tkA 57 1 ?_
          try simp only [Act.put, List.setIfInBounds_toArray, List.set_cons_zero, List.set_cons_succ]
          refine tkA 58 2 ?_
          try simp only [Act.put, List.setIfInBounds_toArray, List.set_cons_zero, List.set_cons_succ]
          refine tkA 59 3 ?_
          try simp only [Act.put, List.setIfInBounds_toArray, List.set_cons_zero, List.set_cons_succ]
          refine tkA 60 4 ?_
          try simp only [Act.put, List.setIfInBounds_toArray, List.set_cons_zero, List.set_cons_succ]
          refine tkA 61 5 ?_
          try simp only [Act.put, List.setIfInBounds_toArray, List.set_cons_zero, List.set_cons_succ]
          refine tkA 62 6 ?_
          try simp only [Act.put, List.setIfInBounds_toArray, List.set_cons_zero, List.set_cons_succ]
          refine tkA 63 7 ?_
          try simp only [Act.put, List.setIfInBounds_toArray, List.set_cons_zero, List.set_cons_succ]
          refine wpAnyN_ready (rs := [8]) (by kernel_rfl) (by simp) ?_
          refine AllReadyN.held rfl (by rfl) (fun K hK => ?_) AllReadyN.nil
          go_simp
          refine (qadd_calls _ _ _ cv cv 100 100 (OwnR.raw (OwnR.later HC.out lt_) HSC.out) (OwnR.raw (OwnR.later HC.out lt_) HSC.out) (by omega)).mono ?_
          rintro e w11 ⟨v11, rfl, o11, b11⟩
          obtain ⟨s11, P11, q11, e11, P11', q11', e11', rfl, o11⟩ := o11.open_; have O11 := hide o11; clear o11
          have l11 : Later wx w11 := Later.trans lt_ b11
          refine hK.out _ _ ?_ (fun hHeld => ?_)
          · exact HT1.out _ lt_
          clear hK K
          try simp only [Act.put, List.setIfInBounds_toArray, List.set_cons_zero, List.set_cons_succ]
          refine wpAnyN_ready (rs := [9]) (by kernel_rfl) (by simp) ?_
          refine AllReadyN.held rfl (by rfl) (fun K hK => ?_) AllReadyN.nil
          go_simp
          refine (qsame_calls _ _ _ dv (cv + cv) 0 0 1000 1000 (OwnR.later HD.out lt_) ((OwnR.later O11.out lt_).weaken (Nat.zero_le _)) HSD.out HSCC.out (by omega) (by omega) true (by rw [HDC.out]; simp)).mono ?_
          rintro e w12 ⟨rfl, b12⟩
          have l12 : Later wx w12 := Later.trans lt_ b12
          refine hK.out _ _ ?_ (fun hHeld => ?_)
          · exact HT1.out _ lt_
          clear hK K
          try simp only [Act.put, List.setIfInBounds_toArray, List.set_cons_zero, List.set_cons_succ]
          refine tkA 66 10 ?_
          try simp only [Act.put, List.setIfInBounds_toArray, List.set_cons_zero, List.set_cons_succ]
          refine tkA 67 11 ?_
          try simp only [Act.put, List.setIfInBounds_toArray, List.set_cons_zero, List.set_cons_succ]
          refine tkA 68 12 ?_
          try simp only [Act.put, List.setIfInBounds_toArray, List.set_cons_zero, List.set_cons_succ]
          refine tkA 69 13 ?_
          try simp only [Act.put, List.setIfInBounds_toArray, List.set_cons_zero, List.set_cons_succ]
          refine tkA 70 14 ?_
          try simp only [Act.put, List.setIfInBounds_toArray, List.set_cons_zero, List.set_cons_succ]
          refine wpAnyN_ready (rs := [15]) (by kernel_rfl) (by simp) ?_
          refine AllReadyN.held rfl (by rfl) (fun K hK => ?_) AllReadyN.nil
          go_simp
          refine (pfulfils_calls _ _ _ _ _ _ _ _ _ _ _ _ _ _ _ _ 1 (bareP P) (HB.out.later lt_) _ P.lo 1 (HB.out.later lt_).lo (by omega)).mono ?_
          rintro e w13 ⟨rfl, b13⟩
          rw [HFL.out]
          have l13 : Later wx w13 := Later.trans lt_ b13
          refine hK.out _ _ ?_ (fun hHeld => ?_)
          · exact HT1.out _ lt_
          clear hK K
          try simp only [Act.put, List.setIfInBounds_toArray, List.set_cons_zero, List.set_cons_succ]
          refine tkA 72 16 ?_
          try simp only [Act.put, List.setIfInBounds_toArray, List.set_cons_zero, List.set_cons_succ]
          refine tkA 73 17 ?_
          try simp only [Act.put, List.setIfInBounds_toArray, List.set_cons_zero, List.set_cons_succ]
          refine tkA 74 18 ?_
          try simp only [Act.put, List.setIfInBounds_toArray, List.set_cons_zero, List.set_cons_succ]
          refine tkA 75 19 ?_
          try simp only [Act.put, List.setIfInBounds_toArray, List.set_cons_zero, List.set_cons_succ]
          refine tkA 76 20 ?_
          try simp only [Act.put, List.setIfInBounds_toArray, List.set_cons_zero, List.set_cons_succ]
          refine wpAnyN_ready (rs := [21]) (by kernel_rfl) (by simp) ?_
          refine AllReadyN.held rfl (by rfl) (fun K hK => ?_) AllReadyN.nil
          go_simp
          refine (pfulfils_calls _ _ _ _ _ _ _ _ _ _ _ _ _ _ _ _ 1 (bareP P) (HB.out.later lt_) _ P.hi 1 (HB.out.later lt_).hi (by omega)).mono ?_
          rintro e w14 ⟨rfl, b14⟩
          rw [HFH.out]
          have l14 : Later wx w14 := Later.trans lt_ b14
          refine hK.out _ _ ?_ (fun hHeld => ?_)
          · exact HT1.out _ lt_
          clear hK K
          try simp only [Act.put, List.setIfInBounds_toArray, List.set_cons_zero, List.set_cons_succ]
          refine tkA 78 22 ?_
          try simp only [Act.put, List.setIfInBounds_toArray, List.set_cons_zero, List.set_cons_succ]
          refine tkA 79 23 ?_
          try simp only [Act.put, List.setIfInBounds_toArray, List.set_cons_zero, List.set_cons_succ]
          refine wpAnyN_ready (rs := [24]) (by kernel_rfl) (by simp) ?_
          refine AllReadyN.held rfl (by rfl) (fun K hK => ?_) AllReadyN.nil
          go_simp
          refine (anyopen_calls _ _ _ _ _ _ _ _ _ _ _ _ _ _ _ _ 1 P (HI.out.later lt_)).mono ?_
          rintro e w15 ⟨rfl, b15⟩
          rw [HAO.out]
          have l15 : Later wx w15 := Later.trans lt_ b15
          refine hK.out _ _ ?_ (fun hHeld => ?_)
          · exact HT1.out _ lt_
          clear hK K
          try simp only [Act.put, List.setIfInBounds_toArray, List.set_cons_zero, List.set_cons_succ]
          refine tkA 81 25 ?_
          try simp only [Act.put, List.setIfInBounds_toArray, List.set_cons_zero, List.set_cons_succ]
          refine tkA 82 26 ?_
          try simp only [Act.put, List.setIfInBounds_toArray, List.set_cons_zero, List.set_cons_succ]
          refine tkA 4 27 ?_
          try simp only [Act.put, List.setIfInBounds_toArray, List.set_cons_zero, List.set_cons_succ]
          refine wpAnyN_done (by kernel_rfl) ?_ _
          have LE := hide (HLx.out.trans (show Later wx w15 from lt_))
          clear hHeld
          go_wp2_with fail
          go_ret
          exact ⟨rfl, B0.out.trans LE.out⟩
end Go.Proofs.YtfokplidiboabaaGreat

/- FormCosts returns true for every input, and each argument reads behind the call as it read before. No condition. -/
set_option linter.unusedVariables false
namespace Go.Proofs.YtfokplidiboabaaGreat
open Go.ChangeShapes Go.WideShapes Go.ChangeAt Go.RowKit

theorem formcosts_own : ownKnob Tryz.prog.godebug = none := by kernel_rfl
theorem formcosts_laid : laidOutB Tryz.prog = true := by kernel_rfl

set_option maxRecDepth 100000 in
theorem formcosts_lifted (os : Os) (started : os.Started) (H : Type) (enc : TypeId × Value → H) :
    ReturnsInHanded {} Tryz.checked os 6 .any (Rows.formCostsSpec.pre6 enc Tryz.prog Tryz.f6 Rows.formCostsRow.domain false) (Rows.formCostsSpec.post enc Tryz.prog Tryz.f6 false true false false) := by
  refine returnsInHanded_of_change (C := Tryz.checked) formcosts_own started (by kernel_rfl) Tryz.func6
    (ChangeSpec.witness6 (enc := enc) (C := Tryz.checked) false ⟨#[], #[.agg #[.slice none 0 0, .slice none 0 0, .slice none 0 0, .slice none 0 0, .slice none 0 0], .slice none 0 0], []⟩ 8 (by kernel_rfl) (by kernel_rfl) (by kernel_rfl) (by kernel_rfl)) ?_
  intro W base args ds gs before hval0 hW hcnd _
  have hval : ∀ (j : Nat) t v, Tryz.f6.params[j]? = some t → args[j]? = some v → Value.okWide Tryz.prog W .any base t v := hval0
  have hW' := hW
  obtain ⟨p, q, hA0, hV, rfl, hfz, hnd⟩ := hW
  have hA : DataW.TrodAll enc Tryz.prog W 0 (fun _ => true) true Tryz.f6.params.toList args.toList ds p := hA0
  rw [Tryz.params6] at hA hval
  obtain ⟨v0, vs0, d0, ds0, p0, q0, hargs, rfl, rfl, h0, r0⟩ := trodAll_cons hA
  obtain ⟨v1, vs1, d1, ds1, p1, q1, rfl, rfl, rfl, h1, r1⟩ := trodAll_cons r0
  obtain ⟨rfl, rfl, rfl⟩ := trodAll_nil r1
  obtain rfl : args = #[v0, v1] := by cases args; simp_all
  obtain ⟨rfl, rfl⟩ := trodVars_none hV
  have k0 := h0
  have lt0 : ∀ x ∈ p0, x.block < W.heap.size := by obtain ⟨m, hm⟩ := k0; exact DataW.trod_lt m _ _ _ hm
  have ha0 := arg_lp (hval 0 _ v0 rfl rfl) h0
  have k1 := h1
  have lt1 : ∀ x ∈ p1, x.block < W.heap.size := by obtain ⟨m, hm⟩ := k1; exact DataW.trod_lt m _ _ _ hm
  obtain ⟨a1, ha1⟩ := arg_rats (hval 1 _ v1 rfl rfl) h1
  clear hA0 hval0
  refine (formcosts_walk W v0 v1 a1 ha0 ha1).mono fun e W' ⟨he, bel⟩ => ?_
  subst he
  exact ⟨_, rfl, _, _, _, [], _, [], hW', trodAll_mk1 (shut_bool Tryz.underlying4 _), (trodAll_cons_mk (Below.trod formcosts_laid (by kernel_rfl) (of_decide_eq_true (by kernel_rfl)) k0 bel lt0) (trodAll_cons_mk (Below.trod formcosts_laid (by kernel_rfl) (of_decide_eq_true (by kernel_rfl)) k1 bel lt1) trodAll_mk0)), rfl, Below.frame bel _, fun h => by cases h⟩

/-- the statement -/
theorem formcosts_holds : Rows.FormCostsSaid :=
  OpenClaim.holds_of_wide 6 Tryz.f6 rfl rfl rfl rfl rfl rfl rfl ⟨rfl, rfl, rfl, rfl, rfl⟩ rfl rfl rfl rfl rfl (by kernel_rfl) Tryz.func6 (by kernel_rfl)
    (of_decide_eq_true (by kernel_rfl)) (by unfold Func.isWrapper; first | (rw [if_pos (by decide +kernel)]; kernel_rfl) | (rw [if_neg (by decide +kernel)]; exact ⟨rfl, rfl⟩))
    (fun os started H enc _ => formcosts_lifted os started H enc)
#print axioms formcosts_holds
end Go.Proofs.YtfokplidiboabaaGreat

