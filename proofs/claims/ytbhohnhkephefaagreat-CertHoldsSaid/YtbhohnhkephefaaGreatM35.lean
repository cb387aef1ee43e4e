import Derived.Test.YtbhohnhkephefaaGreatM34

/- Proofs of standard forms: the reference's Endless, Proves, Few. -/
set_option linter.unusedVariables false
set_option linter.unusedSimpArgs false
set_option maxRecDepth 100000
namespace Go.Proofs.YtbhohnhkephefaaGreat
open Go.RowKit Go.Shelf
attribute [local go_sem ↓] Go.wp_at_zero Go.wp_at_succ

set_option maxHeartbeats 8000000 in
theorem rendless_calls (w : World) (vA vB vC vy vr : Value) (k m p : Nat) (A : List (List Rat)) (B C y r : List Rat) (ok : Bool) (hs : StdIn w vA vB vC k A B C ok) (hy : Rats (ERaw m) w vy y) (hr : Rats (ERaw p) w vr r) (hm : m ≤ 1000) (hp : p ≤ 1000) (hyl : y.length ≤ 1000) (hrl : r.length ≤ 1000) :
    Calls Tryz.prog 22 #[.agg #[vA, vB, vC], vy, vr] w (RetV w (.bool (endlessB A B C ok y r))) := by
  have HS := hide hs; have HSZ := hide hs.sizes
  obtain ⟨A1, n1, c1, A2, n2, c2, A3, n3, c3, rfl, rfl, rfl, hn1, hn2, hn3⟩ := hs.form
  have HN1 := hide hn1; have HN2 := hide hn2; have HN3 := hide hn3
  clear hs hn1 hn2 hn3
  have HY := hide hy
  obtain ⟨A4, n4, c4, rfl, hn4, -⟩ := hy.form
  have HN4 := hide hn4; have HYS := hide hy.sized
  clear hy hn4
  have HR := hide hr
  obtain ⟨A5, n5, c5, rfl, hn5, -⟩ := hr.form
  have HN5 := hide hn5; have HRS := hide hr.sized
  clear hr hn5
  have HYL := hide hyl; have HRL := hide hrl
  clear hyl hrl
  obtain ⟨u1, hu1⟩ : ∃ u, fulfB A B C ok y = u := ⟨_, rfl⟩
  have HU1 := hide hu1
  clear hu1
  obtain ⟨W0, hW0⟩ : ∃ W0, W0 = w.alloc (Obj.cells #[Value.slice A1 n1 c1, Value.slice A2 n2 c2, Value.slice A3 n3 c3] 25) := ⟨_, rfl⟩
  obtain ⟨hb0, r1, hsz0⟩ := boxes1 w [.slice A1 n1 c1, .slice A2 n2 c2, .slice A3 n3 c3] 25 hW0
  have B0 := hide hb0; have HW0 := hide hW0; have R0 := hide r1
  have d1 := r1.cell (i := 0) rfl; have d2 := r1.cell (i := 1) rfl; have d3 := r1.cell (i := 2) rfl
  clear r1 hb0 hW0 hsz0
  go_enter Tryz.func22, Tryz.ntmps22
  go_upto_region 1 with fail
  rw [← HW0.out]
  go_wp2_with fail
  clear d1 d2 d3
  refine (rfulfils_calls W0 _ _ _ _ k m A B C y ok (HS.out.later B0.out) (HY.out.later ERaw.later B0.out) hm HYL.out).mono ?_
  rintro e w1 ⟨rfl, b1⟩
  rw [HU1.out]
  have HL1 := hide b1
  have hrs := R0.out.later HL1.out
  have d1 := hrs.cell (i := 0) rfl; have d2 := hrs.cell (i := 1) rfl; have d3 := hrs.cell (i := 2) rfl
  clear hrs
  clear b1
  cases u1 with
  | false =>
    go_wp2_with fail
    go_ret
    exact ⟨by unfold endlessB; rw [HU1.out]; rfl, B0.out.trans HL1.out⟩
  | true =>
  have HFF := hide (fulfB_facts HU1.out)
  have HRF := hide (rightB_facts HFF.out.1)
  by_cases hlen : n5 = n3
  rotate_left
  · have t1 : ((n5 : Int) != (n3 : Int)) = true := by rw [bne_iff_ne]; omega
    have HF : Hid (endlessB A B C ok y r = false) := hide (by unfold endlessB; rw [HU1.out, show decide (r.length = C.length) = false by simp; rw [← HN5.out, ← HN3.out]; exact hlen]; rfl)
    go_wp2_with fail
    go_ret
    exact ⟨by rw [HF.out]; rfl, B0.out.trans HL1.out⟩
  have t1 : ((n5 : Int) != (n3 : Int)) = false := by rw [hlen]; simp
  have HRC : Hid (r.length = C.length) := hide (by rw [← HN5.out, ← HN3.out]; exact hlen)
  clear hlen
  obtain ⟨u2, hu2⟩ : ∃ u, (!r.any fun x => decide (x < 0)) = u := ⟨_, rfl⟩
  have HU2 := hide hu2
  clear hu2
  go_wp2_with fail
  ((with_reducible refine (notbelow_calls w1 _ r p (by omega) (HR.out.later ERaw.later (B0.out.trans HL1.out)) (by have := HRL.out; omega) u2 HU2.out).mono ?_); rintro e w2 ⟨rfl, b2⟩)
  have HL2 := hide (HL1.out.trans b2)
  clear b2 d1 d2 d3
  cases u2 with
  | false =>
    go_wp2_with fail
    go_ret
    exact ⟨by unfold endlessB; rw [HU1.out, HU2.out]; simp, B0.out.trans HL2.out⟩
  | true =>
  have HR0 : Hid (endlessB A B C ok y r = (comesB A r (List.replicate A.length 0) && decide (dotL C r < 0))) := hide (by unfold endlessB; rw [HU1.out, HU2.out, show decide (r.length = C.length) = true by simpa using HRC.out]; rfl)
  have hn1 : n1 ≤ 64 := by rw [HN1.out]; exact HRF.out.1
  go_wp2_with fail
  go_loopw [7] (fun i wr => ∃ j : Nat, j ≤ n1 ∧ i = .int .i64 (j : Int) ∧ Hid (∀ (i : Nat) q, i < j → A[i]? = some q → dotL q r = 0) ∧ Later W0 wr) (fun i _ => (n1 - intOf i).toNat)
  case atStart => exact ⟨0, by omega, rfl, hide fun i q hi => by omega, HL2.out⟩
  case round =>
    obtain ⟨j, hj, rfl, hpre, hL⟩ := hrel
    have HLW := hide hL
    clear hL
    have hrs := R0.out.later HLW.out
    have d1 := hrs.cell (i := 0) rfl; have d2 := hrs.cell (i := 1) rfl; have d3 := hrs.cell (i := 2) rfl
    clear hrs
    by_cases hjn : j < n1
    · obtain ⟨row, hrow⟩ : ∃ x, A[j]? = some x := ⟨A[j]'(by have := HN1.out; omega), List.getElem?_eq_getElem _⟩
      obtain ⟨b1, off1, A7, n7, c7, rfl, x0, hrr⟩ := (HS.out.later (B0.out.trans HLW.out)).tab.at_ hrow
      have HROWR : Hid (Rats (ERaw k) wr (.slice A7 n7 c7) row) := hide hrr
      have HROW := hide hrow
      have hrl := HRF.out.2.2.2.1 row (List.mem_of_getElem? hrow)
      have HRL2 : Hid (row.length = r.length) := hide (by rw [hrl, HRC.out])
      have hj0 : (0 : Int) ≤ (j : Int) := by omega
      have hj1 : (j : Int) < n1 := by omega
      clear hrr hrow hrl
      go_wp2_with fail
      ((with_reducible refine (qdot_calls wr _ _ row r k p HROWR.out (HR.out.later ERaw.later (B0.out.trans HLW.out)) HRL2.out (dot_bound3 (by rw [HRL2.out]; exact HRL.out) HSZ.out.1 hp)).mono ?_); rintro e w9 ⟨v9, ok9, rfl, ⟨o9, rfl⟩, b9⟩)
      obtain ⟨s9, P9, q9, e9, P9', q9', e9', rfl, o9⟩ := o9.open_; have O9 := hide o9; clear o9
      have HL9 := hide (HLW.out.trans b9)
      clear d1 d2 d3 x0 b9
      go_upto_region 7 with fail
      obtain ⟨W9, hW9⟩ : ∃ W9, W9 = w9.alloc (Obj.cells #[Value.bool s9, Value.slice P9 q9 e9, Value.bool false, Value.slice P9' q9' e9'] 33) := ⟨_, rfl⟩
      obtain ⟨g9, hg9⟩ : ∃ g9, g9 = w9.heap.size := ⟨_, rfl⟩
      have hb : Later w9 W9 := by rw [hW9]; exact (Later.refl _).alloc _
      have hr : Row W9 g9 33 [.bool s9, .slice P9 q9 e9, .bool false, .slice P9' q9' e9'] := by rw [hW9, hg9]; exact Row.new _ _ _
      rw [← hW9, ← hg9]
      have HL10 := hide (HL9.out.trans hb)
      have HDR : Hid (RawR W9 (.agg #[.bool s9, .slice P9 q9 e9, .bool false, .slice P9' q9' e9']) (dotL row r) 3100000) := hide (OwnR.raw (OwnR.later O9.out hb) ((sized_dotL HROWR.out.sized HRS.out).mono (by rw [HRL2.out]; exact dot_bound2 HRL.out HSZ.out.1 hp)))
      obtain ⟨d1, d2, d3, d4, -⟩ := row_cells4 hr
      obtain ⟨cz, hcz⟩ : ∃ cz, cmpQ (dotL row r) 0 = cz := ⟨_, rfl⟩
      have HCZ := hide hcz
      clear hb hr hW9 hg9 hcz
      go_wp2_with fail
      ((with_reducible refine (sign_calls W9 _ (dotL row r) 3100000 HDR.out (by omega) cz HCZ.out).mono ?_); rintro e w10 ⟨rfl, b10⟩)
      have hL8 := hide (HL10.out.trans b10)
      clear b10
      by_cases hz : cz = 0
      · have tz : (cz != 0) = false := by simp [hz]
        have tz2 : (cz == 0) = true := by simp [hz]
        have HN : Hid (∀ (i : Nat) q, i < j + 1 → A[i]? = some q → dotL q r = 0) := hide fun i q hi hq => by
          by_cases hij : i < j
          · exact hpre.out i q hij hq
          · obtain rfl : i = j := by omega
            rw [HROW.out] at hq; injection hq with hq
            have := cmp_eq0 HCZ.out
            rw [tz2] at this
            rw [← hq]; simpa using this.symm
        subst hz
        go_wp2_with fail
        exact ⟨⟨j+1, by omega, by go_num, HN, hL8.out⟩, by simp [intOf]; omega⟩
      · have tz : (cz != 0) = true := by simp [hz]
        have tz2 : (cz == 0) = false := by simp [hz]
        have HF : Hid (comesB A r (List.replicate A.length 0) = false) := hide (by
          refine comesB_false HROW.out (x := 0) ?_ ?_
          · rw [List.getElem?_replicate, if_pos (List.getElem?_eq_some_iff.1 HROW.out).1]
          · have := cmp_eq0 HCZ.out
            rw [tz2] at this
            simpa using this.symm)
        go_wp2_with fail
        go_ret
        exact ⟨by rw [HR0.out, HF.out]; rfl, B0.out.trans hL8.out⟩
    · obtain rfl : n1 = j := by omega
      have HF : Hid (comesB A r (List.replicate A.length 0) = true) := hide (comesB_true fun i q x hr hx => by
        rw [List.getElem?_replicate] at hx
        split at hx
        · injection hx with hx
          rw [← hx]; exact hpre.out i q (by rw [HN1.out]; exact (List.getElem?_eq_some_iff.1 hr).1) hr
        · cases hx)
      clear hpre
      go_wp2_with fail
      ((with_reducible refine (qdot_calls wr _ _ C r k p (HS.out.later (B0.out.trans HLW.out)).c (HR.out.later ERaw.later (B0.out.trans HLW.out)) HRC.out.symm (dot_bound3 HSZ.out.2.2.2.2 HSZ.out.1 hp)).mono ?_); rintro e w3 ⟨v3, ok3, rfl, ⟨o3, rfl⟩, b3⟩)
      obtain ⟨s3, P3, q3, e3, P3', q3', e3', rfl, o3⟩ := o3.open_; have O3 := hide o3; clear o3
      have HL3 := hide (HLW.out.trans b3)
      clear b3 d1 d2 d3
      go_upto_region 10 with fail
      obtain ⟨W3, hW3⟩ : ∃ W3, W3 = w3.alloc (Obj.cells #[Value.bool s3, Value.slice P3 q3 e3, Value.bool false, Value.slice P3' q3' e3'] 33) := ⟨_, rfl⟩
      obtain ⟨g3, hg3⟩ : ∃ g3, g3 = w3.heap.size := ⟨_, rfl⟩
      have hb : Later w3 W3 := by rw [hW3]; exact (Later.refl _).alloc _
      have hr : Row W3 g3 33 [.bool s3, .slice P3 q3 e3, .bool false, .slice P3' q3' e3'] := by rw [hW3, hg3]; exact Row.new _ _ _
      rw [← hW3, ← hg3]
      have HO3 := hide (OwnR.later O3.out hb)
      have HLA := hide (HL3.out.trans hb)
      have HD3 : Hid (RawR W3 (.agg #[.bool s3, .slice P3 q3 e3, .bool false, .slice P3' q3' e3']) (dotL C r) 3100000) := hide (OwnR.raw HO3.out ((sized_dotL (HS.out.c).sized HRS.out).mono (dot_bound2 HSZ.out.2.2.2.2 HSZ.out.1 hp)))
      obtain ⟨d1, d2, d3, d4, -⟩ := row_cells4 hr
      obtain ⟨cz, hcz⟩ : ∃ cz, cmpQ (dotL C r) 0 = cz := ⟨_, rfl⟩
      have HCZ := hide hcz
      clear hb hr hW3 hg3 hcz
      go_wp2_with fail
      ((with_reducible refine (sign_calls W3 _ (dotL C r) 3100000 HD3.out (by omega) cz HCZ.out).mono ?_); rintro e w5 ⟨rfl, b5⟩)
      have HL5 := hide (HLA.out.trans b5)
      clear b5
      go_wp2_with fail
      go_ret
      exact ⟨by rw [HR0.out, HF.out, ← cmp0_lt HCZ.out]; rfl, B0.out.trans HL5.out⟩


set_option maxHeartbeats 16000000 in
theorem rproves_calls (w : World) (vA vB vC : Value) (k : Nat) (A : List (List Rat)) (B C : List Rat) (ok : Bool) (hs : StdIn w vA vB vC k A B C ok) (how : Int) (A5 A6 A7 A8 A9 A10 : Option Addr) (n5 n6 n7 n8 n9 n10 c5 c6 c7 c8 c9 c10 : Nat) (sv sv' : Bool) (y u r : List Rat) (z : Rat)
    (hy : Rats (ERaw 1) w (.slice A6 n6 c6) y) (hz : RawR w (.agg #[.bool sv, .slice A7 n7 c7, .bool sv', .slice A8 n8 c8]) z 1) (hu : Rats (ERaw 1) w (.slice A9 n9 c9) u) (hr : Rats (ERaw 1) w (.slice A10 n10 c10) r) (hyl : y.length ≤ 1000) (hul : u.length ≤ 1000) (hrl : r.length ≤ 1000) :
    Calls Tryz.prog 24 #[.agg #[vA, vB, vC], .agg #[.int .i64 how, .slice A5 n5 c5, .slice A6 n6 c6, .bool sv, .slice A7 n7 c7, .bool sv', .slice A8 n8 c8, .slice A9 n9 c9, .slice A10 n10 c10]] w (RetV w (.bool (provesB A B C ok how y z u r))) := by
  have HS := hide hs; have HSZ := hide hs.sizes
  obtain ⟨A1, n1, c1, A2, n2, c2, A3, n3, c3, rfl, rfl, rfl, hn1, hn2, hn3⟩ := hs.form
  have HN1 := hide hn1; have HN2 := hide hn2; have HN3 := hide hn3
  clear hs hn1 hn2 hn3
  have HY := hide hy; have HU := hide hu; have HR := hide hr; have HZ := hide hz; have HYL := hide hyl; have HUL := hide hul; have HRL := hide hrl
  clear hy hu hr hz hyl hul hrl
  obtain ⟨W0, hW0⟩ : ∃ W0, W0 = (w.alloc (Obj.cells #[Value.slice A1 n1 c1, Value.slice A2 n2 c2, Value.slice A3 n3 c3] 25)).alloc (Obj.cells #[Value.int .i64 how, Value.slice A5 n5 c5, Value.slice A6 n6 c6, Value.bool sv, Value.slice A7 n7 c7, Value.bool sv', Value.slice A8 n8 c8, Value.slice A9 n9 c9, Value.slice A10 n10 c10] 35) := ⟨_, rfl⟩
  obtain ⟨hb0, r1, r2, hsz0⟩ := boxes2 w [.slice A1 n1 c1, .slice A2 n2 c2, .slice A3 n3 c3] [.int .i64 how, .slice A5 n5 c5, .slice A6 n6 c6, .bool sv, .slice A7 n7 c7, .bool sv', .slice A8 n8 c8, .slice A9 n9 c9, .slice A10 n10 c10] 25 35 hW0
  have B0 := hide hb0; have HW0 := hide hW0; have R0 := hide r1; have R1 := hide r2
  have d3 := r1.cell (i := 2) rfl; have f2 := r2.cell (i := 2) rfl
  clear r1 r2 hb0 hW0 hsz0
  go_enter Tryz.func24, Tryz.ntmps24
  go_upto_region 1 with fail
  rw [← HW0.out]
  go_wp2_with fail
  ((with_reducible refine (qdotd_calls W0 _ _ C y k 1 (HS.out.later B0.out).c (HY.out.later ERaw.later B0.out) (dot_bound3 (m := 1) HSZ.out.2.2.2.2 HSZ.out.1 (by omega))).mono ?_); rintro e w1 ⟨v1, ok1, rfl, ⟨o1, rfl⟩, b1⟩)
  obtain ⟨s1, P1, q1, e1, P1', q1', e1', rfl, o1⟩ := o1.open_; have O1 := hide o1; clear o1
  have HL1 := hide b1
  clear d3 f2 b1
  go_upto_region 2 with fail
  obtain ⟨W1, hW1⟩ : ∃ W1, W1 = w1.alloc (Obj.cells #[Value.bool s1, Value.slice P1 q1 e1, Value.bool false, Value.slice P1' q1' e1'] 33) := ⟨_, rfl⟩
  obtain ⟨g1, hg1⟩ : ∃ g1, g1 = w1.heap.size := ⟨_, rfl⟩
  have hb : Later w1 W1 := by rw [hW1]; exact (Later.refl _).alloc _
  have hr : Row W1 g1 33 [.bool s1, .slice P1 q1 e1, .bool false, .slice P1' q1' e1'] := by rw [hW1, hg1]; exact Row.new _ _ _
  rw [← hW1, ← hg1]
  have HL2 := hide (HL1.out.trans hb)
  have HR1 := hide hr
  have HO := hide (OwnR.later O1.out hb)
  have hrs := R0.out.later HL2.out
  have d1 := hrs.cell (i := 0) rfl; have d2 := hrs.cell (i := 1) rfl; have d3 := hrs.cell (i := 2) rfl
  clear hrs
  have hrt := R1.out.later HL2.out
  have f0 := hrt.cell (i := 0) rfl; have f1 := hrt.cell (i := 1) rfl; have f2 := hrt.cell (i := 2) rfl; have f3 := hrt.cell (i := 3) rfl; have f4 := hrt.cell (i := 4) rfl; have f5 := hrt.cell (i := 5) rfl; have f6 := hrt.cell (i := 6) rfl; have f7 := hrt.cell (i := 7) rfl; have f8 := hrt.cell (i := 8) rfl
  clear hrt
  clear hb hr hW1 hg1
  by_cases k0 : how = 0
  · subst k0
    obtain ⟨u1, hu1⟩ : ∃ u1, bestB A B C ok y u = u1 := ⟨_, rfl⟩
    have HU1 := hide hu1
    clear hu1
    go_wp2_with fail
    refine (rbest_calls W1 _ _ _ _ _ k 1 1 A B C y u ok (HS.out.later (B0.out.trans HL2.out)) (HY.out.later ERaw.later (B0.out.trans HL2.out)) (HU.out.later ERaw.later (B0.out.trans HL2.out)) (by omega) (by omega) HYL.out HUL.out).mono ?_
    rintro e w2 ⟨rfl, b2⟩
    rw [HU1.out]
    have HL3 := hide (HL2.out.trans b2)
    obtain ⟨x0, x1, x2, x3, -⟩ := row_cells4 (HR1.out.later b2)
    have HO2 := hide (OwnR.later HO.out b2)
    clear b2 d1 d2 d3 f0 f1 f2 f3 f4 f5 f6 f7 f8
    have hrt := R1.out.later HL3.out
    have f0 := hrt.cell (i := 0) rfl; have f1 := hrt.cell (i := 1) rfl; have f2 := hrt.cell (i := 2) rfl; have f3 := hrt.cell (i := 3) rfl; have f4 := hrt.cell (i := 4) rfl; have f5 := hrt.cell (i := 5) rfl; have f6 := hrt.cell (i := 6) rfl; have f7 := hrt.cell (i := 7) rfl; have f8 := hrt.cell (i := 8) rfl
    clear hrt
    cases u1 with
    | false =>
      go_wp2_with fail
      go_ret
      exact ⟨by unfold provesB; rw [if_pos rfl, HU1.out]; rfl, B0.out.trans HL3.out⟩
    | true =>
    have HDR : Hid (RawR w2 (.agg #[.bool s1, .slice P1 q1 e1, .bool false, .slice P1' q1' e1']) (dotD C y) 3100000) := hide (OwnR.raw HO2.out ((sized_dotD (HS.out.c).sized HY.out.sized).mono (dot_bound2 (m := 1) HSZ.out.2.2.2.2 HSZ.out.1 (by omega))))
    obtain ⟨cz, hcz⟩ : ∃ cz, cmpQ (dotD C y) z = cz := ⟨_, rfl⟩
    have HCZ := hide hcz
    clear hcz
    go_wp2_with fail
    ((with_reducible refine (qcmp_calls w2 _ _ (dotD C y) z 3100000 1 HDR.out (RawR.later HZ.out (B0.out.trans HL3.out)) (by omega)).mono ?_); rintro e w3 ⟨rfl, b3⟩; rw [HCZ.out])
    have HL4 := hide (HL3.out.trans b3)
    clear b3 f0 f1 f2 f3 f4 f5 f6 f7 f8 x0 x1 x2 x3
    have hrt := R1.out.later HL4.out
    have f0 := hrt.cell (i := 0) rfl; have f1 := hrt.cell (i := 1) rfl; have f2 := hrt.cell (i := 2) rfl; have f3 := hrt.cell (i := 3) rfl; have f4 := hrt.cell (i := 4) rfl; have f5 := hrt.cell (i := 5) rfl; have f6 := hrt.cell (i := 6) rfl; have f7 := hrt.cell (i := 7) rfl; have f8 := hrt.cell (i := 8) rfl
    clear hrt
    obtain ⟨tz, htz⟩ : ∃ tz, (cz == 0) = tz := ⟨_, rfl⟩
    have HTZ : Hid (decide (dotD C y = z) = tz) := hide (by rw [← cmp_eq0 HCZ.out]; exact htz)
    cases tz with
    | false =>
      go_wp2_with fail
      go_ret
      exact ⟨by unfold provesB; rw [if_pos rfl, HU1.out, HTZ.out]; rfl, B0.out.trans HL4.out⟩
    | true =>
      go_wp2_with fail
      go_ret
      exact ⟨by unfold provesB; rw [if_pos rfl, HU1.out, HTZ.out]; rfl, B0.out.trans HL4.out⟩
  have t0 : (how == 0) = false := by simp [k0]
  by_cases k1 : how = 1
  · subst k1
    obtain ⟨u1, hu1⟩ : ∃ u1, noneB A B C ok u = u1 := ⟨_, rfl⟩
    have HU1 := hide hu1
    clear hu1
    go_wp2_with fail
    refine (rnone_calls W1 _ _ _ _ k 1 A B C u ok (HS.out.later (B0.out.trans HL2.out)) (HU.out.later ERaw.later (B0.out.trans HL2.out)) (by omega) HUL.out).mono ?_
    rintro e w2 ⟨rfl, b2⟩
    rw [HU1.out]
    have HL3 := hide (HL2.out.trans b2)
    clear b2 d1 d2 d3 f0 f1 f2 f3 f4 f5 f6 f7 f8
    have hrt := R1.out.later HL3.out
    have f0 := hrt.cell (i := 0) rfl; have f1 := hrt.cell (i := 1) rfl; have f2 := hrt.cell (i := 2) rfl; have f3 := hrt.cell (i := 3) rfl; have f4 := hrt.cell (i := 4) rfl; have f5 := hrt.cell (i := 5) rfl; have f6 := hrt.cell (i := 6) rfl; have f7 := hrt.cell (i := 7) rfl; have f8 := hrt.cell (i := 8) rfl
    clear hrt
    cases u1 with
    | false =>
      go_wp2_with fail
      go_ret
      exact ⟨by unfold provesB; rw [if_neg (by decide), if_pos rfl, HU1.out]; rfl, B0.out.trans HL3.out⟩
    | true =>
      go_wp2_with fail
      go_ret
      exact ⟨by unfold provesB; rw [if_neg (by decide), if_pos rfl, HU1.out]; rfl, B0.out.trans HL3.out⟩
  have t1 : (how == 1) = false := by simp [k1]
  by_cases k2 : how = 2
  · subst k2
    go_wp2_with fail
    refine (rendless_calls W1 _ _ _ _ _ k 1 1 A B C y r ok (HS.out.later (B0.out.trans HL2.out)) (HY.out.later ERaw.later (B0.out.trans HL2.out)) (HR.out.later ERaw.later (B0.out.trans HL2.out)) (by omega) (by omega) HYL.out HRL.out).mono ?_
    rintro e w2 ⟨rfl, b2⟩
    have HL3 := hide (HL2.out.trans b2)
    clear b2
    go_wp2_with fail
    go_ret
    exact ⟨by unfold provesB; rw [if_neg (by decide), if_neg (by decide), if_pos rfl]; rfl, B0.out.trans HL3.out⟩
  have t2 : (how == 2) = false := by simp [k2]
  have HF : Hid (provesB A B C ok how y z u r = false) := hide (by unfold provesB; rw [if_neg k0, if_neg k1, if_neg k2])
  go_wp2_with fail
  go_ret
  exact ⟨by rw [HF.out]; rfl, B0.out.trans HL2.out⟩

theorem tab_lens {E F : Elem} {w : World} {v : Value} {t ft : List (List Rat)} {m : Nat} (h : Tab E w v t) (g : Tab F w v ft) (hl : ∀ r ∈ t, r.length ≤ m) : ft.length = t.length ∧ ∀ r ∈ ft, r.length ≤ m := by
  obtain ⟨A, n, c, rfl, hn, -, -, -⟩ := h.form
  have hn2 : n = ft.length := by obtain ⟨_, _, _, e, e2, -, -, -⟩ := g.form; injection e with _ e _; rw [e, e2]
  refine ⟨by omega, fun f hf => ?_⟩
  obtain ⟨i, hi⟩ := List.getElem?_of_mem hf
  have hil := (List.getElem?_eq_some_iff.1 hi).1
  obtain ⟨row, hrow⟩ : ∃ x, t[i]? = some x := ⟨t[i]'(by omega), List.getElem?_eq_getElem _⟩
  obtain ⟨b, off, A', n', c', rfl, x1, x2⟩ := h.at_ hrow
  obtain ⟨b', off', A'', n'', c'', e, y1, y2⟩ := g.at_ hi
  injection e with e
  injection e with e1 e2 e3
  subst e1 e2
  rw [x1] at y1
  injection y1 with y1
  injection y1 with z1 z2 z3
  subst z1 z2 z3
  have k1 := x2.len_
  have k2 := y2.len_
  have := hl row (List.mem_of_getElem? hrow)
  omega
theorem std_in {w : World} {vA vB vC : Value} {A : List (List Rat)} {B C : List Rat} {most : Nat} (hm : most ≤ 1000) (a1 : A.length ≤ most) (a2 : ∀ row ∈ A, row.length ≤ most) (b1 : B.length ≤ most) (c1 : C.length ≤ most)
    (ha : Tab (ERaw 1) w vA A) (hb : Rats (ERaw 1) w vB B) (hc : Rats (ERaw 1) w vC C) : ∃ ok, StdIn w vA vB vC 1 A B C ok := by
  obtain ⟨fA, -, g1⟩ := tab_flags ha (by omega)
  obtain ⟨fB, -, g2⟩ := rats_flags hb (by omega)
  obtain ⟨fC, -, g3⟩ := rats_flags hc (by omega)
  have hl := tab_lens ha g1 a2
  exact ⟨_, fA, fB, fC, ha, hb, hc, g1, g2, g3, rfl, by omega, fun r hr => by have := a2 r hr; omega, fun r hr => by have := hl.2 r hr; omega, by omega, by omega, by omega⟩
/-- what is told of a small problem in standard form -/
def FewStd (w : World) (vA vB vC : Value) (A : List (List Rat)) (B C : List Rat) (most : Nat) (e : Ending) (w' : World) : Prop :=
  ∃ u, e = .returned (.bool u) ∧ (u = true → A.length ≤ most ∧ B.length ≤ most ∧ C.length ≤ most ∧ ∃ ok, StdIn w' vA vB vC 1 A B C ok) ∧ Later w w'
set_option maxHeartbeats 4000000 in
theorem fewstd_calls (w : World) (vA vB vC : Value) (A : List (List Rat)) (B C : List Rat) (most : Nat) (ha : Tab EAny w vA A) (hb : Rats EAny w vB B) (hc : Rats EAny w vC C) (hm : most ≤ 1000) :
    Calls Tryz.prog 9 #[.agg #[vA, vB, vC], .int .i64 (most : Int)] w (FewStd w vA vB vC A B C most) := by
  have HA := hide ha; have HB := hide hb; have HC := hide hc
  obtain ⟨A1, n1, c1, rfl, -⟩ := ha.form
  obtain ⟨A2, n2, c2, rfl, -⟩ := hb.form
  obtain ⟨A3, n3, c3, rfl, -⟩ := hc.form
  clear ha hb hc
  obtain ⟨W0, hW0⟩ : ∃ W0, W0 = w.alloc (Obj.cells #[Value.slice A1 n1 c1, Value.slice A2 n2 c2, Value.slice A3 n3 c3] 25) := ⟨_, rfl⟩
  obtain ⟨hb0, r1, hsz0⟩ := boxes1 w [.slice A1 n1 c1, .slice A2 n2 c2, .slice A3 n3 c3] 25 hW0
  have B0 := hide hb0; have HW0 := hide hW0; have R0 := hide r1
  have d1 := r1.cell (i := 0) rfl; have d2 := r1.cell (i := 1) rfl; have d3 := r1.cell (i := 2) rfl
  clear r1 hb0 hW0 hsz0
  go_enter Tryz.func9, Tryz.ntmps9
  go_upto_region 1 with fail
  rw [← HW0.out]
  go_wp2_with fail
  refine (fewrows_calls W0 _ A most (HA.out.later EAny.later B0.out) (by omega)).mono ?_
  rintro e w1 ⟨u1, rfl, h1, rfl⟩
  have H1 := hide h1
  clear h1
  cases u1 with
  | false =>
    go_wp2_with fail
    go_ret
    exact ⟨false, rfl, (fun h => by cases h), B0.out⟩
  | true =>
  go_wp2_with fail
  refine (few_calls W0 _ B most (HB.out.later EAny.later B0.out) (by omega)).mono ?_
  rintro e w1 ⟨u2, rfl, h2, rfl⟩
  have H2 := hide h2
  clear h2
  cases u2 with
  | false =>
    go_wp2_with fail
    go_ret
    exact ⟨false, rfl, (fun h => by cases h), B0.out⟩
  | true =>
  go_wp2_with fail
  refine (few_calls W0 _ C most (HC.out.later EAny.later B0.out) (by omega)).mono ?_
  rintro e w1 ⟨u3, rfl, h3, rfl⟩
  have H3 := hide h3
  clear h3
  go_wp2_with fail
  go_ret
  refine ⟨u3, rfl, fun h => ?_, B0.out⟩
  obtain ⟨a1, a2, a3⟩ := H1.out trivial
  obtain ⟨x1, x2⟩ := H2.out trivial
  obtain ⟨y1, y2⟩ := H3.out h
  obtain ⟨ok, hok⟩ := std_in hm a1 a2 x1 y1 a3 x2 y2
  exact ⟨a1, x1, y1, ok, hok⟩
end Go.Proofs.YtbhohnhkephefaaGreat
