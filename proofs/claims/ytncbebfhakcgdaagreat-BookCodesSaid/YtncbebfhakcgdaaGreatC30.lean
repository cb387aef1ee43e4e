/- BookCodes: the walk. -/
import Derived.Test.YtncbebfhakcgdaaGreatC29
import Derived.Test.YtncbebfhakcgdaaGreatC28
set_option linter.unusedVariables false
set_option linter.unusedSimpArgs false
set_option maxRecDepth 100000
namespace Go.Proofs.YtncbebfhakcgdaaGreat
open Go.RowKit Go.Shelf
attribute [local go_sem ↓] Go.wp_at_zero Go.wp_at_succ
theorem enc_le {o : POp} {r : Option (List Int)} (h : encV o = r) : (r.getD []).length <= 1000000 := by
 cases r with
 | none => simp
 | some x =>
   obtain ⟨h1, h2⟩ := encV_eq h
   obtain ⟨hp, hl, hn⟩ := encOk_iff.1 h1
   simp only [Option.getD_some]
   rw [<- h2]
   unfold encB
   split
   ·rw [List.length_cons, List.length_append, List.length_cons, nums_len, num4_len]; omega
   ·rw [List.length_cons, nums_len]
    have : (numsOf o).length <= 1000 := by
     unfold numsOf
     split
     ·simp
     ·split
      ·simp
      ·split
       ·simp
       ·first
        | (split
           ·rw [List.length_cons]; omega
           ·simp)
        | simp
    omega
set_option maxHeartbeats 2000000 in
theorem bookcodes_walk (w : World) (v vb : Value) (h0 : ArgOp w v) (h1 : ArgBytes w vb) :
 Calls Tryz.prog 4 #[v, vb] w (RetV w (.bool true)) := by
 obtain ⟨Aq, nq, cq, o, rfl, hQ, hof, hz⟩ := h0
 obtain ⟨Ab, nb, cb, b, rfl, hB, hBY⟩ := h1
 have HQ := hide hQ; have HZ := hide hz; have HB := hide hB; have HBY := hide hBY
 have hnq : nq = o.qtys.length := by
  obtain ⟨_, _, _, e, e2, -⟩ := hQ.form
  injection e with _ e3 _; omega
 have hnb : nb = b.length := by
  obtain ⟨_, _, _, e, e2, -⟩ := hB.form
  injection e with _ e3 _; omega
 have HNQ := hide hnq; have HNB := hide hnb
 clear hQ hof hz hB hBY hnq hnb
 obtain ⟨W0, hW0⟩ : ∃ W0, W0 = (w.alloc (Obj.cells #[Value.int .i64 o.kind, Value.int .i64 o.ord.id, Value.int .i64 o.ord.item, Value.int .i64 o.ord.due, Value.int .i64 o.ord.qty, Value.int .i64 o.id, Value.int .i64 o.period, Value.int .i64 o.qty, Value.slice Aq nq cq] 31)) := ⟨_, rfl⟩
 have B0 := hide (show Later w W0 by rw [hW0]; exact (Later.refl _).alloc _)
 have HR0 := hide (show Row W0 w.heap.size 31 [.int .i64 o.kind, .int .i64 o.ord.id, .int .i64 o.ord.item, .int .i64 o.ord.due, .int .i64 o.ord.qty, .int .i64 o.id, .int .i64 o.period, .int .i64 o.qty, .slice Aq nq cq] by rw [hW0]; exact Row.new _ _ _)
 have HW0 := hide hW0
 clear hW0
 go_enter Tryz.func4, Tryz.ntmps4
 go_upto_region 1 with fail
 rw [<- HW0.out]
 go_wp2_with fail
 ((with_reducible refine (awake20_calls W0).mono ?_); rintro e w1 ⟨rfl, b1⟩)
 have HL1 := hide b1
 clear b1
 have r_y := HR0.out.later HL1.out
 have y0 := r_y.cell (i := 0) rfl; have y1 := r_y.cell (i := 1) rfl; have y2 := r_y.cell (i := 2) rfl; have y3 := r_y.cell (i := 3) rfl; have y4 := r_y.cell (i := 4) rfl; have y5 := r_y.cell (i := 5) rfl; have y6 := r_y.cell (i := 6) rfl; have y7 := r_y.cell (i := 7) rfl; have y8 := r_y.cell (i := 8) rfl
 clear r_y
 obtain ⟨uq, huq⟩ : ∃ u, decide (nq <= 100) = u := ⟨_, rfl⟩
 have HUQ := hide huq
 clear huq
 go_wp2_with fail
 ((refine (fewop2_calls _ Aq nq cq o _ HUQ.out).mono ?_); rintro e w2 ⟨rfl, b2⟩)
 have HL2 := hide (HL1.out.trans b2)
 clear b2 y0 y1 y2 y3 y4 y5 y6 y7 y8
 cases uq with
 | false =>
   go_wp2_with fail
   go_ret
   exact ⟨rfl, B0.out.trans HL2.out⟩
 | true =>
 have HQL : Hid (o.qtys.length <= 100) := hide (by have := HUQ.out; have := HNQ.out; simp at *; omega)
 by_cases gb : 1000 < nb
 ·have t1 : decide ((1000 : Int) < (nb : Int)) = true := by simp; omega
  go_wp2_with fail
  go_ret
  exact ⟨rfl, B0.out.trans HL2.out⟩
 have t1 : decide ((1000 : Int) < (nb : Int)) = false := by simp; omega
 have HBL : Hid (b.length <= 1000) := hide (by have := HNB.out; omega)
 clear gb
 obtain ⟨rx, hrx⟩ : ∃ r, encV o = r := ⟨_, rfl⟩
 obtain ⟨ce, hce⟩ : ∃ c : Int, (if rx.isSome = true then 0 else 1) = c := ⟨_, rfl⟩
 obtain ⟨ru, hru⟩ : ∃ r, decV b = r := ⟨_, rfl⟩
 obtain ⟨cd, hcd⟩ : ∃ c : Int, (if ru.isSome = true then 0 else 2) = c := ⟨_, rfl⟩
 obtain ⟨od, hod⟩ : ∃ p : POp, ru.getD oZ = p := ⟨_, rfl⟩
 have HRX := hide hrx; have HCE := hide hce; have HCD := hide hcd; have HOD := hide hod
 have HODL : Hid (od.qtys.length <= 1000000) := hide (by
  rw [<- hod]
  cases hr : ru with
  | none => simp [oZ]
  | some p =>
    rw [hr] at hru
    have := (decV_inv hru).1
    have h2 := parse_qlen b
    simp only [Option.getD_some]
    rw [this]; omega)
 have HC1 : Hid (∀ W, Later w W -> Calls Tryz.prog 18 #[.agg #[.int .i64 o.kind, .int .i64 o.ord.id, .int .i64 o.ord.item, .int .i64 o.ord.due, .int .i64 o.ord.qty, .int .i64 o.id, .int .i64 o.period, .int .i64 o.qty, .slice Aq nq cq]] W (EncP W rx)) := hide (fun W hW => by rw [<- hrx]; exact encode_calls W Aq nq cq o (HQ.out.later hW) HZ.out (by have := HQL.out; omega))
 have HC2 : Hid (∀ W, Later w W -> Calls Tryz.prog 19 #[.agg #[.int .i64 o.kind, .int .i64 o.ord.id, .int .i64 o.ord.item, .int .i64 o.ord.due, .int .i64 o.ord.qty, .int .i64 o.id, .int .i64 o.period, .int .i64 o.qty, .slice Aq nq cq]] W (EncP W rx)) := hide (fun W hW => by rw [<- hrx]; exact rencode_calls W Aq nq cq o (HQ.out.later hW) HZ.out (by have := HQL.out; omega))
 have HC3 : Hid (∀ W, Later w W -> Calls Tryz.prog 20 #[.slice Ab nb cb] W (DecP W ru)) := hide (fun W hW => by rw [<- hru]; exact decode_calls W Ab nb cb b (HB.out.later hW) HBY.out)
 have HC4 : Hid (∀ W, Later w W -> Calls Tryz.prog 21 #[.slice Ab nb cb] W (DecP W ru)) := hide (fun W hW => by rw [<- hru]; exact rdec_calls W Ab nb cb b (HB.out.later hW) HBY.out (by have := HBL.out; omega))
 clear hrx hce hru hcd hod
 have r_y := HR0.out.later HL2.out
 have y0 := r_y.cell (i := 0) rfl; have y1 := r_y.cell (i := 1) rfl; have y2 := r_y.cell (i := 2) rfl; have y3 := r_y.cell (i := 3) rfl; have y4 := r_y.cell (i := 4) rfl; have y5 := r_y.cell (i := 5) rfl; have y6 := r_y.cell (i := 6) rfl; have y7 := r_y.cell (i := 7) rfl; have y8 := r_y.cell (i := 8) rfl
 clear r_y
 have l2 := B0.out.trans HL2.out
 go_upto_region 6 with (go_at_call 18; (refine (HC1.out _ l2).mono ?_); rintro e a3 h1; obtain ⟨b3, Ax, nx, cx, rfl, hk3⟩ := encU h1; rw [HCE.out]; have HK3 := hide hk3; clear h1 hk3)
 have L3 := hide (HL2.out.trans b3)
 clear y0 y1 y2 y3 y4 y5 y6 y7 y8
 have r_y := HR0.out.later L3.out
 have y0 := r_y.cell (i := 0) rfl; have y1 := r_y.cell (i := 1) rfl; have y2 := r_y.cell (i := 2) rfl; have y3 := r_y.cell (i := 3) rfl; have y4 := r_y.cell (i := 4) rfl; have y5 := r_y.cell (i := 5) rfl; have y6 := r_y.cell (i := 6) rfl; have y7 := r_y.cell (i := 7) rfl; have y8 := r_y.cell (i := 8) rfl
 clear r_y
 have l3 := B0.out.trans L3.out
 go_upto_region 7 with (go_at_call 19; (refine (HC2.out _ l3).mono ?_); rintro e a4 h1; obtain ⟨b4, Ay, ny, cy, rfl, hk4⟩ := encU h1; rw [HCE.out]; have HK4 := hide hk4; clear h1 hk4)
 have L4 := hide (L3.out.trans b4)
 clear y0 y1 y2 y3 y4 y5 y6 y7 y8
 have l4 := B0.out.trans L4.out
 go_upto_region 8 with (go_at_call 20; (refine (HC3.out _ l4).mono ?_); rintro e a5 h1; obtain ⟨b5, Au, nu, cu, rfl, hk5⟩ := decU h1; rw [HCD.out, HOD.out]; rw [HOD.out] at hk5; have HK5 := hide hk5; clear h1 hk5)
 obtain ⟨W5, hW5⟩ : ∃ W5, W5 = a5.alloc (Obj.cells #[Value.int .i64 od.kind, Value.int .i64 od.ord.id, Value.int .i64 od.ord.item, Value.int .i64 od.ord.due, Value.int .i64 od.ord.qty, Value.int .i64 od.id, Value.int .i64 od.period, Value.int .i64 od.qty, Value.slice Au nu cu] 31) := ⟨_, rfl⟩
 obtain ⟨gu, hgu⟩ : ∃ gu, gu = a5.heap.size := ⟨_, rfl⟩
 have bW5 : Later a5 W5 := by rw [hW5]; exact (Later.refl _).alloc _
 have rgu : Row W5 gu 31 [.int .i64 od.kind, .int .i64 od.ord.id, .int .i64 od.ord.item, .int .i64 od.ord.due, .int .i64 od.ord.qty, .int .i64 od.id, .int .i64 od.period, .int .i64 od.qty, .slice Au nu cu] := by rw [hW5, hgu]; exact Row.new _ _ _
 rw [<- hW5, <- hgu]
 have L5 := hide (b5.trans bW5); have RU := hide rgu; have BU := hide bW5
 have l5 := l4.trans L5.out
 clear hW5 hgu bW5 rgu
 go_upto_region 9 with (go_at_call 21; (refine (HC4.out _ l5).mono ?_); rintro e a6 h1; obtain ⟨b6, Av, nv, cv, rfl, hk6⟩ := decU h1; rw [HCD.out, HOD.out]; rw [HOD.out] at hk6; have HK6 := hide hk6; clear h1 hk6)
 obtain ⟨W6, hW6⟩ : ∃ W6, W6 = a6.alloc (Obj.cells #[Value.int .i64 od.kind, Value.int .i64 od.ord.id, Value.int .i64 od.ord.item, Value.int .i64 od.ord.due, Value.int .i64 od.ord.qty, Value.int .i64 od.id, Value.int .i64 od.period, Value.int .i64 od.qty, Value.slice Av nv cv] 31) := ⟨_, rfl⟩
 obtain ⟨gv, hgv⟩ : ∃ gv, gv = a6.heap.size := ⟨_, rfl⟩
 have bW6 : Later a6 W6 := by rw [hW6]; exact (Later.refl _).alloc _
 have rgv : Row W6 gv 31 [.int .i64 od.kind, .int .i64 od.ord.id, .int .i64 od.ord.item, .int .i64 od.ord.due, .int .i64 od.ord.qty, .int .i64 od.id, .int .i64 od.period, .int .i64 od.qty, .slice Av nv cv] := by rw [hW6, hgv]; exact Row.new _ _ _
 rw [<- hW6, <- hgv]
 have L6 := hide (b6.trans bW6); have RV := hide rgv; have BV := hide bW6; have L06 := hide (L4.out.trans (L5.out.trans (b6.trans bW6)))
 have l6 := l5.trans L6.out
 clear hW6 hgv b6 bW6 rgv
 have HXX := hide (HK3.out.later (b4.trans (L5.out.trans L6.out))); have HYY := hide (HK4.out.later (L5.out.trans L6.out))
 have HUU := hide (HK5.out.later (BU.out.trans L6.out)); have HVV := hide (HK6.out.later BV.out)
 have HRXL : Hid ((rx.getD []).length <= 1000000) := hide (enc_le HRX.out)
 clear b3 b4 l2 l3 l4 l5
 have r_y := RU.out.later L6.out
 have y0 := r_y.cell (i := 0) rfl; have y1 := r_y.cell (i := 1) rfl; have y2 := r_y.cell (i := 2) rfl; have y3 := r_y.cell (i := 3) rfl; have y4 := r_y.cell (i := 4) rfl; have y5 := r_y.cell (i := 5) rfl; have y6 := r_y.cell (i := 6) rfl; have y7 := r_y.cell (i := 7) rfl; have y8 := r_y.cell (i := 8) rfl
 clear r_y
 go_upto_region 11 with (first | (go_at_call 22; (refine (rows01_calls _ _ _ _ HXX.out HYY.out HRXL.out).mono ?_); rintro e a7 ⟨rfl, b7⟩; replace y0 := Later.cell b7 y0; have z0 := fun O => ((RV.out.later b7).alloc O).cell (i := 0) rfl; replace y1 := Later.cell b7 y1; have z1 := fun O => ((RV.out.later b7).alloc O).cell (i := 1) rfl; replace y2 := Later.cell b7 y2; have z2 := fun O => ((RV.out.later b7).alloc O).cell (i := 2) rfl; replace y3 := Later.cell b7 y3; have z3 := fun O => ((RV.out.later b7).alloc O).cell (i := 3) rfl; replace y4 := Later.cell b7 y4; have z4 := fun O => ((RV.out.later b7).alloc O).cell (i := 4) rfl; replace y5 := Later.cell b7 y5; have z5 := fun O => ((RV.out.later b7).alloc O).cell (i := 5) rfl; replace y6 := Later.cell b7 y6; have z6 := fun O => ((RV.out.later b7).alloc O).cell (i := 6) rfl; replace y7 := Later.cell b7 y7; have z7 := fun O => ((RV.out.later b7).alloc O).cell (i := 7) rfl; replace y8 := Later.cell b7 y8; have z8 := fun O => ((RV.out.later b7).alloc O).cell (i := 8) rfl) | (go_at_call 23; (obtain ⟨hl2, ru2, rv2, -⟩ := boxes2 a7 [.int .i64 od.kind, .int .i64 od.ord.id, .int .i64 od.ord.item, .int .i64 od.ord.due, .int .i64 od.ord.qty, .int .i64 od.id, .int .i64 od.period, .int .i64 od.qty, .slice Au nu cu] [.int .i64 od.kind, .int .i64 od.ord.id, .int .i64 od.ord.item, .int .i64 od.ord.due, .int .i64 od.ord.qty, .int .i64 od.id, .int .i64 od.period, .int .i64 od.qty, .slice Av nv cv] 31 31 rfl); (refine (rops1_calls _ od _ _ Au Av nu nv cu cv ru2 rv2 (HUU.out.later (b7.trans hl2)) (HVV.out.later (b7.trans hl2)) HODL.out).mono ?_); rintro e a8 ⟨rfl, b8⟩))
 have L8 := hide (b7.trans (hl2.trans b8))
 have l8 := l6.trans L8.out
 clear b7 b8 hl2 ru2 rv2 y0 y1 y2 y3 y4 y5 y6 y7 y8 z0 z1 z2 z3 z4 z5 z6 z7 z8
 cases rx with
 | none =>
   have e1 : ce = 1 := by rw [<- HCE.out]; rfl
   subst e1
   go_wp2_with fail
   go_ret
   exact ⟨rfl, l8⟩
 | some l =>
   have e1 : ce = 0 := by rw [<- HCE.out]; rfl
   subst e1
   have HXL : Hid (Sq 1 uCells a8 (.slice Ax nx cx) l) := hide (HXX.out.later L8.out)
   have HD5 : Hid (∀ W, Later a8 W -> Calls Tryz.prog 20 #[.slice Ax nx cx] W (DecP W (some o))) := hide (fun W hW => by
    have h2 := decode_calls W Ax nx cx l (HXL.out.later hW) (encV_bytes HRX.out)
    rw [enc_dec HRX.out] at h2; exact h2)
   clear HC1 HC2 HC3 HC4
   go_upto_region 14 with (go_at_call 20; (refine (HD5.out _ (Later.refl _)).mono ?_); rintro e a9 h1; obtain ⟨b9, Aw, nw, cw, rfl, hk9⟩ := decU h1; have HK9 := hide hk9; clear h1 hk9)
   obtain ⟨W9, hW9⟩ : ∃ W9, W9 = a9.alloc (Obj.cells #[Value.int .i64 o.kind, Value.int .i64 o.ord.id, Value.int .i64 o.ord.item, Value.int .i64 o.ord.due, Value.int .i64 o.ord.qty, Value.int .i64 o.id, Value.int .i64 o.period, Value.int .i64 o.qty, Value.slice Aw nw cw] 31) := ⟨_, rfl⟩
   obtain ⟨gw, hgw⟩ : ∃ gw, gw = a9.heap.size := ⟨_, rfl⟩
   have bW9 : Later a9 W9 := by rw [hW9]; exact (Later.refl _).alloc _
   have rgw : Row W9 gw 31 [.int .i64 o.kind, .int .i64 o.ord.id, .int .i64 o.ord.item, .int .i64 o.ord.due, .int .i64 o.ord.qty, .int .i64 o.id, .int .i64 o.period, .int .i64 o.qty, .slice Aw nw cw] := by rw [hW9, hgw]; exact Row.new _ _ _
   rw [<- hW9, <- hgw]
   have RW9 := hide rgw; have HWW := hide (HK9.out.later bW9); have l9 := l8.trans (b9.trans bW9); have L89 := hide (b9.trans bW9)
   clear hW9 hgw b9 bW9 rgw
   have r_y := RW9.out.later (Later.refl _)
   have y0 := r_y.cell (i := 0) rfl; have y1 := r_y.cell (i := 1) rfl; have y2 := r_y.cell (i := 2) rfl; have y3 := r_y.cell (i := 3) rfl; have y4 := r_y.cell (i := 4) rfl; have y5 := r_y.cell (i := 5) rfl; have y6 := r_y.cell (i := 6) rfl; have y7 := r_y.cell (i := 7) rfl; have y8 := r_y.cell (i := 8) rfl
   clear r_y
   have z0 := fun O => ((HR0.out.later ((L06.out.trans L8.out).trans L89.out)).alloc O).cell (i := 0) rfl; have z1 := fun O => ((HR0.out.later ((L06.out.trans L8.out).trans L89.out)).alloc O).cell (i := 1) rfl; have z2 := fun O => ((HR0.out.later ((L06.out.trans L8.out).trans L89.out)).alloc O).cell (i := 2) rfl; have z3 := fun O => ((HR0.out.later ((L06.out.trans L8.out).trans L89.out)).alloc O).cell (i := 3) rfl; have z4 := fun O => ((HR0.out.later ((L06.out.trans L8.out).trans L89.out)).alloc O).cell (i := 4) rfl; have z5 := fun O => ((HR0.out.later ((L06.out.trans L8.out).trans L89.out)).alloc O).cell (i := 5) rfl; have z6 := fun O => ((HR0.out.later ((L06.out.trans L8.out).trans L89.out)).alloc O).cell (i := 6) rfl; have z7 := fun O => ((HR0.out.later ((L06.out.trans L8.out).trans L89.out)).alloc O).cell (i := 7) rfl; have z8 := fun O => ((HR0.out.later ((L06.out.trans L8.out).trans L89.out)).alloc O).cell (i := 8) rfl
   go_wp2_with (go_at_call 23; (obtain ⟨hl2, ru2, rv2, -⟩ := boxes2 W9 [.int .i64 o.kind, .int .i64 o.ord.id, .int .i64 o.ord.item, .int .i64 o.ord.due, .int .i64 o.ord.qty, .int .i64 o.id, .int .i64 o.period, .int .i64 o.qty, .slice Aw nw cw] [.int .i64 o.kind, .int .i64 o.ord.id, .int .i64 o.ord.item, .int .i64 o.ord.due, .int .i64 o.ord.qty, .int .i64 o.id, .int .i64 o.period, .int .i64 o.qty, .slice Aq nq cq] 31 31 rfl); (refine (rops1_calls _ o _ _ Aw Aq nw nq cw cq ru2 rv2 (HWW.out.later hl2) (HQ.out.later (l9.trans hl2)) (by have := HQL.out; omega)).mono ?_); rintro e a10 ⟨rfl, b10⟩)
   go_ret
   exact ⟨rfl, (l9.trans hl2).trans b10⟩
end Go.Proofs.YtncbebfhakcgdaaGreat
