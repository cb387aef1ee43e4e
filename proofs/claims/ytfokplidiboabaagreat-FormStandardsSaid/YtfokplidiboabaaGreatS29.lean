/- Problems: Standard (the reference). -/
import Derived.Test.YtfokplidiboabaaGreatS28
import Derived.Test.YtfokplidiboabaaGreatS8
import Derived.Test.YtfokplidiboabaaGreatS26
set_option linter.unusedVariables false
set_option linter.unusedSimpArgs false
set_option maxRecDepth 100000
namespace Go.Proofs.YtfokplidiboabaaGreat
open Go.RowKit Go.Shelf
attribute [local go_sem ↓] Go.wp_at_zero Go.wp_at_succ
theorem stdC_lo {P : PLp} {k : Nat} {q : Rat} (h : P.cost[k]? = some q) : (stdC P)[k]? = some q := by
 unfold stdC; rw [List.getElem?_append_left (List.getElem?_eq_some_iff.1 h).1]; exact h
theorem stdC_hi {P : PLp} {k : Nat} (h : P.cost.length <= k) (h2 : k < P.cost.length + (extraL P).length) : (stdC P)[k]? = some 0 := by
 unfold stdC; rw [List.getElem?_append_right h, List.getElem?_replicate, if_pos (by omega)]
set_option maxHeartbeats 32000000 in
theorem rstd11_calls (w : World) (A1 A2 A3 A4 A5 : Option Addr) (n1 n2 n3 n4 n5 c1 c2 c3 c4 c5 : Nat) (k : Nat) (P : PLp) (h : LpIn w (.slice A1 n1 c1) (.slice A2 n2 c2) (.slice A3 n3 c3) (.slice A4 n4 c4) (.slice A5 n5 c5) k P) :
 Calls Tryz.prog 18 #[.agg #[.slice A1 n1 c1, .slice A2 n2 c2, .slice A3 n3 c3, .slice A4 n4 c4, .slice A5 n5 c5]] w (PStd w P) := by
 have H := hide h
 have hc1 := h.cost; have hr1 := h.rows; have hl1 := h.lo; have hh1 := h.hi; have ho1 := h.opn
 have L1 := hide hc1.len_; have L2 := hide hr1.len_; have L3 := hide hl1.len_; have L4 := hide hh1.len_; have L5 := hide ho1.len_
 have hn1 : n1 <= 1000 := by have := h.cl; have := L1.out; omega
 have hn2 : n2 <= 1000 := by have := h.rl; have := L2.out; omega
 have hn3 : n3 <= 1000 := by have := h.ll; have := L3.out; omega
 have hn4 : n4 <= 1000 := by have := h.hl; have := L4.out; omega
 have hn5 : n5 <= 1000 := by have := h.ol; have := L5.out; omega
 have hkk := h.kk
 clear h hc1 hr1 hl1 hh1 ho1
 obtain ⟨u, hu⟩ : ∃ u, lpB P = u := ⟨_, rfl⟩
 have HU := hide hu
 clear hu
 obtain ⟨W0, hW0⟩ : ∃ W0, W0 = (((w.alloc (Obj.cells #[Value.slice A1 n1 c1, Value.slice A2 n2 c2, Value.slice A3 n3 c3, Value.slice A4 n4 c4, Value.slice A5 n5 c5] 26)).alloc (Obj.cells #[Value.slice none 0 0, Value.slice none 0 0, Value.slice none 0 0] 31)).alloc (Obj.cells #[Value.bool false, Value.slice none 0 0, Value.bool false, Value.slice none 0 0] 36)) := ⟨_, rfl⟩
 obtain ⟨hb0, r0, r1, r2, hsz0⟩ := boxes3 w [.slice A1 n1 c1, .slice A2 n2 c2, .slice A3 n3 c3, .slice A4 n4 c4, .slice A5 n5 c5] [.slice none 0 0, .slice none 0 0, .slice none 0 0] [.bool false, .slice none 0 0, .bool false, .slice none 0 0] 26 31 36 hW0
 have B0 := hide hb0; have HW0 := hide hW0; have HSZ0 := hide hsz0
 have R0 := hide r0; have R1 := hide r1; have R2 := hide r2
 clear hb0 hW0 hsz0 r0 r1 r2
 go_enter Tryz.func18, Tryz.ntmps18
 go_upto_region 1 with fail
 rw [<- HW0.out]
 have r_d := R0.out.later (Later.refl W0)
 have d0 := r_d.cell (i := 0) rfl; have d1 := r_d.cell (i := 1) rfl; have d2 := r_d.cell (i := 2) rfl; have d3 := r_d.cell (i := 3) rfl; have d4 := r_d.cell (i := 4) rfl
 clear r_d
 go_wp2_with fail
 ((with_reducible refine (rmay11_calls _ _ _ _ _ _ _ _ _ _ _ _ _ _ _ _ k P (H.out.later B0.out)).mono ?_); rintro e w1 ⟨rfl, b1⟩)
 rw [HU.out]
 have HL1 := hide b1
 clear b1 d0 d1 d2 d3 d4
 have r_d := R0.out.later HL1.out
 have d0 := r_d.cell (i := 0) rfl; have d1 := r_d.cell (i := 1) rfl; have d2 := r_d.cell (i := 2) rfl; have d3 := r_d.cell (i := 3) rfl; have d4 := r_d.cell (i := 4) rfl
 clear r_d
 cases u with
 | false =>
   go_wp2_with ((with_reducible refine (rone_calls _ 0 (by omega) (by omega) 0 div_0).mono ?_); rintro e w2 ⟨v2, rfl, o2, b2⟩; obtain ⟨s2, P2, q2, e2, P2', q2', e2', rfl, o2⟩ := o2.open_; have O2 := hide o2; clear o2; have r1 := R1.out.later (HL1.out.trans b2); have r2 := R2.out.later (HL1.out.trans b2); have k0 := r1.cell (i := 0) rfl; have k1 := r1.cell (i := 1) rfl; have k2 := r1.cell (i := 2) rfl; have f0 := r1.frozen 0; have f1 := r1.frozen 1; have f2 := r1.frozen 2; obtain ⟨x1, x2, x3, x4, x5, x6, x7, x8⟩ := row_cells4 r2)
   have o2 : Only (w.heap.size + 1) w2 (((w2.setCell ⟨w.heap.size + 1, 0, none⟩ (.slice none 0 0)).setCell ⟨w.heap.size + 1, 1, none⟩ (.slice none 0 0)).setCell ⟨w.heap.size + 1, 2, none⟩ (.slice none 0 0)) := ((Only.one _ w2 _ _).set _ _).set _ _
   have r2b := r2.only o2 (by omega)
   have o3 : Only (w.heap.size + 2) (((w2.setCell ⟨w.heap.size + 1, 0, none⟩ (.slice none 0 0)).setCell ⟨w.heap.size + 1, 1, none⟩ (.slice none 0 0)).setCell ⟨w.heap.size + 1, 2, none⟩ (.slice none 0 0)) (((((((w2.setCell ⟨w.heap.size + 1, 0, none⟩ (.slice none 0 0)).setCell ⟨w.heap.size + 1, 1, none⟩ (.slice none 0 0)).setCell ⟨w.heap.size + 1, 2, none⟩ (.slice none 0 0)).setCell ⟨w.heap.size + 2, 0, none⟩ (.bool s2)).setCell ⟨w.heap.size + 2, 1, none⟩ (.slice P2 q2 e2)).setCell ⟨w.heap.size + 2, 2, none⟩ (.bool false)).setCell ⟨w.heap.size + 2, 3, none⟩ (.slice P2' q2' e2')) := Only.four _ _ _ _ _ _
   have F1 : Row (((((((w2.setCell ⟨w.heap.size + 1, 0, none⟩ (.slice none 0 0)).setCell ⟨w.heap.size + 1, 1, none⟩ (.slice none 0 0)).setCell ⟨w.heap.size + 1, 2, none⟩ (.slice none 0 0)).setCell ⟨w.heap.size + 2, 0, none⟩ (.bool s2)).setCell ⟨w.heap.size + 2, 1, none⟩ (.slice P2 q2 e2)).setCell ⟨w.heap.size + 2, 2, none⟩ (.bool false)).setCell ⟨w.heap.size + 2, 3, none⟩ (.slice P2' q2' e2')) (w.heap.size + 1) 31 [.slice none 0 0, .slice none 0 0, .slice none 0 0] := (((r1.set_ 0 (.slice none 0 0)).set_ 1 (.slice none 0 0)).set_ 2 (.slice none 0 0)).only o3 (by omega)
   have F2 : Row (((((((w2.setCell ⟨w.heap.size + 1, 0, none⟩ (.slice none 0 0)).setCell ⟨w.heap.size + 1, 1, none⟩ (.slice none 0 0)).setCell ⟨w.heap.size + 1, 2, none⟩ (.slice none 0 0)).setCell ⟨w.heap.size + 2, 0, none⟩ (.bool s2)).setCell ⟨w.heap.size + 2, 1, none⟩ (.slice P2 q2 e2)).setCell ⟨w.heap.size + 2, 2, none⟩ (.bool false)).setCell ⟨w.heap.size + 2, 3, none⟩ (.slice P2' q2' e2')) (w.heap.size + 2) 36 [.bool s2, .slice P2 q2 e2, .bool false, .slice P2' q2' e2'] := r2b.four _ _ _ _
   have F3 : OwnR (((((((w2.setCell ⟨w.heap.size + 1, 0, none⟩ (.slice none 0 0)).setCell ⟨w.heap.size + 1, 1, none⟩ (.slice none 0 0)).setCell ⟨w.heap.size + 1, 2, none⟩ (.slice none 0 0)).setCell ⟨w.heap.size + 2, 0, none⟩ (.bool s2)).setCell ⟨w.heap.size + 2, 1, none⟩ (.slice P2 q2 e2)).setCell ⟨w.heap.size + 2, 2, none⟩ (.bool false)).setCell ⟨w.heap.size + 2, 3, none⟩ (.slice P2' q2' e2')) 0 (.agg #[.bool s2, .slice P2 q2 e2, .bool false, .slice P2' q2' e2']) 0 := OwnR.keepU O2.out ((KeepU.only o2 r1 (by decide)).trans (KeepU.only o3 r2b (by decide)))
   have F4 := ((B0.out.trans (HL1.out.trans b2)).only o2 (by omega)).only o3 (by omega)
   refine bodyPost_ret (results_std rfl rfl rfl rfl F1 F2) rfl ?_
   exact ⟨_, _, _, _, by rw [HU.out]; rfl, fun h => (by rw [HU.out] at h; cases h), fun _ => ⟨rfl, rfl, rfl, F3⟩, F4⟩
 | true =>
   have HP := hide (lpB_iff.1 HU.out)
   go_wp2_with fail
   refine (rcolumns11_calls _ _ _ _ _ _ _ _ _ _ _ _ _ _ _ _ k P (H.out.later (B0.out.trans HL1.out)) HP.out).mono ?_
   rintro e w2 ⟨vv, rv, av, rfl, hc2, b2⟩
   have hsv := Sq.of_own (enc := iCells) (m := 1) (fun _ => rfl) hc2.v
   obtain ⟨Av, nv, cv, rfl, hnv, -⟩ := hsv.form
   obtain ⟨At, nt, ct, rfl, -⟩ := (Sq.of_own (enc := iCells) (m := 1) (fun _ => rfl) hc2.r).form
   obtain ⟨Aa, na, ca, rfl, -⟩ := (Sq.of_own (enc := iCells) (m := 1) (fun _ => rfl) hc2.a).form
   have HNV : Hid (nv = P.cost.length + (extraL P).length) := hide (by rw [hnv, colV_len])
   have HCV := hide hsv
   have hnv72 : nv <= 72 := by have := HNV.out; have := HP.out.n24; have := extraL_len_le HP.out; omega
   have hon := ((On.sq (enc := iCells) (m := 1) (fun _ => rfl) hc2.v).and ((On.sq (enc := iCells) (m := 1) (fun _ => rfl) hc2.r).and (On.sq (enc := iCells) (m := 1) (fun _ => rfl) hc2.a))).mono (P' := fun b => b < w2.heap.size) (fun b _ hlt => hlt)
   have HL2 := hide (HL1.out.trans b2)
   clear b2 d0 d1 d2 d3 d4 hc2 hsv hnv
   go_upto_region 5 with fail
   obtain ⟨ws, hws⟩ : ∃ ws, ws = w2.alloc (Obj.cells #[Value.slice none 0 0, Value.slice none 0 0, Value.slice none 0 0] 31) := ⟨_, rfl⟩
   obtain ⟨gs, hgs⟩ : ∃ gs, gs = w2.heap.size := ⟨_, rfl⟩
   have bws : Later w2 ws := by rw [hws]; exact (Later.refl _).alloc _
   have rgs : Row ws gs 31 [.slice none 0 0, .slice none 0 0, .slice none 0 0] := by rw [hws, hgs]; exact Row.new _ _ _
   rw [<- hws, <- hgs]
   have HGS : Hid (w2.heap.size <= gs) := hide (by rw [hgs]; exact Nat.le_refl _)
   have HSS : Hid (ws.heap.size = gs + 1) := hide (by rw [hws, World.size_alloc, hgs])
   have HCO : Hid (On w2 (fun b => b ≠ gs) (fun W => Sq 1 iCells W (.slice Av nv cv) (colV P) /\ Sq 1 iCells W (.slice At nt ct) (colR P) /\ Sq 1 iCells W (.slice Aa na ca) (colA P))) := hide (hon.mono fun b hb _ => by have := HGS.out; have hb : b < w2.heap.size := hb; omega)
   have RS0 := hide rgs; have HLS := hide bws
   clear hws hgs bws rgs hon
   go_wp2_with fail
   go_loopw [9] (fun i wr => ∃ m : Nat, m <= nv /\ i = .int .i64 (m : Int) /\ ∃ AC nC cC, Row wr gs 31 [.slice none 0 0, .slice none 0 0, .slice AC nC cC] /\ RowU wr (gs + 1) (.slice AC nC cC) ((stdC P).take m) /\ Later w2 wr) (fun i _ => (nv - intOf i).toNat)
   case atStart => exact ⟨0, by omega, rfl, _, _, _, RS0.out, RowU.nil _ _, HLS.out⟩
   case round =>
    obtain ⟨m, hm, rfl, AC, nC, cC, hRS, hC, hL⟩ := hrel
    have RGS := hide hRS; have HC := hide hC; have HL := hide hL
    clear hRS hC hL
    by_cases hmn : m < nv
    ·skip
     have hm0 : (0 : Int) <= (m : Int) := by omega
     have hm1 : (m : Int) < nv := by omega
     have HLM : Hid (((stdC P).take m).length <= 3000000) := hide (by rw [List.length_take]; omega)
     go_upto_region 9 with ((with_reducible refine (rone_calls _ 0 (by omega) (by omega) 0 div_0).mono ?_); rintro e w7 ⟨v7_, rfl, o8, b7⟩; obtain ⟨s8, P8, q8, e8, P8', q8', e8', rfl, o8⟩ := o8.open_; have O8 := hide o8; clear o8)
     obtain ⟨w8, hw8⟩ : ∃ w8, w8 = w7.alloc (Obj.cells #[Value.bool s8, Value.slice P8 q8 e8, Value.bool false, Value.slice P8' q8' e8'] 36) := ⟨_, rfl⟩
     obtain ⟨gc, hgc⟩ : ∃ gc, gc = w7.heap.size := ⟨_, rfl⟩
     have bw8 : Later w7 w8 := by rw [hw8]; exact (Later.refl _).alloc _
     have rgc : Row w8 gc 36 [.bool s8, .slice P8 q8 e8, .bool false, .slice P8' q8' e8'] := by rw [hw8, hgc]; exact Row.new _ _ _
     rw [<- hw8, <- hgc]
     have HL8 := hide (b7.trans bw8); have RGC := hide rgc; have OC8 := hide (OwnR.later O8.out bw8)
     have HGC : Hid (wr.heap.size <= gc) := hide (by rw [hgc]; exact b7.size)
     clear hw8 hgc rgc O8 bw8 b7
     have hcv := (HCV.out.later (HL.out.trans HL8.out))
     by_cases hc : m < P.cost.length
     ·skip
      obtain ⟨q, hq⟩ : ∃ q, P.cost[m]? = some q := ⟨P.cost[m]'hc, List.getElem?_eq_getElem _⟩
      obtain ⟨bv, ofv, ev, xv⟩ := hcv.at1_ (colV_lo hc)
      have hCW := H.out.cost.later ERaw.later (B0.out.trans (HL2.out.trans (HL.out.trans HL8.out)))
      obtain ⟨b6, off6, ys, yA, yn, yc, ys', yA', yn', yc', ey, y1, y2, y3, y4, yE⟩ := hCW.at_ hq
      subst ey
      subst ev
      have HTK := hide (take_more (stdC_lo hq))
      have HYE := hide (show RawR w8 (.agg #[.bool ys, .slice yA yn yc, .bool ys', .slice yA' yn' yc']) q k from yE)
      have hm2 : m < n1 := by have := L1.out; omega
      have rb := R0.out.later (HL2.out.trans (HL.out.trans HL8.out))
      have HY4 := hide (show w8.cell? ⟨b6, off6 + m * 4, none⟩ = some _ /\ w8.cell? ⟨b6, off6 + m * 4 + 1, none⟩ = some _ /\ w8.cell? ⟨b6, off6 + m * 4 + 2, none⟩ = some _ /\ w8.cell? ⟨b6, off6 + m * 4 + 3, none⟩ = some _ from ⟨y1, y2, y3, y4⟩)
      have HRB := hide rb; have HXV := hide xv
      have HT1 : Hid (∀ w', Later w8 w' -> w'.cell? ⟨w.heap.size, 0, none⟩ = some (.slice (some ⟨b6, off6, none⟩) n1 c1) /\ w'.cell? ⟨bv, ofv + m, none⟩ = some (.int .i64 (m : Int)) /\ w'.cell? ⟨b6, off6 + m * 4, none⟩ = some (.bool ys) /\ w'.cell? ⟨b6, off6 + m * 4 + 1, none⟩ = some (.slice yA yn yc) /\ w'.cell? ⟨b6, off6 + m * 4 + 2, none⟩ = some (.bool ys') /\ w'.cell? ⟨b6, off6 + m * 4 + 3, none⟩ = some (.slice yA' yn' yc')) := hide fun w' hb => by
       obtain ⟨u1, u2, u3, u4⟩ := HY4.out
       exact ⟨(HRB.out.later hb).cell rfl, Later.cell hb HXV.out, Later.cell hb u1, Later.cell hb u2, Later.cell hb u3, Later.cell hb u4⟩
      clear hq hCW yE rb y1 y2 y3 y4 hcv
      go_upto_region 10 with fail
      clear xv
      have hmx : Tryz.prog.follows .mixedOrders = true := by kernel_rfl
      refine wp_region_N (fun w' => w'.cell? ⟨w.heap.size, 0, none⟩ = some (.slice (some ⟨b6, off6, none⟩) n1 c1) /\ w'.cell? ⟨bv, ofv + m, none⟩ = some (.int .i64 (m : Int)) /\ w'.cell? ⟨b6, off6 + m * 4, none⟩ = some (.bool ys) /\ w'.cell? ⟨b6, off6 + m * 4 + 1, none⟩ = some (.slice yA yn yc) /\ w'.cell? ⟨b6, off6 + m * 4 + 2, none⟩ = some (.bool ys') /\ w'.cell? ⟨b6, off6 + m * 4 + 3, none⟩ = some (.slice yA' yn' yc')) [9] hmx (HT1.out _ lt_) (fun hHeld => ?_)
      refine tkB 48 0 ?_
      refine tkB 49 1 ?_
      refine tkB 50 2 ?_
      refine tkB 51 3 ?_
      refine tkB 52 4 ?_
      refine tkB 53 5 ?_
      refine tkB 54 6 ?_
      refine tkB 55 7 ?_
      refine wpAnyN_ready (rs := [8]) (by kernel_rfl) (by simp) ?_
      refine AllReadyN.held rfl (by rfl) (fun K hK => ?_) AllReadyN.nil
      go_simp
      refine (qplain_calls _ _ q k (RawR.later HYE.out lt_) (by omega)).mono ?_
      rintro e w9 ⟨v9_, rfl, o9, b9⟩
      obtain ⟨s9, P9, q9, e9, P9', q9', e9', rfl, o9⟩ := o9.open_; have O9 := hide o9; clear o9
      have l9 : Later w8 w9 := Later.trans lt_ b9
      have rg9 := RGC.out.later l9
      have k0 := rg9.cell (i := 0) rfl; have k1 := rg9.cell (i := 1) rfl; have k2 := rg9.cell (i := 2) rfl; have k3 := rg9.cell (i := 3) rfl; have z0 := rg9.frozen 0; have z1 := rg9.frozen 1; have z2 := rg9.frozen 2; have z3 := rg9.frozen 3
      have RG9 := hide rg9
      clear rg9
      refine hK.out _ _ ?_ (fun hHeld => ?_)
      ·exact HT1.out _ lt_
      clear hK K
      try simp only [Act.put, s1_, s2_, s3_]
      refine wpAnyN_ready (rs := [9]) (by kernel_rfl) (by simp) ?_
      refine AllReadyN.free rfl (by rfl) (by kernel_rfl) (fun K hK => ?_) AllReadyN.nil
      go_simp
      refine hK.out _ _ ?_
      clear hK K
      try simp only [Act.put, s1_, s2_, s3_]
      refine wpAnyN_done (by kernel_rfl) ?_ _
      clear hHeld HT1
      obtain ⟨wY, hwY⟩ : ∃ W, W = ((((w9.setCell ⟨gc, 0, none⟩ (.bool s9)).setCell ⟨gc, 1, none⟩ (.slice P9 q9 e9)).setCell ⟨gc, 2, none⟩ (.bool false)).setCell ⟨gc, 3, none⟩ (.slice P9' q9' e9')) := ⟨_, rfl⟩
      rw [<- hwY]
      have oo : Only gc w9 wY := by rw [hwY]; exact Only.four _ _ _ _ _ _
      have rY : Row wY gc 36 [.bool s9, .slice P9 q9 e9, .bool false, .slice P9' q9' e9'] := by rw [hwY]; exact RG9.out.four _ _ _ _
      have HLY := hide ((HL8.out.trans l9).only oo HGC.out)
      have HOY := hide (OwnR.keepU O9.out (KeepU.only oo RG9.out tRat_u32))
      have RXY := hide rY
      clear hwY oo rY RG9 RGC k0 k1 k2 k3 z0 z1 z2 z3 l9 b9 O9
      have rs := RGS.out.later HLY.out
      have f0 := rs.cell (i := 0) rfl; have f1 := rs.cell (i := 1) rfl; have f2 := rs.cell (i := 2) rfl; have fz2 := rs.frozen 2
      have x0 := RXY.out.cell (i := 0) rfl; have x1 := RXY.out.cell (i := 1) rfl; have x2 := RXY.out.cell (i := 2) rfl; have x3 := RXY.out.cell (i := 3) rfl
      have RSY := hide rs
      clear rs
      go_wp2_with (at_builtin; refine wpList_append_rowu rfl _ _ rfl rfl (HC.out.later (HLY.out.alloc _)) rfl (Row.new wY 36 [.bool s9, .slice P9 q9 e9, .bool false, .slice P9' q9' e9']) (OwnR.later HOY.out ((Later.refl wY).alloc _)) HLM.out (by rw [World.size_alloc]; have h1 := HLY.out.size; have h2 := RGS.out.lt; omega) ?_; intro v12_ w12 k1b k2b k3b; obtain ⟨A12, n12, c12, rfl⟩ := k1b.form; have hbl := HC.out.lt; have rs12 := (RSY.out.later ((Later.refl wY).alloc (Obj.cells #[Value.bool s9, Value.slice P9 q9 e9, Value.bool false, Value.slice P9' q9' e9'] 36))).grown k2b (fun e => by have := (hbl gs e.symm).1; omega); have g2b := rs12.cell (i := 2) rfl; have gz2b := rs12.frozen 2; have RS12 := hide rs12; have HK1 := hide k1b; have HK2 := hide k2b; clear rs12 k1b k2b k3b hbl)
      have oo := Only.one gs w12 2 (.slice A12 n12 c12)
      have hbl := HC.out.lt
      have hgs := HGS.out
      refine ⟨⟨m+1, by omega, by go_num, _, _, _, RS12.out.set_ 2 _, ?_, ?_⟩, by simp [intOf]; omega⟩
      ·rw [HTK.out]; exact HK1.out.only oo RS12.out (by decide) (by decide)
      ·refine (((HL.out.trans HLY.out).alloc _).grown HK2.out (fun q hq => ?_)).only oo hgs
       have := (hbl q hq).1; omega
     ·skip
      obtain ⟨pp, hpp⟩ : ∃ p, (extraL P)[m - P.cost.length]? = some p := ⟨(extraL P)[m - P.cost.length]'(by have := HNV.out; omega), List.getElem?_eq_getElem _⟩
      have hle : P.cost.length <= m := by omega
      obtain ⟨bv, ofv, ev, xv⟩ := hcv.at1_ (colV_hi hle hpp)
      subst ev
      have HTK := hide (take_more (stdC_hi (P := P) hle (by have := HNV.out; omega)))
      clear hpp hcv
      obtain ⟨wY, hwY⟩ : ∃ W, W = w8 := ⟨_, rfl⟩
      rw [<- hwY] at xv ⊢
      have HLY : Hid (Later wr wY) := hide (by rw [hwY]; exact HL8.out)
      have RXY : Hid (Row wY gc 36 [.bool s8, .slice P8 q8 e8, .bool false, .slice P8' q8' e8']) := hide (by rw [hwY]; exact RGC.out)
      have HOY : Hid (OwnR wY 0 (.agg #[.bool s8, .slice P8 q8 e8, .bool false, .slice P8' q8' e8']) 0) := hide (by rw [hwY]; exact (OC8.out.weaken (Nat.zero_le _)))
      clear hwY RGC OC8 HGC
      go_upto_region 11 with fail
      clear xv
      have rs := RGS.out.later HLY.out
      have f0 := rs.cell (i := 0) rfl; have f1 := rs.cell (i := 1) rfl; have f2 := rs.cell (i := 2) rfl; have fz2 := rs.frozen 2
      have x0 := RXY.out.cell (i := 0) rfl; have x1 := RXY.out.cell (i := 1) rfl; have x2 := RXY.out.cell (i := 2) rfl; have x3 := RXY.out.cell (i := 3) rfl
      have RSY := hide rs
      clear rs
      go_wp2_with (at_builtin; refine wpList_append_rowu rfl _ _ rfl rfl (HC.out.later (HLY.out.alloc _)) rfl (Row.new wY 36 [.bool s8, .slice P8 q8 e8, .bool false, .slice P8' q8' e8']) (OwnR.later HOY.out ((Later.refl wY).alloc _)) HLM.out (by rw [World.size_alloc]; have h1 := HLY.out.size; have h2 := RGS.out.lt; omega) ?_; intro v12_ w12 k1b k2b k3b; obtain ⟨A12, n12, c12, rfl⟩ := k1b.form; have hbl := HC.out.lt; have rs12 := (RSY.out.later ((Later.refl wY).alloc (Obj.cells #[Value.bool s8, Value.slice P8 q8 e8, Value.bool false, Value.slice P8' q8' e8'] 36))).grown k2b (fun e => by have := (hbl gs e.symm).1; omega); have g2b := rs12.cell (i := 2) rfl; have gz2b := rs12.frozen 2; have RS12 := hide rs12; have HK1 := hide k1b; have HK2 := hide k2b; clear rs12 k1b k2b k3b hbl)
      have oo := Only.one gs w12 2 (.slice A12 n12 c12)
      have hbl := HC.out.lt
      have hgs := HGS.out
      refine ⟨⟨m+1, by omega, by go_num, _, _, _, RS12.out.set_ 2 _, ?_, ?_⟩, by simp [intOf]; omega⟩
      ·rw [HTK.out]; exact HK1.out.only oo RS12.out (by decide) (by decide)
      ·refine (((HL.out.trans HLY.out).alloc _).grown HK2.out (fun q hq => ?_)).only oo hgs
       have := (hbl q hq).1; omega
    ·have hm1 : ¬ (m : Int) < nv := by omega
     have hfull : (stdC P).take m = stdC P := List.take_of_length_le (by rw [stdC_len]; have := HNV.out; omega)
     rw [hfull] at HC
     have hgs := HGS.out
     have HBS : Hid (BS wr P w.heap.size (w.heap.size + 1) (w.heap.size + 2) gs (gs + 1) [.slice A1 n1 c1, .slice A2 n2 c2, .slice A3 n3 c3, .slice A4 n4 c4, .slice A5 n5 c5] (.slice Av nv cv) (.slice At nt ct) (.slice Aa na ca) (.slice AC nC cC)) := hide
      {b0 := R0.out.later (HL2.out.trans HL.out), b2 := R1.out.later (HL2.out.trans HL.out), b3 := R2.out.later (HL2.out.trans HL.out), s := RGS.out
       cols := HCO.out.later HL.out
       c := HC.out
       l2 := by have := R1.out.lt; have := HL2.out.size; omega
       l3 := by have := R2.out.lt; have := HL2.out.size; omega
       ls := by omega }
     have HG2 : Hid (gs ≠ w.heap.size + 1) := hide (by have := R1.out.lt; have := HL2.out.size; omega)
     have HG0 : Hid (w.heap.size <= gs) := hide (by have := B0.out.size; have := HL2.out.size; omega)
     clear hfull hgs
     go_upto_if 39 with fail
     go_step
     go_step
     simp only [Exit.then, Exit.inBlock]
     apply_assumption
     refine wp_mono (rstd_B w wr _ _ _ _ _ _ _ _ _ _ _ _ _ _ _ k P H.out HP.out w.heap.size (w.heap.size + 1) (w.heap.size + 2) gs (gs + 1) _ _ _ _ _ _ _ _ _ _ _ _ (B0.out.trans (HL2.out.trans HL.out)) HBS.out (by omega) (by omega) HG0.out HG2.out _ _ _ _ _ _ _ _ _ _ _ _ _ _ _ _ _ _ _ _ _ _ _ _ _ _ _ _ _ _ _ _ _ _ _ _ _ _ _ _ _ _ _ _ _ _ _ _ _ _ _ _ _ _ _ _ _ _ _ _ _ _ _ _ _ _ _ _ _ _ _ _ _ _ _ _ _ _ _ _ _ _ _ _ _ _ _ _ _ _ _ _ _ _ _ _ _ _ _ _ _ _ _ _ _ _ _ _ _ _ _ _ _ _ _ _ _ _ _ _ _ _ _ _ _ _ _ _ _ _ _ _ _ _ _ _ _ _ _ _ _ _ _ _ _ _ _ _ _ _ _ _ _ _ _ _ _ _ _ _ _ _ _ _ _ _ _ _ _ _ _ _ _ _ _ _ _ _ _ _ _ _ _ _ _ _ _ _ _ _ _ _ _ _ _ _ _ _ _ _ _ _ _ _ _ _ _ _ _ _ _ _ _ _ _  (bodyPost Tryz.prog Tryz.f18 (PStd w P) .ret) ?_) ?_
     ·intro a' w' vA vB s1 s2 P1 P2 q1 q2 e1 e2 hds h2 h3 h4 r2 r3 hA hB hCC hrr hLw
      refine bodyPost_ret (results_std rfl h2 h3 h4 r2 r3) hds ?_
      exact ⟨_, _, _, _, by rw [HU.out]; rfl, fun _ => ⟨hA, hB, hCC, hrr⟩, fun h => (by rw [HU.out] at h; cases h), hLw⟩
     ·intro e a w' h
      cases e <;> first | exact h | exact h.elim
end Go.Proofs.YtfokplidiboabaaGreat
namespace Go.Proofs.YtfokplidiboabaaGreat
open Go.RowKit Go.Shelf
attribute [local go_sem ↓] Go.wp_at_zero Go.wp_at_succ
theorem stds_nil (w : World) : StdS w (.slice none 0 0) (.slice none 0 0) (.slice none 0 0) [] [] [] :=
 ⟨⟨none, 0, rfl, by simp, by decide, fun i x h => by simp at h⟩, ⟨none, 0, rfl, by simp, by decide, fun i x h => by simp at h⟩, ⟨none, 0, rfl, by simp, by decide, fun i x h => by simp at h⟩, (fun r h => by cases h), (fun q h => by cases h), (fun q h => by cases h), by decide, (fun r h => by cases h), by decide, by decide⟩
set_option maxHeartbeats 16000000 in
theorem formstandards_walk (w : World) (v : Value) (h : ArgLp w v) : Calls Tryz.prog 3 #[v] w (RetV w (.bool true)) := by
 obtain ⟨A1, n1, c1, A2, n2, c2, A3, n3, c3, A4, n4, c4, A5, n5, c5, cost, rows, lo, hi, opn, rfl, h1, h2, h3, h4, h5⟩ := h
 have H1 := hide h1; have H2 := hide h2; have H3 := hide h3; have H4 := hide h4; have H5 := hide h5
 clear h1 h2 h3 h4 h5
 obtain ⟨W0, hW0⟩ : ∃ W0, W0 = (w.alloc (Obj.cells #[Value.slice A1 n1 c1, Value.slice A2 n2 c2, Value.slice A3 n3 c3, Value.slice A4 n4 c4, Value.slice A5 n5 c5] 26)) := ⟨_, rfl⟩
 obtain ⟨hb0, r0, hsz0⟩ := boxes1 w [.slice A1 n1 c1, .slice A2 n2 c2, .slice A3 n3 c3, .slice A4 n4 c4, .slice A5 n5 c5] 26 hW0
 have B0 := hide hb0; have HW0 := hide hW0; have HSZ0 := hide hsz0
 have R0 := hide r0
 clear hb0 hW0 hsz0 r0
 go_enter Tryz.func3, Tryz.ntmps3
 go_upto_region 1 with fail
 rw [<- HW0.out]
 go_wp2_with fail
 refine (awake11_calls _).mono ?_
 rintro e w1 ⟨rfl, b1⟩
 have HL1 := hide b1
 clear b1
 have r_d := R0.out.later HL1.out
 have d0 := r_d.cell (i := 0) rfl; have d1 := r_d.cell (i := 1) rfl; have d2 := r_d.cell (i := 2) rfl; have d3 := r_d.cell (i := 3) rfl; have d4 := r_d.cell (i := 4) rfl
 clear r_d
 go_wp2_with fail
 have hl1 := hide (B0.out.trans HL1.out)
 refine (fewlp_calls _ _ _ _ _ _ _ _ _ _ _ _ _ _ _ _ cost rows lo hi opn 5 (by omega) (H1.out.later EAny.later hl1.out) (H2.out.later EAnyRow.later hl1.out) (H3.out.later EAny.later hl1.out) (H4.out.later EAny.later hl1.out) (H5.out.later hl1.out)).mono ?_
 rintro e w2 ⟨t, rfl, hP, b2⟩
 have HL2 := hide (HL1.out.trans b2)
 clear b2 hl1 d0 d1 d2 d3 d4 H1 H2 H3 H4 H5
 have r_d := R0.out.later HL2.out
 have d0 := r_d.cell (i := 0) rfl; have d1 := r_d.cell (i := 1) rfl; have d2 := r_d.cell (i := 2) rfl; have d3 := r_d.cell (i := 3) rfl; have d4 := r_d.cell (i := 4) rfl
 clear r_d
 cases t with
 | false =>
   go_wp2_with fail
   go_ret
   exact ⟨rfl, B0.out.trans HL2.out⟩
 | true =>
   obtain ⟨P, hI, hc5, hlo5, hhi5, hr5, hrc5⟩ := hP rfl
   have HI2 := hide hI
   clear hP hI
   obtain ⟨u, hu⟩ : ∃ u, lpB P = u := ⟨_, rfl⟩
   have HU := hide hu
   clear hu
   cases u with
   | true =>
     have HP := hide (lpB_iff.1 HU.out)
     obtain ⟨a1, a2, a3, a4⟩ := std_small HI2.out HP.out hc5
     obtain ⟨rv, hrv⟩ : ∃ q, restV P = q := ⟨_, rfl⟩
     have HSR : Hid (Sized rv 1000) := hide (by rw [<- hrv]; exact a4.mono (by omega))
     have HRV := hide hrv
     clear a1 a2 a3 a4 hrv
     go_wp2_with fail
     refine (pstd_calls _ _ _ _ _ _ _ _ _ _ _ _ _ _ _ _ 1 P HI2.out).mono ?_
     rintro e w20 ⟨vA, vB, vC, vr, rfl, hv, hn, b20⟩
     have hv := hv HU.out
     obtain ⟨A20, n20, c20, rfl, -⟩ := hv.a.form
     obtain ⟨A21, n21, c21, rfl, -⟩ := hv.b.form
     obtain ⟨A22, n22, c22, rfl, -⟩ := hv.c.form
     obtain ⟨s20, P20, q20, e20, P20', q20', e20', rfl, o20⟩ := hv.r.open_
     rw [show (if lpB P then (0 : Int) else 1) = 0 by rw [HU.out]; rfl]
     have HV20 := hide hv; have HB20 := hide b20
     clear hv hn o20 b20 d0 d1 d2 d3 d4
     go_upto_region 6 with fail
     obtain ⟨wm, hwm⟩ : ∃ W, W = (w20.alloc (Obj.cells #[Value.slice A20 n20 c20, Value.slice A21 n21 c21, Value.slice A22 n22 c22] 31)).alloc (Obj.cells #[Value.bool s20, Value.slice P20 q20 e20, Value.bool false, Value.slice P20' q20' e20'] 36) := ⟨_, rfl⟩
     obtain ⟨gs, hgs⟩ : ∃ g, g = w20.heap.size := ⟨_, rfl⟩
     have bwm : Later w20 wm := by rw [hwm]; exact ((Later.refl _).alloc _).alloc _
     have rgs : Row wm gs 31 [.slice A20 n20 c20, .slice A21 n21 c21, .slice A22 n22 c22] := by rw [hwm, hgs]; exact (Row.new _ _ _).alloc _
     have rga : Row wm (gs + 1) 36 [.bool s20, .slice P20 q20 e20, .bool false, .slice P20' q20' e20'] := by rw [hwm, hgs]; have h9 := Row.new (w20.alloc (Obj.cells #[Value.slice A20 n20 c20, Value.slice A21 n21 c21, Value.slice A22 n22 c22] 31)) 36 [.bool s20, .slice P20 q20 e20, .bool false, .slice P20' q20' e20']; rw [World.size_alloc] at h9; exact h9
     rw [<- hwm, <- hgs]
     have HL20 := hide (HB20.out.trans bwm); have HVV20 := hide (HV20.out.later bwm); have RS20 := hide rgs; have RA20 := hide rga
     clear hwm hgs bwm rgs rga HV20 HB20
     have r_d := R0.out.later (HL2.out.trans HL20.out)
     have d0 := r_d.cell (i := 0) rfl; have d1 := r_d.cell (i := 1) rfl; have d2 := r_d.cell (i := 2) rfl; have d3 := r_d.cell (i := 3) rfl; have d4 := r_d.cell (i := 4) rfl
     clear r_d
     go_wp2_with fail
     refine (rstd11_calls _ _ _ _ _ _ _ _ _ _ _ _ _ _ _ _ 1 P (HI2.out.later HL20.out)).mono ?_
     rintro e w30 ⟨vA, vB, vC, vr, rfl, hv, hn, b30⟩
     have hv := hv HU.out
     obtain ⟨A30, n30, c30, rfl, -⟩ := hv.a.form
     obtain ⟨A31, n31, c31, rfl, -⟩ := hv.b.form
     obtain ⟨A32, n32, c32, rfl, -⟩ := hv.c.form
     obtain ⟨s30, P30, q30, e30, P30', q30', e30', rfl, o30⟩ := hv.r.open_
     rw [show (if lpB P then (0 : Int) else 1) = 0 by rw [HU.out]; rfl]
     have HV30 := hide hv; have HB30 := hide b30
     clear hv hn o30 b30 d0 d1 d2 d3 d4
     go_upto_region 7 with fail
     obtain ⟨wx, hwx⟩ : ∃ W, W = (w30.alloc (Obj.cells #[Value.slice A30 n30 c30, Value.slice A31 n31 c31, Value.slice A32 n32 c32] 31)).alloc (Obj.cells #[Value.bool s30, Value.slice P30 q30 e30, Value.bool false, Value.slice P30' q30' e30'] 36) := ⟨_, rfl⟩
     obtain ⟨gt, hgt⟩ : ∃ g, g = w30.heap.size := ⟨_, rfl⟩
     have bwx : Later w30 wx := by rw [hwx]; exact ((Later.refl _).alloc _).alloc _
     have rgt : Row wx gt 31 [.slice A30 n30 c30, .slice A31 n31 c31, .slice A32 n32 c32] := by rw [hwx, hgt]; exact (Row.new _ _ _).alloc _
     have rgb : Row wx (gt + 1) 36 [.bool s30, .slice P30 q30 e30, .bool false, .slice P30' q30' e30'] := by rw [hwx, hgt]; have h9 := Row.new (w30.alloc (Obj.cells #[Value.slice A30 n30 c30, Value.slice A31 n31 c31, Value.slice A32 n32 c32] 31)) 36 [.bool s30, .slice P30 q30 e30, .bool false, .slice P30' q30' e30']; rw [World.size_alloc] at h9; exact h9
     rw [<- hwx, <- hgt]
     have HL30 := hide (HB30.out.trans bwx); have HVV30 := hide (HV30.out.later bwx); have RS30 := hide rgt; have RA30 := hide rgb
     clear hwx hgt bwx rgt rgb HV30 HB30
     have HLx := hide (HL2.out.trans (HL20.out.trans HL30.out)); have HI := hide (HI2.out.later (HL20.out.trans HL30.out))
     have SSP := hide (std_ss11 HI2.out HP.out hc5 (HVV20.out.later HL30.out)); have SSQ := hide (std_ss11 HI2.out HP.out hc5 HVV30.out)
     have HIN := hide (std_in11 HI2.out HP.out hc5 (HVV20.out.later HL30.out))
     have HRT := hide (std_right HP.out)
     have ORP := hide (by have h9 := (HVV20.out.later HL30.out).r; rw [HRV.out] at h9; exact h9); have ORQ := hide (by have h9 := HVV30.out.r; rw [HRV.out] at h9; exact h9)
     have RSx := hide (RS20.out.later HL30.out); have RAx := hide (RA20.out.later HL30.out); have RTx := RS30; have RBx := RA30
     clear RS20 RA20 HVV20 HVV30
     have HT1 : Hid (∀ w', Later wx w' -> w'.cell? ⟨w.heap.size, 0, none⟩ = some (.slice A1 n1 c1) /\ w'.cell? ⟨w.heap.size, 1, none⟩ = some (.slice A2 n2 c2) /\ w'.cell? ⟨w.heap.size, 2, none⟩ = some (.slice A3 n3 c3) /\ w'.cell? ⟨w.heap.size, 3, none⟩ = some (.slice A4 n4 c4) /\ w'.cell? ⟨w.heap.size, 4, none⟩ = some (.slice A5 n5 c5) /\ w'.cell? ⟨gs, 0, none⟩ = some (.slice A20 n20 c20) /\ w'.cell? ⟨gs, 1, none⟩ = some (.slice A21 n21 c21) /\ w'.cell? ⟨gs, 2, none⟩ = some (.slice A22 n22 c22) /\ w'.cell? ⟨gs + 1, 0, none⟩ = some (.bool s20) /\ w'.cell? ⟨gs + 1, 1, none⟩ = some (.slice P20 q20 e20) /\ w'.cell? ⟨gs + 1, 2, none⟩ = some (.bool false) /\ w'.cell? ⟨gs + 1, 3, none⟩ = some (.slice P20' q20' e20') /\ w'.cell? ⟨gt, 0, none⟩ = some (.slice A30 n30 c30) /\ w'.cell? ⟨gt, 1, none⟩ = some (.slice A31 n31 c31) /\ w'.cell? ⟨gt, 2, none⟩ = some (.slice A32 n32 c32) /\ w'.cell? ⟨gt + 1, 0, none⟩ = some (.bool s30) /\ w'.cell? ⟨gt + 1, 1, none⟩ = some (.slice P30 q30 e30) /\ w'.cell? ⟨gt + 1, 2, none⟩ = some (.bool false) /\ w'.cell? ⟨gt + 1, 3, none⟩ = some (.slice P30' q30' e30')) := hide fun W hW => by
      have h0 := R0.out.later (HLx.out.trans hW); have h1 := RSx.out.later hW; have h2 := RAx.out.later hW; have h3 := RTx.out.later hW; have h4 := RBx.out.later hW
      exact ⟨h0.cell rfl, h0.cell rfl, h0.cell rfl, h0.cell rfl, h0.cell rfl, h1.cell rfl, h1.cell rfl, h1.cell rfl, h2.cell rfl, h2.cell rfl, h2.cell rfl, h2.cell rfl, h3.cell rfl, h3.cell rfl, h3.cell rfl, h4.cell rfl, h4.cell rfl, h4.cell rfl, h4.cell rfl⟩
     have hmx : Tryz.prog.follows .mixedOrders = true := by kernel_rfl
     refine wp_region_N (fun w' => w'.cell? ⟨w.heap.size, 0, none⟩ = some (.slice A1 n1 c1) /\ w'.cell? ⟨w.heap.size, 1, none⟩ = some (.slice A2 n2 c2) /\ w'.cell? ⟨w.heap.size, 2, none⟩ = some (.slice A3 n3 c3) /\ w'.cell? ⟨w.heap.size, 3, none⟩ = some (.slice A4 n4 c4) /\ w'.cell? ⟨w.heap.size, 4, none⟩ = some (.slice A5 n5 c5) /\ w'.cell? ⟨gs, 0, none⟩ = some (.slice A20 n20 c20) /\ w'.cell? ⟨gs, 1, none⟩ = some (.slice A21 n21 c21) /\ w'.cell? ⟨gs, 2, none⟩ = some (.slice A22 n22 c22) /\ w'.cell? ⟨gs + 1, 0, none⟩ = some (.bool s20) /\ w'.cell? ⟨gs + 1, 1, none⟩ = some (.slice P20 q20 e20) /\ w'.cell? ⟨gs + 1, 2, none⟩ = some (.bool false) /\ w'.cell? ⟨gs + 1, 3, none⟩ = some (.slice P20' q20' e20') /\ w'.cell? ⟨gt, 0, none⟩ = some (.slice A30 n30 c30) /\ w'.cell? ⟨gt, 1, none⟩ = some (.slice A31 n31 c31) /\ w'.cell? ⟨gt, 2, none⟩ = some (.slice A32 n32 c32) /\ w'.cell? ⟨gt + 1, 0, none⟩ = some (.bool s30) /\ w'.cell? ⟨gt + 1, 1, none⟩ = some (.slice P30 q30 e30) /\ w'.cell? ⟨gt + 1, 2, none⟩ = some (.bool false) /\ w'.cell? ⟨gt + 1, 3, none⟩ = some (.slice P30' q30' e30')) [] hmx (HT1.out _ lt_) (fun hHeld => ?_)
     refine tkB 26 0 ?_
     refine tkB 27 1 ?_
     refine wpAnyN_ready (rs := [2]) (by kernel_rfl) (by simp) ?_
     refine AllReadyN.held rfl (by rfl) (fun K hK => ?_) AllReadyN.nil
     go_simp
     refine (ssame_calls _ _ _ _ _ _ _ _ _ _ _ _ _ (SSP.out.later lt_) (SSQ.out.later lt_) true (by simp)).mono ?_
     rintro e w51 ⟨rfl, b51⟩
     have l51 : Later wx w51 := Later.trans lt_ b51
     refine hK.out _ _ ?_ (fun hHeld => ?_)
     ·exact HT1.out _ lt_
     clear hK K
     try simp only [Act.put, s1_, s2_, s3_]
     refine tkB 29 3 ?_
     refine tkB 30 4 ?_
     refine tkB 31 5 ?_
     refine wpAnyN_ready (rs := [6]) (by kernel_rfl) (by simp) ?_
     refine AllReadyN.held rfl (by rfl) (fun K hK => ?_) AllReadyN.nil
     go_simp
     refine (qsame_calls _ _ _ rv rv 0 0 1000 1000 (OwnR.later ORP.out lt_) (OwnR.later ORQ.out lt_) HSR.out HSR.out (by omega) (by omega) true (by simp)).mono ?_
     rintro e w52 ⟨rfl, b52⟩
     have l52 : Later wx w52 := Later.trans lt_ b52
     refine hK.out _ _ ?_ (fun hHeld => ?_)
     ·exact HT1.out _ lt_
     clear hK K
     try simp only [Act.put, s1_, s2_, s3_]
     refine tkB 33 7 ?_
     refine tkB 34 8 ?_
     refine tkB 35 9 ?_
     refine tkB 36 10 ?_
     refine tkB 37 11 ?_
     refine tkB 38 12 ?_
     refine tkB 39 13 ?_
     refine tkB 40 14 ?_
     refine tkB 42 16 ?_
     refine wpAnyN_ready (rs := [15]) (by kernel_rfl) (by simp) ?_
     refine AllReadyN.held rfl (by rfl) (fun K hK => ?_) AllReadyN.nil
     go_simp
     refine (pmay_calls _ _ _ _ _ _ _ _ _ _ _ _ _ _ _ _ 1 P (HI.out.later lt_)).mono ?_
     rintro e w53 ⟨rfl, b53⟩
     rw [HU.out]
     have l53 : Later wx w53 := Later.trans lt_ b53
     refine hK.out _ _ ?_ (fun hHeld => ?_)
     ·exact HT1.out _ lt_
     clear hK K
     try simp only [Act.put, s1_, s2_, s3_]
     refine wpAnyN_ready (rs := [17]) (by kernel_rfl) (by simp) ?_
     refine AllReadyN.held rfl (by rfl) (fun K hK => ?_) AllReadyN.nil
     go_simp
     refine (rmay11_calls _ _ _ _ _ _ _ _ _ _ _ _ _ _ _ _ 1 P (HI.out.later lt_)).mono ?_
     rintro e w54 ⟨rfl, b54⟩
     rw [HU.out]
     have l54 : Later wx w54 := Later.trans lt_ b54
     refine hK.out _ _ ?_ (fun hHeld => ?_)
     ·exact HT1.out _ lt_
     clear hK K
     try simp only [Act.put, s1_, s2_, s3_]
     refine tkB 44 18 ?_
     refine tkB 45 19 ?_
     refine tkB 46 20 ?_
     refine tkB 47 21 ?_
     refine tkB 48 22 ?_
     refine tkB 49 23 ?_
     refine tkB 50 24 ?_
     refine wpAnyN_ready (rs := [25]) (by kernel_rfl) (by simp) ?_
     refine AllReadyN.held rfl (by rfl) (fun K hK => ?_) AllReadyN.nil
     go_simp
     refine (right_std (HIN.out.later lt_)).mono ?_
     rintro e w55 ⟨rfl, b55⟩
     rw [HRT.out]
     have l55 : Later wx w55 := Later.trans lt_ b55
     refine hK.out _ _ ?_ (fun hHeld => ?_)
     ·exact HT1.out _ lt_
     clear hK K
     try simp only [Act.put, s1_, s2_, s3_]
     refine tkB 52 26 ?_
     refine tkB 53 27 ?_
     refine wpAnyN_ready (rs := [28]) (by kernel_rfl) (by simp) ?_
     refine AllReadyN.held rfl (by rfl) (fun K hK => ?_) AllReadyN.nil
     go_simp
     refine (rright_std (HIN.out.later lt_)).mono ?_
     rintro e w56 ⟨rfl, b56⟩
     rw [HRT.out]
     have l56 : Later wx w56 := Later.trans lt_ b56
     refine hK.out _ _ ?_ (fun hHeld => ?_)
     ·exact HT1.out _ lt_
     clear hK K
     try simp only [Act.put, s1_, s2_, s3_]
     refine tkB 55 29 ?_
     refine tkB 56 30 ?_
     refine tkB 57 31 ?_
     refine tkB 2 32 ?_
     refine wpAnyN_done (by kernel_rfl) ?_ _
     have LE := hide (HLx.out.trans (show Later wx w56 from lt_))
     clear hHeld
     go_wp2_with fail
     go_ret
     exact ⟨rfl, B0.out.trans LE.out⟩
   | false =>
     have HSR : Hid (Sized (0 : Rat) 1000) := hide (Sized.zero 999)
     obtain ⟨rv, hrv⟩ : ∃ q : Rat, 0 = q := ⟨_, rfl⟩
     rw [hrv] at HSR
     have HRV := hide hrv
     clear hrv
     go_wp2_with fail
     refine (pstd_calls _ _ _ _ _ _ _ _ _ _ _ _ _ _ _ _ 1 P HI2.out).mono ?_
     rintro e w20 ⟨vA, vB, vC, vr, rfl, hv, hn, b20⟩
     obtain ⟨rfl, rfl, rfl, o20⟩ := hn HU.out
     obtain ⟨s20, P20, q20, e20, P20', q20', e20', rfl, o20⟩ := o20.open_
     rw [show (if lpB P then (0 : Int) else 1) = 1 by rw [HU.out]; rfl]
     have HO20 := hide o20; have HB20 := hide b20
     clear hv hn o20 b20 d0 d1 d2 d3 d4
     go_upto_region 6 with fail
     obtain ⟨wm, hwm⟩ : ∃ W, W = (w20.alloc (Obj.cells #[Value.slice none 0 0, Value.slice none 0 0, Value.slice none 0 0] 31)).alloc (Obj.cells #[Value.bool s20, Value.slice P20 q20 e20, Value.bool false, Value.slice P20' q20' e20'] 36) := ⟨_, rfl⟩
     obtain ⟨gs, hgs⟩ : ∃ g, g = w20.heap.size := ⟨_, rfl⟩
     have bwm : Later w20 wm := by rw [hwm]; exact ((Later.refl _).alloc _).alloc _
     have rgs : Row wm gs 31 [.slice none 0 0, .slice none 0 0, .slice none 0 0] := by rw [hwm, hgs]; exact (Row.new _ _ _).alloc _
     have rga : Row wm (gs + 1) 36 [.bool s20, .slice P20 q20 e20, .bool false, .slice P20' q20' e20'] := by rw [hwm, hgs]; have h9 := Row.new (w20.alloc (Obj.cells #[Value.slice none 0 0, Value.slice none 0 0, Value.slice none 0 0] 31)) 36 [.bool s20, .slice P20 q20 e20, .bool false, .slice P20' q20' e20']; rw [World.size_alloc] at h9; exact h9
     rw [<- hwm, <- hgs]
     have HL20 := hide (HB20.out.trans bwm); have HOO20 := hide (OwnR.later HO20.out bwm); have RS20 := hide rgs; have RA20 := hide rga
     clear hwm hgs bwm rgs rga HO20 HB20
     have r_d := R0.out.later (HL2.out.trans HL20.out)
     have d0 := r_d.cell (i := 0) rfl; have d1 := r_d.cell (i := 1) rfl; have d2 := r_d.cell (i := 2) rfl; have d3 := r_d.cell (i := 3) rfl; have d4 := r_d.cell (i := 4) rfl
     clear r_d
     go_wp2_with fail
     refine (rstd11_calls _ _ _ _ _ _ _ _ _ _ _ _ _ _ _ _ 1 P (HI2.out.later HL20.out)).mono ?_
     rintro e w30 ⟨vA, vB, vC, vr, rfl, hv, hn, b30⟩
     obtain ⟨rfl, rfl, rfl, o30⟩ := hn HU.out
     obtain ⟨s30, P30, q30, e30, P30', q30', e30', rfl, o30⟩ := o30.open_
     rw [show (if lpB P then (0 : Int) else 1) = 1 by rw [HU.out]; rfl]
     have HO30 := hide o30; have HB30 := hide b30
     clear hv hn o30 b30 d0 d1 d2 d3 d4
     go_upto_region 7 with fail
     obtain ⟨wx, hwx⟩ : ∃ W, W = (w30.alloc (Obj.cells #[Value.slice none 0 0, Value.slice none 0 0, Value.slice none 0 0] 31)).alloc (Obj.cells #[Value.bool s30, Value.slice P30 q30 e30, Value.bool false, Value.slice P30' q30' e30'] 36) := ⟨_, rfl⟩
     obtain ⟨gt, hgt⟩ : ∃ g, g = w30.heap.size := ⟨_, rfl⟩
     have bwx : Later w30 wx := by rw [hwx]; exact ((Later.refl _).alloc _).alloc _
     have rgt : Row wx gt 31 [.slice none 0 0, .slice none 0 0, .slice none 0 0] := by rw [hwx, hgt]; exact (Row.new _ _ _).alloc _
     have rgb : Row wx (gt + 1) 36 [.bool s30, .slice P30 q30 e30, .bool false, .slice P30' q30' e30'] := by rw [hwx, hgt]; have h9 := Row.new (w30.alloc (Obj.cells #[Value.slice none 0 0, Value.slice none 0 0, Value.slice none 0 0] 31)) 36 [.bool s30, .slice P30 q30 e30, .bool false, .slice P30' q30' e30']; rw [World.size_alloc] at h9; exact h9
     rw [<- hwx, <- hgt]
     have HL30 := hide (HB30.out.trans bwx); have HOO30 := hide (OwnR.later HO30.out bwx); have RS30 := hide rgt; have RA30 := hide rgb
     clear hwx hgt bwx rgt rgb HO30 HB30
     have HLx := hide (HL2.out.trans (HL20.out.trans HL30.out)); have HI := hide (HI2.out.later (HL20.out.trans HL30.out))
     have SSP := hide (stds_nil wx); have SSQ := SSP
     have ORP := hide (by have h9 := OwnR.later HOO20.out HL30.out; rw [HRV.out] at h9; exact h9); have ORQ := hide (by have h9 := HOO30.out; rw [HRV.out] at h9; exact h9)
     have RSx := hide (RS20.out.later HL30.out); have RAx := hide (RA20.out.later HL30.out); have RTx := RS30; have RBx := RA30
     clear RS20 RA20 HOO20 HOO30
     have HT1 : Hid (∀ w', Later wx w' -> w'.cell? ⟨w.heap.size, 0, none⟩ = some (.slice A1 n1 c1) /\ w'.cell? ⟨w.heap.size, 1, none⟩ = some (.slice A2 n2 c2) /\ w'.cell? ⟨w.heap.size, 2, none⟩ = some (.slice A3 n3 c3) /\ w'.cell? ⟨w.heap.size, 3, none⟩ = some (.slice A4 n4 c4) /\ w'.cell? ⟨w.heap.size, 4, none⟩ = some (.slice A5 n5 c5) /\ w'.cell? ⟨gs, 0, none⟩ = some (.slice none 0 0) /\ w'.cell? ⟨gs, 1, none⟩ = some (.slice none 0 0) /\ w'.cell? ⟨gs, 2, none⟩ = some (.slice none 0 0) /\ w'.cell? ⟨gs + 1, 0, none⟩ = some (.bool s20) /\ w'.cell? ⟨gs + 1, 1, none⟩ = some (.slice P20 q20 e20) /\ w'.cell? ⟨gs + 1, 2, none⟩ = some (.bool false) /\ w'.cell? ⟨gs + 1, 3, none⟩ = some (.slice P20' q20' e20') /\ w'.cell? ⟨gt, 0, none⟩ = some (.slice none 0 0) /\ w'.cell? ⟨gt, 1, none⟩ = some (.slice none 0 0) /\ w'.cell? ⟨gt, 2, none⟩ = some (.slice none 0 0) /\ w'.cell? ⟨gt + 1, 0, none⟩ = some (.bool s30) /\ w'.cell? ⟨gt + 1, 1, none⟩ = some (.slice P30 q30 e30) /\ w'.cell? ⟨gt + 1, 2, none⟩ = some (.bool false) /\ w'.cell? ⟨gt + 1, 3, none⟩ = some (.slice P30' q30' e30')) := hide fun W hW => by
      have h0 := R0.out.later (HLx.out.trans hW); have h1 := RSx.out.later hW; have h2 := RAx.out.later hW; have h3 := RTx.out.later hW; have h4 := RBx.out.later hW
      exact ⟨h0.cell rfl, h0.cell rfl, h0.cell rfl, h0.cell rfl, h0.cell rfl, h1.cell rfl, h1.cell rfl, h1.cell rfl, h2.cell rfl, h2.cell rfl, h2.cell rfl, h2.cell rfl, h3.cell rfl, h3.cell rfl, h3.cell rfl, h4.cell rfl, h4.cell rfl, h4.cell rfl, h4.cell rfl⟩
     have hmx : Tryz.prog.follows .mixedOrders = true := by kernel_rfl
     refine wp_region_N (fun w' => w'.cell? ⟨w.heap.size, 0, none⟩ = some (.slice A1 n1 c1) /\ w'.cell? ⟨w.heap.size, 1, none⟩ = some (.slice A2 n2 c2) /\ w'.cell? ⟨w.heap.size, 2, none⟩ = some (.slice A3 n3 c3) /\ w'.cell? ⟨w.heap.size, 3, none⟩ = some (.slice A4 n4 c4) /\ w'.cell? ⟨w.heap.size, 4, none⟩ = some (.slice A5 n5 c5) /\ w'.cell? ⟨gs, 0, none⟩ = some (.slice none 0 0) /\ w'.cell? ⟨gs, 1, none⟩ = some (.slice none 0 0) /\ w'.cell? ⟨gs, 2, none⟩ = some (.slice none 0 0) /\ w'.cell? ⟨gs + 1, 0, none⟩ = some (.bool s20) /\ w'.cell? ⟨gs + 1, 1, none⟩ = some (.slice P20 q20 e20) /\ w'.cell? ⟨gs + 1, 2, none⟩ = some (.bool false) /\ w'.cell? ⟨gs + 1, 3, none⟩ = some (.slice P20' q20' e20') /\ w'.cell? ⟨gt, 0, none⟩ = some (.slice none 0 0) /\ w'.cell? ⟨gt, 1, none⟩ = some (.slice none 0 0) /\ w'.cell? ⟨gt, 2, none⟩ = some (.slice none 0 0) /\ w'.cell? ⟨gt + 1, 0, none⟩ = some (.bool s30) /\ w'.cell? ⟨gt + 1, 1, none⟩ = some (.slice P30 q30 e30) /\ w'.cell? ⟨gt + 1, 2, none⟩ = some (.bool false) /\ w'.cell? ⟨gt + 1, 3, none⟩ = some (.slice P30' q30' e30')) [] hmx (HT1.out _ lt_) (fun hHeld => ?_)
     refine tkB 26 0 ?_
     refine tkB 27 1 ?_
     refine wpAnyN_ready (rs := [2]) (by kernel_rfl) (by simp) ?_
     refine AllReadyN.held rfl (by rfl) (fun K hK => ?_) AllReadyN.nil
     go_simp
     refine (ssame_calls _ _ _ _ _ _ _ _ _ _ _ _ _ (SSP.out.later lt_) (SSQ.out.later lt_) true (by simp)).mono ?_
     rintro e w51 ⟨rfl, b51⟩
     have l51 : Later wx w51 := Later.trans lt_ b51
     refine hK.out _ _ ?_ (fun hHeld => ?_)
     ·exact HT1.out _ lt_
     clear hK K
     try simp only [Act.put, s1_, s2_, s3_]
     refine tkB 29 3 ?_
     refine tkB 30 4 ?_
     refine tkB 31 5 ?_
     refine wpAnyN_ready (rs := [6]) (by kernel_rfl) (by simp) ?_
     refine AllReadyN.held rfl (by rfl) (fun K hK => ?_) AllReadyN.nil
     go_simp
     refine (qsame_calls _ _ _ rv rv 0 0 1000 1000 (OwnR.later ORP.out lt_) (OwnR.later ORQ.out lt_) HSR.out HSR.out (by omega) (by omega) true (by simp)).mono ?_
     rintro e w52 ⟨rfl, b52⟩
     have l52 : Later wx w52 := Later.trans lt_ b52
     refine hK.out _ _ ?_ (fun hHeld => ?_)
     ·exact HT1.out _ lt_
     clear hK K
     try simp only [Act.put, s1_, s2_, s3_]
     refine tkB 33 7 ?_
     refine tkB 34 8 ?_
     refine tkB 35 9 ?_
     refine tkB 36 10 ?_
     refine tkB 37 11 ?_
     refine tkB 38 12 ?_
     refine tkB 39 13 ?_
     refine tkB 40 14 ?_
     refine tkB 42 16 ?_
     refine wpAnyN_ready (rs := [15]) (by kernel_rfl) (by simp) ?_
     refine AllReadyN.held rfl (by rfl) (fun K hK => ?_) AllReadyN.nil
     go_simp
     refine (pmay_calls _ _ _ _ _ _ _ _ _ _ _ _ _ _ _ _ 1 P (HI.out.later lt_)).mono ?_
     rintro e w53 ⟨rfl, b53⟩
     rw [HU.out]
     have l53 : Later wx w53 := Later.trans lt_ b53
     refine hK.out _ _ ?_ (fun hHeld => ?_)
     ·exact HT1.out _ lt_
     clear hK K
     try simp only [Act.put, s1_, s2_, s3_]
     refine wpAnyN_ready (rs := [17]) (by kernel_rfl) (by simp) ?_
     refine AllReadyN.held rfl (by rfl) (fun K hK => ?_) AllReadyN.nil
     go_simp
     refine (rmay11_calls _ _ _ _ _ _ _ _ _ _ _ _ _ _ _ _ 1 P (HI.out.later lt_)).mono ?_
     rintro e w54 ⟨rfl, b54⟩
     rw [HU.out]
     have l54 : Later wx w54 := Later.trans lt_ b54
     refine hK.out _ _ ?_ (fun hHeld => ?_)
     ·exact HT1.out _ lt_
     clear hK K
     try simp only [Act.put, s1_, s2_, s3_]
     refine tkB 44 18 ?_
     refine tkB 45 19 ?_
     refine tkB 46 20 ?_
     refine tkB 47 21 ?_
     refine tkB 48 22 ?_
     refine tkB 49 23 ?_
     refine tkU 50 24 ?_
     try simp only [Act.put, s1_, s2_, s3_]
     refine tkU 51 25 ?_
     try simp only [Act.put, s1_, s2_, s3_]
     refine tkU 52 26 ?_
     try simp only [Act.put, s1_, s2_, s3_]
     refine tkU 53 27 ?_
     try simp only [Act.put, s1_, s2_, s3_]
     refine tkU 54 28 ?_
     try simp only [Act.put, s1_, s2_, s3_]
     refine tkU 55 29 ?_
     try simp only [Act.put, s1_, s2_, s3_]
     refine tkB 56 30 ?_
     refine tkB 57 31 ?_
     refine tkB 2 32 ?_
     refine wpAnyN_done (by kernel_rfl) ?_ _
     have LE := hide (HLx.out.trans (show Later wx w54 from lt_))
     clear hHeld
     go_wp2_with fail
     go_ret
     exact ⟨rfl, B0.out.trans LE.out⟩
end Go.Proofs.YtfokplidiboabaaGreat
