/- Problems: May (the reference), anyOpen. -/
import Derived.Test.YtfokplidiboabaaGreatS25
import Derived.Test.YtfokplidiboabaaGreatS8
import Derived.Test.YtfokplidiboabaaGreatS18
import Derived.Test.YtfokplidiboabaaGreatS6
set_option linter.unusedVariables false
set_option linter.unusedSimpArgs false
set_option maxRecDepth 100000
namespace Go.Proofs.YtfokplidiboabaaGreat
open Go.RowKit Go.Shelf
attribute [local go_sem ↓] Go.wp_at_zero Go.wp_at_succ
set_option maxHeartbeats 16000000 in
theorem rmay11_calls (w : World) (A1 A2 A3 A4 A5 : Option Addr) (n1 n2 n3 n4 n5 c1 c2 c3 c4 c5 : Nat) (k : Nat) (P : PLp) (h : LpIn w (.slice A1 n1 c1) (.slice A2 n2 c2) (.slice A3 n3 c3) (.slice A4 n4 c4) (.slice A5 n5 c5) k P) :
 Calls Tryz.prog 22 #[.agg #[.slice A1 n1 c1, .slice A2 n2 c2, .slice A3 n3 c3, .slice A4 n4 c4, .slice A5 n5 c5]] w (RetV w (.bool (lpB P))) := by
 have H := hide h
 have hc1 := h.cost; have hr1 := h.rows; have hl1 := h.lo; have hh1 := h.hi; have ho1 := h.opn
 have L1 := hide hc1.len_; have L2 := hide hr1.len_; have L3 := hide hl1.len_; have L4 := hide hh1.len_; have L5 := hide ho1.len_
 have hn1 : n1 <= 1000 := by have := h.cl; have := L1.out; omega
 have hn2 : n2 <= 1000 := by have := h.rl; have := L2.out; omega
 have hn3 : n3 <= 1000 := by have := h.ll; have := L3.out; omega
 have hn4 : n4 <= 1000 := by have := h.hl; have := L4.out; omega
 have hn5 : n5 <= 1000 := by have := h.ol; have := L5.out; omega
 have hkk := h.kk
 clear h hc1 hr1 hl1 hh1 ho1
 obtain ⟨u, hu⟩ : ∃ u, lpB P = u := ⟨_, rfl⟩
 rw [hu]
 have HU := hide hu
 clear hu
 obtain ⟨fC, fL, fH, g1, g2, g3, hf⟩ := H.out.flags
 have G1 := hide g1; have G2 := hide g2; have G3 := hide g3; have HFL := hide hf
 have LG : Hid (fC.length <= 1000 /\ fL.length <= 1000 /\ fH.length <= 1000) := hide ⟨by have h1 := rats_flen H.out.cost g1; have h2 := H.out.cl; omega, by have h1 := rats_flen H.out.lo g2; have h2 := H.out.ll; omega, by have h1 := rats_flen H.out.hi g3; have h2 := H.out.hl; omega⟩
 clear g1 g2 g3 hf
 obtain ⟨W0, hW0⟩ : ∃ W0, W0 = (w.alloc (Obj.cells #[Value.slice A1 n1 c1, Value.slice A2 n2 c2, Value.slice A3 n3 c3, Value.slice A4 n4 c4, Value.slice A5 n5 c5] 26)) := ⟨_, rfl⟩
 obtain ⟨hb0, r0, hsz0⟩ := boxes1 w [.slice A1 n1 c1, .slice A2 n2 c2, .slice A3 n3 c3, .slice A4 n4 c4, .slice A5 n5 c5] 26 hW0
 have B0 := hide hb0; have HW0 := hide hW0; have HSZ0 := hide hsz0
 have R0 := hide r0
 clear hb0 hW0 hsz0 r0
 go_enter Tryz.func22, Tryz.ntmps22
 go_upto_region 1 with fail
 rw [<- HW0.out]
 have r_d := R0.out.later (Later.refl W0)
 have d0 := r_d.cell (i := 0) rfl; have d1 := r_d.cell (i := 1) rfl; have d2 := r_d.cell (i := 2) rfl; have d3 := r_d.cell (i := 3) rfl; have d4 := r_d.cell (i := 4) rfl
 clear r_d
 go_upto_region 2 with fail
 by_cases g : n1 < 1
 ·have t1 : decide ((n1 : Int) < 1) = true := by simp; omega
  have HF : Hid (u = false) := hide (by rw [<- HU.out]; exact lpB_not.2 (fun hp => by have := hp.n1; have := L1.out; omega))
  go_wp2_with fail
  go_ret
  exact ⟨by rw [HF.out]; rfl, B0.out⟩
 have t2 : decide ((n1 : Int) < 1) = false := by simp; omega
 by_cases g : 24 < n1
 ·have t1 : decide ((24 : Int) < (n1 : Int)) = true := by simp; omega
  have HF : Hid (u = false) := hide (by rw [<- HU.out]; exact lpB_not.2 (fun hp => by have := hp.n24; have := L1.out; omega))
  go_wp2_with fail
  go_ret
  exact ⟨by rw [HF.out]; rfl, B0.out⟩
 have t3 : decide ((24 : Int) < (n1 : Int)) = false := by simp; omega
 by_cases g : n3 ≠ n1
 ·have t1 : ((n3 : Int) != (n1 : Int)) = true := by rw [bne_iff_ne]; omega
  have HF : Hid (u = false) := hide (by rw [<- HU.out]; exact lpB_not.2 (fun hp => by have := hp.lo; have := L1.out; have := L3.out; omega))
  go_wp2_with fail
  go_ret
  exact ⟨by rw [HF.out]; rfl, B0.out⟩
 have t4 : ((n3 : Int) != (n1 : Int)) = false := by rw [bne_eq_false_iff_eq]; omega
 by_cases g : n4 ≠ n1
 ·have t1 : ((n4 : Int) != (n1 : Int)) = true := by rw [bne_iff_ne]; omega
  have HF : Hid (u = false) := hide (by rw [<- HU.out]; exact lpB_not.2 (fun hp => by have := hp.hi; have := L1.out; have := L4.out; omega))
  go_wp2_with fail
  go_ret
  exact ⟨by rw [HF.out]; rfl, B0.out⟩
 have t5 : ((n4 : Int) != (n1 : Int)) = false := by rw [bne_eq_false_iff_eq]; omega
 by_cases g : n5 ≠ n1
 ·have t1 : ((n5 : Int) != (n1 : Int)) = true := by rw [bne_iff_ne]; omega
  have HF : Hid (u = false) := hide (by rw [<- HU.out]; exact lpB_not.2 (fun hp => by have := hp.opn; have := L1.out; have := L5.out; omega))
  go_wp2_with fail
  go_ret
  exact ⟨by rw [HF.out]; rfl, B0.out⟩
 have t6 : ((n5 : Int) != (n1 : Int)) = false := by rw [bne_eq_false_iff_eq]; omega
 by_cases g : 24 < n2
 ·have t1 : decide ((24 : Int) < (n2 : Int)) = true := by simp; omega
  have HF : Hid (u = false) := hide (by rw [<- HU.out]; exact lpB_not.2 (fun hp => by have := hp.rl; have := L2.out; omega))
  go_wp2_with fail
  go_ret
  exact ⟨by rw [HF.out]; rfl, B0.out⟩
 have t7 : decide ((24 : Int) < (n2 : Int)) = false := by simp; omega
 obtain ⟨u1, hu1⟩ : ∃ u, allF fC = u := ⟨_, rfl⟩
 obtain ⟨u2, hu2⟩ : ∃ u, allF fL = u := ⟨_, rfl⟩
 obtain ⟨u3, hu3⟩ : ∃ u, allF fH = u := ⟨_, rfl⟩
 have HUF1 := hide hu1; have HUF2 := hide hu2; have HUF3 := hide hu3
 have HPF0 : Hid (P.f = (u1 && (u2 && u3))) := hide (by rw [HFL.out, hu1, hu2, hu3])
 clear hu1 hu2 hu3
 go_wp2_with fail
 refine (rall_calls _ _ fC (G1.out.later EFlag.later B0.out) (by have := LG.out; omega) u1 HUF1.out).mono ?_
 rintro e w1 ⟨rfl, b1⟩
 have HLF1 : Hid (Later W0 w1) := hide (b1)
 clear b1 d0 d1 d2 d3 d4
 cases u1 with
 | false =>
   have HF : Hid (u = false) := hide (by rw [<- HU.out]; exact lpB_not.2 (fun hp => by have h1 := hp.f; rw [HPF0.out] at h1; simp at h1))
   go_wp2_with fail
   go_ret
   exact ⟨by rw [HF.out]; rfl, B0.out.trans HLF1.out⟩
 | true =>
 have r_d := R0.out.later HLF1.out
 have d0 := r_d.cell (i := 0) rfl; have d1 := r_d.cell (i := 1) rfl; have d2 := r_d.cell (i := 2) rfl; have d3 := r_d.cell (i := 3) rfl; have d4 := r_d.cell (i := 4) rfl
 clear r_d
 go_wp2_with fail
 refine (rall_calls _ _ fL (G2.out.later EFlag.later (B0.out.trans HLF1.out)) (by have := LG.out; omega) u2 HUF2.out).mono ?_
 rintro e w2 ⟨rfl, b2⟩
 have HLF2 : Hid (Later W0 w2) := hide (HLF1.out.trans b2)
 clear b2 d0 d1 d2 d3 d4
 cases u2 with
 | false =>
   have HF : Hid (u = false) := hide (by rw [<- HU.out]; exact lpB_not.2 (fun hp => by have h1 := hp.f; rw [HPF0.out] at h1; simp at h1))
   go_wp2_with fail
   go_ret
   exact ⟨by rw [HF.out]; rfl, B0.out.trans HLF2.out⟩
 | true =>
 have r_d := R0.out.later HLF2.out
 have d0 := r_d.cell (i := 0) rfl; have d1 := r_d.cell (i := 1) rfl; have d2 := r_d.cell (i := 2) rfl; have d3 := r_d.cell (i := 3) rfl; have d4 := r_d.cell (i := 4) rfl
 clear r_d
 go_wp2_with fail
 refine (rall_calls _ _ fH (G3.out.later EFlag.later (B0.out.trans HLF2.out)) (by have := LG.out; omega) u3 HUF3.out).mono ?_
 rintro e w3 ⟨rfl, b3⟩
 have HLF3 : Hid (Later W0 w3) := hide (HLF2.out.trans b3)
 clear b3 d0 d1 d2 d3 d4
 cases u3 with
 | false =>
   have HF : Hid (u = false) := hide (by rw [<- HU.out]; exact lpB_not.2 (fun hp => by have h1 := hp.f; rw [HPF0.out] at h1; simp at h1))
   go_wp2_with fail
   go_ret
   exact ⟨by rw [HF.out]; rfl, B0.out.trans HLF3.out⟩
 | true =>
 have r_d := R0.out.later HLF3.out
 have d0 := r_d.cell (i := 0) rfl; have d1 := r_d.cell (i := 1) rfl; have d2 := r_d.cell (i := 2) rfl; have d3 := r_d.cell (i := 3) rfl; have d4 := r_d.cell (i := 4) rfl
 clear r_d
 go_wp2_with fail
 have HPF : Hid (P.f = true) := hide (by rw [HPF0.out]; rfl)
 have HL1 := HLF3
 clear t2 t3 t4 t5 t6 t7 d0 d1 d2 d3 d4
 go_loopw [4] (fun i wr => ∃ j : Nat, j <= n2 /\ i = .int .i64 (j : Int) /\ Hid (∀ r ∈ P.rows.take j, okRow n1 r) /\ Later W0 wr) (fun i _ => (n2 - intOf i).toNat)
 case atStart => exact ⟨0, by omega, rfl, hide fun r hr => by simp at hr, HL1.out⟩
 case round =>
  obtain ⟨j, hj, rfl, hpre, hL⟩ := hrel
  have HL := hide hL
  clear hL
  have r_d := R0.out.later HL.out
  have d0 := r_d.cell (i := 0) rfl; have d1 := r_d.cell (i := 1) rfl; have d2 := r_d.cell (i := 2) rfl; have d3 := r_d.cell (i := 3) rfl; have d4 := r_d.cell (i := 4) rfl
  clear r_d
  by_cases hjn : j < n2
  ·obtain ⟨x, hx⟩ : ∃ x, P.rows[j]? = some x := ⟨P.rows[j]'(by have := L2.out; omega), List.getElem?_eq_getElem _⟩
   obtain ⟨b2, off2, rfl, r, x0, x1, x2, x3, x4, x5, he⟩ := (H.out.rows.later ERow.later (B0.out.trans HL.out)).at6 hx
   have HX := hide hx; have HE := hide he
   have HRN : Hid (r.n = x.coef.length) := hide he.coef.len_
   have hj0 : (0 : Int) <= (j : Int) := by omega
   have hj1 : (j : Int) < n2 := by omega
   have hsf := he.sfit
   unfold IFit_ at hsf
   clear hx he
   go_upto_region 8 with fail
   obtain ⟨wx, hwx⟩ : ∃ wx, wx = wr.alloc (Obj.cells #[Value.slice r.A r.n r.c, Value.int .i64 x.sense, Value.bool r.e.a, Value.slice r.e.A r.e.n r.e.c, Value.bool r.e.a', Value.slice r.e.A' r.e.n' r.e.c'] 60) := ⟨_, rfl⟩
   obtain ⟨gx, hgx⟩ : ∃ gx, gx = wr.heap.size := ⟨_, rfl⟩
   have bwx : Later wr wx := by rw [hwx]; exact (Later.refl _).alloc _
   have rgx : Row wx gx 60 [.slice r.A r.n r.c, .int .i64 x.sense, .bool r.e.a, .slice r.e.A r.e.n r.e.c, .bool r.e.a', .slice r.e.A' r.e.n' r.e.c'] := by rw [hwx, hgx]; exact Row.new _ _ _
   rw [<- hwx, <- hgx]
   have HB := hide bwx; have RX := hide rgx
   have HLX := hide (HL.out.trans bwx)
   clear hwx hgx bwx rgx x0 x1 x2 x3 x4 x5 d0 d1 d2 d3 d4
   have f0 := RX.out.cell (i := 0) rfl; have f1 := RX.out.cell (i := 1) rfl; have f2 := RX.out.cell (i := 2) rfl; have f3 := RX.out.cell (i := 3) rfl; have f4 := RX.out.cell (i := 4) rfl; have f5 := RX.out.cell (i := 5) rfl
   by_cases g : r.n ≠ n1
   ·have tt1 : ((r.n : Int) != (n1 : Int)) = true := by rw [bne_iff_ne]; omega
    have HF : Hid (u = false) := hide (by rw [<- HU.out]; exact lpB_not.2 (fun hp => by have hrw := hp.rows x (List.mem_of_getElem? HX.out); have h2 := hrw.1; have := L1.out; have := HRN.out; omega))
    go_wp2_with fail
    go_ret
    exact ⟨by rw [HF.out]; rfl, B0.out.trans HLX.out⟩
   have tt2 : ((r.n : Int) != (n1 : Int)) = false := by rw [bne_eq_false_iff_eq]; omega
   by_cases g : x.sense < 0
   ·have tt1 : decide (x.sense < 0) = true := by simpa using g
    have HF : Hid (u = false) := hide (by rw [<- HU.out]; exact lpB_not.2 (fun hp => by have hrw := hp.rows x (List.mem_of_getElem? HX.out); have h2 := hrw.2.1; omega))
    go_wp2_with fail
    go_ret
    exact ⟨by rw [HF.out]; rfl, B0.out.trans HLX.out⟩
   have tt3 : decide (x.sense < 0) = false := by simp; omega
   by_cases g : 2 < x.sense
   ·have tt1 : decide (2 < x.sense) = true := by simpa using g
    have HF : Hid (u = false) := hide (by rw [<- HU.out]; exact lpB_not.2 (fun hp => by have hrw := hp.rows x (List.mem_of_getElem? HX.out); have h2 := hrw.2.1; omega))
    go_wp2_with fail
    go_ret
    exact ⟨by rw [HF.out]; rfl, B0.out.trans HLX.out⟩
   have tt4 : decide (2 < x.sense) = false := by simp; omega
   obtain ⟨fc, fr, y1, y2, y3⟩ := HE.out.flags
   obtain ⟨uc, huc⟩ : ∃ u, allF fc = u := ⟨_, rfl⟩
   obtain ⟨ur, hur⟩ : ∃ u, decide (fr ≠ 0) = u := ⟨_, rfl⟩
   have HUC := hide huc; have HUR := hide hur
   have HXF : Hid (x.f = (uc && ur)) := hide (by rw [y3, huc, <- hur]; simp [allF])
   have Y1 := hide y1; have Y2 := hide y2
   have HYL : Hid (fc.length <= 1000) := hide (by have h1 := rats_flen HE.out.coef y1; have h2 := HE.out.cl; omega)
   clear y1 y2 y3 hur huc
   go_wp2_with fail
   refine (rall_calls _ _ fc (Y1.out.later EFlag.later HB.out) (by have := HYL.out; omega) uc HUC.out).mono ?_
   rintro e w8 ⟨rfl, b8⟩
   have HLX8 := hide (HLX.out.trans b8); have RX8 := hide (RX.out.later b8); have HB8 := hide (HB.out.trans b8)
   clear b8 f0 f1 f2 f3 f4 f5
   have HLX := HLX8
   cases uc with
   | false =>
     have HF : Hid (u = false) := hide (by rw [<- HU.out]; exact lpB_not.2 (fun hp => by have hrw := hp.rows x (List.mem_of_getElem? HX.out); have h2 := hrw.2.2; rw [HXF.out] at h2; cases h2))
     go_wp2_with fail
     go_ret
     exact ⟨by rw [HF.out]; rfl, B0.out.trans HLX.out⟩
   | true =>
   have f0 := RX8.out.cell (i := 0) rfl; have f1 := RX8.out.cell (i := 1) rfl; have f2 := RX8.out.cell (i := 2) rfl; have f3 := RX8.out.cell (i := 3) rfl; have f4 := RX8.out.cell (i := 4) rfl; have f5 := RX8.out.cell (i := 5) rfl
   go_wp2_with fail
   refine (rmay_flag _ _ fr (EFlag.later _ _ _ _ Y2.out HB8.out)).mono ?_
   rintro e w9 ⟨rfl, b9⟩
   rw [HUR.out]
   have HL8 := hide (HLX.out.trans b9)
   clear b9 f0 f1 f2 f3 f4 f5
   cases ur with
   | false =>
     have HLX := HL8
     have HF : Hid (u = false) := hide (by rw [<- HU.out]; exact lpB_not.2 (fun hp => by have hrw := hp.rows x (List.mem_of_getElem? HX.out); have h2 := hrw.2.2; rw [HXF.out] at h2; cases h2))
     go_wp2_with fail
     go_ret
     exact ⟨by rw [HF.out]; rfl, B0.out.trans HLX.out⟩
   | true =>
     have HN : Hid (∀ r ∈ P.rows.take (j + 1), okRow n1 r) := hide fun q hq => by
      rw [List.take_add_one, HX.out] at hq
      rcases List.mem_append.1 hq with h | h
      ·exact hpre.out q h
      ·simp at h; rw [h]; exact ⟨by have := HRN.out; omega, by omega, HXF.out⟩
     go_wp2_with fail
     exact ⟨⟨j+1, by omega, by go_num, HN, HL8.out⟩, by simp [intOf]; omega⟩
  ·have HROWS : Hid (∀ r ∈ P.rows, okRow n1 r) := hide fun r hr => hpre.out r (by rw [List.take_of_length_le (by have := L2.out; omega)]; exact hr)
   have hj1 : ¬ (j : Int) < n2 := by omega
   obtain ⟨wl, hwl⟩ : ∃ wl, wl = wr := ⟨_, rfl⟩
   subst hwl
   have HLL := HL
   clear hpre HL
   go_wp2_with fail
   go_loopw [6] (fun i wr => ∃ j : Nat, j <= n1 /\ i = .int .i64 (j : Int) /\ Hid (∀ i : Nat, i < j -> P.opn.getD i true = false -> P.lo.getD i 0 <= P.hi.getD i 0) /\ Later W0 wr) (fun i _ => (n1 - intOf i).toNat)
   case atStart => exact ⟨0, by omega, rfl, hide fun i hi => by omega, HLL.out⟩
   case round =>
    obtain ⟨j, hj, rfl, hpre, hL⟩ := hrel
    have HL := hide hL
    clear hL
    by_cases hjn : j < n1
    ·obtain ⟨o, ho⟩ : ∃ o, P.opn[j]? = some o := ⟨P.opn[j]'(by have := L5.out; omega), List.getElem?_eq_getElem _⟩
     obtain ⟨a4, ha4⟩ : ∃ o, P.hi[j]? = some o := ⟨P.hi[j]'(by have := L4.out; omega), List.getElem?_eq_getElem _⟩
     obtain ⟨a3, ha3⟩ : ∃ o, P.lo[j]? = some o := ⟨P.lo[j]'(by have := L3.out; omega), List.getElem?_eq_getElem _⟩
     obtain ⟨b5, off5, rfl, z5⟩ := (H.out.opn.later (B0.out.trans HL.out)).at_ ho
     obtain ⟨b4, off4, s4, P4, q4, e4, s4', P4', q4', e4', rfl, y1, y2, y3, y4, ea4⟩ := (H.out.hi.later ERaw.later (B0.out.trans HL.out)).at_ ha4
     obtain ⟨b3, off3, s3, P3, q3, e3, s3', P3', q3', e3', rfl, z1, z2, z3, z4, ea3⟩ := (H.out.lo.later ERaw.later (B0.out.trans HL.out)).at_ ha3
     have HOJ0 : Hid (P.opn.getD j true = o) := hide (by rw [List.getD_eq_getElem?_getD, ho]; rfl)
     have HH4 : Hid (P.hi.getD j 0 = a4) := hide (by rw [List.getD_eq_getElem?_getD, ha4]; rfl)
     have HH3 : Hid (P.lo.getD j 0 = a3) := hide (by rw [List.getD_eq_getElem?_getD, ha3]; rfl)
     have HA4 : Hid (RawR wr (.agg #[.bool s4, .slice P4 q4 e4, .bool s4', .slice P4' q4' e4']) a4 k) := hide ea4
     have HA3 : Hid (RawR wr (.agg #[.bool s3, .slice P3 q3 e3, .bool s3', .slice P3' q3' e3']) a3 k) := hide ea3
     have hj0 : (0 : Int) <= (j : Int) := by omega
     have hj1 : (j : Int) < n1 := by omega
     have hj3 : (j : Int) < n3 := by omega
     have hj4 : (j : Int) < n4 := by omega
     have hj5 : (j : Int) < n5 := by omega
     have hj2 : ((j : Int)).toNat = j := by omega
     obtain ⟨cz, hcz⟩ : ∃ cz, cmpQ a4 a3 = cz := ⟨_, rfl⟩
     obtain ⟨u9, t9⟩ : ∃ u9, decide (cz < 0) = u9 := ⟨_, rfl⟩
     have HCZ := hide hcz; have T9 := hide t9
     have HT1 : Hid (∀ w', Later wr w' -> w'.cell? ⟨w.heap.size, 4, none⟩ = some (.slice (some ⟨b5, off5, none⟩) n5 c5) /\ w'.cell? ⟨w.heap.size, 3, none⟩ = some (.slice (some ⟨b4, off4, none⟩) n4 c4) /\ w'.cell? ⟨w.heap.size, 2, none⟩ = some (.slice (some ⟨b3, off3, none⟩) n3 c3) /\ w'.cell? ⟨b5, off5 + j, none⟩ = some (.bool o) /\ w'.cell? ⟨b4, off4 + j * 4, none⟩ = some (.bool s4) /\ w'.cell? ⟨b4, off4 + j * 4 + 1, none⟩ = some (.slice P4 q4 e4) /\ w'.cell? ⟨b4, off4 + j * 4 + 2, none⟩ = some (.bool s4') /\ w'.cell? ⟨b4, off4 + j * 4 + 3, none⟩ = some (.slice P4' q4' e4') /\ w'.cell? ⟨b3, off3 + j * 4, none⟩ = some (.bool s3) /\ w'.cell? ⟨b3, off3 + j * 4 + 1, none⟩ = some (.slice P3 q3 e3) /\ w'.cell? ⟨b3, off3 + j * 4 + 2, none⟩ = some (.bool s3') /\ w'.cell? ⟨b3, off3 + j * 4 + 3, none⟩ = some (.slice P3' q3' e3')) := hide fun w' hb => by
      have h1 := R0.out.later (HL.out.trans hb)
      exact ⟨h1.cell rfl, h1.cell rfl, h1.cell rfl, Later.cell hb z5, Later.cell hb y1, Later.cell hb y2, Later.cell hb y3, Later.cell hb y4, Later.cell hb z1, Later.cell hb z2, Later.cell hb z3, Later.cell hb z4⟩
     clear ho ha4 ha3 hcz z5 y1 y2 y3 y4 z1 z2 z3 z4 ea4 ea3
     have hmx : Tryz.prog.follows .mixedOrders = true := by kernel_rfl
     go_upto_region 13 with fail
     cases o with
     | true =>
       have HNX : Hid (∀ i : Nat, i < j + 1 -> P.opn.getD i true = false -> P.lo.getD i 0 <= P.hi.getD i 0) := hide fun i hi ho => by
        by_cases hij : i < j
        ·exact hpre.out i hij ho
        ·have e : i = j := by omega
         subst e; rw [HOJ0.out] at ho; cases ho
       refine wp_region_N (fun w' => w'.cell? ⟨w.heap.size, 4, none⟩ = some (.slice (some ⟨b5, off5, none⟩) n5 c5) /\ w'.cell? ⟨w.heap.size, 3, none⟩ = some (.slice (some ⟨b4, off4, none⟩) n4 c4) /\ w'.cell? ⟨w.heap.size, 2, none⟩ = some (.slice (some ⟨b3, off3, none⟩) n3 c3) /\ w'.cell? ⟨b5, off5 + j, none⟩ = some (.bool true) /\ w'.cell? ⟨b4, off4 + j * 4, none⟩ = some (.bool s4) /\ w'.cell? ⟨b4, off4 + j * 4 + 1, none⟩ = some (.slice P4 q4 e4) /\ w'.cell? ⟨b4, off4 + j * 4 + 2, none⟩ = some (.bool s4') /\ w'.cell? ⟨b4, off4 + j * 4 + 3, none⟩ = some (.slice P4' q4' e4') /\ w'.cell? ⟨b3, off3 + j * 4, none⟩ = some (.bool s3) /\ w'.cell? ⟨b3, off3 + j * 4 + 1, none⟩ = some (.slice P3 q3 e3) /\ w'.cell? ⟨b3, off3 + j * 4 + 2, none⟩ = some (.bool s3') /\ w'.cell? ⟨b3, off3 + j * 4 + 3, none⟩ = some (.slice P3' q3' e3')) [] hmx (HT1.out _ lt_) (fun hHeld => ?_)
       refine tkB 105 0 ?_
       refine tkB 106 1 ?_
       refine tkB 107 2 ?_
       refine tkB 108 3 ?_
       refine tkB 109 4 ?_
       refine tkB 110 5 ?_
       refine tkB 111 6 ?_
       refine tkU 112 7 ?_
       try simp only [Act.put, s1_, s2_, s3_]
       refine tkU 113 8 ?_
       try simp only [Act.put, s1_, s2_, s3_]
       refine tkU 114 9 ?_
       try simp only [Act.put, s1_, s2_, s3_]
       refine tkU 115 10 ?_
       try simp only [Act.put, s1_, s2_, s3_]
       refine tkU 116 11 ?_
       try simp only [Act.put, s1_, s2_, s3_]
       refine tkU 117 12 ?_
       try simp only [Act.put, s1_, s2_, s3_]
       refine tkU 118 13 ?_
       try simp only [Act.put, s1_, s2_, s3_]
       refine tkU 119 14 ?_
       try simp only [Act.put, s1_, s2_, s3_]
       refine tkU 120 15 ?_
       try simp only [Act.put, s1_, s2_, s3_]
       refine tkU 121 16 ?_
       try simp only [Act.put, s1_, s2_, s3_]
       refine tkU 122 17 ?_
       try simp only [Act.put, s1_, s2_, s3_]
       refine tkU 123 18 ?_
       try simp only [Act.put, s1_, s2_, s3_]
       refine tkB 124 19 ?_
       refine wpAnyN_done (by kernel_rfl) ?_ _
       clear hHeld
       have HLX := hide (show Later W0 wr.drew from HL.out.drew)
       go_wp2_with fail
       exact ⟨⟨j+1, by omega, by go_num, HNX.out, HLX.out⟩, by simp [intOf]; omega⟩
     | false =>
       have HOJ := HOJ0
       refine wp_region_N (fun w' => w'.cell? ⟨w.heap.size, 4, none⟩ = some (.slice (some ⟨b5, off5, none⟩) n5 c5) /\ w'.cell? ⟨w.heap.size, 3, none⟩ = some (.slice (some ⟨b4, off4, none⟩) n4 c4) /\ w'.cell? ⟨w.heap.size, 2, none⟩ = some (.slice (some ⟨b3, off3, none⟩) n3 c3) /\ w'.cell? ⟨b5, off5 + j, none⟩ = some (.bool false) /\ w'.cell? ⟨b4, off4 + j * 4, none⟩ = some (.bool s4) /\ w'.cell? ⟨b4, off4 + j * 4 + 1, none⟩ = some (.slice P4 q4 e4) /\ w'.cell? ⟨b4, off4 + j * 4 + 2, none⟩ = some (.bool s4') /\ w'.cell? ⟨b4, off4 + j * 4 + 3, none⟩ = some (.slice P4' q4' e4') /\ w'.cell? ⟨b3, off3 + j * 4, none⟩ = some (.bool s3) /\ w'.cell? ⟨b3, off3 + j * 4 + 1, none⟩ = some (.slice P3 q3 e3) /\ w'.cell? ⟨b3, off3 + j * 4 + 2, none⟩ = some (.bool s3') /\ w'.cell? ⟨b3, off3 + j * 4 + 3, none⟩ = some (.slice P3' q3' e3')) [] hmx (HT1.out _ lt_) (fun hHeld => ?_)
       refine tkB 105 0 ?_
       refine tkB 106 1 ?_
       refine tkB 107 2 ?_
       refine tkB 108 3 ?_
       refine tkB 109 4 ?_
       refine tkB 110 5 ?_
       refine tkB 111 6 ?_
       refine tkB 112 7 ?_
       refine tkB 113 8 ?_
       refine tkB 114 9 ?_
       refine tkB 115 10 ?_
       refine tkB 116 11 ?_
       refine tkB 117 12 ?_
       refine tkB 118 13 ?_
       refine tkB 119 14 ?_
       refine tkB 120 15 ?_
       refine tkB 121 16 ?_
       refine wpAnyN_ready (rs := [17]) (by kernel_rfl) (by simp) ?_
       refine AllReadyN.held rfl (by rfl) (fun K hK => ?_) AllReadyN.nil
       go_simp
       refine (qcmp_calls _ _ _ a4 a3 k k (RawR.later HA4.out lt_) (RawR.later HA3.out lt_) (by omega)).mono ?_
       rintro e w2 ⟨rfl, b2⟩
       rw [HCZ.out]
       have l2 : Later wr w2 := Later.trans lt_ b2
       clear b2
       refine hK.out _ _ ?_ (fun hHeld => ?_)
       ·exact HT1.out _ lt_
       clear hK K
       try simp only [Act.put, s1_, s2_, s3_]
       refine tkB 123 18 ?_
       refine tkB 124 19 ?_
       refine wpAnyN_done (by kernel_rfl) ?_ _
       clear hHeld
       have HLX := hide (HL.out.trans l2)
       clear l2
       cases u9 with
       | true =>
         have HF : Hid (u = false) := hide (by
          rw [<- HU.out]; exact lpB_not.2 (fun hp => by
           have h1 := hp.ends j (by have := L1.out; omega) HOJ.out
           have h2 := cmpq_lt HCZ.out (by simpa using T9.out)
           rw [HH4.out, HH3.out] at h1
           grind))
         clear t9
         go_wp2_with fail
         go_ret
         exact ⟨by rw [HF.out]; rfl, B0.out.trans HLX.out⟩
       | false =>
         have HNX : Hid (∀ i : Nat, i < j + 1 -> P.opn.getD i true = false -> P.lo.getD i 0 <= P.hi.getD i 0) := hide fun i hi ho => by
          by_cases hij : i < j
          ·exact hpre.out i hij ho
          ·have e : i = j := by omega
           subst e
           rw [HH4.out, HH3.out]
           exact cmpq_ge HCZ.out (by simpa using T9.out)
         clear t9
         go_wp2_with fail
         exact ⟨⟨j+1, by omega, by go_num, HNX.out, HLX.out⟩, by simp [intOf]; omega⟩
    ·have hj1 : ¬ (j : Int) < n1 := by omega
     have HF : Hid (u = true) := hide (by
      rw [<- HU.out]
      refine lpB_iff.2 ⟨?_, ?_, ?_, ?_, ?_, ?_, HPF.out, fun r hr => ?_, fun i hi ho => ?_⟩
      ·have := L1.out; omega
      ·have := L1.out; omega
      ·have := L1.out; have := L3.out; omega
      ·have := L1.out; have := L4.out; omega
      ·have := L1.out; have := L5.out; omega
      ·have := L2.out; omega
      ·have h1 := HROWS.out r hr; unfold okRow at h1; rw [L1.out] at h1; exact h1
      ·exact hpre.out i (by have := L1.out; omega) ho)
     go_wp2_with fail
     go_ret
     exact ⟨by rw [HF.out]; rfl, B0.out.trans HL.out⟩
end Go.Proofs.YtfokplidiboabaaGreat
namespace Go.Proofs.YtfokplidiboabaaGreat
open Go.RowKit Go.Shelf
attribute [local go_sem ↓] Go.wp_at_zero Go.wp_at_succ
theorem sized_sgq (b : Rat) : Sized (sgq b) 1 := by unfold sgq; split <;> first | exact sized_m1 | exact sized_1
theorem baseB_small {w : World} {vC vR vL vH vO : Value} {P : PLp} (h : LpIn w vC vR vL vH vO 1 P) (hP : LpP P) (h5 : P.cost.length <= 5) : ∀ b ∈ baseB P, Sized b 100 := by
 intro b hb
 have hl := Rats.sized h.lo; have hh := Rats.sized h.hi
 unfold baseB at hb
 rcases List.mem_append.1 hb with hb | hb
 ·obtain ⟨x, hx, rfl⟩ := List.mem_map.1 hb
  obtain ⟨r, he⟩ := h.rows.get hx
  have h1 := sized_dotL (Rats.sized he.coef) hl
  have h2 := he.rhs.sized
  have hlen := (hP.rows x hx).1
  refine (h2.sub h1).mono ?_
  have : x.coef.length * (1 + 1 + (1 + 1) + 1) <= 5 * 5 := Nat.mul_le_mul (by omega) (by omega)
  omega
 ·obtain ⟨j, hj, rfl⟩ := List.mem_map.1 hb
  exact ((sized_getD hh).sub (sized_getD hl)).mono (by omega)
theorem std_small {w : World} {vC vR vL vH vO : Value} {P : PLp} (h : LpIn w vC vR vL vH vO 1 P) (hP : LpP P) (h5 : P.cost.length <= 5) : (∀ r ∈ stdA P, ∀ q ∈ r, Sized q 200) /\ (∀ q ∈ stdB P, Sized q 200) /\ (∀ q ∈ stdC P, Sized q 200) /\ Sized (restV P) 100 := by
 refine ⟨fun r hr q hq => ?_, fun q hq => ?_, fun q hq => ?_, ?_⟩
 ·obtain ⟨i, hi⟩ := List.mem_iff_getElem?.1 hr
  unfold stdA at hi
  rw [List.getElem?_zipWith] at hi
  cases e1 : (wideA P)[i]? with
  | none => rw [e1] at hi; cases hi
  | some a =>
    cases e2 : (baseB P)[i]? with
    | none => rw [e1, e2] at hi; cases hi
    | some b =>
      rw [e1, e2] at hi; injection hi with hi; subst hi
      unfold flipR at hq
      obtain ⟨y, hy, rfl⟩ := List.mem_map.1 hq
      exact ((wideA_sized h hP a (List.mem_of_getElem? e1) y hy).mul (sized_sgq b)).mono (by omega)
 ·unfold stdB at hq
  obtain ⟨b, hb, rfl⟩ := List.mem_map.1 hq
  exact ((baseB_small h hP h5 b hb).mul (sized_sgq b)).mono (by omega)
 ·unfold stdC at hq
  rcases List.mem_append.1 hq with hq | hq
  ·exact (Rats.sized h.cost q hq).mono (by omega)
  ·rw [(List.mem_replicate.1 hq).2]; exact sized_0.mono (by omega)
 ·unfold restV
  refine (sized_dotL (Rats.sized h.cost) (Rats.sized h.lo)).mono ?_
  have : P.cost.length * (1 + 1 + (1 + 1) + 1) <= 5 * 5 := Nat.mul_le_mul (by omega) (by omega)
  omega
theorem std_lens {P : PLp} (hP : LpP P) : (stdA P).length <= 48 /\ (∀ r ∈ stdA P, r.length <= 72) /\ (stdB P).length <= 48 /\ (stdC P).length <= 72 := by
 have h1 := extraL_len_le hP; have h2 := endsL_len_le hP; have h3 := hP.rl; have h4 := hP.n24
 refine ⟨by rw [stdA_len]; omega, fun r hr => by rw [stdA_rows hP r hr]; omega, by rw [stdB_len]; omega, by rw [stdC_len]; omega⟩
theorem std_in11 {w w' : World} {vC vR vL vH vO vA vB vC' vr : Value} {P : PLp} (h : LpIn w vC vR vL vH vO 1 P) (hP : LpP P) (h5 : P.cost.length <= 5) (hs : StdV w' P vA vB vC' vr) : StdIn w' vA vB vC' 200 (stdA P) (stdB P) (stdC P) true := by
 obtain ⟨a1, a2, a3, -⟩ := std_small h hP h5
 obtain ⟨b1, b2, b3, b4⟩ := std_lens hP
 exact std_ownk (by omega) hs.a hs.b hs.c a1 a2 a3 (by omega) (fun r hr => by have := b2 r hr; omega) (by omega) (by omega)
theorem std_ss11 {w w' : World} {vC vR vL vH vO vA vB vC' vr : Value} {P : PLp} (h : LpIn w vC vR vL vH vO 1 P) (hP : LpP P) (h5 : P.cost.length <= 5) (hs : StdV w' P vA vB vC' vr) : StdS w' vA vB vC' (stdA P) (stdB P) (stdC P) := by
 obtain ⟨a1, a2, a3, -⟩ := std_small h hP h5
 obtain ⟨b1, b2, b3, b4⟩ := std_lens hP
 exact ⟨hs.a, hs.b, hs.c, fun r hr q hq => (a1 r hr q hq).mono (by omega), fun q hq => (a2 q hq).mono (by omega), fun q hq => (a3 q hq).mono (by omega), by omega, fun r hr => by have := b2 r hr; omega, by omega, by omega⟩
theorem ends_take {os : List Bool} {j : Nat} {o : Bool} (h : os[j]? = some o) : (endsFrom (os.take (j+1)) 0).length = (endsFrom (os.take j) 0).length + (if o then 0 else 1) := by
 rw [List.take_add_one, h, Option.toList_some, endsFrom_append, List.length_append]
 cases o <;> rfl
end Go.Proofs.YtfokplidiboabaaGreat
namespace Go.Proofs.YtfokplidiboabaaGreat
open Go.RowKit Go.Shelf
attribute [local go_sem ↓] Go.wp_at_zero Go.wp_at_succ
theorem info_ix : (Tryz.prog.info? 3).map (fun i => (i.zero, i.size, i.bytes)) = some (some (.int .i64 0), 1, 8) := by kernel_rfl
theorem info_i64x : (Tryz.prog.info? 2).map (fun i => (i.zero, i.size, i.bytes)) = some (some (.int .i64 0), 1, 8) := by kernel_rfl
theorem wpList_append_ix {w : World} {ops : Array Oper} {rest : List Oper} {o : Oper} {a : Act} {Q : Exit -> Act -> World -> Prop} (hgd : o.guard = none) (s x : Operand) (ho : o.op = .call { callee := .builtin .append, args := #[s, x], argTypes := #[72, 72] })
 {lo : Nat} {v : Value} {l : List Int} {g : Nat} {z : Int} (hs : a.eval s = v) (hown : w.ownsRow lo 3 1 v l.length (l.flatMap iCells)) (hx : a.eval x = .slice (some ⟨g, 0, none⟩) 1 1) (hrow : Row w g 3 [.int .i64 z]) (hlen : l.length <= 3000000000) (hbase : lo <= w.heap.size)
 (h : ∀ v' w', w'.ownsRow lo 3 1 v' (l ++ [z]).length ((l ++ [z]).flatMap iCells) -> w.grownBy w' v.ownBlock -> (v'.ownBlock = v.ownBlock ∨ v'.ownBlock = some w.heap.size) -> wpList Tryz.prog ops Q rest (a.put o.dst v') w') : wpList Tryz.prog ops Q (o :: rest) a w := by
 refine wpList_append_src hgd s x _ ho lo 3 _ 1 8 Tryz.underlying72 info_ix rfl (by omega) (by omega) v l.length _ hs hown _ 1 [.int .i64 z] hx (Src.row hrow rfl (by simp [Value.oneCell'])) (by omega) hbase ?_
 intro v' w' k1 k2 k3
 refine h v' w' ?_ k2 k3
 rw [List.length_append, List.flatMap_append]; exact k1
theorem wpList_append_i64x {w : World} {ops : Array Oper} {rest : List Oper} {o : Oper} {a : Act} {Q : Exit -> Act -> World -> Prop} (hgd : o.guard = none) (s x : Operand) (ho : o.op = .call { callee := .builtin .append, args := #[s, x], argTypes := #[97, 97] })
 {lo : Nat} {v : Value} {l : List Int} {g : Nat} {z : Int} (hs : a.eval s = v) (hown : w.ownsRow lo 2 1 v l.length (l.flatMap iCells)) (hx : a.eval x = .slice (some ⟨g, 0, none⟩) 1 1) (hrow : Row w g 2 [.int .i64 z]) (hlen : l.length <= 3000000000) (hbase : lo <= w.heap.size)
 (h : ∀ v' w', w'.ownsRow lo 2 1 v' (l ++ [z]).length ((l ++ [z]).flatMap iCells) -> w.grownBy w' v.ownBlock -> (v'.ownBlock = v.ownBlock ∨ v'.ownBlock = some w.heap.size) -> wpList Tryz.prog ops Q rest (a.put o.dst v') w') : wpList Tryz.prog ops Q (o :: rest) a w := by
 refine wpList_append_src hgd s x _ ho lo 2 _ 1 8 Tryz.underlying97 info_i64x rfl (by omega) (by omega) v l.length _ hs hown _ 1 [.int .i64 z] hx (Src.row hrow rfl (by simp [Value.oneCell'])) (by omega) hbase ?_
 intro v' w' k1 k2 k3
 refine h v' w' ?_ k2 k3
 rw [List.length_append, List.flatMap_append]; exact k1
theorem own_types {w : World} {lo lo' size size' n n' : Nat} {T T' : TypeId} {v u : Value} {xs ys : List Value} (h : w.ownsRow lo T size v n xs) (k : w.ownsRow lo' T' size' u n' ys) (hT : T ≠ T') : ∀ b, v.ownBlock = some b -> u.ownBlock ≠ some b := by
 intro b hb hb'
 rcases h.2 with ⟨rfl, -⟩ | ⟨g, c, cur, rfl, -, hg, -⟩
 ·cases hb
 ·injection hb with hb; subst hb
  rcases k.2 with ⟨rfl, -⟩ | ⟨g', c', cur', rfl, -, hg', -⟩
  ·cases hb'
  ·injection hb' with hb'; subst hb'
   rw [hg] at hg'; injection hg' with hg'; injection hg' with _ hg' _; exact hT hg'
structure Cols (w : World) (lo : Nat) (vv rv av : Value) (lv lr la : List Int) : Prop where
 v : w.ownsRow lo 3 1 vv lv.length (lv.flatMap iCells)
 r : w.ownsRow lo 3 1 rv lr.length (lr.flatMap iCells)
 a : w.ownsRow lo 2 1 av la.length (la.flatMap iCells)
 ap : ∀ k, vv.ownBlock = some k -> rv.ownBlock ≠ some k
section
variable {w w' : World} {lo : Nat} {vv rv av v' : Value} {lv lr la l' : List Int}
theorem Cols.nil (w : World) (lo : Nat) : Cols w lo (.slice none 0 0) (.slice none 0 0) (.slice none 0 0) [] [] [] := ⟨World.ownsRow_nil _ _ _ _, World.ownsRow_nil _ _ _ _, World.ownsRow_nil _ _ _ _, fun k hk => by cases hk⟩
theorem Cols.later (h : Cols w lo vv rv av lv lr la) (hb : Later w w') : Cols w' lo vv rv av lv lr la := ⟨ownsRow_later h.v hb, ownsRow_later h.r hb, ownsRow_later h.a hb, h.ap⟩
theorem Cols.weaken {lo2 : Nat} (h : Cols w lo vv rv av lv lr la) (hl : lo2 <= lo) : Cols w lo2 vv rv av lv lr la := ⟨ownsRow_lower h.v hl, ownsRow_lower h.r hl, ownsRow_lower h.a hl, h.ap⟩
theorem Cols.grewV (h : Cols w lo vv rv av lv lr la) (k1 : w'.ownsRow lo 3 1 v' l'.length (l'.flatMap iCells)) (k2 : w.grownBy w' vv.ownBlock) (k3 : v'.ownBlock = vv.ownBlock ∨ v'.ownBlock = some w.heap.size) : Cols w' lo v' rv av l' lr la := by
 refine ⟨k1, ownsRow_grown h.r k2 fun k hk e => h.ap k e.symm hk, ownsRow_grown h.a k2 fun k hk e => own_types h.a h.v (by decide) k hk e.symm, fun k hk e => ?_⟩
 rcases k3 with e3 | e3
 ·rw [e3] at hk; exact h.ap k hk e
 ·rw [e3] at hk; injection hk with hk; subst hk
  have := (World.ownsRow.lt h.r _ e).2; omega
theorem Cols.grewR (h : Cols w lo vv rv av lv lr la) (k1 : w'.ownsRow lo 3 1 v' l'.length (l'.flatMap iCells)) (k2 : w.grownBy w' rv.ownBlock) (k3 : v'.ownBlock = rv.ownBlock ∨ v'.ownBlock = some w.heap.size) : Cols w' lo vv v' av lv l' la := by
 refine ⟨ownsRow_grown h.v k2 fun k hk e => h.ap k hk e.symm, k1, ownsRow_grown h.a k2 fun k hk e => own_types h.a h.r (by decide) k hk e.symm, fun k hk e => ?_⟩
 rcases k3 with e3 | e3
 ·rw [e3] at e; exact h.ap k hk e
 ·rw [e3] at e; injection e with e; subst e
  have := (World.ownsRow.lt h.v _ hk).2; omega
theorem Cols.grewA (h : Cols w lo vv rv av lv lr la) (k1 : w'.ownsRow lo 2 1 v' l'.length (l'.flatMap iCells)) (k2 : w.grownBy w' av.ownBlock) : Cols w' lo vv rv v' lv lr l' :=
 ⟨ownsRow_grown h.v k2 fun k hk e => own_types h.v h.a (by decide) k hk e.symm, ownsRow_grown h.r k2 fun k hk e => own_types h.r h.a (by decide) k hk e.symm, k1, h.ap⟩
end
def exV (ex : List (Nat × Rat)) : List Int := ex.map fun _ => -1
def exR (ex : List (Nat × Rat)) : List Int := ex.map fun p => (p.1 : Int)
def exA (ex : List (Nat × Rat)) : List Int := ex.map fun p => p.2.num
def colV (P : PLp) : List Int := (List.range P.cost.length).map (fun (k : Nat) => (k : Int)) ++ exV (extraL P)
def colR (P : PLp) : List Int := List.replicate P.cost.length (-1) ++ exR (extraL P)
def colA (P : PLp) : List Int := List.replicate P.cost.length 0 ++ exA (extraL P)
theorem exV_app (a b : List (Nat × Rat)) : exV (a ++ b) = exV a ++ exV b := List.map_append
theorem exR_app (a b : List (Nat × Rat)) : exR (a ++ b) = exR a ++ exR b := List.map_append
theorem exA_app (a b : List (Nat × Rat)) : exA (a ++ b) = exA a ++ exA b := List.map_append
theorem extraR_take {rs : List PRow} {j : Nat} {r : PRow} (h : rs[j]? = some r) : extraR (rs.take (j+1)) 0 = extraR (rs.take j) 0 ++ (senX r.sense).map (fun x => (j, x)) := by
 have hl := (List.getElem?_eq_some_iff.1 h).1
 rw [List.take_add_one, h, Option.toList_some, extraR_append, List.length_take, Nat.zero_add, Nat.min_eq_left (by omega), extraR_cons]
 show _ ++ (_ ++ []) = _; rw [List.append_nil]
theorem extraE_take {os : List Bool} {j k : Nat} {o : Bool} (h : os[j]? = some o) : extraE (os.take (j+1)) k = extraE (os.take j) k ++ (if o then [] else [(k + (endsFrom (os.take j) 0).length, 1)]) := by
 rw [List.take_add_one, h, Option.toList_some, extraE_append, extraE_cons]
 cases o <;> rfl
theorem colV_len (P : PLp) : (colV P).length = P.cost.length + (extraL P).length := by unfold colV exV; simp
def RCols (w : World) (P : PLp) (e : Ending) (w' : World) : Prop := ∃ vv rv av, e = .returned (.tuple #[vv, rv, av]) /\ Cols w' w.heap.size vv rv av (colV P) (colR P) (colA P) /\ Later w w'
set_option maxHeartbeats 16000000 in
theorem rcolumns11_calls (w : World) (A1 A2 A3 A4 A5 : Option Addr) (n1 n2 n3 n4 n5 c1 c2 c3 c4 c5 : Nat) (k : Nat) (P : PLp) (h : LpIn w (.slice A1 n1 c1) (.slice A2 n2 c2) (.slice A3 n3 c3) (.slice A4 n4 c4) (.slice A5 n5 c5) k P) (hP : LpP P) :
 Calls Tryz.prog 73 #[.agg #[.slice A1 n1 c1, .slice A2 n2 c2, .slice A3 n3 c3, .slice A4 n4 c4, .slice A5 n5 c5]] w (RCols w P) := by
 have HP := hide hP
 have h0 := h
 have L1 := hide h.cost.len_; have L2 := hide h.rows.len_; have L5 := hide h.opn.len_
 clear hP h
 obtain ⟨W0, hW0⟩ : ∃ W0, W0 = (w.alloc (Obj.cells #[Value.slice A1 n1 c1, Value.slice A2 n2 c2, Value.slice A3 n3 c3, Value.slice A4 n4 c4, Value.slice A5 n5 c5] 26)) := ⟨_, rfl⟩
 obtain ⟨hb0, r0, hsz0⟩ := boxes1 w [.slice A1 n1 c1, .slice A2 n2 c2, .slice A3 n3 c3, .slice A4 n4 c4, .slice A5 n5 c5] 26 hW0
 have B0 := hide hb0; have HW0 := hide hW0; have HSZ0 := hide hsz0
 have R0 := hide r0
 clear hb0 hW0 hsz0 r0
 have HI := hide (h0.later B0.out)
 have hn1 : n1 <= 24 := by have := L1.out; have := HP.out.n24; omega
 have hn2 : n2 <= 24 := by have := L2.out; have := HP.out.rl; omega
 have hn5 : n5 <= 24 := by have := L5.out; have := HP.out.opn; have := HP.out.n24; omega
 clear h0
 go_enter Tryz.func73, Tryz.ntmps73
 go_upto_region 1 with fail
 rw [<- HW0.out]
 go_wp2_with fail
 go_loopw [5, 6, 7, 8] (fun vv rv av iv wr => ∃ j : Nat, j <= n1 /\ iv = .int .i64 (j : Int) /\ Cols wr W0.heap.size vv rv av ((List.range j).map (fun (k : Nat) => (k : Int))) (List.replicate j (-1)) (List.replicate j 0) /\ Later W0 wr) (fun _ _ _ i _ => (n1 - intOf i).toNat)
 case atStart => exact ⟨0, by omega, rfl, Cols.nil _ _, Later.refl _⟩
 case round =>
  obtain ⟨j, hj, rfl, hc, hL⟩ := hrel
  have HC := hide hc; have HL := hide hL
  clear hc hL
  have r_d := R0.out.later HL.out
  have d0 := r_d.cell (i := 0) rfl; have d1 := r_d.cell (i := 1) rfl; have d2 := r_d.cell (i := 2) rfl; have d3 := r_d.cell (i := 3) rfl; have d4 := r_d.cell (i := 4) rfl
  clear r_d
  by_cases hjn : j < n1
  ·have hj0 : (0 : Int) <= (j : Int) := by omega
   have hj1 : (j : Int) < n1 := by omega
   have HLN : Hid (((List.range j).map (fun (k : Nat) => (k : Int))).length <= 1000 /\ (List.replicate j (-1 : Int)).length <= 1000 /\ (List.replicate j (0 : Int)).length <= 1000) := hide ⟨by rw [List.length_map, List.length_range]; omega, by rw [List.length_replicate]; omega, by rw [List.length_replicate]; omega⟩
   have HE : Hid ((List.range (j+1)).map (fun (k : Nat) => (k : Int)) = (List.range j).map (fun (k : Nat) => (k : Int)) ++ [(j : Int)] /\ List.replicate (j+1) (-1 : Int) = List.replicate j (-1) ++ [-1] /\ List.replicate (j+1) (0 : Int) = List.replicate j 0 ++ [0]) := hide ⟨by rw [List.range_succ, List.map_append]; rfl, List.replicate_succ', List.replicate_succ'⟩
   go_upto_region 8 with (at_builtin; refine wpList_append_ix rfl _ _ rfl rfl (ownsRow_later HC.out.v ((Later.refl _).alloc _)) rfl (Row.new wr 3 [.int .i64 ((j : Int))]) (by have := HLN.out; omega) (by have := HL.out.size; rw [World.size_alloc]; omega) ?_; intro v81 w81 k11 k21 k31)
   have hlt1 := World.ownsRow.lt HC.out.v
   have HC1 := hide (Cols.grewV (HC.out.later ((Later.refl wr).alloc _)) k11 k21 k31)
   have HL1 : Hid (Later W0 w81) := hide ((HL.out.alloc _).grown k21 (fun q hq => (hlt1 q hq).1))
   clear k11 k21 k31 hlt1
   go_upto_region 9 with (at_builtin; refine wpList_append_ix rfl _ _ rfl rfl (ownsRow_later HC1.out.r ((Later.refl _).alloc _)) rfl (Row.new w81 3 [.int .i64 (-1)]) (by have := HLN.out; omega) (by have := HL1.out.size; rw [World.size_alloc]; omega) ?_; intro v82 w82 k12 k22 k32)
   have hlt2 := World.ownsRow.lt HC1.out.r
   have HC2 := hide (Cols.grewR (HC1.out.later ((Later.refl w81).alloc _)) k12 k22 k32)
   have HL2 : Hid (Later W0 w82) := hide ((HL1.out.alloc _).grown k22 (fun q hq => (hlt2 q hq).1))
   clear k12 k22 k32 hlt2
   go_wp2_with (at_builtin; refine wpList_append_i64x rfl _ _ rfl rfl (ownsRow_later HC2.out.a ((Later.refl _).alloc _)) rfl (Row.new w82 2 [.int .i64 (0)]) (by have := HLN.out; omega) (by have := HL2.out.size; rw [World.size_alloc]; omega) ?_; intro v83 w83 k13 k23 k33)
   have hlt3 := World.ownsRow.lt HC2.out.a
   have HC3 := hide (Cols.grewA (HC2.out.later ((Later.refl w82).alloc _)) k13 k23)
   have HL3 : Hid (Later W0 w83) := hide ((HL2.out.alloc _).grown k23 (fun q hq => (hlt3 q hq).1))
   clear k13 k23 k33 hlt3
   have hc9 := HC3.out
   rw [<- HE.out.1, <- HE.out.2.1, <- HE.out.2.2] at hc9
   exact ⟨⟨j+1, by omega, by go_num, hc9, HL3.out⟩, by simp [intOf]; omega⟩
  ·have hj1 : ¬ (j : Int) < n1 := by omega
   have hc9 := HC.out
   have hjn1 : j = P.cost.length := by have := L1.out; omega
   have he : exV (extraR (P.rows.take 0) 0) = [] /\ exR (extraR (P.rows.take 0) 0) = [] /\ exA (extraR (P.rows.take 0) 0) = [] := ⟨rfl, rfl, rfl⟩
   have HC1x : Hid (Cols wr W0.heap.size _ _ _ ((List.range P.cost.length).map (fun (k : Nat) => (k : Int)) ++ exV (extraR (P.rows.take 0) 0)) (List.replicate P.cost.length (-1) ++ exR (extraR (P.rows.take 0) 0)) (List.replicate P.cost.length 0 ++ exA (extraR (P.rows.take 0) 0))) := hide (by rw [he.1, he.2.1, he.2.2, List.append_nil, List.append_nil, List.append_nil, <- hjn1]; exact hc9)
   have HL1x := HL
   clear hc9 hjn1 he HC HL
   go_wp2_with fail
   clear d0 d1 d2 d3 d4
   go_loopw [5, 6, 7, 9] (fun vv rv av iv wr => ∃ j : Nat, j <= n2 /\ iv = .int .i64 (j : Int) /\ Cols wr W0.heap.size vv rv av ((List.range P.cost.length).map (fun (k : Nat) => (k : Int)) ++ exV (extraR (P.rows.take j) 0)) (List.replicate P.cost.length (-1) ++ exR (extraR (P.rows.take j) 0)) (List.replicate P.cost.length 0 ++ exA (extraR (P.rows.take j) 0)) /\ Later W0 wr) (fun _ _ _ i _ => (n2 - intOf i).toNat)
   case atStart => exact ⟨0, by omega, rfl, HC1x.out, HL1x.out⟩
   case round =>
    obtain ⟨j, hj, rfl, hc, hL⟩ := hrel
    have HC := hide hc; have HL := hide hL
    clear hc hL
    have r_d := R0.out.later HL.out
    have d0 := r_d.cell (i := 0) rfl; have d1 := r_d.cell (i := 1) rfl; have d2 := r_d.cell (i := 2) rfl; have d3 := r_d.cell (i := 3) rfl; have d4 := r_d.cell (i := 4) rfl
    clear r_d
    by_cases hjn : j < n2
    ·have hj0 : (0 : Int) <= (j : Int) := by omega
     have hj1 : (j : Int) < n2 := by omega
     obtain ⟨r, hr⟩ : ∃ r, P.rows[j]? = some r := ⟨P.rows[j]'(by have := L2.out; omega), List.getElem?_eq_getElem _⟩
     obtain ⟨b3, off3, rfl, rc, z0, z1, z2, z3, z4, z5, hE⟩ := HI.out.rows.at6 hr
     have hrm := HP.out.rows r (List.mem_of_getElem? hr)
     have HT0 := hide (extraR_take hr)
     have HLN : Hid (((List.range P.cost.length).map (fun (k : Nat) => (k : Int)) ++ exV (extraR (P.rows.take j) 0)).length <= 1000 /\ (List.replicate P.cost.length (-1) ++ exR (extraR (P.rows.take j) 0)).length <= 1000 /\ (List.replicate P.cost.length 0 ++ exA (extraR (P.rows.take j) 0)).length <= 1000) := hide (by
      have h1 := HP.out.n24
      have h2 := extraR_len_le (P.rows.take j) 0; rw [List.length_take] at h2
      unfold exV exR exA
      simp only [List.length_append, List.length_map, List.length_range, List.length_replicate]
      omega)
     have y1 := Later.cell HL.out z1
     clear hr hE z0 z2 z3 z4 z5
     rcases (by have := hrm.2.1; omega : r.sense = 0 ∨ r.sense = 1 ∨ r.sense = 2) with hs | hs | hs
     ·clear hrm
      have HE : Hid (exV (extraR (P.rows.take (j+1)) 0) = exV (extraR (P.rows.take j) 0) ++ [-1] /\ exR (extraR (P.rows.take (j+1)) 0) = exR (extraR (P.rows.take j) 0) ++ [(j : Int)] /\ exA (extraR (P.rows.take (j+1)) 0) = exA (extraR (P.rows.take j) 0) ++ [1]) := hide (by
       rw [HT0.out, hs]
       exact ⟨exV_app _ _, exR_app _ _, exA_app _ _⟩)
      rw [hs] at z1 y1
      go_upto_region 15 with (at_builtin; refine wpList_append_ix rfl _ _ rfl rfl (ownsRow_later HC.out.v ((Later.refl _).alloc _)) rfl (Row.new wr 3 [.int .i64 (-1)]) (by have := HLN.out; omega) (by have := HL.out.size; rw [World.size_alloc]; omega) ?_; intro v81 w81 k11 k21 k31)
      have hlt1 := World.ownsRow.lt HC.out.v
      have HC1 := hide (Cols.grewV (HC.out.later ((Later.refl wr).alloc _)) k11 k21 k31)
      have HL1 : Hid (Later W0 w81) := hide ((HL.out.alloc _).grown k21 (fun q hq => (hlt1 q hq).1))
      clear k11 k21 k31 hlt1
      go_upto_region 16 with (at_builtin; refine wpList_append_ix rfl _ _ rfl rfl (ownsRow_later HC1.out.r ((Later.refl _).alloc _)) rfl (Row.new w81 3 [.int .i64 ((j : Int))]) (by have := HLN.out; omega) (by have := HL1.out.size; rw [World.size_alloc]; omega) ?_; intro v82 w82 k12 k22 k32)
      have hlt2 := World.ownsRow.lt HC1.out.r
      have HC2 := hide (Cols.grewR (HC1.out.later ((Later.refl w81).alloc _)) k12 k22 k32)
      have HL2 : Hid (Later W0 w82) := hide ((HL1.out.alloc _).grown k22 (fun q hq => (hlt2 q hq).1))
      clear k12 k22 k32 hlt2
      have p1 := Later.cell HL2.out (R0.out.cell (i := 1) rfl); have y1 := Later.cell HL2.out z1
      go_wp2_with (at_builtin; refine wpList_append_i64x rfl _ _ rfl rfl (ownsRow_later HC2.out.a ((Later.refl _).alloc _)) rfl (Row.new w82 2 [.int .i64 (1)]) (by have := HLN.out; omega) (by have := HL2.out.size; rw [World.size_alloc]; omega) ?_; intro v83 w83 k13 k23 k33)
      have hlt3 := World.ownsRow.lt HC2.out.a
      have HC3 := hide (Cols.grewA (HC2.out.later ((Later.refl w82).alloc _)) k13 k23)
      have HL3 : Hid (Later W0 w83) := hide ((HL2.out.alloc _).grown k23 (fun q hq => (hlt3 q hq).1))
      clear k13 k23 k33 hlt3
      have hc9 := HC3.out
      rw [List.append_assoc, List.append_assoc, List.append_assoc, <- HE.out.1, <- HE.out.2.1, <- HE.out.2.2] at hc9
      exact ⟨⟨j+1, by omega, by go_num, hc9, HL3.out⟩, by simp [intOf]; omega⟩
     ·clear hrm
      rw [hs] at z1 y1
      have hc9 := HC.out
      have he : extraR (P.rows.take (j+1)) 0 = extraR (P.rows.take j) 0 := by rw [HT0.out, hs]; exact List.append_nil _
      rw [<- he] at hc9
      have HC9 := hide hc9
      clear hc9 he
      go_wp2_with fail
      exact ⟨⟨j+1, by omega, by go_num, HC9.out, HL.out⟩, by simp [intOf]; omega⟩
     ·clear hrm
      have HE : Hid (exV (extraR (P.rows.take (j+1)) 0) = exV (extraR (P.rows.take j) 0) ++ [-1] /\ exR (extraR (P.rows.take (j+1)) 0) = exR (extraR (P.rows.take j) 0) ++ [(j : Int)] /\ exA (extraR (P.rows.take (j+1)) 0) = exA (extraR (P.rows.take j) 0) ++ [-1]) := hide (by
       rw [HT0.out, hs]
       exact ⟨exV_app _ _, exR_app _ _, exA_app _ _⟩)
      rw [hs] at z1 y1
      go_upto_region 15 with (at_builtin; refine wpList_append_ix rfl _ _ rfl rfl (ownsRow_later HC.out.v ((Later.refl _).alloc _)) rfl (Row.new wr 3 [.int .i64 (-1)]) (by have := HLN.out; omega) (by have := HL.out.size; rw [World.size_alloc]; omega) ?_; intro v81 w81 k11 k21 k31)
      have hlt1 := World.ownsRow.lt HC.out.v
      have HC1 := hide (Cols.grewV (HC.out.later ((Later.refl wr).alloc _)) k11 k21 k31)
      have HL1 : Hid (Later W0 w81) := hide ((HL.out.alloc _).grown k21 (fun q hq => (hlt1 q hq).1))
      clear k11 k21 k31 hlt1
      go_upto_region 16 with (at_builtin; refine wpList_append_ix rfl _ _ rfl rfl (ownsRow_later HC1.out.r ((Later.refl _).alloc _)) rfl (Row.new w81 3 [.int .i64 ((j : Int))]) (by have := HLN.out; omega) (by have := HL1.out.size; rw [World.size_alloc]; omega) ?_; intro v82 w82 k12 k22 k32)
      have hlt2 := World.ownsRow.lt HC1.out.r
      have HC2 := hide (Cols.grewR (HC1.out.later ((Later.refl w81).alloc _)) k12 k22 k32)
      have HL2 : Hid (Later W0 w82) := hide ((HL1.out.alloc _).grown k22 (fun q hq => (hlt2 q hq).1))
      clear k12 k22 k32 hlt2
      have p1 := Later.cell HL2.out (R0.out.cell (i := 1) rfl); have y1 := Later.cell HL2.out z1
      go_wp2_with (at_builtin; refine wpList_append_i64x rfl _ _ rfl rfl (ownsRow_later HC2.out.a ((Later.refl _).alloc _)) rfl (Row.new w82 2 [.int .i64 (-1)]) (by have := HLN.out; omega) (by have := HL2.out.size; rw [World.size_alloc]; omega) ?_; intro v83 w83 k13 k23 k33)
      have hlt3 := World.ownsRow.lt HC2.out.a
      have HC3 := hide (Cols.grewA (HC2.out.later ((Later.refl w82).alloc _)) k13 k23)
      have HL3 : Hid (Later W0 w83) := hide ((HL2.out.alloc _).grown k23 (fun q hq => (hlt3 q hq).1))
      clear k13 k23 k33 hlt3
      have hc9 := HC3.out
      rw [List.append_assoc, List.append_assoc, List.append_assoc, <- HE.out.1, <- HE.out.2.1, <- HE.out.2.2] at hc9
      exact ⟨⟨j+1, by omega, by go_num, hc9, HL3.out⟩, by simp [intOf]; omega⟩
    ·have hj1 : ¬ (j : Int) < n2 := by omega
     have hc9 := HC.out
     have he : extraR (P.rows.take j) 0 = extraR P.rows 0 ++ extraE (P.opn.take 0) P.rows.length := by rw [List.take_of_length_le (by have := L2.out; omega)]; exact (List.append_nil _).symm
     rw [he] at hc9
     have HC2x := hide hc9; have HL2x := HL
     clear hc9 he HC HL
     go_wp2_with fail
     clear d0 d1 d2 d3 d4
     go_loopw [5, 6, 7, 10, 11] (fun vv rv av kk iv wr => ∃ j : Nat, j <= n5 /\ iv = .int .i64 (j : Int) /\ kk = .int .i64 ((n2 : Int) + ((endsFrom (P.opn.take j) 0).length : Int)) /\ Cols wr W0.heap.size vv rv av ((List.range P.cost.length).map (fun (k : Nat) => (k : Int)) ++ exV (extraR P.rows 0 ++ extraE (P.opn.take j) P.rows.length)) (List.replicate P.cost.length (-1) ++ exR (extraR P.rows 0 ++ extraE (P.opn.take j) P.rows.length)) (List.replicate P.cost.length 0 ++ exA (extraR P.rows 0 ++ extraE (P.opn.take j) P.rows.length)) /\ Later W0 wr) (fun _ _ _ _ i _ => (n5 - intOf i).toNat)
     case atStart => exact ⟨0, by omega, rfl, by simp [endsFrom], HC2x.out, HL2x.out⟩
     case round =>
      obtain ⟨j, hj, rfl, rfl, hc, hL⟩ := hrel
      have HC := hide hc; have HL := hide hL
      clear hc hL
      have r_d := R0.out.later HL.out
      have d0 := r_d.cell (i := 0) rfl; have d1 := r_d.cell (i := 1) rfl; have d2 := r_d.cell (i := 2) rfl; have d3 := r_d.cell (i := 3) rfl; have d4 := r_d.cell (i := 4) rfl
      clear r_d
      by_cases hjn : j < n5
      ·have hj0 : (0 : Int) <= (j : Int) := by omega
       have hj1 : (j : Int) < n5 := by omega
       obtain ⟨o, ho⟩ : ∃ o, P.opn[j]? = some o := ⟨P.opn[j]'(by have := L5.out; omega), List.getElem?_eq_getElem _⟩
       obtain ⟨b4, off4, rfl, z4⟩ := HI.out.opn.at_ ho
       have y4 := Later.cell HL.out z4
       have HT0 := hide (extraE_take (k := P.rows.length) ho)
       have HT1 := hide (ends_take ho)
       have hel := endsFrom_len_le (P.opn.take j) 0
       rw [List.length_take] at hel
       obtain ⟨E, hE⟩ : ∃ E, E = (endsFrom (P.opn.take j) 0).length := ⟨_, rfl⟩
       have HE := hide hE
       have hE24 : E <= 24 := by omega
       have HLN : Hid (((List.range P.cost.length).map (fun (k : Nat) => (k : Int)) ++ exV (extraR P.rows 0 ++ extraE (P.opn.take j) P.rows.length)).length <= 1000 /\ (List.replicate P.cost.length (-1) ++ exR (extraR P.rows 0 ++ extraE (P.opn.take j) P.rows.length)).length <= 1000 /\ (List.replicate P.cost.length 0 ++ exA (extraR P.rows 0 ++ extraE (P.opn.take j) P.rows.length)).length <= 1000) := hide (by
        have h1 := HP.out.n24
        have h2 := extraR_len_le P.rows 0; have h3 := extraE_len_le (P.opn.take j) P.rows.length; have h4 := HP.out.rl; rw [List.length_take] at h3
        unfold exV exR exA
        simp only [List.length_append, List.length_map, List.length_range, List.length_replicate]
        omega)
       have hkk : ((n2 : Int) + ((endsFrom (P.opn.take j) 0).length : Int)) = (n2 : Int) + (E : Int) := by rw [hE]
       rw [hkk]
       clear ho hel hE hkk
       cases o with
       | true =>
         have he : extraE (P.opn.take (j+1)) P.rows.length = extraE (P.opn.take j) P.rows.length := by rw [HT0.out]; exact List.append_nil _
         have hc9 := HC.out
         rw [<- he] at hc9
         have HC9 := hide hc9
         have HK9 : Hid ((n2 : Int) + (E : Int) = ((n2 : Int) + ((endsFrom (P.opn.take (j+1)) 0).length : Int))) := hide (by rw [HT1.out, HE.out]; rfl)
         clear hc9 he
         go_wp2_with fail
         exact ⟨⟨j+1, by omega, by go_num, by rw [HK9.out], HC9.out, HL.out⟩, by simp [intOf]; omega⟩
       | false =>
         have HEE : Hid (exV (extraE (P.opn.take (j+1)) P.rows.length) = exV (extraE (P.opn.take j) P.rows.length) ++ [-1] /\ exR (extraE (P.opn.take (j+1)) P.rows.length) = exR (extraE (P.opn.take j) P.rows.length) ++ [(n2 : Int) + (E : Int)] /\ exA (extraE (P.opn.take (j+1)) P.rows.length) = exA (extraE (P.opn.take j) P.rows.length) ++ [1]) := hide (by
          rw [HT0.out, if_neg (by decide), exV_app, exR_app, exA_app]
          refine ⟨rfl, ?_, rfl⟩
          congr 1
          show [((P.rows.length + (endsFrom (P.opn.take j) 0).length : Nat) : Int)] = _
          rw [HE.out, L2.out]; congr 1)
         have HK9 : Hid ((n2 : Int) + (E : Int) + 1 = ((n2 : Int) + ((endsFrom (P.opn.take (j+1)) 0).length : Int))) := hide (by rw [HT1.out, HE.out, if_neg (by decide)]; omega)
         have hwk : IntKind.i64.wrap ((n2 : Int) + (E : Int) + 1) = (n2 : Int) + (E : Int) + 1 := IntWalk.i64_in _ (by omega)
         go_upto_region 23 with (at_builtin; refine wpList_append_ix rfl _ _ rfl rfl (ownsRow_later HC.out.v ((Later.refl _).alloc _)) rfl (Row.new wr 3 [.int .i64 (-1)]) (by have := HLN.out; omega) (by have := HL.out.size; rw [World.size_alloc]; omega) ?_; intro v81 w81 k11 k21 k31)
         have hlt1 := World.ownsRow.lt HC.out.v
         have HC1 := hide (Cols.grewV (HC.out.later ((Later.refl wr).alloc _)) k11 k21 k31)
         have HL1 : Hid (Later W0 w81) := hide ((HL.out.alloc _).grown k21 (fun q hq => (hlt1 q hq).1))
         clear k11 k21 k31 hlt1
         go_upto_region 24 with (at_builtin; refine wpList_append_ix rfl _ _ rfl rfl (ownsRow_later HC1.out.r ((Later.refl _).alloc _)) rfl (Row.new w81 3 [.int .i64 ((n2 : Int) + (E : Int))]) (by have := HLN.out; omega) (by have := HL1.out.size; rw [World.size_alloc]; omega) ?_; intro v82 w82 k12 k22 k32)
         have hlt2 := World.ownsRow.lt HC1.out.r
         have HC2 := hide (Cols.grewR (HC1.out.later ((Later.refl w81).alloc _)) k12 k22 k32)
         have HL2 : Hid (Later W0 w82) := hide ((HL1.out.alloc _).grown k22 (fun q hq => (hlt2 q hq).1))
         clear k12 k22 k32 hlt2
         go_wp2_with (at_builtin; refine wpList_append_i64x rfl _ _ rfl rfl (ownsRow_later HC2.out.a ((Later.refl _).alloc _)) rfl (Row.new w82 2 [.int .i64 (1)]) (by have := HLN.out; omega) (by have := HL2.out.size; rw [World.size_alloc]; omega) ?_; intro v83 w83 k13 k23 k33)
         have hlt3 := World.ownsRow.lt HC2.out.a
         have HC3 := hide (Cols.grewA (HC2.out.later ((Later.refl w82).alloc _)) k13 k23)
         have HL3 : Hid (Later W0 w83) := hide ((HL2.out.alloc _).grown k23 (fun q hq => (hlt3 q hq).1))
         clear k13 k23 k33 hlt3
         have hc9 := HC3.out
         rw [List.append_assoc, List.append_assoc, List.append_assoc] at hc9
         rw [exV_app, exR_app, exA_app, List.append_assoc, List.append_assoc, List.append_assoc, <- HEE.out.1, <- HEE.out.2.1, <- HEE.out.2.2, <- exV_app, <- exR_app, <- exA_app] at hc9
         exact ⟨⟨j+1, by omega, by go_num, by rw [HK9.out], hc9, HL3.out⟩, by simp [intOf]; omega⟩
      ·have hj1 : ¬ (j : Int) < n5 := by omega
       have hc9 := HC.out
       have he : extraR P.rows 0 ++ extraE (P.opn.take j) P.rows.length = extraL P := by rw [List.take_of_length_le (by have := L5.out; omega)]; rfl
       rw [he] at hc9
       have HC9 := hide hc9
       clear hc9 he
       go_wp2_with fail
       go_ret3
       exact ⟨_, _, _, rfl, HC9.out.weaken B0.out.size, B0.out.trans HL.out⟩
end Go.Proofs.YtfokplidiboabaaGreat
