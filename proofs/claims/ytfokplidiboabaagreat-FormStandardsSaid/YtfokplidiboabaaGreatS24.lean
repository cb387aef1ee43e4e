/- Problems: Fulfils (the program). -/
import Derived.Test.YtfokplidiboabaaGreatS21
import Derived.Test.YtfokplidiboabaaGreatS8
import Derived.Test.YtfokplidiboabaaGreatS18
import Derived.Test.YtfokplidiboabaaGreatS23
import Derived.Test.YtfokplidiboabaaGreatS19
import Derived.Test.YtfokplidiboabaaGreatS17
import Derived.Test.YtfokplidiboabaaGreatS15
set_option linter.unusedVariables false
set_option linter.unusedSimpArgs false
set_option maxRecDepth 100000
namespace Go.Proofs.YtfokplidiboabaaGreat
open Go.RowKit Go.Shelf
attribute [local go_sem ↓] Go.wp_at_zero Go.wp_at_succ
set_option maxHeartbeats 2000000 in
theorem idxW1_calls (w : World) {k : Nat} (v : Value) (l : List PRow) (h : LRows (ERow k) w v l) (hl : l.length <= 1000000000) (f : FuncId) (hf : Enters f) (G0 : Nat) (p : PRow -> Bool) (hp : ∀ W (r : WCells) (x : PRow), Later w W -> ERowS k W r x -> x ∈ l -> Calls Tryz.prog f #[.agg #[.slice r.A r.n r.c, .int .i64 x.sense, .bool r.e.a, .slice r.e.A r.e.n r.e.c, .bool r.e.a', .slice r.e.A' r.e.n' r.e.c'], .pointer (some ⟨G0, 0, none⟩)] W (RetV W (.bool (p x)))) :
 Calls Tryz.prog 154 #[v, .func (.func f) #[] #[.pointer (some ⟨G0, 0, none⟩)]] w (RetZ w (FirstX p l)) := by
 have H := hide h; have HP := hide hp
 have hen := hf.out
 obtain ⟨A0, nt, ct, rfl, hnt, -, -, -⟩ := h.form
 have HNT := hide hnt
 have hn9 : nt <= 1000000000 := by omega
 clear h hp hnt hl
 go_enter Tryz.func154, Tryz.ntmps154
 go_wp2_with fail
 go_loopw [8] (fun i wr => ∃ j : Nat, j <= nt /\ i = .int .i64 (j : Int) /\ Hid (∀ (i : Nat) r, i < j -> l[i]? = some r -> p r = false) /\ Later w wr) (fun i _ => (nt - intOf i).toNat)
 case atStart => exact ⟨0, by omega, rfl, hide fun i r hi => by omega, Later.refl w⟩
 case round =>
  obtain ⟨j, hj, rfl, hpre, hL⟩ := hrel
  by_cases hjn : j < nt
  ·obtain ⟨x, hx⟩ : ∃ x, l[j]? = some x := ⟨l[j]'(by have := HNT.out; omega), List.getElem?_eq_getElem _⟩
   obtain ⟨b1, off1, rfl, r, x0, x1, x2, x3, x4, x5, he⟩ := (H.out.later ERow.later hL).at6 hx
   have HX := hide hx; have HE := hide (show ERowS k wr r x from he)
   clear he
   obtain ⟨u, hu⟩ : ∃ u, p x = u := ⟨_, rfl⟩
   have HU := hide hu
   have hj0 : (0 : Int) <= (j : Int) := by omega
   have hj1 : (j : Int) < nt := by omega
   clear hx hu
   go_wp2_with fail
   refine (HP.out _ _ _ hL HE.out (List.mem_of_getElem? HX.out)).mono ?_
   rintro e w8 ⟨rfl, b8⟩
   rw [HU.out]
   have hL8 := hL.trans b8
   cases u
   case false =>
    have HN : Hid (∀ (i : Nat) r, i < j + 1 -> l[i]? = some r -> p r = false) := hide fun i r hi hr => by
     by_cases hij : i < j
     ·exact hpre.out i r hij hr
     ·obtain rfl : i = j := by omega
      rw [HX.out] at hr; injection hr with hr; rw [<- hr, HU.out]
    go_wp2_with fail
    exact ⟨⟨j+1, by omega, by go_num, HN, hL8⟩, by simp [intOf]; omega⟩
   case true =>
    have HF : Hid (FirstX p l j) := hide (.inr ⟨j, x, rfl, HX.out, HU.out, hpre.out⟩)
    go_wp2_with fail
    go_ret
    exact ⟨_, rfl, HF.out, hL8⟩
  ·obtain rfl : j = nt := by omega
   have HF : Hid (FirstX p l (-1)) := hide (.inl ⟨rfl, fun x hr => by
    obtain ⟨i, hi⟩ := List.getElem?_of_mem hr
    exact hpre.out i x (by rw [HNT.out]; exact (List.getElem?_eq_some_iff.1 hi).1) hi⟩)
   go_wp2_with fail
   go_ret
   exact ⟨_, rfl, HF.out, hL⟩
set_option maxHeartbeats 1000000 in
theorem contW1_calls (w : World) {k : Nat} (v : Value) (l : List PRow) (h : LRows (ERow k) w v l) (hl : l.length <= 1000000000) (f : FuncId) (hf : Enters f) (G0 : Nat) (p : PRow -> Bool) (hp : ∀ W (r : WCells) (x : PRow), Later w W -> ERowS k W r x -> x ∈ l -> Calls Tryz.prog f #[.agg #[.slice r.A r.n r.c, .int .i64 x.sense, .bool r.e.a, .slice r.e.A r.e.n r.e.c, .bool r.e.a', .slice r.e.A' r.e.n' r.e.c'], .pointer (some ⟨G0, 0, none⟩)] W (RetV W (.bool (p x)))) (u : Bool) (hu : l.any p = u) :
 Calls Tryz.prog 86 #[v, .func (.func f) #[] #[.pointer (some ⟨G0, 0, none⟩)]] w (RetV w (.bool u)) := by
 have H := hide h; have HP := hide hp; have HU := hide hu
 obtain ⟨A0, nt, ct, rfl, hnt, -, -, -⟩ := h.form
 clear h hp hnt hu
 go_enter Tryz.func86, Tryz.ntmps86
 go_wp2_with fail
 refine (idxW1_calls _ _ l H.out hl f hf G0 p HP.out).mono ?_
 rintro e w1 ⟨z, rfl, hz, b1⟩
 have hd := firstX_any hz
 rw [HU.out] at hd
 have HD := hide hd
 clear hz hd
 go_wp2_with fail
 go_ret
 exact ⟨by simp [HD.out], b1⟩
set_option maxHeartbeats 4000000 in
theorem pful1_calls (w : World) (r : WCells) (x : PRow) (k : Nat) (he : ERowS k w r x) (hk : k <= 1000) (G : Nat) (Az : Option Addr) (nz cz : Nat) (z : List Rat) (m : Nat) (hz : Rats (ERaw m) w (.slice Az nz cz) z) (hG : Row w G 22 [.slice Az nz cz]) (hm : m <= 1000) (hlen : x.coef.length = z.length) (hs : 0 <= x.sense /\ x.sense <= 2) (u : Bool) (hu : rowHolds x z = u) :
 Calls Tryz.prog 87 #[.agg #[.slice r.A r.n r.c, .int .i64 x.sense, .bool r.e.a, .slice r.e.A r.e.n r.e.c, .bool r.e.a', .slice r.e.A' r.e.n' r.e.c'], .pointer (some ⟨G, 0, none⟩)] w (RetV w (.bool (!u))) := by
 have HE := hide he; have HZ := hide hz; have HG := hide hG; have HU := hide hu
 clear he hz hG hu
 obtain ⟨W0, hW0⟩ : ∃ W0, W0 = (w.alloc (Obj.cells #[Value.slice r.A r.n r.c, Value.int .i64 x.sense, Value.bool r.e.a, Value.slice r.e.A r.e.n r.e.c, Value.bool r.e.a', Value.slice r.e.A' r.e.n' r.e.c'] 60)) := ⟨_, rfl⟩
 obtain ⟨hb0, r0, hsz0⟩ := boxes1 w [.slice r.A r.n r.c, .int .i64 x.sense, .bool r.e.a, .slice r.e.A r.e.n r.e.c, .bool r.e.a', .slice r.e.A' r.e.n' r.e.c'] 60 hW0
 have B0 := hide hb0; have HW0 := hide hW0; have HSZ0 := hide hsz0
 have R0 := hide r0
 clear hb0 hW0 hsz0 r0
 go_enter Tryz.func87, Tryz.ntmps87
 go_upto_region 1 with fail
 rw [<- HW0.out]
 have r_d := R0.out.later (Later.refl W0)
 have d0 := r_d.cell (i := 0) rfl; have d1 := r_d.cell (i := 1) rfl; have d2 := r_d.cell (i := 2) rfl; have d3 := r_d.cell (i := 3) rfl; have d4 := r_d.cell (i := 4) rfl; have d5 := r_d.cell (i := 5) rfl
 clear r_d
 have g0 := (HG.out.later B0.out).cell (i := 0) rfl
 go_wp2_with fail
 have he2 : ERowS k W0 r x := ERow.later (k := k) _ _ _ _ HE.out B0.out
 ((with_reducible refine (pholds_calls _ r x k he2 hk _ z m (Rats.later ERaw.later HZ.out B0.out) hm hlen hs).mono ?_); rintro e w1 ⟨rfl, b1⟩)
 rw [HU.out]
 have hL := B0.out.trans b1
 clear d0 d1 d2 d3 d4 d5 g0 b1 he2
 go_wp2_with fail
 go_ret
 exact ⟨rfl, hL⟩
set_option maxHeartbeats 16000000 in
theorem pfulfils_calls (w : World) (A1 A2 A3 A4 A5 : Option Addr) (n1 n2 n3 n4 n5 c1 c2 c3 c4 c5 : Nat) (k : Nat) (P : PLp) (h : LpIn w (.slice A1 n1 c1) (.slice A2 n2 c2) (.slice A3 n3 c3) (.slice A4 n4 c4) (.slice A5 n5 c5) k P) (vx : Value) (x : List Rat) (m : Nat) (hx : Rats (ERaw m) w vx x) (hm : m <= 1000) :
 Calls Tryz.prog 31 #[.agg #[.slice A1 n1 c1, .slice A2 n2 c2, .slice A3 n3 c3, .slice A4 n4 c4, .slice A5 n5 c5], vx] w (RetV w (.bool (fulfL P x))) := by
 obtain ⟨Ax, nx, cx, rfl, hnx, -⟩ := hx.form
 have HX := hide hx; have HNX := hide hnx
 clear hx hnx
 have H := hide h
 have hc1 := h.cost; have hr1 := h.rows; have hl1 := h.lo; have hh1 := h.hi; have ho1 := h.opn
 have L1 := hide hc1.len_; have L2 := hide hr1.len_; have L3 := hide hl1.len_; have L4 := hide hh1.len_; have L5 := hide ho1.len_
 have hn1 : n1 <= 1000 := by have := h.cl; have := L1.out; omega
 have hn2 : n2 <= 1000 := by have := h.rl; have := L2.out; omega
 have hn3 : n3 <= 1000 := by have := h.ll; have := L3.out; omega
 have hn4 : n4 <= 1000 := by have := h.hl; have := L4.out; omega
 have hn5 : n5 <= 1000 := by have := h.ol; have := L5.out; omega
 have hkk := h.kk
 clear h hc1 hr1 hl1 hh1 ho1
 obtain ⟨u, hu⟩ : ∃ u, lpB P = u := ⟨_, rfl⟩
 obtain ⟨ub, hub⟩ : ∃ b, fulfL P x = b := ⟨_, rfl⟩
 rw [hub]
 have HUB := hide hub; have HU := hide hu
 clear hub hu
 obtain ⟨W0, hW0⟩ : ∃ W0, W0 = ((w.alloc (Obj.cells #[Value.slice A1 n1 c1, Value.slice A2 n2 c2, Value.slice A3 n3 c3, Value.slice A4 n4 c4, Value.slice A5 n5 c5] 26)).alloc (Obj.cells #[Value.slice Ax nx cx] 22)) := ⟨_, rfl⟩
 obtain ⟨hb0, r0, r1, hsz0⟩ := boxes2 w [.slice A1 n1 c1, .slice A2 n2 c2, .slice A3 n3 c3, .slice A4 n4 c4, .slice A5 n5 c5] [.slice Ax nx cx] 26 22 hW0
 have B0 := hide hb0; have HW0 := hide hW0; have HSZ0 := hide hsz0
 have R0 := hide r0; have R1 := hide r1
 clear hb0 hW0 hsz0 r0 r1
 go_enter Tryz.func31, Tryz.ntmps31
 go_upto_region 1 with fail
 rw [<- HW0.out]
 have r_d := R0.out.later (Later.refl W0)
 have d0 := r_d.cell (i := 0) rfl; have d1 := r_d.cell (i := 1) rfl; have d2 := r_d.cell (i := 2) rfl; have d3 := r_d.cell (i := 3) rfl; have d4 := r_d.cell (i := 4) rfl
 clear r_d
 have g0 := R1.out.cell (i := 0) rfl
 go_wp2_with fail
 ((with_reducible refine (pmay_calls _ _ _ _ _ _ _ _ _ _ _ _ _ _ _ _ k P (H.out.later B0.out)).mono ?_); rintro e w1 ⟨rfl, b1⟩)
 rw [HU.out]
 have HL1 := hide b1
 clear b1 d0 d1 d2 d3 d4 g0
 have r_d := R0.out.later HL1.out
 have d0 := r_d.cell (i := 0) rfl; have d1 := r_d.cell (i := 1) rfl; have d2 := r_d.cell (i := 2) rfl; have d3 := r_d.cell (i := 3) rfl; have d4 := r_d.cell (i := 4) rfl
 clear r_d
 have g0 := (R1.out.later HL1.out).cell (i := 0) rfl
 cases u with
 | false =>
   have HF : Hid (ub = false) := hide (by rw [<- HUB.out]; unfold fulfL; rw [HU.out]; rfl)
   go_wp2_with fail
   go_ret
   exact ⟨by rw [HF.out]; rfl, B0.out.trans HL1.out⟩
 | true =>
   have HP := hide (lpB_iff.1 HU.out)
   by_cases hlen : nx = n1
   ·have t1 : ((nx : Int) != (n1 : Int)) = false := by rw [hlen]; simp
    have HLEN : Hid (x.length = P.cost.length) := hide (by rw [<- HNX.out, <- L1.out]; exact hlen)
    have h24 := HP.out.n24
    have hnx24 : nx <= 24 := by have := L1.out; omega
    have hlo := HP.out.lo; have hhi := HP.out.hi; have hop := HP.out.opn
    clear hlen
    go_wp2_with fail
    clear d0 d1 d2 d3 d4 g0
    go_loopw [20] (fun i wr => ∃ j : Nat, j <= nx /\ i = .int .i64 (j : Int) /\ Hid (∀ i : Nat, i < j -> inB P x i = true) /\ Later W0 wr) (fun i _ => (nx - intOf i).toNat)
    case atStart => exact ⟨0, by omega, rfl, hide fun i hi => by omega, HL1.out⟩
    case round =>
     obtain ⟨j, hj, rfl, hpre, hL⟩ := hrel
     have HL := hide hL
     clear hL
     by_cases hjn : j < nx
     ·obtain ⟨xj, hxj⟩ : ∃ o, x[j]? = some o := ⟨x[j]'(by have := HNX.out; omega), List.getElem?_eq_getElem _⟩
      have hjc : j < P.cost.length := by have := L1.out; have := HLEN.out; have := HNX.out; omega
      obtain ⟨a3, ha3⟩ : ∃ o, P.lo[j]? = some o := ⟨P.lo[j]'(by omega), List.getElem?_eq_getElem _⟩
      obtain ⟨a4, ha4⟩ : ∃ o, P.hi[j]? = some o := ⟨P.hi[j]'(by omega), List.getElem?_eq_getElem _⟩
      obtain ⟨o, ho⟩ : ∃ o, P.opn[j]? = some o := ⟨P.opn[j]'(by omega), List.getElem?_eq_getElem _⟩
      obtain ⟨bX, offX, sx, Px, qx, ex, sx', Px', qx', ex', rfl, y1, y2, y3, y4, eX⟩ := (HX.out.later ERaw.later (B0.out.trans HL.out)).at_ hxj
      obtain ⟨b3, off3, s3, P3, q3, e3, s3', P3', q3', e3', rfl, z1, z2, z3, z4, eA3⟩ := (H.out.lo.later ERaw.later (B0.out.trans HL.out)).at_ ha3
      obtain ⟨b4, off4, s4, P4, q4, e4, s4', P4', q4', e4', rfl, p1, p2, p3, p4, eA4⟩ := (H.out.hi.later ERaw.later (B0.out.trans HL.out)).at_ ha4
      obtain ⟨b5, off5, rfl, z5⟩ := (H.out.opn.later (B0.out.trans HL.out)).at_ ho
      have HXJ0 : Hid (RawR wr (.agg #[.bool sx, .slice Px qx ex, .bool sx', .slice Px' qx' ex']) xj m) := hide eX
      have HIN0 : Hid (inB P x j = (decide (a3 <= xj) && (o || decide (xj <= a4)))) := hide (by
       unfold inB
       rw [List.getD_eq_getElem?_getD, ha3, List.getD_eq_getElem?_getD, hxj, List.getD_eq_getElem?_getD, ho, List.getD_eq_getElem?_getD, ha4]; rfl)
      have hj0 : (0 : Int) <= (j : Int) := by omega
      have hj1 : (j : Int) < nx := by omega
      have hj3 : (j : Int) < n3 := by have := L3.out; omega
      have hj4 : (j : Int) < n4 := by have := L4.out; omega
      have hj5 : (j : Int) < n5 := by have := L5.out; omega
      have hj2 : ((j : Int)).toNat = j := by omega
      obtain ⟨cz1, hc1⟩ : ∃ c, cmpQ xj a3 = c := ⟨_, rfl⟩
      obtain ⟨cz2, hc2⟩ : ∃ c, cmpQ xj a4 = c := ⟨_, rfl⟩
      obtain ⟨u1, hu1⟩ : ∃ b, decide (cz1 < 0) = b := ⟨_, rfl⟩
      obtain ⟨u2, hu2⟩ : ∃ b, decide (0 < cz2) = b := ⟨_, rfl⟩
      have HC1 := hide hc1; have HC2 := hide hc2
      have hq1 : decide (a3 <= xj) = !u1 := by
       rw [<- hu1, <- hc1]; unfold cmpQ
       by_cases h1 : xj < a3
       ·have h2 : ¬ a3 <= xj := by grind
        have h3 : xj <= a3 := by grind
        simp [h1, h2, h3]
       ·have h2 : a3 <= xj := by grind
        by_cases h4 : a3 < xj
        ·have h3 : ¬ xj <= a3 := by grind
         simp [h1, h2, h3, h4]
        ·have h3 : xj <= a3 := by grind
         simp [h1, h2, h3, h4]
      have hq2 : decide (xj <= a4) = !u2 := by
       rw [<- hu2, <- hc2]; unfold cmpQ
       by_cases h1 : a4 < xj
       ·have h2 : ¬ xj <= a4 := by grind
        have h3 : ¬ xj < a4 := by grind
        have h4 : a4 <= xj := by grind
        simp [h1, h2, h3, h4]
       ·have h2 : xj <= a4 := by grind
        by_cases h4 : xj < a4
        ·have h3 : ¬ a4 <= xj := by grind
         simp [h1, h2, h3, h4]
        ·have h3 : a4 <= xj := by grind
         simp [h1, h2, h3, h4]
      rw [hq1, hq2] at HIN0
      have HZC : Hid (wr.cell? ⟨b3, off3 + j * 4, none⟩ = some (.bool s3) /\ wr.cell? ⟨b3, off3 + j * 4 + 1, none⟩ = some (.slice P3 q3 e3) /\ wr.cell? ⟨b3, off3 + j * 4 + 2, none⟩ = some (.bool s3') /\ wr.cell? ⟨b3, off3 + j * 4 + 3, none⟩ = some (.slice P3' q3' e3') /\ wr.cell? ⟨b4, off4 + j * 4, none⟩ = some (.bool s4) /\ wr.cell? ⟨b4, off4 + j * 4 + 1, none⟩ = some (.slice P4 q4 e4) /\ wr.cell? ⟨b4, off4 + j * 4 + 2, none⟩ = some (.bool s4') /\ wr.cell? ⟨b4, off4 + j * 4 + 3, none⟩ = some (.slice P4' q4' e4') /\ wr.cell? ⟨b5, off5 + j, none⟩ = some (.bool o)) := hide ⟨z1, z2, z3, z4, p1, p2, p3, p4, z5⟩
      have HA30 : Hid (RawR wr (.agg #[.bool s3, .slice P3 q3 e3, .bool s3', .slice P3' q3' e3']) a3 k) := hide eA3
      have HA40 : Hid (RawR wr (.agg #[.bool s4, .slice P4 q4 e4, .bool s4', .slice P4' q4' e4']) a4 k) := hide eA4
      clear hxj ha3 ha4 ho eX eA3 eA4 z1 z2 z3 z4 p1 p2 p3 p4 z5 hc1 hc2 hq1 hq2
      have gv := (R1.out.later HL.out).cell (i := 0) rfl
      go_upto_region 6 with fail
      obtain ⟨wx, hwx⟩ : ∃ wx, wx = wr.alloc (Obj.cells #[Value.bool sx, Value.slice Px qx ex, Value.bool sx', Value.slice Px' qx' ex'] 36) := ⟨_, rfl⟩
      obtain ⟨gx, hgx⟩ : ∃ gx, gx = wr.heap.size := ⟨_, rfl⟩
      have bwx : Later wr wx := by rw [hwx]; exact (Later.refl _).alloc _
      have rgx : Row wx gx 36 [.bool sx, .slice Px qx ex, .bool sx', .slice Px' qx' ex'] := by rw [hwx, hgx]; exact Row.new _ _ _
      rw [<- hwx, <- hgx]
      have HLx := hide bwx; have RX := hide rgx
      clear hwx hgx bwx rgx y1 y2 y3 y4 gv
      have HXJ : Hid (∀ W, Later wx W -> RawR W (.agg #[.bool sx, .slice Px qx ex, .bool sx', .slice Px' qx' ex']) xj m) := hide fun W hW => RawR.later HXJ0.out (HLx.out.trans hW)
      have HA3 : Hid (∀ W, Later wx W -> RawR W (.agg #[.bool s3, .slice P3 q3 e3, .bool s3', .slice P3' q3' e3']) a3 k) := hide fun W hW => RawR.later HA30.out (HLx.out.trans hW)
      have HA4 : Hid (∀ W, Later wx W -> RawR W (.agg #[.bool s4, .slice P4 q4 e4, .bool s4', .slice P4' q4' e4']) a4 k) := hide fun W hW => RawR.later HA40.out (HLx.out.trans hW)
      have HT1 : Hid (∀ w', Later wx w' -> w'.cell? ⟨gx, 0, none⟩ = some (.bool sx) /\ w'.cell? ⟨gx, 1, none⟩ = some (.slice Px qx ex) /\ w'.cell? ⟨gx, 2, none⟩ = some (.bool sx') /\ w'.cell? ⟨gx, 3, none⟩ = some (.slice Px' qx' ex') /\ w'.cell? ⟨w.heap.size, 2, none⟩ = some (.slice (some ⟨b3, off3, none⟩) n3 c3) /\ w'.cell? ⟨w.heap.size, 3, none⟩ = some (.slice (some ⟨b4, off4, none⟩) n4 c4) /\ w'.cell? ⟨w.heap.size, 4, none⟩ = some (.slice (some ⟨b5, off5, none⟩) n5 c5) /\ w'.cell? ⟨b3, off3 + j * 4, none⟩ = some (.bool s3) /\ w'.cell? ⟨b3, off3 + j * 4 + 1, none⟩ = some (.slice P3 q3 e3) /\ w'.cell? ⟨b3, off3 + j * 4 + 2, none⟩ = some (.bool s3') /\ w'.cell? ⟨b3, off3 + j * 4 + 3, none⟩ = some (.slice P3' q3' e3') /\ w'.cell? ⟨b4, off4 + j * 4, none⟩ = some (.bool s4) /\ w'.cell? ⟨b4, off4 + j * 4 + 1, none⟩ = some (.slice P4 q4 e4) /\ w'.cell? ⟨b4, off4 + j * 4 + 2, none⟩ = some (.bool s4') /\ w'.cell? ⟨b4, off4 + j * 4 + 3, none⟩ = some (.slice P4' q4' e4') /\ w'.cell? ⟨b5, off5 + j, none⟩ = some (.bool o)) := hide fun w' hb => by
       have h1 := RX.out.later hb; have h2 := R0.out.later (HL.out.trans (HLx.out.trans hb))
       have hb2 := HLx.out.trans hb
       obtain ⟨z1, z2, z3, z4, p1, p2, p3, p4, z5⟩ := HZC.out
       exact ⟨h1.cell rfl, h1.cell rfl, h1.cell rfl, h1.cell rfl, h2.cell rfl, h2.cell rfl, h2.cell rfl, Later.cell hb2 z1, Later.cell hb2 z2, Later.cell hb2 z3, Later.cell hb2 z4, Later.cell hb2 p1, Later.cell hb2 p2, Later.cell hb2 p3, Later.cell hb2 p4, Later.cell hb2 z5⟩
      have hmx : Tryz.prog.follows .mixedOrders = true := by kernel_rfl
      cases u1 with
      | true =>
        have HIN : Hid (inB P x j = false) := hide (by rw [HIN0.out]; rfl)
        refine wp_region_N (fun w' => w'.cell? ⟨gx, 0, none⟩ = some (.bool sx) /\ w'.cell? ⟨gx, 1, none⟩ = some (.slice Px qx ex) /\ w'.cell? ⟨gx, 2, none⟩ = some (.bool sx') /\ w'.cell? ⟨gx, 3, none⟩ = some (.slice Px' qx' ex') /\ w'.cell? ⟨w.heap.size, 2, none⟩ = some (.slice (some ⟨b3, off3, none⟩) n3 c3) /\ w'.cell? ⟨w.heap.size, 3, none⟩ = some (.slice (some ⟨b4, off4, none⟩) n4 c4) /\ w'.cell? ⟨w.heap.size, 4, none⟩ = some (.slice (some ⟨b5, off5, none⟩) n5 c5) /\ w'.cell? ⟨b3, off3 + j * 4, none⟩ = some (.bool s3) /\ w'.cell? ⟨b3, off3 + j * 4 + 1, none⟩ = some (.slice P3 q3 e3) /\ w'.cell? ⟨b3, off3 + j * 4 + 2, none⟩ = some (.bool s3') /\ w'.cell? ⟨b3, off3 + j * 4 + 3, none⟩ = some (.slice P3' q3' e3') /\ w'.cell? ⟨b4, off4 + j * 4, none⟩ = some (.bool s4) /\ w'.cell? ⟨b4, off4 + j * 4 + 1, none⟩ = some (.slice P4 q4 e4) /\ w'.cell? ⟨b4, off4 + j * 4 + 2, none⟩ = some (.bool s4') /\ w'.cell? ⟨b4, off4 + j * 4 + 3, none⟩ = some (.slice P4' q4' e4') /\ w'.cell? ⟨b5, off5 + j, none⟩ = some (.bool o)) [] hmx (HT1.out _ lt_) (fun hHeld => ?_)
        refine tkB 25 0 ?_
        refine tkB 26 1 ?_
        refine tkB 27 2 ?_
        refine tkB 28 3 ?_
        refine tkB 29 4 ?_
        refine tkB 30 5 ?_
        refine wpAnyN_ready (rs := [6]) (by kernel_rfl) (by simp) ?_
        refine AllReadyN.held rfl (by rfl) (fun K hK => ?_) AllReadyN.nil
        go_simp
        refine (rcmp_calls _ _ _ xj a3 m k (HXJ.out _ lt_) (HA3.out _ lt_) (by omega)).mono ?_
        rintro e w6 ⟨rfl, b6⟩
        rw [HC1.out]
        have l6 : Later wx w6 := Later.trans lt_ b6
        clear b6
        refine hK.out _ _ ?_ (fun hHeld => ?_)
        ·exact HT1.out _ lt_
        clear hK K
        try simp only [Act.put, s1_, s2_, s3_]
        refine tkB 32 7 ?_
        refine tkB 33 8 ?_
        refine tkU 34 9 ?_
        try simp only [Act.put, s1_, s2_, s3_]
        refine tkU 35 10 ?_
        try simp only [Act.put, s1_, s2_, s3_]
        refine tkU 36 11 ?_
        try simp only [Act.put, s1_, s2_, s3_]
        refine tkU 37 12 ?_
        try simp only [Act.put, s1_, s2_, s3_]
        refine tkU 38 13 ?_
        try simp only [Act.put, s1_, s2_, s3_]
        refine tkU 39 14 ?_
        try simp only [Act.put, s1_, s2_, s3_]
        refine tkU 40 15 ?_
        try simp only [Act.put, s1_, s2_, s3_]
        refine tkU 41 16 ?_
        try simp only [Act.put, s1_, s2_, s3_]
        refine tkU 42 17 ?_
        try simp only [Act.put, s1_, s2_, s3_]
        refine tkU 43 18 ?_
        try simp only [Act.put, s1_, s2_, s3_]
        refine tkU 44 19 ?_
        try simp only [Act.put, s1_, s2_, s3_]
        refine tkU 45 20 ?_
        try simp only [Act.put, s1_, s2_, s3_]
        refine tkU 46 21 ?_
        try simp only [Act.put, s1_, s2_, s3_]
        refine tkU 47 22 ?_
        try simp only [Act.put, s1_, s2_, s3_]
        refine tkU 48 23 ?_
        try simp only [Act.put, s1_, s2_, s3_]
        refine tkU 49 24 ?_
        try simp only [Act.put, s1_, s2_, s3_]
        refine tkB 50 25 ?_
        refine wpAnyN_done (by kernel_rfl) ?_ _
        clear hHeld
        have HLX := hide (HL.out.trans (HLx.out.trans (show Later wx w6 from lt_)))
        have HF : Hid (ub = false) := hide (by
         rw [<- HUB.out]; unfold fulfL
         rw [show (List.range P.cost.length).all (inB P x) = false from List.all_eq_false.2 ⟨j, List.mem_range.2 hjc, by rw [HIN.out]; decide⟩]
         simp)
        go_wp2_with fail
        go_ret
        exact ⟨by rw [HF.out]; rfl, B0.out.trans HLX.out⟩
      | false =>
        cases o with
        | true =>
          have HIN : Hid (inB P x j = true) := hide (by rw [HIN0.out]; rfl)
          refine wp_region_N (fun w' => w'.cell? ⟨gx, 0, none⟩ = some (.bool sx) /\ w'.cell? ⟨gx, 1, none⟩ = some (.slice Px qx ex) /\ w'.cell? ⟨gx, 2, none⟩ = some (.bool sx') /\ w'.cell? ⟨gx, 3, none⟩ = some (.slice Px' qx' ex') /\ w'.cell? ⟨w.heap.size, 2, none⟩ = some (.slice (some ⟨b3, off3, none⟩) n3 c3) /\ w'.cell? ⟨w.heap.size, 3, none⟩ = some (.slice (some ⟨b4, off4, none⟩) n4 c4) /\ w'.cell? ⟨w.heap.size, 4, none⟩ = some (.slice (some ⟨b5, off5, none⟩) n5 c5) /\ w'.cell? ⟨b3, off3 + j * 4, none⟩ = some (.bool s3) /\ w'.cell? ⟨b3, off3 + j * 4 + 1, none⟩ = some (.slice P3 q3 e3) /\ w'.cell? ⟨b3, off3 + j * 4 + 2, none⟩ = some (.bool s3') /\ w'.cell? ⟨b3, off3 + j * 4 + 3, none⟩ = some (.slice P3' q3' e3') /\ w'.cell? ⟨b4, off4 + j * 4, none⟩ = some (.bool s4) /\ w'.cell? ⟨b4, off4 + j * 4 + 1, none⟩ = some (.slice P4 q4 e4) /\ w'.cell? ⟨b4, off4 + j * 4 + 2, none⟩ = some (.bool s4') /\ w'.cell? ⟨b4, off4 + j * 4 + 3, none⟩ = some (.slice P4' q4' e4') /\ w'.cell? ⟨b5, off5 + j, none⟩ = some (.bool true)) [] hmx (HT1.out _ lt_) (fun hHeld => ?_)
          refine tkB 25 0 ?_
          refine tkB 26 1 ?_
          refine tkB 27 2 ?_
          refine tkB 28 3 ?_
          refine tkB 29 4 ?_
          refine tkB 30 5 ?_
          refine wpAnyN_ready (rs := [6]) (by kernel_rfl) (by simp) ?_
          refine AllReadyN.held rfl (by rfl) (fun K hK => ?_) AllReadyN.nil
          go_simp
          refine (rcmp_calls _ _ _ xj a3 m k (HXJ.out _ lt_) (HA3.out _ lt_) (by omega)).mono ?_
          rintro e w6 ⟨rfl, b6⟩
          rw [HC1.out]
          have l6 : Later wx w6 := Later.trans lt_ b6
          clear b6
          refine hK.out _ _ ?_ (fun hHeld => ?_)
          ·exact HT1.out _ lt_
          clear hK K
          try simp only [Act.put, s1_, s2_, s3_]
          refine tkB 32 7 ?_
          refine tkB 33 8 ?_
          refine tkB 34 9 ?_
          refine tkB 35 10 ?_
          refine tkB 36 11 ?_
          refine tkB 37 12 ?_
          refine tkB 38 13 ?_
          refine tkB 39 14 ?_
          refine tkB 40 15 ?_
          refine tkU 41 16 ?_
          try simp only [Act.put, s1_, s2_, s3_]
          refine tkU 42 17 ?_
          try simp only [Act.put, s1_, s2_, s3_]
          refine tkU 43 18 ?_
          try simp only [Act.put, s1_, s2_, s3_]
          refine tkU 44 19 ?_
          try simp only [Act.put, s1_, s2_, s3_]
          refine tkU 45 20 ?_
          try simp only [Act.put, s1_, s2_, s3_]
          refine tkU 46 21 ?_
          try simp only [Act.put, s1_, s2_, s3_]
          refine tkU 47 22 ?_
          try simp only [Act.put, s1_, s2_, s3_]
          refine tkU 48 23 ?_
          try simp only [Act.put, s1_, s2_, s3_]
          refine tkB 49 24 ?_
          refine tkB 50 25 ?_
          refine wpAnyN_done (by kernel_rfl) ?_ _
          clear hHeld
          have HLX := hide (HL.out.trans (HLx.out.trans (show Later wx w6 from lt_)))
          have HNX : Hid (∀ i : Nat, i < j + 1 -> inB P x i = true) := hide fun i hi => by
           by_cases hij : i < j
           ·exact hpre.out i hij
           ·obtain rfl : i = j := by omega
            exact HIN.out
          go_wp2_with fail
          exact ⟨⟨j+1, by omega, by go_num, HNX.out, HLX.out⟩, by simp [intOf]; omega⟩
        | false =>
          cases u2 with
          | true =>
            have HIN : Hid (inB P x j = false) := hide (by rw [HIN0.out]; rfl)
            refine wp_region_N (fun w' => w'.cell? ⟨gx, 0, none⟩ = some (.bool sx) /\ w'.cell? ⟨gx, 1, none⟩ = some (.slice Px qx ex) /\ w'.cell? ⟨gx, 2, none⟩ = some (.bool sx') /\ w'.cell? ⟨gx, 3, none⟩ = some (.slice Px' qx' ex') /\ w'.cell? ⟨w.heap.size, 2, none⟩ = some (.slice (some ⟨b3, off3, none⟩) n3 c3) /\ w'.cell? ⟨w.heap.size, 3, none⟩ = some (.slice (some ⟨b4, off4, none⟩) n4 c4) /\ w'.cell? ⟨w.heap.size, 4, none⟩ = some (.slice (some ⟨b5, off5, none⟩) n5 c5) /\ w'.cell? ⟨b3, off3 + j * 4, none⟩ = some (.bool s3) /\ w'.cell? ⟨b3, off3 + j * 4 + 1, none⟩ = some (.slice P3 q3 e3) /\ w'.cell? ⟨b3, off3 + j * 4 + 2, none⟩ = some (.bool s3') /\ w'.cell? ⟨b3, off3 + j * 4 + 3, none⟩ = some (.slice P3' q3' e3') /\ w'.cell? ⟨b4, off4 + j * 4, none⟩ = some (.bool s4) /\ w'.cell? ⟨b4, off4 + j * 4 + 1, none⟩ = some (.slice P4 q4 e4) /\ w'.cell? ⟨b4, off4 + j * 4 + 2, none⟩ = some (.bool s4') /\ w'.cell? ⟨b4, off4 + j * 4 + 3, none⟩ = some (.slice P4' q4' e4') /\ w'.cell? ⟨b5, off5 + j, none⟩ = some (.bool false)) [] hmx (HT1.out _ lt_) (fun hHeld => ?_)
            refine tkB 25 0 ?_
            refine tkB 26 1 ?_
            refine tkB 27 2 ?_
            refine tkB 28 3 ?_
            refine tkB 29 4 ?_
            refine tkB 30 5 ?_
            refine wpAnyN_ready (rs := [6]) (by kernel_rfl) (by simp) ?_
            refine AllReadyN.held rfl (by rfl) (fun K hK => ?_) AllReadyN.nil
            go_simp
            refine (rcmp_calls _ _ _ xj a3 m k (HXJ.out _ lt_) (HA3.out _ lt_) (by omega)).mono ?_
            rintro e w6 ⟨rfl, b6⟩
            rw [HC1.out]
            have l6 : Later wx w6 := Later.trans lt_ b6
            clear b6
            refine hK.out _ _ ?_ (fun hHeld => ?_)
            ·exact HT1.out _ lt_
            clear hK K
            try simp only [Act.put, s1_, s2_, s3_]
            refine tkB 32 7 ?_
            refine tkB 33 8 ?_
            refine tkB 34 9 ?_
            refine tkB 35 10 ?_
            refine tkB 36 11 ?_
            refine tkB 37 12 ?_
            refine tkB 38 13 ?_
            refine tkB 39 14 ?_
            refine tkB 40 15 ?_
            refine tkB 41 16 ?_
            refine tkB 42 17 ?_
            refine tkB 43 18 ?_
            refine tkB 44 19 ?_
            refine tkB 45 20 ?_
            refine tkB 46 21 ?_
            refine wpAnyN_ready (rs := [22]) (by kernel_rfl) (by simp) ?_
            refine AllReadyN.held rfl (by rfl) (fun K hK => ?_) AllReadyN.nil
            go_simp
            refine (rcmp_calls _ _ _ xj a4 m k (HXJ.out _ lt_) (HA4.out _ lt_) (by omega)).mono ?_
            rintro e w7 ⟨rfl, b7⟩
            rw [HC2.out]
            have l7 : Later wx w7 := Later.trans lt_ b7
            clear b7
            refine hK.out _ _ ?_ (fun hHeld => ?_)
            ·exact HT1.out _ lt_
            clear hK K
            try simp only [Act.put, s1_, s2_, s3_]
            refine tkB 48 23 ?_
            refine tkB 49 24 ?_
            refine tkB 50 25 ?_
            refine wpAnyN_done (by kernel_rfl) ?_ _
            clear hHeld
            have HLX := hide (HL.out.trans (HLx.out.trans (show Later wx w7 from lt_)))
            have HF : Hid (ub = false) := hide (by
             rw [<- HUB.out]; unfold fulfL
             rw [show (List.range P.cost.length).all (inB P x) = false from List.all_eq_false.2 ⟨j, List.mem_range.2 hjc, by rw [HIN.out]; decide⟩]
             simp)
            go_wp2_with fail
            go_ret
            exact ⟨by rw [HF.out]; rfl, B0.out.trans HLX.out⟩
          | false =>
            have HIN : Hid (inB P x j = true) := hide (by rw [HIN0.out]; rfl)
            refine wp_region_N (fun w' => w'.cell? ⟨gx, 0, none⟩ = some (.bool sx) /\ w'.cell? ⟨gx, 1, none⟩ = some (.slice Px qx ex) /\ w'.cell? ⟨gx, 2, none⟩ = some (.bool sx') /\ w'.cell? ⟨gx, 3, none⟩ = some (.slice Px' qx' ex') /\ w'.cell? ⟨w.heap.size, 2, none⟩ = some (.slice (some ⟨b3, off3, none⟩) n3 c3) /\ w'.cell? ⟨w.heap.size, 3, none⟩ = some (.slice (some ⟨b4, off4, none⟩) n4 c4) /\ w'.cell? ⟨w.heap.size, 4, none⟩ = some (.slice (some ⟨b5, off5, none⟩) n5 c5) /\ w'.cell? ⟨b3, off3 + j * 4, none⟩ = some (.bool s3) /\ w'.cell? ⟨b3, off3 + j * 4 + 1, none⟩ = some (.slice P3 q3 e3) /\ w'.cell? ⟨b3, off3 + j * 4 + 2, none⟩ = some (.bool s3') /\ w'.cell? ⟨b3, off3 + j * 4 + 3, none⟩ = some (.slice P3' q3' e3') /\ w'.cell? ⟨b4, off4 + j * 4, none⟩ = some (.bool s4) /\ w'.cell? ⟨b4, off4 + j * 4 + 1, none⟩ = some (.slice P4 q4 e4) /\ w'.cell? ⟨b4, off4 + j * 4 + 2, none⟩ = some (.bool s4') /\ w'.cell? ⟨b4, off4 + j * 4 + 3, none⟩ = some (.slice P4' q4' e4') /\ w'.cell? ⟨b5, off5 + j, none⟩ = some (.bool false)) [] hmx (HT1.out _ lt_) (fun hHeld => ?_)
            refine tkB 25 0 ?_
            refine tkB 26 1 ?_
            refine tkB 27 2 ?_
            refine tkB 28 3 ?_
            refine tkB 29 4 ?_
            refine tkB 30 5 ?_
            refine wpAnyN_ready (rs := [6]) (by kernel_rfl) (by simp) ?_
            refine AllReadyN.held rfl (by rfl) (fun K hK => ?_) AllReadyN.nil
            go_simp
            refine (rcmp_calls _ _ _ xj a3 m k (HXJ.out _ lt_) (HA3.out _ lt_) (by omega)).mono ?_
            rintro e w6 ⟨rfl, b6⟩
            rw [HC1.out]
            have l6 : Later wx w6 := Later.trans lt_ b6
            clear b6
            refine hK.out _ _ ?_ (fun hHeld => ?_)
            ·exact HT1.out _ lt_
            clear hK K
            try simp only [Act.put, s1_, s2_, s3_]
            refine tkB 32 7 ?_
            refine tkB 33 8 ?_
            refine tkB 34 9 ?_
            refine tkB 35 10 ?_
            refine tkB 36 11 ?_
            refine tkB 37 12 ?_
            refine tkB 38 13 ?_
            refine tkB 39 14 ?_
            refine tkB 40 15 ?_
            refine tkB 41 16 ?_
            refine tkB 42 17 ?_
            refine tkB 43 18 ?_
            refine tkB 44 19 ?_
            refine tkB 45 20 ?_
            refine tkB 46 21 ?_
            refine wpAnyN_ready (rs := [22]) (by kernel_rfl) (by simp) ?_
            refine AllReadyN.held rfl (by rfl) (fun K hK => ?_) AllReadyN.nil
            go_simp
            refine (rcmp_calls _ _ _ xj a4 m k (HXJ.out _ lt_) (HA4.out _ lt_) (by omega)).mono ?_
            rintro e w7 ⟨rfl, b7⟩
            rw [HC2.out]
            have l7 : Later wx w7 := Later.trans lt_ b7
            clear b7
            refine hK.out _ _ ?_ (fun hHeld => ?_)
            ·exact HT1.out _ lt_
            clear hK K
            try simp only [Act.put, s1_, s2_, s3_]
            refine tkB 48 23 ?_
            refine tkB 49 24 ?_
            refine tkB 50 25 ?_
            refine wpAnyN_done (by kernel_rfl) ?_ _
            clear hHeld
            have HLX := hide (HL.out.trans (HLx.out.trans (show Later wx w7 from lt_)))
            have HNX : Hid (∀ i : Nat, i < j + 1 -> inB P x i = true) := hide fun i hi => by
             by_cases hij : i < j
             ·exact hpre.out i hij
             ·obtain rfl : i = j := by omega
              exact HIN.out
            go_wp2_with fail
            exact ⟨⟨j+1, by omega, by go_num, HNX.out, HLX.out⟩, by simp [intOf]; omega⟩
     ·have HALL : Hid ((List.range P.cost.length).all (inB P x) = true) := hide (List.all_eq_true.2 fun i hi => hpre.out i (by have := List.mem_range.1 hi; have := HLEN.out; have := HNX.out; omega))
      obtain ⟨ur, hur⟩ : ∃ b, P.rows.any (fun r => !rowHolds r x) = b := ⟨_, rfl⟩
      have HFU : Hid (ub = !ur) := hide (by
       rw [<- HUB.out, <- hur]; unfold fulfL
       rw [HU.out, HALL.out, decide_eq_true HLEN.out, Bool.true_and, Bool.true_and, Bool.true_and]
       induction P.rows with
       | nil => rfl
       | cons r rs ih => rw [List.all_cons, List.any_cons, ih, Bool.not_or, Bool.not_not])
      have HUR := hide hur
      have hj1 : ¬ (j : Int) < nx := by omega
      clear hur
      have r_d := R0.out.later HL.out
      have d0 := r_d.cell (i := 0) rfl; have d1 := r_d.cell (i := 1) rfl; have d2 := r_d.cell (i := 2) rfl; have d3 := r_d.cell (i := 3) rfl; have d4 := r_d.cell (i := 4) rfl
      clear r_d
      go_wp2_with fail
      refine (contW1_calls _ _ P.rows (H.out.rows.later ERow.later (B0.out.trans HL.out)) (by have := H.out.rl; omega) _ ⟨fun _ _ => by kernel_rfl⟩ (w.heap.size + 1) (fun r => !rowHolds r x) (fun W r y hW he hm2 => pful1_calls W r y k he hkk (w.heap.size + 1) _ _ _ x m (HX.out.later ERaw.later (B0.out.trans (HL.out.trans hW))) (R1.out.later (HL.out.trans hW)) hm (by rw [HLEN.out]; exact (HP.out.rows y hm2).1) (HP.out.rows y hm2).2.1 _ rfl) ur HUR.out).mono ?_
      rintro e w9 ⟨rfl, b9⟩
      have HL9 := hide (HL.out.trans b9)
      clear b9 d0 d1 d2 d3 d4
      go_wp2_with fail
      go_ret
      exact ⟨by rw [HFU.out]; rfl, B0.out.trans HL9.out⟩
   ·have t1 : ((nx : Int) != (n1 : Int)) = true := by rw [bne_iff_ne]; omega
    have HF : Hid (ub = false) := hide (by rw [<- HUB.out]; unfold fulfL; rw [HU.out, decide_eq_false (by rw [<- HNX.out, <- L1.out]; exact hlen)]; rfl)
    go_wp2_with fail
    go_ret
    exact ⟨by rw [HF.out]; rfl, B0.out.trans HL1.out⟩
end Go.Proofs.YtfokplidiboabaaGreat
namespace Go.Proofs.YtfokplidiboabaaGreat
open Go.RowKit Go.Shelf
attribute [local go_sem ↓] Go.wp_at_zero Go.wp_at_succ
set_option maxHeartbeats 1000000 in
theorem of11_calls (w : World) (n : Int) (h1 : -9223372036854775808 <= n) (h2 : n < 9223372036854775808) (q : Rat) (hq : Rat.divInt n 1 = q) :
 Calls Tryz.prog 35 #[.int .i64 n] w (Ret w fun w' v => OwnR w' w.heap.size v q) := by
 obtain ⟨W0, hW0⟩ : ∃ W0, W0 = w.alloc (Obj.cells #[Value.bool false, Value.slice none 0 0, Value.bool false, Value.slice none 0 0] 36) := ⟨_, rfl⟩
 obtain ⟨hb0, r1, hsz0⟩ := boxes1 w [.bool false, .slice none 0 0, .bool false, .slice none 0 0] 36 hW0
 have R1 := hide r1; have B0' := hide hb0; have HW0 := hide hW0
 clear r1 hb0 hW0
 go_enter Tryz.func35, Tryz.ntmps35
 go_wp2_with fail
 rw [<- HW0.out]
 refine (lawof_calls _ n h1 h2 q hq).mono ?_
 rintro e w1 ⟨v1, rfl, o1, b1⟩
 obtain ⟨s1, P1, q1, e1, P1', q1', e1', rfl, o1⟩ := o1.open_; have O1 := hide o1; clear o1
 have HR := hide (R1.out.later b1)
 have hL := hide (B0'.out.trans b1)
 have hs1 := b1.size
 have hs : w.heap.size < W0.heap.size := R1.out.lt
 obtain ⟨d1, d2, d3, d4, d5, d6, d7, d8⟩ := row_cells4 HR.out
 go_wp2_with fail
 refine bodyPost_ret (results_rat rfl rfl (HR.out.four _ _ _ _)) rfl ?_
 have oo := Only.four w.heap.size w1 (.bool s1) (.slice P1 q1 e1) (.bool false) (.slice P1' q1' e1')
 exact ⟨_, rfl, (O1.out.only oo (by omega)).weaken (by omega), hL.out.only oo (Nat.le_refl _)⟩
theorem std_ownk {w : World} {vA vB vC : Value} {A : List (List Rat)} {B C : List Rat} {k : Nat} (hk : k <= 1000) (ha : Tab EOwn w vA A) (hb : Rats EOwn w vB B) (hc : Rats EOwn w vC C)
 (s1 : ∀ r ∈ A, ∀ q ∈ r, Sized q k) (s2 : ∀ q ∈ B, Sized q k) (s3 : ∀ q ∈ C, Sized q k) (l1 : A.length <= 1000) (l2 : ∀ r ∈ A, r.length <= 1000) (l3 : B.length <= 1000) (l4 : C.length <= 1000) : StdIn w vA vB vC k A B C true := by
 refine ⟨_, _, _, ha.map (fun row hr v q hq he => OwnR.raw (B := 0) he (s1 row hr q hq)), hb.map (fun v q hq he => OwnR.raw (B := 0) he (s2 q hq)), hc.map (fun v q hq he => OwnR.raw (B := 0) he (s3 q hq)), tab_own_flags ha (fun r hr q hq => (s1 r hr q hq).mono (by omega)), rats_own_flags hb (fun q hq => (s2 q hq).mono (by omega)), rats_own_flags hc (fun q hq => (s3 q hq).mono (by omega)), ?_, by omega, l2, ?_, l1, l3, l4⟩
 ·rw [allF_ones, allF_ones]
  have : allFF (A.map fun r => List.replicate r.length 1) = true := by
   unfold allFF
   rw [List.all_eq_true]
   intro r hr
   obtain ⟨q, -, rfl⟩ := List.mem_map.1 hr
   exact allF_ones _
  rw [this]; rfl
 ·intro r hr
  obtain ⟨q, hq, rfl⟩ := List.mem_map.1 hr
  rw [List.length_replicate]; exact l2 q hq
structure StdS (w : World) (vA vB vC : Value) (A : List (List Rat)) (B C : List Rat) : Prop where
 a : Tab EOwn w vA A
 b : Rats EOwn w vB B
 c : Rats EOwn w vC C
 sa : ∀ r ∈ A, ∀ q ∈ r, Sized q 1000000
 sb : ∀ q ∈ B, Sized q 1000000
 sc : ∀ q ∈ C, Sized q 1000000
 la : A.length <= 1000
 lr : ∀ r ∈ A, r.length <= 1000
 lb : B.length <= 1000
 lc : C.length <= 1000
theorem StdS.later {w w' : World} {vA vB vC : Value} {A : List (List Rat)} {B C : List Rat} (h : StdS w vA vB vC A B C) (hb : Later w w') : StdS w' vA vB vC A B C := { h with a := h.a.later EOwn.later hb, b := h.b.later EOwn.later hb, c := h.c.later EOwn.later hb }
set_option maxHeartbeats 4000000 in
theorem ssame_calls (w : World) (vA vB vC uA uB uC : Value) (A A' : List (List Rat)) (B C B' C' : List Rat) (h : StdS w vA vB vC A B C) (h' : StdS w uA uB uC A' B' C') (t : Bool) (ht : (decide (A = A') && (decide (B = B') && decide (C = C'))) = t) :
 Calls Tryz.prog 19 #[.agg #[vA, vB, vC], .agg #[uA, uB, uC]] w (RetV w (.bool t)) := by
 have H := hide h; have H' := hide h'; have HT := hide ht
 obtain ⟨A1, n1, c1, rfl, -⟩ := h.a.form
 obtain ⟨A2, n2, c2, rfl, -⟩ := h.b.form
 obtain ⟨A3, n3, c3, rfl, -⟩ := h.c.form
 obtain ⟨A4, n4, c4, rfl, -⟩ := h'.a.form
 obtain ⟨A5, n5, c5, rfl, -⟩ := h'.b.form
 obtain ⟨A6, n6, c6, rfl, -⟩ := h'.c.form
 clear h h' ht
 obtain ⟨W0, hW0⟩ : ∃ W0, W0 = ((w.alloc (Obj.cells #[Value.slice A1 n1 c1, Value.slice A2 n2 c2, Value.slice A3 n3 c3] 31)).alloc (Obj.cells #[Value.slice A4 n4 c4, Value.slice A5 n5 c5, Value.slice A6 n6 c6] 31)) := ⟨_, rfl⟩
 obtain ⟨hb0, r0, r1, hsz0⟩ := boxes2 w [.slice A1 n1 c1, .slice A2 n2 c2, .slice A3 n3 c3] [.slice A4 n4 c4, .slice A5 n5 c5, .slice A6 n6 c6] 31 31 hW0
 have B0 := hide hb0; have HW0 := hide hW0; have HSZ0 := hide hsz0
 have R0 := hide r0; have R1 := hide r1
 clear hb0 hW0 hsz0 r0 r1
 go_enter Tryz.func19, Tryz.ntmps19
 go_upto_region 1 with fail
 rw [<- HW0.out]
 have r_d := R0.out.later (Later.refl W0)
 have d0 := r_d.cell (i := 0) rfl; have d1 := r_d.cell (i := 1) rfl; have d2 := r_d.cell (i := 2) rfl
 clear r_d
 have r_f := R1.out.later (Later.refl W0)
 have f0 := r_f.cell (i := 0) rfl; have f1 := r_f.cell (i := 1) rfl; have f2 := r_f.cell (i := 2) rfl
 clear r_f
 go_wp2_with fail
 obtain ⟨t1, ht1⟩ : ∃ t, decide (A = A') = t := ⟨_, rfl⟩
 obtain ⟨t2, ht2⟩ : ∃ t, decide (B = B') = t := ⟨_, rfl⟩
 obtain ⟨t3, ht3⟩ : ∃ t, decide (C = C') = t := ⟨_, rfl⟩
 have HT1 := hide ht1; have HT2 := hide ht2; have HT3 := hide ht3
 have HT : Hid ((t1 && (t2 && t3)) = t) := hide (by rw [<- ht1, <- ht2, <- ht3]; exact HT.out)
 clear ht1 ht2 ht3
 have G := hide (H.out.later B0.out); have G' := hide (H'.out.later B0.out)
 refine (tsame_calls _ _ _ A A' 1000000 1000000 G.out.a G'.out.a G.out.sa G'.out.sa (by omega) (by omega) (by have := G.out.la; omega) (fun r hr => by have := G.out.lr r hr; omega) t1 HT1.out).mono ?_
 rintro e w1 ⟨rfl, b1⟩
 have HL1 := hide b1
 clear b1 d0 d1 d2 f0 f1 f2
 have r_d := R0.out.later HL1.out
 have d0 := r_d.cell (i := 0) rfl; have d1 := r_d.cell (i := 1) rfl; have d2 := r_d.cell (i := 2) rfl
 clear r_d
 have r_f := R1.out.later HL1.out
 have f0 := r_f.cell (i := 0) rfl; have f1 := r_f.cell (i := 1) rfl; have f2 := r_f.cell (i := 2) rfl
 clear r_f
 cases t1 with
 | false =>
   go_wp2_with fail
   go_ret
   exact ⟨by rw [<- HT.out]; rfl, B0.out.trans HL1.out⟩
 | true =>
   go_wp2_with fail
   refine (lsame_calls _ _ _ B B' 1000000 1000000 (G.out.later HL1.out).b (G'.out.later HL1.out).b G.out.sb G'.out.sb (by omega) (by omega) (by have := G.out.lb; omega) t2 HT2.out).mono ?_
   rintro e w2 ⟨rfl, b2⟩
   have HL2 := hide (HL1.out.trans b2)
   clear b2 d0 d1 d2 f0 f1 f2
   have r_d := R0.out.later HL2.out
   have d0 := r_d.cell (i := 0) rfl; have d1 := r_d.cell (i := 1) rfl; have d2 := r_d.cell (i := 2) rfl
   clear r_d
   have r_f := R1.out.later HL2.out
   have f0 := r_f.cell (i := 0) rfl; have f1 := r_f.cell (i := 1) rfl; have f2 := r_f.cell (i := 2) rfl
   clear r_f
   cases t2 with
   | false =>
     go_wp2_with fail
     go_ret
     exact ⟨by rw [<- HT.out]; rfl, B0.out.trans HL2.out⟩
   | true =>
     go_wp2_with fail
     refine (lsame_calls _ _ _ C C' 1000000 1000000 (G.out.later HL2.out).c (G'.out.later HL2.out).c G.out.sc G'.out.sc (by omega) (by omega) (by have := G.out.lc; omega) t3 HT3.out).mono ?_
     rintro e w3 ⟨rfl, b3⟩
     have HL3 := hide (HL2.out.trans b3)
     clear b3 d0 d1 d2 f0 f1 f2
     go_wp2_with fail
     go_ret
     exact ⟨by rw [<- HT.out]; rfl, B0.out.trans HL3.out⟩
def RowSmall (most : Nat) : RowE := fun w r x => x.coef.length <= most /\ Rats (ERaw 1) w r.coef x.coef /\ RawR w r.e.val x.rhs 1 /\ IFit_ x.sense
theorem RowSmall.later {most : Nat} (w w' : World) (r : WCells) (x : PRow) (h : RowSmall most w r x) (hb : Later w w') : RowSmall most w' r x := ⟨h.1, h.2.1.later ERaw.later hb, RawR.later h.2.2.1 hb, h.2.2.2⟩
theorem LRows.snoc_read {E : RowE} {w : World} {A : Option Addr} {n c j b off : Nat} {l : List PRow} {x : PRow} {r : WCells} (h : LRows E w (.slice A j c) (l.take j)) (hx : l[j]? = some x) (hn : l.length = n) (hc : n <= c) (hA : A = some ⟨b, off, none⟩)
 (h1 : ∀ (i : Nat) u, (r.cells x.sense)[i]? = some u -> w.cell? ⟨b, off + j * 6 + i, none⟩ = some u) (h2 : E w r x) : LRows E w (.slice A (j+1) c) (l.take (j+1)) := by
 obtain ⟨A', c', e, k1, k2, k3⟩ := h
 injection e with e1 e2 e3
 subst e1 e3
 have hjl := (List.getElem?_eq_some_iff.1 hx).1
 refine ⟨A, c, by rw [List.length_take]; congr 1; omega, by rw [List.length_take]; omega, k2, fun i y hi => ?_⟩
 have hil := (List.getElem?_eq_some_iff.1 hi).1
 rw [List.length_take] at hil
 rw [List.getElem?_take_of_lt (by omega)] at hi
 by_cases hij : i < j
 ·exact k3 i y (by rw [List.getElem?_take_of_lt hij]; exact hi)
 ·obtain rfl : i = j := by omega
  rw [hx] at hi; injection hi with hi; subst hi
  exact ⟨b, off, hA, r, h1, h2⟩
theorem lrows_flags {most : Nat} {w : World} {v : Value} {l : List PRow} (h : LRows (RowSmall most) w v l) (hm : most <= 1000) : ∃ l', l'.length = l.length /\ LRows (ERow 1) w v l' /\ ∀ r ∈ l', r.coef.length <= most := by
 obtain ⟨A, c, rfl, h1, h2, h3⟩ := h
 obtain ⟨l', hl, hq⟩ := list_of (Q := fun i (x : PRow) => (∃ b off, A = some ⟨b, off, none⟩ /\ ∃ r : WCells, (∀ (j : Nat) u, (r.cells x.sense)[j]? = some u -> w.cell? ⟨b, off + i * 6 + j, none⟩ = some u) /\ ERow 1 w r x) /\ x.coef.length <= most) l.length (fun i hi => by
  obtain ⟨b, off, ha, r, hx, g1, g2, g3, g4⟩ := h3 i l[i] (List.getElem?_eq_getElem hi)
  obtain ⟨fc, hfl, k1⟩ := rats_flags g2 (by omega)
  obtain ⟨fr, k2⟩ := EFlag.of_raw g3 (by omega)
  exact ⟨⟨l[i].coef, l[i].sense, l[i].rhs, allF fc && allF [fr]⟩, ⟨b, off, ha, r, hx, { coef := g2, rhs := g3, cl := by show l[i].coef.length <= 1000; omega, sfit := g4, flags := ⟨fc, fr, k1, k2, rfl⟩ }⟩, g1⟩)
 refine ⟨l', hl, ⟨A, c, by rw [hl], by rw [hl]; exact h1, h2, fun i x hi => (hq i x hi).1⟩, fun r hr => ?_⟩
 obtain ⟨i, hi⟩ := List.mem_iff_getElem?.1 hr
 exact (hq i r hi).2
def FewLp (w : World) (vC vR vL vH vO : Value) (most : Nat) (e : Ending) (w' : World) : Prop :=
 ∃ t, e = .returned (.bool t) /\ (t = true -> ∃ P, LpIn w' vC vR vL vH vO 1 P /\ P.cost.length <= most /\ P.lo.length <= most /\ P.hi.length <= most /\ P.rows.length <= most /\ ∀ r ∈ P.rows, r.coef.length <= most) /\ Later w w'
set_option maxHeartbeats 4000000 in
theorem fewlp_calls (w : World) (A1 A2 A3 A4 A5 : Option Addr) (n1 n2 n3 n4 n5 c1 c2 c3 c4 c5 : Nat) (cost : List Rat) (rows : List PRow) (lo hi : List Rat) (opn : List Bool) (most : Nat) (hm : most <= 1000)
 (h1 : Rats EAny w (.slice A1 n1 c1) cost) (h2 : LRows EAnyRow w (.slice A2 n2 c2) rows) (h3 : Rats EAny w (.slice A3 n3 c3) lo) (h4 : Rats EAny w (.slice A4 n4 c4) hi) (h5 : Bools w (.slice A5 n5 c5) opn) :
 Calls Tryz.prog 16 #[.agg #[.slice A1 n1 c1, .slice A2 n2 c2, .slice A3 n3 c3, .slice A4 n4 c4, .slice A5 n5 c5], .int .i64 (most : Int)] w (FewLp w (.slice A1 n1 c1) (.slice A2 n2 c2) (.slice A3 n3 c3) (.slice A4 n4 c4) (.slice A5 n5 c5) most) := by
 have H1 := hide h1; have H2 := hide h2; have H3 := hide h3; have H4 := hide h4; have H5 := hide h5
 have L2 := hide h2.len_; have L5 := hide h5.len_
 have hc2 : n2 <= c2 := by
  obtain ⟨_, _, _, e, -, k, -⟩ := h2.form
  injection e with e1 e2 e3; omega
 clear h1 h2 h3 h4 h5
 obtain ⟨W0, hW0⟩ : ∃ W0, W0 = (w.alloc (Obj.cells #[Value.slice A1 n1 c1, Value.slice A2 n2 c2, Value.slice A3 n3 c3, Value.slice A4 n4 c4, Value.slice A5 n5 c5] 26)) := ⟨_, rfl⟩
 obtain ⟨hb0, r0, hsz0⟩ := boxes1 w [.slice A1 n1 c1, .slice A2 n2 c2, .slice A3 n3 c3, .slice A4 n4 c4, .slice A5 n5 c5] 26 hW0
 have B0 := hide hb0; have HW0 := hide hW0; have HSZ0 := hide hsz0
 have R0 := hide r0
 clear hb0 hW0 hsz0 r0
 go_enter Tryz.func16, Tryz.ntmps16
 go_upto_region 1 with fail
 rw [<- HW0.out]
 have r_d := R0.out.later (Later.refl W0)
 have d0 := r_d.cell (i := 0) rfl; have d1 := r_d.cell (i := 1) rfl; have d2 := r_d.cell (i := 2) rfl; have d3 := r_d.cell (i := 3) rfl; have d4 := r_d.cell (i := 4) rfl
 clear r_d
 go_wp2_with fail
 refine (few_calls _ _ cost most (H1.out.later EAny.later B0.out) (by omega)).mono ?_
 rintro e w1 ⟨u1, rfl, hf1, rfl⟩
 have HF1 := hide hf1
 clear hf1
 cases u1 with
 | false =>
   go_wp2_with fail
   go_ret
   exact ⟨false, rfl, (fun h => by cases h), B0.out⟩
 | true =>
 go_wp2_with fail
 refine (few_calls _ _ lo most (H3.out.later EAny.later B0.out) (by omega)).mono ?_
 rintro e w3 ⟨u3, rfl, hf3, rfl⟩
 have HF3 := hide hf3
 clear hf3
 cases u3 with
 | false =>
   go_wp2_with fail
   go_ret
   exact ⟨false, rfl, (fun h => by cases h), B0.out⟩
 | true =>
 go_wp2_with fail
 refine (few_calls _ _ hi most (H4.out.later EAny.later B0.out) (by omega)).mono ?_
 rintro e w4 ⟨u4, rfl, hf4, rfl⟩
 have HF4 := hide hf4
 clear hf4
 cases u4 with
 | false =>
   go_wp2_with fail
   go_ret
   exact ⟨false, rfl, (fun h => by cases h), B0.out⟩
 | true =>
 by_cases g5 : 100 < n5
 ·have t1 : (100 : Int) < n5 := by omega
  go_wp2_with fail
  go_ret
  exact ⟨false, rfl, (fun h => by cases h), B0.out⟩
 have t1 : ¬ (100 : Int) < n5 := by omega
 by_cases g2 : most < n2
 ·have t2 : (most : Int) < n2 := by omega
  go_wp2_with fail
  go_ret
  exact ⟨false, rfl, (fun h => by cases h), B0.out⟩
 have t2 : ¬ (most : Int) < n2 := by omega
 go_wp2_with fail
 clear d0 d1 d2 d3 d4
 go_loopw [5] (fun i wr => ∃ j : Nat, j <= n2 /\ i = .int .i64 (j : Int) /\ LRows (RowSmall most) wr (.slice A2 j c2) (rows.take j) /\ Later W0 wr) (fun i _ => (n2 - intOf i).toNat)
 case atStart => exact ⟨0, by omega, rfl, ⟨A2, c2, rfl, Nat.zero_le _, (by obtain ⟨_, _, _, e, -, -, k, -⟩ := H2.out.form; injection e with e1 e2 e3; rw [e3]; exact k), fun i x hi => by simp at hi⟩, Later.refl _⟩
 case round =>
  obtain ⟨j, hj, rfl, hpre, hL⟩ := hrel
  have HL := hide hL; have HPRE := hide hpre
  clear hL hpre
  have r_d := R0.out.later HL.out
  have d0 := r_d.cell (i := 0) rfl; have d1 := r_d.cell (i := 1) rfl; have d2 := r_d.cell (i := 2) rfl; have d3 := r_d.cell (i := 3) rfl; have d4 := r_d.cell (i := 4) rfl
  clear r_d
  by_cases hjn : j < n2
  ·obtain ⟨x, hx⟩ : ∃ x, rows[j]? = some x := ⟨rows[j]'(by have := L2.out; omega), List.getElem?_eq_getElem _⟩
   obtain ⟨b2, off2, rfl, r, hcs, he⟩ := (H2.out.later EAnyRow.later (B0.out.trans HL.out)).at_ hx
   have x0 := hcs 0 _ rfl; have x2 := hcs 2 _ rfl; have x3 := hcs 3 _ rfl; have x4 := hcs 4 _ rfl; have x5 := hcs 5 _ rfl
   rw [Nat.add_zero] at x0
   have HCS := hide hcs; have HE := hide he; have HX := hide hx
   have HE1 : Hid (Rats EAny wr (.slice r.A r.n r.c) x.coef) := hide he.1
   have HE2 : Hid (EAny wr (.agg #[.bool r.e.a, .slice r.e.A r.e.n r.e.c, .bool r.e.a', .slice r.e.A' r.e.n' r.e.c']) x.rhs) := hide he.2.1
   have hj0 : (0 : Int) <= (j : Int) := by omega
   have hj1 : (j : Int) < n2 := by omega
   have hj2 : ((j : Int)).toNat = j := by omega
   clear hcs he hx
   go_wp2_with fail
   refine (few_calls _ _ x.coef most HE1.out (by omega)).mono ?_
   rintro e w7 ⟨u1, rfl, hf1, rfl⟩
   have HF1 := hide hf1
   clear hf1
   cases u1 with
   | false =>
     go_wp2_with fail
     go_ret
     exact ⟨false, rfl, (fun h => by cases h), B0.out.trans HL.out⟩
   | true =>
     go_wp2_with fail
     have HN := hide (Row.new wr 36 [.bool r.e.a, .slice r.e.A r.e.n r.e.c, .bool r.e.a', .slice r.e.A' r.e.n' r.e.c'])
     have HLA := hide ((Later.refl wr).alloc (Obj.cells #[Value.bool r.e.a, Value.slice r.e.A r.e.n r.e.c, Value.bool r.e.a', Value.slice r.e.A' r.e.n' r.e.c'] 36))
     refine (few_calls _ _ [x.rhs] 1 (rats_one HN.out (EAny.later _ _ _ _ HE2.out HLA.out)) (by omega)).mono ?_
     rintro e w8 ⟨u2, rfl, hf2, rfl⟩
     have HLB := hide (HL.out.trans HLA.out)
     have HF2 := hide hf2
     clear hf2
     cases u2 with
     | false =>
       go_wp2_with fail
       go_ret
       exact ⟨false, rfl, (fun h => by cases h), B0.out.trans HLB.out⟩
     | true =>
       have HNX := hide (LRows.snoc_read (r := r) (HPRE.out.later RowSmall.later HLA.out) HX.out L2.out.symm hc2 rfl (fun i u hi => Later.cell HLA.out (HCS.out i u hi)) (show RowSmall most _ r x from ⟨(HF1.out trivial).1, (HF1.out trivial).2.later ERaw.later HLA.out, rats_one_inv HN.out (HF2.out rfl).2, HE.out.2.2⟩))
       go_wp2_with fail
       exact ⟨⟨j+1, by omega, by go_num, HNX.out, HLB.out⟩, by simp [intOf]; omega⟩
  ·have hj1 : ¬ (j : Int) < n2 := by omega
   have HF : Hid (LRows (RowSmall most) wr (.slice A2 n2 c2) rows) := hide (by
    have h1 := HPRE.out
    have e1 : j = n2 := by omega
    rw [e1, List.take_of_length_le (by rw [L2.out]; exact Nat.le_refl _)] at h1
    exact h1)
   clear HPRE
   go_wp2_with fail
   go_ret
   refine ⟨true, rfl, fun _ => ?_, B0.out.trans HL.out⟩
   obtain ⟨rows', hl', k2, k3⟩ := lrows_flags HF.out hm
   have a1 := (HF1.out trivial); have a3 := (HF3.out trivial); have a4 := (HF4.out trivial)
   obtain ⟨f1, -, g1⟩ := rats_flags a1.2 (by omega)
   obtain ⟨f3, -, g3⟩ := rats_flags a3.2 (by omega)
   obtain ⟨f4, -, g4⟩ := rats_flags a4.2 (by omega)
   have hl2 := L2.out; have hl5 := L5.out
   refine ⟨⟨cost, rows', lo, hi, opn, allF f1 && (allF f3 && allF f4)⟩, ?_, a1.1, a3.1, a4.1, by show rows'.length <= most; omega, k3⟩
   exact { cost := a1.2.later ERaw.later HL.out, rows := k2, lo := a3.2.later ERaw.later HL.out, hi := a4.2.later ERaw.later HL.out, opn := H5.out.later (B0.out.trans HL.out), flags := ⟨f1, f3, f4, g1.later EFlag.later HL.out, g3.later EFlag.later HL.out, g4.later EFlag.later HL.out, rfl⟩, kk := by omega, cl := by have := a1.1; show cost.length <= 1000; omega, rl := by show rows'.length <= 1000; omega, ll := by have := a3.1; show lo.length <= 1000; omega, hl := by have := a4.1; show hi.length <= 1000; omega, ol := by show opn.length <= 1000; omega }
end Go.Proofs.YtfokplidiboabaaGreat
