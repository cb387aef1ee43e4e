/- Problems: Fulfils (the program). -/
import Derived.Test.YtfokplidiboabaaGreatQ19
import Derived.Test.YtfokplidiboabaaGreatQ15
set_option linter.unusedVariables false
set_option linter.unusedSimpArgs false
set_option maxRecDepth 100000
namespace Go.Proofs.YtfokplidiboabaaGreat
open Go.RowKit Go.Shelf
attribute [local go_sem ↓] Go.wp_at_zero Go.wp_at_succ

set_option maxHeartbeats 2000000 in
theorem idxW1_calls (w : World) {k : Nat} (v : Value) (l : List PRow) (h : LRows (ERow k) w v l) (hl : l.length ≤ 1000000000) (f : FuncId) (hf : Enters f) (G0 : Nat) (p : PRow → Bool) (hp : ∀ W (r : WCells) (x : PRow), Later w W → ERowS k W r x → x ∈ l → Calls Tryz.prog f #[.agg #[.slice r.A r.n r.c, .int .i64 x.sense, .bool r.e.a, .slice r.e.A r.e.n r.e.c, .bool r.e.a', .slice r.e.A' r.e.n' r.e.c'], .pointer (some ⟨G0, 0, none⟩)] W (RetV W (.bool (p x)))) :
    Calls Tryz.prog 154 #[v, .func (.func f) #[] #[.pointer (some ⟨G0, 0, none⟩)]] w (RetZ w (FirstX p l)) := by
  have H := hide h; have HP := hide hp
  have hen := hf.out
  obtain ⟨A0, nt, ct, rfl, hnt, -, -, -⟩ := h.form
  have HNT := hide hnt
  have hn9 : nt ≤ 1000000000 := by omega
  clear h hp hnt hl
  go_enter Tryz.func154, Tryz.ntmps154
  go_wp2_with fail
  go_loopw [8] (fun i wr => ∃ j : Nat, j ≤ nt ∧ i = .int .i64 (j : Int) ∧ Hid (∀ (i : Nat) r, i < j → l[i]? = some r → p r = false) ∧ Later w wr) (fun i _ => (nt - intOf i).toNat)
  case atStart => exact ⟨0, by omega, rfl, hide fun i r hi => by omega, Later.refl w⟩
  case round =>
    obtain ⟨j, hj, rfl, hpre, hL⟩ := hrel
    by_cases hjn : j < nt
    · obtain ⟨x, hx⟩ : ∃ x, l[j]? = some x := ⟨l[j]'(by have := HNT.out; omega), List.getElem?_eq_getElem _⟩
      obtain ⟨b1, off1, rfl, r, x0, x1, x2, x3, x4, x5, he⟩ := (H.out.later ERow.later hL).at6 hx
      have HX := hide hx; have HE := hide (show ERowS k wr r x from he)
      clear he
      obtain ⟨u, hu⟩ : ∃ u, p x = u := ⟨_, rfl⟩
      have HU := hide hu
      have hj0 : (0 : Int) ≤ (j : Int) := by omega
      have hj1 : (j : Int) < nt := by omega
      clear hx hu
      go_wp2_with fail
      refine (HP.out _ _ _ hL HE.out (List.mem_of_getElem? HX.out)).mono ?_
      rintro e w8 ⟨rfl, b8⟩
      rw [HU.out]
      have hL8 := hL.trans b8
      cases u
      case false =>
        have HN : Hid (∀ (i : Nat) r, i < j + 1 → l[i]? = some r → p r = false) := hide fun i r hi hr => by
          by_cases hij : i < j
          · exact hpre.out i r hij hr
          · obtain rfl : i = j := by omega
            rw [HX.out] at hr; injection hr with hr; rw [← hr, HU.out]
        go_wp2_with fail
        exact ⟨⟨j+1, by omega, by go_num, HN, hL8⟩, by simp [intOf]; omega⟩
      case true =>
        have HF : Hid (FirstX p l j) := hide (.inr ⟨j, x, rfl, HX.out, HU.out, hpre.out⟩)
        go_wp2_with fail
        go_ret
        exact ⟨_, rfl, HF.out, hL8⟩
    · obtain rfl : j = nt := by omega
      have HF : Hid (FirstX p l (-1)) := hide (.inl ⟨rfl, fun x hr => by
        obtain ⟨i, hi⟩ := List.getElem?_of_mem hr
        exact hpre.out i x (by rw [HNT.out]; exact (List.getElem?_eq_some_iff.1 hi).1) hi⟩)
      go_wp2_with fail
      go_ret
      exact ⟨_, rfl, HF.out, hL⟩

set_option maxHeartbeats 1000000 in
theorem contW1_calls (w : World) {k : Nat} (v : Value) (l : List PRow) (h : LRows (ERow k) w v l) (hl : l.length ≤ 1000000000) (f : FuncId) (hf : Enters f) (G0 : Nat) (p : PRow → Bool) (hp : ∀ W (r : WCells) (x : PRow), Later w W → ERowS k W r x → x ∈ l → Calls Tryz.prog f #[.agg #[.slice r.A r.n r.c, .int .i64 x.sense, .bool r.e.a, .slice r.e.A r.e.n r.e.c, .bool r.e.a', .slice r.e.A' r.e.n' r.e.c'], .pointer (some ⟨G0, 0, none⟩)] W (RetV W (.bool (p x)))) (u : Bool) (hu : l.any p = u) :
    Calls Tryz.prog 86 #[v, .func (.func f) #[] #[.pointer (some ⟨G0, 0, none⟩)]] w (RetV w (.bool u)) := by
  have H := hide h; have HP := hide hp; have HU := hide hu
  obtain ⟨A0, nt, ct, rfl, hnt, -, -, -⟩ := h.form
  clear h hp hnt hu
  go_enter Tryz.func86, Tryz.ntmps86
  go_wp2_with fail
  refine (idxW1_calls _ _ l H.out hl f hf G0 p HP.out).mono ?_
  rintro e w1 ⟨z, rfl, hz, b1⟩
  have hd := firstX_any hz
  rw [HU.out] at hd
  have HD := hide hd
  clear hz hd
  go_wp2_with fail
  go_ret
  exact ⟨by simp [HD.out], b1⟩

set_option maxHeartbeats 4000000 in
theorem pful1_calls (w : World) (r : WCells) (x : PRow) (k : Nat) (he : ERowS k w r x) (hk : k ≤ 1000) (G : Nat) (Az : Option Addr) (nz cz : Nat) (z : List Rat) (m : Nat) (hz : Rats (ERaw m) w (.slice Az nz cz) z) (hG : Row w G 22 [.slice Az nz cz]) (hm : m ≤ 1000) (hlen : x.coef.length = z.length) (hs : 0 ≤ x.sense ∧ x.sense ≤ 2) (u : Bool) (hu : rowHolds x z = u) :
    Calls Tryz.prog 87 #[.agg #[.slice r.A r.n r.c, .int .i64 x.sense, .bool r.e.a, .slice r.e.A r.e.n r.e.c, .bool r.e.a', .slice r.e.A' r.e.n' r.e.c'], .pointer (some ⟨G, 0, none⟩)] w (RetV w (.bool (!u))) := by
  have HE := hide he; have HZ := hide hz; have HG := hide hG; have HU := hide hu
  clear he hz hG hu
  obtain ⟨W0, hW0⟩ : ∃ W0, W0 = (w.alloc (Obj.cells #[Value.slice r.A r.n r.c, Value.int .i64 x.sense, Value.bool r.e.a, Value.slice r.e.A r.e.n r.e.c, Value.bool r.e.a', Value.slice r.e.A' r.e.n' r.e.c'] 60)) := ⟨_, rfl⟩
  obtain ⟨hb0, r0, hsz0⟩ := boxes1 w [.slice r.A r.n r.c, .int .i64 x.sense, .bool r.e.a, .slice r.e.A r.e.n r.e.c, .bool r.e.a', .slice r.e.A' r.e.n' r.e.c'] 60 hW0
  have B0 := hide hb0; have HW0 := hide hW0; have HSZ0 := hide hsz0
  have R0 := hide r0
  clear hb0 hW0 hsz0 r0
  go_enter Tryz.func87, Tryz.ntmps87
  go_upto_region 1 with fail
  rw [← HW0.out]
  have r_d := R0.out.later (Later.refl W0)
  have d0 := r_d.cell (i := 0) rfl; have d1 := r_d.cell (i := 1) rfl; have d2 := r_d.cell (i := 2) rfl; have d3 := r_d.cell (i := 3) rfl; have d4 := r_d.cell (i := 4) rfl; have d5 := r_d.cell (i := 5) rfl
  clear r_d
  have g0 := (HG.out.later B0.out).cell (i := 0) rfl
  go_wp2_with fail
  have he2 : ERowS k W0 r x := ERow.later (k := k) _ _ _ _ HE.out B0.out
  ((with_reducible refine (pholds_calls _ r x k he2 hk _ z m (Rats.later ERaw.later HZ.out B0.out) hm hlen hs).mono ?_); rintro e w1 ⟨rfl, b1⟩)
  rw [HU.out]
  have hL := B0.out.trans b1
  clear d0 d1 d2 d3 d4 d5 g0 b1 he2
  go_wp2_with fail
  go_ret
  exact ⟨rfl, hL⟩

set_option maxHeartbeats 16000000 in
theorem pfulfils_calls (w : World) (A1 A2 A3 A4 A5 : Option Addr) (n1 n2 n3 n4 n5 c1 c2 c3 c4 c5 : Nat) (k : Nat) (P : PLp) (h : LpIn w (.slice A1 n1 c1) (.slice A2 n2 c2) (.slice A3 n3 c3) (.slice A4 n4 c4) (.slice A5 n5 c5) k P) (vx : Value) (x : List Rat) (m : Nat) (hx : Rats (ERaw m) w vx x) (hm : m ≤ 1000) :
    Calls Tryz.prog 31 #[.agg #[.slice A1 n1 c1, .slice A2 n2 c2, .slice A3 n3 c3, .slice A4 n4 c4, .slice A5 n5 c5], vx] w (RetV w (.bool (fulfL P x))) := by
  obtain ⟨Ax, nx, cx, rfl, hnx, -⟩ := hx.form
  have HX := hide hx; have HNX := hide hnx
  clear hx hnx
  have H := hide h
  have hc1 := h.cost; have hr1 := h.rows; have hl1 := h.lo; have hh1 := h.hi; have ho1 := h.opn
  have L1 := hide hc1.len_; have L2 := hide hr1.len_; have L3 := hide hl1.len_; have L4 := hide hh1.len_; have L5 := hide ho1.len_
  have hn1 : n1 ≤ 1000 := by have := h.cl; have := L1.out; omega
  have hn2 : n2 ≤ 1000 := by have := h.rl; have := L2.out; omega
  have hn3 : n3 ≤ 1000 := by have := h.ll; have := L3.out; omega
  have hn4 : n4 ≤ 1000 := by have := h.hl; have := L4.out; omega
  have hn5 : n5 ≤ 1000 := by have := h.ol; have := L5.out; omega
  have hkk := h.kk
  clear h hc1 hr1 hl1 hh1 ho1
  obtain ⟨u, hu⟩ : ∃ u, lpB P = u := ⟨_, rfl⟩
  obtain ⟨ub, hub⟩ : ∃ b, fulfL P x = b := ⟨_, rfl⟩
  rw [hub]
  have HUB := hide hub; have HU := hide hu
  clear hub hu
  obtain ⟨W0, hW0⟩ : ∃ W0, W0 = ((w.alloc (Obj.cells #[Value.slice A1 n1 c1, Value.slice A2 n2 c2, Value.slice A3 n3 c3, Value.slice A4 n4 c4, Value.slice A5 n5 c5] 26)).alloc (Obj.cells #[Value.slice Ax nx cx] 22)) := ⟨_, rfl⟩
  obtain ⟨hb0, r0, r1, hsz0⟩ := boxes2 w [.slice A1 n1 c1, .slice A2 n2 c2, .slice A3 n3 c3, .slice A4 n4 c4, .slice A5 n5 c5] [.slice Ax nx cx] 26 22 hW0
  have B0 := hide hb0; have HW0 := hide hW0; have HSZ0 := hide hsz0
  have R0 := hide r0; have R1 := hide r1
  clear hb0 hW0 hsz0 r0 r1
  go_enter Tryz.func31, Tryz.ntmps31
  go_upto_region 1 with fail
  rw [← HW0.out]
  have r_d := R0.out.later (Later.refl W0)
  have d0 := r_d.cell (i := 0) rfl; have d1 := r_d.cell (i := 1) rfl; have d2 := r_d.cell (i := 2) rfl; have d3 := r_d.cell (i := 3) rfl; have d4 := r_d.cell (i := 4) rfl
  clear r_d
  have g0 := R1.out.cell (i := 0) rfl
  go_wp2_with fail
  ((with_reducible refine (pmay_calls _ _ _ _ _ _ _ _ _ _ _ _ _ _ _ _ k P (H.out.later B0.out)).mono ?_); rintro e w1 ⟨rfl, b1⟩)
  rw [HU.out]
  have HL1 := hide b1
  clear b1 d0 d1 d2 d3 d4 g0
  have r_d := R0.out.later HL1.out
  have d0 := r_d.cell (i := 0) rfl; have d1 := r_d.cell (i := 1) rfl; have d2 := r_d.cell (i := 2) rfl; have d3 := r_d.cell (i := 3) rfl; have d4 := r_d.cell (i := 4) rfl
  clear r_d
  have g0 := (R1.out.later HL1.out).cell (i := 0) rfl
  cases u with
  | false =>
    have HF : Hid (ub = false) := hide (by rw [← HUB.out]; unfold fulfL; rw [HU.out]; rfl)
    go_wp2_with fail
    go_ret
    exact ⟨by rw [HF.out]; rfl, B0.out.trans HL1.out⟩
  | true =>
    have HP := hide (lpB_iff.1 HU.out)
    by_cases hlen : nx = n1
    · have t1 : ((nx : Int) != (n1 : Int)) = false := by rw [hlen]; simp
      have HLEN : Hid (x.length = P.cost.length) := hide (by rw [← HNX.out, ← L1.out]; exact hlen)
      have h24 := HP.out.n24
      have hnx24 : nx ≤ 24 := by have := L1.out; omega
      have hlo := HP.out.lo; have hhi := HP.out.hi; have hop := HP.out.opn
      clear hlen
      go_wp2_with fail
      clear d0 d1 d2 d3 d4 g0
      go_loopw [20] (fun i wr => ∃ j : Nat, j ≤ nx ∧ i = .int .i64 (j : Int) ∧ Hid (∀ i : Nat, i < j → inB P x i = true) ∧ Later W0 wr) (fun i _ => (nx - intOf i).toNat)
      case atStart => exact ⟨0, by omega, rfl, hide fun i hi => by omega, HL1.out⟩
      case round =>
        obtain ⟨j, hj, rfl, hpre, hL⟩ := hrel
        have HL := hide hL
        clear hL
        by_cases hjn : j < nx
        · obtain ⟨xj, hxj⟩ : ∃ o, x[j]? = some o := ⟨x[j]'(by have := HNX.out; omega), List.getElem?_eq_getElem _⟩
          have hjc : j < P.cost.length := by have := L1.out; have := HLEN.out; have := HNX.out; omega
          obtain ⟨a3, ha3⟩ : ∃ o, P.lo[j]? = some o := ⟨P.lo[j]'(by omega), List.getElem?_eq_getElem _⟩
          obtain ⟨a4, ha4⟩ : ∃ o, P.hi[j]? = some o := ⟨P.hi[j]'(by omega), List.getElem?_eq_getElem _⟩
          obtain ⟨o, ho⟩ : ∃ o, P.opn[j]? = some o := ⟨P.opn[j]'(by omega), List.getElem?_eq_getElem _⟩
          obtain ⟨bX, offX, sx, Px, qx, ex, sx', Px', qx', ex', rfl, y1, y2, y3, y4, eX⟩ := (HX.out.later ERaw.later (B0.out.trans HL.out)).at_ hxj
          obtain ⟨b3, off3, s3, P3, q3, e3, s3', P3', q3', e3', rfl, z1, z2, z3, z4, eA3⟩ := (H.out.lo.later ERaw.later (B0.out.trans HL.out)).at_ ha3
          obtain ⟨b4, off4, s4, P4, q4, e4, s4', P4', q4', e4', rfl, p1, p2, p3, p4, eA4⟩ := (H.out.hi.later ERaw.later (B0.out.trans HL.out)).at_ ha4
          obtain ⟨b5, off5, rfl, z5⟩ := (H.out.opn.later (B0.out.trans HL.out)).at_ ho
          have HXJ0 : Hid (RawR wr (.agg #[.bool sx, .slice Px qx ex, .bool sx', .slice Px' qx' ex']) xj m) := hide eX
          have HIN0 : Hid (inB P x j = (decide (a3 ≤ xj) && (o || decide (xj ≤ a4)))) := hide (by
            unfold inB
            rw [List.getD_eq_getElem?_getD, ha3, List.getD_eq_getElem?_getD, hxj, List.getD_eq_getElem?_getD, ho, List.getD_eq_getElem?_getD, ha4]; rfl)
          have hj0 : (0 : Int) ≤ (j : Int) := by omega
          have hj1 : (j : Int) < nx := by omega
          have hj3 : (j : Int) < n3 := by have := L3.out; omega
          have hj4 : (j : Int) < n4 := by have := L4.out; omega
          have hj5 : (j : Int) < n5 := by have := L5.out; omega
          have hj2 : ((j : Int)).toNat = j := by omega
          obtain ⟨cz1, hc1⟩ : ∃ c, cmpQ xj a3 = c := ⟨_, rfl⟩
          obtain ⟨cz2, hc2⟩ : ∃ c, cmpQ xj a4 = c := ⟨_, rfl⟩
          obtain ⟨u1, hu1⟩ : ∃ b, decide (cz1 < 0) = b := ⟨_, rfl⟩
          obtain ⟨u2, hu2⟩ : ∃ b, decide (0 < cz2) = b := ⟨_, rfl⟩
          have HC1 := hide hc1; have HC2 := hide hc2
          have hq1 : decide (a3 ≤ xj) = !u1 := by
            rw [← hu1, ← hc1]; unfold cmpQ
            by_cases h1 : xj < a3
            · have h2 : ¬ a3 ≤ xj := by grind
              have h3 : xj ≤ a3 := by grind
              simp [h1, h2, h3]
            · have h2 : a3 ≤ xj := by grind
              by_cases h4 : a3 < xj
              · have h3 : ¬ xj ≤ a3 := by grind
                simp [h1, h2, h3, h4]
              · have h3 : xj ≤ a3 := by grind
                simp [h1, h2, h3, h4]
          have hq2 : decide (xj ≤ a4) = !u2 := by
            rw [← hu2, ← hc2]; unfold cmpQ
            by_cases h1 : a4 < xj
            · have h2 : ¬ xj ≤ a4 := by grind
              have h3 : ¬ xj < a4 := by grind
              have h4 : a4 ≤ xj := by grind
              simp [h1, h2, h3, h4]
            · have h2 : xj ≤ a4 := by grind
              by_cases h4 : xj < a4
              · have h3 : ¬ a4 ≤ xj := by grind
                simp [h1, h2, h3, h4]
              · have h3 : a4 ≤ xj := by grind
                simp [h1, h2, h3, h4]
          rw [hq1, hq2] at HIN0
          have HZC : Hid (wr.cell? ⟨b3, off3 + j * 4, none⟩ = some (.bool s3) ∧ wr.cell? ⟨b3, off3 + j * 4 + 1, none⟩ = some (.slice P3 q3 e3) ∧ wr.cell? ⟨b3, off3 + j * 4 + 2, none⟩ = some (.bool s3') ∧ wr.cell? ⟨b3, off3 + j * 4 + 3, none⟩ = some (.slice P3' q3' e3') ∧ wr.cell? ⟨b4, off4 + j * 4, none⟩ = some (.bool s4) ∧ wr.cell? ⟨b4, off4 + j * 4 + 1, none⟩ = some (.slice P4 q4 e4) ∧ wr.cell? ⟨b4, off4 + j * 4 + 2, none⟩ = some (.bool s4') ∧ wr.cell? ⟨b4, off4 + j * 4 + 3, none⟩ = some (.slice P4' q4' e4') ∧ wr.cell? ⟨b5, off5 + j, none⟩ = some (.bool o)) := hide ⟨z1, z2, z3, z4, p1, p2, p3, p4, z5⟩
          have HA30 : Hid (RawR wr (.agg #[.bool s3, .slice P3 q3 e3, .bool s3', .slice P3' q3' e3']) a3 k) := hide eA3
          have HA40 : Hid (RawR wr (.agg #[.bool s4, .slice P4 q4 e4, .bool s4', .slice P4' q4' e4']) a4 k) := hide eA4
          clear hxj ha3 ha4 ho eX eA3 eA4 z1 z2 z3 z4 p1 p2 p3 p4 z5 hc1 hc2 hq1 hq2
          have gv := (R1.out.later HL.out).cell (i := 0) rfl
          go_upto_region 6 with fail
          obtain ⟨wx, hwx⟩ : ∃ wx, wx = wr.alloc (Obj.cells #[Value.bool sx, Value.slice Px qx ex, Value.bool sx', Value.slice Px' qx' ex'] 36) := ⟨_, rfl⟩
          obtain ⟨gx, hgx⟩ : ∃ gx, gx = wr.heap.size := ⟨_, rfl⟩
          have bwx : Later wr wx := by rw [hwx]; exact (Later.refl _).alloc _
          have rgx : Row wx gx 36 [.bool sx, .slice Px qx ex, .bool sx', .slice Px' qx' ex'] := by rw [hwx, hgx]; exact Row.new _ _ _
          rw [← hwx, ← hgx]
          have HLx := hide bwx; have RX := hide rgx
          clear hwx hgx bwx rgx y1 y2 y3 y4 gv
          have HXJ : Hid (∀ W, Later wx W → RawR W (.agg #[.bool sx, .slice Px qx ex, .bool sx', .slice Px' qx' ex']) xj m) := hide fun W hW => RawR.later HXJ0.out (HLx.out.trans hW)
          have HA3 : Hid (∀ W, Later wx W → RawR W (.agg #[.bool s3, .slice P3 q3 e3, .bool s3', .slice P3' q3' e3']) a3 k) := hide fun W hW => RawR.later HA30.out (HLx.out.trans hW)
          have HA4 : Hid (∀ W, Later wx W → RawR W (.agg #[.bool s4, .slice P4 q4 e4, .bool s4', .slice P4' q4' e4']) a4 k) := hide fun W hW => RawR.later HA40.out (HLx.out.trans hW)
          have HT1 : Hid (∀ w', Later wx w' → w'.cell? ⟨gx, 0, none⟩ = some (.bool sx) ∧ w'.cell? ⟨gx, 1, none⟩ = some (.slice Px qx ex) ∧ w'.cell? ⟨gx, 2, none⟩ = some (.bool sx') ∧ w'.cell? ⟨gx, 3, none⟩ = some (.slice Px' qx' ex') ∧ w'.cell? ⟨w.heap.size, 2, none⟩ = some (.slice (some ⟨b3, off3, none⟩) n3 c3) ∧ w'.cell? ⟨w.heap.size, 3, none⟩ = some (.slice (some ⟨b4, off4, none⟩) n4 c4) ∧ w'.cell? ⟨w.heap.size, 4, none⟩ = some (.slice (some ⟨b5, off5, none⟩) n5 c5) ∧ w'.cell? ⟨b3, off3 + j * 4, none⟩ = some (.bool s3) ∧ w'.cell? ⟨b3, off3 + j * 4 + 1, none⟩ = some (.slice P3 q3 e3) ∧ w'.cell? ⟨b3, off3 + j * 4 + 2, none⟩ = some (.bool s3') ∧ w'.cell? ⟨b3, off3 + j * 4 + 3, none⟩ = some (.slice P3' q3' e3') ∧ w'.cell? ⟨b4, off4 + j * 4, none⟩ = some (.bool s4) ∧ w'.cell? ⟨b4, off4 + j * 4 + 1, none⟩ = some (.slice P4 q4 e4) ∧ w'.cell? ⟨b4, off4 + j * 4 + 2, none⟩ = some (.bool s4') ∧ w'.cell? ⟨b4, off4 + j * 4 + 3, none⟩ = some (.slice P4' q4' e4') ∧ w'.cell? ⟨b5, off5 + j, none⟩ = some (.bool o)) := hide fun w' hb => by
            have h1 := RX.out.later hb; have h2 := R0.out.later (HL.out.trans (HLx.out.trans hb))
            have hb2 := HLx.out.trans hb
            obtain ⟨z1, z2, z3, z4, p1, p2, p3, p4, z5⟩ := HZC.out
            exact ⟨h1.cell rfl, h1.cell rfl, h1.cell rfl, h1.cell rfl, h2.cell rfl, h2.cell rfl, h2.cell rfl, Later.cell hb2 z1, Later.cell hb2 z2, Later.cell hb2 z3, Later.cell hb2 z4, Later.cell hb2 p1, Later.cell hb2 p2, Later.cell hb2 p3, Later.cell hb2 p4, Later.cell hb2 z5⟩
          have hmx : Tryz.prog.follows .mixedOrders = true := by kernel_rfl
          cases u1 with
          | true =>
            have HIN : Hid (inB P x j = false) := hide (by rw [HIN0.out]; rfl)
            refine wp_region_N (fun w' => w'.cell? ⟨gx, 0, none⟩ = some (.bool sx) ∧ w'.cell? ⟨gx, 1, none⟩ = some (.slice Px qx ex) ∧ w'.cell? ⟨gx, 2, none⟩ = some (.bool sx') ∧ w'.cell? ⟨gx, 3, none⟩ = some (.slice Px' qx' ex') ∧ w'.cell? ⟨w.heap.size, 2, none⟩ = some (.slice (some ⟨b3, off3, none⟩) n3 c3) ∧ w'.cell? ⟨w.heap.size, 3, none⟩ = some (.slice (some ⟨b4, off4, none⟩) n4 c4) ∧ w'.cell? ⟨w.heap.size, 4, none⟩ = some (.slice (some ⟨b5, off5, none⟩) n5 c5) ∧ w'.cell? ⟨b3, off3 + j * 4, none⟩ = some (.bool s3) ∧ w'.cell? ⟨b3, off3 + j * 4 + 1, none⟩ = some (.slice P3 q3 e3) ∧ w'.cell? ⟨b3, off3 + j * 4 + 2, none⟩ = some (.bool s3') ∧ w'.cell? ⟨b3, off3 + j * 4 + 3, none⟩ = some (.slice P3' q3' e3') ∧ w'.cell? ⟨b4, off4 + j * 4, none⟩ = some (.bool s4) ∧ w'.cell? ⟨b4, off4 + j * 4 + 1, none⟩ = some (.slice P4 q4 e4) ∧ w'.cell? ⟨b4, off4 + j * 4 + 2, none⟩ = some (.bool s4') ∧ w'.cell? ⟨b4, off4 + j * 4 + 3, none⟩ = some (.slice P4' q4' e4') ∧ w'.cell? ⟨b5, off5 + j, none⟩ = some (.bool o)) [] hmx (HT1.out _ (by first | assumption | (repeat (first | assumption | exact Later.refl _ | apply Later.drew | refine Later.alloc ?_ _)))) (fun hHeld => ?_)
            refine wpAnyN_takeD (some 25) (by rfl) (i := 0) (oi := _) (v := ?_) rfl (by kernel_rfl) (by kernel_rfl) (by kernel_rfl) (by kernel_rfl) (fun _ _ _ h => h) (Or.inl ⟨by rfl, ?_⟩) (by assumption) ?_
            rotate_left
            · intro w hSw; (try dsimp only at hSw); go_simp
              first | done | with_reducible rfl
            try simp only [Act.put, List.setIfInBounds_toArray, List.set_cons_zero, List.set_cons_succ]
            refine wpAnyN_takeD (some 26) (by rfl) (i := 1) (oi := _) (v := ?_) rfl (by kernel_rfl) (by kernel_rfl) (by kernel_rfl) (by kernel_rfl) (fun _ _ _ h => h) (Or.inl ⟨by rfl, ?_⟩) (by assumption) ?_
            rotate_left
            · intro w hSw; (try dsimp only at hSw); go_simp
              first | done | with_reducible rfl
            try simp only [Act.put, List.setIfInBounds_toArray, List.set_cons_zero, List.set_cons_succ]
            refine wpAnyN_takeD (some 27) (by rfl) (i := 2) (oi := _) (v := ?_) rfl (by kernel_rfl) (by kernel_rfl) (by kernel_rfl) (by kernel_rfl) (fun _ _ _ h => h) (Or.inl ⟨by rfl, ?_⟩) (by assumption) ?_
            rotate_left
            · intro w hSw; (try dsimp only at hSw); go_simp
              first | done | with_reducible rfl
            try simp only [Act.put, List.setIfInBounds_toArray, List.set_cons_zero, List.set_cons_succ]
            refine wpAnyN_takeD (some 28) (by rfl) (i := 3) (oi := _) (v := ?_) rfl (by kernel_rfl) (by kernel_rfl) (by kernel_rfl) (by kernel_rfl) (fun _ _ _ h => h) (Or.inl ⟨by rfl, ?_⟩) (by assumption) ?_
            rotate_left
            · intro w hSw; (try dsimp only at hSw); go_simp
              first | done | with_reducible rfl
            try simp only [Act.put, List.setIfInBounds_toArray, List.set_cons_zero, List.set_cons_succ]
            refine wpAnyN_takeD (some 29) (by rfl) (i := 4) (oi := _) (v := ?_) rfl (by kernel_rfl) (by kernel_rfl) (by kernel_rfl) (by kernel_rfl) (fun _ _ _ h => h) (Or.inl ⟨by rfl, ?_⟩) (by assumption) ?_
            rotate_left
            · intro w hSw; (try dsimp only at hSw); go_simp
              first | done | with_reducible rfl
            try simp only [Act.put, List.setIfInBounds_toArray, List.set_cons_zero, List.set_cons_succ]
            refine wpAnyN_takeD (some 30) (by rfl) (i := 5) (oi := _) (v := ?_) rfl (by kernel_rfl) (by kernel_rfl) (by kernel_rfl) (by kernel_rfl) (fun _ _ _ h => h) (Or.inl ⟨by rfl, ?_⟩) (by assumption) ?_
            rotate_left
            · intro w hSw; (try dsimp only at hSw); go_simp
              first | done | with_reducible rfl
            try simp only [Act.put, List.setIfInBounds_toArray, List.set_cons_zero, List.set_cons_succ]
            refine wpAnyN_ready (rs := [6]) (by kernel_rfl) (by simp) ?_
            refine AllReadyN.held rfl (by rfl) (fun K hK => ?_) AllReadyN.nil
            go_simp
            refine (rcmp_calls _ _ _ xj a3 m k (HXJ.out _ (by first | assumption | (repeat (first | assumption | exact Later.refl _ | apply Later.drew | refine Later.alloc ?_ _)))) (HA3.out _ (by first | assumption | (repeat (first | assumption | exact Later.refl _ | apply Later.drew | refine Later.alloc ?_ _)))) (by omega)).mono ?_
            rintro e w6 ⟨rfl, b6⟩
            rw [HC1.out]
            have l6 : Later wx w6 := Later.trans (by first | assumption | (repeat (first | assumption | exact Later.refl _ | apply Later.drew | refine Later.alloc ?_ _))) b6
            clear b6
            refine hK.out _ _ ?_ (fun hHeld => ?_)
            · exact HT1.out _ (by first | assumption | (repeat (first | assumption | exact Later.refl _ | apply Later.drew | refine Later.alloc ?_ _)))
            clear hK K
            try simp only [Act.put, List.setIfInBounds_toArray, List.set_cons_zero, List.set_cons_succ]
            refine wpAnyN_takeD (some 32) (by rfl) (i := 7) (oi := _) (v := ?_) rfl (by kernel_rfl) (by kernel_rfl) (by kernel_rfl) (by kernel_rfl) (fun _ _ _ h => h) (Or.inl ⟨by rfl, ?_⟩) (by assumption) ?_
            rotate_left
            · intro w hSw; (try dsimp only at hSw); go_simp
              first | done | with_reducible rfl
            try simp only [Act.put, List.setIfInBounds_toArray, List.set_cons_zero, List.set_cons_succ]
            refine wpAnyN_takeD (some 33) (by rfl) (i := 8) (oi := _) (v := ?_) rfl (by kernel_rfl) (by kernel_rfl) (by kernel_rfl) (by kernel_rfl) (fun _ _ _ h => h) (Or.inl ⟨by rfl, ?_⟩) (by assumption) ?_
            rotate_left
            · intro w hSw; (try dsimp only at hSw); go_simp
              first | done | with_reducible rfl
            try simp only [Act.put, List.setIfInBounds_toArray, List.set_cons_zero, List.set_cons_succ]
            refine wpAnyN_takeD (some 34) (by rfl) (i := 9) (oi := _) (v := undef) rfl (by kernel_rfl) (by kernel_rfl) (by kernel_rfl) (by kernel_rfl) (fun _ _ _ h => h) (Or.inr ⟨by rfl, rfl⟩) (by assumption) ?_
            try simp only [Act.put, List.setIfInBounds_toArray, List.set_cons_zero, List.set_cons_succ]
            refine wpAnyN_takeD (some 35) (by rfl) (i := 10) (oi := _) (v := undef) rfl (by kernel_rfl) (by kernel_rfl) (by kernel_rfl) (by kernel_rfl) (fun _ _ _ h => h) (Or.inr ⟨by rfl, rfl⟩) (by assumption) ?_
            try simp only [Act.put, List.setIfInBounds_toArray, List.set_cons_zero, List.set_cons_succ]
            refine wpAnyN_takeD (some 36) (by rfl) (i := 11) (oi := _) (v := undef) rfl (by kernel_rfl) (by kernel_rfl) (by kernel_rfl) (by kernel_rfl) (fun _ _ _ h => h) (Or.inr ⟨by rfl, rfl⟩) (by assumption) ?_
            try simp only [Act.put, List.setIfInBounds_toArray, List.set_cons_zero, List.set_cons_succ]
            refine wpAnyN_takeD (some 37) (by rfl) (i := 12) (oi := _) (v := undef) rfl (by kernel_rfl) (by kernel_rfl) (by kernel_rfl) (by kernel_rfl) (fun _ _ _ h => h) (Or.inr ⟨by rfl, rfl⟩) (by assumption) ?_
            try simp only [Act.put, List.setIfInBounds_toArray, List.set_cons_zero, List.set_cons_succ]
            refine wpAnyN_takeD (some 38) (by rfl) (i := 13) (oi := _) (v := undef) rfl (by kernel_rfl) (by kernel_rfl) (by kernel_rfl) (by kernel_rfl) (fun _ _ _ h => h) (Or.inr ⟨by rfl, rfl⟩) (by assumption) ?_
            try simp only [Act.put, List.setIfInBounds_toArray, List.set_cons_zero, List.set_cons_succ]
            refine wpAnyN_takeD (some 39) (by rfl) (i := 14) (oi := _) (v := undef) rfl (by kernel_rfl) (by kernel_rfl) (by kernel_rfl) (by kernel_rfl) (fun _ _ _ h => h) (Or.inr ⟨by rfl, rfl⟩) (by assumption) ?_
            try simp only [Act.put, List.setIfInBounds_toArray, List.set_cons_zero, List.set_cons_succ]
            refine wpAnyN_takeD (some 40) (by rfl) (i := 15) (oi := _) (v := undef) rfl (by kernel_rfl) (by kernel_rfl) (by kernel_rfl) (by kernel_rfl) (fun _ _ _ h => h) (Or.inr ⟨by rfl, rfl⟩) (by assumption) ?_
            try simp only [Act.put, List.setIfInBounds_toArray, List.set_cons_zero, List.set_cons_succ]
            refine wpAnyN_takeD (some 41) (by rfl) (i := 16) (oi := _) (v := undef) rfl (by kernel_rfl) (by kernel_rfl) (by kernel_rfl) (by kernel_rfl) (fun _ _ _ h => h) (Or.inr ⟨by rfl, rfl⟩) (by assumption) ?_
            try simp only [Act.put, List.setIfInBounds_toArray, List.set_cons_zero, List.set_cons_succ]
            refine wpAnyN_takeD (some 42) (by rfl) (i := 17) (oi := _) (v := undef) rfl (by kernel_rfl) (by kernel_rfl) (by kernel_rfl) (by kernel_rfl) (fun _ _ _ h => h) (Or.inr ⟨by rfl, rfl⟩) (by assumption) ?_
            try simp only [Act.put, List.setIfInBounds_toArray, List.set_cons_zero, List.set_cons_succ]
            refine wpAnyN_takeD (some 43) (by rfl) (i := 18) (oi := _) (v := undef) rfl (by kernel_rfl) (by kernel_rfl) (by kernel_rfl) (by kernel_rfl) (fun _ _ _ h => h) (Or.inr ⟨by rfl, rfl⟩) (by assumption) ?_
            try simp only [Act.put, List.setIfInBounds_toArray, List.set_cons_zero, List.set_cons_succ]
            refine wpAnyN_takeD (some 44) (by rfl) (i := 19) (oi := _) (v := undef) rfl (by kernel_rfl) (by kernel_rfl) (by kernel_rfl) (by kernel_rfl) (fun _ _ _ h => h) (Or.inr ⟨by rfl, rfl⟩) (by assumption) ?_
            try simp only [Act.put, List.setIfInBounds_toArray, List.set_cons_zero, List.set_cons_succ]
            refine wpAnyN_takeD (some 45) (by rfl) (i := 20) (oi := _) (v := undef) rfl (by kernel_rfl) (by kernel_rfl) (by kernel_rfl) (by kernel_rfl) (fun _ _ _ h => h) (Or.inr ⟨by rfl, rfl⟩) (by assumption) ?_
            try simp only [Act.put, List.setIfInBounds_toArray, List.set_cons_zero, List.set_cons_succ]
            refine wpAnyN_takeD (some 46) (by rfl) (i := 21) (oi := _) (v := undef) rfl (by kernel_rfl) (by kernel_rfl) (by kernel_rfl) (by kernel_rfl) (fun _ _ _ h => h) (Or.inr ⟨by rfl, rfl⟩) (by assumption) ?_
            try simp only [Act.put, List.setIfInBounds_toArray, List.set_cons_zero, List.set_cons_succ]
            refine wpAnyN_takeD (some 47) (by rfl) (i := 22) (oi := _) (v := undef) rfl (by kernel_rfl) (by kernel_rfl) (by kernel_rfl) (by kernel_rfl) (fun _ _ _ h => h) (Or.inr ⟨by rfl, rfl⟩) (by assumption) ?_
            try simp only [Act.put, List.setIfInBounds_toArray, List.set_cons_zero, List.set_cons_succ]
            refine wpAnyN_takeD (some 48) (by rfl) (i := 23) (oi := _) (v := undef) rfl (by kernel_rfl) (by kernel_rfl) (by kernel_rfl) (by kernel_rfl) (fun _ _ _ h => h) (Or.inr ⟨by rfl, rfl⟩) (by assumption) ?_
            try simp only [Act.put, List.setIfInBounds_toArray, List.set_cons_zero, List.set_cons_succ]
            refine wpAnyN_takeD (some 49) (by rfl) (i := 24) (oi := _) (v := undef) rfl (by kernel_rfl) (by kernel_rfl) (by kernel_rfl) (by kernel_rfl) (fun _ _ _ h => h) (Or.inr ⟨by rfl, rfl⟩) (by assumption) ?_
            try simp only [Act.put, List.setIfInBounds_toArray, List.set_cons_zero, List.set_cons_succ]
            refine wpAnyN_takeD (some 50) (by rfl) (i := 25) (oi := _) (v := ?_) rfl (by kernel_rfl) (by kernel_rfl) (by kernel_rfl) (by kernel_rfl) (fun _ _ _ h => h) (Or.inl ⟨by rfl, ?_⟩) (by assumption) ?_
            rotate_left
            · intro w hSw; (try dsimp only at hSw); go_simp
              first | done | with_reducible rfl
            try simp only [Act.put, List.setIfInBounds_toArray, List.set_cons_zero, List.set_cons_succ]
            refine wpAnyN_done (by kernel_rfl) ?_ _
            clear hHeld
            have HLX := hide (HL.out.trans (HLx.out.trans (show Later wx w6 from (by first | assumption | (repeat (first | assumption | exact Later.refl _ | apply Later.drew | refine Later.alloc ?_ _))))))
            have HF : Hid (ub = false) := hide (by
              rw [← HUB.out]; unfold fulfL
              rw [show (List.range P.cost.length).all (inB P x) = false from List.all_eq_false.2 ⟨j, List.mem_range.2 hjc, by rw [HIN.out]; decide⟩]
              simp)
            go_wp2_with fail
            go_ret
            exact ⟨by rw [HF.out]; rfl, B0.out.trans HLX.out⟩
          | false =>
            cases o with
            | true =>
              have HIN : Hid (inB P x j = true) := hide (by rw [HIN0.out]; rfl)
              refine wp_region_N (fun w' => w'.cell? ⟨gx, 0, none⟩ = some (.bool sx) ∧ w'.cell? ⟨gx, 1, none⟩ = some (.slice Px qx ex) ∧ w'.cell? ⟨gx, 2, none⟩ = some (.bool sx') ∧ w'.cell? ⟨gx, 3, none⟩ = some (.slice Px' qx' ex') ∧ w'.cell? ⟨w.heap.size, 2, none⟩ = some (.slice (some ⟨b3, off3, none⟩) n3 c3) ∧ w'.cell? ⟨w.heap.size, 3, none⟩ = some (.slice (some ⟨b4, off4, none⟩) n4 c4) ∧ w'.cell? ⟨w.heap.size, 4, none⟩ = some (.slice (some ⟨b5, off5, none⟩) n5 c5) ∧ w'.cell? ⟨b3, off3 + j * 4, none⟩ = some (.bool s3) ∧ w'.cell? ⟨b3, off3 + j * 4 + 1, none⟩ = some (.slice P3 q3 e3) ∧ w'.cell? ⟨b3, off3 + j * 4 + 2, none⟩ = some (.bool s3') ∧ w'.cell? ⟨b3, off3 + j * 4 + 3, none⟩ = some (.slice P3' q3' e3') ∧ w'.cell? ⟨b4, off4 + j * 4, none⟩ = some (.bool s4) ∧ w'.cell? ⟨b4, off4 + j * 4 + 1, none⟩ = some (.slice P4 q4 e4) ∧ w'.cell? ⟨b4, off4 + j * 4 + 2, none⟩ = some (.bool s4') ∧ w'.cell? ⟨b4, off4 + j * 4 + 3, none⟩ = some (.slice P4' q4' e4') ∧ w'.cell? ⟨b5, off5 + j, none⟩ = some (.bool true)) [] hmx (HT1.out _ (by first | assumption | (repeat (first | assumption | exact Later.refl _ | apply Later.drew | refine Later.alloc ?_ _)))) (fun hHeld => ?_)
              refine wpAnyN_takeD (some 25) (by rfl) (i := 0) (oi := _) (v := ?_) rfl (by kernel_rfl) (by kernel_rfl) (by kernel_rfl) (by kernel_rfl) (fun _ _ _ h => h) (Or.inl ⟨by rfl, ?_⟩) (by assumption) ?_
              rotate_left
              · intro w hSw; (try dsimp only at hSw); go_simp
                first | done | with_reducible rfl
              try simp only [Act.put, List.setIfInBounds_toArray, List.set_cons_zero, List.set_cons_succ]
              refine wpAnyN_takeD (some 26) (by rfl) (i := 1) (oi := _) (v := ?_) rfl (by kernel_rfl) (by kernel_rfl) (by kernel_rfl) (by kernel_rfl) (fun _ _ _ h => h) (Or.inl ⟨by rfl, ?_⟩) (by assumption) ?_
              rotate_left
              · intro w hSw; (try dsimp only at hSw); go_simp
                first | done | with_reducible rfl
              try simp only [Act.put, List.setIfInBounds_toArray, List.set_cons_zero, List.set_cons_succ]
              refine wpAnyN_takeD (some 27) (by rfl) (i := 2) (oi := _) (v := ?_) rfl (by kernel_rfl) (by kernel_rfl) (by kernel_rfl) (by kernel_rfl) (fun _ _ _ h => h) (Or.inl ⟨by rfl, ?_⟩) (by assumption) ?_
              rotate_left
              · intro w hSw; (try dsimp only at hSw); go_simp
                first | done | with_reducible rfl
              try simp only [Act.put, List.setIfInBounds_toArray, List.set_cons_zero, List.set_cons_succ]
              refine wpAnyN_takeD (some 28) (by rfl) (i := 3) (oi := _) (v := ?_) rfl (by kernel_rfl) (by kernel_rfl) (by kernel_rfl) (by kernel_rfl) (fun _ _ _ h => h) (Or.inl ⟨by rfl, ?_⟩) (by assumption) ?_
              rotate_left
              · intro w hSw; (try dsimp only at hSw); go_simp
                first | done | with_reducible rfl
              try simp only [Act.put, List.setIfInBounds_toArray, List.set_cons_zero, List.set_cons_succ]
              refine wpAnyN_takeD (some 29) (by rfl) (i := 4) (oi := _) (v := ?_) rfl (by kernel_rfl) (by kernel_rfl) (by kernel_rfl) (by kernel_rfl) (fun _ _ _ h => h) (Or.inl ⟨by rfl, ?_⟩) (by assumption) ?_
              rotate_left
              · intro w hSw; (try dsimp only at hSw); go_simp
                first | done | with_reducible rfl
              try simp only [Act.put, List.setIfInBounds_toArray, List.set_cons_zero, List.set_cons_succ]
              refine wpAnyN_takeD (some 30) (by rfl) (i := 5) (oi := _) (v := ?_) rfl (by kernel_rfl) (by kernel_rfl) (by kernel_rfl) (by kernel_rfl) (fun _ _ _ h => h) (Or.inl ⟨by rfl, ?_⟩) (by assumption) ?_
              rotate_left
              · intro w hSw; (try dsimp only at hSw); go_simp
                first | done | with_reducible rfl
              try simp only [Act.put, List.setIfInBounds_toArray, List.set_cons_zero, List.set_cons_succ]
              refine wpAnyN_ready (rs := [6]) (by kernel_rfl) (by simp) ?_
              refine AllReadyN.held rfl (by rfl) (fun K hK => ?_) AllReadyN.nil
              go_simp
              refine (rcmp_calls _ _ _ xj a3 m k (HXJ.out _ (by first | assumption | (repeat (first | assumption | exact Later.refl _ | apply Later.drew | refine Later.alloc ?_ _)))) (HA3.out _ (by first | assumption | (repeat (first | assumption | exact Later.refl _ | apply Later.drew | refine Later.alloc ?_ _)))) (by omega)).mono ?_
              rintro e w6 ⟨rfl, b6⟩
              rw [HC1.out]
              have l6 : Later wx w6 := Later.trans (by first | assumption | (repeat (first | assumption | exact Later.refl _ | apply Later.drew | refine Later.alloc ?_ _))) b6
              clear b6
              refine hK.out _ _ ?_ (fun hHeld => ?_)
              · exact HT1.out _ (by first | assumption | (repeat (first | assumption | exact Later.refl _ | apply Later.drew | refine Later.alloc ?_ _)))
              clear hK K
              try simp only [Act.put, List.setIfInBounds_toArray, List.set_cons_zero, List.set_cons_succ]
              refine wpAnyN_takeD (some 32) (by rfl) (i := 7) (oi := _) (v := ?_) rfl (by kernel_rfl) (by kernel_rfl) (by kernel_rfl) (by kernel_rfl) (fun _ _ _ h => h) (Or.inl ⟨by rfl, ?_⟩) (by assumption) ?_
              rotate_left
              · intro w hSw; (try dsimp only at hSw); go_simp
                first | done | with_reducible rfl
              try simp only [Act.put, List.setIfInBounds_toArray, List.set_cons_zero, List.set_cons_succ]
              refine wpAnyN_takeD (some 33) (by rfl) (i := 8) (oi := _) (v := ?_) rfl (by kernel_rfl) (by kernel_rfl) (by kernel_rfl) (by kernel_rfl) (fun _ _ _ h => h) (Or.inl ⟨by rfl, ?_⟩) (by assumption) ?_
              rotate_left
              · intro w hSw; (try dsimp only at hSw); go_simp
                first | done | with_reducible rfl
              try simp only [Act.put, List.setIfInBounds_toArray, List.set_cons_zero, List.set_cons_succ]
              refine wpAnyN_takeD (some 34) (by rfl) (i := 9) (oi := _) (v := ?_) rfl (by kernel_rfl) (by kernel_rfl) (by kernel_rfl) (by kernel_rfl) (fun _ _ _ h => h) (Or.inl ⟨by rfl, ?_⟩) (by assumption) ?_
              rotate_left
              · intro w hSw; (try dsimp only at hSw); go_simp
                first | done | with_reducible rfl
              try simp only [Act.put, List.setIfInBounds_toArray, List.set_cons_zero, List.set_cons_succ]
              refine wpAnyN_takeD (some 35) (by rfl) (i := 10) (oi := _) (v := ?_) rfl (by kernel_rfl) (by kernel_rfl) (by kernel_rfl) (by kernel_rfl) (fun _ _ _ h => h) (Or.inl ⟨by rfl, ?_⟩) (by assumption) ?_
              rotate_left
              · intro w hSw; (try dsimp only at hSw); go_simp
                first | done | with_reducible rfl
              try simp only [Act.put, List.setIfInBounds_toArray, List.set_cons_zero, List.set_cons_succ]
              refine wpAnyN_takeD (some 36) (by rfl) (i := 11) (oi := _) (v := ?_) rfl (by kernel_rfl) (by kernel_rfl) (by kernel_rfl) (by kernel_rfl) (fun _ _ _ h => h) (Or.inl ⟨by rfl, ?_⟩) (by assumption) ?_
              rotate_left
              · intro w hSw; (try dsimp only at hSw); go_simp
                first | done | with_reducible rfl
              try simp only [Act.put, List.setIfInBounds_toArray, List.set_cons_zero, List.set_cons_succ]
              refine wpAnyN_takeD (some 37) (by rfl) (i := 12) (oi := _) (v := ?_) rfl (by kernel_rfl) (by kernel_rfl) (by kernel_rfl) (by kernel_rfl) (fun _ _ _ h => h) (Or.inl ⟨by rfl, ?_⟩) (by assumption) ?_
              rotate_left
              · intro w hSw; (try dsimp only at hSw); go_simp
                first | done | with_reducible rfl
              try simp only [Act.put, List.setIfInBounds_toArray, List.set_cons_zero, List.set_cons_succ]
              refine wpAnyN_takeD (some 38) (by rfl) (i := 13) (oi := _) (v := ?_) rfl (by kernel_rfl) (by kernel_rfl) (by kernel_rfl) (by kernel_rfl) (fun _ _ _ h => h) (Or.inl ⟨by rfl, ?_⟩) (by assumption) ?_
              rotate_left
              · intro w hSw; (try dsimp only at hSw); go_simp
                first | done | with_reducible rfl
              try simp only [Act.put, List.setIfInBounds_toArray, List.set_cons_zero, List.set_cons_succ]
              refine wpAnyN_takeD (some 39) (by rfl) (i := 14) (oi := _) (v := ?_) rfl (by kernel_rfl) (by kernel_rfl) (by kernel_rfl) (by kernel_rfl) (fun _ _ _ h => h) (Or.inl ⟨by rfl, ?_⟩) (by assumption) ?_
              rotate_left
              · intro w hSw; (try dsimp only at hSw); go_simp
                first | done | with_reducible rfl
              try simp only [Act.put, List.setIfInBounds_toArray, List.set_cons_zero, List.set_cons_succ]
              refine wpAnyN_takeD (some 40) (by rfl) (i := 15) (oi := _) (v := ?_) rfl (by kernel_rfl) (by kernel_rfl) (by kernel_rfl) (by kernel_rfl) (fun _ _ _ h => h) (Or.inl ⟨by rfl, ?_⟩) (by assumption) ?_
              rotate_left
              · intro w hSw; (try dsimp only at hSw); go_simp
                first | done | with_reducible rfl
              try simp only [Act.put, List.setIfInBounds_toArray, List.set_cons_zero, List.set_cons_succ]
              refine wpAnyN_takeD (some 41) (by rfl) (i := 16) (oi := _) (v := undef) rfl (by kernel_rfl) (by kernel_rfl) (by kernel_rfl) (by kernel_rfl) (fun _ _ _ h => h) (Or.inr ⟨by rfl, rfl⟩) (by assumption) ?_
              try simp only [Act.put, List.setIfInBounds_toArray, List.set_cons_zero, List.set_cons_succ]
              refine wpAnyN_takeD (some 42) (by rfl) (i := 17) (oi := _) (v := undef) rfl (by kernel_rfl) (by kernel_rfl) (by kernel_rfl) (by kernel_rfl) (fun _ _ _ h => h) (Or.inr ⟨by rfl, rfl⟩) (by assumption) ?_
              try simp only [Act.put, List.setIfInBounds_toArray, List.set_cons_zero, List.set_cons_succ]
              refine wpAnyN_takeD (some 43) (by rfl) (i := 18) (oi := _) (v := undef) rfl (by kernel_rfl) (by kernel_rfl) (by kernel_rfl) (by kernel_rfl) (fun _ _ _ h => h) (Or.inr ⟨by rfl, rfl⟩) (by assumption) ?_
              try simp only [Act.put, List.setIfInBounds_toArray, List.set_cons_zero, List.set_cons_succ]
              refine wpAnyN_takeD (some 44) (by rfl) (i := 19) (oi := _) (v := undef) rfl (by kernel_rfl) (by kernel_rfl) (by kernel_rfl) (by kernel_rfl) (fun _ _ _ h => h) (Or.inr ⟨by rfl, rfl⟩) (by assumption) ?_
              try simp only [Act.put, List.setIfInBounds_toArray, List.set_cons_zero, List.set_cons_succ]
              refine wpAnyN_takeD (some 45) (by rfl) (i := 20) (oi := _) (v := undef) rfl (by kernel_rfl) (by kernel_rfl) (by kernel_rfl) (by kernel_rfl) (fun _ _ _ h => h) (Or.inr ⟨by rfl, rfl⟩) (by assumption) ?_
              try simp only [Act.put, List.setIfInBounds_toArray, List.set_cons_zero, List.set_cons_succ]
              refine wpAnyN_takeD (some 46) (by rfl) (i := 21) (oi := _) (v := undef) rfl (by kernel_rfl) (by kernel_rfl) (by kernel_rfl) (by kernel_rfl) (fun _ _ _ h => h) (Or.inr ⟨by rfl, rfl⟩) (by assumption) ?_
              try simp only [Act.put, List.setIfInBounds_toArray, List.set_cons_zero, List.set_cons_succ]
              refine wpAnyN_takeD (some 47) (by rfl) (i := 22) (oi := _) (v := undef) rfl (by kernel_rfl) (by kernel_rfl) (by kernel_rfl) (by kernel_rfl) (fun _ _ _ h => h) (Or.inr ⟨by rfl, rfl⟩) (by assumption) ?_
              try simp only [Act.put, List.setIfInBounds_toArray, List.set_cons_zero, List.set_cons_succ]
              refine wpAnyN_takeD (some 48) (by rfl) (i := 23) (oi := _) (v := undef) rfl (by kernel_rfl) (by kernel_rfl) (by kernel_rfl) (by kernel_rfl) (fun _ _ _ h => h) (Or.inr ⟨by rfl, rfl⟩) (by assumption) ?_
              try simp only [Act.put, List.setIfInBounds_toArray, List.set_cons_zero, List.set_cons_succ]
              refine wpAnyN_takeD (some 49) (by rfl) (i := 24) (oi := _) (v := ?_) rfl (by kernel_rfl) (by kernel_rfl) (by kernel_rfl) (by kernel_rfl) (fun _ _ _ h => h) (Or.inl ⟨by rfl, ?_⟩) (by assumption) ?_
              rotate_left
              · intro w hSw; (try dsimp only at hSw); go_simp
                first | done | with_reducible rfl
              try simp only [Act.put, List.setIfInBounds_toArray, List.set_cons_zero, List.set_cons_succ]
              refine wpAnyN_takeD (some 50) (by rfl) (i := 25) (oi := _) (v := ?_) rfl (by kernel_rfl) (by kernel_rfl) (by kernel_rfl) (by kernel_rfl) (fun _ _ _ h => h) (Or.inl ⟨by rfl, ?_⟩) (by assumption) ?_
              rotate_left
              · intro w hSw; (try dsimp only at hSw); go_simp
                first | done | with_reducible rfl
              try simp only [Act.put, List.setIfInBounds_toArray, List.set_cons_zero, List.set_cons_succ]
              refine wpAnyN_done (by kernel_rfl) ?_ _
              clear hHeld
              have HLX := hide (HL.out.trans (HLx.out.trans (show Later wx w6 from (by first | assumption | (repeat (first | assumption | exact Later.refl _ | apply Later.drew | refine Later.alloc ?_ _))))))
              have HNX : Hid (∀ i : Nat, i < j + 1 → inB P x i = true) := hide fun i hi => by
                by_cases hij : i < j
                · exact hpre.out i hij
                · obtain rfl : i = j := by omega
                  exact HIN.out
              go_wp2_with fail
              exact ⟨⟨j+1, by omega, by go_num, HNX.out, HLX.out⟩, by simp [intOf]; omega⟩
            | false =>
              cases u2 with
              | true =>
                have HIN : Hid (inB P x j = false) := hide (by rw [HIN0.out]; rfl)
                refine wp_region_N (fun w' => w'.cell? ⟨gx, 0, none⟩ = some (.bool sx) ∧ w'.cell? ⟨gx, 1, none⟩ = some (.slice Px qx ex) ∧ w'.cell? ⟨gx, 2, none⟩ = some (.bool sx') ∧ w'.cell? ⟨gx, 3, none⟩ = some (.slice Px' qx' ex') ∧ w'.cell? ⟨w.heap.size, 2, none⟩ = some (.slice (some ⟨b3, off3, none⟩) n3 c3) ∧ w'.cell? ⟨w.heap.size, 3, none⟩ = some (.slice (some ⟨b4, off4, none⟩) n4 c4) ∧ w'.cell? ⟨w.heap.size, 4, none⟩ = some (.slice (some ⟨b5, off5, none⟩) n5 c5) ∧ w'.cell? ⟨b3, off3 + j * 4, none⟩ = some (.bool s3) ∧ w'.cell? ⟨b3, off3 + j * 4 + 1, none⟩ = some (.slice P3 q3 e3) ∧ w'.cell? ⟨b3, off3 + j * 4 + 2, none⟩ = some (.bool s3') ∧ w'.cell? ⟨b3, off3 + j * 4 + 3, none⟩ = some (.slice P3' q3' e3') ∧ w'.cell? ⟨b4, off4 + j * 4, none⟩ = some (.bool s4) ∧ w'.cell? ⟨b4, off4 + j * 4 + 1, none⟩ = some (.slice P4 q4 e4) ∧ w'.cell? ⟨b4, off4 + j * 4 + 2, none⟩ = some (.bool s4') ∧ w'.cell? ⟨b4, off4 + j * 4 + 3, none⟩ = some (.slice P4' q4' e4') ∧ w'.cell? ⟨b5, off5 + j, none⟩ = some (.bool false)) [] hmx (HT1.out _ (by first | assumption | (repeat (first | assumption | exact Later.refl _ | apply Later.drew | refine Later.alloc ?_ _)))) (fun hHeld => ?_)
                refine wpAnyN_takeD (some 25) (by rfl) (i := 0) (oi := _) (v := ?_) rfl (by kernel_rfl) (by kernel_rfl) (by kernel_rfl) (by kernel_rfl) (fun _ _ _ h => h) (Or.inl ⟨by rfl, ?_⟩) (by assumption) ?_
                rotate_left
                · intro w hSw; (try dsimp only at hSw); go_simp
                  first | done | with_reducible rfl
                try simp only [Act.put, List.setIfInBounds_toArray, List.set_cons_zero, List.set_cons_succ]
                refine wpAnyN_takeD (some 26) (by rfl) (i := 1) (oi := _) (v := ?_) rfl (by kernel_rfl) (by kernel_rfl) (by kernel_rfl) (by kernel_rfl) (fun _ _ _ h => h) (Or.inl ⟨by rfl, ?_⟩) (by assumption) ?_
                rotate_left
                · intro w hSw; (try dsimp only at hSw); go_simp
                  first | done | with_reducible rfl
                try simp only [Act.put, List.setIfInBounds_toArray, List.set_cons_zero, List.set_cons_succ]
                refine wpAnyN_takeD (some 27) (by rfl) (i := 2) (oi := _) (v := ?_) rfl (by kernel_rfl) (by kernel_rfl) (by kernel_rfl) (by kernel_rfl) (fun _ _ _ h => h) (Or.inl ⟨by rfl, ?_⟩) (by assumption) ?_
                rotate_left
                · intro w hSw; (try dsimp only at hSw); go_simp
                  first | done | with_reducible rfl
                try simp only [Act.put, List.setIfInBounds_toArray, List.set_cons_zero, List.set_cons_succ]
                refine wpAnyN_takeD (some 28) (by rfl) (i := 3) (oi := _) (v := ?_) rfl (by kernel_rfl) (by kernel_rfl) (by kernel_rfl) (by kernel_rfl) (fun _ _ _ h => h) (Or.inl ⟨by rfl, ?_⟩) (by assumption) ?_
                rotate_left
                · intro w hSw; (try dsimp only at hSw); go_simp
                  first | done | with_reducible rfl
                try simp only [Act.put, List.setIfInBounds_toArray, List.set_cons_zero, List.set_cons_succ]
                refine wpAnyN_takeD (some 29) (by rfl) (i := 4) (oi := _) (v := ?_) rfl (by kernel_rfl) (by kernel_rfl) (by kernel_rfl) (by kernel_rfl) (fun _ _ _ h => h) (Or.inl ⟨by rfl, ?_⟩) (by assumption) ?_
                rotate_left
                · intro w hSw; (try dsimp only at hSw); go_simp
                  first | done | with_reducible rfl
                try simp only [Act.put, List.setIfInBounds_toArray, List.set_cons_zero, List.set_cons_succ]
                refine wpAnyN_takeD (some 30) (by rfl) (i := 5) (oi := _) (v := ?_) rfl (by kernel_rfl) (by kernel_rfl) (by kernel_rfl) (by kernel_rfl) (fun _ _ _ h => h) (Or.inl ⟨by rfl, ?_⟩) (by assumption) ?_
                rotate_left
                · intro w hSw; (try dsimp only at hSw); go_simp
                  first | done | with_reducible rfl
                try simp only [Act.put, List.setIfInBounds_toArray, List.set_cons_zero, List.set_cons_succ]
                refine wpAnyN_ready (rs := [6]) (by kernel_rfl) (by simp) ?_
                refine AllReadyN.held rfl (by rfl) (fun K hK => ?_) AllReadyN.nil
                go_simp
                refine (rcmp_calls _ _ _ xj a3 m k (HXJ.out _ (by first | assumption | (repeat (first | assumption | exact Later.refl _ | apply Later.drew | refine Later.alloc ?_ _)))) (HA3.out _ (by first | assumption | (repeat (first | assumption | exact Later.refl _ | apply Later.drew | refine Later.alloc ?_ _)))) (by omega)).mono ?_
                rintro e w6 ⟨rfl, b6⟩
                rw [HC1.out]
                have l6 : Later wx w6 := Later.trans (by first | assumption | (repeat (first | assumption | exact Later.refl _ | apply Later.drew | refine Later.alloc ?_ _))) b6
                clear b6
                refine hK.out _ _ ?_ (fun hHeld => ?_)
                · exact HT1.out _ (by first | assumption | (repeat (first | assumption | exact Later.refl _ | apply Later.drew | refine Later.alloc ?_ _)))
                clear hK K
                try simp only [Act.put, List.setIfInBounds_toArray, List.set_cons_zero, List.set_cons_succ]
                refine wpAnyN_takeD (some 32) (by rfl) (i := 7) (oi := _) (v := ?_) rfl (by kernel_rfl) (by kernel_rfl) (by kernel_rfl) (by kernel_rfl) (fun _ _ _ h => h) (Or.inl ⟨by rfl, ?_⟩) (by assumption) ?_
                rotate_left
                · intro w hSw; (try dsimp only at hSw); go_simp
                  first | done | with_reducible rfl
                try simp only [Act.put, List.setIfInBounds_toArray, List.set_cons_zero, List.set_cons_succ]
                refine wpAnyN_takeD (some 33) (by rfl) (i := 8) (oi := _) (v := ?_) rfl (by kernel_rfl) (by kernel_rfl) (by kernel_rfl) (by kernel_rfl) (fun _ _ _ h => h) (Or.inl ⟨by rfl, ?_⟩) (by assumption) ?_
                rotate_left
                · intro w hSw; (try dsimp only at hSw); go_simp
                  first | done | with_reducible rfl
                try simp only [Act.put, List.setIfInBounds_toArray, List.set_cons_zero, List.set_cons_succ]
                refine wpAnyN_takeD (some 34) (by rfl) (i := 9) (oi := _) (v := ?_) rfl (by kernel_rfl) (by kernel_rfl) (by kernel_rfl) (by kernel_rfl) (fun _ _ _ h => h) (Or.inl ⟨by rfl, ?_⟩) (by assumption) ?_
                rotate_left
                · intro w hSw; (try dsimp only at hSw); go_simp
                  first | done | with_reducible rfl
                try simp only [Act.put, List.setIfInBounds_toArray, List.set_cons_zero, List.set_cons_succ]
                refine wpAnyN_takeD (some 35) (by rfl) (i := 10) (oi := _) (v := ?_) rfl (by kernel_rfl) (by kernel_rfl) (by kernel_rfl) (by kernel_rfl) (fun _ _ _ h => h) (Or.inl ⟨by rfl, ?_⟩) (by assumption) ?_
                rotate_left
                · intro w hSw; (try dsimp only at hSw); go_simp
                  first | done | with_reducible rfl
                try simp only [Act.put, List.setIfInBounds_toArray, List.set_cons_zero, List.set_cons_succ]
                refine wpAnyN_takeD (some 36) (by rfl) (i := 11) (oi := _) (v := ?_) rfl (by kernel_rfl) (by kernel_rfl) (by kernel_rfl) (by kernel_rfl) (fun _ _ _ h => h) (Or.inl ⟨by rfl, ?_⟩) (by assumption) ?_
                rotate_left
                · intro w hSw; (try dsimp only at hSw); go_simp
                  first | done | with_reducible rfl
                try simp only [Act.put, List.setIfInBounds_toArray, List.set_cons_zero, List.set_cons_succ]
                refine wpAnyN_takeD (some 37) (by rfl) (i := 12) (oi := _) (v := ?_) rfl (by kernel_rfl) (by kernel_rfl) (by kernel_rfl) (by kernel_rfl) (fun _ _ _ h => h) (Or.inl ⟨by rfl, ?_⟩) (by assumption) ?_
                rotate_left
                · intro w hSw; (try dsimp only at hSw); go_simp
                  first | done | with_reducible rfl
                try simp only [Act.put, List.setIfInBounds_toArray, List.set_cons_zero, List.set_cons_succ]
                refine wpAnyN_takeD (some 38) (by rfl) (i := 13) (oi := _) (v := ?_) rfl (by kernel_rfl) (by kernel_rfl) (by kernel_rfl) (by kernel_rfl) (fun _ _ _ h => h) (Or.inl ⟨by rfl, ?_⟩) (by assumption) ?_
                rotate_left
                · intro w hSw; (try dsimp only at hSw); go_simp
                  first | done | with_reducible rfl
                try simp only [Act.put, List.setIfInBounds_toArray, List.set_cons_zero, List.set_cons_succ]
                refine wpAnyN_takeD (some 39) (by rfl) (i := 14) (oi := _) (v := ?_) rfl (by kernel_rfl) (by kernel_rfl) (by kernel_rfl) (by kernel_rfl) (fun _ _ _ h => h) (Or.inl ⟨by rfl, ?_⟩) (by assumption) ?_
                rotate_left
                · intro w hSw; (try dsimp only at hSw); go_simp
                  first | done | with_reducible rfl
                try simp only [Act.put, List.setIfInBounds_toArray, List.set_cons_zero, List.set_cons_succ]
                refine wpAnyN_takeD (some 40) (by rfl) (i := 15) (oi := _) (v := ?_) rfl (by kernel_rfl) (by kernel_rfl) (by kernel_rfl) (by kernel_rfl) (fun _ _ _ h => h) (Or.inl ⟨by rfl, ?_⟩) (by assumption) ?_
                rotate_left
                · intro w hSw; (try dsimp only at hSw); go_simp
                  first | done | with_reducible rfl
                try simp only [Act.put, List.setIfInBounds_toArray, List.set_cons_zero, List.set_cons_succ]
                refine wpAnyN_takeD (some 41) (by rfl) (i := 16) (oi := _) (v := ?_) rfl (by kernel_rfl) (by kernel_rfl) (by kernel_rfl) (by kernel_rfl) (fun _ _ _ h => h) (Or.inl ⟨by rfl, ?_⟩) (by assumption) ?_
                rotate_left
                · intro w hSw; (try dsimp only at hSw); go_simp
                  first | done | with_reducible rfl
                try simp only [Act.put, List.setIfInBounds_toArray, List.set_cons_zero, List.set_cons_succ]
                refine wpAnyN_takeD (some 42) (by rfl) (i := 17) (oi := _) (v := ?_) rfl (by kernel_rfl) (by kernel_rfl) (by kernel_rfl) (by kernel_rfl) (fun _ _ _ h => h) (Or.inl ⟨by rfl, ?_⟩) (by assumption) ?_
                rotate_left
                · intro w hSw; (try dsimp only at hSw); go_simp
                  first | done | with_reducible rfl
                try simp only [Act.put, List.setIfInBounds_toArray, List.set_cons_zero, List.set_cons_succ]
                refine wpAnyN_takeD (some 43) (by rfl) (i := 18) (oi := _) (v := ?_) rfl (by kernel_rfl) (by kernel_rfl) (by kernel_rfl) (by kernel_rfl) (fun _ _ _ h => h) (Or.inl ⟨by rfl, ?_⟩) (by assumption) ?_
                rotate_left
                · intro w hSw; (try dsimp only at hSw); go_simp
                  first | done | with_reducible rfl
                try simp only [Act.put, List.setIfInBounds_toArray, List.set_cons_zero, List.set_cons_succ]
                refine wpAnyN_takeD (some 44) (by rfl) (i := 19) (oi := _) (v := ?_) rfl (by kernel_rfl) (by kernel_rfl) (by kernel_rfl) (by kernel_rfl) (fun _ _ _ h => h) (Or.inl ⟨by rfl, ?_⟩) (by assumption) ?_
                rotate_left
                · intro w hSw; (try dsimp only at hSw); go_simp
                  first | done | with_reducible rfl
                try simp only [Act.put, List.setIfInBounds_toArray, List.set_cons_zero, List.set_cons_succ]
                refine wpAnyN_takeD (some 45) (by rfl) (i := 20) (oi := _) (v := ?_) rfl (by kernel_rfl) (by kernel_rfl) (by kernel_rfl) (by kernel_rfl) (fun _ _ _ h => h) (Or.inl ⟨by rfl, ?_⟩) (by assumption) ?_
                rotate_left
                · intro w hSw; (try dsimp only at hSw); go_simp
                  first | done | with_reducible rfl
                try simp only [Act.put, List.setIfInBounds_toArray, List.set_cons_zero, List.set_cons_succ]
                refine wpAnyN_takeD (some 46) (by rfl) (i := 21) (oi := _) (v := ?_) rfl (by kernel_rfl) (by kernel_rfl) (by kernel_rfl) (by kernel_rfl) (fun _ _ _ h => h) (Or.inl ⟨by rfl, ?_⟩) (by assumption) ?_
                rotate_left
                · intro w hSw; (try dsimp only at hSw); go_simp
                  first | done | with_reducible rfl
                try simp only [Act.put, List.setIfInBounds_toArray, List.set_cons_zero, List.set_cons_succ]
                refine wpAnyN_ready (rs := [22]) (by kernel_rfl) (by simp) ?_
                refine AllReadyN.held rfl (by rfl) (fun K hK => ?_) AllReadyN.nil
                go_simp
                refine (rcmp_calls _ _ _ xj a4 m k (HXJ.out _ (by first | assumption | (repeat (first | assumption | exact Later.refl _ | apply Later.drew | refine Later.alloc ?_ _)))) (HA4.out _ (by first | assumption | (repeat (first | assumption | exact Later.refl _ | apply Later.drew | refine Later.alloc ?_ _)))) (by omega)).mono ?_
                rintro e w7 ⟨rfl, b7⟩
                rw [HC2.out]
                have l7 : Later wx w7 := Later.trans (by first | assumption | (repeat (first | assumption | exact Later.refl _ | apply Later.drew | refine Later.alloc ?_ _))) b7
                clear b7
                refine hK.out _ _ ?_ (fun hHeld => ?_)
                · exact HT1.out _ (by first | assumption | (repeat (first | assumption | exact Later.refl _ | apply Later.drew | refine Later.alloc ?_ _)))
                clear hK K
                try simp only [Act.put, List.setIfInBounds_toArray, List.set_cons_zero, List.set_cons_succ]
                refine wpAnyN_takeD (some 48) (by rfl) (i := 23) (oi := _) (v := ?_) rfl (by kernel_rfl) (by kernel_rfl) (by kernel_rfl) (by kernel_rfl) (fun _ _ _ h => h) (Or.inl ⟨by rfl, ?_⟩) (by assumption) ?_
                rotate_left
                · intro w hSw; (try dsimp only at hSw); go_simp
                  first | done | with_reducible rfl
                try simp only [Act.put, List.setIfInBounds_toArray, List.set_cons_zero, List.set_cons_succ]
                refine wpAnyN_takeD (some 49) (by rfl) (i := 24) (oi := _) (v := ?_) rfl (by kernel_rfl) (by kernel_rfl) (by kernel_rfl) (by kernel_rfl) (fun _ _ _ h => h) (Or.inl ⟨by rfl, ?_⟩) (by assumption) ?_
                rotate_left
                · intro w hSw; (try dsimp only at hSw); go_simp
                  first | done | with_reducible rfl
                try simp only [Act.put, List.setIfInBounds_toArray, List.set_cons_zero, List.set_cons_succ]
                refine wpAnyN_takeD (some 50) (by rfl) (i := 25) (oi := _) (v := ?_) rfl (by kernel_rfl) (by kernel_rfl) (by kernel_rfl) (by kernel_rfl) (fun _ _ _ h => h) (Or.inl ⟨by rfl, ?_⟩) (by assumption) ?_
                rotate_left
                · intro w hSw; (try dsimp only at hSw); go_simp
                  first | done | with_reducible rfl
                try simp only [Act.put, List.setIfInBounds_toArray, List.set_cons_zero, List.set_cons_succ]
                refine wpAnyN_done (by kernel_rfl) ?_ _
                clear hHeld
                have HLX := hide (HL.out.trans (HLx.out.trans (show Later wx w7 from (by first | assumption | (repeat (first | assumption | exact Later.refl _ | apply Later.drew | refine Later.alloc ?_ _))))))
                have HF : Hid (ub = false) := hide (by
                  rw [← HUB.out]; unfold fulfL
                  rw [show (List.range P.cost.length).all (inB P x) = false from List.all_eq_false.2 ⟨j, List.mem_range.2 hjc, by rw [HIN.out]; decide⟩]
                  simp)
                go_wp2_with fail
                go_ret
                exact ⟨by rw [HF.out]; rfl, B0.out.trans HLX.out⟩
              | false =>
                have HIN : Hid (inB P x j = true) := hide (by rw [HIN0.out]; rfl)
                refine wp_region_N (fun w' => w'.cell? ⟨gx, 0, none⟩ = some (.bool sx) ∧ w'.cell? ⟨gx, 1, none⟩ = some (.slice Px qx ex) ∧ w'.cell? ⟨gx, 2, none⟩ = some (.bool sx') ∧ w'.cell? ⟨gx, 3, none⟩ = some (.slice Px' qx' ex') ∧ w'.cell? ⟨w.heap.size, 2, none⟩ = some (.slice (some ⟨b3, off3, none⟩) n3 c3) ∧ w'.cell? ⟨w.heap.size, 3, none⟩ = some (.slice (some ⟨b4, off4, none⟩) n4 c4) ∧ w'.cell? ⟨w.heap.size, 4, none⟩ = some (.slice (some ⟨b5, off5, none⟩) n5 c5) ∧ w'.cell? ⟨b3, off3 + j * 4, none⟩ = some (.bool s3) ∧ w'.cell? ⟨b3, off3 + j * 4 + 1, none⟩ = some (.slice P3 q3 e3) ∧ w'.cell? ⟨b3, off3 + j * 4 + 2, none⟩ = some (.bool s3') ∧ w'.cell? ⟨b3, off3 + j * 4 + 3, none⟩ = some (.slice P3' q3' e3') ∧ w'.cell? ⟨b4, off4 + j * 4, none⟩ = some (.bool s4) ∧ w'.cell? ⟨b4, off4 + j * 4 + 1, none⟩ = some (.slice P4 q4 e4) ∧ w'.cell? ⟨b4, off4 + j * 4 + 2, none⟩ = some (.bool s4') ∧ w'.cell? ⟨b4, off4 + j * 4 + 3, none⟩ = some (.slice P4' q4' e4') ∧ w'.cell? ⟨b5, off5 + j, none⟩ = some (.bool false)) [] hmx (HT1.out _ (by first | assumption | (repeat (first | assumption | exact Later.refl _ | apply Later.drew | refine Later.alloc ?_ _)))) (fun hHeld => ?_)
                refine wpAnyN_takeD (some 25) (by rfl) (i := 0) (oi := _) (v := ?_) rfl (by kernel_rfl) (by kernel_rfl) (by kernel_rfl) (by kernel_rfl) (fun _ _ _ h => h) (Or.inl ⟨by rfl, ?_⟩) (by assumption) ?_
                rotate_left
                · intro w hSw; (try dsimp only at hSw); go_simp
                  first | done | with_reducible rfl
                try simp only [Act.put, List.setIfInBounds_toArray, List.set_cons_zero, List.set_cons_succ]
                refine wpAnyN_takeD (some 26) (by rfl) (i := 1) (oi := _) (v := ?_) rfl (by kernel_rfl) (by kernel_rfl) (by kernel_rfl) (by kernel_rfl) (fun _ _ _ h => h) (Or.inl ⟨by rfl, ?_⟩) (by assumption) ?_
                rotate_left
                · intro w hSw; (try dsimp only at hSw); go_simp
                  first | done | with_reducible rfl
                try simp only [Act.put, List.setIfInBounds_toArray, List.set_cons_zero, List.set_cons_succ]
                refine wpAnyN_takeD (some 27) (by rfl) (i := 2) (oi := _) (v := ?_) rfl (by kernel_rfl) (by kernel_rfl) (by kernel_rfl) (by kernel_rfl) (fun _ _ _ h => h) (Or.inl ⟨by rfl, ?_⟩) (by assumption) ?_
                rotate_left
                · intro w hSw; (try dsimp only at hSw); go_simp
                  first | done | with_reducible rfl
                try simp only [Act.put, List.setIfInBounds_toArray, List.set_cons_zero, List.set_cons_succ]
                refine wpAnyN_takeD (some 28) (by rfl) (i := 3) (oi := _) (v := ?_) rfl (by kernel_rfl) (by kernel_rfl) (by kernel_rfl) (by kernel_rfl) (fun _ _ _ h => h) (Or.inl ⟨by rfl, ?_⟩) (by assumption) ?_
                rotate_left
                · intro w hSw; (try dsimp only at hSw); go_simp
                  first | done | with_reducible rfl
                try simp only [Act.put, List.setIfInBounds_toArray, List.set_cons_zero, List.set_cons_succ]
                refine wpAnyN_takeD (some 29) (by rfl) (i := 4) (oi := _) (v := ?_) rfl (by kernel_rfl) (by kernel_rfl) (by kernel_rfl) (by kernel_rfl) (fun _ _ _ h => h) (Or.inl ⟨by rfl, ?_⟩) (by assumption) ?_
                rotate_left
                · intro w hSw; (try dsimp only at hSw); go_simp
                  first | done | with_reducible rfl
                try simp only [Act.put, List.setIfInBounds_toArray, List.set_cons_zero, List.set_cons_succ]
                refine wpAnyN_takeD (some 30) (by rfl) (i := 5) (oi := _) (v := ?_) rfl (by kernel_rfl) (by kernel_rfl) (by kernel_rfl) (by kernel_rfl) (fun _ _ _ h => h) (Or.inl ⟨by rfl, ?_⟩) (by assumption) ?_
                rotate_left
                · intro w hSw; (try dsimp only at hSw); go_simp
                  first | done | with_reducible rfl
                try simp only [Act.put, List.setIfInBounds_toArray, List.set_cons_zero, List.set_cons_succ]
                refine wpAnyN_ready (rs := [6]) (by kernel_rfl) (by simp) ?_
                refine AllReadyN.held rfl (by rfl) (fun K hK => ?_) AllReadyN.nil
                go_simp
                refine (rcmp_calls _ _ _ xj a3 m k (HXJ.out _ (by first | assumption | (repeat (first | assumption | exact Later.refl _ | apply Later.drew | refine Later.alloc ?_ _)))) (HA3.out _ (by first | assumption | (repeat (first | assumption | exact Later.refl _ | apply Later.drew | refine Later.alloc ?_ _)))) (by omega)).mono ?_
                rintro e w6 ⟨rfl, b6⟩
                rw [HC1.out]
                have l6 : Later wx w6 := Later.trans (by first | assumption | (repeat (first | assumption | exact Later.refl _ | apply Later.drew | refine Later.alloc ?_ _))) b6
                clear b6
                refine hK.out _ _ ?_ (fun hHeld => ?_)
                · exact HT1.out _ (by first | assumption | (repeat (first | assumption | exact Later.refl _ | apply Later.drew | refine Later.alloc ?_ _)))
                clear hK K
                try simp only [Act.put, List.setIfInBounds_toArray, List.set_cons_zero, List.set_cons_succ]
                refine wpAnyN_takeD (some 32) (by rfl) (i := 7) (oi := _) (v := ?_) rfl (by kernel_rfl) (by kernel_rfl) (by kernel_rfl) (by kernel_rfl) (fun _ _ _ h => h) (Or.inl ⟨by rfl, ?_⟩) (by assumption) ?_
                rotate_left
                · intro w hSw; (try dsimp only at hSw); go_simp
                  first | done | with_reducible rfl
                try simp only [Act.put, List.setIfInBounds_toArray, List.set_cons_zero, List.set_cons_succ]
                refine wpAnyN_takeD (some 33) (by rfl) (i := 8) (oi := _) (v := ?_) rfl (by kernel_rfl) (by kernel_rfl) (by kernel_rfl) (by kernel_rfl) (fun _ _ _ h => h) (Or.inl ⟨by rfl, ?_⟩) (by assumption) ?_
                rotate_left
                · intro w hSw; (try dsimp only at hSw); go_simp
                  first | done | with_reducible rfl
                try simp only [Act.put, List.setIfInBounds_toArray, List.set_cons_zero, List.set_cons_succ]
                refine wpAnyN_takeD (some 34) (by rfl) (i := 9) (oi := _) (v := ?_) rfl (by kernel_rfl) (by kernel_rfl) (by kernel_rfl) (by kernel_rfl) (fun _ _ _ h => h) (Or.inl ⟨by rfl, ?_⟩) (by assumption) ?_
                rotate_left
                · intro w hSw; (try dsimp only at hSw); go_simp
                  first | done | with_reducible rfl
                try simp only [Act.put, List.setIfInBounds_toArray, List.set_cons_zero, List.set_cons_succ]
                refine wpAnyN_takeD (some 35) (by rfl) (i := 10) (oi := _) (v := ?_) rfl (by kernel_rfl) (by kernel_rfl) (by kernel_rfl) (by kernel_rfl) (fun _ _ _ h => h) (Or.inl ⟨by rfl, ?_⟩) (by assumption) ?_
                rotate_left
                · intro w hSw; (try dsimp only at hSw); go_simp
                  first | done | with_reducible rfl
                try simp only [Act.put, List.setIfInBounds_toArray, List.set_cons_zero, List.set_cons_succ]
                refine wpAnyN_takeD (some 36) (by rfl) (i := 11) (oi := _) (v := ?_) rfl (by kernel_rfl) (by kernel_rfl) (by kernel_rfl) (by kernel_rfl) (fun _ _ _ h => h) (Or.inl ⟨by rfl, ?_⟩) (by assumption) ?_
                rotate_left
                · intro w hSw; (try dsimp only at hSw); go_simp
                  first | done | with_reducible rfl
                try simp only [Act.put, List.setIfInBounds_toArray, List.set_cons_zero, List.set_cons_succ]
                refine wpAnyN_takeD (some 37) (by rfl) (i := 12) (oi := _) (v := ?_) rfl (by kernel_rfl) (by kernel_rfl) (by kernel_rfl) (by kernel_rfl) (fun _ _ _ h => h) (Or.inl ⟨by rfl, ?_⟩) (by assumption) ?_
                rotate_left
                · intro w hSw; (try dsimp only at hSw); go_simp
                  first | done | with_reducible rfl
                try simp only [Act.put, List.setIfInBounds_toArray, List.set_cons_zero, List.set_cons_succ]
                refine wpAnyN_takeD (some 38) (by rfl) (i := 13) (oi := _) (v := ?_) rfl (by kernel_rfl) (by kernel_rfl) (by kernel_rfl) (by kernel_rfl) (fun _ _ _ h => h) (Or.inl ⟨by rfl, ?_⟩) (by assumption) ?_
                rotate_left
                · intro w hSw; (try dsimp only at hSw); go_simp
                  first | done | with_reducible rfl
                try simp only [Act.put, List.setIfInBounds_toArray, List.set_cons_zero, List.set_cons_succ]
                refine wpAnyN_takeD (some 39) (by rfl) (i := 14) (oi := _) (v := ?_) rfl (by kernel_rfl) (by kernel_rfl) (by kernel_rfl) (by kernel_rfl) (fun _ _ _ h => h) (Or.inl ⟨by rfl, ?_⟩) (by assumption) ?_
                rotate_left
                · intro w hSw; (try dsimp only at hSw); go_simp
                  first | done | with_reducible rfl
                try simp only [Act.put, List.setIfInBounds_toArray, List.set_cons_zero, List.set_cons_succ]
                refine wpAnyN_takeD (some 40) (by rfl) (i := 15) (oi := _) (v := ?_) rfl (by kernel_rfl) (by kernel_rfl) (by kernel_rfl) (by kernel_rfl) (fun _ _ _ h => h) (Or.inl ⟨by rfl, ?_⟩) (by assumption) ?_
                rotate_left
                · intro w hSw; (try dsimp only at hSw); go_simp
                  first | done | with_reducible rfl
                try simp only [Act.put, List.setIfInBounds_toArray, List.set_cons_zero, List.set_cons_succ]
                refine wpAnyN_takeD (some 41) (by rfl) (i := 16) (oi := _) (v := ?_) rfl (by kernel_rfl) (by kernel_rfl) (by kernel_rfl) (by kernel_rfl) (fun _ _ _ h => h) (Or.inl ⟨by rfl, ?_⟩) (by assumption) ?_
                rotate_left
                · intro w hSw; (try dsimp only at hSw); go_simp
                  first | done | with_reducible rfl
                try simp only [Act.put, List.setIfInBounds_toArray, List.set_cons_zero, List.set_cons_succ]
                refine wpAnyN_takeD (some 42) (by rfl) (i := 17) (oi := _) (v := ?_) rfl (by kernel_rfl) (by kernel_rfl) (by kernel_rfl) (by kernel_rfl) (fun _ _ _ h => h) (Or.inl ⟨by rfl, ?_⟩) (by assumption) ?_
                rotate_left
                · intro w hSw; (try dsimp only at hSw); go_simp
                  first | done | with_reducible rfl
                try simp only [Act.put, List.setIfInBounds_toArray, List.set_cons_zero, List.set_cons_succ]
                refine wpAnyN_takeD (some 43) (by rfl) (i := 18) (oi := _) (v := ?_) rfl (by kernel_rfl) (by kernel_rfl) (by kernel_rfl) (by kernel_rfl) (fun _ _ _ h => h) (Or.inl ⟨by rfl, ?_⟩) (by assumption) ?_
                rotate_left
                · intro w hSw; (try dsimp only at hSw); go_simp
                  first | done | with_reducible rfl
                try simp only [Act.put, List.setIfInBounds_toArray, List.set_cons_zero, List.set_cons_succ]
                refine wpAnyN_takeD (some 44) (by rfl) (i := 19) (oi := _) (v := ?_) rfl (by kernel_rfl) (by kernel_rfl) (by kernel_rfl) (by kernel_rfl) (fun _ _ _ h => h) (Or.inl ⟨by rfl, ?_⟩) (by assumption) ?_
                rotate_left
                · intro w hSw; (try dsimp only at hSw); go_simp
                  first | done | with_reducible rfl
                try simp only [Act.put, List.setIfInBounds_toArray, List.set_cons_zero, List.set_cons_succ]
                refine wpAnyN_takeD (some 45) (by rfl) (i := 20) (oi := _) (v := ?_) rfl (by kernel_rfl) (by kernel_rfl) (by kernel_rfl) (by kernel_rfl) (fun _ _ _ h => h) (Or.inl ⟨by rfl, ?_⟩) (by assumption) ?_
                rotate_left
                · intro w hSw; (try dsimp only at hSw); go_simp
                  first | done | with_reducible rfl
                try simp only [Act.put, List.setIfInBounds_toArray, List.set_cons_zero, List.set_cons_succ]
                refine wpAnyN_takeD (some 46) (by rfl) (i := 21) (oi := _) (v := ?_) rfl (by kernel_rfl) (by kernel_rfl) (by kernel_rfl) (by kernel_rfl) (fun _ _ _ h => h) (Or.inl ⟨by rfl, ?_⟩) (by assumption) ?_
                rotate_left
                · intro w hSw; (try dsimp only at hSw); go_simp
                  first | done | with_reducible rfl
                try simp only [Act.put, List.setIfInBounds_toArray, List.set_cons_zero, List.set_cons_succ]
                refine wpAnyN_ready (rs := [22]) (by kernel_rfl) (by simp) ?_
                refine AllReadyN.held rfl (by rfl) (fun K hK => ?_) AllReadyN.nil
                go_simp
                refine (rcmp_calls _ _ _ xj a4 m k (HXJ.out _ (by first | assumption | (repeat (first | assumption | exact Later.refl _ | apply Later.drew | refine Later.alloc ?_ _)))) (HA4.out _ (by first | assumption | (repeat (first | assumption | exact Later.refl _ | apply Later.drew | refine Later.alloc ?_ _)))) (by omega)).mono ?_
                rintro e w7 ⟨rfl, b7⟩
                rw [HC2.out]
                have l7 : Later wx w7 := Later.trans (by first | assumption | (repeat (first | assumption | exact Later.refl _ | apply Later.drew | refine Later.alloc ?_ _))) b7
                clear b7
                refine hK.out _ _ ?_ (fun hHeld => ?_)
                · exact HT1.out _ (by first | assumption | (repeat (first | assumption | exact Later.refl _ | apply Later.drew | refine Later.alloc ?_ _)))
                clear hK K
                try simp only [Act.put, List.setIfInBounds_toArray, List.set_cons_zero, List.set_cons_succ]
                refine wpAnyN_takeD (some 48) (by rfl) (i := 23) (oi := _) (v := ?_) rfl (by kernel_rfl) (by kernel_rfl) (by kernel_rfl) (by kernel_rfl) (fun _ _ _ h => h) (Or.inl ⟨by rfl, ?_⟩) (by assumption) ?_
                rotate_left
                · intro w hSw; (try dsimp only at hSw); go_simp
                  first | done | with_reducible rfl
                try simp only [Act.put, List.setIfInBounds_toArray, List.set_cons_zero, List.set_cons_succ]
                refine wpAnyN_takeD (some 49) (by rfl) (i := 24) (oi := _) (v := ?_) rfl (by kernel_rfl) (by kernel_rfl) (by kernel_rfl) (by kernel_rfl) (fun _ _ _ h => h) (Or.inl ⟨by rfl, ?_⟩) (by assumption) ?_
                rotate_left
                · intro w hSw; (try dsimp only at hSw); go_simp
                  first | done | with_reducible rfl
                try simp only [Act.put, List.setIfInBounds_toArray, List.set_cons_zero, List.set_cons_succ]
                refine wpAnyN_takeD (some 50) (by rfl) (i := 25) (oi := _) (v := ?_) rfl (by kernel_rfl) (by kernel_rfl) (by kernel_rfl) (by kernel_rfl) (fun _ _ _ h => h) (Or.inl ⟨by rfl, ?_⟩) (by assumption) ?_
                rotate_left
                · intro w hSw; (try dsimp only at hSw); go_simp
                  first | done | with_reducible rfl
                try simp only [Act.put, List.setIfInBounds_toArray, List.set_cons_zero, List.set_cons_succ]
                refine wpAnyN_done (by kernel_rfl) ?_ _
                clear hHeld
                have HLX := hide (HL.out.trans (HLx.out.trans (show Later wx w7 from (by first | assumption | (repeat (first | assumption | exact Later.refl _ | apply Later.drew | refine Later.alloc ?_ _))))))
                have HNX : Hid (∀ i : Nat, i < j + 1 → inB P x i = true) := hide fun i hi => by
                  by_cases hij : i < j
                  · exact hpre.out i hij
                  · obtain rfl : i = j := by omega
                    exact HIN.out
                go_wp2_with fail
                exact ⟨⟨j+1, by omega, by go_num, HNX.out, HLX.out⟩, by simp [intOf]; omega⟩
        · have HALL : Hid ((List.range P.cost.length).all (inB P x) = true) := hide (List.all_eq_true.2 fun i hi => hpre.out i (by have := List.mem_range.1 hi; have := HLEN.out; have := HNX.out; omega))
          obtain ⟨ur, hur⟩ : ∃ b, P.rows.any (fun r => !rowHolds r x) = b := ⟨_, rfl⟩
          have HFU : Hid (ub = !ur) := hide (by
            rw [← HUB.out, ← hur]; unfold fulfL
            rw [HU.out, HALL.out, decide_eq_true HLEN.out, Bool.true_and, Bool.true_and, Bool.true_and]
            induction P.rows with
            | nil => rfl
            | cons r rs ih => rw [List.all_cons, List.any_cons, ih, Bool.not_or, Bool.not_not])
          have HUR := hide hur
          have hj1 : ¬ (j : Int) < nx := by omega
          clear hur
          have r_d := R0.out.later HL.out
          have d0 := r_d.cell (i := 0) rfl; have d1 := r_d.cell (i := 1) rfl; have d2 := r_d.cell (i := 2) rfl; have d3 := r_d.cell (i := 3) rfl; have d4 := r_d.cell (i := 4) rfl
          clear r_d
          go_wp2_with fail
          refine (contW1_calls _ _ P.rows (H.out.rows.later ERow.later (B0.out.trans HL.out)) (by have := H.out.rl; omega) _ ⟨fun _ _ => by kernel_rfl⟩ (w.heap.size + 1) (fun r => !rowHolds r x) (fun W r y hW he hm2 => pful1_calls W r y k he hkk (w.heap.size + 1) _ _ _ x m (HX.out.later ERaw.later (B0.out.trans (HL.out.trans hW))) (R1.out.later (HL.out.trans hW)) hm (by rw [HLEN.out]; exact (HP.out.rows y hm2).1) (HP.out.rows y hm2).2.1 _ rfl) ur HUR.out).mono ?_
          rintro e w9 ⟨rfl, b9⟩
          have HL9 := hide (HL.out.trans b9)
          clear b9 d0 d1 d2 d3 d4
          go_wp2_with fail
          go_ret
          exact ⟨by rw [HFU.out]; rfl, B0.out.trans HL9.out⟩
    · have t1 : ((nx : Int) != (n1 : Int)) = true := by rw [bne_iff_ne]; omega
      have HF : Hid (ub = false) := hide (by rw [← HUB.out]; unfold fulfL; rw [HU.out, decide_eq_false (by rw [← HNX.out, ← L1.out]; exact hlen)]; rfl)
      go_wp2_with fail
      go_ret
      exact ⟨by rw [HF.out]; rfl, B0.out.trans HL1.out⟩
end Go.Proofs.YtfokplidiboabaaGreat
