/- Plans: what a plan costs (the reference). -/
import Derived.Test.YthncinngkfflgaaGreatQ22
set_option linter.unusedVariables false
set_option linter.unusedSimpArgs false
set_option maxRecDepth 100000
namespace Go.Proofs.YthncinngkfflgaaGreat
open Go.RowKit Go.Shelf
attribute [local go_sem ↓] Go.wp_at_zero Go.wp_at_succ

set_option maxHeartbeats 16000000 in
theorem rcost2_calls (w : World) (A1 A2 A3 A4 : Option Addr) (n1 n2 n3 n4 c1 c2 c3 c4 : Nat) (D : PBook) (h : BookIn w (.slice A1 n1 c1) (.slice A2 n2 c2) (.slice A3 n3 c3) (.slice A4 n4 c4) D) (Aq : Option Addr) (nq cq : Nat) (t : List (List Int)) (hq : GridIn w (.slice Aq nq cq) t) :
    Calls Tryz.prog 35 #[.agg #[.slice A1 n1 c1, .int .i64 D.hor, .int .i64 D.now, .slice A2 n2 c2, .slice A3 n3 c3, .slice A4 n4 c4], .slice Aq nq cq] w (RetC w (costV D t) (shapeB D t)) := by
  have H := hide h; have HQ := hide hq
  have LQ := hide hq.lenq
  obtain ⟨l1, l2, l3, l4⟩ := h.lens
  have L1 := hide l1
  obtain ⟨u0, hu0⟩ : ∃ u, shapeB D t = u := ⟨_, rfl⟩
  have HU0 := hide hu0
  have HC : Hid (costV D t = if u0 = true then costTo D t t.length else 0) := hide (by unfold costV; rw [hu0])
  obtain ⟨zc, hzc⟩ : ∃ z, costV D t = z := ⟨_, rfl⟩
  rw [hzc] at HC
  rw [hu0, hzc]
  clear h hq hu0 hzc l1 l2 l3 l4
  obtain ⟨W0, hW0⟩ : ∃ W0, W0 = ((w.alloc (Obj.cells #[Value.slice A1 n1 c1, Value.int .i64 D.hor, Value.int .i64 D.now, Value.slice A2 n2 c2, Value.slice A3 n3 c3, Value.slice A4 n4 c4] 47)).alloc (Obj.cells #[Value.bool false, Value.slice none 0 0, Value.bool false, Value.slice none 0 0] 37)) := ⟨_, rfl⟩
  obtain ⟨hb0, r0, r1, hsz0⟩ := boxes2 w [.slice A1 n1 c1, .int .i64 D.hor, .int .i64 D.now, .slice A2 n2 c2, .slice A3 n3 c3, .slice A4 n4 c4] [.bool false, .slice none 0 0, .bool false, .slice none 0 0] 47 37 hW0
  have B0 := hide hb0; have HW0 := hide hW0
  have R0 := hide r0; have R1 := hide r1
  clear hb0 hW0 hsz0 r0 r1
  go_enter Tryz.func35, Tryz.ntmps35
  go_upto_region 1 with fail
  rw [← HW0.out]
  go_wp2_with fail
  ((with_reducible refine (qzero_calls W0).mono ?_); rintro e w1 ⟨v1, rfl, o1, b1⟩)
  obtain ⟨s1, P1, q1, e1, P1', q1', e1', rfl, o1⟩ := o1.open_; have O1 := hide o1; clear o1
  have HL1 := hide b1
  have hs01 := b1.size
  have hs0 : w.heap.size + 1 < W0.heap.size := R1.out.lt
  clear b1
  go_upto_region 2 with fail
  obtain ⟨W3, hW3⟩ : ∃ W3, W3 = w1.alloc (Obj.cells #[Value.bool s1, Value.slice P1 q1 e1, Value.bool false, Value.slice P1' q1' e1'] 37) := ⟨_, rfl⟩
  obtain ⟨G, hG⟩ : ∃ G, G = w1.heap.size := ⟨_, rfl⟩
  have hb : Later w1 W3 := by rw [hW3]; exact (Later.refl _).alloc _
  have hr : Row W3 G 37 [.bool s1, .slice P1 q1 e1, .bool false, .slice P1' q1' e1'] := by rw [hW3, hG]; exact Row.new _ _ _
  have hsz : W3.heap.size = G + 1 := by rw [hW3, hG]; simp
  rw [← hW3, ← hG]
  have HLW3 : Hid (Later w1 W3) := hide hb
  have SA0 : Hid (SumAt W3 W0.heap.size G 0 1) := hide ⟨_, _, _, _, _, _, _, hr, ((On.ownR O1.out).mono (fun b hb1 hb => ⟨hb1, by omega⟩)).later hb, sized_0⟩
  have HRG := hide hr
  have hG1 : w1.heap.size ≤ G := by omega
  clear hb hr hsz hW3 hG
  have r_d := R0.out.later (HL1.out.trans HLW3.out)
  have d0 := r_d.cell (i := 0) rfl; have d1 := r_d.cell (i := 1) rfl; have d2 := r_d.cell (i := 2) rfl; have d3 := r_d.cell (i := 3) rfl; have d4 := r_d.cell (i := 4) rfl; have d5 := r_d.cell (i := 5) rfl
  clear r_d
  go_wp2_with fail
  ((with_reducible refine (rshape_calls _ _ _ _ _ _ _ _ _ _ _ _ _ D (H.out.later (B0.out.trans (HL1.out.trans HLW3.out))) _ _ _ t (HQ.out.later (B0.out.trans (HL1.out.trans HLW3.out))) u0 HU0.out).mono ?_); rintro e w4 ⟨rfl, b4⟩)
  have HLw4 := hide (HLW3.out.trans b4)
  have SAw4 := hide (SA0.out.later b4)
  have HRG4 := hide (HRG.out.later b4)
  clear b4 d0 d1 d2 d3 d4 d5
  have r_d := R0.out.later (HL1.out.trans HLw4.out)
  have d0 := r_d.cell (i := 0) rfl; have d1 := r_d.cell (i := 1) rfl; have d2 := r_d.cell (i := 2) rfl; have d3 := r_d.cell (i := 3) rfl; have d4 := r_d.cell (i := 4) rfl; have d5 := r_d.cell (i := 5) rfl
  clear r_d
  cases u0 with
  | false =>
    have HZ : Hid (zc = 0) := hide (by rw [HC.out]; simp)
    obtain ⟨x1, x2, x3, x4, -⟩ := row_cells4 HRG4.out
    have hrow := R1.out.later (HL1.out.trans HLw4.out)
    obtain ⟨y1, y2, y3, y4, y5, y6, y7, y8⟩ := row_cells4 hrow
    have HR := hide hrow
    clear hrow d0 d1 d2 d3 d4 d5
    go_wp2_with fail
    refine bodyPost_ret (results_rat_bool rfl rfl rfl (HR.out.four _ _ _ _)) rfl ?_
    have oo := Only.four (w.heap.size + 1) w4 (.bool s1) (.slice P1 q1 e1) (.bool false) (.slice P1' q1' e1')
    exact ⟨_, rfl, by rw [HZ.out]; exact ((OwnR.later O1.out HLw4.out).only oo (by omega)).weaken (Nat.zero_le _), by rw [HZ.out]; exact sized_0.mono (by omega), (B0.out.trans (HL1.out.trans HLw4.out)).only oo (by omega)⟩
  | true =>
  have HZ : Hid (zc = costTo D t t.length) := hide (by rw [HC.out]; simp)
  have HS := hide (shapeB_iff.1 HU0.out)
  have hsh := shape_hor HS.out
  obtain ⟨hz, hhz⟩ : ∃ m : Nat, (m : Int) = D.hor := ⟨D.hor.toNat, by omega⟩
  have HHZ := hide hhz
  have HZJ : Hid (D.hor.toNat = hz) := hide (by omega)
  have hz6 : hz ≤ 6 := by omega
  have hnq : nq ≤ 3 := by rw [LQ.out]; exact hsh.2.2
  have HN1 : Hid (n1 = nq) := hide (by rw [L1.out, LQ.out, HS.out.len])
  have hmx : Tryz.prog.follows .mixedOrders = true := by kernel_rfl
  clear hhz hsh
  go_wp2_with fail
  clear d0 d1 d2 d3 d4 d5
  go_loopw [7] (fun iv wr => ∃ j : Nat, j ≤ nq ∧ iv = .int .i64 (j : Int) ∧ SumAt wr W0.heap.size G (costTo D t j) (1 + 270 * j) ∧ Later w1 wr) (fun iv _ => (nq - intOf iv).toNat)
  case atStart => exact ⟨0, by omega, rfl, SAw4.out, HLw4.out⟩
  case round =>
    obtain ⟨j, hj, rfl, hsa, hL⟩ := hrel
    have HL := hide hL
    have HSA := hide hsa
    clear hL hsa
    by_cases hjn : j < nq
    · obtain ⟨r, hr⟩ : ∃ r, t[j]? = some r := ⟨t[j]'(by have := LQ.out; omega), List.getElem?_eq_getElem _⟩
      obtain ⟨x, hx⟩ : ∃ x, D.items[j]? = some x := ⟨D.items[j]'(by have := L1.out; have := HN1.out; omega), List.getElem?_eq_getElem _⟩
      obtain ⟨b1, off1, Ar, nr, cr, rfl, xr', hrow⟩ := HQ.out.grid.at_ hr
      obtain ⟨b2, off2, rfl, e1, e2, e3, x0, x1, x2, x3, x4, x5, x6, x7, x8, x9, x10, x11, m1, m2, m3⟩ := H.out.its.at12 hx
      have HR := hide hr; have HX := hide hx; have HROWR := hide hrow; have M1 := hide m1; have M2 := hide m2; have M3 := hide m3; have HXR := hide xr'
      have HX0 := hide x0; have HX1 := hide x1; have HX2 := hide x2; have HX3 := hide x3; have HX4 := hide x4; have HX5 := hide x5; have HX6 := hide x6; have HX7 := hide x7; have HX8 := hide x8; have HX9 := hide x9; have HX10 := hide x10; have HX11 := hide x11
      have hrz := HS.out.rows r (List.mem_of_getElem? hr)
      have HRZ := hide hrz
      have HRL : Hid (r.length = hz) := hide (by have := hrz.1; have := HHZ.out; omega)
      have HNR : Hid (nr = hz) := hide (by rw [hrow.len_]; exact HRL.out)
      have hj0 : (0 : Int) ≤ (j : Int) := by omega
      have hj1 : (j : Int) < nq := by omega
      have hj2 : (j : Int) < n1 := by have := HN1.out; omega
      have hj3 : ((j : Int)).toNat = j := by omega
      have HCT : Hid (costTo D t (j+1) = costTo D t j + costRow D x r j hz) := hide (by
        show costTo D t j + costRow D (D.items.getD j item0) (t.getD j []) j D.hor.toNat = _
        rw [item_at hx, row_at hr, HZJ.out])
      obtain ⟨S, hS⟩ : ∃ S, costTo D t j = S := ⟨_, rfl⟩
      rw [hS] at HCT HSA
      clear hr hx hrow m1 m2 m3 hrz hS xr' x0 x1 x2 x3 x4 x5 x6 x7 x8 x9 x10 x11
      go_wp2_with fail
      go_loopw [8] (fun iv wr => ∃ k : Nat, k ≤ hz ∧ iv = .int .i64 (k : Int) ∧ SumAt wr W0.heap.size G (S + costRow D x r j k) (1 + 270 * j + 45 * k) ∧ Later w1 wr) (fun iv _ => (hz - intOf iv).toNat)
      case atStart => exact ⟨0, by omega, rfl, by rw [show costRow D x r j 0 = 0 from rfl, Rat.add_zero]; exact HSA.out, HL.out⟩
      case round =>
        obtain ⟨k, hk, rfl, hsa, hLx⟩ := hrel
        have HLwr := hide hLx
        have SAwr := hide hsa
        clear hLx hsa
        have r_d := R0.out.later (HL1.out.trans HLwr.out)
        have d0 := r_d.cell (i := 0) rfl; have d1 := r_d.cell (i := 1) rfl; have d2 := r_d.cell (i := 2) rfl; have d3 := r_d.cell (i := 3) rfl; have d4 := r_d.cell (i := 4) rfl; have d5 := r_d.cell (i := 5) rfl
        clear r_d
        by_cases hkn : k < hz
        · obtain ⟨z, hz'⟩ : ∃ z, r[k]? = some z := ⟨r[k]'(by have := HRL.out; omega), List.getElem?_eq_getElem _⟩
          obtain ⟨b3, off3, rfl, z1⟩ := (HROWR.out.later (B0.out.trans (HL1.out.trans HLwr.out))).at1 hz'
          have z0 := Later.cell (B0.out.trans (HL1.out.trans HLwr.out)) HXR.out
          have hzz := getD_at hz'
          obtain ⟨lv, hlv⟩ : ∃ lv, lev D r j (k+1) = lv := ⟨_, rfl⟩
          have HLV := hide hlv
          have hlb := lev_bound D r j H.out.ol HRZ.out.2 (k+1)
          rw [hlv] at hlb
          have hlb2 : -100000000 ≤ lv ∧ lv ≤ 100000000 := by omega
          have HST : Hid (costRow D x r j (k+1) = costRow D x r j k + termC x z lv) := hide (by
            show costRow D x r j k + termC x (r.getD k 0) (lev D r j (k+1)) = _
            rw [hzz, hlv])
          obtain ⟨Q, hQ⟩ : ∃ Q, costRow D x r j k = Q := ⟨_, rfl⟩
          rw [hQ] at HST SAwr
          have hk0 : (0 : Int) ≤ (k : Int) := by omega
          have hk1 : (k : Int) < D.hor := by have := HHZ.out; omega
          have t0 : decide ((k : Int) < D.hor) = true := by simpa using hk1
          have hk2 : (k : Int) < nr := by have := HNR.out; omega
          clear hz' hzz hlv hlb hQ
          by_cases g : 0 < z
          · have t1 : decide (0 < z) = true := by simpa using g
            obtain ⟨ss, As, ns, cs, As', ns', cs', h1, h2, h3⟩ := SAwr.out
            have hgl := SAwr.out.lt
            have HROW : Hid (Row wr.drew G 37 [.bool ss, .slice As ns cs, .bool false, .slice As' ns' cs']) := hide h1
            have HO : Hid (OwnR wr.drew 0 (.agg #[.bool ss, .slice As ns cs, .bool false, .slice As' ns' cs']) _) := hide (OwnR.later h2.now (Later.refl wr).drew)
            have HSZ := hide h3
            have HXS := hide ((ENum.raw M1.out).sized)
            have hrx := R0.out.later (HL1.out.trans HLwr.out.drew)
            have hlw := B0.out.trans (HL1.out.trans HLwr.out.drew)
            have HT1 : Hid (∀ w', Later wr.drew w' → w'.cell? ⟨G, 0, none⟩ = some (.bool ss) ∧ w'.cell? ⟨G, 1, none⟩ = some (.slice As ns cs) ∧ w'.cell? ⟨G, 2, none⟩ = some (.bool false) ∧ w'.cell? ⟨G, 3, none⟩ = some (.slice As' ns' cs') ∧ w'.cell? ⟨w.heap.size, 0, none⟩ = some (.slice (some ⟨b2, off2, none⟩) n1 c1) ∧ w'.cell? ⟨w.heap.size, 1, none⟩ = some (.int .i64 D.hor) ∧ w'.cell? ⟨w.heap.size, 2, none⟩ = some (.int .i64 D.now) ∧ w'.cell? ⟨w.heap.size, 3, none⟩ = some (.slice A2 n2 c2) ∧ w'.cell? ⟨w.heap.size, 4, none⟩ = some (.slice A3 n3 c3) ∧ w'.cell? ⟨w.heap.size, 5, none⟩ = some (.slice A4 n4 c4) ∧ w'.cell? ⟨b2, off2 + j * 12, none⟩ = some (.bool e1.a) ∧ w'.cell? ⟨b2, off2 + j * 12 + 1, none⟩ = some (.slice e1.A e1.n e1.c) ∧ w'.cell? ⟨b2, off2 + j * 12 + 2, none⟩ = some (.bool e1.a') ∧ w'.cell? ⟨b2, off2 + j * 12 + 3, none⟩ = some (.slice e1.A' e1.n' e1.c')) := hide fun w' hb => ⟨(HROW.out.later hb).cell rfl, (HROW.out.later hb).cell rfl, (HROW.out.later hb).cell rfl, (HROW.out.later hb).cell rfl, (hrx.later hb).cell rfl, (hrx.later hb).cell rfl, (hrx.later hb).cell rfl, (hrx.later hb).cell rfl, (hrx.later hb).cell rfl, (hrx.later hb).cell rfl, Later.cell (hlw.trans hb) HX0.out, Later.cell (hlw.trans hb) HX1.out, Later.cell (hlw.trans hb) HX2.out, Later.cell (hlw.trans hb) HX3.out⟩
            clear h1 h2 h3 hrx hlw
            go_upto_region 11 with fail
            refine wp_region_N (fun w' => w'.cell? ⟨G, 0, none⟩ = some (.bool ss) ∧ w'.cell? ⟨G, 1, none⟩ = some (.slice As ns cs) ∧ w'.cell? ⟨G, 2, none⟩ = some (.bool false) ∧ w'.cell? ⟨G, 3, none⟩ = some (.slice As' ns' cs') ∧ w'.cell? ⟨w.heap.size, 0, none⟩ = some (.slice (some ⟨b2, off2, none⟩) n1 c1) ∧ w'.cell? ⟨w.heap.size, 1, none⟩ = some (.int .i64 D.hor) ∧ w'.cell? ⟨w.heap.size, 2, none⟩ = some (.int .i64 D.now) ∧ w'.cell? ⟨w.heap.size, 3, none⟩ = some (.slice A2 n2 c2) ∧ w'.cell? ⟨w.heap.size, 4, none⟩ = some (.slice A3 n3 c3) ∧ w'.cell? ⟨w.heap.size, 5, none⟩ = some (.slice A4 n4 c4) ∧ w'.cell? ⟨b2, off2 + j * 12, none⟩ = some (.bool e1.a) ∧ w'.cell? ⟨b2, off2 + j * 12 + 1, none⟩ = some (.slice e1.A e1.n e1.c) ∧ w'.cell? ⟨b2, off2 + j * 12 + 2, none⟩ = some (.bool e1.a') ∧ w'.cell? ⟨b2, off2 + j * 12 + 3, none⟩ = some (.slice e1.A' e1.n' e1.c')) [8] hmx (HT1.out _ (Later.refl _)) (fun hHeld => ?_)
            refine wpAnyN_takeD (some 36) (by rfl) (i := 0) (oi := _) (v := ?_) rfl (by kernel_rfl) (by kernel_rfl) (by kernel_rfl) (by kernel_rfl) (fun _ _ _ h => h) (Or.inl ⟨by rfl, ?_⟩) (by assumption) ?_
            rotate_left
            · intro w hSw; (try dsimp only at hSw); go_simp
              first | done | with_reducible rfl
            try simp only [Act.put, List.setIfInBounds_toArray, List.set_cons_zero, List.set_cons_succ]
            refine wpAnyN_takeD (some 37) (by rfl) (i := 1) (oi := _) (v := ?_) rfl (by kernel_rfl) (by kernel_rfl) (by kernel_rfl) (by kernel_rfl) (fun _ _ _ h => h) (Or.inl ⟨by rfl, ?_⟩) (by assumption) ?_
            rotate_left
            · intro w hSw; (try dsimp only at hSw); go_simp
              first | done | with_reducible rfl
            try simp only [Act.put, List.setIfInBounds_toArray, List.set_cons_zero, List.set_cons_succ]
            refine wpAnyN_takeD (some 38) (by rfl) (i := 2) (oi := _) (v := ?_) rfl (by kernel_rfl) (by kernel_rfl) (by kernel_rfl) (by kernel_rfl) (fun _ _ _ h => h) (Or.inl ⟨by rfl, ?_⟩) (by assumption) ?_
            rotate_left
            · intro w hSw; (try dsimp only at hSw); go_simp
              first | done | with_reducible rfl
            try simp only [Act.put, List.setIfInBounds_toArray, List.set_cons_zero, List.set_cons_succ]
            refine wpAnyN_takeD (some 39) (by rfl) (i := 3) (oi := _) (v := ?_) rfl (by kernel_rfl) (by kernel_rfl) (by kernel_rfl) (by kernel_rfl) (fun _ _ _ h => h) (Or.inl ⟨by rfl, ?_⟩) (by assumption) ?_
            rotate_left
            · intro w hSw; (try dsimp only at hSw); go_simp
              first | done | with_reducible rfl
            try simp only [Act.put, List.setIfInBounds_toArray, List.set_cons_zero, List.set_cons_succ]
            refine wpAnyN_takeD (some 40) (by rfl) (i := 4) (oi := _) (v := ?_) rfl (by kernel_rfl) (by kernel_rfl) (by kernel_rfl) (by kernel_rfl) (fun _ _ _ h => h) (Or.inl ⟨by rfl, ?_⟩) (by assumption) ?_
            rotate_left
            · intro w hSw; (try dsimp only at hSw); go_simp
              first | done | with_reducible rfl
            try simp only [Act.put, List.setIfInBounds_toArray, List.set_cons_zero, List.set_cons_succ]
            refine wpAnyN_takeD (some 41) (by rfl) (i := 5) (oi := _) (v := ?_) rfl (by kernel_rfl) (by kernel_rfl) (by kernel_rfl) (by kernel_rfl) (fun _ _ _ h => h) (Or.inl ⟨by rfl, ?_⟩) (by assumption) ?_
            rotate_left
            · intro w hSw; (try dsimp only at hSw); go_simp
              first | done | with_reducible rfl
            try simp only [Act.put, List.setIfInBounds_toArray, List.set_cons_zero, List.set_cons_succ]
            refine wpAnyN_takeD (some 42) (by rfl) (i := 6) (oi := _) (v := ?_) rfl (by kernel_rfl) (by kernel_rfl) (by kernel_rfl) (by kernel_rfl) (fun _ _ _ h => h) (Or.inl ⟨by rfl, ?_⟩) (by assumption) ?_
            rotate_left
            · intro w hSw; (try dsimp only at hSw); go_simp
              first | done | with_reducible rfl
            try simp only [Act.put, List.setIfInBounds_toArray, List.set_cons_zero, List.set_cons_succ]
            refine wpAnyN_ready (rs := [7]) (by kernel_rfl) (by simp) ?_
            refine AllReadyN.held rfl (by rfl) (fun K hK => ?_) AllReadyN.nil
            go_simp
            refine (qadd_calls wr.drew _ _ _ x.s (1 + 270 * j + 45 * k) 12 (OwnR.raw HO.out (HSZ.out.mono (by omega))) (RawR.later (ENum.raw M1.out) (B0.out.trans (HL1.out.trans (HLwr.out.drew)))) (by omega)).mono ?_
            rintro e w7 ⟨v7, rfl, o7, b7⟩
            obtain ⟨s7, P7, q7, e7, P7', q7', e7', rfl, o7⟩ := o7.open_; have O7 := hide o7; clear o7
            obtain ⟨y1, y2, y3, y4, y5, y6, y7, y8⟩ := row_cells4 (HROW.out.later b7)
            have bb := b7
            refine hK.out _ _ ?_ (fun hHeld => ?_)
            · exact HT1.out _ bb
            clear hK K
            try simp only [Act.put, List.setIfInBounds_toArray, List.set_cons_zero, List.set_cons_succ]
            refine wpAnyN_ready (rs := [8]) (by kernel_rfl) (by simp) ?_
            refine AllReadyN.free rfl (by rfl) (by kernel_rfl) (fun K hK => ?_) AllReadyN.nil
            go_simp
            refine hK.out _ _ ?_
            clear hK K
            try simp only [Act.put, List.setIfInBounds_toArray, List.set_cons_zero, List.set_cons_succ]
            refine wpAnyN_done (by kernel_rfl) ?_ _
            clear hHeld
            have hr5 := (HROW.out.later bb).four (.bool s7) (.slice P7 q7 e7) (.bool false) (.slice P7' q7' e7')
            have oo := Only.four G w7 (.bool s7) (.slice P7 q7 e7) (.bool false) (.slice P7' q7' e7')
            obtain ⟨ws, hws⟩ : ∃ W, W = ((((w7.setCell ⟨G, 0, none⟩ (.bool s7)).setCell ⟨G, 1, none⟩ (.slice P7 q7 e7)).setCell ⟨G, 2, none⟩ (.bool false)).setCell ⟨G, 3, none⟩ (.slice P7' q7' e7')) := ⟨_, rfl⟩
            rw [← hws] at hr5 oo ⊢
            have SAws : Hid (SumAt ws W0.heap.size G (S + Q + x.s) (1 + 270 * j + 45 * k + 15)) := hide ⟨_, _, _, _, _, _, _, hr5, ((On.ownR O7.out).mono (fun b hb _ => ⟨by have h5 := HLwr.out.size; have h6 := HL1.out.size; have h8 : wr.drew.heap.size = wr.heap.size := rfl; omega, by have h8 : wr.drew.heap.size = wr.heap.size := rfl; omega⟩)).only oo (by simp), (HSZ.out.add HXS.out).mono (by omega)⟩
            have HLws := hide ((HLwr.out.drew.trans bb).only oo hG1)
            clear hr5 oo hws bb y1 y2 y3 y4 y5 y6 y7 y8 HROW HO HSZ HT1
            have r_d := R0.out.later (HL1.out.trans HLws.out)
            have d0 := r_d.cell (i := 0) rfl; have d1 := r_d.cell (i := 1) rfl; have d2 := r_d.cell (i := 2) rfl; have d3 := r_d.cell (i := 3) rfl; have d4 := r_d.cell (i := 4) rfl; have d5 := r_d.cell (i := 5) rfl
            clear r_d
            go_wp2_with fail
            ((with_reducible refine (rlevel_calls _ _ _ _ _ _ _ _ _ _ _ _ _ D (H.out.later (B0.out.trans (HL1.out.trans HLws.out))) _ _ _ t (HQ.out.later (B0.out.trans (HL1.out.trans HLws.out))) j k r HR.out HRZ.out.2 (by rw [HRL.out]; omega) HS.out.may).mono ?_); rintro e wv ⟨rfl, b9⟩)
            rw [HLV.out]
            have HLwv := hide (HLws.out.trans b9)
            have SAwv := hide (SAws.out.later b9)
            clear b9
            clear d0 d1 d2 d3 d4 d5
            have r_d := R0.out.later (HL1.out.trans HLwv.out)
            have d0 := r_d.cell (i := 0) rfl; have d1 := r_d.cell (i := 1) rfl; have d2 := r_d.cell (i := 2) rfl; have d3 := r_d.cell (i := 3) rfl; have d4 := r_d.cell (i := 4) rfl; have d5 := r_d.cell (i := 5) rfl
            clear r_d
            by_cases g1 : 0 < lv
            · have t2 : decide (0 < lv) = true := by simpa using g1
              have t3 : decide (lv < 0) = false := by rw [decide_eq_false_iff_not]; omega
              obtain ⟨ss, As, ns, cs, As', ns', cs', h1, h2, h3⟩ := SAwv.out
              have hgl := SAwv.out.lt
              have HROW : Hid (Row wv.drew G 37 [.bool ss, .slice As ns cs, .bool false, .slice As' ns' cs']) := hide h1
              have HO : Hid (OwnR wv.drew 0 (.agg #[.bool ss, .slice As ns cs, .bool false, .slice As' ns' cs']) _) := hide (OwnR.later h2.now (Later.refl wv).drew)
              have HSZ := hide h3
              have HMS : Hid (Sized (x.h * ((lv : Int) : Rat)) 14) := hide ((ENum.raw M2.out).sized.mul (sized_int (by omega) (by omega)))
              have hrx := R0.out.later (HL1.out.trans HLwv.out.drew)
              have hlw := B0.out.trans (HL1.out.trans HLwv.out.drew)
              have HT1 : Hid (∀ w', Later wv.drew w' → w'.cell? ⟨G, 0, none⟩ = some (.bool ss) ∧ w'.cell? ⟨G, 1, none⟩ = some (.slice As ns cs) ∧ w'.cell? ⟨G, 2, none⟩ = some (.bool false) ∧ w'.cell? ⟨G, 3, none⟩ = some (.slice As' ns' cs') ∧ w'.cell? ⟨w.heap.size, 0, none⟩ = some (.slice (some ⟨b2, off2, none⟩) n1 c1) ∧ w'.cell? ⟨w.heap.size, 1, none⟩ = some (.int .i64 D.hor) ∧ w'.cell? ⟨w.heap.size, 2, none⟩ = some (.int .i64 D.now) ∧ w'.cell? ⟨w.heap.size, 3, none⟩ = some (.slice A2 n2 c2) ∧ w'.cell? ⟨w.heap.size, 4, none⟩ = some (.slice A3 n3 c3) ∧ w'.cell? ⟨w.heap.size, 5, none⟩ = some (.slice A4 n4 c4) ∧ w'.cell? ⟨b2, off2 + j * 12 + 4, none⟩ = some (.bool e2.a) ∧ w'.cell? ⟨b2, off2 + j * 12 + 5, none⟩ = some (.slice e2.A e2.n e2.c) ∧ w'.cell? ⟨b2, off2 + j * 12 + 6, none⟩ = some (.bool e2.a') ∧ w'.cell? ⟨b2, off2 + j * 12 + 7, none⟩ = some (.slice e2.A' e2.n' e2.c')) := hide fun w' hb => ⟨(HROW.out.later hb).cell rfl, (HROW.out.later hb).cell rfl, (HROW.out.later hb).cell rfl, (HROW.out.later hb).cell rfl, (hrx.later hb).cell rfl, (hrx.later hb).cell rfl, (hrx.later hb).cell rfl, (hrx.later hb).cell rfl, (hrx.later hb).cell rfl, (hrx.later hb).cell rfl, Later.cell (hlw.trans hb) HX4.out, Later.cell (hlw.trans hb) HX5.out, Later.cell (hlw.trans hb) HX6.out, Later.cell (hlw.trans hb) HX7.out⟩
              clear h1 h2 h3 hrx hlw
              go_upto_region 14 with fail
              refine wp_region_N (fun w' => w'.cell? ⟨G, 0, none⟩ = some (.bool ss) ∧ w'.cell? ⟨G, 1, none⟩ = some (.slice As ns cs) ∧ w'.cell? ⟨G, 2, none⟩ = some (.bool false) ∧ w'.cell? ⟨G, 3, none⟩ = some (.slice As' ns' cs') ∧ w'.cell? ⟨w.heap.size, 0, none⟩ = some (.slice (some ⟨b2, off2, none⟩) n1 c1) ∧ w'.cell? ⟨w.heap.size, 1, none⟩ = some (.int .i64 D.hor) ∧ w'.cell? ⟨w.heap.size, 2, none⟩ = some (.int .i64 D.now) ∧ w'.cell? ⟨w.heap.size, 3, none⟩ = some (.slice A2 n2 c2) ∧ w'.cell? ⟨w.heap.size, 4, none⟩ = some (.slice A3 n3 c3) ∧ w'.cell? ⟨w.heap.size, 5, none⟩ = some (.slice A4 n4 c4) ∧ w'.cell? ⟨b2, off2 + j * 12 + 4, none⟩ = some (.bool e2.a) ∧ w'.cell? ⟨b2, off2 + j * 12 + 5, none⟩ = some (.slice e2.A e2.n e2.c) ∧ w'.cell? ⟨b2, off2 + j * 12 + 6, none⟩ = some (.bool e2.a') ∧ w'.cell? ⟨b2, off2 + j * 12 + 7, none⟩ = some (.slice e2.A' e2.n' e2.c')) [10] hmx (HT1.out _ (Later.refl _)) (fun hHeld => ?_)
              refine wpAnyN_takeD (some 51) (by rfl) (i := 0) (oi := _) (v := ?_) rfl (by kernel_rfl) (by kernel_rfl) (by kernel_rfl) (by kernel_rfl) (fun _ _ _ h => h) (Or.inl ⟨by rfl, ?_⟩) (by assumption) ?_
              rotate_left
              · intro w hSw; (try dsimp only at hSw); go_simp
                first | done | with_reducible rfl
              try simp only [Act.put, List.setIfInBounds_toArray, List.set_cons_zero, List.set_cons_succ]
              refine wpAnyN_takeD (some 52) (by rfl) (i := 1) (oi := _) (v := ?_) rfl (by kernel_rfl) (by kernel_rfl) (by kernel_rfl) (by kernel_rfl) (fun _ _ _ h => h) (Or.inl ⟨by rfl, ?_⟩) (by assumption) ?_
              rotate_left
              · intro w hSw; (try dsimp only at hSw); go_simp
                first | done | with_reducible rfl
              try simp only [Act.put, List.setIfInBounds_toArray, List.set_cons_zero, List.set_cons_succ]
              refine wpAnyN_takeD (some 53) (by rfl) (i := 2) (oi := _) (v := ?_) rfl (by kernel_rfl) (by kernel_rfl) (by kernel_rfl) (by kernel_rfl) (fun _ _ _ h => h) (Or.inl ⟨by rfl, ?_⟩) (by assumption) ?_
              rotate_left
              · intro w hSw; (try dsimp only at hSw); go_simp
                first | done | with_reducible rfl
              try simp only [Act.put, List.setIfInBounds_toArray, List.set_cons_zero, List.set_cons_succ]
              refine wpAnyN_takeD (some 54) (by rfl) (i := 3) (oi := _) (v := ?_) rfl (by kernel_rfl) (by kernel_rfl) (by kernel_rfl) (by kernel_rfl) (fun _ _ _ h => h) (Or.inl ⟨by rfl, ?_⟩) (by assumption) ?_
              rotate_left
              · intro w hSw; (try dsimp only at hSw); go_simp
                first | done | with_reducible rfl
              try simp only [Act.put, List.setIfInBounds_toArray, List.set_cons_zero, List.set_cons_succ]
              refine wpAnyN_takeD (some 55) (by rfl) (i := 4) (oi := _) (v := ?_) rfl (by kernel_rfl) (by kernel_rfl) (by kernel_rfl) (by kernel_rfl) (fun _ _ _ h => h) (Or.inl ⟨by rfl, ?_⟩) (by assumption) ?_
              rotate_left
              · intro w hSw; (try dsimp only at hSw); go_simp
                first | done | with_reducible rfl
              try simp only [Act.put, List.setIfInBounds_toArray, List.set_cons_zero, List.set_cons_succ]
              refine wpAnyN_takeD (some 56) (by rfl) (i := 5) (oi := _) (v := ?_) rfl (by kernel_rfl) (by kernel_rfl) (by kernel_rfl) (by kernel_rfl) (fun _ _ _ h => h) (Or.inl ⟨by rfl, ?_⟩) (by assumption) ?_
              rotate_left
              · intro w hSw; (try dsimp only at hSw); go_simp
                first | done | with_reducible rfl
              try simp only [Act.put, List.setIfInBounds_toArray, List.set_cons_zero, List.set_cons_succ]
              refine wpAnyN_takeD (some 57) (by rfl) (i := 6) (oi := _) (v := ?_) rfl (by kernel_rfl) (by kernel_rfl) (by kernel_rfl) (by kernel_rfl) (fun _ _ _ h => h) (Or.inl ⟨by rfl, ?_⟩) (by assumption) ?_
              rotate_left
              · intro w hSw; (try dsimp only at hSw); go_simp
                first | done | with_reducible rfl
              try simp only [Act.put, List.setIfInBounds_toArray, List.set_cons_zero, List.set_cons_succ]
              refine wpAnyN_takeD (some 58) (by rfl) (i := 7) (oi := _) (v := ?_) rfl (by kernel_rfl) (by kernel_rfl) (by kernel_rfl) (by kernel_rfl) (fun _ _ _ h => h) (Or.inl ⟨by rfl, ?_⟩) (by assumption) ?_
              rotate_left
              · intro w hSw; (try dsimp only at hSw); go_simp
                first | done | with_reducible rfl
              try simp only [Act.put, List.setIfInBounds_toArray, List.set_cons_zero, List.set_cons_succ]
              refine wpAnyN_ready (rs := [8]) (by kernel_rfl) (by simp) ?_
              refine AllReadyN.held rfl (by rfl) (fun K hK => ?_) AllReadyN.nil
              go_simp
              refine (rtimes_calls wv.drew _ x.h (RawR.later (ENum.raw M2.out) (B0.out.trans (HL1.out.trans (HLwv.out.drew)))) lv (by omega) (by omega)).mono ?_
              rintro e w8 ⟨v8, rfl, o8, b8⟩
              obtain ⟨s8, P8, q8, e8, P8', q8', e8', rfl, o8⟩ := o8.open_; have O8 := hide o8; clear o8
              refine hK.out _ _ ?_ (fun hHeld => ?_)
              · exact HT1.out _ b8
              clear hK K
              try simp only [Act.put, List.setIfInBounds_toArray, List.set_cons_zero, List.set_cons_succ]
              refine wpAnyN_ready (rs := [9]) (by kernel_rfl) (by simp) ?_
              refine AllReadyN.held rfl (by rfl) (fun K hK => ?_) AllReadyN.nil
              go_simp
              refine (qadd_calls w8 _ _ _ (x.h * ((lv : Int) : Rat)) (1 + 270 * j + 45 * k + 15) 14 (OwnR.raw (OwnR.later HO.out b8) (HSZ.out.mono (by omega))) (OwnR.raw O8.out HMS.out) (by omega)).mono ?_
              rintro e w9 ⟨v9, rfl, o9, b9⟩
              obtain ⟨s9, P9, q9, e9, P9', q9', e9', rfl, o9⟩ := o9.open_; have O9 := hide o9; clear o9
              have bb := b8.trans b9
              obtain ⟨y1, y2, y3, y4, y5, y6, y7, y8⟩ := row_cells4 (HROW.out.later bb)
              refine hK.out _ _ ?_ (fun hHeld => ?_)
              · exact HT1.out _ bb
              clear hK K
              try simp only [Act.put, List.setIfInBounds_toArray, List.set_cons_zero, List.set_cons_succ]
              refine wpAnyN_ready (rs := [10]) (by kernel_rfl) (by simp) ?_
              refine AllReadyN.free rfl (by rfl) (by kernel_rfl) (fun K hK => ?_) AllReadyN.nil
              go_simp
              refine hK.out _ _ ?_
              clear hK K
              try simp only [Act.put, List.setIfInBounds_toArray, List.set_cons_zero, List.set_cons_succ]
              refine wpAnyN_done (by kernel_rfl) ?_ _
              clear hHeld
              have hr5 := (HROW.out.later bb).four (.bool s9) (.slice P9 q9 e9) (.bool false) (.slice P9' q9' e9')
              have oo := Only.four G w9 (.bool s9) (.slice P9 q9 e9) (.bool false) (.slice P9' q9' e9')
              obtain ⟨wo, hwo⟩ : ∃ W, W = ((((w9.setCell ⟨G, 0, none⟩ (.bool s9)).setCell ⟨G, 1, none⟩ (.slice P9 q9 e9)).setCell ⟨G, 2, none⟩ (.bool false)).setCell ⟨G, 3, none⟩ (.slice P9' q9' e9')) := ⟨_, rfl⟩
              rw [← hwo] at hr5 oo ⊢
              have SAwo : Hid (SumAt wo W0.heap.size G (S + Q + x.s + x.h * ((lv : Int) : Rat)) (1 + 270 * j + 45 * k + 15 + 15)) := hide ⟨_, _, _, _, _, _, _, hr5, ((On.ownR O9.out).mono (fun b hb _ => ⟨by have h5 := HLwv.out.size; have h6 := HL1.out.size; have h7 := b8.size; have h8 : wv.drew.heap.size = wv.heap.size := rfl; omega, by have h8 : wv.drew.heap.size = wv.heap.size := rfl; have h7 := b8.size; omega⟩)).only oo (by simp), (HSZ.out.add HMS.out).mono (by omega)⟩
              have HLwo := hide ((HLwv.out.drew.trans bb).only oo hG1)
              clear hr5 oo hwo bb y1 y2 y3 y4 y5 y6 y7 y8 HROW HO HSZ HT1
              have HEQ : Hid (S + Q + x.s + x.h * ((lv : Int) : Rat) = S + costRow D x r j (k+1)) := hide (by
                rw [HST.out]; unfold termC; rw [if_pos g]
                first
                | (rw [show max lv 0 = lv by omega, show max (-lv) 0 = 0 by omega]; have : ((0 : Int) : Rat) = 0 := rfl; grind)
                | (rw [show max lv 0 = 0 by omega, show max (-lv) 0 = -lv by omega]; have : ((0 : Int) : Rat) = 0 := rfl; grind)
                | (rw [show max lv 0 = 0 by omega, show max (-lv) 0 = 0 by omega]; have : ((0 : Int) : Rat) = 0 := rfl; grind))
              go_wp2_with fail
              exact ⟨⟨k+1, by omega, by go_num, by rw [← HEQ.out]; exact SAwo.out.mono (by omega), HLwo.out⟩, by simp [intOf]; omega⟩
            · have t2 : decide (0 < lv) = false := by simpa using g1
              by_cases g2 : lv < 0
              · have t3 : decide (lv < 0) = true := by simpa using g2
                have hw1 : IntKind.i64.wrap (-lv) = -lv := IntWalk.i64_in _ (by omega)
                obtain ⟨ss, As, ns, cs, As', ns', cs', h1, h2, h3⟩ := SAwv.out
                have hgl := SAwv.out.lt
                have HROW : Hid (Row wv.drew G 37 [.bool ss, .slice As ns cs, .bool false, .slice As' ns' cs']) := hide h1
                have HO : Hid (OwnR wv.drew 0 (.agg #[.bool ss, .slice As ns cs, .bool false, .slice As' ns' cs']) _) := hide (OwnR.later h2.now (Later.refl wv).drew)
                have HSZ := hide h3
                have HMS : Hid (Sized (x.b * (((-lv) : Int) : Rat)) 14) := hide ((ENum.raw M3.out).sized.mul (sized_int (by omega) (by omega)))
                have hrx := R0.out.later (HL1.out.trans HLwv.out.drew)
                have hlw := B0.out.trans (HL1.out.trans HLwv.out.drew)
                have HT1 : Hid (∀ w', Later wv.drew w' → w'.cell? ⟨G, 0, none⟩ = some (.bool ss) ∧ w'.cell? ⟨G, 1, none⟩ = some (.slice As ns cs) ∧ w'.cell? ⟨G, 2, none⟩ = some (.bool false) ∧ w'.cell? ⟨G, 3, none⟩ = some (.slice As' ns' cs') ∧ w'.cell? ⟨w.heap.size, 0, none⟩ = some (.slice (some ⟨b2, off2, none⟩) n1 c1) ∧ w'.cell? ⟨w.heap.size, 1, none⟩ = some (.int .i64 D.hor) ∧ w'.cell? ⟨w.heap.size, 2, none⟩ = some (.int .i64 D.now) ∧ w'.cell? ⟨w.heap.size, 3, none⟩ = some (.slice A2 n2 c2) ∧ w'.cell? ⟨w.heap.size, 4, none⟩ = some (.slice A3 n3 c3) ∧ w'.cell? ⟨w.heap.size, 5, none⟩ = some (.slice A4 n4 c4) ∧ w'.cell? ⟨b2, off2 + j * 12 + 8, none⟩ = some (.bool e3.a) ∧ w'.cell? ⟨b2, off2 + j * 12 + 9, none⟩ = some (.slice e3.A e3.n e3.c) ∧ w'.cell? ⟨b2, off2 + j * 12 + 10, none⟩ = some (.bool e3.a') ∧ w'.cell? ⟨b2, off2 + j * 12 + 11, none⟩ = some (.slice e3.A' e3.n' e3.c')) := hide fun w' hb => ⟨(HROW.out.later hb).cell rfl, (HROW.out.later hb).cell rfl, (HROW.out.later hb).cell rfl, (HROW.out.later hb).cell rfl, (hrx.later hb).cell rfl, (hrx.later hb).cell rfl, (hrx.later hb).cell rfl, (hrx.later hb).cell rfl, (hrx.later hb).cell rfl, (hrx.later hb).cell rfl, Later.cell (hlw.trans hb) HX8.out, Later.cell (hlw.trans hb) HX9.out, Later.cell (hlw.trans hb) HX10.out, Later.cell (hlw.trans hb) HX11.out⟩
                clear h1 h2 h3 hrx hlw
                go_upto_region 16 with fail
                refine wp_region_N (fun w' => w'.cell? ⟨G, 0, none⟩ = some (.bool ss) ∧ w'.cell? ⟨G, 1, none⟩ = some (.slice As ns cs) ∧ w'.cell? ⟨G, 2, none⟩ = some (.bool false) ∧ w'.cell? ⟨G, 3, none⟩ = some (.slice As' ns' cs') ∧ w'.cell? ⟨w.heap.size, 0, none⟩ = some (.slice (some ⟨b2, off2, none⟩) n1 c1) ∧ w'.cell? ⟨w.heap.size, 1, none⟩ = some (.int .i64 D.hor) ∧ w'.cell? ⟨w.heap.size, 2, none⟩ = some (.int .i64 D.now) ∧ w'.cell? ⟨w.heap.size, 3, none⟩ = some (.slice A2 n2 c2) ∧ w'.cell? ⟨w.heap.size, 4, none⟩ = some (.slice A3 n3 c3) ∧ w'.cell? ⟨w.heap.size, 5, none⟩ = some (.slice A4 n4 c4) ∧ w'.cell? ⟨b2, off2 + j * 12 + 8, none⟩ = some (.bool e3.a) ∧ w'.cell? ⟨b2, off2 + j * 12 + 9, none⟩ = some (.slice e3.A e3.n e3.c) ∧ w'.cell? ⟨b2, off2 + j * 12 + 10, none⟩ = some (.bool e3.a') ∧ w'.cell? ⟨b2, off2 + j * 12 + 11, none⟩ = some (.slice e3.A' e3.n' e3.c')) [11] hmx (HT1.out _ (Later.refl _)) (fun hHeld => ?_)
                refine wpAnyN_takeD (some 63) (by rfl) (i := 0) (oi := _) (v := ?_) rfl (by kernel_rfl) (by kernel_rfl) (by kernel_rfl) (by kernel_rfl) (fun _ _ _ h => h) (Or.inl ⟨by rfl, ?_⟩) (by assumption) ?_
                rotate_left
                · intro w hSw; (try dsimp only at hSw); go_simp
                  first | done | with_reducible rfl
                try simp only [Act.put, List.setIfInBounds_toArray, List.set_cons_zero, List.set_cons_succ]
                refine wpAnyN_takeD (some 64) (by rfl) (i := 1) (oi := _) (v := ?_) rfl (by kernel_rfl) (by kernel_rfl) (by kernel_rfl) (by kernel_rfl) (fun _ _ _ h => h) (Or.inl ⟨by rfl, ?_⟩) (by assumption) ?_
                rotate_left
                · intro w hSw; (try dsimp only at hSw); go_simp
                  first | done | with_reducible rfl
                try simp only [Act.put, List.setIfInBounds_toArray, List.set_cons_zero, List.set_cons_succ]
                refine wpAnyN_takeD (some 65) (by rfl) (i := 2) (oi := _) (v := ?_) rfl (by kernel_rfl) (by kernel_rfl) (by kernel_rfl) (by kernel_rfl) (fun _ _ _ h => h) (Or.inl ⟨by rfl, ?_⟩) (by assumption) ?_
                rotate_left
                · intro w hSw; (try dsimp only at hSw); go_simp
                  first | done | with_reducible rfl
                try simp only [Act.put, List.setIfInBounds_toArray, List.set_cons_zero, List.set_cons_succ]
                refine wpAnyN_takeD (some 66) (by rfl) (i := 3) (oi := _) (v := ?_) rfl (by kernel_rfl) (by kernel_rfl) (by kernel_rfl) (by kernel_rfl) (fun _ _ _ h => h) (Or.inl ⟨by rfl, ?_⟩) (by assumption) ?_
                rotate_left
                · intro w hSw; (try dsimp only at hSw); go_simp
                  first | done | with_reducible rfl
                try simp only [Act.put, List.setIfInBounds_toArray, List.set_cons_zero, List.set_cons_succ]
                refine wpAnyN_takeD (some 67) (by rfl) (i := 4) (oi := _) (v := ?_) rfl (by kernel_rfl) (by kernel_rfl) (by kernel_rfl) (by kernel_rfl) (fun _ _ _ h => h) (Or.inl ⟨by rfl, ?_⟩) (by assumption) ?_
                rotate_left
                · intro w hSw; (try dsimp only at hSw); go_simp
                  first | done | with_reducible rfl
                try simp only [Act.put, List.setIfInBounds_toArray, List.set_cons_zero, List.set_cons_succ]
                refine wpAnyN_takeD (some 68) (by rfl) (i := 5) (oi := _) (v := ?_) rfl (by kernel_rfl) (by kernel_rfl) (by kernel_rfl) (by kernel_rfl) (fun _ _ _ h => h) (Or.inl ⟨by rfl, ?_⟩) (by assumption) ?_
                rotate_left
                · intro w hSw; (try dsimp only at hSw); go_simp
                  first | done | with_reducible rfl
                try simp only [Act.put, List.setIfInBounds_toArray, List.set_cons_zero, List.set_cons_succ]
                refine wpAnyN_takeD (some 69) (by rfl) (i := 6) (oi := _) (v := ?_) rfl (by kernel_rfl) (by kernel_rfl) (by kernel_rfl) (by kernel_rfl) (fun _ _ _ h => h) (Or.inl ⟨by rfl, ?_⟩) (by assumption) ?_
                rotate_left
                · intro w hSw; (try dsimp only at hSw); go_simp
                  first | done | with_reducible rfl
                try simp only [Act.put, List.setIfInBounds_toArray, List.set_cons_zero, List.set_cons_succ]
                refine wpAnyN_takeD (some 70) (by rfl) (i := 7) (oi := _) (v := ?_) rfl (by kernel_rfl) (by kernel_rfl) (by kernel_rfl) (by kernel_rfl) (fun _ _ _ h => h) (Or.inl ⟨by rfl, ?_⟩) (by assumption) ?_
                rotate_left
                · intro w hSw; (try dsimp only at hSw); go_simp
                  first | done | with_reducible rfl
                try simp only [Act.put, List.setIfInBounds_toArray, List.set_cons_zero, List.set_cons_succ]
                refine wpAnyN_takeD (some 71) (by rfl) (i := 8) (oi := _) (v := ?_) rfl (by kernel_rfl) (by kernel_rfl) (by kernel_rfl) (by kernel_rfl) (fun _ _ _ h => h) (Or.inl ⟨by rfl, ?_⟩) (by assumption) ?_
                rotate_left
                · intro w hSw; (try dsimp only at hSw); go_simp
                  first | done | with_reducible rfl
                try simp only [Act.put, List.setIfInBounds_toArray, List.set_cons_zero, List.set_cons_succ]
                refine wpAnyN_ready (rs := [9]) (by kernel_rfl) (by simp) ?_
                refine AllReadyN.held rfl (by rfl) (fun K hK => ?_) AllReadyN.nil
                go_simp
                refine (rtimes_calls wv.drew _ x.b (RawR.later (ENum.raw M3.out) (B0.out.trans (HL1.out.trans (HLwv.out.drew)))) (-lv) (by omega) (by omega)).mono ?_
                rintro e w9 ⟨v9, rfl, o9, b9⟩
                obtain ⟨s9, P9, q9, e9, P9', q9', e9', rfl, o9⟩ := o9.open_; have O9 := hide o9; clear o9
                refine hK.out _ _ ?_ (fun hHeld => ?_)
                · exact HT1.out _ b9
                clear hK K
                try simp only [Act.put, List.setIfInBounds_toArray, List.set_cons_zero, List.set_cons_succ]
                refine wpAnyN_ready (rs := [10]) (by kernel_rfl) (by simp) ?_
                refine AllReadyN.held rfl (by rfl) (fun K hK => ?_) AllReadyN.nil
                go_simp
                refine (qadd_calls w9 _ _ _ (x.b * (((-lv) : Int) : Rat)) (1 + 270 * j + 45 * k + 15) 14 (OwnR.raw (OwnR.later HO.out b9) (HSZ.out.mono (by omega))) (OwnR.raw O9.out HMS.out) (by omega)).mono ?_
                rintro e w10 ⟨v10, rfl, o10, b10⟩
                obtain ⟨s10, P10, q10, e10, P10', q10', e10', rfl, o10⟩ := o10.open_; have O10 := hide o10; clear o10
                have bb := b9.trans b10
                obtain ⟨y1, y2, y3, y4, y5, y6, y7, y8⟩ := row_cells4 (HROW.out.later bb)
                refine hK.out _ _ ?_ (fun hHeld => ?_)
                · exact HT1.out _ bb
                clear hK K
                try simp only [Act.put, List.setIfInBounds_toArray, List.set_cons_zero, List.set_cons_succ]
                refine wpAnyN_ready (rs := [11]) (by kernel_rfl) (by simp) ?_
                refine AllReadyN.free rfl (by rfl) (by kernel_rfl) (fun K hK => ?_) AllReadyN.nil
                go_simp
                refine hK.out _ _ ?_
                clear hK K
                try simp only [Act.put, List.setIfInBounds_toArray, List.set_cons_zero, List.set_cons_succ]
                refine wpAnyN_done (by kernel_rfl) ?_ _
                clear hHeld
                have hr5 := (HROW.out.later bb).four (.bool s10) (.slice P10 q10 e10) (.bool false) (.slice P10' q10' e10')
                have oo := Only.four G w10 (.bool s10) (.slice P10 q10 e10) (.bool false) (.slice P10' q10' e10')
                obtain ⟨wo, hwo⟩ : ∃ W, W = ((((w10.setCell ⟨G, 0, none⟩ (.bool s10)).setCell ⟨G, 1, none⟩ (.slice P10 q10 e10)).setCell ⟨G, 2, none⟩ (.bool false)).setCell ⟨G, 3, none⟩ (.slice P10' q10' e10')) := ⟨_, rfl⟩
                rw [← hwo] at hr5 oo ⊢
                have SAwo : Hid (SumAt wo W0.heap.size G (S + Q + x.s + x.b * (((-lv) : Int) : Rat)) (1 + 270 * j + 45 * k + 15 + 15)) := hide ⟨_, _, _, _, _, _, _, hr5, ((On.ownR O10.out).mono (fun b hb _ => ⟨by have h5 := HLwv.out.size; have h6 := HL1.out.size; have h7 := b9.size; have h8 : wv.drew.heap.size = wv.heap.size := rfl; omega, by have h8 : wv.drew.heap.size = wv.heap.size := rfl; have h7 := b9.size; omega⟩)).only oo (by simp), (HSZ.out.add HMS.out).mono (by omega)⟩
                have HLwo := hide ((HLwv.out.drew.trans bb).only oo hG1)
                clear hr5 oo hwo bb y1 y2 y3 y4 y5 y6 y7 y8 HROW HO HSZ HT1
                have HEQ : Hid (S + Q + x.s + x.b * (((-lv) : Int) : Rat) = S + costRow D x r j (k+1)) := hide (by
                  rw [HST.out]; unfold termC; rw [if_pos g]
                  first
                  | (rw [show max lv 0 = lv by omega, show max (-lv) 0 = 0 by omega]; have : ((0 : Int) : Rat) = 0 := rfl; grind)
                  | (rw [show max lv 0 = 0 by omega, show max (-lv) 0 = -lv by omega]; have : ((0 : Int) : Rat) = 0 := rfl; grind)
                  | (rw [show max lv 0 = 0 by omega, show max (-lv) 0 = 0 by omega]; have : ((0 : Int) : Rat) = 0 := rfl; grind))
                go_wp2_with fail
                exact ⟨⟨k+1, by omega, by go_num, by rw [← HEQ.out]; exact SAwo.out.mono (by omega), HLwo.out⟩, by simp [intOf]; omega⟩
              · have t3 : decide (lv < 0) = false := by simpa using g2
                have SAwo := SAwv; have HLwo := HLwv
                have HEQ : Hid (S + Q + x.s = S + costRow D x r j (k+1)) := hide (by
                  rw [HST.out]; unfold termC; rw [if_pos g]
                  first
                  | (rw [show max lv 0 = lv by omega, show max (-lv) 0 = 0 by omega]; have : ((0 : Int) : Rat) = 0 := rfl; grind)
                  | (rw [show max lv 0 = 0 by omega, show max (-lv) 0 = -lv by omega]; have : ((0 : Int) : Rat) = 0 := rfl; grind)
                  | (rw [show max lv 0 = 0 by omega, show max (-lv) 0 = 0 by omega]; have : ((0 : Int) : Rat) = 0 := rfl; grind))
                go_wp2_with fail
                exact ⟨⟨k+1, by omega, by go_num, by rw [← HEQ.out]; exact SAwo.out.mono (by omega), HLwo.out⟩, by simp [intOf]; omega⟩
          · have t1 : decide (0 < z) = false := by simpa using g
            have SAws := SAwr; have HLws := HLwr
            have r_d := R0.out.later (HL1.out.trans HLws.out)
            have d0 := r_d.cell (i := 0) rfl; have d1 := r_d.cell (i := 1) rfl; have d2 := r_d.cell (i := 2) rfl; have d3 := r_d.cell (i := 3) rfl; have d4 := r_d.cell (i := 4) rfl; have d5 := r_d.cell (i := 5) rfl
            clear r_d
            go_wp2_with fail
            ((with_reducible refine (rlevel_calls _ _ _ _ _ _ _ _ _ _ _ _ _ D (H.out.later (B0.out.trans (HL1.out.trans HLws.out))) _ _ _ t (HQ.out.later (B0.out.trans (HL1.out.trans HLws.out))) j k r HR.out HRZ.out.2 (by rw [HRL.out]; omega) HS.out.may).mono ?_); rintro e wv ⟨rfl, b9⟩)
            rw [HLV.out]
            have HLwv := hide (HLws.out.trans b9)
            have SAwv := hide (SAws.out.later b9)
            clear b9
            clear d0 d1 d2 d3 d4 d5
            have r_d := R0.out.later (HL1.out.trans HLwv.out)
            have d0 := r_d.cell (i := 0) rfl; have d1 := r_d.cell (i := 1) rfl; have d2 := r_d.cell (i := 2) rfl; have d3 := r_d.cell (i := 3) rfl; have d4 := r_d.cell (i := 4) rfl; have d5 := r_d.cell (i := 5) rfl
            clear r_d
            by_cases g1 : 0 < lv
            · have t2 : decide (0 < lv) = true := by simpa using g1
              have t3 : decide (lv < 0) = false := by rw [decide_eq_false_iff_not]; omega
              obtain ⟨ss, As, ns, cs, As', ns', cs', h1, h2, h3⟩ := SAwv.out
              have hgl := SAwv.out.lt
              have HROW : Hid (Row wv.drew G 37 [.bool ss, .slice As ns cs, .bool false, .slice As' ns' cs']) := hide h1
              have HO : Hid (OwnR wv.drew 0 (.agg #[.bool ss, .slice As ns cs, .bool false, .slice As' ns' cs']) _) := hide (OwnR.later h2.now (Later.refl wv).drew)
              have HSZ := hide h3
              have HMS : Hid (Sized (x.h * ((lv : Int) : Rat)) 14) := hide ((ENum.raw M2.out).sized.mul (sized_int (by omega) (by omega)))
              have hrx := R0.out.later (HL1.out.trans HLwv.out.drew)
              have hlw := B0.out.trans (HL1.out.trans HLwv.out.drew)
              have HT1 : Hid (∀ w', Later wv.drew w' → w'.cell? ⟨G, 0, none⟩ = some (.bool ss) ∧ w'.cell? ⟨G, 1, none⟩ = some (.slice As ns cs) ∧ w'.cell? ⟨G, 2, none⟩ = some (.bool false) ∧ w'.cell? ⟨G, 3, none⟩ = some (.slice As' ns' cs') ∧ w'.cell? ⟨w.heap.size, 0, none⟩ = some (.slice (some ⟨b2, off2, none⟩) n1 c1) ∧ w'.cell? ⟨w.heap.size, 1, none⟩ = some (.int .i64 D.hor) ∧ w'.cell? ⟨w.heap.size, 2, none⟩ = some (.int .i64 D.now) ∧ w'.cell? ⟨w.heap.size, 3, none⟩ = some (.slice A2 n2 c2) ∧ w'.cell? ⟨w.heap.size, 4, none⟩ = some (.slice A3 n3 c3) ∧ w'.cell? ⟨w.heap.size, 5, none⟩ = some (.slice A4 n4 c4) ∧ w'.cell? ⟨b2, off2 + j * 12 + 4, none⟩ = some (.bool e2.a) ∧ w'.cell? ⟨b2, off2 + j * 12 + 5, none⟩ = some (.slice e2.A e2.n e2.c) ∧ w'.cell? ⟨b2, off2 + j * 12 + 6, none⟩ = some (.bool e2.a') ∧ w'.cell? ⟨b2, off2 + j * 12 + 7, none⟩ = some (.slice e2.A' e2.n' e2.c')) := hide fun w' hb => ⟨(HROW.out.later hb).cell rfl, (HROW.out.later hb).cell rfl, (HROW.out.later hb).cell rfl, (HROW.out.later hb).cell rfl, (hrx.later hb).cell rfl, (hrx.later hb).cell rfl, (hrx.later hb).cell rfl, (hrx.later hb).cell rfl, (hrx.later hb).cell rfl, (hrx.later hb).cell rfl, Later.cell (hlw.trans hb) HX4.out, Later.cell (hlw.trans hb) HX5.out, Later.cell (hlw.trans hb) HX6.out, Later.cell (hlw.trans hb) HX7.out⟩
              clear h1 h2 h3 hrx hlw
              go_upto_region 14 with fail
              refine wp_region_N (fun w' => w'.cell? ⟨G, 0, none⟩ = some (.bool ss) ∧ w'.cell? ⟨G, 1, none⟩ = some (.slice As ns cs) ∧ w'.cell? ⟨G, 2, none⟩ = some (.bool false) ∧ w'.cell? ⟨G, 3, none⟩ = some (.slice As' ns' cs') ∧ w'.cell? ⟨w.heap.size, 0, none⟩ = some (.slice (some ⟨b2, off2, none⟩) n1 c1) ∧ w'.cell? ⟨w.heap.size, 1, none⟩ = some (.int .i64 D.hor) ∧ w'.cell? ⟨w.heap.size, 2, none⟩ = some (.int .i64 D.now) ∧ w'.cell? ⟨w.heap.size, 3, none⟩ = some (.slice A2 n2 c2) ∧ w'.cell? ⟨w.heap.size, 4, none⟩ = some (.slice A3 n3 c3) ∧ w'.cell? ⟨w.heap.size, 5, none⟩ = some (.slice A4 n4 c4) ∧ w'.cell? ⟨b2, off2 + j * 12 + 4, none⟩ = some (.bool e2.a) ∧ w'.cell? ⟨b2, off2 + j * 12 + 5, none⟩ = some (.slice e2.A e2.n e2.c) ∧ w'.cell? ⟨b2, off2 + j * 12 + 6, none⟩ = some (.bool e2.a') ∧ w'.cell? ⟨b2, off2 + j * 12 + 7, none⟩ = some (.slice e2.A' e2.n' e2.c')) [10] hmx (HT1.out _ (Later.refl _)) (fun hHeld => ?_)
              refine wpAnyN_takeD (some 51) (by rfl) (i := 0) (oi := _) (v := ?_) rfl (by kernel_rfl) (by kernel_rfl) (by kernel_rfl) (by kernel_rfl) (fun _ _ _ h => h) (Or.inl ⟨by rfl, ?_⟩) (by assumption) ?_
              rotate_left
              · intro w hSw; (try dsimp only at hSw); go_simp
                first | done | with_reducible rfl
              try simp only [Act.put, List.setIfInBounds_toArray, List.set_cons_zero, List.set_cons_succ]
              refine wpAnyN_takeD (some 52) (by rfl) (i := 1) (oi := _) (v := ?_) rfl (by kernel_rfl) (by kernel_rfl) (by kernel_rfl) (by kernel_rfl) (fun _ _ _ h => h) (Or.inl ⟨by rfl, ?_⟩) (by assumption) ?_
              rotate_left
              · intro w hSw; (try dsimp only at hSw); go_simp
                first | done | with_reducible rfl
              try simp only [Act.put, List.setIfInBounds_toArray, List.set_cons_zero, List.set_cons_succ]
              refine wpAnyN_takeD (some 53) (by rfl) (i := 2) (oi := _) (v := ?_) rfl (by kernel_rfl) (by kernel_rfl) (by kernel_rfl) (by kernel_rfl) (fun _ _ _ h => h) (Or.inl ⟨by rfl, ?_⟩) (by assumption) ?_
              rotate_left
              · intro w hSw; (try dsimp only at hSw); go_simp
                first | done | with_reducible rfl
              try simp only [Act.put, List.setIfInBounds_toArray, List.set_cons_zero, List.set_cons_succ]
              refine wpAnyN_takeD (some 54) (by rfl) (i := 3) (oi := _) (v := ?_) rfl (by kernel_rfl) (by kernel_rfl) (by kernel_rfl) (by kernel_rfl) (fun _ _ _ h => h) (Or.inl ⟨by rfl, ?_⟩) (by assumption) ?_
              rotate_left
              · intro w hSw; (try dsimp only at hSw); go_simp
                first | done | with_reducible rfl
              try simp only [Act.put, List.setIfInBounds_toArray, List.set_cons_zero, List.set_cons_succ]
              refine wpAnyN_takeD (some 55) (by rfl) (i := 4) (oi := _) (v := ?_) rfl (by kernel_rfl) (by kernel_rfl) (by kernel_rfl) (by kernel_rfl) (fun _ _ _ h => h) (Or.inl ⟨by rfl, ?_⟩) (by assumption) ?_
              rotate_left
              · intro w hSw; (try dsimp only at hSw); go_simp
                first | done | with_reducible rfl
              try simp only [Act.put, List.setIfInBounds_toArray, List.set_cons_zero, List.set_cons_succ]
              refine wpAnyN_takeD (some 56) (by rfl) (i := 5) (oi := _) (v := ?_) rfl (by kernel_rfl) (by kernel_rfl) (by kernel_rfl) (by kernel_rfl) (fun _ _ _ h => h) (Or.inl ⟨by rfl, ?_⟩) (by assumption) ?_
              rotate_left
              · intro w hSw; (try dsimp only at hSw); go_simp
                first | done | with_reducible rfl
              try simp only [Act.put, List.setIfInBounds_toArray, List.set_cons_zero, List.set_cons_succ]
              refine wpAnyN_takeD (some 57) (by rfl) (i := 6) (oi := _) (v := ?_) rfl (by kernel_rfl) (by kernel_rfl) (by kernel_rfl) (by kernel_rfl) (fun _ _ _ h => h) (Or.inl ⟨by rfl, ?_⟩) (by assumption) ?_
              rotate_left
              · intro w hSw; (try dsimp only at hSw); go_simp
                first | done | with_reducible rfl
              try simp only [Act.put, List.setIfInBounds_toArray, List.set_cons_zero, List.set_cons_succ]
              refine wpAnyN_takeD (some 58) (by rfl) (i := 7) (oi := _) (v := ?_) rfl (by kernel_rfl) (by kernel_rfl) (by kernel_rfl) (by kernel_rfl) (fun _ _ _ h => h) (Or.inl ⟨by rfl, ?_⟩) (by assumption) ?_
              rotate_left
              · intro w hSw; (try dsimp only at hSw); go_simp
                first | done | with_reducible rfl
              try simp only [Act.put, List.setIfInBounds_toArray, List.set_cons_zero, List.set_cons_succ]
              refine wpAnyN_ready (rs := [8]) (by kernel_rfl) (by simp) ?_
              refine AllReadyN.held rfl (by rfl) (fun K hK => ?_) AllReadyN.nil
              go_simp
              refine (rtimes_calls wv.drew _ x.h (RawR.later (ENum.raw M2.out) (B0.out.trans (HL1.out.trans (HLwv.out.drew)))) lv (by omega) (by omega)).mono ?_
              rintro e w8 ⟨v8, rfl, o8, b8⟩
              obtain ⟨s8, P8, q8, e8, P8', q8', e8', rfl, o8⟩ := o8.open_; have O8 := hide o8; clear o8
              refine hK.out _ _ ?_ (fun hHeld => ?_)
              · exact HT1.out _ b8
              clear hK K
              try simp only [Act.put, List.setIfInBounds_toArray, List.set_cons_zero, List.set_cons_succ]
              refine wpAnyN_ready (rs := [9]) (by kernel_rfl) (by simp) ?_
              refine AllReadyN.held rfl (by rfl) (fun K hK => ?_) AllReadyN.nil
              go_simp
              refine (qadd_calls w8 _ _ _ (x.h * ((lv : Int) : Rat)) (1 + 270 * j + 45 * k + 0) 14 (OwnR.raw (OwnR.later HO.out b8) (HSZ.out.mono (by omega))) (OwnR.raw O8.out HMS.out) (by omega)).mono ?_
              rintro e w9 ⟨v9, rfl, o9, b9⟩
              obtain ⟨s9, P9, q9, e9, P9', q9', e9', rfl, o9⟩ := o9.open_; have O9 := hide o9; clear o9
              have bb := b8.trans b9
              obtain ⟨y1, y2, y3, y4, y5, y6, y7, y8⟩ := row_cells4 (HROW.out.later bb)
              refine hK.out _ _ ?_ (fun hHeld => ?_)
              · exact HT1.out _ bb
              clear hK K
              try simp only [Act.put, List.setIfInBounds_toArray, List.set_cons_zero, List.set_cons_succ]
              refine wpAnyN_ready (rs := [10]) (by kernel_rfl) (by simp) ?_
              refine AllReadyN.free rfl (by rfl) (by kernel_rfl) (fun K hK => ?_) AllReadyN.nil
              go_simp
              refine hK.out _ _ ?_
              clear hK K
              try simp only [Act.put, List.setIfInBounds_toArray, List.set_cons_zero, List.set_cons_succ]
              refine wpAnyN_done (by kernel_rfl) ?_ _
              clear hHeld
              have hr5 := (HROW.out.later bb).four (.bool s9) (.slice P9 q9 e9) (.bool false) (.slice P9' q9' e9')
              have oo := Only.four G w9 (.bool s9) (.slice P9 q9 e9) (.bool false) (.slice P9' q9' e9')
              obtain ⟨wo, hwo⟩ : ∃ W, W = ((((w9.setCell ⟨G, 0, none⟩ (.bool s9)).setCell ⟨G, 1, none⟩ (.slice P9 q9 e9)).setCell ⟨G, 2, none⟩ (.bool false)).setCell ⟨G, 3, none⟩ (.slice P9' q9' e9')) := ⟨_, rfl⟩
              rw [← hwo] at hr5 oo ⊢
              have SAwo : Hid (SumAt wo W0.heap.size G (S + Q + x.h * ((lv : Int) : Rat)) (1 + 270 * j + 45 * k + 0 + 15)) := hide ⟨_, _, _, _, _, _, _, hr5, ((On.ownR O9.out).mono (fun b hb _ => ⟨by have h5 := HLwv.out.size; have h6 := HL1.out.size; have h7 := b8.size; have h8 : wv.drew.heap.size = wv.heap.size := rfl; omega, by have h8 : wv.drew.heap.size = wv.heap.size := rfl; have h7 := b8.size; omega⟩)).only oo (by simp), (HSZ.out.add HMS.out).mono (by omega)⟩
              have HLwo := hide ((HLwv.out.drew.trans bb).only oo hG1)
              clear hr5 oo hwo bb y1 y2 y3 y4 y5 y6 y7 y8 HROW HO HSZ HT1
              have HEQ : Hid (S + Q + x.h * ((lv : Int) : Rat) = S + costRow D x r j (k+1)) := hide (by
                rw [HST.out]; unfold termC; rw [if_neg (by omega)]
                first
                | (rw [show max lv 0 = lv by omega, show max (-lv) 0 = 0 by omega]; have : ((0 : Int) : Rat) = 0 := rfl; grind)
                | (rw [show max lv 0 = 0 by omega, show max (-lv) 0 = -lv by omega]; have : ((0 : Int) : Rat) = 0 := rfl; grind)
                | (rw [show max lv 0 = 0 by omega, show max (-lv) 0 = 0 by omega]; have : ((0 : Int) : Rat) = 0 := rfl; grind))
              go_wp2_with fail
              exact ⟨⟨k+1, by omega, by go_num, by rw [← HEQ.out]; exact SAwo.out.mono (by omega), HLwo.out⟩, by simp [intOf]; omega⟩
            · have t2 : decide (0 < lv) = false := by simpa using g1
              by_cases g2 : lv < 0
              · have t3 : decide (lv < 0) = true := by simpa using g2
                have hw1 : IntKind.i64.wrap (-lv) = -lv := IntWalk.i64_in _ (by omega)
                obtain ⟨ss, As, ns, cs, As', ns', cs', h1, h2, h3⟩ := SAwv.out
                have hgl := SAwv.out.lt
                have HROW : Hid (Row wv.drew G 37 [.bool ss, .slice As ns cs, .bool false, .slice As' ns' cs']) := hide h1
                have HO : Hid (OwnR wv.drew 0 (.agg #[.bool ss, .slice As ns cs, .bool false, .slice As' ns' cs']) _) := hide (OwnR.later h2.now (Later.refl wv).drew)
                have HSZ := hide h3
                have HMS : Hid (Sized (x.b * (((-lv) : Int) : Rat)) 14) := hide ((ENum.raw M3.out).sized.mul (sized_int (by omega) (by omega)))
                have hrx := R0.out.later (HL1.out.trans HLwv.out.drew)
                have hlw := B0.out.trans (HL1.out.trans HLwv.out.drew)
                have HT1 : Hid (∀ w', Later wv.drew w' → w'.cell? ⟨G, 0, none⟩ = some (.bool ss) ∧ w'.cell? ⟨G, 1, none⟩ = some (.slice As ns cs) ∧ w'.cell? ⟨G, 2, none⟩ = some (.bool false) ∧ w'.cell? ⟨G, 3, none⟩ = some (.slice As' ns' cs') ∧ w'.cell? ⟨w.heap.size, 0, none⟩ = some (.slice (some ⟨b2, off2, none⟩) n1 c1) ∧ w'.cell? ⟨w.heap.size, 1, none⟩ = some (.int .i64 D.hor) ∧ w'.cell? ⟨w.heap.size, 2, none⟩ = some (.int .i64 D.now) ∧ w'.cell? ⟨w.heap.size, 3, none⟩ = some (.slice A2 n2 c2) ∧ w'.cell? ⟨w.heap.size, 4, none⟩ = some (.slice A3 n3 c3) ∧ w'.cell? ⟨w.heap.size, 5, none⟩ = some (.slice A4 n4 c4) ∧ w'.cell? ⟨b2, off2 + j * 12 + 8, none⟩ = some (.bool e3.a) ∧ w'.cell? ⟨b2, off2 + j * 12 + 9, none⟩ = some (.slice e3.A e3.n e3.c) ∧ w'.cell? ⟨b2, off2 + j * 12 + 10, none⟩ = some (.bool e3.a') ∧ w'.cell? ⟨b2, off2 + j * 12 + 11, none⟩ = some (.slice e3.A' e3.n' e3.c')) := hide fun w' hb => ⟨(HROW.out.later hb).cell rfl, (HROW.out.later hb).cell rfl, (HROW.out.later hb).cell rfl, (HROW.out.later hb).cell rfl, (hrx.later hb).cell rfl, (hrx.later hb).cell rfl, (hrx.later hb).cell rfl, (hrx.later hb).cell rfl, (hrx.later hb).cell rfl, (hrx.later hb).cell rfl, Later.cell (hlw.trans hb) HX8.out, Later.cell (hlw.trans hb) HX9.out, Later.cell (hlw.trans hb) HX10.out, Later.cell (hlw.trans hb) HX11.out⟩
                clear h1 h2 h3 hrx hlw
                go_upto_region 16 with fail
                refine wp_region_N (fun w' => w'.cell? ⟨G, 0, none⟩ = some (.bool ss) ∧ w'.cell? ⟨G, 1, none⟩ = some (.slice As ns cs) ∧ w'.cell? ⟨G, 2, none⟩ = some (.bool false) ∧ w'.cell? ⟨G, 3, none⟩ = some (.slice As' ns' cs') ∧ w'.cell? ⟨w.heap.size, 0, none⟩ = some (.slice (some ⟨b2, off2, none⟩) n1 c1) ∧ w'.cell? ⟨w.heap.size, 1, none⟩ = some (.int .i64 D.hor) ∧ w'.cell? ⟨w.heap.size, 2, none⟩ = some (.int .i64 D.now) ∧ w'.cell? ⟨w.heap.size, 3, none⟩ = some (.slice A2 n2 c2) ∧ w'.cell? ⟨w.heap.size, 4, none⟩ = some (.slice A3 n3 c3) ∧ w'.cell? ⟨w.heap.size, 5, none⟩ = some (.slice A4 n4 c4) ∧ w'.cell? ⟨b2, off2 + j * 12 + 8, none⟩ = some (.bool e3.a) ∧ w'.cell? ⟨b2, off2 + j * 12 + 9, none⟩ = some (.slice e3.A e3.n e3.c) ∧ w'.cell? ⟨b2, off2 + j * 12 + 10, none⟩ = some (.bool e3.a') ∧ w'.cell? ⟨b2, off2 + j * 12 + 11, none⟩ = some (.slice e3.A' e3.n' e3.c')) [11] hmx (HT1.out _ (Later.refl _)) (fun hHeld => ?_)
                refine wpAnyN_takeD (some 63) (by rfl) (i := 0) (oi := _) (v := ?_) rfl (by kernel_rfl) (by kernel_rfl) (by kernel_rfl) (by kernel_rfl) (fun _ _ _ h => h) (Or.inl ⟨by rfl, ?_⟩) (by assumption) ?_
                rotate_left
                · intro w hSw; (try dsimp only at hSw); go_simp
                  first | done | with_reducible rfl
                try simp only [Act.put, List.setIfInBounds_toArray, List.set_cons_zero, List.set_cons_succ]
                refine wpAnyN_takeD (some 64) (by rfl) (i := 1) (oi := _) (v := ?_) rfl (by kernel_rfl) (by kernel_rfl) (by kernel_rfl) (by kernel_rfl) (fun _ _ _ h => h) (Or.inl ⟨by rfl, ?_⟩) (by assumption) ?_
                rotate_left
                · intro w hSw; (try dsimp only at hSw); go_simp
                  first | done | with_reducible rfl
                try simp only [Act.put, List.setIfInBounds_toArray, List.set_cons_zero, List.set_cons_succ]
                refine wpAnyN_takeD (some 65) (by rfl) (i := 2) (oi := _) (v := ?_) rfl (by kernel_rfl) (by kernel_rfl) (by kernel_rfl) (by kernel_rfl) (fun _ _ _ h => h) (Or.inl ⟨by rfl, ?_⟩) (by assumption) ?_
                rotate_left
                · intro w hSw; (try dsimp only at hSw); go_simp
                  first | done | with_reducible rfl
                try simp only [Act.put, List.setIfInBounds_toArray, List.set_cons_zero, List.set_cons_succ]
                refine wpAnyN_takeD (some 66) (by rfl) (i := 3) (oi := _) (v := ?_) rfl (by kernel_rfl) (by kernel_rfl) (by kernel_rfl) (by kernel_rfl) (fun _ _ _ h => h) (Or.inl ⟨by rfl, ?_⟩) (by assumption) ?_
                rotate_left
                · intro w hSw; (try dsimp only at hSw); go_simp
                  first | done | with_reducible rfl
                try simp only [Act.put, List.setIfInBounds_toArray, List.set_cons_zero, List.set_cons_succ]
                refine wpAnyN_takeD (some 67) (by rfl) (i := 4) (oi := _) (v := ?_) rfl (by kernel_rfl) (by kernel_rfl) (by kernel_rfl) (by kernel_rfl) (fun _ _ _ h => h) (Or.inl ⟨by rfl, ?_⟩) (by assumption) ?_
                rotate_left
                · intro w hSw; (try dsimp only at hSw); go_simp
                  first | done | with_reducible rfl
                try simp only [Act.put, List.setIfInBounds_toArray, List.set_cons_zero, List.set_cons_succ]
                refine wpAnyN_takeD (some 68) (by rfl) (i := 5) (oi := _) (v := ?_) rfl (by kernel_rfl) (by kernel_rfl) (by kernel_rfl) (by kernel_rfl) (fun _ _ _ h => h) (Or.inl ⟨by rfl, ?_⟩) (by assumption) ?_
                rotate_left
                · intro w hSw; (try dsimp only at hSw); go_simp
                  first | done | with_reducible rfl
                try simp only [Act.put, List.setIfInBounds_toArray, List.set_cons_zero, List.set_cons_succ]
                refine wpAnyN_takeD (some 69) (by rfl) (i := 6) (oi := _) (v := ?_) rfl (by kernel_rfl) (by kernel_rfl) (by kernel_rfl) (by kernel_rfl) (fun _ _ _ h => h) (Or.inl ⟨by rfl, ?_⟩) (by assumption) ?_
                rotate_left
                · intro w hSw; (try dsimp only at hSw); go_simp
                  first | done | with_reducible rfl
                try simp only [Act.put, List.setIfInBounds_toArray, List.set_cons_zero, List.set_cons_succ]
                refine wpAnyN_takeD (some 70) (by rfl) (i := 7) (oi := _) (v := ?_) rfl (by kernel_rfl) (by kernel_rfl) (by kernel_rfl) (by kernel_rfl) (fun _ _ _ h => h) (Or.inl ⟨by rfl, ?_⟩) (by assumption) ?_
                rotate_left
                · intro w hSw; (try dsimp only at hSw); go_simp
                  first | done | with_reducible rfl
                try simp only [Act.put, List.setIfInBounds_toArray, List.set_cons_zero, List.set_cons_succ]
                refine wpAnyN_takeD (some 71) (by rfl) (i := 8) (oi := _) (v := ?_) rfl (by kernel_rfl) (by kernel_rfl) (by kernel_rfl) (by kernel_rfl) (fun _ _ _ h => h) (Or.inl ⟨by rfl, ?_⟩) (by assumption) ?_
                rotate_left
                · intro w hSw; (try dsimp only at hSw); go_simp
                  first | done | with_reducible rfl
                try simp only [Act.put, List.setIfInBounds_toArray, List.set_cons_zero, List.set_cons_succ]
                refine wpAnyN_ready (rs := [9]) (by kernel_rfl) (by simp) ?_
                refine AllReadyN.held rfl (by rfl) (fun K hK => ?_) AllReadyN.nil
                go_simp
                refine (rtimes_calls wv.drew _ x.b (RawR.later (ENum.raw M3.out) (B0.out.trans (HL1.out.trans (HLwv.out.drew)))) (-lv) (by omega) (by omega)).mono ?_
                rintro e w9 ⟨v9, rfl, o9, b9⟩
                obtain ⟨s9, P9, q9, e9, P9', q9', e9', rfl, o9⟩ := o9.open_; have O9 := hide o9; clear o9
                refine hK.out _ _ ?_ (fun hHeld => ?_)
                · exact HT1.out _ b9
                clear hK K
                try simp only [Act.put, List.setIfInBounds_toArray, List.set_cons_zero, List.set_cons_succ]
                refine wpAnyN_ready (rs := [10]) (by kernel_rfl) (by simp) ?_
                refine AllReadyN.held rfl (by rfl) (fun K hK => ?_) AllReadyN.nil
                go_simp
                refine (qadd_calls w9 _ _ _ (x.b * (((-lv) : Int) : Rat)) (1 + 270 * j + 45 * k + 0) 14 (OwnR.raw (OwnR.later HO.out b9) (HSZ.out.mono (by omega))) (OwnR.raw O9.out HMS.out) (by omega)).mono ?_
                rintro e w10 ⟨v10, rfl, o10, b10⟩
                obtain ⟨s10, P10, q10, e10, P10', q10', e10', rfl, o10⟩ := o10.open_; have O10 := hide o10; clear o10
                have bb := b9.trans b10
                obtain ⟨y1, y2, y3, y4, y5, y6, y7, y8⟩ := row_cells4 (HROW.out.later bb)
                refine hK.out _ _ ?_ (fun hHeld => ?_)
                · exact HT1.out _ bb
                clear hK K
                try simp only [Act.put, List.setIfInBounds_toArray, List.set_cons_zero, List.set_cons_succ]
                refine wpAnyN_ready (rs := [11]) (by kernel_rfl) (by simp) ?_
                refine AllReadyN.free rfl (by rfl) (by kernel_rfl) (fun K hK => ?_) AllReadyN.nil
                go_simp
                refine hK.out _ _ ?_
                clear hK K
                try simp only [Act.put, List.setIfInBounds_toArray, List.set_cons_zero, List.set_cons_succ]
                refine wpAnyN_done (by kernel_rfl) ?_ _
                clear hHeld
                have hr5 := (HROW.out.later bb).four (.bool s10) (.slice P10 q10 e10) (.bool false) (.slice P10' q10' e10')
                have oo := Only.four G w10 (.bool s10) (.slice P10 q10 e10) (.bool false) (.slice P10' q10' e10')
                obtain ⟨wo, hwo⟩ : ∃ W, W = ((((w10.setCell ⟨G, 0, none⟩ (.bool s10)).setCell ⟨G, 1, none⟩ (.slice P10 q10 e10)).setCell ⟨G, 2, none⟩ (.bool false)).setCell ⟨G, 3, none⟩ (.slice P10' q10' e10')) := ⟨_, rfl⟩
                rw [← hwo] at hr5 oo ⊢
                have SAwo : Hid (SumAt wo W0.heap.size G (S + Q + x.b * (((-lv) : Int) : Rat)) (1 + 270 * j + 45 * k + 0 + 15)) := hide ⟨_, _, _, _, _, _, _, hr5, ((On.ownR O10.out).mono (fun b hb _ => ⟨by have h5 := HLwv.out.size; have h6 := HL1.out.size; have h7 := b9.size; have h8 : wv.drew.heap.size = wv.heap.size := rfl; omega, by have h8 : wv.drew.heap.size = wv.heap.size := rfl; have h7 := b9.size; omega⟩)).only oo (by simp), (HSZ.out.add HMS.out).mono (by omega)⟩
                have HLwo := hide ((HLwv.out.drew.trans bb).only oo hG1)
                clear hr5 oo hwo bb y1 y2 y3 y4 y5 y6 y7 y8 HROW HO HSZ HT1
                have HEQ : Hid (S + Q + x.b * (((-lv) : Int) : Rat) = S + costRow D x r j (k+1)) := hide (by
                  rw [HST.out]; unfold termC; rw [if_neg (by omega)]
                  first
                  | (rw [show max lv 0 = lv by omega, show max (-lv) 0 = 0 by omega]; have : ((0 : Int) : Rat) = 0 := rfl; grind)
                  | (rw [show max lv 0 = 0 by omega, show max (-lv) 0 = -lv by omega]; have : ((0 : Int) : Rat) = 0 := rfl; grind)
                  | (rw [show max lv 0 = 0 by omega, show max (-lv) 0 = 0 by omega]; have : ((0 : Int) : Rat) = 0 := rfl; grind))
                go_wp2_with fail
                exact ⟨⟨k+1, by omega, by go_num, by rw [← HEQ.out]; exact SAwo.out.mono (by omega), HLwo.out⟩, by simp [intOf]; omega⟩
              · have t3 : decide (lv < 0) = false := by simpa using g2
                have SAwo := SAwv; have HLwo := HLwv
                have HEQ : Hid (S + Q = S + costRow D x r j (k+1)) := hide (by
                  rw [HST.out]; unfold termC; rw [if_neg (by omega)]
                  first
                  | (rw [show max lv 0 = lv by omega, show max (-lv) 0 = 0 by omega]; have : ((0 : Int) : Rat) = 0 := rfl; grind)
                  | (rw [show max lv 0 = 0 by omega, show max (-lv) 0 = -lv by omega]; have : ((0 : Int) : Rat) = 0 := rfl; grind)
                  | (rw [show max lv 0 = 0 by omega, show max (-lv) 0 = 0 by omega]; have : ((0 : Int) : Rat) = 0 := rfl; grind))
                go_wp2_with fail
                exact ⟨⟨k+1, by omega, by go_num, by rw [← HEQ.out]; exact SAwo.out.mono (by omega), HLwo.out⟩, by simp [intOf]; omega⟩
        · obtain rfl : k = hz := by omega
          have hk1 : ¬ (k : Int) < D.hor := by have := HHZ.out; omega
          have t0 : decide ((k : Int) < D.hor) = false := by simpa using hk1
          go_wp2_with fail
          exact ⟨⟨j+1, by omega, by go_num, by rw [HCT.out]; exact SAwr.out.mono (by omega), HLwr.out⟩, by simp [intOf]; omega⟩
    · obtain rfl : j = nq := by omega
      have hj1 : ¬ (j : Int) < j := by omega
      have HE : Hid (costTo D t j = zc) := hide (by rw [HZ.out, LQ.out])
      rw [HE.out] at HSA
      obtain ⟨ss, As, ns, cs, As', ns', cs', h1, h2, h3⟩ := HSA.out
      obtain ⟨y1, y2, y3, y4, -⟩ := row_cells4 h1
      have hrow := R1.out.later (HL1.out.trans HL.out)
      obtain ⟨z1, z2, z3, z4, z5, z6, z7, z8⟩ := row_cells4 hrow
      have HR := hide hrow; have H2 := hide h2; have H3 := hide h3
      clear hrow h1 h2 h3
      go_wp2_with fail
      refine bodyPost_ret (results_rat_bool rfl rfl rfl (HR.out.four _ _ _ _)) rfl ?_
      have oo := Only.four (w.heap.size + 1) wr (.bool ss) (.slice As ns cs) (.bool false) (.slice As' ns' cs')
      exact ⟨_, rfl, (H2.out.only oo (by omega)).now, H3.out.mono (by omega), (B0.out.trans (HL1.out.trans HL.out)).only oo (by omega)⟩
end Go.Proofs.YthncinngkfflgaaGreat
