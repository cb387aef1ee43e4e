/- PlanTells: the walk. -/
import Derived.Test.YthncinngkfflgaaGreatQ24
import Derived.Test.YthncinngkfflgaaGreatQ12
import Derived.SizedLaws
set_option linter.unusedVariables false
set_option linter.unusedSimpArgs false
set_option maxRecDepth 100000
namespace Go.Proofs.YthncinngkfflgaaGreat
open Go.RowKit Go.Shelf
attribute [local go_sem ↓] Go.wp_at_zero Go.wp_at_succ

theorem EAnyF.later {w w' : World} {v : Value} {q : Rat} {f : Bool} (h : EAnyF w v q f) (hb : Later w w') : EAnyF w' v q f := by
  obtain ⟨s, A, n, c, s', A', n', c', e, h1, h2⟩ := h; exact ⟨s, A, n, c, s', A', n', c', e, EAny.later _ _ _ _ h1 hb, h2⟩
theorem ItsAny.later {w w' : World} {A : Option Addr} {n c : Nat} (h : ItsAny w A n c) (hb : Later w w') : ItsAny w' A n c := by
  refine ⟨h.1, h.2.1, fun i hi => ?_⟩
  obtain ⟨x, b, off, ha, e1, e2, e3, x0, x1, x2, x3, x4, x5, x6, x7, x8, x9, x10, x11, m1, m2, m3⟩ := h.2.2 i hi
  exact ⟨x, b, off, ha, e1, e2, e3, Later.cell hb x0, Later.cell hb x1, Later.cell hb x2, Later.cell hb x3, Later.cell hb x4, Later.cell hb x5, Later.cell hb x6, Later.cell hb x7, Later.cell hb x8, Later.cell hb x9, Later.cell hb x10, Later.cell hb x11, m1.later hb, m2.later hb, m3.later hb⟩
/-- a book that came in -/
def ArgBook (w : World) (v : Value) : Prop := ∃ A1 A2 A3 A4 n1 n2 n3 n4 c1 c2 c3 c4 hor now caps ords mks, v = .agg #[.slice A1 n1 c1, .int .i64 hor, .int .i64 now, .slice A2 n2 c2, .slice A3 n3 c3, .slice A4 n4 c4] ∧ ItsAny w A1 n1 c1 ∧ Sq 1 iCells w (.slice A2 n2 c2) caps ∧ Sq 4 oCells w (.slice A3 n3 c3) ords ∧ Sq 3 mCells w (.slice A4 n4 c4) mks ∧
  (IFit hor ∧ IFit now ∧ (∀ z ∈ caps, IFit z) ∧ (∀ o ∈ ords, o.fit) ∧ (∀ x ∈ mks, x.fit))
/-- a plan that came in -/
def ArgGrid (w : World) (v : Value) : Prop := ∃ A n c t, v = .slice A n c ∧ Grid w (.slice A n c) t ∧ (∀ r ∈ t, ∀ z ∈ r, -9223372036854775808 ≤ z ∧ z < 9223372036854775808) ∧ (∀ r ∈ t, r.length ≤ 35184372088832)

set_option maxHeartbeats 8000000 in
theorem plantells_walk (w : World) (v0 : Value) (item period : Int) (h0 : ArgBook w v0) :
    Calls Tryz.prog 4 #[v0, .int .i64 item, .int .i64 period] w (RetV w (.bool true)) := by
  obtain ⟨A1, A2, A3, A4, n1, n2, n3, n4, c1, c2, c3, c4, hor, now, caps, ords, mks, rfl, hi, hcp, hor', hmk, hft⟩ := h0
  have HI := hide hi; have HCP := hide hcp; have HOR := hide hor'; have HMK := hide hmk; have HFT := hide hft
  clear hi hcp hor' hmk hft
  obtain ⟨W0, hW0⟩ : ∃ W0, W0 = (w.alloc (Obj.cells #[Value.slice A1 n1 c1, Value.int .i64 hor, Value.int .i64 now, Value.slice A2 n2 c2, Value.slice A3 n3 c3, Value.slice A4 n4 c4] 47)) := ⟨_, rfl⟩
  obtain ⟨hb0, r0, hsz0⟩ := boxes1 w [.slice A1 n1 c1, .int .i64 hor, .int .i64 now, .slice A2 n2 c2, .slice A3 n3 c3, .slice A4 n4 c4] 47 hW0
  have B0 := hide hb0; have HW0 := hide hW0
  have R0 := hide r0
  clear hb0 hW0 hsz0 r0
  go_enter Tryz.func4, Tryz.ntmps4
  go_upto_region 1 with fail
  rw [← HW0.out]
  go_wp2_with fail
  ((with_reducible refine (awake17_calls W0).mono ?_); rintro e w1 ⟨rfl, b1⟩)
  have HL1 := hide b1
  clear b1
  have r_d := R0.out.later HL1.out
  have d0 := r_d.cell (i := 0) rfl; have d1 := r_d.cell (i := 1) rfl; have d2 := r_d.cell (i := 2) rfl; have d3 := r_d.cell (i := 3) rfl; have d4 := r_d.cell (i := 4) rfl; have d5 := r_d.cell (i := 5) rfl
  clear r_d
  go_wp2_with fail
  ((with_reducible refine (few17_calls w1 _ _ _ _ _ _ _ _ _ _ _ _ hor now caps ords mks (HI.out.later (B0.out.trans HL1.out)) (HCP.out.later (B0.out.trans HL1.out)) (HOR.out.later (B0.out.trans HL1.out)) (HMK.out.later (B0.out.trans HL1.out)) HFT.out.1 HFT.out.2.1 HFT.out.2.2.1 HFT.out.2.2.2.1 HFT.out.2.2.2.2).mono ?_); rintro e w2 ⟨uf, rfl, b2, hf⟩)
  have HF := hide hf; have HL2 := hide (HL1.out.trans b2)
  have HLB := hide b2
  clear b2 hf d0 d1 d2 d3 d4 d5
  have r_d := R0.out.later HL2.out
  have d0 := r_d.cell (i := 0) rfl; have d1 := r_d.cell (i := 1) rfl; have d2 := r_d.cell (i := 2) rfl; have d3 := r_d.cell (i := 3) rfl; have d4 := r_d.cell (i := 4) rfl; have d5 := r_d.cell (i := 5) rfl
  clear r_d
  cases uf with
  | false =>
    go_wp2_with fail
    go_ret
    exact ⟨rfl, B0.out.trans HL2.out⟩
  | true =>
  obtain ⟨D, rfl, rfl, rfl, rfl, rfl, hbk⟩ := HF.out (by first | rfl | trivial)
  have H := hide (hbk.later HLB.out)
  clear hbk HF HI HCP HOR HMK HFT HLB
  obtain ⟨fo, hfo⟩ : ∃ fo, fixedV D item period = fo := ⟨_, rfl⟩
  obtain ⟨u0, hu0⟩ : ∃ u, mayB D = u := ⟨_, rfl⟩
  obtain ⟨zc, hzc⟩ : ∃ z, capV D period = z := ⟨_, rfl⟩
  obtain ⟨zt, hzt⟩ : ∃ z, thereV D item = z := ⟨_, rfl⟩
  obtain ⟨zd, hzd⟩ : ∃ z, dueV D item period = z := ⟨_, rfl⟩
  have HFO := hide hfo; have HU0 := hide hu0; have ZC := hide hzc; have ZT := hide hzt; have ZD := hide hzd
  clear hfo hu0 hzc hzt hzd
  go_wp2_with fail
  ((with_reducible refine (plfixed_calls _ _ _ _ _ _ _ _ _ _ _ _ _ D H.out item period).mono ?_); rintro e w3 ⟨rfl, b3⟩)
  rw [HFO.out]
  have HL3 := hide (HL2.out.trans b3); have HL23 := hide b3
  clear b3 d0 d1 d2 d3 d4 d5
  have r_d := R0.out.later HL3.out
  have d0 := r_d.cell (i := 0) rfl; have d1 := r_d.cell (i := 1) rfl; have d2 := r_d.cell (i := 2) rfl; have d3 := r_d.cell (i := 3) rfl; have d4 := r_d.cell (i := 4) rfl; have d5 := r_d.cell (i := 5) rfl
  clear r_d
  go_wp2_with fail
  ((with_reducible refine (rfixed_calls _ _ _ _ _ _ _ _ _ _ _ _ _ D (H.out.later HL23.out) item period).mono ?_); rintro e w4 ⟨rfl, b4⟩)
  rw [HFO.out]
  have HL4 := hide (HL3.out.trans b4); have HL24 := hide (HL23.out.trans b4)
  clear b4 d0 d1 d2 d3 d4 d5
  obtain ⟨zf, hzf⟩ : ∃ z, fo.getD 0 = z := ⟨_, rfl⟩
  obtain ⟨zs, hzs⟩ : ∃ z, fo.isSome = z := ⟨_, rfl⟩
  rw [hzf, hzs]
  clear hzf hzs
  go_upto_region 7 with fail
  have hrx := R0.out.later (HL4.out.trans (Later.refl w4).drew)
  have HT1 : Hid (∀ w', Later w4.drew w' → w'.cell? ⟨w.heap.size, 0, none⟩ = some (.slice A1 n1 c1) ∧ w'.cell? ⟨w.heap.size, 1, none⟩ = some (.int .i64 D.hor) ∧ w'.cell? ⟨w.heap.size, 2, none⟩ = some (.int .i64 D.now) ∧ w'.cell? ⟨w.heap.size, 3, none⟩ = some (.slice A2 n2 c2) ∧ w'.cell? ⟨w.heap.size, 4, none⟩ = some (.slice A3 n3 c3) ∧ w'.cell? ⟨w.heap.size, 5, none⟩ = some (.slice A4 n4 c4)) := hide fun w' hb => ⟨(hrx.later hb).cell rfl, (hrx.later hb).cell rfl, (hrx.later hb).cell rfl, (hrx.later hb).cell rfl, (hrx.later hb).cell rfl, (hrx.later hb).cell rfl⟩
  clear hrx
  have hmx : Tryz.prog.follows .mixedOrders = true := by kernel_rfl
  refine wp_region_N (fun w' => w'.cell? ⟨w.heap.size, 0, none⟩ = some (.slice A1 n1 c1) ∧ w'.cell? ⟨w.heap.size, 1, none⟩ = some (.int .i64 D.hor) ∧ w'.cell? ⟨w.heap.size, 2, none⟩ = some (.int .i64 D.now) ∧ w'.cell? ⟨w.heap.size, 3, none⟩ = some (.slice A2 n2 c2) ∧ w'.cell? ⟨w.heap.size, 4, none⟩ = some (.slice A3 n3 c3) ∧ w'.cell? ⟨w.heap.size, 5, none⟩ = some (.slice A4 n4 c4)) [] hmx (HT1.out _ (Later.refl _)) (fun hHeld => ?_)
  refine wpAnyN_takeD (some 30) (by rfl) (i := 0) (oi := _) (v := ?_) rfl (by kernel_rfl) (by kernel_rfl) (by kernel_rfl) (by kernel_rfl) (fun _ _ _ h => h) (Or.inl ⟨by rfl, ?_⟩) (by assumption) ?_
  rotate_left
  · intro w hSw; (try dsimp only at hSw); go_simp
    first | done | with_reducible rfl
  try simp only [Act.put, List.setIfInBounds_toArray, List.set_cons_zero, List.set_cons_succ]
  refine wpAnyN_takeD (some 32) (by rfl) (i := 2) (oi := _) (v := ?_) rfl (by kernel_rfl) (by kernel_rfl) (by kernel_rfl) (by kernel_rfl) (fun _ _ _ h => h) (Or.inl ⟨by rfl, ?_⟩) (by assumption) ?_
  rotate_left
  · intro w hSw; (try dsimp only at hSw); go_simp
    first | done | with_reducible rfl
  try simp only [Act.put, List.setIfInBounds_toArray, List.set_cons_zero, List.set_cons_succ]
  refine wpAnyN_ready (rs := [1]) (by kernel_rfl) (by simp) ?_
  refine AllReadyN.held rfl (by rfl) (fun K hK => ?_) AllReadyN.nil
  go_simp
  refine (plmay_calls _ _ _ _ _ _ _ _ _ _ _ _ _ D (H.out.later (HL24.out.trans ((Later.refl w4).drew.trans (Later.refl w4.drew)))) _ HU0.out).mono ?_
  rintro e w101 ⟨rfl, b1⟩
  refine hK.out _ _ ?_ (fun hHeld => ?_)
  · exact HT1.out _ ((Later.refl w4.drew).trans b1)
  clear hK K
  try simp only [Act.put, List.setIfInBounds_toArray, List.set_cons_zero, List.set_cons_succ]
  refine wpAnyN_ready (rs := [3]) (by kernel_rfl) (by simp) ?_
  refine AllReadyN.held rfl (by rfl) (fun K hK => ?_) AllReadyN.nil
  go_simp
  refine (rmay_calls _ _ _ _ _ _ _ _ _ _ _ _ _ D (H.out.later (HL24.out.trans ((Later.refl w4).drew.trans ((Later.refl w4.drew).trans b1)))) _ HU0.out).mono ?_
  rintro e w103 ⟨rfl, b3⟩
  refine hK.out _ _ ?_ (fun hHeld => ?_)
  · exact HT1.out _ (((Later.refl w4.drew).trans b1).trans b3)
  clear hK K
  try simp only [Act.put, List.setIfInBounds_toArray, List.set_cons_zero, List.set_cons_succ]
  refine wpAnyN_takeD (some 34) (by rfl) (i := 4) (oi := _) (v := ?_) rfl (by kernel_rfl) (by kernel_rfl) (by kernel_rfl) (by kernel_rfl) (fun _ _ _ h => h) (Or.inl ⟨by rfl, ?_⟩) (by assumption) ?_
  rotate_left
  · intro w hSw; (try dsimp only at hSw); go_simp
    first | done | with_reducible rfl
  try simp only [Act.put, List.setIfInBounds_toArray, List.set_cons_zero, List.set_cons_succ]
  refine wpAnyN_takeD (some 35) (by rfl) (i := 5) (oi := _) (v := ?_) rfl (by kernel_rfl) (by kernel_rfl) (by kernel_rfl) (by kernel_rfl) (fun _ _ _ h => h) (Or.inl ⟨by rfl, ?_⟩) (by assumption) ?_
  rotate_left
  · intro w hSw; (try dsimp only at hSw); go_simp
    first | done | with_reducible rfl
  try simp only [Act.put, List.setIfInBounds_toArray, List.set_cons_zero, List.set_cons_succ]
  refine wpAnyN_takeD (some 36) (by rfl) (i := 6) (oi := _) (v := ?_) rfl (by kernel_rfl) (by kernel_rfl) (by kernel_rfl) (by kernel_rfl) (fun _ _ _ h => h) (Or.inl ⟨by rfl, ?_⟩) (by assumption) ?_
  rotate_left
  · intro w hSw; (try dsimp only at hSw); go_simp
    first | done | with_reducible rfl
  try simp only [Act.put, List.setIfInBounds_toArray, List.set_cons_zero, List.set_cons_succ]
  refine wpAnyN_takeD (some 37) (by rfl) (i := 7) (oi := _) (v := ?_) rfl (by kernel_rfl) (by kernel_rfl) (by kernel_rfl) (by kernel_rfl) (fun _ _ _ h => h) (Or.inl ⟨by rfl, ?_⟩) (by assumption) ?_
  rotate_left
  · intro w hSw; (try dsimp only at hSw); go_simp
    first | done | with_reducible rfl
  try simp only [Act.put, List.setIfInBounds_toArray, List.set_cons_zero, List.set_cons_succ]
  refine wpAnyN_takeD (some 39) (by rfl) (i := 9) (oi := _) (v := ?_) rfl (by kernel_rfl) (by kernel_rfl) (by kernel_rfl) (by kernel_rfl) (fun _ _ _ h => h) (Or.inl ⟨by rfl, ?_⟩) (by assumption) ?_
  rotate_left
  · intro w hSw; (try dsimp only at hSw); go_simp
    first | done | with_reducible rfl
  try simp only [Act.put, List.setIfInBounds_toArray, List.set_cons_zero, List.set_cons_succ]
  refine wpAnyN_takeD (some 40) (by rfl) (i := 10) (oi := _) (v := ?_) rfl (by kernel_rfl) (by kernel_rfl) (by kernel_rfl) (by kernel_rfl) (fun _ _ _ h => h) (Or.inl ⟨by rfl, ?_⟩) (by assumption) ?_
  rotate_left
  · intro w hSw; (try dsimp only at hSw); go_simp
    first | done | with_reducible rfl
  try simp only [Act.put, List.setIfInBounds_toArray, List.set_cons_zero, List.set_cons_succ]
  refine wpAnyN_ready (rs := [8]) (by kernel_rfl) (by simp) ?_
  refine AllReadyN.held rfl (by rfl) (fun K hK => ?_) AllReadyN.nil
  go_simp
  refine (plcap_calls _ _ _ _ _ _ _ _ _ _ _ _ _ D (H.out.later (HL24.out.trans ((Later.refl w4).drew.trans (((Later.refl w4.drew).trans b1).trans b3)))) period).mono ?_
  rintro e w108 ⟨rfl, b8⟩
  rw [ZC.out]
  refine hK.out _ _ ?_ (fun hHeld => ?_)
  · exact HT1.out _ ((((Later.refl w4.drew).trans b1).trans b3).trans b8)
  clear hK K
  try simp only [Act.put, List.setIfInBounds_toArray, List.set_cons_zero, List.set_cons_succ]
  refine wpAnyN_ready (rs := [11]) (by kernel_rfl) (by simp) ?_
  refine AllReadyN.held rfl (by rfl) (fun K hK => ?_) AllReadyN.nil
  go_simp
  refine (rcap_calls _ _ _ _ _ _ _ _ _ _ _ _ _ D (H.out.later (HL24.out.trans ((Later.refl w4).drew.trans ((((Later.refl w4.drew).trans b1).trans b3).trans b8)))) period).mono ?_
  rintro e w111 ⟨rfl, b11⟩
  rw [ZC.out]
  refine hK.out _ _ ?_ (fun hHeld => ?_)
  · exact HT1.out _ (((((Later.refl w4.drew).trans b1).trans b3).trans b8).trans b11)
  clear hK K
  try simp only [Act.put, List.setIfInBounds_toArray, List.set_cons_zero, List.set_cons_succ]
  refine wpAnyN_takeD (some 42) (by rfl) (i := 12) (oi := _) (v := ?_) rfl (by kernel_rfl) (by kernel_rfl) (by kernel_rfl) (by kernel_rfl) (fun _ _ _ h => h) (Or.inl ⟨by rfl, ?_⟩) (by assumption) ?_
  rotate_left
  · intro w hSw; (try dsimp only at hSw); go_simp
    first | done | with_reducible rfl
  try simp only [Act.put, List.setIfInBounds_toArray, List.set_cons_zero, List.set_cons_succ]
  refine wpAnyN_takeD (some 43) (by rfl) (i := 13) (oi := _) (v := ?_) rfl (by kernel_rfl) (by kernel_rfl) (by kernel_rfl) (by kernel_rfl) (fun _ _ _ h => h) (Or.inl ⟨by rfl, ?_⟩) (by assumption) ?_
  rotate_left
  · intro w hSw; (try dsimp only at hSw); go_simp
    first | done | with_reducible rfl
  try simp only [Act.put, List.setIfInBounds_toArray, List.set_cons_zero, List.set_cons_succ]
  refine wpAnyN_takeD (some 44) (by rfl) (i := 14) (oi := _) (v := ?_) rfl (by kernel_rfl) (by kernel_rfl) (by kernel_rfl) (by kernel_rfl) (fun _ _ _ h => h) (Or.inl ⟨by rfl, ?_⟩) (by assumption) ?_
  rotate_left
  · intro w hSw; (try dsimp only at hSw); go_simp
    first | done | with_reducible rfl
  try simp only [Act.put, List.setIfInBounds_toArray, List.set_cons_zero, List.set_cons_succ]
  refine wpAnyN_takeD (some 45) (by rfl) (i := 15) (oi := _) (v := ?_) rfl (by kernel_rfl) (by kernel_rfl) (by kernel_rfl) (by kernel_rfl) (fun _ _ _ h => h) (Or.inl ⟨by rfl, ?_⟩) (by assumption) ?_
  rotate_left
  · intro w hSw; (try dsimp only at hSw); go_simp
    first | done | with_reducible rfl
  try simp only [Act.put, List.setIfInBounds_toArray, List.set_cons_zero, List.set_cons_succ]
  refine wpAnyN_takeD (some 46) (by rfl) (i := 16) (oi := _) (v := ?_) rfl (by kernel_rfl) (by kernel_rfl) (by kernel_rfl) (by kernel_rfl) (fun _ _ _ h => h) (Or.inl ⟨by rfl, ?_⟩) (by assumption) ?_
  rotate_left
  · intro w hSw; (try dsimp only at hSw); go_simp
    first | done | with_reducible rfl
  try simp only [Act.put, List.setIfInBounds_toArray, List.set_cons_zero, List.set_cons_succ]
  refine wpAnyN_takeD (some 48) (by rfl) (i := 18) (oi := _) (v := ?_) rfl (by kernel_rfl) (by kernel_rfl) (by kernel_rfl) (by kernel_rfl) (fun _ _ _ h => h) (Or.inl ⟨by rfl, ?_⟩) (by assumption) ?_
  rotate_left
  · intro w hSw; (try dsimp only at hSw); go_simp
    first | done | with_reducible rfl
  try simp only [Act.put, List.setIfInBounds_toArray, List.set_cons_zero, List.set_cons_succ]
  refine wpAnyN_takeD (some 49) (by rfl) (i := 19) (oi := _) (v := ?_) rfl (by kernel_rfl) (by kernel_rfl) (by kernel_rfl) (by kernel_rfl) (fun _ _ _ h => h) (Or.inl ⟨by rfl, ?_⟩) (by assumption) ?_
  rotate_left
  · intro w hSw; (try dsimp only at hSw); go_simp
    first | done | with_reducible rfl
  try simp only [Act.put, List.setIfInBounds_toArray, List.set_cons_zero, List.set_cons_succ]
  refine wpAnyN_ready (rs := [17]) (by kernel_rfl) (by simp) ?_
  refine AllReadyN.held rfl (by rfl) (fun K hK => ?_) AllReadyN.nil
  go_simp
  refine (plthere2_calls _ _ _ _ _ _ _ _ _ _ _ _ _ D (H.out.later (HL24.out.trans ((Later.refl w4).drew.trans (((((Later.refl w4.drew).trans b1).trans b3).trans b8).trans b11)))) item).mono ?_
  rintro e w117 ⟨rfl, b17⟩
  rw [ZT.out]
  refine hK.out _ _ ?_ (fun hHeld => ?_)
  · exact HT1.out _ ((((((Later.refl w4.drew).trans b1).trans b3).trans b8).trans b11).trans b17)
  clear hK K
  try simp only [Act.put, List.setIfInBounds_toArray, List.set_cons_zero, List.set_cons_succ]
  refine wpAnyN_ready (rs := [20]) (by kernel_rfl) (by simp) ?_
  refine AllReadyN.held rfl (by rfl) (fun K hK => ?_) AllReadyN.nil
  go_simp
  refine (rthere_calls _ _ _ _ _ _ _ _ _ _ _ _ _ D (H.out.later (HL24.out.trans ((Later.refl w4).drew.trans ((((((Later.refl w4.drew).trans b1).trans b3).trans b8).trans b11).trans b17)))) item).mono ?_
  rintro e w120 ⟨rfl, b20⟩
  rw [ZT.out]
  refine hK.out _ _ ?_ (fun hHeld => ?_)
  · exact HT1.out _ (((((((Later.refl w4.drew).trans b1).trans b3).trans b8).trans b11).trans b17).trans b20)
  clear hK K
  try simp only [Act.put, List.setIfInBounds_toArray, List.set_cons_zero, List.set_cons_succ]
  refine wpAnyN_takeD (some 51) (by rfl) (i := 21) (oi := _) (v := ?_) rfl (by kernel_rfl) (by kernel_rfl) (by kernel_rfl) (by kernel_rfl) (fun _ _ _ h => h) (Or.inl ⟨by rfl, ?_⟩) (by assumption) ?_
  rotate_left
  · intro w hSw; (try dsimp only at hSw); go_simp
    first | done | with_reducible rfl
  try simp only [Act.put, List.setIfInBounds_toArray, List.set_cons_zero, List.set_cons_succ]
  refine wpAnyN_takeD (some 52) (by rfl) (i := 22) (oi := _) (v := ?_) rfl (by kernel_rfl) (by kernel_rfl) (by kernel_rfl) (by kernel_rfl) (fun _ _ _ h => h) (Or.inl ⟨by rfl, ?_⟩) (by assumption) ?_
  rotate_left
  · intro w hSw; (try dsimp only at hSw); go_simp
    first | done | with_reducible rfl
  try simp only [Act.put, List.setIfInBounds_toArray, List.set_cons_zero, List.set_cons_succ]
  refine wpAnyN_takeD (some 53) (by rfl) (i := 23) (oi := _) (v := ?_) rfl (by kernel_rfl) (by kernel_rfl) (by kernel_rfl) (by kernel_rfl) (fun _ _ _ h => h) (Or.inl ⟨by rfl, ?_⟩) (by assumption) ?_
  rotate_left
  · intro w hSw; (try dsimp only at hSw); go_simp
    first | done | with_reducible rfl
  try simp only [Act.put, List.setIfInBounds_toArray, List.set_cons_zero, List.set_cons_succ]
  refine wpAnyN_takeD (some 54) (by rfl) (i := 24) (oi := _) (v := ?_) rfl (by kernel_rfl) (by kernel_rfl) (by kernel_rfl) (by kernel_rfl) (fun _ _ _ h => h) (Or.inl ⟨by rfl, ?_⟩) (by assumption) ?_
  rotate_left
  · intro w hSw; (try dsimp only at hSw); go_simp
    first | done | with_reducible rfl
  try simp only [Act.put, List.setIfInBounds_toArray, List.set_cons_zero, List.set_cons_succ]
  refine wpAnyN_takeD (some 55) (by rfl) (i := 25) (oi := _) (v := ?_) rfl (by kernel_rfl) (by kernel_rfl) (by kernel_rfl) (by kernel_rfl) (fun _ _ _ h => h) (Or.inl ⟨by rfl, ?_⟩) (by assumption) ?_
  rotate_left
  · intro w hSw; (try dsimp only at hSw); go_simp
    first | done | with_reducible rfl
  try simp only [Act.put, List.setIfInBounds_toArray, List.set_cons_zero, List.set_cons_succ]
  refine wpAnyN_takeD (some 56) (by rfl) (i := 26) (oi := _) (v := ?_) rfl (by kernel_rfl) (by kernel_rfl) (by kernel_rfl) (by kernel_rfl) (fun _ _ _ h => h) (Or.inl ⟨by rfl, ?_⟩) (by assumption) ?_
  rotate_left
  · intro w hSw; (try dsimp only at hSw); go_simp
    first | done | with_reducible rfl
  try simp only [Act.put, List.setIfInBounds_toArray, List.set_cons_zero, List.set_cons_succ]
  refine wpAnyN_takeD (some 58) (by rfl) (i := 28) (oi := _) (v := ?_) rfl (by kernel_rfl) (by kernel_rfl) (by kernel_rfl) (by kernel_rfl) (fun _ _ _ h => h) (Or.inl ⟨by rfl, ?_⟩) (by assumption) ?_
  rotate_left
  · intro w hSw; (try dsimp only at hSw); go_simp
    first | done | with_reducible rfl
  try simp only [Act.put, List.setIfInBounds_toArray, List.set_cons_zero, List.set_cons_succ]
  refine wpAnyN_takeD (some 59) (by rfl) (i := 29) (oi := _) (v := ?_) rfl (by kernel_rfl) (by kernel_rfl) (by kernel_rfl) (by kernel_rfl) (fun _ _ _ h => h) (Or.inl ⟨by rfl, ?_⟩) (by assumption) ?_
  rotate_left
  · intro w hSw; (try dsimp only at hSw); go_simp
    first | done | with_reducible rfl
  try simp only [Act.put, List.setIfInBounds_toArray, List.set_cons_zero, List.set_cons_succ]
  refine wpAnyN_takeD (some 60) (by rfl) (i := 30) (oi := _) (v := ?_) rfl (by kernel_rfl) (by kernel_rfl) (by kernel_rfl) (by kernel_rfl) (fun _ _ _ h => h) (Or.inl ⟨by rfl, ?_⟩) (by assumption) ?_
  rotate_left
  · intro w hSw; (try dsimp only at hSw); go_simp
    first | done | with_reducible rfl
  try simp only [Act.put, List.setIfInBounds_toArray, List.set_cons_zero, List.set_cons_succ]
  refine wpAnyN_ready (rs := [27]) (by kernel_rfl) (by simp) ?_
  refine AllReadyN.held rfl (by rfl) (fun K hK => ?_) AllReadyN.nil
  go_simp
  refine (pldue_calls _ _ _ _ _ _ _ _ _ _ _ _ _ D (H.out.later (HL24.out.trans ((Later.refl w4).drew.trans (((((((Later.refl w4.drew).trans b1).trans b3).trans b8).trans b11).trans b17).trans b20)))) item period).mono ?_
  rintro e w127 ⟨rfl, b27⟩
  rw [ZD.out]
  refine hK.out _ _ ?_ (fun hHeld => ?_)
  · exact HT1.out _ ((((((((Later.refl w4.drew).trans b1).trans b3).trans b8).trans b11).trans b17).trans b20).trans b27)
  clear hK K
  try simp only [Act.put, List.setIfInBounds_toArray, List.set_cons_zero, List.set_cons_succ]
  refine wpAnyN_ready (rs := [31]) (by kernel_rfl) (by simp) ?_
  refine AllReadyN.held rfl (by rfl) (fun K hK => ?_) AllReadyN.nil
  go_simp
  refine (rdue_calls _ _ _ _ _ _ _ _ _ _ _ _ _ D (H.out.later (HL24.out.trans ((Later.refl w4).drew.trans ((((((((Later.refl w4.drew).trans b1).trans b3).trans b8).trans b11).trans b17).trans b20).trans b27)))) item period).mono ?_
  rintro e w131 ⟨rfl, b31⟩
  rw [ZD.out]
  refine hK.out _ _ ?_ (fun hHeld => ?_)
  · exact HT1.out _ (((((((((Later.refl w4.drew).trans b1).trans b3).trans b8).trans b11).trans b17).trans b20).trans b27).trans b31)
  clear hK K
  try simp only [Act.put, List.setIfInBounds_toArray, List.set_cons_zero, List.set_cons_succ]
  refine wpAnyN_takeD (some 62) (by rfl) (i := 32) (oi := _) (v := ?_) rfl (by kernel_rfl) (by kernel_rfl) (by kernel_rfl) (by kernel_rfl) (fun _ _ _ h => h) (Or.inl ⟨by rfl, ?_⟩) (by assumption) ?_
  rotate_left
  · intro w hSw; (try dsimp only at hSw); go_simp
    first | done | with_reducible rfl
  try simp only [Act.put, List.setIfInBounds_toArray, List.set_cons_zero, List.set_cons_succ]
  refine wpAnyN_takeD (some 63) (by rfl) (i := 33) (oi := _) (v := ?_) rfl (by kernel_rfl) (by kernel_rfl) (by kernel_rfl) (by kernel_rfl) (fun _ _ _ h => h) (Or.inl ⟨by rfl, ?_⟩) (by assumption) ?_
  rotate_left
  · intro w hSw; (try dsimp only at hSw); go_simp
    first | done | with_reducible rfl
  try simp only [Act.put, List.setIfInBounds_toArray, List.set_cons_zero, List.set_cons_succ]
  refine wpAnyN_takeD (some 64) (by rfl) (i := 34) (oi := _) (v := ?_) rfl (by kernel_rfl) (by kernel_rfl) (by kernel_rfl) (by kernel_rfl) (fun _ _ _ h => h) (Or.inl ⟨by rfl, ?_⟩) (by assumption) ?_
  rotate_left
  · intro w hSw; (try dsimp only at hSw); go_simp
    first | done | with_reducible rfl
  try simp only [Act.put, List.setIfInBounds_toArray, List.set_cons_zero, List.set_cons_succ]
  refine wpAnyN_takeD (some 65) (by rfl) (i := 35) (oi := _) (v := ?_) rfl (by kernel_rfl) (by kernel_rfl) (by kernel_rfl) (by kernel_rfl) (fun _ _ _ h => h) (Or.inl ⟨by rfl, ?_⟩) (by assumption) ?_
  rotate_left
  · intro w hSw; (try dsimp only at hSw); go_simp
    first | done | with_reducible rfl
  try simp only [Act.put, List.setIfInBounds_toArray, List.set_cons_zero, List.set_cons_succ]
  refine wpAnyN_takeD (some 66) (by rfl) (i := 36) (oi := _) (v := ?_) rfl (by kernel_rfl) (by kernel_rfl) (by kernel_rfl) (by kernel_rfl) (fun _ _ _ h => h) (Or.inl ⟨by rfl, ?_⟩) (by assumption) ?_
  rotate_left
  · intro w hSw; (try dsimp only at hSw); go_simp
    first | done | with_reducible rfl
  try simp only [Act.put, List.setIfInBounds_toArray, List.set_cons_zero, List.set_cons_succ]
  refine wpAnyN_takeD (some 67) (by rfl) (i := 37) (oi := _) (v := ?_) rfl (by kernel_rfl) (by kernel_rfl) (by kernel_rfl) (by kernel_rfl) (fun _ _ _ h => h) (Or.inl ⟨by rfl, ?_⟩) (by assumption) ?_
  rotate_left
  · intro w hSw; (try dsimp only at hSw); go_simp
    first | done | with_reducible rfl
  try simp only [Act.put, List.setIfInBounds_toArray, List.set_cons_zero, List.set_cons_succ]
  refine wpAnyN_takeD (some 68) (by rfl) (i := 38) (oi := _) (v := ?_) rfl (by kernel_rfl) (by kernel_rfl) (by kernel_rfl) (by kernel_rfl) (fun _ _ _ h => h) (Or.inl ⟨by rfl, ?_⟩) (by assumption) ?_
  rotate_left
  · intro w hSw; (try dsimp only at hSw); go_simp
    first | done | with_reducible rfl
  try simp only [Act.put, List.setIfInBounds_toArray, List.set_cons_zero, List.set_cons_succ]
  refine wpAnyN_takeD (some 69) (by rfl) (i := 39) (oi := _) (v := ?_) rfl (by kernel_rfl) (by kernel_rfl) (by kernel_rfl) (by kernel_rfl) (fun _ _ _ h => h) (Or.inl ⟨by rfl, ?_⟩) (by assumption) ?_
  rotate_left
  · intro w hSw; (try dsimp only at hSw); go_simp
    first | done | with_reducible rfl
  try simp only [Act.put, List.setIfInBounds_toArray, List.set_cons_zero, List.set_cons_succ]
  refine wpAnyN_takeD (some 70) (by rfl) (i := 40) (oi := _) (v := ?_) rfl (by kernel_rfl) (by kernel_rfl) (by kernel_rfl) (by kernel_rfl) (fun _ _ _ h => h) (Or.inl ⟨by rfl, ?_⟩) (by assumption) ?_
  rotate_left
  · intro w hSw; (try dsimp only at hSw); go_simp
    first | done | with_reducible rfl
  try simp only [Act.put, List.setIfInBounds_toArray, List.set_cons_zero, List.set_cons_succ]
  refine wpAnyN_takeD (some 71) (by rfl) (i := 41) (oi := _) (v := ?_) rfl (by kernel_rfl) (by kernel_rfl) (by kernel_rfl) (by kernel_rfl) (fun _ _ _ h => h) (Or.inl ⟨by rfl, ?_⟩) (by assumption) ?_
  rotate_left
  · intro w hSw; (try dsimp only at hSw); go_simp
    first | done | with_reducible rfl
  try simp only [Act.put, List.setIfInBounds_toArray, List.set_cons_zero, List.set_cons_succ]
  refine wpAnyN_takeD (some 72) (by rfl) (i := 42) (oi := _) (v := ?_) rfl (by kernel_rfl) (by kernel_rfl) (by kernel_rfl) (by kernel_rfl) (fun _ _ _ h => h) (Or.inl ⟨by rfl, ?_⟩) (by assumption) ?_
  rotate_left
  · intro w hSw; (try dsimp only at hSw); go_simp
    first | done | with_reducible rfl
  try simp only [Act.put, List.setIfInBounds_toArray, List.set_cons_zero, List.set_cons_succ]
  refine wpAnyN_takeD (some 73) (by rfl) (i := 43) (oi := _) (v := ?_) rfl (by kernel_rfl) (by kernel_rfl) (by kernel_rfl) (by kernel_rfl) (fun _ _ _ h => h) (Or.inl ⟨by rfl, ?_⟩) (by assumption) ?_
  rotate_left
  · intro w hSw; (try dsimp only at hSw); go_simp
    first | done | with_reducible rfl
  try simp only [Act.put, List.setIfInBounds_toArray, List.set_cons_zero, List.set_cons_succ]
  refine wpAnyN_takeD (some 6) (by rfl) (i := 44) (oi := _) (v := ?_) rfl (by kernel_rfl) (by kernel_rfl) (by kernel_rfl) (by kernel_rfl) (fun _ _ _ h => h) (Or.inl ⟨by rfl, ?_⟩) (by assumption) ?_
  rotate_left
  · intro w hSw; (try dsimp only at hSw); go_simp
    first | done | with_reducible rfl
  try simp only [Act.put, List.setIfInBounds_toArray, List.set_cons_zero, List.set_cons_succ]
  refine wpAnyN_done (by kernel_rfl) ?_ _
  have HLL := hide (HL4.out.trans ((Later.refl w4).drew.trans (((((((((Later.refl w4.drew).trans b1).trans b3).trans b8).trans b11).trans b17).trans b20).trans b27).trans b31)))
  clear hHeld
  go_wp2_with fail
  go_ret
  exact ⟨rfl, B0.out.trans HLL.out⟩
end Go.Proofs.YthncinngkfflgaaGreat

/- PlanCosts: the walk. -/
set_option linter.unusedVariables false
set_option linter.unusedSimpArgs false
set_option maxRecDepth 100000
namespace Go.Proofs.YthncinngkfflgaaGreat
open Go.RowKit Go.Shelf
attribute [local go_sem ↓] Go.wp_at_zero Go.wp_at_succ

theorem termC_nonneg {x : PItem} (h : x.okB = true) (q n : Int) : 0 ≤ termC x q n := by
  unfold PItem.okB costB at h
  rw [Bool.and_eq_true, Bool.and_eq_true, Bool.and_eq_true, Bool.and_eq_true, Bool.and_eq_true, decide_eq_true_iff, decide_eq_true_iff, decide_eq_true_iff] at h
  obtain ⟨⟨-, h1⟩, ⟨-, h2⟩, -, h3⟩ := h
  unfold termC
  have k1 : (0 : Rat) ≤ if 0 < q then x.s else 0 := by split; exact h1; exact Rat.le_refl
  have k2 : (0 : Rat) ≤ ((max n 0 : Int) : Rat) := Rat.intCast_nonneg.2 (by omega)
  have k3 : (0 : Rat) ≤ ((max (-n) 0 : Int) : Rat) := Rat.intCast_nonneg.2 (by omega)
  have k4 := Rat.mul_nonneg h2 k2
  have k5 := Rat.mul_nonneg h3 k3
  grind
theorem costRow_nonneg {D : PBook} {x : PItem} (h : x.okB = true) (r : List Int) (i k : Nat) : 0 ≤ costRow D x r i k := by
  induction k with
  | zero => exact Rat.le_refl
  | succ k ih =>
    have h1 := termC_nonneg h (r.getD k 0) (lev D r i (k+1))
    show 0 ≤ costRow D x r i k + termC x (r.getD k 0) (lev D r i (k+1))
    grind
theorem costTo_nonneg {D : PBook} {t : List (List Int)} (h : ShapeP D t) (m : Nat) (hm : m ≤ t.length) : 0 ≤ costTo D t m := by
  induction m with
  | zero => exact Rat.le_refl
  | succ m ih =>
    have h0 := ih (by omega)
    obtain ⟨x, hx⟩ : ∃ x, D.items[m]? = some x := ⟨D.items[m]'(by have := h.len; omega), List.getElem?_eq_getElem _⟩
    have h1 := costRow_nonneg (D := D) (h.may.head.items x (List.mem_of_getElem? hx)) (t.getD m []) m D.hor.toNat
    show 0 ≤ costTo D t m + costRow D (D.items.getD m item0) (t.getD m []) m D.hor.toNat
    rw [item_at hx]
    grind
theorem costV_nonneg (D : PBook) (t : List (List Int)) : 0 ≤ costV D t := by
  unfold costV
  split
  · rename_i h; exact costTo_nonneg (shapeB_iff.1 h) _ (Nat.le_refl _)
  · exact Rat.le_refl

set_option maxHeartbeats 8000000 in
theorem plancosts_walk (w : World) (v0 v1 : Value) (h0 : ArgBook w v0) (h1 : ArgGrid w v1) :
    Calls Tryz.prog 5 #[v0, v1] w (RetV w (.bool true)) := by
  obtain ⟨A1, A2, A3, A4, n1, n2, n3, n4, c1, c2, c3, c4, hor, now, caps, ords, mks, rfl, hi, hcp, hor', hmk, hft⟩ := h0
  have HI := hide hi; have HCP := hide hcp; have HOR := hide hor'; have HMK := hide hmk; have HFT := hide hft
  clear hi hcp hor' hmk hft
  obtain ⟨Aq, nq, cq, t, rfl, hg, hgf, hgl⟩ := h1
  have HG := hide hg; have HGF := hide hgf; have HGL := hide hgl
  clear hg hgf hgl
  obtain ⟨W0, hW0⟩ : ∃ W0, W0 = (w.alloc (Obj.cells #[Value.slice A1 n1 c1, Value.int .i64 hor, Value.int .i64 now, Value.slice A2 n2 c2, Value.slice A3 n3 c3, Value.slice A4 n4 c4] 47)) := ⟨_, rfl⟩
  obtain ⟨hb0, r0, hsz0⟩ := boxes1 w [.slice A1 n1 c1, .int .i64 hor, .int .i64 now, .slice A2 n2 c2, .slice A3 n3 c3, .slice A4 n4 c4] 47 hW0
  have B0 := hide hb0; have HW0 := hide hW0
  have R0 := hide r0
  clear hb0 hW0 hsz0 r0
  go_enter Tryz.func5, Tryz.ntmps5
  go_upto_region 1 with fail
  rw [← HW0.out]
  go_wp2_with fail
  ((with_reducible refine (awake17_calls W0).mono ?_); rintro e w1 ⟨rfl, b1⟩)
  have HL1 := hide b1
  clear b1
  have r_d := R0.out.later HL1.out
  have d0 := r_d.cell (i := 0) rfl; have d1 := r_d.cell (i := 1) rfl; have d2 := r_d.cell (i := 2) rfl; have d3 := r_d.cell (i := 3) rfl; have d4 := r_d.cell (i := 4) rfl; have d5 := r_d.cell (i := 5) rfl
  clear r_d
  go_wp2_with fail
  ((with_reducible refine (few17_calls w1 _ _ _ _ _ _ _ _ _ _ _ _ hor now caps ords mks (HI.out.later (B0.out.trans HL1.out)) (HCP.out.later (B0.out.trans HL1.out)) (HOR.out.later (B0.out.trans HL1.out)) (HMK.out.later (B0.out.trans HL1.out)) HFT.out.1 HFT.out.2.1 HFT.out.2.2.1 HFT.out.2.2.2.1 HFT.out.2.2.2.2).mono ?_); rintro e w2 ⟨uf, rfl, b2, hf⟩)
  have HF := hide hf; have HL2 := hide (HL1.out.trans b2)
  have HLB := hide b2
  clear b2 hf d0 d1 d2 d3 d4 d5
  have r_d := R0.out.later HL2.out
  have d0 := r_d.cell (i := 0) rfl; have d1 := r_d.cell (i := 1) rfl; have d2 := r_d.cell (i := 2) rfl; have d3 := r_d.cell (i := 3) rfl; have d4 := r_d.cell (i := 4) rfl; have d5 := r_d.cell (i := 5) rfl
  clear r_d
  cases uf with
  | false =>
    go_wp2_with fail
    go_ret
    exact ⟨rfl, B0.out.trans HL2.out⟩
  | true =>
  obtain ⟨D, rfl, rfl, rfl, rfl, rfl, hbk⟩ := HF.out (by first | rfl | trivial)
  have H := hide (hbk.later HLB.out)
  clear hbk HF HI HCP HOR HMK HFT HLB
  go_wp2_with fail
  ((with_reducible refine (fewplan_calls w2 _ _ _ t (HG.out.later (B0.out.trans HL2.out)) HGF.out HGL.out).mono ?_); rintro e w3 ⟨uf, rfl, b3, hf⟩)
  have HF := hide hf; have HL3 := hide (HL2.out.trans b3)
  have HK3 := hide b3
  clear b3 hf d0 d1 d2 d3 d4 d5
  have r_d := R0.out.later HL3.out
  have d0 := r_d.cell (i := 0) rfl; have d1 := r_d.cell (i := 1) rfl; have d2 := r_d.cell (i := 2) rfl; have d3 := r_d.cell (i := 3) rfl; have d4 := r_d.cell (i := 4) rfl; have d5 := r_d.cell (i := 5) rfl
  clear r_d
  cases uf with
  | false =>
    go_wp2_with fail
    go_ret
    exact ⟨rfl, B0.out.trans HL3.out⟩
  | true =>
  have HQ := hide ((HF.out (by first | rfl | trivial)).later HK3.out)
  have H3 := hide (H.out.later HK3.out)
  clear H HF HG HGF HGL
  have H := H3
  clear H3
  obtain ⟨us, hus⟩ : ∃ u, shapeB D t = u := ⟨_, rfl⟩
  obtain ⟨ua, hua⟩ : ∃ u, allowedB D t = u := ⟨_, rfl⟩
  obtain ⟨zc, hzc⟩ : ∃ z, costV D t = z := ⟨_, rfl⟩
  obtain ⟨cz, hcz⟩ : ∃ cz, cmpQ zc 0 = cz := ⟨_, rfl⟩
  have hcz0 : 0 ≤ cz := by
    have hn := costV_nonneg D t
    rw [hzc] at hn
    rw [← hcz]; unfold cmpQ
    rw [if_neg (by grind)]
    split <;> omega
  have t9 : decide (0 ≤ cz) = true := by simpa using hcz0
  have HUS := hide hus; have HUA := hide hua; have HZC := hide hzc; have HCZ := hide hcz
  clear hus hua hzc hcz hcz0
  go_wp2_with fail
  ((refine (plcost_calls _ _ _ _ _ _ _ _ _ _ _ _ _ D H.out _ _ _ t HQ.out).mono ?_); rintro e w4 ⟨v5, rfl, o5, hs5, b4⟩)
  rw [HUS.out]
  rw [HZC.out] at o5 hs5
  obtain ⟨s5, P5, q5, e5, P5', q5', e5', rfl, o5⟩ := o5.open_; have O5 := hide o5; clear o5
  have HS := hide hs5
  have HL4 := hide (HL3.out.trans b4)
  have HL34 := hide b4
  clear b4 hs5 d0 d1 d2 d3 d4 d5
  go_upto_region 6 with fail
  obtain ⟨w5, hw5⟩ : ∃ w5, w5 = w4.alloc (Obj.cells #[Value.bool s5, Value.slice P5 q5 e5, Value.bool false, Value.slice P5' q5' e5'] 37) := ⟨_, rfl⟩
  obtain ⟨g5, hg5⟩ : ∃ g5, g5 = w4.heap.size := ⟨_, rfl⟩
  have bw5 : Later w4 w5 := by rw [hw5]; exact (Later.refl _).alloc _
  have rg5 : Row w5 g5 37 [.bool s5, .slice P5 q5 e5, .bool false, .slice P5' q5' e5'] := by rw [hw5, hg5]; exact Row.new _ _ _
  rw [← hw5, ← hg5]
  have HL5 := hide (HL4.out.trans bw5); have HL35 := hide (HL34.out.trans bw5)
  have O5b := hide (OwnR.later O5.out bw5)
  have R5 := hide rg5
  clear O5 bw5 rg5 hw5 hg5
  have r_d := R0.out.later HL5.out
  have d0 := r_d.cell (i := 0) rfl; have d1 := r_d.cell (i := 1) rfl; have d2 := r_d.cell (i := 2) rfl; have d3 := r_d.cell (i := 3) rfl; have d4 := r_d.cell (i := 4) rfl; have d5 := r_d.cell (i := 5) rfl
  clear r_d
  go_wp2_with fail
  ((refine (rcost2_calls _ _ _ _ _ _ _ _ _ _ _ _ _ D (H.out.later HL35.out) _ _ _ t (HQ.out.later HL35.out)).mono ?_); rintro e w6 ⟨v7, rfl, o7, hs7, b6⟩)
  rw [HUS.out]
  rw [HZC.out] at o7 hs7
  obtain ⟨s7, P7, q7, e7, P7', q7', e7', rfl, o7⟩ := o7.open_; have O7 := hide o7; clear o7
  have HL6 := hide (HL5.out.trans b6)
  have HL36 := hide (HL35.out.trans b6)
  have HL56 := hide b6
  clear b6 hs7 d0 d1 d2 d3 d4 d5
  go_upto_region 7 with fail
  obtain ⟨w7, hw7⟩ : ∃ w7, w7 = w6.alloc (Obj.cells #[Value.bool s7, Value.slice P7 q7 e7, Value.bool false, Value.slice P7' q7' e7'] 37) := ⟨_, rfl⟩
  obtain ⟨g7, hg7⟩ : ∃ g7, g7 = w6.heap.size := ⟨_, rfl⟩
  have bw7 : Later w6 w7 := by rw [hw7]; exact (Later.refl _).alloc _
  have rg7 : Row w7 g7 37 [.bool s7, .slice P7 q7 e7, .bool false, .slice P7' q7' e7'] := by rw [hw7, hg7]; exact Row.new _ _ _
  rw [← hw7, ← hg7]
  have HL7 := hide (HL6.out.trans bw7); have HL37 := hide (HL36.out.trans bw7); have HL57 := hide (HL56.out.trans bw7); have HLB7 := hide bw7
  have O5 := O5b
  have hrx := R0.out.later (HL7.out.trans (Later.refl w7).drew)
  have hr5 := R5.out.later (HL57.out.trans (Later.refl w7).drew)
  have hr7 := rg7.later (Later.refl w7).drew
  have HT1 : Hid (∀ w', Later w7.drew w' → w'.cell? ⟨w.heap.size, 0, none⟩ = some (.slice A1 n1 c1) ∧ w'.cell? ⟨w.heap.size, 1, none⟩ = some (.int .i64 D.hor) ∧ w'.cell? ⟨w.heap.size, 2, none⟩ = some (.int .i64 D.now) ∧ w'.cell? ⟨w.heap.size, 3, none⟩ = some (.slice A2 n2 c2) ∧ w'.cell? ⟨w.heap.size, 4, none⟩ = some (.slice A3 n3 c3) ∧ w'.cell? ⟨w.heap.size, 5, none⟩ = some (.slice A4 n4 c4) ∧ w'.cell? ⟨g5, 0, none⟩ = some (.bool s5) ∧ w'.cell? ⟨g5, 1, none⟩ = some (.slice P5 q5 e5) ∧ w'.cell? ⟨g5, 2, none⟩ = some (.bool false) ∧ w'.cell? ⟨g5, 3, none⟩ = some (.slice P5' q5' e5') ∧ w'.cell? ⟨g7, 0, none⟩ = some (.bool s7) ∧ w'.cell? ⟨g7, 1, none⟩ = some (.slice P7 q7 e7) ∧ w'.cell? ⟨g7, 2, none⟩ = some (.bool false) ∧ w'.cell? ⟨g7, 3, none⟩ = some (.slice P7' q7' e7')) := hide fun w' hb => ⟨(hrx.later hb).cell rfl, (hrx.later hb).cell rfl, (hrx.later hb).cell rfl, (hrx.later hb).cell rfl, (hrx.later hb).cell rfl, (hrx.later hb).cell rfl, (hr5.later hb).cell rfl, (hr5.later hb).cell rfl, (hr5.later hb).cell rfl, (hr5.later hb).cell rfl, (hr7.later hb).cell rfl, (hr7.later hb).cell rfl, (hr7.later hb).cell rfl, (hr7.later hb).cell rfl⟩
  clear hrx hr5 hr7 rg7 bw7 hw7 hg7
  have hmx : Tryz.prog.follows .mixedOrders = true := by kernel_rfl
  refine wp_region_N (fun w' => w'.cell? ⟨w.heap.size, 0, none⟩ = some (.slice A1 n1 c1) ∧ w'.cell? ⟨w.heap.size, 1, none⟩ = some (.int .i64 D.hor) ∧ w'.cell? ⟨w.heap.size, 2, none⟩ = some (.int .i64 D.now) ∧ w'.cell? ⟨w.heap.size, 3, none⟩ = some (.slice A2 n2 c2) ∧ w'.cell? ⟨w.heap.size, 4, none⟩ = some (.slice A3 n3 c3) ∧ w'.cell? ⟨w.heap.size, 5, none⟩ = some (.slice A4 n4 c4) ∧ w'.cell? ⟨g5, 0, none⟩ = some (.bool s5) ∧ w'.cell? ⟨g5, 1, none⟩ = some (.slice P5 q5 e5) ∧ w'.cell? ⟨g5, 2, none⟩ = some (.bool false) ∧ w'.cell? ⟨g5, 3, none⟩ = some (.slice P5' q5' e5') ∧ w'.cell? ⟨g7, 0, none⟩ = some (.bool s7) ∧ w'.cell? ⟨g7, 1, none⟩ = some (.slice P7 q7 e7) ∧ w'.cell? ⟨g7, 2, none⟩ = some (.bool false) ∧ w'.cell? ⟨g7, 3, none⟩ = some (.slice P7' q7' e7')) [] hmx (HT1.out _ (Later.refl _)) (fun hHeld => ?_)
  refine wpAnyN_takeD (some 31) (by rfl) (i := 0) (oi := _) (v := ?_) rfl (by kernel_rfl) (by kernel_rfl) (by kernel_rfl) (by kernel_rfl) (fun _ _ _ h => h) (Or.inl ⟨by rfl, ?_⟩) (by assumption) ?_
  rotate_left
  · intro w hSw; (try dsimp only at hSw); go_simp
    first | done | with_reducible rfl
  try simp only [Act.put, List.setIfInBounds_toArray, List.set_cons_zero, List.set_cons_succ]
  refine wpAnyN_takeD (some 32) (by rfl) (i := 1) (oi := _) (v := ?_) rfl (by kernel_rfl) (by kernel_rfl) (by kernel_rfl) (by kernel_rfl) (fun _ _ _ h => h) (Or.inl ⟨by rfl, ?_⟩) (by assumption) ?_
  rotate_left
  · intro w hSw; (try dsimp only at hSw); go_simp
    first | done | with_reducible rfl
  try simp only [Act.put, List.setIfInBounds_toArray, List.set_cons_zero, List.set_cons_succ]
  refine wpAnyN_ready (rs := [2]) (by kernel_rfl) (by simp) ?_
  refine AllReadyN.held rfl (by rfl) (fun K hK => ?_) AllReadyN.nil
  go_simp
  refine (qsame_calls _ _ _ zc zc _ _ 1000 1000 (OwnR.later O5.out (HL57.out.trans (Later.refl w7).drew)) (OwnR.later O7.out (HLB7.out.trans (Later.refl w7).drew)) HS.out HS.out (by omega) (by omega) true (by simp)).mono ?_
  rintro e w102 ⟨rfl, b2⟩
  refine hK.out _ _ ?_ (fun hHeld => ?_)
  · exact HT1.out _ ((Later.refl w7.drew).trans b2)
  clear hK K
  try simp only [Act.put, List.setIfInBounds_toArray, List.set_cons_zero, List.set_cons_succ]
  refine wpAnyN_takeD (some 34) (by rfl) (i := 3) (oi := _) (v := ?_) rfl (by kernel_rfl) (by kernel_rfl) (by kernel_rfl) (by kernel_rfl) (fun _ _ _ h => h) (Or.inl ⟨by rfl, ?_⟩) (by assumption) ?_
  rotate_left
  · intro w hSw; (try dsimp only at hSw); go_simp
    first | done | with_reducible rfl
  try simp only [Act.put, List.setIfInBounds_toArray, List.set_cons_zero, List.set_cons_succ]
  refine wpAnyN_takeD (some 35) (by rfl) (i := 4) (oi := _) (v := ?_) rfl (by kernel_rfl) (by kernel_rfl) (by kernel_rfl) (by kernel_rfl) (fun _ _ _ h => h) (Or.inl ⟨by rfl, ?_⟩) (by assumption) ?_
  rotate_left
  · intro w hSw; (try dsimp only at hSw); go_simp
    first | done | with_reducible rfl
  try simp only [Act.put, List.setIfInBounds_toArray, List.set_cons_zero, List.set_cons_succ]
  refine wpAnyN_takeD (some 36) (by rfl) (i := 5) (oi := _) (v := ?_) rfl (by kernel_rfl) (by kernel_rfl) (by kernel_rfl) (by kernel_rfl) (fun _ _ _ h => h) (Or.inl ⟨by rfl, ?_⟩) (by assumption) ?_
  rotate_left
  · intro w hSw; (try dsimp only at hSw); go_simp
    first | done | with_reducible rfl
  try simp only [Act.put, List.setIfInBounds_toArray, List.set_cons_zero, List.set_cons_succ]
  refine wpAnyN_takeD (some 37) (by rfl) (i := 6) (oi := _) (v := ?_) rfl (by kernel_rfl) (by kernel_rfl) (by kernel_rfl) (by kernel_rfl) (fun _ _ _ h => h) (Or.inl ⟨by rfl, ?_⟩) (by assumption) ?_
  rotate_left
  · intro w hSw; (try dsimp only at hSw); go_simp
    first | done | with_reducible rfl
  try simp only [Act.put, List.setIfInBounds_toArray, List.set_cons_zero, List.set_cons_succ]
  refine wpAnyN_takeD (some 38) (by rfl) (i := 7) (oi := _) (v := ?_) rfl (by kernel_rfl) (by kernel_rfl) (by kernel_rfl) (by kernel_rfl) (fun _ _ _ h => h) (Or.inl ⟨by rfl, ?_⟩) (by assumption) ?_
  rotate_left
  · intro w hSw; (try dsimp only at hSw); go_simp
    first | done | with_reducible rfl
  try simp only [Act.put, List.setIfInBounds_toArray, List.set_cons_zero, List.set_cons_succ]
  refine wpAnyN_takeD (some 39) (by rfl) (i := 8) (oi := _) (v := ?_) rfl (by kernel_rfl) (by kernel_rfl) (by kernel_rfl) (by kernel_rfl) (fun _ _ _ h => h) (Or.inl ⟨by rfl, ?_⟩) (by assumption) ?_
  rotate_left
  · intro w hSw; (try dsimp only at hSw); go_simp
    first | done | with_reducible rfl
  try simp only [Act.put, List.setIfInBounds_toArray, List.set_cons_zero, List.set_cons_succ]
  refine wpAnyN_takeD (some 40) (by rfl) (i := 9) (oi := _) (v := ?_) rfl (by kernel_rfl) (by kernel_rfl) (by kernel_rfl) (by kernel_rfl) (fun _ _ _ h => h) (Or.inl ⟨by rfl, ?_⟩) (by assumption) ?_
  rotate_left
  · intro w hSw; (try dsimp only at hSw); go_simp
    first | done | with_reducible rfl
  try simp only [Act.put, List.setIfInBounds_toArray, List.set_cons_zero, List.set_cons_succ]
  refine wpAnyN_takeD (some 41) (by rfl) (i := 10) (oi := _) (v := ?_) rfl (by kernel_rfl) (by kernel_rfl) (by kernel_rfl) (by kernel_rfl) (fun _ _ _ h => h) (Or.inl ⟨by rfl, ?_⟩) (by assumption) ?_
  rotate_left
  · intro w hSw; (try dsimp only at hSw); go_simp
    first | done | with_reducible rfl
  try simp only [Act.put, List.setIfInBounds_toArray, List.set_cons_zero, List.set_cons_succ]
  refine wpAnyN_takeD (some 43) (by rfl) (i := 12) (oi := _) (v := ?_) rfl (by kernel_rfl) (by kernel_rfl) (by kernel_rfl) (by kernel_rfl) (fun _ _ _ h => h) (Or.inl ⟨by rfl, ?_⟩) (by assumption) ?_
  rotate_left
  · intro w hSw; (try dsimp only at hSw); go_simp
    first | done | with_reducible rfl
  try simp only [Act.put, List.setIfInBounds_toArray, List.set_cons_zero, List.set_cons_succ]
  refine wpAnyN_takeD (some 44) (by rfl) (i := 13) (oi := _) (v := ?_) rfl (by kernel_rfl) (by kernel_rfl) (by kernel_rfl) (by kernel_rfl) (fun _ _ _ h => h) (Or.inl ⟨by rfl, ?_⟩) (by assumption) ?_
  rotate_left
  · intro w hSw; (try dsimp only at hSw); go_simp
    first | done | with_reducible rfl
  try simp only [Act.put, List.setIfInBounds_toArray, List.set_cons_zero, List.set_cons_succ]
  refine wpAnyN_ready (rs := [11]) (by kernel_rfl) (by simp) ?_
  refine AllReadyN.held rfl (by rfl) (fun K hK => ?_) AllReadyN.nil
  go_simp
  refine (plallowed_calls _ _ _ _ _ _ _ _ _ _ _ _ _ D (H.out.later (HL37.out.trans ((Later.refl w7).drew.trans ((Later.refl w7.drew).trans b2)))) _ _ _ t (HQ.out.later (HL37.out.trans ((Later.refl w7).drew.trans ((Later.refl w7.drew).trans b2)))) ua HUA.out).mono ?_
  rintro e w111 ⟨rfl, b11⟩
  refine hK.out _ _ ?_ (fun hHeld => ?_)
  · exact HT1.out _ (((Later.refl w7.drew).trans b2).trans b11)
  clear hK K
  try simp only [Act.put, List.setIfInBounds_toArray, List.set_cons_zero, List.set_cons_succ]
  refine wpAnyN_ready (rs := [14]) (by kernel_rfl) (by simp) ?_
  refine AllReadyN.held rfl (by rfl) (fun K hK => ?_) AllReadyN.nil
  go_simp
  refine (rallowed_calls _ _ _ _ _ _ _ _ _ _ _ _ _ D (H.out.later (HL37.out.trans ((Later.refl w7).drew.trans (((Later.refl w7.drew).trans b2).trans b11)))) _ _ _ t (HQ.out.later (HL37.out.trans ((Later.refl w7).drew.trans (((Later.refl w7.drew).trans b2).trans b11)))) ua HUA.out).mono ?_
  rintro e w114 ⟨rfl, b14⟩
  refine hK.out _ _ ?_ (fun hHeld => ?_)
  · exact HT1.out _ ((((Later.refl w7.drew).trans b2).trans b11).trans b14)
  clear hK K
  try simp only [Act.put, List.setIfInBounds_toArray, List.set_cons_zero, List.set_cons_succ]
  refine wpAnyN_takeD (some 46) (by rfl) (i := 15) (oi := _) (v := ?_) rfl (by kernel_rfl) (by kernel_rfl) (by kernel_rfl) (by kernel_rfl) (fun _ _ _ h => h) (Or.inl ⟨by rfl, ?_⟩) (by assumption) ?_
  rotate_left
  · intro w hSw; (try dsimp only at hSw); go_simp
    first | done | with_reducible rfl
  try simp only [Act.put, List.setIfInBounds_toArray, List.set_cons_zero, List.set_cons_succ]
  refine wpAnyN_takeD (some 47) (by rfl) (i := 16) (oi := _) (v := ?_) rfl (by kernel_rfl) (by kernel_rfl) (by kernel_rfl) (by kernel_rfl) (fun _ _ _ h => h) (Or.inl ⟨by rfl, ?_⟩) (by assumption) ?_
  rotate_left
  · intro w hSw; (try dsimp only at hSw); go_simp
    first | done | with_reducible rfl
  try simp only [Act.put, List.setIfInBounds_toArray, List.set_cons_zero, List.set_cons_succ]
  refine wpAnyN_takeD (some 48) (by rfl) (i := 17) (oi := _) (v := ?_) rfl (by kernel_rfl) (by kernel_rfl) (by kernel_rfl) (by kernel_rfl) (fun _ _ _ h => h) (Or.inl ⟨by rfl, ?_⟩) (by assumption) ?_
  rotate_left
  · intro w hSw; (try dsimp only at hSw); go_simp
    first | done | with_reducible rfl
  try simp only [Act.put, List.setIfInBounds_toArray, List.set_cons_zero, List.set_cons_succ]
  refine wpAnyN_takeD (some 49) (by rfl) (i := 18) (oi := _) (v := ?_) rfl (by kernel_rfl) (by kernel_rfl) (by kernel_rfl) (by kernel_rfl) (fun _ _ _ h => h) (Or.inl ⟨by rfl, ?_⟩) (by assumption) ?_
  rotate_left
  · intro w hSw; (try dsimp only at hSw); go_simp
    first | done | with_reducible rfl
  try simp only [Act.put, List.setIfInBounds_toArray, List.set_cons_zero, List.set_cons_succ]
  refine wpAnyN_ready (rs := [19]) (by kernel_rfl) (by simp) ?_
  refine AllReadyN.held rfl (by rfl) (fun K hK => ?_) AllReadyN.nil
  go_simp
  refine (qzero_calls _).mono ?_
  rintro e w119 ⟨v9, rfl, o9, b19⟩
  obtain ⟨s9, P9, q9, e9, P9', q9', e9', rfl, o9⟩ := o9.open_; have O9 := hide o9; clear o9
  refine hK.out _ _ ?_ (fun hHeld => ?_)
  · exact HT1.out _ (((((Later.refl w7.drew).trans b2).trans b11).trans b14).trans b19)
  clear hK K
  try simp only [Act.put, List.setIfInBounds_toArray, List.set_cons_zero, List.set_cons_succ]
  refine wpAnyN_ready (rs := [20]) (by kernel_rfl) (by simp) ?_
  refine AllReadyN.held rfl (by rfl) (fun K hK => ?_) AllReadyN.nil
  go_simp
  refine (qcmp_calls _ _ _ zc 0 1000 1 (OwnR.raw (OwnR.later O5.out (HL57.out.trans ((Later.refl w7).drew.trans (((((Later.refl w7.drew).trans b2).trans b11).trans b14).trans b19)))) HS.out) (OwnR.raw O9.out sized_0) (by omega)).mono ?_
  rintro e w120 ⟨rfl, b20⟩
  rw [HCZ.out]
  refine hK.out _ _ ?_ (fun hHeld => ?_)
  · exact HT1.out _ ((((((Later.refl w7.drew).trans b2).trans b11).trans b14).trans b19).trans b20)
  clear hK K
  try simp only [Act.put, List.setIfInBounds_toArray, List.set_cons_zero, List.set_cons_succ]
  refine wpAnyN_takeD (some 52) (by rfl) (i := 21) (oi := _) (v := ?_) rfl (by kernel_rfl) (by kernel_rfl) (by kernel_rfl) (by kernel_rfl) (fun _ _ _ h => h) (Or.inl ⟨by rfl, ?_⟩) (by assumption) ?_
  rotate_left
  · intro w hSw; (try dsimp only at hSw); go_simp
    first | done | with_reducible rfl
  try simp only [Act.put, List.setIfInBounds_toArray, List.set_cons_zero, List.set_cons_succ]
  refine wpAnyN_takeD (some 53) (by rfl) (i := 22) (oi := _) (v := ?_) rfl (by kernel_rfl) (by kernel_rfl) (by kernel_rfl) (by kernel_rfl) (fun _ _ _ h => h) (Or.inl ⟨by rfl, ?_⟩) (by assumption) ?_
  rotate_left
  · intro w hSw; (try dsimp only at hSw); go_simp
    first | done | with_reducible rfl
  try simp only [Act.put, List.setIfInBounds_toArray, List.set_cons_zero, List.set_cons_succ]
  refine wpAnyN_takeD (some 4) (by rfl) (i := 23) (oi := _) (v := ?_) rfl (by kernel_rfl) (by kernel_rfl) (by kernel_rfl) (by kernel_rfl) (fun _ _ _ h => h) (Or.inl ⟨by rfl, ?_⟩) (by assumption) ?_
  rotate_left
  · intro w hSw; (try dsimp only at hSw); go_simp
    first | done | with_reducible rfl
  try simp only [Act.put, List.setIfInBounds_toArray, List.set_cons_zero, List.set_cons_succ]
  refine wpAnyN_done (by kernel_rfl) ?_ _
  have HLL := hide (HL7.out.trans ((Later.refl w7).drew.trans ((((((Later.refl w7.drew).trans b2).trans b11).trans b14).trans b19).trans b20)))
  clear hHeld
  go_wp2_with fail
  go_ret
  exact ⟨rfl, B0.out.trans HLL.out⟩
end Go.Proofs.YthncinngkfflgaaGreat

/- Books and plans that came in read as such, of whatever size; no slice of theirs is longer than what a machine can bear. -/
set_option linter.unusedVariables false
set_option linter.unusedSimpArgs false
set_option maxRecDepth 100000
namespace Go.Proofs.YthncinngkfflgaaGreat
open Go.RowKit Go.Shelf Go.ChangeShapes Go.WideShapes Go.Deep
section
variable {H : Type} {enc : TypeId × Value → H} {w : World} {base : Nat} {spare : Nat → Bool} {held : Bool}
/-- no slice of it weighs more than what a machine can bear -/
def Wt (P : Program) (t : TypeId) (d : DataW H) : Prop := ∀ n ∈ d.weights P t, n ≤ reachBytes
theorem Wt.all {P : Program} {e : TypeId} {l : List (DataW H)} (h : ∀ n ∈ DataW.weightsAll P e l, n ≤ reachBytes) {d : DataW H} (hd : d ∈ l) : Wt P e d := by
  induction l with
  | nil => cases hd
  | cons a l ih =>
    intro n hn
    rcases List.mem_cons.1 hd with rfl | hd
    · exact h n (by simp only [DataW.weightsAll, List.mem_append]; exact .inl hn)
    · exact ih (fun m hm => h m (by simp only [DataW.weightsAll, List.mem_append]; exact .inr hm)) hd n hn
theorem Wt.each {P : Program} {ts : List TypeId} {ds : List (DataW H)} (h : ∀ n ∈ DataW.weightsEach P ts ds, n ≤ reachBytes) {j : Nat} {t : TypeId} {d : DataW H} (ht : ts[j]? = some t) (hd : ds[j]? = some d) : Wt P t d :=
  fun n hn => h n (DataW.weights_mem_each ht hd n hn)
theorem Wt.struct {P : Program} {t : TypeId} {fs : Array Field} {ds : List (DataW H)} (hu : P.underlying t = some (.struct fs)) (h : Wt P t (.agg ds)) {j : Nat} {t' : TypeId} {d : DataW H} (ht : (fs.toList.map (·.type))[j]? = some t') (hd : ds[j]? = some d) : Wt P t' d := by
  unfold Wt at h
  simp only [DataW.weights, hu] at h
  exact Wt.each h ht hd
theorem Wt.slice {P : Program} {t e : TypeId} {es sp : List (DataW H)} (hu : P.underlying t = some (.slice e)) (h : Wt P t (.slice es sp)) : (es.length + sp.length) * P.bytesOf e ≤ reachBytes ∧ ∀ d ∈ es, Wt P e d := by
  unfold Wt at h
  simp only [DataW.weights, hu] at h
  refine ⟨h _ (List.mem_cons_self ..), fun d hd => Wt.all (fun n hn => h n (List.mem_cons_of_mem _ (List.mem_append.2 (.inl hn)))) hd⟩
theorem reach_val : reachBytes < 140737488355328 := by decide
theorem bytesU32 : Tryz.prog.bytesOf 133 = 4 := by kernel_rfl
theorem bytesI : Tryz.prog.bytesOf 3 = 8 := by kernel_rfl
theorem cellsItem : Tryz.prog.cellsOf 62 = 12 := by kernel_rfl
theorem cellsOrder : Tryz.prog.cellsOf 65 = 4 := by kernel_rfl
theorem cellsMake : Tryz.prog.cellsOf 67 = 3 := by kernel_rfl
theorem cellsBook : Tryz.prog.cellsOf 47 = 6 := by kernel_rfl
theorem cellsItems : Tryz.prog.cellsOf 42 = 1 := by kernel_rfl
theorem cellsOrders : Tryz.prog.cellsOf 44 = 1 := by kernel_rfl
theorem cellsMakes : Tryz.prog.cellsOf 45 = 1 := by kernel_rfl
theorem cellsII : Tryz.prog.cellsOf 3 = 1 := by kernel_rfl
theorem cellsIIs : Tryz.prog.cellsOf 43 = 1 := by kernel_rfl
theorem u32s_len {fuel : Nat} {cs : List Value} {y : DataW H × List MemPlace} (h : DataW.trod enc Tryz.prog w base spare held fuel 33 cs = some y) (hw : Wt Tryz.prog 33 y.1) {A : Option Addr} {n c : Nat} (e : cs = [.slice A n c]) : n ≤ 35184372088832 := by
  rcases open_ints Tryz.underlying33 Tryz.underlying133 cellsU32 h with ⟨rfl, -⟩ | ⟨a, n', c', zs, rfl, -, hl, hm, hz, rfl, hcell, hwf⟩
  · simp at e; omega
  · have h1 := (Wt.slice Tryz.underlying33 hw).1
    rw [bytesU32] at h1
    simp only [lits, List.length_map, List.length_take, List.length_drop] at h1
    simp at e
    have := reach_val
    have hnz : n' ≤ zs.length := by rw [hz]; split <;> omega
    omega
theorem int_len {fuel : Nat} {cs : List Value} {y : DataW H × List MemPlace} (h : DataW.trod enc Tryz.prog w base spare held fuel 35 cs = some y) (hw : Wt Tryz.prog 35 y.1) {s : Bool} {A : Option Addr} {n c : Nat} (e : cs = [.bool s, .slice A n c]) : n ≤ 35184372088832 := by
  obtain ⟨y0, y1, m, rfl, hlen, h0, h1⟩ := trod_struct2 Tryz.underlying35 h
  subst e
  simp only [cellsBool, cellsU32s, List.drop_zero, List.drop_succ_cons, List.take_succ_cons, List.take_zero] at h0 h1
  exact u32s_len h1 (Wt.struct (j := 1) Tryz.underlying35 hw rfl rfl) rfl
theorem rat_len {fuel : Nat} {cs : List Value} {y : DataW H × List MemPlace} (h : DataW.trod enc Tryz.prog w base spare held fuel 37 cs = some y) (hw : Wt Tryz.prog 37 y.1) {s s' : Bool} {A A' : Option Addr} {n c n' c' : Nat} (e : cs = [.bool s, .slice A n c, .bool s', .slice A' n' c']) : n ≤ 35184372088832 ∧ n' ≤ 35184372088832 := by
  obtain ⟨y0, y1, m, rfl, hlen, h0, h1⟩ := trod_struct2 Tryz.underlying37 h
  subst e
  simp only [cellsInt, List.drop_zero, List.drop_succ_cons, List.take_succ_cons, List.take_zero] at h0 h1
  exact ⟨int_len h0 (Wt.struct (j := 0) Tryz.underlying37 hw rfl rfl) rfl, int_len h1 (Wt.struct (j := 1) Tryz.underlying37 hw rfl rfl) rfl⟩
theorem item_open {fuel : Nat} {cs : List Value} {y : DataW H × List MemPlace} (h : DataW.trod enc Tryz.prog w base spare held fuel 62 cs = some y) (hw : Wt Tryz.prog 62 y.1) :
    ∃ e1 e2 e3 : ICells, ∃ x : PItem, cs = e1.cells ++ e2.cells ++ e3.cells ∧ EAnyF w (.agg #[.bool e1.a, .slice e1.A e1.n e1.c, .bool e1.a', .slice e1.A' e1.n' e1.c']) x.s x.sf ∧ EAnyF w (.agg #[.bool e2.a, .slice e2.A e2.n e2.c, .bool e2.a', .slice e2.A' e2.n' e2.c']) x.h x.hf ∧ EAnyF w (.agg #[.bool e3.a, .slice e3.A e3.n e3.c, .bool e3.a', .slice e3.A' e3.n' e3.c']) x.b x.bf := by
  obtain ⟨xs, m, -, rfl, hlen, hxl, hx⟩ := DataW.trod_struct Tryz.underlying62 h
  have h0 := hx 0 _ rfl; have h1 := hx 1 _ rfl; have h2 := hx 2 _ rfl
  rw [cellsItem] at hlen
  match cs, hlen, xs, hxl with
  | [c0, c1, c2, c3, c4, c5, c6, c7, c8, c9, c10, c11], _, [y0, y1, y2], _ =>
    simp only [List.getElem_toArray, List.getElem_cons_zero, List.getElem_cons_succ, List.getElem?_cons_zero, List.getElem?_cons_succ, cellsRat, List.drop_zero, List.drop_succ_cons, List.take_succ_cons, List.take_zero] at h0 h1 h2
    obtain ⟨s0, A0, n0, d0, s0', A0', n0', d0', q0, e0, g0⟩ := rat_open h0
    obtain ⟨s1, A1, n1, d1, s1', A1', n1', d1', q1, e1, g1⟩ := rat_open h1
    obtain ⟨s2, A2, n2, d2, s2', A2', n2', d2', q2, e2, g2⟩ := rat_open h2
    have l0 := rat_len h0 (Wt.struct (j := 0) Tryz.underlying62 hw rfl rfl) e0
    have l1 := rat_len h1 (Wt.struct (j := 1) Tryz.underlying62 hw rfl rfl) e1
    have l2 := rat_len h2 (Wt.struct (j := 2) Tryz.underlying62 hw rfl rfl) e2
    simp at e0 e1 e2
    obtain ⟨rfl, rfl, rfl, rfl⟩ := e0
    obtain ⟨rfl, rfl, rfl, rfl⟩ := e1
    obtain ⟨rfl, rfl, rfl, rfl⟩ := e2
    exact ⟨⟨s0, A0, n0, d0, s0', A0', n0', d0'⟩, ⟨s1, A1, n1, d1, s1', A1', n1', d1'⟩, ⟨s2, A2, n2, d2, s2', A2', n2', d2'⟩, ⟨q0, q1, q2, true, true, true⟩, rfl, ⟨_, _, _, _, _, _, _, _, rfl, g0, l0⟩, ⟨_, _, _, _, _, _, _, _, rfl, g1, l1⟩, ⟨_, _, _, _, _, _, _, _, rfl, g2, l2⟩⟩
theorem items_open {fuel : Nat} {cs : List Value} {y : DataW H × List MemPlace} (h : DataW.trod enc Tryz.prog w base spare held fuel 42 cs = some y) (hw : Wt Tryz.prog 42 y.1) :
    ∃ A n c, cs = [.slice A n c] ∧ ItsAny w A n c := by
  rcases open_slice Tryz.underlying42 h with ⟨rfl, -⟩ | ⟨a, n, c, m, f, D, Pl, rfl, -, hl, hm, hmm, rfl, hx⟩
  · exact ⟨_, _, _, rfl, Nat.le_refl _, by decide, fun i hi => by omega⟩
  · have hnm : n ≤ m := by rw [hmm]; split <;> omega
    have hwt := (Wt.slice Tryz.underlying42 hw).2
    rcases Nat.eq_zero_or_pos n with rfl | hpos
    · exact ⟨_, _, _, rfl, hl, hm, fun i hi => by omega⟩
    obtain ⟨b0, off0, spot⟩ := a
    obtain rfl : spot = none := by
      obtain ⟨cs, h1, h2⟩ := hx 0 (by omega)
      obtain ⟨e1, e2, e3, x, rfl, -⟩ := item_open h2 (hwt _ (List.mem_map.2 ⟨0, List.mem_range.2 hpos, rfl⟩))
      rw [cellsItem] at h1
      obtain ⟨-, -, h3⟩ := World.cells?_some h1
      have := World.cell?_spot (h3 0 (by omega))
      simpa [Addr.add] using this
    refine ⟨_, _, _, rfl, hl, hm, fun i hi => ?_⟩
    obtain ⟨cs, h1, h2⟩ := hx i (by omega)
    obtain ⟨e1, e2, e3, x, rfl, g1, g2, g3⟩ := item_open h2 (hwt _ (List.mem_map.2 ⟨i, List.mem_range.2 hi, rfl⟩))
    rw [cellsItem] at h1
    obtain ⟨-, -, h3⟩ := World.cells?_some h1
    have h4 : ∀ j (hj : j < 12), w.cell? ⟨b0, off0 + i * 12 + j, none⟩ = some ((e1.cells ++ e2.cells ++ e3.cells)[j]'(by simp [ICells.cells]; omega)) := fun j hj => by
      have h5 := h3 j hj
      simp only [add_plain] at h5
      rw [h5, List.getElem?_eq_getElem]
    exact ⟨x, b0, off0, rfl, e1, e2, e3, h4 0 (by omega), h4 1 (by omega), h4 2 (by omega), h4 3 (by omega), h4 4 (by omega), h4 5 (by omega), h4 6 (by omega), h4 7 (by omega), h4 8 (by omega), h4 9 (by omega), h4 10 (by omega), h4 11 (by omega), g1, g2, g3⟩
theorem wf_fit {z : Int} (h : (Lit.int .i64 z).wf = true) : IFit z := by
  have h3 : -9223372036854775808 ≤ z ∧ z ≤ 9223372036854775807 := by simpa [Lit.wf, IntKind.min, IntKind.max, IntKind.bits, IntKind.signed] using h
  unfold IFit; omega
theorem is_open {fuel : Nat} {cs : List Value} {y : DataW H × List MemPlace} (h : DataW.trod enc Tryz.prog w base spare held fuel 43 cs = some y) :
    ∃ A n c l, cs = [.slice A n c] ∧ Sq 1 iCells w (.slice A n c) l ∧ ∀ z ∈ l, IFit z := by
  rcases open_ints Tryz.underlying43 Tryz.underlying3 cellsII h with ⟨rfl, -⟩ | ⟨a, n, c, zs, rfl, -, hl, hm, hz, -, hcell, hwf⟩
  · exact ⟨_, _, _, [], rfl, Sq.nil _ _ _, by simp⟩
  · have hzl : n ≤ zs.length := by rw [hz]; split <;> omega
    refine ⟨_, _, _, zs.take n, rfl, ?_, fun z hz => wf_fit (hwf z (List.mem_of_mem_take hz))⟩
    refine ⟨some a, c, by simp [hzl], by simp; omega, hm, fun i x hi => ?_⟩
    have hin : i < n := by have := (List.getElem?_eq_some_iff.1 hi).1; simp at this; omega
    obtain ⟨b, off, spot⟩ := a
    have hs : spot = none := by simpa [Addr.add] using World.cell?_spot (hcell 0 (by omega))
    subst hs
    have h0 := hcell i (by omega)
    refine ⟨b, off, rfl, fun j u hj => ?_⟩
    have hj0 : j = 0 := by have := (List.getElem?_eq_some_iff.1 hj).1; simp [iCells] at this; omega
    subst hj0
    simp [iCells] at hj
    subst hj
    rw [add_plain] at h0
    rw [Nat.mul_one, Nat.add_zero, h0]
    rw [List.getElem?_take_of_lt hin] at hi
    rw [List.getD_eq_getElem?_getD, hi]; rfl
theorem is_len {fuel : Nat} {cs : List Value} {y : DataW H × List MemPlace} (h : DataW.trod enc Tryz.prog w base spare held fuel 43 cs = some y) (hw : Wt Tryz.prog 43 y.1) {A : Option Addr} {n c : Nat} (e : cs = [.slice A n c]) : n ≤ 35184372088832 := by
  rcases open_ints Tryz.underlying43 Tryz.underlying3 cellsII h with ⟨rfl, -⟩ | ⟨a, n', c', zs, rfl, -, hl, hm, hz, rfl, hcell, hwf⟩
  · simp at e; omega
  · have h1 := (Wt.slice Tryz.underlying43 hw).1
    rw [bytesI] at h1
    simp only [lits, List.length_map, List.length_take, List.length_drop] at h1
    simp at e
    have := reach_val
    have hnz : n' ≤ zs.length := by rw [hz]; split <;> omega
    omega
/-- a slice of records -/
theorem recs_open {α : Type} [Inhabited α] {t e : TypeId} {m : Nat} {en : α → List Value} {ok : α → Prop} (ht : Tryz.prog.underlying t = some (.slice e)) (hc : Tryz.prog.cellsOf e = m) (hm0 : 0 < m) (hlen : ∀ x, (en x).length = m)
    (hopen : ∀ {fuel : Nat} {cs : List Value} {y : DataW H × List MemPlace}, DataW.trod enc Tryz.prog w base spare held fuel e cs = some y → ∃ x, cs = en x ∧ ok x)
    {fuel : Nat} {cs : List Value} {y : DataW H × List MemPlace} (h : DataW.trod enc Tryz.prog w base spare held fuel t cs = some y) :
    ∃ A n c l, cs = [.slice A n c] ∧ Sq m en w (.slice A n c) l ∧ ∀ x ∈ l, ok x := by
  rcases open_slice ht h with ⟨rfl, -⟩ | ⟨a, n, c, k, f, D, Pl, rfl, -, hl, hm, hmm, -, hx⟩
  · exact ⟨_, _, _, [], rfl, Sq.nil _ _ _, by simp⟩
  · have hnm : n ≤ k := by rw [hmm]; split <;> omega
    rw [hc] at hx
    rcases Nat.eq_zero_or_pos n with rfl | hpos
    · exact ⟨_, _, _, [], rfl, ⟨some a, c, rfl, by simp, hm, fun i q hi => by simp at hi⟩, by simp⟩
    obtain ⟨b0, off0, spot⟩ := a
    obtain rfl : spot = none := by
      obtain ⟨cs, h1, h2⟩ := hx 0 (by omega)
      obtain ⟨x, rfl, -⟩ := hopen h2
      obtain ⟨-, -, h3⟩ := World.cells?_some h1
      have h5 := h3 0 hm0
      rw [List.getElem?_eq_getElem (by rw [hlen]; exact hm0)] at h5
      have := World.cell?_spot h5
      simpa [Addr.add] using this
    have key : ∀ i, i < n → ∃ x : α, ok x ∧ ∀ (j : Nat) u, (en x)[j]? = some u → w.cell? ⟨b0, off0 + i * m + j, none⟩ = some u := fun i hi => by
      obtain ⟨cs, h1, h2⟩ := hx i (by omega)
      obtain ⟨x, rfl, hok⟩ := hopen h2
      obtain ⟨-, -, h3⟩ := World.cells?_some h1
      refine ⟨x, hok, fun j u hj => ?_⟩
      have hjm := (List.getElem?_eq_some_iff.1 hj).1
      rw [hlen] at hjm
      have h5 := h3 j hjm
      simp only [add_plain] at h5
      rw [h5, hj]
    obtain ⟨Q, hQ⟩ := choose_lt (α := α) key
    refine ⟨_, _, _, (List.range n).map Q, rfl, ⟨some ⟨b0, off0, none⟩, c, by simp, by simpa using hl, hm, fun i q hi => ?_⟩, fun x hx => ?_⟩
    · have hin : i < n := by
        have := (List.getElem?_eq_some_iff.1 hi).1
        simpa using this
      simp [hin] at hi
      subst hi
      exact ⟨b0, off0, rfl, (hQ i hin).2⟩
    · obtain ⟨i, hi, rfl⟩ := List.mem_map.1 hx
      exact (hQ i (List.mem_range.1 hi)).1
instance : Inhabited POrd := ⟨⟨0, 0, 0, 0⟩⟩
instance : Inhabited PMk := ⟨⟨0, 0, 0⟩⟩
theorem ord_open {fuel : Nat} {cs : List Value} {y : DataW H × List MemPlace} (h : DataW.trod enc Tryz.prog w base spare held fuel 65 cs = some y) : ∃ o, cs = oCells o ∧ o.fit := by
  obtain ⟨xs, m, -, -, hlen, hxl, hx⟩ := DataW.trod_struct Tryz.underlying65 h
  have h0 := hx 0 _ rfl; have h1 := hx 1 _ rfl; have h2 := hx 2 _ rfl; have h3 := hx 3 _ rfl
  rw [cellsOrder] at hlen
  match cs, hlen, xs, hxl with
  | [c0, c1, c2, c3], _, [y0, y1, y2, y3], _ =>
    simp only [List.getElem_toArray, List.getElem_cons_zero, List.getElem_cons_succ, List.getElem?_cons_zero, List.getElem?_cons_succ, cellsII, List.drop_zero, List.drop_succ_cons, List.take_succ_cons, List.take_zero] at h0 h1 h2 h3
    obtain ⟨k0, e0, -, f0⟩ := DataW.trod_int Tryz.underlying3 h0
    obtain ⟨k1, e1, -, f1⟩ := DataW.trod_int Tryz.underlying3 h1
    obtain ⟨k2, e2, -, f2⟩ := DataW.trod_int Tryz.underlying3 h2
    obtain ⟨k3, e3, -, f3⟩ := DataW.trod_int Tryz.underlying3 h3
    simp at e0 e1 e2 e3
    subst e0 e1 e2 e3
    exact ⟨⟨k0, k1, k2, k3⟩, rfl, wf_fit f0, wf_fit f1, wf_fit f2, wf_fit f3⟩
theorem mk_open {fuel : Nat} {cs : List Value} {y : DataW H × List MemPlace} (h : DataW.trod enc Tryz.prog w base spare held fuel 67 cs = some y) : ∃ o, cs = mCells o ∧ o.fit := by
  obtain ⟨xs, m, -, -, hlen, hxl, hx⟩ := DataW.trod_struct Tryz.underlying67 h
  have h0 := hx 0 _ rfl; have h1 := hx 1 _ rfl; have h2 := hx 2 _ rfl
  rw [cellsMake] at hlen
  match cs, hlen, xs, hxl with
  | [c0, c1, c2], _, [y0, y1, y2], _ =>
    simp only [List.getElem_toArray, List.getElem_cons_zero, List.getElem_cons_succ, List.getElem?_cons_zero, List.getElem?_cons_succ, cellsII, List.drop_zero, List.drop_succ_cons, List.take_succ_cons, List.take_zero] at h0 h1 h2
    obtain ⟨k0, e0, -, f0⟩ := DataW.trod_int Tryz.underlying3 h0
    obtain ⟨k1, e1, -, f1⟩ := DataW.trod_int Tryz.underlying3 h1
    obtain ⟨k2, e2, -, f2⟩ := DataW.trod_int Tryz.underlying3 h2
    simp at e0 e1 e2
    subst e0 e1 e2
    exact ⟨⟨k0, k1, k2⟩, rfl, wf_fit f0, wf_fit f1, wf_fit f2⟩
theorem arg_book {r : Reach} {b0 : Nat} {v : Value} {d : DataW H} {p : List MemPlace} (hv : Value.okWide Tryz.prog w r b0 47 v) (h : DataW.Trod enc Tryz.prog w base spare held 47 v d p) (hw : Wt Tryz.prog 47 d) : ArgBook w v := by
  obtain ⟨cs, rfl, hsz⟩ := okWide_struct Tryz.underlying47 hv
  obtain ⟨fuel, hf⟩ := h
  obtain ⟨xs, m, -, hd, hlen, hxl, hx⟩ := DataW.trod_struct Tryz.underlying47 hf
  injection hd with hd _
  have h0 := hx 0 _ rfl; have h1 := hx 1 _ rfl; have h2 := hx 2 _ rfl; have h3 := hx 3 _ rfl; have h4 := hx 4 _ rfl; have h5 := hx 5 _ rfl
  rw [cellsBook] at hlen
  obtain ⟨l⟩ := cs
  match l, hlen, xs, hxl with
  | [c0, c1, c2, c3, c4, c5], _, [y0, y1, y2, y3, y4, y5], _ =>
    simp only [List.getElem_toArray, List.getElem_cons_zero, List.getElem_cons_succ, List.getElem?_cons_zero, List.getElem?_cons_succ, Value.cells, cellsItems, cellsII, cellsIIs, cellsOrders, cellsMakes, List.drop_zero, List.drop_succ_cons, List.take_succ_cons, List.take_zero] at h0 h1 h2 h3 h4 h5
    rw [hd] at hw
    obtain ⟨A1, n1, d1, e0, g0⟩ := items_open h0 (Wt.struct (j := 0) Tryz.underlying47 hw rfl rfl)
    obtain ⟨k1, e1, -, f1⟩ := DataW.trod_int Tryz.underlying3 h1
    obtain ⟨k2, e2, -, f2⟩ := DataW.trod_int Tryz.underlying3 h2
    obtain ⟨A2, n2, d2, caps, e3, g3, f3⟩ := is_open h3
    obtain ⟨A3, n3, d3, ords, e4, g4, f4⟩ := recs_open (en := oCells) (ok := POrd.fit) Tryz.underlying44 cellsOrder (by omega) (fun _ => rfl) (fun h => ord_open h) h4
    obtain ⟨A4, n4, d4, mks, e5, g5, f5⟩ := recs_open (en := mCells) (ok := PMk.fit) Tryz.underlying45 cellsMake (by omega) (fun _ => rfl) (fun h => mk_open h) h5
    simp at e0 e1 e2 e3 e4 e5
    subst e0 e1 e2 e3 e4 e5
    exact ⟨_, _, _, _, _, _, _, _, _, _, _, _, k1, k2, caps, ords, mks, rfl, g0, g3, g4, g5, wf_fit f1, wf_fit f2, f3, f4, f5⟩
theorem arg_grid {r : Reach} {b0 : Nat} {v : Value} {d : DataW H} {p : List MemPlace} (hv : Value.okWide Tryz.prog w r b0 54 v) (h : DataW.Trod enc Tryz.prog w base spare held 54 v d p) (hw : Wt Tryz.prog 54 d) : ArgGrid w v := by
  obtain ⟨A0, n0, c0, rfl⟩ := okWide_slice Tryz.underlying54 hv
  obtain ⟨fuel, hf⟩ := h
  rcases open_slice Tryz.underlying54 hf with ⟨e, -⟩ | ⟨a, n, c, m, f, D, Pl, e, -, hl, hm, hmm, hd, hx⟩
  · simp [Value.cells] at e
    obtain ⟨rfl, rfl, rfl⟩ := e
    exact ⟨none, 0, 0, [], rfl, ⟨none, 0, rfl, by simp, by decide, fun i q hi => by simp at hi⟩, by simp, by simp⟩
  · simp [Value.cells] at e
    obtain ⟨rfl, rfl, rfl⟩ := e
    injection hd with hd _
    rw [hd] at hw
    have hwt := (Wt.slice Tryz.underlying54 hw).2
    have hnm : n0 ≤ m := by rw [hmm]; split <;> omega
    rcases Nat.eq_zero_or_pos n0 with rfl | hpos
    · exact ⟨_, _, _, [], rfl, ⟨some a, c0, rfl, by simp, hm, fun i q hi => by simp at hi⟩, by simp, by simp⟩
    obtain ⟨b0, off0, spot⟩ := a
    obtain rfl : spot = none := by
      obtain ⟨cs, h1, h2⟩ := hx 0 (by omega)
      obtain ⟨A, n', c', l, rfl, hq⟩ := is_open h2
      rw [cellsIIs] at h1
      obtain ⟨-, -, h3⟩ := World.cells?_some h1
      have := World.cell?_spot (h3 0 (by omega))
      simpa [Addr.add] using this
    have key : ∀ i, i < n0 → ∃ row : List Int, ((∀ z ∈ row, IFit z) ∧ row.length ≤ 35184372088832) ∧ ∃ b off A' n' c', (some ⟨b0, off0, none⟩ : Option Addr) = some ⟨b, off, none⟩ ∧ w.cell? ⟨b, off + i, none⟩ = some (.slice A' n' c') ∧ Sq 1 iCells w (.slice A' n' c') row := fun i hi => by
      obtain ⟨cs, h1, h2⟩ := hx i (by omega)
      obtain ⟨A, n', c', l, rfl, hq, hfit⟩ := is_open h2
      have hll := is_len h2 (hwt _ (List.mem_map.2 ⟨i, List.mem_range.2 hi, rfl⟩)) rfl
      rw [cellsIIs] at h1
      obtain ⟨-, -, h3⟩ := World.cells?_some h1
      have h4 := h3 0 (by omega)
      simp only [add_plain, Nat.add_zero, Nat.mul_one] at h4
      exact ⟨l, ⟨hfit, by rw [← hq.len_]; exact hll⟩, b0, off0, A, n', c', rfl, h4, hq⟩
    obtain ⟨Q, hQ⟩ := choose_lt (α := List Int) key
    refine ⟨_, _, _, (List.range n0).map Q, rfl, ⟨some ⟨b0, off0, none⟩, c0, by simp, by simpa using hl, hm, fun i q hi => ?_⟩, fun r hr z hz => ?_, fun r hr => ?_⟩
    · have hin : i < n0 := by
        have := (List.getElem?_eq_some_iff.1 hi).1
        simpa using this
      simp [hin] at hi
      subst hi
      exact (hQ i hin).2
    · obtain ⟨i, hi, rfl⟩ := List.mem_map.1 hr
      exact (hQ i (List.mem_range.1 hi)).1.1 z hz
    · obtain ⟨i, hi, rfl⟩ := List.mem_map.1 hr
      exact (hQ i (List.mem_range.1 hi)).1.2
end
end Go.Proofs.YthncinngkfflgaaGreat
