import Derived.Test.YthncinngkfflgaaGreatM39

/- CertMore: the walk. -/
set_option linter.unusedVariables false
set_option linter.unusedSimpArgs false
set_option maxRecDepth 100000
namespace Go.Proofs.YthncinngkfflgaaGreat
open Go.RowKit Go.Shelf
attribute [local go_sem ↓] Go.wp_at_zero Go.wp_at_succ

theorem EM.later {bm : Bool} : ∀ (w w' : World) (v : Value) (q : Rat), EM bm w v q → Later w w' → EM bm w' v q := fun w w' v q h hb => EM.agree _ _ _ _ _ h (fun b hlt => hb.block b hlt)
set_option maxHeartbeats 64000000 in
theorem certmore_walk (w : World) (v0 v1 v2 : Value) (mo : List Rat) (h0 : ArgStd w v0) (h1 : ArgProof w v1) (h2 : Rats EAny w v2 mo) :
    Calls Tryz.prog 3 #[v0, v1, v2] w (RetV w (.bool true)) := by
  obtain ⟨vA, vB, vC, A, B, C, rfl, ha, hb, hc⟩ := h0
  have HA := hide ha; have HB := hide hb; have HC := hide hc
  obtain ⟨A1, n1, c1, rfl, -⟩ := ha.form
  obtain ⟨A2, n2, c2, rfl, -⟩ := hb.form
  obtain ⟨A3, n3, c3, rfl, -⟩ := hc.form
  clear ha hb hc
  obtain ⟨vY, vU, vR, y, u, r, rfl, hy, hu, hr⟩ := h1
  have HY := hide hy; have HU := hide hu; have HR := hide hr
  obtain ⟨A4, n4, c4, rfl, -⟩ := hy.form
  obtain ⟨A5, n5, c5, rfl, -⟩ := hu.form
  obtain ⟨A6, n6, c6, rfl, -⟩ := hr.form
  clear hy hu hr
  have HZ := hide h2
  obtain ⟨A7, n7, c7, rfl, -⟩ := h2.form
  clear h2
  obtain ⟨W0, hW0⟩ : ∃ W0, W0 = ((w.alloc (Obj.cells #[Value.slice A1 n1 c1, Value.slice A2 n2 c2, Value.slice A3 n3 c3] 25)).alloc (Obj.cells #[Value.slice A4 n4 c4, Value.slice A5 n5 c5, Value.slice A6 n6 c6] 27)) := ⟨_, rfl⟩
  obtain ⟨hb0, r0, r1, hsz0⟩ := boxes2 w [.slice A1 n1 c1, .slice A2 n2 c2, .slice A3 n3 c3] [.slice A4 n4 c4, .slice A5 n5 c5, .slice A6 n6 c6] 25 27 hW0
  have B0 := hide hb0; have HW0 := hide hW0
  have R0 := hide r0; have R1 := hide r1
  clear hb0 hW0 hsz0 r0 r1
  go_enter Tryz.func3, Tryz.ntmps3
  go_upto_region 1 with fail
  rw [← HW0.out]
  go_wp2_with fail
  ((with_reducible refine (awake12_calls W0).mono ?_); rintro e w1 ⟨rfl, b1⟩)
  have HL1 := hide b1
  clear b1
  have r_d := R0.out.later HL1.out
  have d0 := r_d.cell (i := 0) rfl; have d1 := r_d.cell (i := 1) rfl; have d2 := r_d.cell (i := 2) rfl
  clear r_d
  have r_e := R1.out.later HL1.out
  have e0 := r_e.cell (i := 0) rfl; have e1 := r_e.cell (i := 1) rfl; have e2 := r_e.cell (i := 2) rfl
  clear r_e
  go_wp2_with fail
  ((refine (fewstd_calls w1 _ _ _ A B C 5 (HA.out.later EAny.later (B0.out.trans HL1.out)) (HB.out.later EAny.later (B0.out.trans HL1.out)) (HC.out.later EAny.later (B0.out.trans HL1.out)) (by omega)).mono ?_); rintro e w2 ⟨t, rfl, hf, b2⟩)
  have HF := hide hf; have HL2 := hide (HL1.out.trans b2)
  clear hf b2 d0 d1 d2 e0 e1 e2
  have r_d := R0.out.later HL2.out
  have d0 := r_d.cell (i := 0) rfl; have d1 := r_d.cell (i := 1) rfl; have d2 := r_d.cell (i := 2) rfl
  clear r_d
  have r_e := R1.out.later HL2.out
  have e0 := r_e.cell (i := 0) rfl; have e1 := r_e.cell (i := 1) rfl; have e2 := r_e.cell (i := 2) rfl
  clear r_e
  cases t with
  | false =>
    go_wp2_with fail
    go_ret
    exact ⟨rfl, B0.out.trans HL2.out⟩
  | true =>
  obtain ⟨hl1, hl2, hl3, ok, hs⟩ := HF.out rfl
  have HS2 := hide hs; have HLA := hide hl1; have HLB := hide hl2; have HLC := hide hl3
  clear hs hl1 hl2 hl3 HF HA HB HC
  go_wp2_with fail
  ((with_reducible refine (fewproof_calls w2 _ _ _ y u r (HY.out.later EAny.later (B0.out.trans HL2.out)) (HU.out.later EAny.later (B0.out.trans HL2.out)) (HR.out.later EAny.later (B0.out.trans HL2.out))).mono ?_); rintro e w3 ⟨t, rfl, hf, b3⟩)
  have HF := hide hf; have HL3 := hide (HL2.out.trans b3); have HK3 := hide b3
  clear hf b3 d0 d1 d2 e0 e1 e2
  have r_d := R0.out.later HL3.out
  have d0 := r_d.cell (i := 0) rfl; have d1 := r_d.cell (i := 1) rfl; have d2 := r_d.cell (i := 2) rfl
  clear r_d
  have r_e := R1.out.later HL3.out
  have e0 := r_e.cell (i := 0) rfl; have e1 := r_e.cell (i := 1) rfl; have e2 := r_e.cell (i := 2) rfl
  clear r_e
  cases t with
  | false =>
    go_wp2_with fail
    go_ret
    exact ⟨rfl, B0.out.trans HL3.out⟩
  | true =>
  obtain ⟨⟨hy1, hy2⟩, ⟨hu1, hu2⟩, ⟨hr1, hr2⟩⟩ := HF.out rfl
  have HYL := hide hy1; have HUL := hide hu1; have HRL := hide hr1
  clear HY HU HR
  have HY := hide hy2; have HU := hide hu2; have HR := hide hr2
  clear hy1 hy2 hu1 hu2 hr1 hr2 HF
  go_wp2_with fail
  ((refine (few_calls w3 _ mo 6 (HZ.out.later EAny.later (B0.out.trans HL3.out)) (by omega)).mono ?_); rintro e w9 ⟨t, rfl, hf, hw9⟩)
  subst hw9
  have HF := hide hf
  clear hf
  cases t with
  | false =>
    go_wp2_with fail
    go_ret
    exact ⟨rfl, B0.out.trans HL3.out⟩
  | true =>
  obtain ⟨hz1, hz2⟩ := HF.out rfl
  have HZL := hide hz1
  clear HZ
  have HZ := hide hz2
  clear hz1 hz2 HF
  
  have HS := hide (HS2.out.later HK3.out)
  clear HS2 HK3
  obtain ⟨un, hun⟩ : ∃ un, noneB A B C ok u = un := ⟨_, rfl⟩
  have HUN := hide hun
  clear hun
  go_wp2_with fail
  refine (none_calls w3 _ _ _ _ 1 1 A B C u ok HS.out HU.out (by omega) (by have := HUL.out; omega)).mono ?_
  rintro e w5 ⟨rfl, b5⟩
  rw [HUN.out]
  have HK5 := hide b5
  clear b5 d0 d1 d2 e0 e1 e2
  have r_d := R0.out.later (HL3.out.trans HK5.out)
  have d0 := r_d.cell (i := 0) rfl; have d1 := r_d.cell (i := 1) rfl; have d2 := r_d.cell (i := 2) rfl
  clear r_d
  have r_e := R1.out.later (HL3.out.trans HK5.out)
  have e0 := r_e.cell (i := 0) rfl; have e1 := r_e.cell (i := 1) rfl; have e2 := r_e.cell (i := 2) rfl
  clear r_e
  cases un with
  | false =>
    go_wp2_with fail
    go_ret
    exact ⟨rfl, B0.out.trans (HL3.out.trans HK5.out)⟩
  | true =>
  have HN3 : Hid (n3 = C.length) := hide HS.out.c.len_
  have HN7 : Hid (n7 = mo.length) := hide HZ.out.len_
  by_cases hlen : n7 = n3 + 1
  rotate_left
  · have t1 : ((n7 : Int) != (n3 : Int) + 1) = true := by rw [bne_iff_ne]; omega
    have hn3 : n3 ≤ 5 := by rw [HN3.out]; exact HLC.out
    go_wp2_with fail
    go_ret
    exact ⟨rfl, B0.out.trans (HL3.out.trans HK5.out)⟩
  have t1 : ((n7 : Int) != (n3 : Int) + 1) = false := by rw [hlen]; simp
  have hn3 : n3 ≤ 5 := by rw [HN3.out]; exact HLC.out
  have HML : Hid (mo.length = C.length + 1) := hide (by rw [← HN7.out, hlen, HN3.out])
  clear hlen
  go_upto_region 5 with fail
  clear t1 d0 d1 d2 e0 e1 e2
  have HPARTS : Hid (underB A B C ok u (List.replicate C.length 0) = true ∧ 0 < dotL B u) := hide (by
    have := HUN.out
    unfold noneB at this
    rwa [Bool.and_eq_true, decide_eq_true_eq] at this)
  have HRF := hide (rightB_facts (underB_parts HPARTS.out.1).1)
  have HUA : Hid (u.length = A.length) := hide (underB_parts HPARTS.out.1).2.1
  have HBP : Hid (0 < B.length) := hide (by
    cases B with
    | nil => have := HPARTS.out.2; rw [dotL_nil] at this; grind
    | cons b B => simp)
  have HAP : Hid (0 < A.length) := hide (by rw [← HRF.out.2.2.1]; exact HBP.out)
  cases mo with
  | nil => exact absurd HML.out (by simp)
  | cons x0 mt =>
  have hdq : Later w5 w5.drew := (Later.refl w5).drew
  obtain ⟨wq, hwq⟩ : ∃ wq, wq = w5.drew := ⟨_, rfl⟩
  rw [← hwq] at hdq
  have HKQ := hide (HK5.out.trans hdq)
  have hzq := HZ.out.later ERaw.later HKQ.out
  obtain ⟨fm, -, hfm⟩ := rats_flags hzq (by omega)
  obtain ⟨bv, hbv⟩ : ∃ bv, allF fm = bv := ⟨_, rfl⟩
  obtain ⟨hAq, hBq, hCq⟩ := std_parts (HS.out.later HKQ.out) HRF.out.2.2.2.2.1 bv
  have hMq := rats_may (k := 1) hzq hfm bv (fun h => by rw [hbv]; exact h)
  obtain ⟨bm, om, sm, Xm, nx, cx, sm', Xm', nx', cx', rfl, x1, x2, x3, x4, hx0⟩ := hMq.at_ (i := 0) (q := x0) rfl
  rw [show om + 0 * 4 = om by omega] at x1 x2 x3 x4
  have HTA := hide hAq; have HTB := hide hBq; have HTC := hide hCq; have HTM := hide hMq; have HTX := hide hx0; have HFM := hide hfm; have HBV := hide hbv
  obtain ⟨Am, hAm⟩ : ∃ Am : Option Addr, (if c7 = 1 then some (⟨bm, om, none⟩ : Addr) else some ⟨bm, om + 4, none⟩) = Am := ⟨_, rfl⟩
  have HTT : Hid (Rats (EM bv) wq (.slice Am (n7 - 1) (c7 - 1)) mt) := hide (by
    have h := rats_tail hMq
    rw [← hAm]
    by_cases hc : c7 = 1
    · rw [if_pos hc]
      obtain ⟨_, _, _, e, e1, e2, e3, -⟩ := hMq.form
      injection e with e4 e5 e6
      rw [← e5, ← e6] at e2
      rw [← e5] at e1
      rw [List.length_cons] at e1
      have hm0 : mt.length = 0 := by omega
      obtain rfl : mt = [] := List.eq_nil_of_length_eq_zero hm0
      have hn : n7 - 1 = 0 := by omega
      rw [hn]
      exact ⟨_, _, rfl, Nat.zero_le _, by unfold maxLen; omega, fun i q hi => by simp at hi⟩
    · rw [if_neg hc]; exact h)
  have hra := R0.out.later (HL3.out.trans HKQ.out)
  have HT5 : Hid (∀ w', Later wq w' → w'.cell? ⟨w.heap.size, 0, none⟩ = some (.slice A1 n1 c1) ∧ w'.cell? ⟨w.heap.size, 1, none⟩ = some (.slice A2 n2 c2) ∧ w'.cell? ⟨w.heap.size, 2, none⟩ = some (.slice A3 n3 c3) ∧ w'.cell? ⟨bm, om, none⟩ = some (.bool sm) ∧ w'.cell? ⟨bm, om + 1, none⟩ = some (.slice Xm nx cx) ∧ w'.cell? ⟨bm, om + 2, none⟩ = some (.bool sm') ∧ w'.cell? ⟨bm, om + 3, none⟩ = some (.slice Xm' nx' cx')) := hide fun w' hb => ⟨(hra.later hb).cell rfl, (hra.later hb).cell rfl, (hra.later hb).cell rfl, Later.cell hb x1, Later.cell hb x2, Later.cell hb x3, Later.cell hb x4⟩
  clear hzq hfm hbv hAq hBq hCq hMq hx0 x1 x2 x3 x4 hra hdq
  have hn72 : (1 : Int) ≤ (n7 : Int) := by have := HN7.out; rw [List.length_cons] at this; omega
  have hn73 : 0 < n7 := by have := HN7.out; rw [List.length_cons] at this; omega
  have hn71 : 1 ≤ n7 := by have := HN7.out; rw [List.length_cons] at this; omega
  have hmx : Tryz.prog.follows .mixedOrders = true := by kernel_rfl
  refine wp_region_N (fun w' => w'.cell? ⟨w.heap.size, 0, none⟩ = some (.slice A1 n1 c1) ∧ w'.cell? ⟨w.heap.size, 1, none⟩ = some (.slice A2 n2 c2) ∧ w'.cell? ⟨w.heap.size, 2, none⟩ = some (.slice A3 n3 c3) ∧ w'.cell? ⟨bm, om, none⟩ = some (.bool sm) ∧ w'.cell? ⟨bm, om + 1, none⟩ = some (.slice Xm nx cx) ∧ w'.cell? ⟨bm, om + 2, none⟩ = some (.bool sm') ∧ w'.cell? ⟨bm, om + 3, none⟩ = some (.slice Xm' nx' cx')) [] hmx (by rw [← hwq]; exact HT5.out _ (Later.refl _)) (fun hHeld => ?_)
  rw [← hwq] at hHeld ⊢
  clear hwq
  refine wpAnyN_takeD (some 42) (by rfl) (i := 1) (oi := _) (v := ?_) rfl (by kernel_rfl) (by kernel_rfl) (by kernel_rfl) (by kernel_rfl) (fun _ _ _ h => h) (Or.inl ⟨by rfl, ?_⟩) (by assumption) ?_
  rotate_left
  · intro w hSw; (try dsimp only at hSw); go_simp
    first | done | with_reducible rfl
  try simp only [Act.put, List.setIfInBounds_toArray, List.set_cons_zero, List.set_cons_succ]
  refine wpAnyN_takeD (some 43) (by rfl) (i := 2) (oi := _) (v := ?_) rfl (by kernel_rfl) (by kernel_rfl) (by kernel_rfl) (by kernel_rfl) (fun _ _ _ h => h) (Or.inl ⟨by rfl, ?_⟩) (by assumption) ?_
  rotate_left
  · intro w hSw; (try dsimp only at hSw); go_simp
    first | done | with_reducible rfl
  try simp only [Act.put, List.setIfInBounds_toArray, List.set_cons_zero, List.set_cons_succ]
  refine wpAnyN_takeD (some 45) (by rfl) (i := 4) (oi := _) (v := ?_) rfl (by kernel_rfl) (by kernel_rfl) (by kernel_rfl) (by kernel_rfl) (fun _ _ _ h => h) (Or.inl ⟨by rfl, ?_⟩) (by assumption) ?_
  rotate_left
  · intro w hSw; (try dsimp only at hSw); go_simp
    first | done | with_reducible rfl
  try simp only [Act.put, List.setIfInBounds_toArray, List.set_cons_zero, List.set_cons_succ]
  refine wpAnyN_takeD (some 46) (by rfl) (i := 5) (oi := _) (v := ?_) rfl (by kernel_rfl) (by kernel_rfl) (by kernel_rfl) (by kernel_rfl) (fun _ _ _ h => h) (Or.inl ⟨by rfl, ?_⟩) (by assumption) ?_
  rotate_left
  · intro w hSw; (try dsimp only at hSw); go_simp
    first | done | with_reducible rfl
  try simp only [Act.put, List.setIfInBounds_toArray, List.set_cons_zero, List.set_cons_succ]
  refine wpAnyN_takeD (some 50) (by rfl) (i := 9) (oi := _) (v := ?_) rfl (by kernel_rfl) (by kernel_rfl) (by kernel_rfl) (by kernel_rfl) (fun _ _ _ h => h) (Or.inl ⟨by rfl, ?_⟩) (by assumption) ?_
  rotate_left
  · intro w hSw; (try dsimp only at hSw); go_simp
    first | done | with_reducible rfl
  try simp only [Act.put, List.setIfInBounds_toArray, List.set_cons_zero, List.set_cons_succ]
  refine wpAnyN_takeD (some 51) (by rfl) (i := 10) (oi := _) (v := ?_) rfl (by kernel_rfl) (by kernel_rfl) (by kernel_rfl) (by kernel_rfl) (fun _ _ _ h => h) (Or.inl ⟨by rfl, ?_⟩) (by assumption) ?_
  rotate_left
  · intro w hSw; (try dsimp only at hSw); go_simp
    first | done | with_reducible rfl
  try simp only [Act.put, List.setIfInBounds_toArray, List.set_cons_zero, List.set_cons_succ]
  refine wpAnyN_takeD (some 53) (by rfl) (i := 12) (oi := _) (v := ?_) rfl (by kernel_rfl) (by kernel_rfl) (by kernel_rfl) (by kernel_rfl) (fun _ _ _ h => h) (Or.inl ⟨by rfl, ?_⟩) (by assumption) ?_
  rotate_left
  · intro w hSw; (try dsimp only at hSw); go_simp
    first | done | with_reducible rfl
  try simp only [Act.put, List.setIfInBounds_toArray, List.set_cons_zero, List.set_cons_succ]
  refine wpAnyN_takeD (some 54) (by rfl) (i := 13) (oi := _) (v := ?_) rfl (by kernel_rfl) (by kernel_rfl) (by kernel_rfl) (by kernel_rfl) (fun _ _ _ h => h) (Or.inl ⟨by rfl, ?_⟩) (by assumption) ?_
  rotate_left
  · intro w hSw; (try dsimp only at hSw); go_simp
    first | done | with_reducible rfl
  try simp only [Act.put, List.setIfInBounds_toArray, List.set_cons_zero, List.set_cons_succ]
  refine wpAnyN_takeD (some 55) (by rfl) (i := 14) (oi := _) (v := ?_) rfl (by kernel_rfl) (by kernel_rfl) (by kernel_rfl) (by kernel_rfl) (fun _ _ _ h => h) (Or.inl ⟨by rfl, ?_⟩) (by assumption) ?_
  rotate_left
  · intro w hSw; (try dsimp only at hSw); go_simp
    first | done | with_reducible rfl
  try simp only [Act.put, List.setIfInBounds_toArray, List.set_cons_zero, List.set_cons_succ]
  refine wpAnyN_takeD (some 58) (by rfl) (i := 17) (oi := _) (v := ?_) rfl (by kernel_rfl) (by kernel_rfl) (by kernel_rfl) (by kernel_rfl) (fun _ _ _ h => h) (Or.inl ⟨by rfl, ?_⟩) (by assumption) ?_
  rotate_left
  · intro w hSw; (try dsimp only at hSw); go_simp
    first | done | with_reducible rfl
  try simp only [Act.put, List.setIfInBounds_toArray, List.set_cons_zero, List.set_cons_succ]
  refine wpAnyN_takeD (some 59) (by rfl) (i := 18) (oi := _) (v := ?_) rfl (by kernel_rfl) (by kernel_rfl) (by kernel_rfl) (by kernel_rfl) (fun _ _ _ h => h) (Or.inl ⟨by rfl, ?_⟩) (by assumption) ?_
  rotate_left
  · intro w hSw; (try dsimp only at hSw); go_simp
    first | done | with_reducible rfl
  try simp only [Act.put, List.setIfInBounds_toArray, List.set_cons_zero, List.set_cons_succ]
  refine anyN_name 11 (by rfl) #[false, true, true, false, true, true, false, false, false, true, true, false, true, true, true, false, false, true, true, false, false, false] (by kernel_rfl) (fun G HG1 HG2 a0 HA0 => ?_)
  clear hHeld
  have Q0_3_6_7_8_11_15_16_20 : Hid (∀ (x41 x44 x48 x49 x52 x57 : Value) (g6 g15 g20 : Nat) (W : World) (a : Act), Hid (a = ((((((((((a0.put (some 41) (x41)).put (some 44) (x44)).put (some 48) (x48)).put (some 49) (x49)).put (some 52) (x52)).put (some 57) (x57)).put (some 47) (.slice (some ⟨g6, 0, none⟩) 1 1)).put (some 56) (.slice (some ⟨g15, 0, none⟩) 1 1)).put (some 7) (.pointer (some ⟨g20, 0, none⟩))).put (some 60) (.agg #[x48, x57, .slice A3 n3 c3]))) → Hid (Later wq W) → Hid (OutTab (EM bv) W (fun b => b < wq.heap.size) wq.heap.size x48 (A ++ [mt])) → Hid (OutRats (EM bv) W (fun b => b < wq.heap.size) wq.heap.size x57 (B ++ [x0])) → Hid (Row W g20 25 [.slice none 0 0, .slice none 0 0, .slice none 0 0]) → Hid (wq.heap.size ≤ g20) → Hid (Apart x48.ownBlock x57.ownBlock) → Hid (Apart x48.ownBlock (some g20)) → Hid (Apart x57.ownBlock (some g20)) → G 1 #[true, true, true, true, true, true, true, true, true, true, true, true, true, true, true, true, true, true, true, true, true, false] a W) := hide (by
    intro x41 x44 x48 x49 x52 x57 g6 g15 g20 W a HA HL HT HRR H20 HG20 PTR PT20 PR20
    have hHeld := HT5.out W HL.out
    refine HG2.out _ _ _ _ ?_
    rw [HA.out, HA0.out]
    try simp only [Act.put, List.setIfInBounds_toArray, List.set_cons_zero, List.set_cons_succ]
    obtain ⟨A48, n48, c48, rfl, -⟩ := HT.out.tab.now.form
    obtain ⟨A57, n57, c57, rfl, -⟩ := HRR.out.rats.now.form
    have z0 := H20.out.cell (i := 0) rfl; have z1 := H20.out.cell (i := 1) rfl; have z2 := H20.out.cell (i := 2) rfl
    have y0 := H20.out.frozen 0; have y1 := H20.out.frozen 1; have y2 := H20.out.frozen 2
    refine wpAnyN_ready (rs := [21]) (by kernel_rfl) (by simp) ?_
    refine AllReadyN.held rfl (by rfl) (fun K hK => ?_) AllReadyN.nil
    go_simp
    refine hK.out _ _ ?_ (fun hHeld => ?_)
    · exact HT5.out _ (HL.out.only ((((Only.refl g20 W).set 0 _).set 1 _).set 2 _) HG20.out)
    clear hK K hHeld z0 z1 z2 y0 y1 y2
    try simp only [Act.put, List.setIfInBounds_toArray, List.set_cons_zero, List.set_cons_succ]
    refine wpAnyN_done (by kernel_rfl) ?_ _
    obtain ⟨W9, hW9⟩ : ∃ W9, W9 = ((W.setCell ⟨g20, 0, none⟩ (.slice A48 n48 c48)).setCell ⟨g20, 1, none⟩ (.slice A57 n57 c57)).setCell ⟨g20, 2, none⟩ (.slice A3 n3 c3) := ⟨_, rfl⟩
    rw [← hW9]
    have oo : Only g20 W W9 := by rw [hW9]; exact (((Only.refl g20 W).set 0 _).set 1 _).set 2 _
    have hkq : Later wq W9 := HL.out.only oo HG20.out
    have hr9 : Row W9 g20 25 [.slice A48 n48 c48, .slice A57 n57 c57, .slice A3 n3 c3] := by rw [hW9]; exact ((H20.out.set_ 0 _).set_ 1 _).set_ 2 _
    have ht9 := (HT.out.grown oo.grownBy2 PT20.out.ne2 (fun b hb e => by injection e with e; have := HG20.out; omega)).tab.now
    have hb9 := (HRR.out.grown oo.grownBy2 PR20.out.ne2 (fun b hb e => by injection e with e; have := HG20.out; omega)).rats.now
    have HKQ9 := hide hkq; have HR9 := hide hr9; have HT9 := hide ht9; have HB9 := hide hb9
    have HK9 := hide (HKQ.out.trans hkq)
    clear oo hkq hr9 ht9 hb9 hW9 HL HT HRR H20 HG20 PTR PT20 PR20 HA HG1 HG2 HA0
    have r_d := R0.out.later (HL3.out.trans HK9.out)
    have d0 := r_d.cell (i := 0) rfl; have d1 := r_d.cell (i := 1) rfl; have d2 := r_d.cell (i := 2) rfl
    clear r_d
    have r_e := R1.out.later (HL3.out.trans HK9.out)
    have e0 := r_e.cell (i := 0) rfl; have e1 := r_e.cell (i := 1) rfl; have e2 := r_e.cell (i := 2) rfl
    clear r_e
    have f1 := Later.cell ((Later.refl W9).alloc (Obj.cells #[] 37)) e1
    go_wp2_with (at_builtin; refine wpList_append_rats4 rfl _ _ rfl (E := ERaw 1) (fun w W v q h ha => rawR_agree h ha) rfl (own_at2 W9 _ _ rfl (Nat.le_refl _)) rfl (HU.out.later ERaw.later HK9.out) ((Later.refl W9).alloc _) (by rw [HUA.out]; exact HAP.out) (by have := HUL.out; omega) ?_; intro v10 w10 hout10 hg10 hblk10)
    have hL10 : Later W9 w10 := ((Later.refl W9).alloc _).grown hg10 (fun k hk => by have hk2 : some W9.heap.size = some k := hk; injection hk2 with hk2; omega)
    have HL10 := hide hL10; have HOUT10 := hide hout10
    clear f1 hL10 hout10 hg10 hblk10 d0 d1 d2 e0 e1 e2
    ((with_reducible refine (of12_calls _ 0 (by omega) (by omega) 0 div_0).mono ?_); rintro e w11 ⟨v11, rfl, o11, b11⟩)
    obtain ⟨s11, P11, q11, e11, P11', q11', e11', rfl, o11⟩ := o11.open_; have O11 := hide o11; clear o11
    have HOUT11 : Hid (OutRats (ERaw 1) w11 (fun _ => True) W9.heap.size v10 u) := hide ((HOUT10.out.mono (fun _ _ _ => trivial)).later b11)
    have HEL11 : Hid (On w11 (fun b => True ∧ some b ≠ v10.ownBlock) (fun W => ERaw 1 W (.agg #[.bool s11, .slice P11 q11 e11, .bool false, .slice P11' q11' e11']) 0)) := hide (((On.ownR O11.out).mono (fun b hb _ => ⟨trivial, fun e => by have := (HOUT10.out.lt b e.symm).2; have hb2 : w10.heap.size ≤ b := hb; omega⟩)).map (fun W h => OwnR.raw h sized_0))
    have HL11 := hide (HL10.out.trans b11)
    clear b11
    go_upto_region 7 with (at_builtin; refine wpList_append_rat rfl _ _ rfl rfl (HOUT11.out.later ((Later.refl _).alloc _)) rfl (Row.new _ _ _) (HEL11.out.later ((Later.refl _).alloc _)) (by have := HUL.out; omega) (by have := HL11.out.size_le; rw [World.size_alloc]; omega) ?_; intro v12 w12 hout12 hg12)
    have HL12 : Hid (Later W9 w12) := hide ((HL11.out.alloc _).grown hg12 (fun k hk => (HOUT10.out.lt k hk).1))
    have hu12 := hout12.rats.now
    obtain ⟨A12, n12, c12, rfl, -⟩ := hu12.form
    have HU12 := hide hu12
    clear hu12 hout12 hg12 HOUT10 HOUT11 HEL11 HL10 HL11 O11
    have HQ12 := hide (HKQ9.out.trans HL12.out)
    have HFN : Hid (n7 = fm.length) := hide HFM.out.len_
    have HFIN : Hid (Later w w12) := hide (B0.out.trans (HL3.out.trans (HK9.out.trans HL12.out)))
    have hn7 : n7 ≤ 6 := by have := HN7.out; have := HZL.out; omega
    go_wp2_with fail
    go_loopw [9] (fun iv wr => ∃ j : Nat, j ≤ n7 ∧ iv = .int .i64 (j : Int) ∧ Hid (∀ (i : Nat) x, i < j → fm[i]? = some x → x ≠ 0) ∧ Later w12 wr) (fun iv _ => (n7 - intOf iv).toNat)
    case atStart => exact ⟨0, by omega, rfl, hide fun i x hi => by omega, Later.refl _⟩
    case round =>
      obtain ⟨j, hj, rfl, hpre, hL⟩ := hrel
      have HLW := hide hL
      clear hL
      by_cases hjn : j < n7
      · obtain ⟨x, hx⟩ : ∃ x, fm[j]? = some x := ⟨fm[j]'(by have := HFN.out; omega), List.getElem?_eq_getElem _⟩
        obtain ⟨b1, off1, sx, X1, m1, d1', sx', X2, m2, d2', e1, x1, x2, x3, x4, hr⟩ := (HFM.out.later EFlag.later (HQ12.out.trans HLW.out)).at_ hx
        injection e1 with e1
        injection e1 with e2 e3
        subst e2 e3
        have HRX := hide hr; have HXX := hide hx
        have hj0 : (0 : Int) ≤ (j : Int) := by omega
        have hj1 : (j : Int) < n7 := by omega
        clear hr hx
        go_wp2_with fail
        refine (rmay_flag wr _ x HRX.out).mono ?_
        rintro e w13 ⟨rfl, b13⟩
        have HL13 := hide (HLW.out.trans b13)
        clear b13
        by_cases hz : x = 0
        · have ht : decide (x ≠ 0) = false := by simpa using hz
          rw [ht]
          go_wp2_with fail
          go_ret
          exact ⟨rfl, HFIN.out.trans HL13.out⟩
        · have ht : decide (x ≠ 0) = true := by simpa using hz
          rw [ht]
          have HN : Hid (∀ (i : Nat) x, i < j + 1 → fm[i]? = some x → x ≠ 0) := hide fun i x' hi h1 => by
            by_cases hij : i < j
            · exact hpre.out i x' hij h1
            · obtain rfl : i = j := by omega
              rw [HXX.out] at h1; injection h1 with h1
              rw [← h1]; exact hz
          clear ht hz
          go_wp2_with fail
          exact ⟨⟨j+1, by omega, by go_num, HN, HL13.out⟩, by simp [intOf]; omega⟩
      · have hbt : bv = true := by
          rw [← HBV.out]
          unfold allF
          rw [List.all_eq_true]
          intro x hx
          obtain ⟨i, hi⟩ := List.getElem?_of_mem hx
          have := hpre.out i x (by have := (List.getElem?_eq_some_iff.1 hi).1; have := HFN.out; omega) hi
          simpa using this
        subst hbt
        clear hpre hj
        go_upto_region 12 with fail
        clear hjn
        have hd : Later wr wr.drew := (Later.refl wr).drew
        have HD := hide hd
        obtain ⟨b1, off1, sx, X1, m1, d1', sx', X2, m2, d2', e1, x1, x2, x3, x4, hr⟩ := (HTM.out.later EM.later (HQ12.out.trans (HLW.out.trans hd))).at_ (i := 0) (q := x0) rfl
        injection e1 with e1
        injection e1 with e2 e3
        subst e2 e3
        rw [show om + 0 * 4 = om by omega] at x1 x2 x3 x4
        have HRX : Hid (RawR wr.drew (.agg #[.bool sx, .slice X1 m1 d1', .bool sx', .slice X2 m2 d2']) x0 1) := hide hr.1
        have HT12 : Hid (∀ w', Later wr.drew w' → w'.cell? ⟨bm, om, none⟩ = some (.bool sx) ∧ w'.cell? ⟨bm, om + 1, none⟩ = some (.slice X1 m1 d1') ∧ w'.cell? ⟨bm, om + 2, none⟩ = some (.bool sx') ∧ w'.cell? ⟨bm, om + 3, none⟩ = some (.slice X2 m2 d2')) := hide fun w' hb => ⟨Later.cell hb x1, Later.cell hb x2, Later.cell hb x3, Later.cell hb x4⟩
        clear hr x1 x2 x3 x4 hd
        obtain ⟨cz, hcz⟩ : ∃ cz, cmpQ x0 0 = cz := ⟨_, rfl⟩
        have HCZ := hide hcz
        clear hcz
        obtain ⟨u9, t9⟩ : ∃ u9, decide (cz < 0) = u9 := ⟨_, rfl⟩
        go_region_held3 (fun w' => w'.cell? ⟨bm, om, none⟩ = some (.bool sx) ∧ w'.cell? ⟨bm, om + 1, none⟩ = some (.slice X1 m1 d1') ∧ w'.cell? ⟨bm, om + 2, none⟩ = some (.bool sx') ∧ w'.cell? ⟨bm, om + 3, none⟩ = some (.slice X2 m2 d2'))
          (first | exact HT12.out _ (Later.refl _) | exact HT12.out _ b16 | exact HT12.out _ (b16.trans b17))
          (first
            | ((with_reducible refine (of12_calls _ 0 (by omega) (by omega) 0 div_0).mono ?_); rintro e w16 ⟨v16, rfl, o16, b16⟩; obtain ⟨s16, P16, q16, e16, P16', q16', e16', rfl, o16⟩ := o16.open_; have O16 := hide o16; clear o16)
            | ((with_reducible refine (qcmp_calls _ _ _ x0 0 1 1 (RawR.later HRX.out b16) (OwnR.raw O16.out sized_0) (by omega)).mono ?_); rintro e w17 ⟨rfl, b17⟩; rw [HCZ.out]))
        all_goals
          have HK17 := hide (HD.out.trans (b16.trans b17))
          clear b16 b17
        have hcl := cmp0_lt HCZ.out
        rw [t9] at hcl
        cases u9 with
        | true =>
          go_wp2_with fail
          go_ret
          exact ⟨rfl, HFIN.out.trans (HLW.out.trans HK17.out)⟩
        | false =>
          have hx0 : ¬ x0 < 0 := by simpa using hcl.symm
          clear hcl
          have hmt : mt.length = C.length := by have := HML.out; rw [List.length_cons] at this; omega
          have HNM : Hid (noneB (A ++ [mt]) (B ++ [x0]) C true (u ++ [0]) = true) := hide (none_more HUN.out rfl (by have := HLA.out; omega) hmt hx0)
          go_upto_region 14 with fail
          obtain ⟨w14, hw14⟩ : ∃ w14, w14 = w17 := ⟨_, rfl⟩
          rw [← hw14] at HK17 ⊢
          clear hw14
          have HK14 := hide (HLW.out.trans HK17.out)
          have HU14 : Hid (Rats (ERaw 1) w14.drew (.slice A12 n12 c12) (u ++ [0])) := hide (HU12.out.later ERaw.later (HK14.out.trans (Later.refl w14).drew))
          have HL914 := hide (HL12.out.trans (HK14.out.trans (Later.refl w14).drew))
          have HS14 : Hid (StdIn w14.drew (.slice A48 n48 c48) (.slice A57 n57 c57) (.slice A3 n3 c3) 1 (A ++ [mt]) (B ++ [x0]) C true) := hide (std_em (HT9.out.later EM.later HL914.out) (HB9.out.later EM.later HL914.out) (HTC.out.later EM.later (HKQ9.out.trans HL914.out)) (by rw [List.length_append]; have := HLA.out; simp; omega) (fun r hr => by
            rw [List.mem_append, List.mem_singleton] at hr
            have := HLC.out
            rcases hr with hr | rfl
            · rw [HRF.out.2.2.2.1 r hr]; omega
            · rw [hmt]; omega) (by rw [List.length_append]; have := HLB.out; simp; omega) (by have := HLC.out; omega))
          have HFIN2 := hide (HFIN.out.trans HK14.out)
          clear HFIN
          have HFIN := HFIN2
          clear HFIN2
          have HT14 : Hid (∀ w', Later w14.drew w' → w'.cell? ⟨g20, 0, none⟩ = some (.slice A48 n48 c48) ∧ w'.cell? ⟨g20, 1, none⟩ = some (.slice A57 n57 c57) ∧ w'.cell? ⟨g20, 2, none⟩ = some (.slice A3 n3 c3)) := hide fun w' hb => ⟨(HR9.out.later (HL914.out.trans hb)).cell rfl, (HR9.out.later (HL914.out.trans hb)).cell rfl, (HR9.out.later (HL914.out.trans hb)).cell rfl⟩
          refine wp_region_N (fun w' => w'.cell? ⟨g20, 0, none⟩ = some (.slice A48 n48 c48) ∧ w'.cell? ⟨g20, 1, none⟩ = some (.slice A57 n57 c57) ∧ w'.cell? ⟨g20, 2, none⟩ = some (.slice A3 n3 c3)) [] hmx (HT14.out _ (Later.refl _)) (fun hHeld => ?_)
          refine wpAnyN_takeD (some 86) (by rfl) (i := 0) (oi := _) (v := ?_) rfl (by kernel_rfl) (by kernel_rfl) (by kernel_rfl) (by kernel_rfl) (fun _ _ _ h => h) (Or.inl ⟨by rfl, ?_⟩) (by assumption) ?_
          rotate_left
          · intro w hSw; (try dsimp only at hSw); go_simp
            first | done | with_reducible rfl
          try simp only [Act.put, List.setIfInBounds_toArray, List.set_cons_zero, List.set_cons_succ]
          refine wpAnyN_takeD (some 87) (by rfl) (i := 1) (oi := _) (v := ?_) rfl (by kernel_rfl) (by kernel_rfl) (by kernel_rfl) (by kernel_rfl) (fun _ _ _ h => h) (Or.inl ⟨by rfl, ?_⟩) (by assumption) ?_
          rotate_left
          · intro w hSw; (try dsimp only at hSw); go_simp
            first | done | with_reducible rfl
          try simp only [Act.put, List.setIfInBounds_toArray, List.set_cons_zero, List.set_cons_succ]
          refine wpAnyN_takeD (some 89) (by rfl) (i := 3) (oi := _) (v := ?_) rfl (by kernel_rfl) (by kernel_rfl) (by kernel_rfl) (by kernel_rfl) (fun _ _ _ h => h) (Or.inl ⟨by rfl, ?_⟩) (by assumption) ?_
          rotate_left
          · intro w hSw; (try dsimp only at hSw); go_simp
            first | done | with_reducible rfl
          try simp only [Act.put, List.setIfInBounds_toArray, List.set_cons_zero, List.set_cons_succ]
          refine wpAnyN_takeD (some 90) (by rfl) (i := 4) (oi := _) (v := ?_) rfl (by kernel_rfl) (by kernel_rfl) (by kernel_rfl) (by kernel_rfl) (fun _ _ _ h => h) (Or.inl ⟨by rfl, ?_⟩) (by assumption) ?_
          rotate_left
          · intro w hSw; (try dsimp only at hSw); go_simp
            first | done | with_reducible rfl
          try simp only [Act.put, List.setIfInBounds_toArray, List.set_cons_zero, List.set_cons_succ]
          refine wpAnyN_ready (rs := [2]) (by kernel_rfl) (by simp) ?_
          refine AllReadyN.held rfl (by rfl) (fun K hK => ?_) AllReadyN.nil
          go_simp
          refine (none_calls _ _ _ _ _ 1 1 (A ++ [mt]) (B ++ [x0]) C (u ++ [0]) true (HS14.out.later (Later.refl w14.drew)) (HU14.out.later ERaw.later (Later.refl w14.drew)) (by omega) (by rw [List.length_append]; have := HUL.out; simp; omega)).mono ?_
          rintro e w202 ⟨rfl, b202⟩
          rw [HNM.out]
          have l2 : Later w14.drew w202 := Later.trans (Later.refl w14.drew) b202
          refine hK.out _ _ ?_ (fun hHeld => ?_)
          · exact HT14.out _ l2
          clear hK K
          try simp only [Act.put, List.setIfInBounds_toArray, List.set_cons_zero, List.set_cons_succ]
          refine wpAnyN_ready (rs := [5]) (by kernel_rfl) (by simp) ?_
          refine AllReadyN.held rfl (by rfl) (fun K hK => ?_) AllReadyN.nil
          go_simp
          refine (rnone_calls _ _ _ _ _ 1 1 (A ++ [mt]) (B ++ [x0]) C (u ++ [0]) true (HS14.out.later l2) (HU14.out.later ERaw.later l2) (by omega) (by rw [List.length_append]; have := HUL.out; simp; omega)).mono ?_
          rintro e w205 ⟨rfl, b205⟩
          rw [HNM.out]
          have l5 : Later w14.drew w205 := Later.trans l2 b205
          refine hK.out _ _ ?_ (fun hHeld => ?_)
          · exact HT14.out _ l5
          clear hK K
          try simp only [Act.put, List.setIfInBounds_toArray, List.set_cons_zero, List.set_cons_succ]
          refine wpAnyN_takeD (some 92) (by rfl) (i := 6) (oi := _) (v := ?_) rfl (by kernel_rfl) (by kernel_rfl) (by kernel_rfl) (by kernel_rfl) (fun _ _ _ h => h) (Or.inl ⟨by rfl, ?_⟩) (by assumption) ?_
          rotate_left
          · intro w hSw; (try dsimp only at hSw); go_simp
            first | done | with_reducible rfl
          try simp only [Act.put, List.setIfInBounds_toArray, List.set_cons_zero, List.set_cons_succ]
          refine wpAnyN_takeD (some 93) (by rfl) (i := 7) (oi := _) (v := ?_) rfl (by kernel_rfl) (by kernel_rfl) (by kernel_rfl) (by kernel_rfl) (fun _ _ _ h => h) (Or.inl ⟨by rfl, ?_⟩) (by assumption) ?_
          rotate_left
          · intro w hSw; (try dsimp only at hSw); go_simp
            first | done | with_reducible rfl
          try simp only [Act.put, List.setIfInBounds_toArray, List.set_cons_zero, List.set_cons_succ]
          refine wpAnyN_takeD (some 94) (by rfl) (i := 8) (oi := _) (v := ?_) rfl (by kernel_rfl) (by kernel_rfl) (by kernel_rfl) (by kernel_rfl) (fun _ _ _ h => h) (Or.inl ⟨by rfl, ?_⟩) (by assumption) ?_
          rotate_left
          · intro w hSw; (try dsimp only at hSw); go_simp
            first | done | with_reducible rfl
          try simp only [Act.put, List.setIfInBounds_toArray, List.set_cons_zero, List.set_cons_succ]
          refine wpAnyN_takeD (some 95) (by rfl) (i := 9) (oi := _) (v := ?_) rfl (by kernel_rfl) (by kernel_rfl) (by kernel_rfl) (by kernel_rfl) (fun _ _ _ h => h) (Or.inl ⟨by rfl, ?_⟩) (by assumption) ?_
          rotate_left
          · intro w hSw; (try dsimp only at hSw); go_simp
            first | done | with_reducible rfl
          try simp only [Act.put, List.setIfInBounds_toArray, List.set_cons_zero, List.set_cons_succ]
          refine wpAnyN_ready (rs := [10]) (by kernel_rfl) (by simp) ?_
          refine AllReadyN.held rfl (by rfl) (fun K hK => ?_) AllReadyN.nil
          go_simp
          refine (none_calls _ _ _ _ _ 1 1 (A ++ [mt]) (B ++ [x0]) C (u ++ [0]) true (HS14.out.later l5) (HU14.out.later ERaw.later l5) (by omega) (by rw [List.length_append]; have := HUL.out; simp; omega)).mono ?_
          rintro e w210 ⟨rfl, b210⟩
          rw [HNM.out]
          have l10 : Later w14.drew w210 := Later.trans l5 b210
          refine hK.out _ _ ?_ (fun hHeld => ?_)
          · exact HT14.out _ l10
          clear hK K
          try simp only [Act.put, List.setIfInBounds_toArray, List.set_cons_zero, List.set_cons_succ]
          refine wpAnyN_takeD (some 97) (by rfl) (i := 11) (oi := _) (v := ?_) rfl (by kernel_rfl) (by kernel_rfl) (by kernel_rfl) (by kernel_rfl) (fun _ _ _ h => h) (Or.inl ⟨by rfl, ?_⟩) (by assumption) ?_
          rotate_left
          · intro w hSw; (try dsimp only at hSw); go_simp
            first | done | with_reducible rfl
          try simp only [Act.put, List.setIfInBounds_toArray, List.set_cons_zero, List.set_cons_succ]
          refine wpAnyN_takeD (some 6) (by rfl) (i := 12) (oi := _) (v := ?_) rfl (by kernel_rfl) (by kernel_rfl) (by kernel_rfl) (by kernel_rfl) (fun _ _ _ h => h) (Or.inl ⟨by rfl, ?_⟩) (by assumption) ?_
          rotate_left
          · intro w hSw; (try dsimp only at hSw); go_simp
            first | done | with_reducible rfl
          try simp only [Act.put, List.setIfInBounds_toArray, List.set_cons_zero, List.set_cons_succ]
          refine wpAnyN_done (by kernel_rfl) ?_ _
          have HKE := hide l10
          clear hHeld
          go_wp2_with fail
          go_ret
          exact ⟨rfl, HFIN.out.trans ((Later.refl w14).drew.trans HKE.out)⟩)
  have Q0_3_6_7_8_11_15_16 : Hid (∀ (x41 x44 x48 x49 x52 x57 : Value) (g6 g15 : Nat) (W : World) (a : Act), Hid (a = (((((((((a0.put (some 41) (x41)).put (some 44) (x44)).put (some 48) (x48)).put (some 49) (x49)).put (some 52) (x52)).put (some 57) (x57)).put (some 47) (.slice (some ⟨g6, 0, none⟩) 1 1)).put (some 56) (.slice (some ⟨g15, 0, none⟩) 1 1)).put (some 60) (.agg #[x48, x57, .slice A3 n3 c3]))) → Hid (Later wq W) → Hid (OutTab (EM bv) W (fun b => b < wq.heap.size) wq.heap.size x48 (A ++ [mt])) → Hid (OutRats (EM bv) W (fun b => b < wq.heap.size) wq.heap.size x57 (B ++ [x0])) → Hid (Apart x48.ownBlock x57.ownBlock) → G 2 #[true, true, true, true, true, true, true, true, true, true, true, true, true, true, true, true, true, true, true, true, false, false] a W) := hide (by
    intro x41 x44 x48 x49 x52 x57 g6 g15 W a HA HL HT HRR PTR
    have hHeld := HT5.out W HL.out
    refine HG2.out _ _ _ _ ?_
    rw [HA.out, HA0.out]
    try simp only [Act.put, List.setIfInBounds_toArray, List.set_cons_zero, List.set_cons_succ]
    refine wpAnyN_ready (rs := [20]) (by kernel_rfl) (by simp) ?_
    refine AllReadyN.held rfl (by rfl) (fun K hK => ?_) AllReadyN.nil
    go_simp
    refine hK.out _ _ ?_ (fun hHeld => ?_)
    · exact HT5.out _ (HL.out.alloc _)
    clear hK K
    try simp only [Act.put, List.setIfInBounds_toArray, List.set_cons_zero, List.set_cons_succ]
    refine HG1.out _ _ _ _ ?_
    exact Q0_3_6_7_8_11_15_16_20.out x41 x44 x48 x49 x52 x57 g6 g15 W.heap.size _ _ (hide (by rw [HA0.out]; simp only [Act.put, List.setIfInBounds_toArray, List.set_cons_zero, List.set_cons_succ])) (hide (HL.out.alloc _)) (hide (HT.out.later ((Later.refl W).alloc _))) (hide (HRR.out.later ((Later.refl W).alloc _))) (hide (Row.new W _ _)) (hide HL.out.size_le) (hide PTR.out) (hide (apart_new (lt_of2 HT.out.lt))) (hide (apart_new (lt_of2 HRR.out.lt))))
  have Q0_3_6_7_8_11_15_20 : Hid (∀ (x41 x44 x48 x49 x52 : Value) (g6 g15 g20 : Nat) (W : World) (a : Act), Hid (a = ((((((((a0.put (some 41) (x41)).put (some 44) (x44)).put (some 48) (x48)).put (some 49) (x49)).put (some 52) (x52)).put (some 47) (.slice (some ⟨g6, 0, none⟩) 1 1)).put (some 56) (.slice (some ⟨g15, 0, none⟩) 1 1)).put (some 7) (.pointer (some ⟨g20, 0, none⟩)))) → Hid (Later wq W) → Hid (OutTab (EM bv) W (fun b => b < wq.heap.size) wq.heap.size x48 (A ++ [mt])) → Hid (OutRats (EM bv) W (fun b => b < wq.heap.size) wq.heap.size x52 B) → Hid (Row W g15 37 [.bool sm, .slice Xm nx cx, .bool sm', .slice Xm' nx' cx']) → Hid (Row W g20 25 [.slice none 0 0, .slice none 0 0, .slice none 0 0]) → Hid (wq.heap.size ≤ g20) → Hid (Apart x48.ownBlock x52.ownBlock) → Hid (Apart x48.ownBlock (some g20)) → Hid (Apart x52.ownBlock (some g20)) → G 3 #[true, true, true, true, true, true, true, true, true, true, true, true, true, true, true, true, false, true, true, false, true, false] a W) := hide (by
    intro x41 x44 x48 x49 x52 g6 g15 g20 W a HA HL HT HRR H15 H20 HG20 PTR PT20 PR20
    have hHeld := HT5.out W HL.out
    refine HG2.out _ _ _ _ ?_
    rw [HA.out, HA0.out]
    try simp only [Act.put, List.setIfInBounds_toArray, List.set_cons_zero, List.set_cons_succ]
    refine wpAnyN_ready (rs := [16]) (by kernel_rfl) (by simp) ?_
    refine AllReadyN.held rfl (by rfl) (fun K hK => ?_) AllReadyN.nil
    refine wp_append_rat3 _ _ rfl rfl HRR.out rfl H15.out (((On.base fun W2 h2 => EM.agree bv _ _ _ _ HTX.out h2).later HL.out).mono fun b hb _ => ⟨hb, base_ne HRR.out.lt b hb⟩) (by have := HLB.out; omega) HL.out.size_le ?_
    intro x57 W2 k1 k2 k3
    show K (Act.put _ (some 57) x57) W2
    change W.grownBy W2 x52.ownBlock at k2
    change x57.ownBlock = x52.ownBlock ∨ x57.ownBlock = some W.heap.size at k3
    obtain ⟨A48, n48, c48, rfl, -⟩ := HT.out.tab.now.form
    obtain ⟨A57, n57, c57, rfl, -⟩ := k1.rats.now.form
    refine hK.out _ _ ?_ (fun hHeld => ?_)
    · exact HT5.out _ (HL.out.grown k2 (base_le HRR.out.lt))
    clear hK K
    try simp only [Act.put, List.setIfInBounds_toArray, List.set_cons_zero, List.set_cons_succ]
    refine wpAnyN_takeD (some 60) (by rfl) (i := 19) (oi := _) (v := ?_) rfl (by kernel_rfl) (by kernel_rfl) (by kernel_rfl) (by kernel_rfl) (fun _ _ _ h => h) (Or.inl ⟨by rfl, ?_⟩) (by assumption) ?_
    rotate_left
    · intro w hSw; (try dsimp only at hSw); go_simp
      first | done | with_reducible rfl
    try simp only [Act.put, List.setIfInBounds_toArray, List.set_cons_zero, List.set_cons_succ]
    refine HG1.out _ _ _ _ ?_
    exact Q0_3_6_7_8_11_15_16_20.out x41 x44 (.slice A48 n48 c48) x49 x52 (.slice A57 n57 c57) g6 g15 g20 _ _ (hide (by rw [HA0.out]; simp only [Act.put, List.setIfInBounds_toArray, List.set_cons_zero, List.set_cons_succ])) (hide (HL.out.grown k2 (base_le HRR.out.lt))) (hide (HT.out.grown k2 PTR.out.ne2 (base_ne HRR.out.lt))) (hide k1) (hide (H20.out.grown k2 (PR20.out.ne1 _ rfl))) (hide HG20.out) (hide (PTR.out.symm.step k3 (lt_of2 HT.out.lt)).symm) (hide PT20.out) (hide (PR20.out.step k3 (lt_row H20.out))))
  have Q0_3_6_7_8_11_15 : Hid (∀ (x41 x44 x48 x49 x52 : Value) (g6 g15 : Nat) (W : World) (a : Act), Hid (a = (((((((a0.put (some 41) (x41)).put (some 44) (x44)).put (some 48) (x48)).put (some 49) (x49)).put (some 52) (x52)).put (some 47) (.slice (some ⟨g6, 0, none⟩) 1 1)).put (some 56) (.slice (some ⟨g15, 0, none⟩) 1 1))) → Hid (Later wq W) → Hid (OutTab (EM bv) W (fun b => b < wq.heap.size) wq.heap.size x48 (A ++ [mt])) → Hid (OutRats (EM bv) W (fun b => b < wq.heap.size) wq.heap.size x52 B) → Hid (Row W g15 37 [.bool sm, .slice Xm nx cx, .bool sm', .slice Xm' nx' cx']) → Hid (Apart x48.ownBlock x52.ownBlock) → G 4 #[true, true, true, true, true, true, true, true, true, true, true, true, true, true, true, true, false, true, true, false, false, false] a W) := hide (by
    intro x41 x44 x48 x49 x52 g6 g15 W a HA HL HT HRR H15 PTR
    have hHeld := HT5.out W HL.out
    refine HG2.out _ _ _ _ ?_
    rw [HA.out, HA0.out]
    try simp only [Act.put, List.setIfInBounds_toArray, List.set_cons_zero, List.set_cons_succ]
    refine wpAnyN_ready (rs := [16, 20]) (by kernel_rfl) (by simp) ?_
    refine AllReadyN.held rfl (by rfl) (fun K hK => ?_) ?_
    · refine wp_append_rat3 _ _ rfl rfl HRR.out rfl H15.out (((On.base fun W2 h2 => EM.agree bv _ _ _ _ HTX.out h2).later HL.out).mono fun b hb _ => ⟨hb, base_ne HRR.out.lt b hb⟩) (by have := HLB.out; omega) HL.out.size_le ?_
      intro x57 W2 k1 k2 k3
      show K (Act.put _ (some 57) x57) W2
      change W.grownBy W2 x52.ownBlock at k2
      change x57.ownBlock = x52.ownBlock ∨ x57.ownBlock = some W.heap.size at k3
      obtain ⟨A48, n48, c48, rfl, -⟩ := HT.out.tab.now.form
      obtain ⟨A57, n57, c57, rfl, -⟩ := k1.rats.now.form
      refine hK.out _ _ ?_ (fun hHeld => ?_)
      · exact HT5.out _ (HL.out.grown k2 (base_le HRR.out.lt))
      clear hK K
      try simp only [Act.put, List.setIfInBounds_toArray, List.set_cons_zero, List.set_cons_succ]
      refine wpAnyN_takeD (some 60) (by rfl) (i := 19) (oi := _) (v := ?_) rfl (by kernel_rfl) (by kernel_rfl) (by kernel_rfl) (by kernel_rfl) (fun _ _ _ h => h) (Or.inl ⟨by rfl, ?_⟩) (by assumption) ?_
      rotate_left
      · intro w hSw; (try dsimp only at hSw); go_simp
        first | done | with_reducible rfl
      try simp only [Act.put, List.setIfInBounds_toArray, List.set_cons_zero, List.set_cons_succ]
      refine HG1.out _ _ _ _ ?_
      exact Q0_3_6_7_8_11_15_16.out x41 x44 (.slice A48 n48 c48) x49 x52 (.slice A57 n57 c57) g6 g15 _ _ (hide (by rw [HA0.out]; simp only [Act.put, List.setIfInBounds_toArray, List.set_cons_zero, List.set_cons_succ])) (hide (HL.out.grown k2 (base_le HRR.out.lt))) (hide (HT.out.grown k2 PTR.out.ne2 (base_ne HRR.out.lt))) (hide k1) (hide (PTR.out.symm.step k3 (lt_of2 HT.out.lt)).symm)
    refine AllReadyN.held rfl (by rfl) (fun K hK => ?_) AllReadyN.nil
    go_simp
    refine hK.out _ _ ?_ (fun hHeld => ?_)
    · exact HT5.out _ (HL.out.alloc _)
    clear hK K
    try simp only [Act.put, List.setIfInBounds_toArray, List.set_cons_zero, List.set_cons_succ]
    refine HG1.out _ _ _ _ ?_
    exact Q0_3_6_7_8_11_15_20.out x41 x44 x48 x49 x52 g6 g15 W.heap.size _ _ (hide (by rw [HA0.out]; simp only [Act.put, List.setIfInBounds_toArray, List.set_cons_zero, List.set_cons_succ])) (hide (HL.out.alloc _)) (hide (HT.out.later ((Later.refl W).alloc _))) (hide (HRR.out.later ((Later.refl W).alloc _))) (hide (H15.out.later ((Later.refl W).alloc _))) (hide (Row.new W _ _)) (hide HL.out.size_le) (hide PTR.out) (hide (apart_new (lt_of2 HT.out.lt))) (hide (apart_new (lt_of2 HRR.out.lt))))
  have Q0_3_6_7_8_11_20 : Hid (∀ (x41 x44 x48 x49 x52 : Value) (g6 g20 : Nat) (W : World) (a : Act), Hid (a = (((((((a0.put (some 41) (x41)).put (some 44) (x44)).put (some 48) (x48)).put (some 49) (x49)).put (some 52) (x52)).put (some 47) (.slice (some ⟨g6, 0, none⟩) 1 1)).put (some 7) (.pointer (some ⟨g20, 0, none⟩)))) → Hid (Later wq W) → Hid (OutTab (EM bv) W (fun b => b < wq.heap.size) wq.heap.size x48 (A ++ [mt])) → Hid (OutRats (EM bv) W (fun b => b < wq.heap.size) wq.heap.size x52 B) → Hid (Row W g20 25 [.slice none 0 0, .slice none 0 0, .slice none 0 0]) → Hid (wq.heap.size ≤ g20) → Hid (Apart x48.ownBlock x52.ownBlock) → Hid (Apart x48.ownBlock (some g20)) → Hid (Apart x52.ownBlock (some g20)) → G 4 #[true, true, true, true, true, true, true, true, true, true, true, true, true, true, true, false, false, true, true, false, true, false] a W) := hide (by
    intro x41 x44 x48 x49 x52 g6 g20 W a HA HL HT HRR H20 HG20 PTR PT20 PR20
    have hHeld := HT5.out W HL.out
    refine HG2.out _ _ _ _ ?_
    rw [HA.out, HA0.out]
    try simp only [Act.put, List.setIfInBounds_toArray, List.set_cons_zero, List.set_cons_succ]
    refine wpAnyN_ready (rs := [15]) (by kernel_rfl) (by simp) ?_
    refine AllReadyN.held rfl (by rfl) (fun K hK => ?_) AllReadyN.nil
    go_simp
    refine hK.out _ _ ?_ (fun hHeld => ?_)
    · exact HT5.out _ (HL.out.alloc _)
    clear hK K
    try simp only [Act.put, List.setIfInBounds_toArray, List.set_cons_zero, List.set_cons_succ]
    refine HG1.out _ _ _ _ ?_
    exact Q0_3_6_7_8_11_15_20.out x41 x44 x48 x49 x52 g6 W.heap.size g20 _ _ (hide (by rw [HA0.out]; simp only [Act.put, List.setIfInBounds_toArray, List.set_cons_zero, List.set_cons_succ])) (hide (HL.out.alloc _)) (hide (HT.out.later ((Later.refl W).alloc _))) (hide (HRR.out.later ((Later.refl W).alloc _))) (hide (Row.new W _ _)) (hide (H20.out.later ((Later.refl W).alloc _))) (hide HG20.out) (hide PTR.out) (hide PT20.out) (hide PR20.out))
  have Q0_3_6_7_8_15_20 : Hid (∀ (x41 x44 x48 x49 : Value) (g6 g15 g20 : Nat) (W : World) (a : Act), Hid (a = (((((((a0.put (some 41) (x41)).put (some 44) (x44)).put (some 48) (x48)).put (some 49) (x49)).put (some 47) (.slice (some ⟨g6, 0, none⟩) 1 1)).put (some 56) (.slice (some ⟨g15, 0, none⟩) 1 1)).put (some 7) (.pointer (some ⟨g20, 0, none⟩)))) → Hid (Later wq W) → Hid (OutTab (EM bv) W (fun b => b < wq.heap.size) wq.heap.size x48 (A ++ [mt])) → Hid (W.ownsRow wq.heap.size 37 4 x49 0 []) → Hid (Row W g15 37 [.bool sm, .slice Xm nx cx, .bool sm', .slice Xm' nx' cx']) → Hid (Row W g20 25 [.slice none 0 0, .slice none 0 0, .slice none 0 0]) → Hid (wq.heap.size ≤ g20) → Hid (Apart x48.ownBlock x49.ownBlock) → Hid (Apart x48.ownBlock (some g20)) → Hid (Apart x49.ownBlock (some g15)) → Hid (Apart x49.ownBlock (some g20)) → G 4 #[true, true, true, true, true, true, true, true, true, true, true, false, true, true, true, true, false, true, true, false, true, false] a W) := hide (by
    intro x41 x44 x48 x49 g6 g15 g20 W a HA HL HT HRR H15 H20 HG20 PTR PT20 PR15 PR20
    have hHeld := HT5.out W HL.out
    refine HG2.out _ _ _ _ ?_
    rw [HA.out, HA0.out]
    try simp only [Act.put, List.setIfInBounds_toArray, List.set_cons_zero, List.set_cons_succ]
    refine wpAnyN_ready (rs := [11]) (by kernel_rfl) (by simp) ?_
    refine AllReadyN.held rfl (by rfl) (fun K hK => ?_) AllReadyN.nil
    refine wp_append_rats4 _ _ rfl (EM.agree bv) rfl HRR.out rfl HTB.out HL.out HBP.out (by have := HLB.out; omega) ?_
    intro x52 W2 k1 k2 k3
    show K (Act.put _ (some 52) x52) W2
    change W.grownBy W2 x49.ownBlock at k2
    change x52.ownBlock = x49.ownBlock ∨ x52.ownBlock = some W.heap.size at k3
    refine hK.out _ _ ?_ (fun hHeld => ?_)
    · exact HT5.out _ (HL.out.grown k2 (base_le (World.ownsRow.lt HRR.out)))
    clear hK K
    try simp only [Act.put, List.setIfInBounds_toArray, List.set_cons_zero, List.set_cons_succ]
    refine HG1.out _ _ _ _ ?_
    exact Q0_3_6_7_8_11_15_20.out x41 x44 x48 x49 x52 g6 g15 g20 _ _ (hide (by rw [HA0.out]; simp only [Act.put, List.setIfInBounds_toArray, List.set_cons_zero, List.set_cons_succ])) (hide (HL.out.grown k2 (base_le (World.ownsRow.lt HRR.out)))) (hide (HT.out.grown k2 PTR.out.ne2 (base_ne (World.ownsRow.lt HRR.out)))) (hide k1) (hide (H15.out.grown k2 (PR15.out.ne1 _ rfl))) (hide (H20.out.grown k2 (PR20.out.ne1 _ rfl))) (hide HG20.out) (hide (PTR.out.symm.step k3 (lt_of2 HT.out.lt)).symm) (hide PT20.out) (hide (PR20.out.step k3 (lt_row H20.out))))
  have Q0_3_6_7_15_20 : Hid (∀ (x41 x44 x48 : Value) (g6 g15 g20 : Nat) (W : World) (a : Act), Hid (a = ((((((a0.put (some 41) (x41)).put (some 44) (x44)).put (some 48) (x48)).put (some 47) (.slice (some ⟨g6, 0, none⟩) 1 1)).put (some 56) (.slice (some ⟨g15, 0, none⟩) 1 1)).put (some 7) (.pointer (some ⟨g20, 0, none⟩)))) → Hid (Later wq W) → Hid (OutTab (EM bv) W (fun b => b < wq.heap.size) wq.heap.size x48 (A ++ [mt])) → Hid (Row W g15 37 [.bool sm, .slice Xm nx cx, .bool sm', .slice Xm' nx' cx']) → Hid (Row W g20 25 [.slice none 0 0, .slice none 0 0, .slice none 0 0]) → Hid (wq.heap.size ≤ g20) → Hid (Apart x48.ownBlock (some g20)) → G 5 #[true, true, true, true, true, true, true, true, false, true, true, false, true, true, true, true, false, true, true, false, true, false] a W) := hide (by
    intro x41 x44 x48 g6 g15 g20 W a HA HL HT H15 H20 HG20 PT20
    have hHeld := HT5.out W HL.out
    refine HG2.out _ _ _ _ ?_
    rw [HA.out, HA0.out]
    try simp only [Act.put, List.setIfInBounds_toArray, List.set_cons_zero, List.set_cons_succ]
    refine wpAnyN_ready (rs := [8]) (by kernel_rfl) (by simp) ?_
    refine AllReadyN.held rfl (by rfl) (fun K hK => ?_) AllReadyN.nil
    go_simp
    refine hK.out _ _ ?_ (fun hHeld => ?_)
    · exact HT5.out _ (HL.out.alloc _)
    clear hK K
    try simp only [Act.put, List.setIfInBounds_toArray, List.set_cons_zero, List.set_cons_succ]
    refine HG1.out _ _ _ _ ?_
    exact Q0_3_6_7_8_15_20.out x41 x44 x48 (.slice (some ⟨W.heap.size, 0, none⟩) 0 0) g6 g15 g20 _ _ (hide (by rw [HA0.out]; simp only [Act.put, List.setIfInBounds_toArray, List.set_cons_zero, List.set_cons_succ])) (hide (HL.out.alloc _)) (hide (HT.out.later ((Later.refl W).alloc _))) (hide (own_at2 W _ _ rfl HL.out.size_le)) (hide (H15.out.later ((Later.refl W).alloc _))) (hide (H20.out.later ((Later.refl W).alloc _))) (hide HG20.out) (hide (apart_new (lt_of2 HT.out.lt))) (hide PT20.out) (hide (apart_new (lt_row H15.out)).symm) (hide (apart_new (lt_row H20.out)).symm))
  have Q0_3_6_7_8_11 : Hid (∀ (x41 x44 x48 x49 x52 : Value) (g6 : Nat) (W : World) (a : Act), Hid (a = ((((((a0.put (some 41) (x41)).put (some 44) (x44)).put (some 48) (x48)).put (some 49) (x49)).put (some 52) (x52)).put (some 47) (.slice (some ⟨g6, 0, none⟩) 1 1))) → Hid (Later wq W) → Hid (OutTab (EM bv) W (fun b => b < wq.heap.size) wq.heap.size x48 (A ++ [mt])) → Hid (OutRats (EM bv) W (fun b => b < wq.heap.size) wq.heap.size x52 B) → Hid (Apart x48.ownBlock x52.ownBlock) → G 5 #[true, true, true, true, true, true, true, true, true, true, true, true, true, true, true, false, false, true, true, false, false, false] a W) := hide (by
    intro x41 x44 x48 x49 x52 g6 W a HA HL HT HRR PTR
    have hHeld := HT5.out W HL.out
    refine HG2.out _ _ _ _ ?_
    rw [HA.out, HA0.out]
    try simp only [Act.put, List.setIfInBounds_toArray, List.set_cons_zero, List.set_cons_succ]
    refine wpAnyN_ready (rs := [15, 20]) (by kernel_rfl) (by simp) ?_
    refine AllReadyN.held rfl (by rfl) (fun K hK => ?_) ?_
    · go_simp
      refine hK.out _ _ ?_ (fun hHeld => ?_)
      · exact HT5.out _ (HL.out.alloc _)
      clear hK K
      try simp only [Act.put, List.setIfInBounds_toArray, List.set_cons_zero, List.set_cons_succ]
      refine HG1.out _ _ _ _ ?_
      exact Q0_3_6_7_8_11_15.out x41 x44 x48 x49 x52 g6 W.heap.size _ _ (hide (by rw [HA0.out]; simp only [Act.put, List.setIfInBounds_toArray, List.set_cons_zero, List.set_cons_succ])) (hide (HL.out.alloc _)) (hide (HT.out.later ((Later.refl W).alloc _))) (hide (HRR.out.later ((Later.refl W).alloc _))) (hide (Row.new W _ _)) (hide PTR.out)
    refine AllReadyN.held rfl (by rfl) (fun K hK => ?_) AllReadyN.nil
    go_simp
    refine hK.out _ _ ?_ (fun hHeld => ?_)
    · exact HT5.out _ (HL.out.alloc _)
    clear hK K
    try simp only [Act.put, List.setIfInBounds_toArray, List.set_cons_zero, List.set_cons_succ]
    refine HG1.out _ _ _ _ ?_
    exact Q0_3_6_7_8_11_20.out x41 x44 x48 x49 x52 g6 W.heap.size _ _ (hide (by rw [HA0.out]; simp only [Act.put, List.setIfInBounds_toArray, List.set_cons_zero, List.set_cons_succ])) (hide (HL.out.alloc _)) (hide (HT.out.later ((Later.refl W).alloc _))) (hide (HRR.out.later ((Later.refl W).alloc _))) (hide (Row.new W _ _)) (hide HL.out.size_le) (hide PTR.out) (hide (apart_new (lt_of2 HT.out.lt))) (hide (apart_new (lt_of2 HRR.out.lt))))
  have Q0_3_6_7_8_15 : Hid (∀ (x41 x44 x48 x49 : Value) (g6 g15 : Nat) (W : World) (a : Act), Hid (a = ((((((a0.put (some 41) (x41)).put (some 44) (x44)).put (some 48) (x48)).put (some 49) (x49)).put (some 47) (.slice (some ⟨g6, 0, none⟩) 1 1)).put (some 56) (.slice (some ⟨g15, 0, none⟩) 1 1))) → Hid (Later wq W) → Hid (OutTab (EM bv) W (fun b => b < wq.heap.size) wq.heap.size x48 (A ++ [mt])) → Hid (W.ownsRow wq.heap.size 37 4 x49 0 []) → Hid (Row W g15 37 [.bool sm, .slice Xm nx cx, .bool sm', .slice Xm' nx' cx']) → Hid (Apart x48.ownBlock x49.ownBlock) → Hid (Apart x49.ownBlock (some g15)) → G 5 #[true, true, true, true, true, true, true, true, true, true, true, false, true, true, true, true, false, true, true, false, false, false] a W) := hide (by
    intro x41 x44 x48 x49 g6 g15 W a HA HL HT HRR H15 PTR PR15
    have hHeld := HT5.out W HL.out
    refine HG2.out _ _ _ _ ?_
    rw [HA.out, HA0.out]
    try simp only [Act.put, List.setIfInBounds_toArray, List.set_cons_zero, List.set_cons_succ]
    refine wpAnyN_ready (rs := [11, 20]) (by kernel_rfl) (by simp) ?_
    refine AllReadyN.held rfl (by rfl) (fun K hK => ?_) ?_
    · refine wp_append_rats4 _ _ rfl (EM.agree bv) rfl HRR.out rfl HTB.out HL.out HBP.out (by have := HLB.out; omega) ?_
      intro x52 W2 k1 k2 k3
      show K (Act.put _ (some 52) x52) W2
      change W.grownBy W2 x49.ownBlock at k2
      change x52.ownBlock = x49.ownBlock ∨ x52.ownBlock = some W.heap.size at k3
      refine hK.out _ _ ?_ (fun hHeld => ?_)
      · exact HT5.out _ (HL.out.grown k2 (base_le (World.ownsRow.lt HRR.out)))
      clear hK K
      try simp only [Act.put, List.setIfInBounds_toArray, List.set_cons_zero, List.set_cons_succ]
      refine HG1.out _ _ _ _ ?_
      exact Q0_3_6_7_8_11_15.out x41 x44 x48 x49 x52 g6 g15 _ _ (hide (by rw [HA0.out]; simp only [Act.put, List.setIfInBounds_toArray, List.set_cons_zero, List.set_cons_succ])) (hide (HL.out.grown k2 (base_le (World.ownsRow.lt HRR.out)))) (hide (HT.out.grown k2 PTR.out.ne2 (base_ne (World.ownsRow.lt HRR.out)))) (hide k1) (hide (H15.out.grown k2 (PR15.out.ne1 _ rfl))) (hide (PTR.out.symm.step k3 (lt_of2 HT.out.lt)).symm)
    refine AllReadyN.held rfl (by rfl) (fun K hK => ?_) AllReadyN.nil
    go_simp
    refine hK.out _ _ ?_ (fun hHeld => ?_)
    · exact HT5.out _ (HL.out.alloc _)
    clear hK K
    try simp only [Act.put, List.setIfInBounds_toArray, List.set_cons_zero, List.set_cons_succ]
    refine HG1.out _ _ _ _ ?_
    exact Q0_3_6_7_8_15_20.out x41 x44 x48 x49 g6 g15 W.heap.size _ _ (hide (by rw [HA0.out]; simp only [Act.put, List.setIfInBounds_toArray, List.set_cons_zero, List.set_cons_succ])) (hide (HL.out.alloc _)) (hide (HT.out.later ((Later.refl W).alloc _))) (hide (ownsRow_later HRR.out ((Later.refl W).alloc _))) (hide (H15.out.later ((Later.refl W).alloc _))) (hide (Row.new W _ _)) (hide HL.out.size_le) (hide PTR.out) (hide (apart_new (lt_of2 HT.out.lt))) (hide PR15.out) (hide (apart_new (lt_of2 (World.ownsRow.lt HRR.out)))))
  have Q0_3_6_7_8_20 : Hid (∀ (x41 x44 x48 x49 : Value) (g6 g20 : Nat) (W : World) (a : Act), Hid (a = ((((((a0.put (some 41) (x41)).put (some 44) (x44)).put (some 48) (x48)).put (some 49) (x49)).put (some 47) (.slice (some ⟨g6, 0, none⟩) 1 1)).put (some 7) (.pointer (some ⟨g20, 0, none⟩)))) → Hid (Later wq W) → Hid (OutTab (EM bv) W (fun b => b < wq.heap.size) wq.heap.size x48 (A ++ [mt])) → Hid (W.ownsRow wq.heap.size 37 4 x49 0 []) → Hid (Row W g20 25 [.slice none 0 0, .slice none 0 0, .slice none 0 0]) → Hid (wq.heap.size ≤ g20) → Hid (Apart x48.ownBlock x49.ownBlock) → Hid (Apart x48.ownBlock (some g20)) → Hid (Apart x49.ownBlock (some g20)) → G 5 #[true, true, true, true, true, true, true, true, true, true, true, false, true, true, true, false, false, true, true, false, true, false] a W) := hide (by
    intro x41 x44 x48 x49 g6 g20 W a HA HL HT HRR H20 HG20 PTR PT20 PR20
    have hHeld := HT5.out W HL.out
    refine HG2.out _ _ _ _ ?_
    rw [HA.out, HA0.out]
    try simp only [Act.put, List.setIfInBounds_toArray, List.set_cons_zero, List.set_cons_succ]
    refine wpAnyN_ready (rs := [11, 15]) (by kernel_rfl) (by simp) ?_
    refine AllReadyN.held rfl (by rfl) (fun K hK => ?_) ?_
    · refine wp_append_rats4 _ _ rfl (EM.agree bv) rfl HRR.out rfl HTB.out HL.out HBP.out (by have := HLB.out; omega) ?_
      intro x52 W2 k1 k2 k3
      show K (Act.put _ (some 52) x52) W2
      change W.grownBy W2 x49.ownBlock at k2
      change x52.ownBlock = x49.ownBlock ∨ x52.ownBlock = some W.heap.size at k3
      refine hK.out _ _ ?_ (fun hHeld => ?_)
      · exact HT5.out _ (HL.out.grown k2 (base_le (World.ownsRow.lt HRR.out)))
      clear hK K
      try simp only [Act.put, List.setIfInBounds_toArray, List.set_cons_zero, List.set_cons_succ]
      refine HG1.out _ _ _ _ ?_
      exact Q0_3_6_7_8_11_20.out x41 x44 x48 x49 x52 g6 g20 _ _ (hide (by rw [HA0.out]; simp only [Act.put, List.setIfInBounds_toArray, List.set_cons_zero, List.set_cons_succ])) (hide (HL.out.grown k2 (base_le (World.ownsRow.lt HRR.out)))) (hide (HT.out.grown k2 PTR.out.ne2 (base_ne (World.ownsRow.lt HRR.out)))) (hide k1) (hide (H20.out.grown k2 (PR20.out.ne1 _ rfl))) (hide HG20.out) (hide (PTR.out.symm.step k3 (lt_of2 HT.out.lt)).symm) (hide PT20.out) (hide (PR20.out.step k3 (lt_row H20.out)))
    refine AllReadyN.held rfl (by rfl) (fun K hK => ?_) AllReadyN.nil
    go_simp
    refine hK.out _ _ ?_ (fun hHeld => ?_)
    · exact HT5.out _ (HL.out.alloc _)
    clear hK K
    try simp only [Act.put, List.setIfInBounds_toArray, List.set_cons_zero, List.set_cons_succ]
    refine HG1.out _ _ _ _ ?_
    exact Q0_3_6_7_8_15_20.out x41 x44 x48 x49 g6 W.heap.size g20 _ _ (hide (by rw [HA0.out]; simp only [Act.put, List.setIfInBounds_toArray, List.set_cons_zero, List.set_cons_succ])) (hide (HL.out.alloc _)) (hide (HT.out.later ((Later.refl W).alloc _))) (hide (ownsRow_later HRR.out ((Later.refl W).alloc _))) (hide (Row.new W _ _)) (hide (H20.out.later ((Later.refl W).alloc _))) (hide HG20.out) (hide PTR.out) (hide PT20.out) (hide (apart_new (lt_of2 (World.ownsRow.lt HRR.out)))) (hide PR20.out))
  have Q0_3_6_8_15_20 : Hid (∀ (x41 x44 x49 : Value) (g6 g15 g20 : Nat) (W : World) (a : Act), Hid (a = ((((((a0.put (some 41) (x41)).put (some 44) (x44)).put (some 49) (x49)).put (some 47) (.slice (some ⟨g6, 0, none⟩) 1 1)).put (some 56) (.slice (some ⟨g15, 0, none⟩) 1 1)).put (some 7) (.pointer (some ⟨g20, 0, none⟩)))) → Hid (Later wq W) → Hid (OutTab (EM bv) W (fun b => b < wq.heap.size) wq.heap.size x44 A) → Hid (W.ownsRow wq.heap.size 37 4 x49 0 []) → Hid (Row W g6 23 [.slice Am (n7 - 1) (c7 - 1)]) → Hid (Row W g15 37 [.bool sm, .slice Xm nx cx, .bool sm', .slice Xm' nx' cx']) → Hid (Row W g20 25 [.slice none 0 0, .slice none 0 0, .slice none 0 0]) → Hid (wq.heap.size ≤ g20) → Hid (Apart x44.ownBlock x49.ownBlock) → Hid (Apart x44.ownBlock (some g6)) → Hid (Apart x44.ownBlock (some g15)) → Hid (Apart x44.ownBlock (some g20)) → Hid (Apart x49.ownBlock (some g15)) → Hid (Apart x49.ownBlock (some g20)) → G 5 #[true, true, true, true, true, true, true, false, true, true, true, false, true, true, true, true, false, true, true, false, true, false] a W) := hide (by
    intro x41 x44 x49 g6 g15 g20 W a HA HL HT HRR H6 H15 H20 HG20 PTR PT6 PT15 PT20 PR15 PR20
    have hHeld := HT5.out W HL.out
    refine HG2.out _ _ _ _ ?_
    rw [HA.out, HA0.out]
    try simp only [Act.put, List.setIfInBounds_toArray, List.set_cons_zero, List.set_cons_succ]
    refine wpAnyN_ready (rs := [7]) (by kernel_rfl) (by simp) ?_
    refine AllReadyN.held rfl (by rfl) (fun K hK => ?_) AllReadyN.nil
    refine wp_append_row3 _ _ rfl rfl HT.out rfl H6.out (((On.base fun W2 h2 => rats_agreeE (EM.agree bv) HTT.out h2).later HL.out).mono fun b hb _ => ⟨hb, base_ne HT.out.lt b hb⟩) (by have := HLA.out; omega) HL.out.size_le ?_
    intro x48 W2 k1 k2 k3
    show K (Act.put _ (some 48) x48) W2
    change W.grownBy W2 x44.ownBlock at k2
    change x48.ownBlock = x44.ownBlock ∨ x48.ownBlock = some W.heap.size at k3
    refine hK.out _ _ ?_ (fun hHeld => ?_)
    · exact HT5.out _ (HL.out.grown k2 (base_le HT.out.lt))
    clear hK K
    try simp only [Act.put, List.setIfInBounds_toArray, List.set_cons_zero, List.set_cons_succ]
    refine HG1.out _ _ _ _ ?_
    exact Q0_3_6_7_8_15_20.out x41 x44 x48 x49 g6 g15 g20 _ _ (hide (by rw [HA0.out]; simp only [Act.put, List.setIfInBounds_toArray, List.set_cons_zero, List.set_cons_succ])) (hide (HL.out.grown k2 (base_le HT.out.lt))) (hide k1) (hide (ownsRow_grown HRR.out k2 PTR.out.ne1)) (hide (H15.out.grown k2 (PT15.out.ne1 _ rfl))) (hide (H20.out.grown k2 (PT20.out.ne1 _ rfl))) (hide HG20.out) (hide (PTR.out.step k3 (lt_of2 (World.ownsRow.lt HRR.out)))) (hide (PT20.out.step k3 (lt_row H20.out))) (hide PR15.out) (hide PR20.out))
  have Q0_3_6_15_20 : Hid (∀ (x41 x44 : Value) (g6 g15 g20 : Nat) (W : World) (a : Act), Hid (a = (((((a0.put (some 41) (x41)).put (some 44) (x44)).put (some 47) (.slice (some ⟨g6, 0, none⟩) 1 1)).put (some 56) (.slice (some ⟨g15, 0, none⟩) 1 1)).put (some 7) (.pointer (some ⟨g20, 0, none⟩)))) → Hid (Later wq W) → Hid (OutTab (EM bv) W (fun b => b < wq.heap.size) wq.heap.size x44 A) → Hid (Row W g6 23 [.slice Am (n7 - 1) (c7 - 1)]) → Hid (Row W g15 37 [.bool sm, .slice Xm nx cx, .bool sm', .slice Xm' nx' cx']) → Hid (Row W g20 25 [.slice none 0 0, .slice none 0 0, .slice none 0 0]) → Hid (wq.heap.size ≤ g20) → Hid (Apart x44.ownBlock (some g6)) → Hid (Apart x44.ownBlock (some g15)) → Hid (Apart x44.ownBlock (some g20)) → G 6 #[true, true, true, true, true, true, true, false, false, true, true, false, true, true, true, true, false, true, true, false, true, false] a W) := hide (by
    intro x41 x44 g6 g15 g20 W a HA HL HT H6 H15 H20 HG20 PT6 PT15 PT20
    have hHeld := HT5.out W HL.out
    refine HG2.out _ _ _ _ ?_
    rw [HA.out, HA0.out]
    try simp only [Act.put, List.setIfInBounds_toArray, List.set_cons_zero, List.set_cons_succ]
    refine wpAnyN_ready (rs := [7, 8]) (by kernel_rfl) (by simp) ?_
    refine AllReadyN.held rfl (by rfl) (fun K hK => ?_) ?_
    · refine wp_append_row3 _ _ rfl rfl HT.out rfl H6.out (((On.base fun W2 h2 => rats_agreeE (EM.agree bv) HTT.out h2).later HL.out).mono fun b hb _ => ⟨hb, base_ne HT.out.lt b hb⟩) (by have := HLA.out; omega) HL.out.size_le ?_
      intro x48 W2 k1 k2 k3
      show K (Act.put _ (some 48) x48) W2
      change W.grownBy W2 x44.ownBlock at k2
      change x48.ownBlock = x44.ownBlock ∨ x48.ownBlock = some W.heap.size at k3
      refine hK.out _ _ ?_ (fun hHeld => ?_)
      · exact HT5.out _ (HL.out.grown k2 (base_le HT.out.lt))
      clear hK K
      try simp only [Act.put, List.setIfInBounds_toArray, List.set_cons_zero, List.set_cons_succ]
      refine HG1.out _ _ _ _ ?_
      exact Q0_3_6_7_15_20.out x41 x44 x48 g6 g15 g20 _ _ (hide (by rw [HA0.out]; simp only [Act.put, List.setIfInBounds_toArray, List.set_cons_zero, List.set_cons_succ])) (hide (HL.out.grown k2 (base_le HT.out.lt))) (hide k1) (hide (H15.out.grown k2 (PT15.out.ne1 _ rfl))) (hide (H20.out.grown k2 (PT20.out.ne1 _ rfl))) (hide HG20.out) (hide (PT20.out.step k3 (lt_row H20.out)))
    refine AllReadyN.held rfl (by rfl) (fun K hK => ?_) AllReadyN.nil
    go_simp
    refine hK.out _ _ ?_ (fun hHeld => ?_)
    · exact HT5.out _ (HL.out.alloc _)
    clear hK K
    try simp only [Act.put, List.setIfInBounds_toArray, List.set_cons_zero, List.set_cons_succ]
    refine HG1.out _ _ _ _ ?_
    exact Q0_3_6_8_15_20.out x41 x44 (.slice (some ⟨W.heap.size, 0, none⟩) 0 0) g6 g15 g20 _ _ (hide (by rw [HA0.out]; simp only [Act.put, List.setIfInBounds_toArray, List.set_cons_zero, List.set_cons_succ])) (hide (HL.out.alloc _)) (hide (HT.out.later ((Later.refl W).alloc _))) (hide (own_at2 W _ _ rfl HL.out.size_le)) (hide (H6.out.later ((Later.refl W).alloc _))) (hide (H15.out.later ((Later.refl W).alloc _))) (hide (H20.out.later ((Later.refl W).alloc _))) (hide HG20.out) (hide (apart_new (lt_of2 HT.out.lt))) (hide PT6.out) (hide PT15.out) (hide PT20.out) (hide (apart_new (lt_row H15.out)).symm) (hide (apart_new (lt_row H20.out)).symm))
  have Q0_3_6_7_15 : Hid (∀ (x41 x44 x48 : Value) (g6 g15 : Nat) (W : World) (a : Act), Hid (a = (((((a0.put (some 41) (x41)).put (some 44) (x44)).put (some 48) (x48)).put (some 47) (.slice (some ⟨g6, 0, none⟩) 1 1)).put (some 56) (.slice (some ⟨g15, 0, none⟩) 1 1))) → Hid (Later wq W) → Hid (OutTab (EM bv) W (fun b => b < wq.heap.size) wq.heap.size x48 (A ++ [mt])) → Hid (Row W g15 37 [.bool sm, .slice Xm nx cx, .bool sm', .slice Xm' nx' cx']) → G 6 #[true, true, true, true, true, true, true, true, false, true, true, false, true, true, true, true, false, true, true, false, false, false] a W) := hide (by
    intro x41 x44 x48 g6 g15 W a HA HL HT H15
    have hHeld := HT5.out W HL.out
    refine HG2.out _ _ _ _ ?_
    rw [HA.out, HA0.out]
    try simp only [Act.put, List.setIfInBounds_toArray, List.set_cons_zero, List.set_cons_succ]
    refine wpAnyN_ready (rs := [8, 20]) (by kernel_rfl) (by simp) ?_
    refine AllReadyN.held rfl (by rfl) (fun K hK => ?_) ?_
    · go_simp
      refine hK.out _ _ ?_ (fun hHeld => ?_)
      · exact HT5.out _ (HL.out.alloc _)
      clear hK K
      try simp only [Act.put, List.setIfInBounds_toArray, List.set_cons_zero, List.set_cons_succ]
      refine HG1.out _ _ _ _ ?_
      exact Q0_3_6_7_8_15.out x41 x44 x48 (.slice (some ⟨W.heap.size, 0, none⟩) 0 0) g6 g15 _ _ (hide (by rw [HA0.out]; simp only [Act.put, List.setIfInBounds_toArray, List.set_cons_zero, List.set_cons_succ])) (hide (HL.out.alloc _)) (hide (HT.out.later ((Later.refl W).alloc _))) (hide (own_at2 W _ _ rfl HL.out.size_le)) (hide (H15.out.later ((Later.refl W).alloc _))) (hide (apart_new (lt_of2 HT.out.lt))) (hide (apart_new (lt_row H15.out)).symm)
    refine AllReadyN.held rfl (by rfl) (fun K hK => ?_) AllReadyN.nil
    go_simp
    refine hK.out _ _ ?_ (fun hHeld => ?_)
    · exact HT5.out _ (HL.out.alloc _)
    clear hK K
    try simp only [Act.put, List.setIfInBounds_toArray, List.set_cons_zero, List.set_cons_succ]
    refine HG1.out _ _ _ _ ?_
    exact Q0_3_6_7_15_20.out x41 x44 x48 g6 g15 W.heap.size _ _ (hide (by rw [HA0.out]; simp only [Act.put, List.setIfInBounds_toArray, List.set_cons_zero, List.set_cons_succ])) (hide (HL.out.alloc _)) (hide (HT.out.later ((Later.refl W).alloc _))) (hide (H15.out.later ((Later.refl W).alloc _))) (hide (Row.new W _ _)) (hide HL.out.size_le) (hide (apart_new (lt_of2 HT.out.lt))))
  have Q0_3_6_7_20 : Hid (∀ (x41 x44 x48 : Value) (g6 g20 : Nat) (W : World) (a : Act), Hid (a = (((((a0.put (some 41) (x41)).put (some 44) (x44)).put (some 48) (x48)).put (some 47) (.slice (some ⟨g6, 0, none⟩) 1 1)).put (some 7) (.pointer (some ⟨g20, 0, none⟩)))) → Hid (Later wq W) → Hid (OutTab (EM bv) W (fun b => b < wq.heap.size) wq.heap.size x48 (A ++ [mt])) → Hid (Row W g20 25 [.slice none 0 0, .slice none 0 0, .slice none 0 0]) → Hid (wq.heap.size ≤ g20) → Hid (Apart x48.ownBlock (some g20)) → G 6 #[true, true, true, true, true, true, true, true, false, true, true, false, true, true, true, false, false, true, true, false, true, false] a W) := hide (by
    intro x41 x44 x48 g6 g20 W a HA HL HT H20 HG20 PT20
    have hHeld := HT5.out W HL.out
    refine HG2.out _ _ _ _ ?_
    rw [HA.out, HA0.out]
    try simp only [Act.put, List.setIfInBounds_toArray, List.set_cons_zero, List.set_cons_succ]
    refine wpAnyN_ready (rs := [8, 15]) (by kernel_rfl) (by simp) ?_
    refine AllReadyN.held rfl (by rfl) (fun K hK => ?_) ?_
    · go_simp
      refine hK.out _ _ ?_ (fun hHeld => ?_)
      · exact HT5.out _ (HL.out.alloc _)
      clear hK K
      try simp only [Act.put, List.setIfInBounds_toArray, List.set_cons_zero, List.set_cons_succ]
      refine HG1.out _ _ _ _ ?_
      exact Q0_3_6_7_8_20.out x41 x44 x48 (.slice (some ⟨W.heap.size, 0, none⟩) 0 0) g6 g20 _ _ (hide (by rw [HA0.out]; simp only [Act.put, List.setIfInBounds_toArray, List.set_cons_zero, List.set_cons_succ])) (hide (HL.out.alloc _)) (hide (HT.out.later ((Later.refl W).alloc _))) (hide (own_at2 W _ _ rfl HL.out.size_le)) (hide (H20.out.later ((Later.refl W).alloc _))) (hide HG20.out) (hide (apart_new (lt_of2 HT.out.lt))) (hide PT20.out) (hide (apart_new (lt_row H20.out)).symm)
    refine AllReadyN.held rfl (by rfl) (fun K hK => ?_) AllReadyN.nil
    go_simp
    refine hK.out _ _ ?_ (fun hHeld => ?_)
    · exact HT5.out _ (HL.out.alloc _)
    clear hK K
    try simp only [Act.put, List.setIfInBounds_toArray, List.set_cons_zero, List.set_cons_succ]
    refine HG1.out _ _ _ _ ?_
    exact Q0_3_6_7_15_20.out x41 x44 x48 g6 W.heap.size g20 _ _ (hide (by rw [HA0.out]; simp only [Act.put, List.setIfInBounds_toArray, List.set_cons_zero, List.set_cons_succ])) (hide (HL.out.alloc _)) (hide (HT.out.later ((Later.refl W).alloc _))) (hide (Row.new W _ _)) (hide (H20.out.later ((Later.refl W).alloc _))) (hide HG20.out) (hide PT20.out))
  have Q0_3_6_7_8 : Hid (∀ (x41 x44 x48 x49 : Value) (g6 : Nat) (W : World) (a : Act), Hid (a = (((((a0.put (some 41) (x41)).put (some 44) (x44)).put (some 48) (x48)).put (some 49) (x49)).put (some 47) (.slice (some ⟨g6, 0, none⟩) 1 1))) → Hid (Later wq W) → Hid (OutTab (EM bv) W (fun b => b < wq.heap.size) wq.heap.size x48 (A ++ [mt])) → Hid (W.ownsRow wq.heap.size 37 4 x49 0 []) → Hid (Apart x48.ownBlock x49.ownBlock) → G 6 #[true, true, true, true, true, true, true, true, true, true, true, false, true, true, true, false, false, true, true, false, false, false] a W) := hide (by
    intro x41 x44 x48 x49 g6 W a HA HL HT HRR PTR
    have hHeld := HT5.out W HL.out
    refine HG2.out _ _ _ _ ?_
    rw [HA.out, HA0.out]
    try simp only [Act.put, List.setIfInBounds_toArray, List.set_cons_zero, List.set_cons_succ]
    refine wpAnyN_ready (rs := [11, 15, 20]) (by kernel_rfl) (by simp) ?_
    refine AllReadyN.held rfl (by rfl) (fun K hK => ?_) ?_
    · refine wp_append_rats4 _ _ rfl (EM.agree bv) rfl HRR.out rfl HTB.out HL.out HBP.out (by have := HLB.out; omega) ?_
      intro x52 W2 k1 k2 k3
      show K (Act.put _ (some 52) x52) W2
      change W.grownBy W2 x49.ownBlock at k2
      change x52.ownBlock = x49.ownBlock ∨ x52.ownBlock = some W.heap.size at k3
      refine hK.out _ _ ?_ (fun hHeld => ?_)
      · exact HT5.out _ (HL.out.grown k2 (base_le (World.ownsRow.lt HRR.out)))
      clear hK K
      try simp only [Act.put, List.setIfInBounds_toArray, List.set_cons_zero, List.set_cons_succ]
      refine HG1.out _ _ _ _ ?_
      exact Q0_3_6_7_8_11.out x41 x44 x48 x49 x52 g6 _ _ (hide (by rw [HA0.out]; simp only [Act.put, List.setIfInBounds_toArray, List.set_cons_zero, List.set_cons_succ])) (hide (HL.out.grown k2 (base_le (World.ownsRow.lt HRR.out)))) (hide (HT.out.grown k2 PTR.out.ne2 (base_ne (World.ownsRow.lt HRR.out)))) (hide k1) (hide (PTR.out.symm.step k3 (lt_of2 HT.out.lt)).symm)
    refine AllReadyN.held rfl (by rfl) (fun K hK => ?_) ?_
    · go_simp
      refine hK.out _ _ ?_ (fun hHeld => ?_)
      · exact HT5.out _ (HL.out.alloc _)
      clear hK K
      try simp only [Act.put, List.setIfInBounds_toArray, List.set_cons_zero, List.set_cons_succ]
      refine HG1.out _ _ _ _ ?_
      exact Q0_3_6_7_8_15.out x41 x44 x48 x49 g6 W.heap.size _ _ (hide (by rw [HA0.out]; simp only [Act.put, List.setIfInBounds_toArray, List.set_cons_zero, List.set_cons_succ])) (hide (HL.out.alloc _)) (hide (HT.out.later ((Later.refl W).alloc _))) (hide (ownsRow_later HRR.out ((Later.refl W).alloc _))) (hide (Row.new W _ _)) (hide PTR.out) (hide (apart_new (lt_of2 (World.ownsRow.lt HRR.out))))
    refine AllReadyN.held rfl (by rfl) (fun K hK => ?_) AllReadyN.nil
    go_simp
    refine hK.out _ _ ?_ (fun hHeld => ?_)
    · exact HT5.out _ (HL.out.alloc _)
    clear hK K
    try simp only [Act.put, List.setIfInBounds_toArray, List.set_cons_zero, List.set_cons_succ]
    refine HG1.out _ _ _ _ ?_
    exact Q0_3_6_7_8_20.out x41 x44 x48 x49 g6 W.heap.size _ _ (hide (by rw [HA0.out]; simp only [Act.put, List.setIfInBounds_toArray, List.set_cons_zero, List.set_cons_succ])) (hide (HL.out.alloc _)) (hide (HT.out.later ((Later.refl W).alloc _))) (hide (ownsRow_later HRR.out ((Later.refl W).alloc _))) (hide (Row.new W _ _)) (hide HL.out.size_le) (hide PTR.out) (hide (apart_new (lt_of2 HT.out.lt))) (hide (apart_new (lt_of2 (World.ownsRow.lt HRR.out)))))
  have Q0_3_6_8_15 : Hid (∀ (x41 x44 x49 : Value) (g6 g15 : Nat) (W : World) (a : Act), Hid (a = (((((a0.put (some 41) (x41)).put (some 44) (x44)).put (some 49) (x49)).put (some 47) (.slice (some ⟨g6, 0, none⟩) 1 1)).put (some 56) (.slice (some ⟨g15, 0, none⟩) 1 1))) → Hid (Later wq W) → Hid (OutTab (EM bv) W (fun b => b < wq.heap.size) wq.heap.size x44 A) → Hid (W.ownsRow wq.heap.size 37 4 x49 0 []) → Hid (Row W g6 23 [.slice Am (n7 - 1) (c7 - 1)]) → Hid (Row W g15 37 [.bool sm, .slice Xm nx cx, .bool sm', .slice Xm' nx' cx']) → Hid (Apart x44.ownBlock x49.ownBlock) → Hid (Apart x44.ownBlock (some g6)) → Hid (Apart x44.ownBlock (some g15)) → Hid (Apart x49.ownBlock (some g15)) → G 6 #[true, true, true, true, true, true, true, false, true, true, true, false, true, true, true, true, false, true, true, false, false, false] a W) := hide (by
    intro x41 x44 x49 g6 g15 W a HA HL HT HRR H6 H15 PTR PT6 PT15 PR15
    have hHeld := HT5.out W HL.out
    refine HG2.out _ _ _ _ ?_
    rw [HA.out, HA0.out]
    try simp only [Act.put, List.setIfInBounds_toArray, List.set_cons_zero, List.set_cons_succ]
    refine wpAnyN_ready (rs := [7, 20]) (by kernel_rfl) (by simp) ?_
    refine AllReadyN.held rfl (by rfl) (fun K hK => ?_) ?_
    · refine wp_append_row3 _ _ rfl rfl HT.out rfl H6.out (((On.base fun W2 h2 => rats_agreeE (EM.agree bv) HTT.out h2).later HL.out).mono fun b hb _ => ⟨hb, base_ne HT.out.lt b hb⟩) (by have := HLA.out; omega) HL.out.size_le ?_
      intro x48 W2 k1 k2 k3
      show K (Act.put _ (some 48) x48) W2
      change W.grownBy W2 x44.ownBlock at k2
      change x48.ownBlock = x44.ownBlock ∨ x48.ownBlock = some W.heap.size at k3
      refine hK.out _ _ ?_ (fun hHeld => ?_)
      · exact HT5.out _ (HL.out.grown k2 (base_le HT.out.lt))
      clear hK K
      try simp only [Act.put, List.setIfInBounds_toArray, List.set_cons_zero, List.set_cons_succ]
      refine HG1.out _ _ _ _ ?_
      exact Q0_3_6_7_8_15.out x41 x44 x48 x49 g6 g15 _ _ (hide (by rw [HA0.out]; simp only [Act.put, List.setIfInBounds_toArray, List.set_cons_zero, List.set_cons_succ])) (hide (HL.out.grown k2 (base_le HT.out.lt))) (hide k1) (hide (ownsRow_grown HRR.out k2 PTR.out.ne1)) (hide (H15.out.grown k2 (PT15.out.ne1 _ rfl))) (hide (PTR.out.step k3 (lt_of2 (World.ownsRow.lt HRR.out)))) (hide PR15.out)
    refine AllReadyN.held rfl (by rfl) (fun K hK => ?_) AllReadyN.nil
    go_simp
    refine hK.out _ _ ?_ (fun hHeld => ?_)
    · exact HT5.out _ (HL.out.alloc _)
    clear hK K
    try simp only [Act.put, List.setIfInBounds_toArray, List.set_cons_zero, List.set_cons_succ]
    refine HG1.out _ _ _ _ ?_
    exact Q0_3_6_8_15_20.out x41 x44 x49 g6 g15 W.heap.size _ _ (hide (by rw [HA0.out]; simp only [Act.put, List.setIfInBounds_toArray, List.set_cons_zero, List.set_cons_succ])) (hide (HL.out.alloc _)) (hide (HT.out.later ((Later.refl W).alloc _))) (hide (ownsRow_later HRR.out ((Later.refl W).alloc _))) (hide (H6.out.later ((Later.refl W).alloc _))) (hide (H15.out.later ((Later.refl W).alloc _))) (hide (Row.new W _ _)) (hide HL.out.size_le) (hide PTR.out) (hide PT6.out) (hide PT15.out) (hide (apart_new (lt_of2 HT.out.lt))) (hide PR15.out) (hide (apart_new (lt_of2 (World.ownsRow.lt HRR.out)))))
  have Q0_3_6_8_20 : Hid (∀ (x41 x44 x49 : Value) (g6 g20 : Nat) (W : World) (a : Act), Hid (a = (((((a0.put (some 41) (x41)).put (some 44) (x44)).put (some 49) (x49)).put (some 47) (.slice (some ⟨g6, 0, none⟩) 1 1)).put (some 7) (.pointer (some ⟨g20, 0, none⟩)))) → Hid (Later wq W) → Hid (OutTab (EM bv) W (fun b => b < wq.heap.size) wq.heap.size x44 A) → Hid (W.ownsRow wq.heap.size 37 4 x49 0 []) → Hid (Row W g6 23 [.slice Am (n7 - 1) (c7 - 1)]) → Hid (Row W g20 25 [.slice none 0 0, .slice none 0 0, .slice none 0 0]) → Hid (wq.heap.size ≤ g20) → Hid (Apart x44.ownBlock x49.ownBlock) → Hid (Apart x44.ownBlock (some g6)) → Hid (Apart x44.ownBlock (some g20)) → Hid (Apart x49.ownBlock (some g20)) → G 6 #[true, true, true, true, true, true, true, false, true, true, true, false, true, true, true, false, false, true, true, false, true, false] a W) := hide (by
    intro x41 x44 x49 g6 g20 W a HA HL HT HRR H6 H20 HG20 PTR PT6 PT20 PR20
    have hHeld := HT5.out W HL.out
    refine HG2.out _ _ _ _ ?_
    rw [HA.out, HA0.out]
    try simp only [Act.put, List.setIfInBounds_toArray, List.set_cons_zero, List.set_cons_succ]
    refine wpAnyN_ready (rs := [7, 15]) (by kernel_rfl) (by simp) ?_
    refine AllReadyN.held rfl (by rfl) (fun K hK => ?_) ?_
    · refine wp_append_row3 _ _ rfl rfl HT.out rfl H6.out (((On.base fun W2 h2 => rats_agreeE (EM.agree bv) HTT.out h2).later HL.out).mono fun b hb _ => ⟨hb, base_ne HT.out.lt b hb⟩) (by have := HLA.out; omega) HL.out.size_le ?_
      intro x48 W2 k1 k2 k3
      show K (Act.put _ (some 48) x48) W2
      change W.grownBy W2 x44.ownBlock at k2
      change x48.ownBlock = x44.ownBlock ∨ x48.ownBlock = some W.heap.size at k3
      refine hK.out _ _ ?_ (fun hHeld => ?_)
      · exact HT5.out _ (HL.out.grown k2 (base_le HT.out.lt))
      clear hK K
      try simp only [Act.put, List.setIfInBounds_toArray, List.set_cons_zero, List.set_cons_succ]
      refine HG1.out _ _ _ _ ?_
      exact Q0_3_6_7_8_20.out x41 x44 x48 x49 g6 g20 _ _ (hide (by rw [HA0.out]; simp only [Act.put, List.setIfInBounds_toArray, List.set_cons_zero, List.set_cons_succ])) (hide (HL.out.grown k2 (base_le HT.out.lt))) (hide k1) (hide (ownsRow_grown HRR.out k2 PTR.out.ne1)) (hide (H20.out.grown k2 (PT20.out.ne1 _ rfl))) (hide HG20.out) (hide (PTR.out.step k3 (lt_of2 (World.ownsRow.lt HRR.out)))) (hide (PT20.out.step k3 (lt_row H20.out))) (hide PR20.out)
    refine AllReadyN.held rfl (by rfl) (fun K hK => ?_) AllReadyN.nil
    go_simp
    refine hK.out _ _ ?_ (fun hHeld => ?_)
    · exact HT5.out _ (HL.out.alloc _)
    clear hK K
    try simp only [Act.put, List.setIfInBounds_toArray, List.set_cons_zero, List.set_cons_succ]
    refine HG1.out _ _ _ _ ?_
    exact Q0_3_6_8_15_20.out x41 x44 x49 g6 W.heap.size g20 _ _ (hide (by rw [HA0.out]; simp only [Act.put, List.setIfInBounds_toArray, List.set_cons_zero, List.set_cons_succ])) (hide (HL.out.alloc _)) (hide (HT.out.later ((Later.refl W).alloc _))) (hide (ownsRow_later HRR.out ((Later.refl W).alloc _))) (hide (H6.out.later ((Later.refl W).alloc _))) (hide (Row.new W _ _)) (hide (H20.out.later ((Later.refl W).alloc _))) (hide HG20.out) (hide PTR.out) (hide PT6.out) (hide (apart_new (lt_of2 HT.out.lt))) (hide PT20.out) (hide (apart_new (lt_of2 (World.ownsRow.lt HRR.out)))) (hide PR20.out))
  have Q0_3_8_15_20 : Hid (∀ (x41 x44 x49 : Value) (g15 g20 : Nat) (W : World) (a : Act), Hid (a = (((((a0.put (some 41) (x41)).put (some 44) (x44)).put (some 49) (x49)).put (some 56) (.slice (some ⟨g15, 0, none⟩) 1 1)).put (some 7) (.pointer (some ⟨g20, 0, none⟩)))) → Hid (Later wq W) → Hid (OutTab (EM bv) W (fun b => b < wq.heap.size) wq.heap.size x44 A) → Hid (W.ownsRow wq.heap.size 37 4 x49 0 []) → Hid (Row W g15 37 [.bool sm, .slice Xm nx cx, .bool sm', .slice Xm' nx' cx']) → Hid (Row W g20 25 [.slice none 0 0, .slice none 0 0, .slice none 0 0]) → Hid (wq.heap.size ≤ g20) → Hid (Apart x44.ownBlock x49.ownBlock) → Hid (Apart x44.ownBlock (some g15)) → Hid (Apart x44.ownBlock (some g20)) → Hid (Apart x49.ownBlock (some g15)) → Hid (Apart x49.ownBlock (some g20)) → G 6 #[true, true, true, true, true, true, false, false, true, true, true, false, true, true, true, true, false, true, true, false, true, false] a W) := hide (by
    intro x41 x44 x49 g15 g20 W a HA HL HT HRR H15 H20 HG20 PTR PT15 PT20 PR15 PR20
    have hHeld := HT5.out W HL.out
    refine HG2.out _ _ _ _ ?_
    rw [HA.out, HA0.out]
    try simp only [Act.put, List.setIfInBounds_toArray, List.set_cons_zero, List.set_cons_succ]
    refine wpAnyN_ready (rs := [6]) (by kernel_rfl) (by simp) ?_
    refine AllReadyN.held rfl (by rfl) (fun K hK => ?_) AllReadyN.nil
    go_simp
    refine hK.out _ _ ?_ (fun hHeld => ?_)
    · exact HT5.out _ (HL.out.alloc _)
    clear hK K
    try simp only [Act.put, List.setIfInBounds_toArray, List.set_cons_zero, List.set_cons_succ]
    refine HG1.out _ _ _ _ ?_
    exact Q0_3_6_8_15_20.out x41 x44 x49 W.heap.size g15 g20 _ _ (hide (by rw [HA0.out]; simp only [Act.put, List.setIfInBounds_toArray, List.set_cons_zero, List.set_cons_succ])) (hide (HL.out.alloc _)) (hide (HT.out.later ((Later.refl W).alloc _))) (hide (ownsRow_later HRR.out ((Later.refl W).alloc _))) (hide (Row.new W _ _)) (hide (H15.out.later ((Later.refl W).alloc _))) (hide (H20.out.later ((Later.refl W).alloc _))) (hide HG20.out) (hide PTR.out) (hide (apart_new (lt_of2 HT.out.lt))) (hide PT15.out) (hide PT20.out) (hide PR15.out) (hide PR20.out))
  have Q0_6_8_15_20 : Hid (∀ (x41 x49 : Value) (g6 g15 g20 : Nat) (W : World) (a : Act), Hid (a = (((((a0.put (some 41) (x41)).put (some 49) (x49)).put (some 47) (.slice (some ⟨g6, 0, none⟩) 1 1)).put (some 56) (.slice (some ⟨g15, 0, none⟩) 1 1)).put (some 7) (.pointer (some ⟨g20, 0, none⟩)))) → Hid (Later wq W) → Hid (W.ownsRow wq.heap.size 23 1 x41 0 []) → Hid (W.ownsRow wq.heap.size 37 4 x49 0 []) → Hid (Row W g6 23 [.slice Am (n7 - 1) (c7 - 1)]) → Hid (Row W g15 37 [.bool sm, .slice Xm nx cx, .bool sm', .slice Xm' nx' cx']) → Hid (Row W g20 25 [.slice none 0 0, .slice none 0 0, .slice none 0 0]) → Hid (wq.heap.size ≤ g20) → Hid (Apart x41.ownBlock x49.ownBlock) → Hid (Apart x41.ownBlock (some g6)) → Hid (Apart x41.ownBlock (some g15)) → Hid (Apart x41.ownBlock (some g20)) → Hid (Apart x49.ownBlock (some g15)) → Hid (Apart x49.ownBlock (some g20)) → G 6 #[true, true, true, false, true, true, true, false, true, true, true, false, true, true, true, true, false, true, true, false, true, false] a W) := hide (by
    intro x41 x49 g6 g15 g20 W a HA HL HT HRR H6 H15 H20 HG20 PTR PT6 PT15 PT20 PR15 PR20
    have hHeld := HT5.out W HL.out
    refine HG2.out _ _ _ _ ?_
    rw [HA.out, HA0.out]
    try simp only [Act.put, List.setIfInBounds_toArray, List.set_cons_zero, List.set_cons_succ]
    refine wpAnyN_ready (rs := [3]) (by kernel_rfl) (by simp) ?_
    refine AllReadyN.held rfl (by rfl) (fun K hK => ?_) AllReadyN.nil
    refine wp_append_tab4 _ _ rfl (EM.agree bv) rfl HT.out rfl HTA.out HL.out HAP.out (by have := HLA.out; omega) ?_
    intro x44 W2 k1 k2 k3
    show K (Act.put _ (some 44) x44) W2
    change W.grownBy W2 x41.ownBlock at k2
    change x44.ownBlock = x41.ownBlock ∨ x44.ownBlock = some W.heap.size at k3
    refine hK.out _ _ ?_ (fun hHeld => ?_)
    · exact HT5.out _ (HL.out.grown k2 (base_le (World.ownsRow.lt HT.out)))
    clear hK K
    try simp only [Act.put, List.setIfInBounds_toArray, List.set_cons_zero, List.set_cons_succ]
    refine HG1.out _ _ _ _ ?_
    exact Q0_3_6_8_15_20.out x41 x44 x49 g6 g15 g20 _ _ (hide (by rw [HA0.out]; simp only [Act.put, List.setIfInBounds_toArray, List.set_cons_zero, List.set_cons_succ])) (hide (HL.out.grown k2 (base_le (World.ownsRow.lt HT.out)))) (hide k1) (hide (ownsRow_grown HRR.out k2 PTR.out.ne1)) (hide (H6.out.grown k2 (PT6.out.ne1 _ rfl))) (hide (H15.out.grown k2 (PT15.out.ne1 _ rfl))) (hide (H20.out.grown k2 (PT20.out.ne1 _ rfl))) (hide HG20.out) (hide (PTR.out.step k3 (lt_of2 (World.ownsRow.lt HRR.out)))) (hide (PT6.out.step k3 (lt_row H6.out))) (hide (PT15.out.step k3 (lt_row H15.out))) (hide (PT20.out.step k3 (lt_row H20.out))) (hide PR15.out) (hide PR20.out))
  have Q0_3_15_20 : Hid (∀ (x41 x44 : Value) (g15 g20 : Nat) (W : World) (a : Act), Hid (a = ((((a0.put (some 41) (x41)).put (some 44) (x44)).put (some 56) (.slice (some ⟨g15, 0, none⟩) 1 1)).put (some 7) (.pointer (some ⟨g20, 0, none⟩)))) → Hid (Later wq W) → Hid (OutTab (EM bv) W (fun b => b < wq.heap.size) wq.heap.size x44 A) → Hid (Row W g15 37 [.bool sm, .slice Xm nx cx, .bool sm', .slice Xm' nx' cx']) → Hid (Row W g20 25 [.slice none 0 0, .slice none 0 0, .slice none 0 0]) → Hid (wq.heap.size ≤ g20) → Hid (Apart x44.ownBlock (some g15)) → Hid (Apart x44.ownBlock (some g20)) → G 7 #[true, true, true, true, true, true, false, false, false, true, true, false, true, true, true, true, false, true, true, false, true, false] a W) := hide (by
    intro x41 x44 g15 g20 W a HA HL HT H15 H20 HG20 PT15 PT20
    have hHeld := HT5.out W HL.out
    refine HG2.out _ _ _ _ ?_
    rw [HA.out, HA0.out]
    try simp only [Act.put, List.setIfInBounds_toArray, List.set_cons_zero, List.set_cons_succ]
    refine wpAnyN_ready (rs := [6, 8]) (by kernel_rfl) (by simp) ?_
    refine AllReadyN.held rfl (by rfl) (fun K hK => ?_) ?_
    · go_simp
      refine hK.out _ _ ?_ (fun hHeld => ?_)
      · exact HT5.out _ (HL.out.alloc _)
      clear hK K
      try simp only [Act.put, List.setIfInBounds_toArray, List.set_cons_zero, List.set_cons_succ]
      refine HG1.out _ _ _ _ ?_
      exact Q0_3_6_15_20.out x41 x44 W.heap.size g15 g20 _ _ (hide (by rw [HA0.out]; simp only [Act.put, List.setIfInBounds_toArray, List.set_cons_zero, List.set_cons_succ])) (hide (HL.out.alloc _)) (hide (HT.out.later ((Later.refl W).alloc _))) (hide (Row.new W _ _)) (hide (H15.out.later ((Later.refl W).alloc _))) (hide (H20.out.later ((Later.refl W).alloc _))) (hide HG20.out) (hide (apart_new (lt_of2 HT.out.lt))) (hide PT15.out) (hide PT20.out)
    refine AllReadyN.held rfl (by rfl) (fun K hK => ?_) AllReadyN.nil
    go_simp
    refine hK.out _ _ ?_ (fun hHeld => ?_)
    · exact HT5.out _ (HL.out.alloc _)
    clear hK K
    try simp only [Act.put, List.setIfInBounds_toArray, List.set_cons_zero, List.set_cons_succ]
    refine HG1.out _ _ _ _ ?_
    exact Q0_3_8_15_20.out x41 x44 (.slice (some ⟨W.heap.size, 0, none⟩) 0 0) g15 g20 _ _ (hide (by rw [HA0.out]; simp only [Act.put, List.setIfInBounds_toArray, List.set_cons_zero, List.set_cons_succ])) (hide (HL.out.alloc _)) (hide (HT.out.later ((Later.refl W).alloc _))) (hide (own_at2 W _ _ rfl HL.out.size_le)) (hide (H15.out.later ((Later.refl W).alloc _))) (hide (H20.out.later ((Later.refl W).alloc _))) (hide HG20.out) (hide (apart_new (lt_of2 HT.out.lt))) (hide PT15.out) (hide PT20.out) (hide (apart_new (lt_row H15.out)).symm) (hide (apart_new (lt_row H20.out)).symm))
  have Q0_3_6_15 : Hid (∀ (x41 x44 : Value) (g6 g15 : Nat) (W : World) (a : Act), Hid (a = ((((a0.put (some 41) (x41)).put (some 44) (x44)).put (some 47) (.slice (some ⟨g6, 0, none⟩) 1 1)).put (some 56) (.slice (some ⟨g15, 0, none⟩) 1 1))) → Hid (Later wq W) → Hid (OutTab (EM bv) W (fun b => b < wq.heap.size) wq.heap.size x44 A) → Hid (Row W g6 23 [.slice Am (n7 - 1) (c7 - 1)]) → Hid (Row W g15 37 [.bool sm, .slice Xm nx cx, .bool sm', .slice Xm' nx' cx']) → Hid (Apart x44.ownBlock (some g6)) → Hid (Apart x44.ownBlock (some g15)) → G 7 #[true, true, true, true, true, true, true, false, false, true, true, false, true, true, true, true, false, true, true, false, false, false] a W) := hide (by
    intro x41 x44 g6 g15 W a HA HL HT H6 H15 PT6 PT15
    have hHeld := HT5.out W HL.out
    refine HG2.out _ _ _ _ ?_
    rw [HA.out, HA0.out]
    try simp only [Act.put, List.setIfInBounds_toArray, List.set_cons_zero, List.set_cons_succ]
    refine wpAnyN_ready (rs := [7, 8, 20]) (by kernel_rfl) (by simp) ?_
    refine AllReadyN.held rfl (by rfl) (fun K hK => ?_) ?_
    · refine wp_append_row3 _ _ rfl rfl HT.out rfl H6.out (((On.base fun W2 h2 => rats_agreeE (EM.agree bv) HTT.out h2).later HL.out).mono fun b hb _ => ⟨hb, base_ne HT.out.lt b hb⟩) (by have := HLA.out; omega) HL.out.size_le ?_
      intro x48 W2 k1 k2 k3
      show K (Act.put _ (some 48) x48) W2
      change W.grownBy W2 x44.ownBlock at k2
      change x48.ownBlock = x44.ownBlock ∨ x48.ownBlock = some W.heap.size at k3
      refine hK.out _ _ ?_ (fun hHeld => ?_)
      · exact HT5.out _ (HL.out.grown k2 (base_le HT.out.lt))
      clear hK K
      try simp only [Act.put, List.setIfInBounds_toArray, List.set_cons_zero, List.set_cons_succ]
      refine HG1.out _ _ _ _ ?_
      exact Q0_3_6_7_15.out x41 x44 x48 g6 g15 _ _ (hide (by rw [HA0.out]; simp only [Act.put, List.setIfInBounds_toArray, List.set_cons_zero, List.set_cons_succ])) (hide (HL.out.grown k2 (base_le HT.out.lt))) (hide k1) (hide (H15.out.grown k2 (PT15.out.ne1 _ rfl)))
    refine AllReadyN.held rfl (by rfl) (fun K hK => ?_) ?_
    · go_simp
      refine hK.out _ _ ?_ (fun hHeld => ?_)
      · exact HT5.out _ (HL.out.alloc _)
      clear hK K
      try simp only [Act.put, List.setIfInBounds_toArray, List.set_cons_zero, List.set_cons_succ]
      refine HG1.out _ _ _ _ ?_
      exact Q0_3_6_8_15.out x41 x44 (.slice (some ⟨W.heap.size, 0, none⟩) 0 0) g6 g15 _ _ (hide (by rw [HA0.out]; simp only [Act.put, List.setIfInBounds_toArray, List.set_cons_zero, List.set_cons_succ])) (hide (HL.out.alloc _)) (hide (HT.out.later ((Later.refl W).alloc _))) (hide (own_at2 W _ _ rfl HL.out.size_le)) (hide (H6.out.later ((Later.refl W).alloc _))) (hide (H15.out.later ((Later.refl W).alloc _))) (hide (apart_new (lt_of2 HT.out.lt))) (hide PT6.out) (hide PT15.out) (hide (apart_new (lt_row H15.out)).symm)
    refine AllReadyN.held rfl (by rfl) (fun K hK => ?_) AllReadyN.nil
    go_simp
    refine hK.out _ _ ?_ (fun hHeld => ?_)
    · exact HT5.out _ (HL.out.alloc _)
    clear hK K
    try simp only [Act.put, List.setIfInBounds_toArray, List.set_cons_zero, List.set_cons_succ]
    refine HG1.out _ _ _ _ ?_
    exact Q0_3_6_15_20.out x41 x44 g6 g15 W.heap.size _ _ (hide (by rw [HA0.out]; simp only [Act.put, List.setIfInBounds_toArray, List.set_cons_zero, List.set_cons_succ])) (hide (HL.out.alloc _)) (hide (HT.out.later ((Later.refl W).alloc _))) (hide (H6.out.later ((Later.refl W).alloc _))) (hide (H15.out.later ((Later.refl W).alloc _))) (hide (Row.new W _ _)) (hide HL.out.size_le) (hide PT6.out) (hide PT15.out) (hide (apart_new (lt_of2 HT.out.lt))))
  have Q0_3_6_20 : Hid (∀ (x41 x44 : Value) (g6 g20 : Nat) (W : World) (a : Act), Hid (a = ((((a0.put (some 41) (x41)).put (some 44) (x44)).put (some 47) (.slice (some ⟨g6, 0, none⟩) 1 1)).put (some 7) (.pointer (some ⟨g20, 0, none⟩)))) → Hid (Later wq W) → Hid (OutTab (EM bv) W (fun b => b < wq.heap.size) wq.heap.size x44 A) → Hid (Row W g6 23 [.slice Am (n7 - 1) (c7 - 1)]) → Hid (Row W g20 25 [.slice none 0 0, .slice none 0 0, .slice none 0 0]) → Hid (wq.heap.size ≤ g20) → Hid (Apart x44.ownBlock (some g6)) → Hid (Apart x44.ownBlock (some g20)) → G 7 #[true, true, true, true, true, true, true, false, false, true, true, false, true, true, true, false, false, true, true, false, true, false] a W) := hide (by
    intro x41 x44 g6 g20 W a HA HL HT H6 H20 HG20 PT6 PT20
    have hHeld := HT5.out W HL.out
    refine HG2.out _ _ _ _ ?_
    rw [HA.out, HA0.out]
    try simp only [Act.put, List.setIfInBounds_toArray, List.set_cons_zero, List.set_cons_succ]
    refine wpAnyN_ready (rs := [7, 8, 15]) (by kernel_rfl) (by simp) ?_
    refine AllReadyN.held rfl (by rfl) (fun K hK => ?_) ?_
    · refine wp_append_row3 _ _ rfl rfl HT.out rfl H6.out (((On.base fun W2 h2 => rats_agreeE (EM.agree bv) HTT.out h2).later HL.out).mono fun b hb _ => ⟨hb, base_ne HT.out.lt b hb⟩) (by have := HLA.out; omega) HL.out.size_le ?_
      intro x48 W2 k1 k2 k3
      show K (Act.put _ (some 48) x48) W2
      change W.grownBy W2 x44.ownBlock at k2
      change x48.ownBlock = x44.ownBlock ∨ x48.ownBlock = some W.heap.size at k3
      refine hK.out _ _ ?_ (fun hHeld => ?_)
      · exact HT5.out _ (HL.out.grown k2 (base_le HT.out.lt))
      clear hK K
      try simp only [Act.put, List.setIfInBounds_toArray, List.set_cons_zero, List.set_cons_succ]
      refine HG1.out _ _ _ _ ?_
      exact Q0_3_6_7_20.out x41 x44 x48 g6 g20 _ _ (hide (by rw [HA0.out]; simp only [Act.put, List.setIfInBounds_toArray, List.set_cons_zero, List.set_cons_succ])) (hide (HL.out.grown k2 (base_le HT.out.lt))) (hide k1) (hide (H20.out.grown k2 (PT20.out.ne1 _ rfl))) (hide HG20.out) (hide (PT20.out.step k3 (lt_row H20.out)))
    refine AllReadyN.held rfl (by rfl) (fun K hK => ?_) ?_
    · go_simp
      refine hK.out _ _ ?_ (fun hHeld => ?_)
      · exact HT5.out _ (HL.out.alloc _)
      clear hK K
      try simp only [Act.put, List.setIfInBounds_toArray, List.set_cons_zero, List.set_cons_succ]
      refine HG1.out _ _ _ _ ?_
      exact Q0_3_6_8_20.out x41 x44 (.slice (some ⟨W.heap.size, 0, none⟩) 0 0) g6 g20 _ _ (hide (by rw [HA0.out]; simp only [Act.put, List.setIfInBounds_toArray, List.set_cons_zero, List.set_cons_succ])) (hide (HL.out.alloc _)) (hide (HT.out.later ((Later.refl W).alloc _))) (hide (own_at2 W _ _ rfl HL.out.size_le)) (hide (H6.out.later ((Later.refl W).alloc _))) (hide (H20.out.later ((Later.refl W).alloc _))) (hide HG20.out) (hide (apart_new (lt_of2 HT.out.lt))) (hide PT6.out) (hide PT20.out) (hide (apart_new (lt_row H20.out)).symm)
    refine AllReadyN.held rfl (by rfl) (fun K hK => ?_) AllReadyN.nil
    go_simp
    refine hK.out _ _ ?_ (fun hHeld => ?_)
    · exact HT5.out _ (HL.out.alloc _)
    clear hK K
    try simp only [Act.put, List.setIfInBounds_toArray, List.set_cons_zero, List.set_cons_succ]
    refine HG1.out _ _ _ _ ?_
    exact Q0_3_6_15_20.out x41 x44 g6 W.heap.size g20 _ _ (hide (by rw [HA0.out]; simp only [Act.put, List.setIfInBounds_toArray, List.set_cons_zero, List.set_cons_succ])) (hide (HL.out.alloc _)) (hide (HT.out.later ((Later.refl W).alloc _))) (hide (H6.out.later ((Later.refl W).alloc _))) (hide (Row.new W _ _)) (hide (H20.out.later ((Later.refl W).alloc _))) (hide HG20.out) (hide PT6.out) (hide (apart_new (lt_of2 HT.out.lt))) (hide PT20.out))
  have Q0_3_6_7 : Hid (∀ (x41 x44 x48 : Value) (g6 : Nat) (W : World) (a : Act), Hid (a = ((((a0.put (some 41) (x41)).put (some 44) (x44)).put (some 48) (x48)).put (some 47) (.slice (some ⟨g6, 0, none⟩) 1 1))) → Hid (Later wq W) → Hid (OutTab (EM bv) W (fun b => b < wq.heap.size) wq.heap.size x48 (A ++ [mt])) → G 7 #[true, true, true, true, true, true, true, true, false, true, true, false, true, true, true, false, false, true, true, false, false, false] a W) := hide (by
    intro x41 x44 x48 g6 W a HA HL HT
    have hHeld := HT5.out W HL.out
    refine HG2.out _ _ _ _ ?_
    rw [HA.out, HA0.out]
    try simp only [Act.put, List.setIfInBounds_toArray, List.set_cons_zero, List.set_cons_succ]
    refine wpAnyN_ready (rs := [8, 15, 20]) (by kernel_rfl) (by simp) ?_
    refine AllReadyN.held rfl (by rfl) (fun K hK => ?_) ?_
    · go_simp
      refine hK.out _ _ ?_ (fun hHeld => ?_)
      · exact HT5.out _ (HL.out.alloc _)
      clear hK K
      try simp only [Act.put, List.setIfInBounds_toArray, List.set_cons_zero, List.set_cons_succ]
      refine HG1.out _ _ _ _ ?_
      exact Q0_3_6_7_8.out x41 x44 x48 (.slice (some ⟨W.heap.size, 0, none⟩) 0 0) g6 _ _ (hide (by rw [HA0.out]; simp only [Act.put, List.setIfInBounds_toArray, List.set_cons_zero, List.set_cons_succ])) (hide (HL.out.alloc _)) (hide (HT.out.later ((Later.refl W).alloc _))) (hide (own_at2 W _ _ rfl HL.out.size_le)) (hide (apart_new (lt_of2 HT.out.lt)))
    refine AllReadyN.held rfl (by rfl) (fun K hK => ?_) ?_
    · go_simp
      refine hK.out _ _ ?_ (fun hHeld => ?_)
      · exact HT5.out _ (HL.out.alloc _)
      clear hK K
      try simp only [Act.put, List.setIfInBounds_toArray, List.set_cons_zero, List.set_cons_succ]
      refine HG1.out _ _ _ _ ?_
      exact Q0_3_6_7_15.out x41 x44 x48 g6 W.heap.size _ _ (hide (by rw [HA0.out]; simp only [Act.put, List.setIfInBounds_toArray, List.set_cons_zero, List.set_cons_succ])) (hide (HL.out.alloc _)) (hide (HT.out.later ((Later.refl W).alloc _))) (hide (Row.new W _ _))
    refine AllReadyN.held rfl (by rfl) (fun K hK => ?_) AllReadyN.nil
    go_simp
    refine hK.out _ _ ?_ (fun hHeld => ?_)
    · exact HT5.out _ (HL.out.alloc _)
    clear hK K
    try simp only [Act.put, List.setIfInBounds_toArray, List.set_cons_zero, List.set_cons_succ]
    refine HG1.out _ _ _ _ ?_
    exact Q0_3_6_7_20.out x41 x44 x48 g6 W.heap.size _ _ (hide (by rw [HA0.out]; simp only [Act.put, List.setIfInBounds_toArray, List.set_cons_zero, List.set_cons_succ])) (hide (HL.out.alloc _)) (hide (HT.out.later ((Later.refl W).alloc _))) (hide (Row.new W _ _)) (hide HL.out.size_le) (hide (apart_new (lt_of2 HT.out.lt))))
  have Q0_3_6_8 : Hid (∀ (x41 x44 x49 : Value) (g6 : Nat) (W : World) (a : Act), Hid (a = ((((a0.put (some 41) (x41)).put (some 44) (x44)).put (some 49) (x49)).put (some 47) (.slice (some ⟨g6, 0, none⟩) 1 1))) → Hid (Later wq W) → Hid (OutTab (EM bv) W (fun b => b < wq.heap.size) wq.heap.size x44 A) → Hid (W.ownsRow wq.heap.size 37 4 x49 0 []) → Hid (Row W g6 23 [.slice Am (n7 - 1) (c7 - 1)]) → Hid (Apart x44.ownBlock x49.ownBlock) → Hid (Apart x44.ownBlock (some g6)) → G 7 #[true, true, true, true, true, true, true, false, true, true, true, false, true, true, true, false, false, true, true, false, false, false] a W) := hide (by
    intro x41 x44 x49 g6 W a HA HL HT HRR H6 PTR PT6
    have hHeld := HT5.out W HL.out
    refine HG2.out _ _ _ _ ?_
    rw [HA.out, HA0.out]
    try simp only [Act.put, List.setIfInBounds_toArray, List.set_cons_zero, List.set_cons_succ]
    refine wpAnyN_ready (rs := [7, 15, 20]) (by kernel_rfl) (by simp) ?_
    refine AllReadyN.held rfl (by rfl) (fun K hK => ?_) ?_
    · refine wp_append_row3 _ _ rfl rfl HT.out rfl H6.out (((On.base fun W2 h2 => rats_agreeE (EM.agree bv) HTT.out h2).later HL.out).mono fun b hb _ => ⟨hb, base_ne HT.out.lt b hb⟩) (by have := HLA.out; omega) HL.out.size_le ?_
      intro x48 W2 k1 k2 k3
      show K (Act.put _ (some 48) x48) W2
      change W.grownBy W2 x44.ownBlock at k2
      change x48.ownBlock = x44.ownBlock ∨ x48.ownBlock = some W.heap.size at k3
      refine hK.out _ _ ?_ (fun hHeld => ?_)
      · exact HT5.out _ (HL.out.grown k2 (base_le HT.out.lt))
      clear hK K
      try simp only [Act.put, List.setIfInBounds_toArray, List.set_cons_zero, List.set_cons_succ]
      refine HG1.out _ _ _ _ ?_
      exact Q0_3_6_7_8.out x41 x44 x48 x49 g6 _ _ (hide (by rw [HA0.out]; simp only [Act.put, List.setIfInBounds_toArray, List.set_cons_zero, List.set_cons_succ])) (hide (HL.out.grown k2 (base_le HT.out.lt))) (hide k1) (hide (ownsRow_grown HRR.out k2 PTR.out.ne1)) (hide (PTR.out.step k3 (lt_of2 (World.ownsRow.lt HRR.out))))
    refine AllReadyN.held rfl (by rfl) (fun K hK => ?_) ?_
    · go_simp
      refine hK.out _ _ ?_ (fun hHeld => ?_)
      · exact HT5.out _ (HL.out.alloc _)
      clear hK K
      try simp only [Act.put, List.setIfInBounds_toArray, List.set_cons_zero, List.set_cons_succ]
      refine HG1.out _ _ _ _ ?_
      exact Q0_3_6_8_15.out x41 x44 x49 g6 W.heap.size _ _ (hide (by rw [HA0.out]; simp only [Act.put, List.setIfInBounds_toArray, List.set_cons_zero, List.set_cons_succ])) (hide (HL.out.alloc _)) (hide (HT.out.later ((Later.refl W).alloc _))) (hide (ownsRow_later HRR.out ((Later.refl W).alloc _))) (hide (H6.out.later ((Later.refl W).alloc _))) (hide (Row.new W _ _)) (hide PTR.out) (hide PT6.out) (hide (apart_new (lt_of2 HT.out.lt))) (hide (apart_new (lt_of2 (World.ownsRow.lt HRR.out))))
    refine AllReadyN.held rfl (by rfl) (fun K hK => ?_) AllReadyN.nil
    go_simp
    refine hK.out _ _ ?_ (fun hHeld => ?_)
    · exact HT5.out _ (HL.out.alloc _)
    clear hK K
    try simp only [Act.put, List.setIfInBounds_toArray, List.set_cons_zero, List.set_cons_succ]
    refine HG1.out _ _ _ _ ?_
    exact Q0_3_6_8_20.out x41 x44 x49 g6 W.heap.size _ _ (hide (by rw [HA0.out]; simp only [Act.put, List.setIfInBounds_toArray, List.set_cons_zero, List.set_cons_succ])) (hide (HL.out.alloc _)) (hide (HT.out.later ((Later.refl W).alloc _))) (hide (ownsRow_later HRR.out ((Later.refl W).alloc _))) (hide (H6.out.later ((Later.refl W).alloc _))) (hide (Row.new W _ _)) (hide HL.out.size_le) (hide PTR.out) (hide PT6.out) (hide (apart_new (lt_of2 HT.out.lt))) (hide (apart_new (lt_of2 (World.ownsRow.lt HRR.out)))))
  have Q0_3_8_15 : Hid (∀ (x41 x44 x49 : Value) (g15 : Nat) (W : World) (a : Act), Hid (a = ((((a0.put (some 41) (x41)).put (some 44) (x44)).put (some 49) (x49)).put (some 56) (.slice (some ⟨g15, 0, none⟩) 1 1))) → Hid (Later wq W) → Hid (OutTab (EM bv) W (fun b => b < wq.heap.size) wq.heap.size x44 A) → Hid (W.ownsRow wq.heap.size 37 4 x49 0 []) → Hid (Row W g15 37 [.bool sm, .slice Xm nx cx, .bool sm', .slice Xm' nx' cx']) → Hid (Apart x44.ownBlock x49.ownBlock) → Hid (Apart x44.ownBlock (some g15)) → Hid (Apart x49.ownBlock (some g15)) → G 7 #[true, true, true, true, true, true, false, false, true, true, true, false, true, true, true, true, false, true, true, false, false, false] a W) := hide (by
    intro x41 x44 x49 g15 W a HA HL HT HRR H15 PTR PT15 PR15
    have hHeld := HT5.out W HL.out
    refine HG2.out _ _ _ _ ?_
    rw [HA.out, HA0.out]
    try simp only [Act.put, List.setIfInBounds_toArray, List.set_cons_zero, List.set_cons_succ]
    refine wpAnyN_ready (rs := [6, 20]) (by kernel_rfl) (by simp) ?_
    refine AllReadyN.held rfl (by rfl) (fun K hK => ?_) ?_
    · go_simp
      refine hK.out _ _ ?_ (fun hHeld => ?_)
      · exact HT5.out _ (HL.out.alloc _)
      clear hK K
      try simp only [Act.put, List.setIfInBounds_toArray, List.set_cons_zero, List.set_cons_succ]
      refine HG1.out _ _ _ _ ?_
      exact Q0_3_6_8_15.out x41 x44 x49 W.heap.size g15 _ _ (hide (by rw [HA0.out]; simp only [Act.put, List.setIfInBounds_toArray, List.set_cons_zero, List.set_cons_succ])) (hide (HL.out.alloc _)) (hide (HT.out.later ((Later.refl W).alloc _))) (hide (ownsRow_later HRR.out ((Later.refl W).alloc _))) (hide (Row.new W _ _)) (hide (H15.out.later ((Later.refl W).alloc _))) (hide PTR.out) (hide (apart_new (lt_of2 HT.out.lt))) (hide PT15.out) (hide PR15.out)
    refine AllReadyN.held rfl (by rfl) (fun K hK => ?_) AllReadyN.nil
    go_simp
    refine hK.out _ _ ?_ (fun hHeld => ?_)
    · exact HT5.out _ (HL.out.alloc _)
    clear hK K
    try simp only [Act.put, List.setIfInBounds_toArray, List.set_cons_zero, List.set_cons_succ]
    refine HG1.out _ _ _ _ ?_
    exact Q0_3_8_15_20.out x41 x44 x49 g15 W.heap.size _ _ (hide (by rw [HA0.out]; simp only [Act.put, List.setIfInBounds_toArray, List.set_cons_zero, List.set_cons_succ])) (hide (HL.out.alloc _)) (hide (HT.out.later ((Later.refl W).alloc _))) (hide (ownsRow_later HRR.out ((Later.refl W).alloc _))) (hide (H15.out.later ((Later.refl W).alloc _))) (hide (Row.new W _ _)) (hide HL.out.size_le) (hide PTR.out) (hide PT15.out) (hide (apart_new (lt_of2 HT.out.lt))) (hide PR15.out) (hide (apart_new (lt_of2 (World.ownsRow.lt HRR.out)))))
  have Q0_3_8_20 : Hid (∀ (x41 x44 x49 : Value) (g20 : Nat) (W : World) (a : Act), Hid (a = ((((a0.put (some 41) (x41)).put (some 44) (x44)).put (some 49) (x49)).put (some 7) (.pointer (some ⟨g20, 0, none⟩)))) → Hid (Later wq W) → Hid (OutTab (EM bv) W (fun b => b < wq.heap.size) wq.heap.size x44 A) → Hid (W.ownsRow wq.heap.size 37 4 x49 0 []) → Hid (Row W g20 25 [.slice none 0 0, .slice none 0 0, .slice none 0 0]) → Hid (wq.heap.size ≤ g20) → Hid (Apart x44.ownBlock x49.ownBlock) → Hid (Apart x44.ownBlock (some g20)) → Hid (Apart x49.ownBlock (some g20)) → G 7 #[true, true, true, true, true, true, false, false, true, true, true, false, true, true, true, false, false, true, true, false, true, false] a W) := hide (by
    intro x41 x44 x49 g20 W a HA HL HT HRR H20 HG20 PTR PT20 PR20
    have hHeld := HT5.out W HL.out
    refine HG2.out _ _ _ _ ?_
    rw [HA.out, HA0.out]
    try simp only [Act.put, List.setIfInBounds_toArray, List.set_cons_zero, List.set_cons_succ]
    refine wpAnyN_ready (rs := [6, 15]) (by kernel_rfl) (by simp) ?_
    refine AllReadyN.held rfl (by rfl) (fun K hK => ?_) ?_
    · go_simp
      refine hK.out _ _ ?_ (fun hHeld => ?_)
      · exact HT5.out _ (HL.out.alloc _)
      clear hK K
      try simp only [Act.put, List.setIfInBounds_toArray, List.set_cons_zero, List.set_cons_succ]
      refine HG1.out _ _ _ _ ?_
      exact Q0_3_6_8_20.out x41 x44 x49 W.heap.size g20 _ _ (hide (by rw [HA0.out]; simp only [Act.put, List.setIfInBounds_toArray, List.set_cons_zero, List.set_cons_succ])) (hide (HL.out.alloc _)) (hide (HT.out.later ((Later.refl W).alloc _))) (hide (ownsRow_later HRR.out ((Later.refl W).alloc _))) (hide (Row.new W _ _)) (hide (H20.out.later ((Later.refl W).alloc _))) (hide HG20.out) (hide PTR.out) (hide (apart_new (lt_of2 HT.out.lt))) (hide PT20.out) (hide PR20.out)
    refine AllReadyN.held rfl (by rfl) (fun K hK => ?_) AllReadyN.nil
    go_simp
    refine hK.out _ _ ?_ (fun hHeld => ?_)
    · exact HT5.out _ (HL.out.alloc _)
    clear hK K
    try simp only [Act.put, List.setIfInBounds_toArray, List.set_cons_zero, List.set_cons_succ]
    refine HG1.out _ _ _ _ ?_
    exact Q0_3_8_15_20.out x41 x44 x49 W.heap.size g20 _ _ (hide (by rw [HA0.out]; simp only [Act.put, List.setIfInBounds_toArray, List.set_cons_zero, List.set_cons_succ])) (hide (HL.out.alloc _)) (hide (HT.out.later ((Later.refl W).alloc _))) (hide (ownsRow_later HRR.out ((Later.refl W).alloc _))) (hide (Row.new W _ _)) (hide (H20.out.later ((Later.refl W).alloc _))) (hide HG20.out) (hide PTR.out) (hide (apart_new (lt_of2 HT.out.lt))) (hide PT20.out) (hide (apart_new (lt_of2 (World.ownsRow.lt HRR.out)))) (hide PR20.out))
  have Q0_6_15_20 : Hid (∀ (x41 : Value) (g6 g15 g20 : Nat) (W : World) (a : Act), Hid (a = ((((a0.put (some 41) (x41)).put (some 47) (.slice (some ⟨g6, 0, none⟩) 1 1)).put (some 56) (.slice (some ⟨g15, 0, none⟩) 1 1)).put (some 7) (.pointer (some ⟨g20, 0, none⟩)))) → Hid (Later wq W) → Hid (W.ownsRow wq.heap.size 23 1 x41 0 []) → Hid (Row W g6 23 [.slice Am (n7 - 1) (c7 - 1)]) → Hid (Row W g15 37 [.bool sm, .slice Xm nx cx, .bool sm', .slice Xm' nx' cx']) → Hid (Row W g20 25 [.slice none 0 0, .slice none 0 0, .slice none 0 0]) → Hid (wq.heap.size ≤ g20) → Hid (Apart x41.ownBlock (some g6)) → Hid (Apart x41.ownBlock (some g15)) → Hid (Apart x41.ownBlock (some g20)) → G 7 #[true, true, true, false, true, true, true, false, false, true, true, false, true, true, true, true, false, true, true, false, true, false] a W) := hide (by
    intro x41 g6 g15 g20 W a HA HL HT H6 H15 H20 HG20 PT6 PT15 PT20
    have hHeld := HT5.out W HL.out
    refine HG2.out _ _ _ _ ?_
    rw [HA.out, HA0.out]
    try simp only [Act.put, List.setIfInBounds_toArray, List.set_cons_zero, List.set_cons_succ]
    refine wpAnyN_ready (rs := [3, 8]) (by kernel_rfl) (by simp) ?_
    refine AllReadyN.held rfl (by rfl) (fun K hK => ?_) ?_
    · refine wp_append_tab4 _ _ rfl (EM.agree bv) rfl HT.out rfl HTA.out HL.out HAP.out (by have := HLA.out; omega) ?_
      intro x44 W2 k1 k2 k3
      show K (Act.put _ (some 44) x44) W2
      change W.grownBy W2 x41.ownBlock at k2
      change x44.ownBlock = x41.ownBlock ∨ x44.ownBlock = some W.heap.size at k3
      refine hK.out _ _ ?_ (fun hHeld => ?_)
      · exact HT5.out _ (HL.out.grown k2 (base_le (World.ownsRow.lt HT.out)))
      clear hK K
      try simp only [Act.put, List.setIfInBounds_toArray, List.set_cons_zero, List.set_cons_succ]
      refine HG1.out _ _ _ _ ?_
      exact Q0_3_6_15_20.out x41 x44 g6 g15 g20 _ _ (hide (by rw [HA0.out]; simp only [Act.put, List.setIfInBounds_toArray, List.set_cons_zero, List.set_cons_succ])) (hide (HL.out.grown k2 (base_le (World.ownsRow.lt HT.out)))) (hide k1) (hide (H6.out.grown k2 (PT6.out.ne1 _ rfl))) (hide (H15.out.grown k2 (PT15.out.ne1 _ rfl))) (hide (H20.out.grown k2 (PT20.out.ne1 _ rfl))) (hide HG20.out) (hide (PT6.out.step k3 (lt_row H6.out))) (hide (PT15.out.step k3 (lt_row H15.out))) (hide (PT20.out.step k3 (lt_row H20.out)))
    refine AllReadyN.held rfl (by rfl) (fun K hK => ?_) AllReadyN.nil
    go_simp
    refine hK.out _ _ ?_ (fun hHeld => ?_)
    · exact HT5.out _ (HL.out.alloc _)
    clear hK K
    try simp only [Act.put, List.setIfInBounds_toArray, List.set_cons_zero, List.set_cons_succ]
    refine HG1.out _ _ _ _ ?_
    exact Q0_6_8_15_20.out x41 (.slice (some ⟨W.heap.size, 0, none⟩) 0 0) g6 g15 g20 _ _ (hide (by rw [HA0.out]; simp only [Act.put, List.setIfInBounds_toArray, List.set_cons_zero, List.set_cons_succ])) (hide (HL.out.alloc _)) (hide (ownsRow_later HT.out ((Later.refl W).alloc _))) (hide (own_at2 W _ _ rfl HL.out.size_le)) (hide (H6.out.later ((Later.refl W).alloc _))) (hide (H15.out.later ((Later.refl W).alloc _))) (hide (H20.out.later ((Later.refl W).alloc _))) (hide HG20.out) (hide (apart_new (lt_of2 (World.ownsRow.lt HT.out)))) (hide PT6.out) (hide PT15.out) (hide PT20.out) (hide (apart_new (lt_row H15.out)).symm) (hide (apart_new (lt_row H20.out)).symm))
  have Q0_6_8_15 : Hid (∀ (x41 x49 : Value) (g6 g15 : Nat) (W : World) (a : Act), Hid (a = ((((a0.put (some 41) (x41)).put (some 49) (x49)).put (some 47) (.slice (some ⟨g6, 0, none⟩) 1 1)).put (some 56) (.slice (some ⟨g15, 0, none⟩) 1 1))) → Hid (Later wq W) → Hid (W.ownsRow wq.heap.size 23 1 x41 0 []) → Hid (W.ownsRow wq.heap.size 37 4 x49 0 []) → Hid (Row W g6 23 [.slice Am (n7 - 1) (c7 - 1)]) → Hid (Row W g15 37 [.bool sm, .slice Xm nx cx, .bool sm', .slice Xm' nx' cx']) → Hid (Apart x41.ownBlock x49.ownBlock) → Hid (Apart x41.ownBlock (some g6)) → Hid (Apart x41.ownBlock (some g15)) → Hid (Apart x49.ownBlock (some g15)) → G 7 #[true, true, true, false, true, true, true, false, true, true, true, false, true, true, true, true, false, true, true, false, false, false] a W) := hide (by
    intro x41 x49 g6 g15 W a HA HL HT HRR H6 H15 PTR PT6 PT15 PR15
    have hHeld := HT5.out W HL.out
    refine HG2.out _ _ _ _ ?_
    rw [HA.out, HA0.out]
    try simp only [Act.put, List.setIfInBounds_toArray, List.set_cons_zero, List.set_cons_succ]
    refine wpAnyN_ready (rs := [3, 20]) (by kernel_rfl) (by simp) ?_
    refine AllReadyN.held rfl (by rfl) (fun K hK => ?_) ?_
    · refine wp_append_tab4 _ _ rfl (EM.agree bv) rfl HT.out rfl HTA.out HL.out HAP.out (by have := HLA.out; omega) ?_
      intro x44 W2 k1 k2 k3
      show K (Act.put _ (some 44) x44) W2
      change W.grownBy W2 x41.ownBlock at k2
      change x44.ownBlock = x41.ownBlock ∨ x44.ownBlock = some W.heap.size at k3
      refine hK.out _ _ ?_ (fun hHeld => ?_)
      · exact HT5.out _ (HL.out.grown k2 (base_le (World.ownsRow.lt HT.out)))
      clear hK K
      try simp only [Act.put, List.setIfInBounds_toArray, List.set_cons_zero, List.set_cons_succ]
      refine HG1.out _ _ _ _ ?_
      exact Q0_3_6_8_15.out x41 x44 x49 g6 g15 _ _ (hide (by rw [HA0.out]; simp only [Act.put, List.setIfInBounds_toArray, List.set_cons_zero, List.set_cons_succ])) (hide (HL.out.grown k2 (base_le (World.ownsRow.lt HT.out)))) (hide k1) (hide (ownsRow_grown HRR.out k2 PTR.out.ne1)) (hide (H6.out.grown k2 (PT6.out.ne1 _ rfl))) (hide (H15.out.grown k2 (PT15.out.ne1 _ rfl))) (hide (PTR.out.step k3 (lt_of2 (World.ownsRow.lt HRR.out)))) (hide (PT6.out.step k3 (lt_row H6.out))) (hide (PT15.out.step k3 (lt_row H15.out))) (hide PR15.out)
    refine AllReadyN.held rfl (by rfl) (fun K hK => ?_) AllReadyN.nil
    go_simp
    refine hK.out _ _ ?_ (fun hHeld => ?_)
    · exact HT5.out _ (HL.out.alloc _)
    clear hK K
    try simp only [Act.put, List.setIfInBounds_toArray, List.set_cons_zero, List.set_cons_succ]
    refine HG1.out _ _ _ _ ?_
    exact Q0_6_8_15_20.out x41 x49 g6 g15 W.heap.size _ _ (hide (by rw [HA0.out]; simp only [Act.put, List.setIfInBounds_toArray, List.set_cons_zero, List.set_cons_succ])) (hide (HL.out.alloc _)) (hide (ownsRow_later HT.out ((Later.refl W).alloc _))) (hide (ownsRow_later HRR.out ((Later.refl W).alloc _))) (hide (H6.out.later ((Later.refl W).alloc _))) (hide (H15.out.later ((Later.refl W).alloc _))) (hide (Row.new W _ _)) (hide HL.out.size_le) (hide PTR.out) (hide PT6.out) (hide PT15.out) (hide (apart_new (lt_of2 (World.ownsRow.lt HT.out)))) (hide PR15.out) (hide (apart_new (lt_of2 (World.ownsRow.lt HRR.out)))))
  have Q0_6_8_20 : Hid (∀ (x41 x49 : Value) (g6 g20 : Nat) (W : World) (a : Act), Hid (a = ((((a0.put (some 41) (x41)).put (some 49) (x49)).put (some 47) (.slice (some ⟨g6, 0, none⟩) 1 1)).put (some 7) (.pointer (some ⟨g20, 0, none⟩)))) → Hid (Later wq W) → Hid (W.ownsRow wq.heap.size 23 1 x41 0 []) → Hid (W.ownsRow wq.heap.size 37 4 x49 0 []) → Hid (Row W g6 23 [.slice Am (n7 - 1) (c7 - 1)]) → Hid (Row W g20 25 [.slice none 0 0, .slice none 0 0, .slice none 0 0]) → Hid (wq.heap.size ≤ g20) → Hid (Apart x41.ownBlock x49.ownBlock) → Hid (Apart x41.ownBlock (some g6)) → Hid (Apart x41.ownBlock (some g20)) → Hid (Apart x49.ownBlock (some g20)) → G 7 #[true, true, true, false, true, true, true, false, true, true, true, false, true, true, true, false, false, true, true, false, true, false] a W) := hide (by
    intro x41 x49 g6 g20 W a HA HL HT HRR H6 H20 HG20 PTR PT6 PT20 PR20
    have hHeld := HT5.out W HL.out
    refine HG2.out _ _ _ _ ?_
    rw [HA.out, HA0.out]
    try simp only [Act.put, List.setIfInBounds_toArray, List.set_cons_zero, List.set_cons_succ]
    refine wpAnyN_ready (rs := [3, 15]) (by kernel_rfl) (by simp) ?_
    refine AllReadyN.held rfl (by rfl) (fun K hK => ?_) ?_
    · refine wp_append_tab4 _ _ rfl (EM.agree bv) rfl HT.out rfl HTA.out HL.out HAP.out (by have := HLA.out; omega) ?_
      intro x44 W2 k1 k2 k3
      show K (Act.put _ (some 44) x44) W2
      change W.grownBy W2 x41.ownBlock at k2
      change x44.ownBlock = x41.ownBlock ∨ x44.ownBlock = some W.heap.size at k3
      refine hK.out _ _ ?_ (fun hHeld => ?_)
      · exact HT5.out _ (HL.out.grown k2 (base_le (World.ownsRow.lt HT.out)))
      clear hK K
      try simp only [Act.put, List.setIfInBounds_toArray, List.set_cons_zero, List.set_cons_succ]
      refine HG1.out _ _ _ _ ?_
      exact Q0_3_6_8_20.out x41 x44 x49 g6 g20 _ _ (hide (by rw [HA0.out]; simp only [Act.put, List.setIfInBounds_toArray, List.set_cons_zero, List.set_cons_succ])) (hide (HL.out.grown k2 (base_le (World.ownsRow.lt HT.out)))) (hide k1) (hide (ownsRow_grown HRR.out k2 PTR.out.ne1)) (hide (H6.out.grown k2 (PT6.out.ne1 _ rfl))) (hide (H20.out.grown k2 (PT20.out.ne1 _ rfl))) (hide HG20.out) (hide (PTR.out.step k3 (lt_of2 (World.ownsRow.lt HRR.out)))) (hide (PT6.out.step k3 (lt_row H6.out))) (hide (PT20.out.step k3 (lt_row H20.out))) (hide PR20.out)
    refine AllReadyN.held rfl (by rfl) (fun K hK => ?_) AllReadyN.nil
    go_simp
    refine hK.out _ _ ?_ (fun hHeld => ?_)
    · exact HT5.out _ (HL.out.alloc _)
    clear hK K
    try simp only [Act.put, List.setIfInBounds_toArray, List.set_cons_zero, List.set_cons_succ]
    refine HG1.out _ _ _ _ ?_
    exact Q0_6_8_15_20.out x41 x49 g6 W.heap.size g20 _ _ (hide (by rw [HA0.out]; simp only [Act.put, List.setIfInBounds_toArray, List.set_cons_zero, List.set_cons_succ])) (hide (HL.out.alloc _)) (hide (ownsRow_later HT.out ((Later.refl W).alloc _))) (hide (ownsRow_later HRR.out ((Later.refl W).alloc _))) (hide (H6.out.later ((Later.refl W).alloc _))) (hide (Row.new W _ _)) (hide (H20.out.later ((Later.refl W).alloc _))) (hide HG20.out) (hide PTR.out) (hide PT6.out) (hide (apart_new (lt_of2 (World.ownsRow.lt HT.out)))) (hide PT20.out) (hide (apart_new (lt_of2 (World.ownsRow.lt HRR.out)))) (hide PR20.out))
  have Q0_8_15_20 : Hid (∀ (x41 x49 : Value) (g15 g20 : Nat) (W : World) (a : Act), Hid (a = ((((a0.put (some 41) (x41)).put (some 49) (x49)).put (some 56) (.slice (some ⟨g15, 0, none⟩) 1 1)).put (some 7) (.pointer (some ⟨g20, 0, none⟩)))) → Hid (Later wq W) → Hid (W.ownsRow wq.heap.size 23 1 x41 0 []) → Hid (W.ownsRow wq.heap.size 37 4 x49 0 []) → Hid (Row W g15 37 [.bool sm, .slice Xm nx cx, .bool sm', .slice Xm' nx' cx']) → Hid (Row W g20 25 [.slice none 0 0, .slice none 0 0, .slice none 0 0]) → Hid (wq.heap.size ≤ g20) → Hid (Apart x41.ownBlock x49.ownBlock) → Hid (Apart x41.ownBlock (some g15)) → Hid (Apart x41.ownBlock (some g20)) → Hid (Apart x49.ownBlock (some g15)) → Hid (Apart x49.ownBlock (some g20)) → G 7 #[true, true, true, false, true, true, false, false, true, true, true, false, true, true, true, true, false, true, true, false, true, false] a W) := hide (by
    intro x41 x49 g15 g20 W a HA HL HT HRR H15 H20 HG20 PTR PT15 PT20 PR15 PR20
    have hHeld := HT5.out W HL.out
    refine HG2.out _ _ _ _ ?_
    rw [HA.out, HA0.out]
    try simp only [Act.put, List.setIfInBounds_toArray, List.set_cons_zero, List.set_cons_succ]
    refine wpAnyN_ready (rs := [3, 6]) (by kernel_rfl) (by simp) ?_
    refine AllReadyN.held rfl (by rfl) (fun K hK => ?_) ?_
    · refine wp_append_tab4 _ _ rfl (EM.agree bv) rfl HT.out rfl HTA.out HL.out HAP.out (by have := HLA.out; omega) ?_
      intro x44 W2 k1 k2 k3
      show K (Act.put _ (some 44) x44) W2
      change W.grownBy W2 x41.ownBlock at k2
      change x44.ownBlock = x41.ownBlock ∨ x44.ownBlock = some W.heap.size at k3
      refine hK.out _ _ ?_ (fun hHeld => ?_)
      · exact HT5.out _ (HL.out.grown k2 (base_le (World.ownsRow.lt HT.out)))
      clear hK K
      try simp only [Act.put, List.setIfInBounds_toArray, List.set_cons_zero, List.set_cons_succ]
      refine HG1.out _ _ _ _ ?_
      exact Q0_3_8_15_20.out x41 x44 x49 g15 g20 _ _ (hide (by rw [HA0.out]; simp only [Act.put, List.setIfInBounds_toArray, List.set_cons_zero, List.set_cons_succ])) (hide (HL.out.grown k2 (base_le (World.ownsRow.lt HT.out)))) (hide k1) (hide (ownsRow_grown HRR.out k2 PTR.out.ne1)) (hide (H15.out.grown k2 (PT15.out.ne1 _ rfl))) (hide (H20.out.grown k2 (PT20.out.ne1 _ rfl))) (hide HG20.out) (hide (PTR.out.step k3 (lt_of2 (World.ownsRow.lt HRR.out)))) (hide (PT15.out.step k3 (lt_row H15.out))) (hide (PT20.out.step k3 (lt_row H20.out))) (hide PR15.out) (hide PR20.out)
    refine AllReadyN.held rfl (by rfl) (fun K hK => ?_) AllReadyN.nil
    go_simp
    refine hK.out _ _ ?_ (fun hHeld => ?_)
    · exact HT5.out _ (HL.out.alloc _)
    clear hK K
    try simp only [Act.put, List.setIfInBounds_toArray, List.set_cons_zero, List.set_cons_succ]
    refine HG1.out _ _ _ _ ?_
    exact Q0_6_8_15_20.out x41 x49 W.heap.size g15 g20 _ _ (hide (by rw [HA0.out]; simp only [Act.put, List.setIfInBounds_toArray, List.set_cons_zero, List.set_cons_succ])) (hide (HL.out.alloc _)) (hide (ownsRow_later HT.out ((Later.refl W).alloc _))) (hide (ownsRow_later HRR.out ((Later.refl W).alloc _))) (hide (Row.new W _ _)) (hide (H15.out.later ((Later.refl W).alloc _))) (hide (H20.out.later ((Later.refl W).alloc _))) (hide HG20.out) (hide PTR.out) (hide (apart_new (lt_of2 (World.ownsRow.lt HT.out)))) (hide PT15.out) (hide PT20.out) (hide PR15.out) (hide PR20.out))
  have Q6_8_15_20 : Hid (∀ (x49 : Value) (g6 g15 g20 : Nat) (W : World) (a : Act), Hid (a = ((((a0.put (some 49) (x49)).put (some 47) (.slice (some ⟨g6, 0, none⟩) 1 1)).put (some 56) (.slice (some ⟨g15, 0, none⟩) 1 1)).put (some 7) (.pointer (some ⟨g20, 0, none⟩)))) → Hid (Later wq W) → Hid (W.ownsRow wq.heap.size 37 4 x49 0 []) → Hid (Row W g6 23 [.slice Am (n7 - 1) (c7 - 1)]) → Hid (Row W g15 37 [.bool sm, .slice Xm nx cx, .bool sm', .slice Xm' nx' cx']) → Hid (Row W g20 25 [.slice none 0 0, .slice none 0 0, .slice none 0 0]) → Hid (wq.heap.size ≤ g20) → Hid (Apart x49.ownBlock (some g15)) → Hid (Apart x49.ownBlock (some g20)) → G 7 #[false, true, true, false, true, true, true, false, true, true, true, false, true, true, true, true, false, true, true, false, true, false] a W) := hide (by
    intro x49 g6 g15 g20 W a HA HL HRR H6 H15 H20 HG20 PR15 PR20
    have hHeld := HT5.out W HL.out
    refine HG2.out _ _ _ _ ?_
    rw [HA.out, HA0.out]
    try simp only [Act.put, List.setIfInBounds_toArray, List.set_cons_zero, List.set_cons_succ]
    refine wpAnyN_ready (rs := [0]) (by kernel_rfl) (by simp) ?_
    refine AllReadyN.held rfl (by rfl) (fun K hK => ?_) AllReadyN.nil
    go_simp
    refine hK.out _ _ ?_ (fun hHeld => ?_)
    · exact HT5.out _ (HL.out.alloc _)
    clear hK K
    try simp only [Act.put, List.setIfInBounds_toArray, List.set_cons_zero, List.set_cons_succ]
    refine HG1.out _ _ _ _ ?_
    exact Q0_6_8_15_20.out (.slice (some ⟨W.heap.size, 0, none⟩) 0 0) x49 g6 g15 g20 _ _ (hide (by rw [HA0.out]; simp only [Act.put, List.setIfInBounds_toArray, List.set_cons_zero, List.set_cons_succ])) (hide (HL.out.alloc _)) (hide (own_at2 W _ _ rfl HL.out.size_le)) (hide (ownsRow_later HRR.out ((Later.refl W).alloc _))) (hide (H6.out.later ((Later.refl W).alloc _))) (hide (H15.out.later ((Later.refl W).alloc _))) (hide (H20.out.later ((Later.refl W).alloc _))) (hide HG20.out) (hide (apart_new (lt_of2 (World.ownsRow.lt HRR.out))).symm) (hide (apart_new (lt_row H6.out)).symm) (hide (apart_new (lt_row H15.out)).symm) (hide (apart_new (lt_row H20.out)).symm) (hide PR15.out) (hide PR20.out))
  have Q0_15_20 : Hid (∀ (x41 : Value) (g15 g20 : Nat) (W : World) (a : Act), Hid (a = (((a0.put (some 41) (x41)).put (some 56) (.slice (some ⟨g15, 0, none⟩) 1 1)).put (some 7) (.pointer (some ⟨g20, 0, none⟩)))) → Hid (Later wq W) → Hid (W.ownsRow wq.heap.size 23 1 x41 0 []) → Hid (Row W g15 37 [.bool sm, .slice Xm nx cx, .bool sm', .slice Xm' nx' cx']) → Hid (Row W g20 25 [.slice none 0 0, .slice none 0 0, .slice none 0 0]) → Hid (wq.heap.size ≤ g20) → Hid (Apart x41.ownBlock (some g15)) → Hid (Apart x41.ownBlock (some g20)) → G 8 #[true, true, true, false, true, true, false, false, false, true, true, false, true, true, true, true, false, true, true, false, true, false] a W) := hide (by
    intro x41 g15 g20 W a HA HL HT H15 H20 HG20 PT15 PT20
    have hHeld := HT5.out W HL.out
    refine HG2.out _ _ _ _ ?_
    rw [HA.out, HA0.out]
    try simp only [Act.put, List.setIfInBounds_toArray, List.set_cons_zero, List.set_cons_succ]
    refine wpAnyN_ready (rs := [3, 6, 8]) (by kernel_rfl) (by simp) ?_
    refine AllReadyN.held rfl (by rfl) (fun K hK => ?_) ?_
    · refine wp_append_tab4 _ _ rfl (EM.agree bv) rfl HT.out rfl HTA.out HL.out HAP.out (by have := HLA.out; omega) ?_
      intro x44 W2 k1 k2 k3
      show K (Act.put _ (some 44) x44) W2
      change W.grownBy W2 x41.ownBlock at k2
      change x44.ownBlock = x41.ownBlock ∨ x44.ownBlock = some W.heap.size at k3
      refine hK.out _ _ ?_ (fun hHeld => ?_)
      · exact HT5.out _ (HL.out.grown k2 (base_le (World.ownsRow.lt HT.out)))
      clear hK K
      try simp only [Act.put, List.setIfInBounds_toArray, List.set_cons_zero, List.set_cons_succ]
      refine HG1.out _ _ _ _ ?_
      exact Q0_3_15_20.out x41 x44 g15 g20 _ _ (hide (by rw [HA0.out]; simp only [Act.put, List.setIfInBounds_toArray, List.set_cons_zero, List.set_cons_succ])) (hide (HL.out.grown k2 (base_le (World.ownsRow.lt HT.out)))) (hide k1) (hide (H15.out.grown k2 (PT15.out.ne1 _ rfl))) (hide (H20.out.grown k2 (PT20.out.ne1 _ rfl))) (hide HG20.out) (hide (PT15.out.step k3 (lt_row H15.out))) (hide (PT20.out.step k3 (lt_row H20.out)))
    refine AllReadyN.held rfl (by rfl) (fun K hK => ?_) ?_
    · go_simp
      refine hK.out _ _ ?_ (fun hHeld => ?_)
      · exact HT5.out _ (HL.out.alloc _)
      clear hK K
      try simp only [Act.put, List.setIfInBounds_toArray, List.set_cons_zero, List.set_cons_succ]
      refine HG1.out _ _ _ _ ?_
      exact Q0_6_15_20.out x41 W.heap.size g15 g20 _ _ (hide (by rw [HA0.out]; simp only [Act.put, List.setIfInBounds_toArray, List.set_cons_zero, List.set_cons_succ])) (hide (HL.out.alloc _)) (hide (ownsRow_later HT.out ((Later.refl W).alloc _))) (hide (Row.new W _ _)) (hide (H15.out.later ((Later.refl W).alloc _))) (hide (H20.out.later ((Later.refl W).alloc _))) (hide HG20.out) (hide (apart_new (lt_of2 (World.ownsRow.lt HT.out)))) (hide PT15.out) (hide PT20.out)
    refine AllReadyN.held rfl (by rfl) (fun K hK => ?_) AllReadyN.nil
    go_simp
    refine hK.out _ _ ?_ (fun hHeld => ?_)
    · exact HT5.out _ (HL.out.alloc _)
    clear hK K
    try simp only [Act.put, List.setIfInBounds_toArray, List.set_cons_zero, List.set_cons_succ]
    refine HG1.out _ _ _ _ ?_
    exact Q0_8_15_20.out x41 (.slice (some ⟨W.heap.size, 0, none⟩) 0 0) g15 g20 _ _ (hide (by rw [HA0.out]; simp only [Act.put, List.setIfInBounds_toArray, List.set_cons_zero, List.set_cons_succ])) (hide (HL.out.alloc _)) (hide (ownsRow_later HT.out ((Later.refl W).alloc _))) (hide (own_at2 W _ _ rfl HL.out.size_le)) (hide (H15.out.later ((Later.refl W).alloc _))) (hide (H20.out.later ((Later.refl W).alloc _))) (hide HG20.out) (hide (apart_new (lt_of2 (World.ownsRow.lt HT.out)))) (hide PT15.out) (hide PT20.out) (hide (apart_new (lt_row H15.out)).symm) (hide (apart_new (lt_row H20.out)).symm))
  have Q0_3_15 : Hid (∀ (x41 x44 : Value) (g15 : Nat) (W : World) (a : Act), Hid (a = (((a0.put (some 41) (x41)).put (some 44) (x44)).put (some 56) (.slice (some ⟨g15, 0, none⟩) 1 1))) → Hid (Later wq W) → Hid (OutTab (EM bv) W (fun b => b < wq.heap.size) wq.heap.size x44 A) → Hid (Row W g15 37 [.bool sm, .slice Xm nx cx, .bool sm', .slice Xm' nx' cx']) → Hid (Apart x44.ownBlock (some g15)) → G 8 #[true, true, true, true, true, true, false, false, false, true, true, false, true, true, true, true, false, true, true, false, false, false] a W) := hide (by
    intro x41 x44 g15 W a HA HL HT H15 PT15
    have hHeld := HT5.out W HL.out
    refine HG2.out _ _ _ _ ?_
    rw [HA.out, HA0.out]
    try simp only [Act.put, List.setIfInBounds_toArray, List.set_cons_zero, List.set_cons_succ]
    refine wpAnyN_ready (rs := [6, 8, 20]) (by kernel_rfl) (by simp) ?_
    refine AllReadyN.held rfl (by rfl) (fun K hK => ?_) ?_
    · go_simp
      refine hK.out _ _ ?_ (fun hHeld => ?_)
      · exact HT5.out _ (HL.out.alloc _)
      clear hK K
      try simp only [Act.put, List.setIfInBounds_toArray, List.set_cons_zero, List.set_cons_succ]
      refine HG1.out _ _ _ _ ?_
      exact Q0_3_6_15.out x41 x44 W.heap.size g15 _ _ (hide (by rw [HA0.out]; simp only [Act.put, List.setIfInBounds_toArray, List.set_cons_zero, List.set_cons_succ])) (hide (HL.out.alloc _)) (hide (HT.out.later ((Later.refl W).alloc _))) (hide (Row.new W _ _)) (hide (H15.out.later ((Later.refl W).alloc _))) (hide (apart_new (lt_of2 HT.out.lt))) (hide PT15.out)
    refine AllReadyN.held rfl (by rfl) (fun K hK => ?_) ?_
    · go_simp
      refine hK.out _ _ ?_ (fun hHeld => ?_)
      · exact HT5.out _ (HL.out.alloc _)
      clear hK K
      try simp only [Act.put, List.setIfInBounds_toArray, List.set_cons_zero, List.set_cons_succ]
      refine HG1.out _ _ _ _ ?_
      exact Q0_3_8_15.out x41 x44 (.slice (some ⟨W.heap.size, 0, none⟩) 0 0) g15 _ _ (hide (by rw [HA0.out]; simp only [Act.put, List.setIfInBounds_toArray, List.set_cons_zero, List.set_cons_succ])) (hide (HL.out.alloc _)) (hide (HT.out.later ((Later.refl W).alloc _))) (hide (own_at2 W _ _ rfl HL.out.size_le)) (hide (H15.out.later ((Later.refl W).alloc _))) (hide (apart_new (lt_of2 HT.out.lt))) (hide PT15.out) (hide (apart_new (lt_row H15.out)).symm)
    refine AllReadyN.held rfl (by rfl) (fun K hK => ?_) AllReadyN.nil
    go_simp
    refine hK.out _ _ ?_ (fun hHeld => ?_)
    · exact HT5.out _ (HL.out.alloc _)
    clear hK K
    try simp only [Act.put, List.setIfInBounds_toArray, List.set_cons_zero, List.set_cons_succ]
    refine HG1.out _ _ _ _ ?_
    exact Q0_3_15_20.out x41 x44 g15 W.heap.size _ _ (hide (by rw [HA0.out]; simp only [Act.put, List.setIfInBounds_toArray, List.set_cons_zero, List.set_cons_succ])) (hide (HL.out.alloc _)) (hide (HT.out.later ((Later.refl W).alloc _))) (hide (H15.out.later ((Later.refl W).alloc _))) (hide (Row.new W _ _)) (hide HL.out.size_le) (hide PT15.out) (hide (apart_new (lt_of2 HT.out.lt))))
  have Q0_3_20 : Hid (∀ (x41 x44 : Value) (g20 : Nat) (W : World) (a : Act), Hid (a = (((a0.put (some 41) (x41)).put (some 44) (x44)).put (some 7) (.pointer (some ⟨g20, 0, none⟩)))) → Hid (Later wq W) → Hid (OutTab (EM bv) W (fun b => b < wq.heap.size) wq.heap.size x44 A) → Hid (Row W g20 25 [.slice none 0 0, .slice none 0 0, .slice none 0 0]) → Hid (wq.heap.size ≤ g20) → Hid (Apart x44.ownBlock (some g20)) → G 8 #[true, true, true, true, true, true, false, false, false, true, true, false, true, true, true, false, false, true, true, false, true, false] a W) := hide (by
    intro x41 x44 g20 W a HA HL HT H20 HG20 PT20
    have hHeld := HT5.out W HL.out
    refine HG2.out _ _ _ _ ?_
    rw [HA.out, HA0.out]
    try simp only [Act.put, List.setIfInBounds_toArray, List.set_cons_zero, List.set_cons_succ]
    refine wpAnyN_ready (rs := [6, 8, 15]) (by kernel_rfl) (by simp) ?_
    refine AllReadyN.held rfl (by rfl) (fun K hK => ?_) ?_
    · go_simp
      refine hK.out _ _ ?_ (fun hHeld => ?_)
      · exact HT5.out _ (HL.out.alloc _)
      clear hK K
      try simp only [Act.put, List.setIfInBounds_toArray, List.set_cons_zero, List.set_cons_succ]
      refine HG1.out _ _ _ _ ?_
      exact Q0_3_6_20.out x41 x44 W.heap.size g20 _ _ (hide (by rw [HA0.out]; simp only [Act.put, List.setIfInBounds_toArray, List.set_cons_zero, List.set_cons_succ])) (hide (HL.out.alloc _)) (hide (HT.out.later ((Later.refl W).alloc _))) (hide (Row.new W _ _)) (hide (H20.out.later ((Later.refl W).alloc _))) (hide HG20.out) (hide (apart_new (lt_of2 HT.out.lt))) (hide PT20.out)
    refine AllReadyN.held rfl (by rfl) (fun K hK => ?_) ?_
    · go_simp
      refine hK.out _ _ ?_ (fun hHeld => ?_)
      · exact HT5.out _ (HL.out.alloc _)
      clear hK K
      try simp only [Act.put, List.setIfInBounds_toArray, List.set_cons_zero, List.set_cons_succ]
      refine HG1.out _ _ _ _ ?_
      exact Q0_3_8_20.out x41 x44 (.slice (some ⟨W.heap.size, 0, none⟩) 0 0) g20 _ _ (hide (by rw [HA0.out]; simp only [Act.put, List.setIfInBounds_toArray, List.set_cons_zero, List.set_cons_succ])) (hide (HL.out.alloc _)) (hide (HT.out.later ((Later.refl W).alloc _))) (hide (own_at2 W _ _ rfl HL.out.size_le)) (hide (H20.out.later ((Later.refl W).alloc _))) (hide HG20.out) (hide (apart_new (lt_of2 HT.out.lt))) (hide PT20.out) (hide (apart_new (lt_row H20.out)).symm)
    refine AllReadyN.held rfl (by rfl) (fun K hK => ?_) AllReadyN.nil
    go_simp
    refine hK.out _ _ ?_ (fun hHeld => ?_)
    · exact HT5.out _ (HL.out.alloc _)
    clear hK K
    try simp only [Act.put, List.setIfInBounds_toArray, List.set_cons_zero, List.set_cons_succ]
    refine HG1.out _ _ _ _ ?_
    exact Q0_3_15_20.out x41 x44 W.heap.size g20 _ _ (hide (by rw [HA0.out]; simp only [Act.put, List.setIfInBounds_toArray, List.set_cons_zero, List.set_cons_succ])) (hide (HL.out.alloc _)) (hide (HT.out.later ((Later.refl W).alloc _))) (hide (Row.new W _ _)) (hide (H20.out.later ((Later.refl W).alloc _))) (hide HG20.out) (hide (apart_new (lt_of2 HT.out.lt))) (hide PT20.out))
  have Q0_3_6 : Hid (∀ (x41 x44 : Value) (g6 : Nat) (W : World) (a : Act), Hid (a = (((a0.put (some 41) (x41)).put (some 44) (x44)).put (some 47) (.slice (some ⟨g6, 0, none⟩) 1 1))) → Hid (Later wq W) → Hid (OutTab (EM bv) W (fun b => b < wq.heap.size) wq.heap.size x44 A) → Hid (Row W g6 23 [.slice Am (n7 - 1) (c7 - 1)]) → Hid (Apart x44.ownBlock (some g6)) → G 8 #[true, true, true, true, true, true, true, false, false, true, true, false, true, true, true, false, false, true, true, false, false, false] a W) := hide (by
    intro x41 x44 g6 W a HA HL HT H6 PT6
    have hHeld := HT5.out W HL.out
    refine HG2.out _ _ _ _ ?_
    rw [HA.out, HA0.out]
    try simp only [Act.put, List.setIfInBounds_toArray, List.set_cons_zero, List.set_cons_succ]
    refine wpAnyN_ready (rs := [7, 8, 15, 20]) (by kernel_rfl) (by simp) ?_
    refine AllReadyN.held rfl (by rfl) (fun K hK => ?_) ?_
    · refine wp_append_row3 _ _ rfl rfl HT.out rfl H6.out (((On.base fun W2 h2 => rats_agreeE (EM.agree bv) HTT.out h2).later HL.out).mono fun b hb _ => ⟨hb, base_ne HT.out.lt b hb⟩) (by have := HLA.out; omega) HL.out.size_le ?_
      intro x48 W2 k1 k2 k3
      show K (Act.put _ (some 48) x48) W2
      change W.grownBy W2 x44.ownBlock at k2
      change x48.ownBlock = x44.ownBlock ∨ x48.ownBlock = some W.heap.size at k3
      refine hK.out _ _ ?_ (fun hHeld => ?_)
      · exact HT5.out _ (HL.out.grown k2 (base_le HT.out.lt))
      clear hK K
      try simp only [Act.put, List.setIfInBounds_toArray, List.set_cons_zero, List.set_cons_succ]
      refine HG1.out _ _ _ _ ?_
      exact Q0_3_6_7.out x41 x44 x48 g6 _ _ (hide (by rw [HA0.out]; simp only [Act.put, List.setIfInBounds_toArray, List.set_cons_zero, List.set_cons_succ])) (hide (HL.out.grown k2 (base_le HT.out.lt))) (hide k1)
    refine AllReadyN.held rfl (by rfl) (fun K hK => ?_) ?_
    · go_simp
      refine hK.out _ _ ?_ (fun hHeld => ?_)
      · exact HT5.out _ (HL.out.alloc _)
      clear hK K
      try simp only [Act.put, List.setIfInBounds_toArray, List.set_cons_zero, List.set_cons_succ]
      refine HG1.out _ _ _ _ ?_
      exact Q0_3_6_8.out x41 x44 (.slice (some ⟨W.heap.size, 0, none⟩) 0 0) g6 _ _ (hide (by rw [HA0.out]; simp only [Act.put, List.setIfInBounds_toArray, List.set_cons_zero, List.set_cons_succ])) (hide (HL.out.alloc _)) (hide (HT.out.later ((Later.refl W).alloc _))) (hide (own_at2 W _ _ rfl HL.out.size_le)) (hide (H6.out.later ((Later.refl W).alloc _))) (hide (apart_new (lt_of2 HT.out.lt))) (hide PT6.out)
    refine AllReadyN.held rfl (by rfl) (fun K hK => ?_) ?_
    · go_simp
      refine hK.out _ _ ?_ (fun hHeld => ?_)
      · exact HT5.out _ (HL.out.alloc _)
      clear hK K
      try simp only [Act.put, List.setIfInBounds_toArray, List.set_cons_zero, List.set_cons_succ]
      refine HG1.out _ _ _ _ ?_
      exact Q0_3_6_15.out x41 x44 g6 W.heap.size _ _ (hide (by rw [HA0.out]; simp only [Act.put, List.setIfInBounds_toArray, List.set_cons_zero, List.set_cons_succ])) (hide (HL.out.alloc _)) (hide (HT.out.later ((Later.refl W).alloc _))) (hide (H6.out.later ((Later.refl W).alloc _))) (hide (Row.new W _ _)) (hide PT6.out) (hide (apart_new (lt_of2 HT.out.lt)))
    refine AllReadyN.held rfl (by rfl) (fun K hK => ?_) AllReadyN.nil
    go_simp
    refine hK.out _ _ ?_ (fun hHeld => ?_)
    · exact HT5.out _ (HL.out.alloc _)
    clear hK K
    try simp only [Act.put, List.setIfInBounds_toArray, List.set_cons_zero, List.set_cons_succ]
    refine HG1.out _ _ _ _ ?_
    exact Q0_3_6_20.out x41 x44 g6 W.heap.size _ _ (hide (by rw [HA0.out]; simp only [Act.put, List.setIfInBounds_toArray, List.set_cons_zero, List.set_cons_succ])) (hide (HL.out.alloc _)) (hide (HT.out.later ((Later.refl W).alloc _))) (hide (H6.out.later ((Later.refl W).alloc _))) (hide (Row.new W _ _)) (hide HL.out.size_le) (hide PT6.out) (hide (apart_new (lt_of2 HT.out.lt))))
  have Q0_3_8 : Hid (∀ (x41 x44 x49 : Value) (W : World) (a : Act), Hid (a = (((a0.put (some 41) (x41)).put (some 44) (x44)).put (some 49) (x49))) → Hid (Later wq W) → Hid (OutTab (EM bv) W (fun b => b < wq.heap.size) wq.heap.size x44 A) → Hid (W.ownsRow wq.heap.size 37 4 x49 0 []) → Hid (Apart x44.ownBlock x49.ownBlock) → G 8 #[true, true, true, true, true, true, false, false, true, true, true, false, true, true, true, false, false, true, true, false, false, false] a W) := hide (by
    intro x41 x44 x49 W a HA HL HT HRR PTR
    have hHeld := HT5.out W HL.out
    refine HG2.out _ _ _ _ ?_
    rw [HA.out, HA0.out]
    try simp only [Act.put, List.setIfInBounds_toArray, List.set_cons_zero, List.set_cons_succ]
    refine wpAnyN_ready (rs := [6, 15, 20]) (by kernel_rfl) (by simp) ?_
    refine AllReadyN.held rfl (by rfl) (fun K hK => ?_) ?_
    · go_simp
      refine hK.out _ _ ?_ (fun hHeld => ?_)
      · exact HT5.out _ (HL.out.alloc _)
      clear hK K
      try simp only [Act.put, List.setIfInBounds_toArray, List.set_cons_zero, List.set_cons_succ]
      refine HG1.out _ _ _ _ ?_
      exact Q0_3_6_8.out x41 x44 x49 W.heap.size _ _ (hide (by rw [HA0.out]; simp only [Act.put, List.setIfInBounds_toArray, List.set_cons_zero, List.set_cons_succ])) (hide (HL.out.alloc _)) (hide (HT.out.later ((Later.refl W).alloc _))) (hide (ownsRow_later HRR.out ((Later.refl W).alloc _))) (hide (Row.new W _ _)) (hide PTR.out) (hide (apart_new (lt_of2 HT.out.lt)))
    refine AllReadyN.held rfl (by rfl) (fun K hK => ?_) ?_
    · go_simp
      refine hK.out _ _ ?_ (fun hHeld => ?_)
      · exact HT5.out _ (HL.out.alloc _)
      clear hK K
      try simp only [Act.put, List.setIfInBounds_toArray, List.set_cons_zero, List.set_cons_succ]
      refine HG1.out _ _ _ _ ?_
      exact Q0_3_8_15.out x41 x44 x49 W.heap.size _ _ (hide (by rw [HA0.out]; simp only [Act.put, List.setIfInBounds_toArray, List.set_cons_zero, List.set_cons_succ])) (hide (HL.out.alloc _)) (hide (HT.out.later ((Later.refl W).alloc _))) (hide (ownsRow_later HRR.out ((Later.refl W).alloc _))) (hide (Row.new W _ _)) (hide PTR.out) (hide (apart_new (lt_of2 HT.out.lt))) (hide (apart_new (lt_of2 (World.ownsRow.lt HRR.out))))
    refine AllReadyN.held rfl (by rfl) (fun K hK => ?_) AllReadyN.nil
    go_simp
    refine hK.out _ _ ?_ (fun hHeld => ?_)
    · exact HT5.out _ (HL.out.alloc _)
    clear hK K
    try simp only [Act.put, List.setIfInBounds_toArray, List.set_cons_zero, List.set_cons_succ]
    refine HG1.out _ _ _ _ ?_
    exact Q0_3_8_20.out x41 x44 x49 W.heap.size _ _ (hide (by rw [HA0.out]; simp only [Act.put, List.setIfInBounds_toArray, List.set_cons_zero, List.set_cons_succ])) (hide (HL.out.alloc _)) (hide (HT.out.later ((Later.refl W).alloc _))) (hide (ownsRow_later HRR.out ((Later.refl W).alloc _))) (hide (Row.new W _ _)) (hide HL.out.size_le) (hide PTR.out) (hide (apart_new (lt_of2 HT.out.lt))) (hide (apart_new (lt_of2 (World.ownsRow.lt HRR.out)))))
  have Q0_6_15 : Hid (∀ (x41 : Value) (g6 g15 : Nat) (W : World) (a : Act), Hid (a = (((a0.put (some 41) (x41)).put (some 47) (.slice (some ⟨g6, 0, none⟩) 1 1)).put (some 56) (.slice (some ⟨g15, 0, none⟩) 1 1))) → Hid (Later wq W) → Hid (W.ownsRow wq.heap.size 23 1 x41 0 []) → Hid (Row W g6 23 [.slice Am (n7 - 1) (c7 - 1)]) → Hid (Row W g15 37 [.bool sm, .slice Xm nx cx, .bool sm', .slice Xm' nx' cx']) → Hid (Apart x41.ownBlock (some g6)) → Hid (Apart x41.ownBlock (some g15)) → G 8 #[true, true, true, false, true, true, true, false, false, true, true, false, true, true, true, true, false, true, true, false, false, false] a W) := hide (by
    intro x41 g6 g15 W a HA HL HT H6 H15 PT6 PT15
    have hHeld := HT5.out W HL.out
    refine HG2.out _ _ _ _ ?_
    rw [HA.out, HA0.out]
    try simp only [Act.put, List.setIfInBounds_toArray, List.set_cons_zero, List.set_cons_succ]
    refine wpAnyN_ready (rs := [3, 8, 20]) (by kernel_rfl) (by simp) ?_
    refine AllReadyN.held rfl (by rfl) (fun K hK => ?_) ?_
    · refine wp_append_tab4 _ _ rfl (EM.agree bv) rfl HT.out rfl HTA.out HL.out HAP.out (by have := HLA.out; omega) ?_
      intro x44 W2 k1 k2 k3
      show K (Act.put _ (some 44) x44) W2
      change W.grownBy W2 x41.ownBlock at k2
      change x44.ownBlock = x41.ownBlock ∨ x44.ownBlock = some W.heap.size at k3
      refine hK.out _ _ ?_ (fun hHeld => ?_)
      · exact HT5.out _ (HL.out.grown k2 (base_le (World.ownsRow.lt HT.out)))
      clear hK K
      try simp only [Act.put, List.setIfInBounds_toArray, List.set_cons_zero, List.set_cons_succ]
      refine HG1.out _ _ _ _ ?_
      exact Q0_3_6_15.out x41 x44 g6 g15 _ _ (hide (by rw [HA0.out]; simp only [Act.put, List.setIfInBounds_toArray, List.set_cons_zero, List.set_cons_succ])) (hide (HL.out.grown k2 (base_le (World.ownsRow.lt HT.out)))) (hide k1) (hide (H6.out.grown k2 (PT6.out.ne1 _ rfl))) (hide (H15.out.grown k2 (PT15.out.ne1 _ rfl))) (hide (PT6.out.step k3 (lt_row H6.out))) (hide (PT15.out.step k3 (lt_row H15.out)))
    refine AllReadyN.held rfl (by rfl) (fun K hK => ?_) ?_
    · go_simp
      refine hK.out _ _ ?_ (fun hHeld => ?_)
      · exact HT5.out _ (HL.out.alloc _)
      clear hK K
      try simp only [Act.put, List.setIfInBounds_toArray, List.set_cons_zero, List.set_cons_succ]
      refine HG1.out _ _ _ _ ?_
      exact Q0_6_8_15.out x41 (.slice (some ⟨W.heap.size, 0, none⟩) 0 0) g6 g15 _ _ (hide (by rw [HA0.out]; simp only [Act.put, List.setIfInBounds_toArray, List.set_cons_zero, List.set_cons_succ])) (hide (HL.out.alloc _)) (hide (ownsRow_later HT.out ((Later.refl W).alloc _))) (hide (own_at2 W _ _ rfl HL.out.size_le)) (hide (H6.out.later ((Later.refl W).alloc _))) (hide (H15.out.later ((Later.refl W).alloc _))) (hide (apart_new (lt_of2 (World.ownsRow.lt HT.out)))) (hide PT6.out) (hide PT15.out) (hide (apart_new (lt_row H15.out)).symm)
    refine AllReadyN.held rfl (by rfl) (fun K hK => ?_) AllReadyN.nil
    go_simp
    refine hK.out _ _ ?_ (fun hHeld => ?_)
    · exact HT5.out _ (HL.out.alloc _)
    clear hK K
    try simp only [Act.put, List.setIfInBounds_toArray, List.set_cons_zero, List.set_cons_succ]
    refine HG1.out _ _ _ _ ?_
    exact Q0_6_15_20.out x41 g6 g15 W.heap.size _ _ (hide (by rw [HA0.out]; simp only [Act.put, List.setIfInBounds_toArray, List.set_cons_zero, List.set_cons_succ])) (hide (HL.out.alloc _)) (hide (ownsRow_later HT.out ((Later.refl W).alloc _))) (hide (H6.out.later ((Later.refl W).alloc _))) (hide (H15.out.later ((Later.refl W).alloc _))) (hide (Row.new W _ _)) (hide HL.out.size_le) (hide PT6.out) (hide PT15.out) (hide (apart_new (lt_of2 (World.ownsRow.lt HT.out)))))
  have Q0_6_20 : Hid (∀ (x41 : Value) (g6 g20 : Nat) (W : World) (a : Act), Hid (a = (((a0.put (some 41) (x41)).put (some 47) (.slice (some ⟨g6, 0, none⟩) 1 1)).put (some 7) (.pointer (some ⟨g20, 0, none⟩)))) → Hid (Later wq W) → Hid (W.ownsRow wq.heap.size 23 1 x41 0 []) → Hid (Row W g6 23 [.slice Am (n7 - 1) (c7 - 1)]) → Hid (Row W g20 25 [.slice none 0 0, .slice none 0 0, .slice none 0 0]) → Hid (wq.heap.size ≤ g20) → Hid (Apart x41.ownBlock (some g6)) → Hid (Apart x41.ownBlock (some g20)) → G 8 #[true, true, true, false, true, true, true, false, false, true, true, false, true, true, true, false, false, true, true, false, true, false] a W) := hide (by
    intro x41 g6 g20 W a HA HL HT H6 H20 HG20 PT6 PT20
    have hHeld := HT5.out W HL.out
    refine HG2.out _ _ _ _ ?_
    rw [HA.out, HA0.out]
    try simp only [Act.put, List.setIfInBounds_toArray, List.set_cons_zero, List.set_cons_succ]
    refine wpAnyN_ready (rs := [3, 8, 15]) (by kernel_rfl) (by simp) ?_
    refine AllReadyN.held rfl (by rfl) (fun K hK => ?_) ?_
    · refine wp_append_tab4 _ _ rfl (EM.agree bv) rfl HT.out rfl HTA.out HL.out HAP.out (by have := HLA.out; omega) ?_
      intro x44 W2 k1 k2 k3
      show K (Act.put _ (some 44) x44) W2
      change W.grownBy W2 x41.ownBlock at k2
      change x44.ownBlock = x41.ownBlock ∨ x44.ownBlock = some W.heap.size at k3
      refine hK.out _ _ ?_ (fun hHeld => ?_)
      · exact HT5.out _ (HL.out.grown k2 (base_le (World.ownsRow.lt HT.out)))
      clear hK K
      try simp only [Act.put, List.setIfInBounds_toArray, List.set_cons_zero, List.set_cons_succ]
      refine HG1.out _ _ _ _ ?_
      exact Q0_3_6_20.out x41 x44 g6 g20 _ _ (hide (by rw [HA0.out]; simp only [Act.put, List.setIfInBounds_toArray, List.set_cons_zero, List.set_cons_succ])) (hide (HL.out.grown k2 (base_le (World.ownsRow.lt HT.out)))) (hide k1) (hide (H6.out.grown k2 (PT6.out.ne1 _ rfl))) (hide (H20.out.grown k2 (PT20.out.ne1 _ rfl))) (hide HG20.out) (hide (PT6.out.step k3 (lt_row H6.out))) (hide (PT20.out.step k3 (lt_row H20.out)))
    refine AllReadyN.held rfl (by rfl) (fun K hK => ?_) ?_
    · go_simp
      refine hK.out _ _ ?_ (fun hHeld => ?_)
      · exact HT5.out _ (HL.out.alloc _)
      clear hK K
      try simp only [Act.put, List.setIfInBounds_toArray, List.set_cons_zero, List.set_cons_succ]
      refine HG1.out _ _ _ _ ?_
      exact Q0_6_8_20.out x41 (.slice (some ⟨W.heap.size, 0, none⟩) 0 0) g6 g20 _ _ (hide (by rw [HA0.out]; simp only [Act.put, List.setIfInBounds_toArray, List.set_cons_zero, List.set_cons_succ])) (hide (HL.out.alloc _)) (hide (ownsRow_later HT.out ((Later.refl W).alloc _))) (hide (own_at2 W _ _ rfl HL.out.size_le)) (hide (H6.out.later ((Later.refl W).alloc _))) (hide (H20.out.later ((Later.refl W).alloc _))) (hide HG20.out) (hide (apart_new (lt_of2 (World.ownsRow.lt HT.out)))) (hide PT6.out) (hide PT20.out) (hide (apart_new (lt_row H20.out)).symm)
    refine AllReadyN.held rfl (by rfl) (fun K hK => ?_) AllReadyN.nil
    go_simp
    refine hK.out _ _ ?_ (fun hHeld => ?_)
    · exact HT5.out _ (HL.out.alloc _)
    clear hK K
    try simp only [Act.put, List.setIfInBounds_toArray, List.set_cons_zero, List.set_cons_succ]
    refine HG1.out _ _ _ _ ?_
    exact Q0_6_15_20.out x41 g6 W.heap.size g20 _ _ (hide (by rw [HA0.out]; simp only [Act.put, List.setIfInBounds_toArray, List.set_cons_zero, List.set_cons_succ])) (hide (HL.out.alloc _)) (hide (ownsRow_later HT.out ((Later.refl W).alloc _))) (hide (H6.out.later ((Later.refl W).alloc _))) (hide (Row.new W _ _)) (hide (H20.out.later ((Later.refl W).alloc _))) (hide HG20.out) (hide PT6.out) (hide (apart_new (lt_of2 (World.ownsRow.lt HT.out)))) (hide PT20.out))
  have Q0_6_8 : Hid (∀ (x41 x49 : Value) (g6 : Nat) (W : World) (a : Act), Hid (a = (((a0.put (some 41) (x41)).put (some 49) (x49)).put (some 47) (.slice (some ⟨g6, 0, none⟩) 1 1))) → Hid (Later wq W) → Hid (W.ownsRow wq.heap.size 23 1 x41 0 []) → Hid (W.ownsRow wq.heap.size 37 4 x49 0 []) → Hid (Row W g6 23 [.slice Am (n7 - 1) (c7 - 1)]) → Hid (Apart x41.ownBlock x49.ownBlock) → Hid (Apart x41.ownBlock (some g6)) → G 8 #[true, true, true, false, true, true, true, false, true, true, true, false, true, true, true, false, false, true, true, false, false, false] a W) := hide (by
    intro x41 x49 g6 W a HA HL HT HRR H6 PTR PT6
    have hHeld := HT5.out W HL.out
    refine HG2.out _ _ _ _ ?_
    rw [HA.out, HA0.out]
    try simp only [Act.put, List.setIfInBounds_toArray, List.set_cons_zero, List.set_cons_succ]
    refine wpAnyN_ready (rs := [3, 15, 20]) (by kernel_rfl) (by simp) ?_
    refine AllReadyN.held rfl (by rfl) (fun K hK => ?_) ?_
    · refine wp_append_tab4 _ _ rfl (EM.agree bv) rfl HT.out rfl HTA.out HL.out HAP.out (by have := HLA.out; omega) ?_
      intro x44 W2 k1 k2 k3
      show K (Act.put _ (some 44) x44) W2
      change W.grownBy W2 x41.ownBlock at k2
      change x44.ownBlock = x41.ownBlock ∨ x44.ownBlock = some W.heap.size at k3
      refine hK.out _ _ ?_ (fun hHeld => ?_)
      · exact HT5.out _ (HL.out.grown k2 (base_le (World.ownsRow.lt HT.out)))
      clear hK K
      try simp only [Act.put, List.setIfInBounds_toArray, List.set_cons_zero, List.set_cons_succ]
      refine HG1.out _ _ _ _ ?_
      exact Q0_3_6_8.out x41 x44 x49 g6 _ _ (hide (by rw [HA0.out]; simp only [Act.put, List.setIfInBounds_toArray, List.set_cons_zero, List.set_cons_succ])) (hide (HL.out.grown k2 (base_le (World.ownsRow.lt HT.out)))) (hide k1) (hide (ownsRow_grown HRR.out k2 PTR.out.ne1)) (hide (H6.out.grown k2 (PT6.out.ne1 _ rfl))) (hide (PTR.out.step k3 (lt_of2 (World.ownsRow.lt HRR.out)))) (hide (PT6.out.step k3 (lt_row H6.out)))
    refine AllReadyN.held rfl (by rfl) (fun K hK => ?_) ?_
    · go_simp
      refine hK.out _ _ ?_ (fun hHeld => ?_)
      · exact HT5.out _ (HL.out.alloc _)
      clear hK K
      try simp only [Act.put, List.setIfInBounds_toArray, List.set_cons_zero, List.set_cons_succ]
      refine HG1.out _ _ _ _ ?_
      exact Q0_6_8_15.out x41 x49 g6 W.heap.size _ _ (hide (by rw [HA0.out]; simp only [Act.put, List.setIfInBounds_toArray, List.set_cons_zero, List.set_cons_succ])) (hide (HL.out.alloc _)) (hide (ownsRow_later HT.out ((Later.refl W).alloc _))) (hide (ownsRow_later HRR.out ((Later.refl W).alloc _))) (hide (H6.out.later ((Later.refl W).alloc _))) (hide (Row.new W _ _)) (hide PTR.out) (hide PT6.out) (hide (apart_new (lt_of2 (World.ownsRow.lt HT.out)))) (hide (apart_new (lt_of2 (World.ownsRow.lt HRR.out))))
    refine AllReadyN.held rfl (by rfl) (fun K hK => ?_) AllReadyN.nil
    go_simp
    refine hK.out _ _ ?_ (fun hHeld => ?_)
    · exact HT5.out _ (HL.out.alloc _)
    clear hK K
    try simp only [Act.put, List.setIfInBounds_toArray, List.set_cons_zero, List.set_cons_succ]
    refine HG1.out _ _ _ _ ?_
    exact Q0_6_8_20.out x41 x49 g6 W.heap.size _ _ (hide (by rw [HA0.out]; simp only [Act.put, List.setIfInBounds_toArray, List.set_cons_zero, List.set_cons_succ])) (hide (HL.out.alloc _)) (hide (ownsRow_later HT.out ((Later.refl W).alloc _))) (hide (ownsRow_later HRR.out ((Later.refl W).alloc _))) (hide (H6.out.later ((Later.refl W).alloc _))) (hide (Row.new W _ _)) (hide HL.out.size_le) (hide PTR.out) (hide PT6.out) (hide (apart_new (lt_of2 (World.ownsRow.lt HT.out)))) (hide (apart_new (lt_of2 (World.ownsRow.lt HRR.out)))))
  have Q0_8_15 : Hid (∀ (x41 x49 : Value) (g15 : Nat) (W : World) (a : Act), Hid (a = (((a0.put (some 41) (x41)).put (some 49) (x49)).put (some 56) (.slice (some ⟨g15, 0, none⟩) 1 1))) → Hid (Later wq W) → Hid (W.ownsRow wq.heap.size 23 1 x41 0 []) → Hid (W.ownsRow wq.heap.size 37 4 x49 0 []) → Hid (Row W g15 37 [.bool sm, .slice Xm nx cx, .bool sm', .slice Xm' nx' cx']) → Hid (Apart x41.ownBlock x49.ownBlock) → Hid (Apart x41.ownBlock (some g15)) → Hid (Apart x49.ownBlock (some g15)) → G 8 #[true, true, true, false, true, true, false, false, true, true, true, false, true, true, true, true, false, true, true, false, false, false] a W) := hide (by
    intro x41 x49 g15 W a HA HL HT HRR H15 PTR PT15 PR15
    have hHeld := HT5.out W HL.out
    refine HG2.out _ _ _ _ ?_
    rw [HA.out, HA0.out]
    try simp only [Act.put, List.setIfInBounds_toArray, List.set_cons_zero, List.set_cons_succ]
    refine wpAnyN_ready (rs := [3, 6, 20]) (by kernel_rfl) (by simp) ?_
    refine AllReadyN.held rfl (by rfl) (fun K hK => ?_) ?_
    · refine wp_append_tab4 _ _ rfl (EM.agree bv) rfl HT.out rfl HTA.out HL.out HAP.out (by have := HLA.out; omega) ?_
      intro x44 W2 k1 k2 k3
      show K (Act.put _ (some 44) x44) W2
      change W.grownBy W2 x41.ownBlock at k2
      change x44.ownBlock = x41.ownBlock ∨ x44.ownBlock = some W.heap.size at k3
      refine hK.out _ _ ?_ (fun hHeld => ?_)
      · exact HT5.out _ (HL.out.grown k2 (base_le (World.ownsRow.lt HT.out)))
      clear hK K
      try simp only [Act.put, List.setIfInBounds_toArray, List.set_cons_zero, List.set_cons_succ]
      refine HG1.out _ _ _ _ ?_
      exact Q0_3_8_15.out x41 x44 x49 g15 _ _ (hide (by rw [HA0.out]; simp only [Act.put, List.setIfInBounds_toArray, List.set_cons_zero, List.set_cons_succ])) (hide (HL.out.grown k2 (base_le (World.ownsRow.lt HT.out)))) (hide k1) (hide (ownsRow_grown HRR.out k2 PTR.out.ne1)) (hide (H15.out.grown k2 (PT15.out.ne1 _ rfl))) (hide (PTR.out.step k3 (lt_of2 (World.ownsRow.lt HRR.out)))) (hide (PT15.out.step k3 (lt_row H15.out))) (hide PR15.out)
    refine AllReadyN.held rfl (by rfl) (fun K hK => ?_) ?_
    · go_simp
      refine hK.out _ _ ?_ (fun hHeld => ?_)
      · exact HT5.out _ (HL.out.alloc _)
      clear hK K
      try simp only [Act.put, List.setIfInBounds_toArray, List.set_cons_zero, List.set_cons_succ]
      refine HG1.out _ _ _ _ ?_
      exact Q0_6_8_15.out x41 x49 W.heap.size g15 _ _ (hide (by rw [HA0.out]; simp only [Act.put, List.setIfInBounds_toArray, List.set_cons_zero, List.set_cons_succ])) (hide (HL.out.alloc _)) (hide (ownsRow_later HT.out ((Later.refl W).alloc _))) (hide (ownsRow_later HRR.out ((Later.refl W).alloc _))) (hide (Row.new W _ _)) (hide (H15.out.later ((Later.refl W).alloc _))) (hide PTR.out) (hide (apart_new (lt_of2 (World.ownsRow.lt HT.out)))) (hide PT15.out) (hide PR15.out)
    refine AllReadyN.held rfl (by rfl) (fun K hK => ?_) AllReadyN.nil
    go_simp
    refine hK.out _ _ ?_ (fun hHeld => ?_)
    · exact HT5.out _ (HL.out.alloc _)
    clear hK K
    try simp only [Act.put, List.setIfInBounds_toArray, List.set_cons_zero, List.set_cons_succ]
    refine HG1.out _ _ _ _ ?_
    exact Q0_8_15_20.out x41 x49 g15 W.heap.size _ _ (hide (by rw [HA0.out]; simp only [Act.put, List.setIfInBounds_toArray, List.set_cons_zero, List.set_cons_succ])) (hide (HL.out.alloc _)) (hide (ownsRow_later HT.out ((Later.refl W).alloc _))) (hide (ownsRow_later HRR.out ((Later.refl W).alloc _))) (hide (H15.out.later ((Later.refl W).alloc _))) (hide (Row.new W _ _)) (hide HL.out.size_le) (hide PTR.out) (hide PT15.out) (hide (apart_new (lt_of2 (World.ownsRow.lt HT.out)))) (hide PR15.out) (hide (apart_new (lt_of2 (World.ownsRow.lt HRR.out)))))
  have Q0_8_20 : Hid (∀ (x41 x49 : Value) (g20 : Nat) (W : World) (a : Act), Hid (a = (((a0.put (some 41) (x41)).put (some 49) (x49)).put (some 7) (.pointer (some ⟨g20, 0, none⟩)))) → Hid (Later wq W) → Hid (W.ownsRow wq.heap.size 23 1 x41 0 []) → Hid (W.ownsRow wq.heap.size 37 4 x49 0 []) → Hid (Row W g20 25 [.slice none 0 0, .slice none 0 0, .slice none 0 0]) → Hid (wq.heap.size ≤ g20) → Hid (Apart x41.ownBlock x49.ownBlock) → Hid (Apart x41.ownBlock (some g20)) → Hid (Apart x49.ownBlock (some g20)) → G 8 #[true, true, true, false, true, true, false, false, true, true, true, false, true, true, true, false, false, true, true, false, true, false] a W) := hide (by
    intro x41 x49 g20 W a HA HL HT HRR H20 HG20 PTR PT20 PR20
    have hHeld := HT5.out W HL.out
    refine HG2.out _ _ _ _ ?_
    rw [HA.out, HA0.out]
    try simp only [Act.put, List.setIfInBounds_toArray, List.set_cons_zero, List.set_cons_succ]
    refine wpAnyN_ready (rs := [3, 6, 15]) (by kernel_rfl) (by simp) ?_
    refine AllReadyN.held rfl (by rfl) (fun K hK => ?_) ?_
    · refine wp_append_tab4 _ _ rfl (EM.agree bv) rfl HT.out rfl HTA.out HL.out HAP.out (by have := HLA.out; omega) ?_
      intro x44 W2 k1 k2 k3
      show K (Act.put _ (some 44) x44) W2
      change W.grownBy W2 x41.ownBlock at k2
      change x44.ownBlock = x41.ownBlock ∨ x44.ownBlock = some W.heap.size at k3
      refine hK.out _ _ ?_ (fun hHeld => ?_)
      · exact HT5.out _ (HL.out.grown k2 (base_le (World.ownsRow.lt HT.out)))
      clear hK K
      try simp only [Act.put, List.setIfInBounds_toArray, List.set_cons_zero, List.set_cons_succ]
      refine HG1.out _ _ _ _ ?_
      exact Q0_3_8_20.out x41 x44 x49 g20 _ _ (hide (by rw [HA0.out]; simp only [Act.put, List.setIfInBounds_toArray, List.set_cons_zero, List.set_cons_succ])) (hide (HL.out.grown k2 (base_le (World.ownsRow.lt HT.out)))) (hide k1) (hide (ownsRow_grown HRR.out k2 PTR.out.ne1)) (hide (H20.out.grown k2 (PT20.out.ne1 _ rfl))) (hide HG20.out) (hide (PTR.out.step k3 (lt_of2 (World.ownsRow.lt HRR.out)))) (hide (PT20.out.step k3 (lt_row H20.out))) (hide PR20.out)
    refine AllReadyN.held rfl (by rfl) (fun K hK => ?_) ?_
    · go_simp
      refine hK.out _ _ ?_ (fun hHeld => ?_)
      · exact HT5.out _ (HL.out.alloc _)
      clear hK K
      try simp only [Act.put, List.setIfInBounds_toArray, List.set_cons_zero, List.set_cons_succ]
      refine HG1.out _ _ _ _ ?_
      exact Q0_6_8_20.out x41 x49 W.heap.size g20 _ _ (hide (by rw [HA0.out]; simp only [Act.put, List.setIfInBounds_toArray, List.set_cons_zero, List.set_cons_succ])) (hide (HL.out.alloc _)) (hide (ownsRow_later HT.out ((Later.refl W).alloc _))) (hide (ownsRow_later HRR.out ((Later.refl W).alloc _))) (hide (Row.new W _ _)) (hide (H20.out.later ((Later.refl W).alloc _))) (hide HG20.out) (hide PTR.out) (hide (apart_new (lt_of2 (World.ownsRow.lt HT.out)))) (hide PT20.out) (hide PR20.out)
    refine AllReadyN.held rfl (by rfl) (fun K hK => ?_) AllReadyN.nil
    go_simp
    refine hK.out _ _ ?_ (fun hHeld => ?_)
    · exact HT5.out _ (HL.out.alloc _)
    clear hK K
    try simp only [Act.put, List.setIfInBounds_toArray, List.set_cons_zero, List.set_cons_succ]
    refine HG1.out _ _ _ _ ?_
    exact Q0_8_15_20.out x41 x49 W.heap.size g20 _ _ (hide (by rw [HA0.out]; simp only [Act.put, List.setIfInBounds_toArray, List.set_cons_zero, List.set_cons_succ])) (hide (HL.out.alloc _)) (hide (ownsRow_later HT.out ((Later.refl W).alloc _))) (hide (ownsRow_later HRR.out ((Later.refl W).alloc _))) (hide (Row.new W _ _)) (hide (H20.out.later ((Later.refl W).alloc _))) (hide HG20.out) (hide PTR.out) (hide (apart_new (lt_of2 (World.ownsRow.lt HT.out)))) (hide PT20.out) (hide (apart_new (lt_of2 (World.ownsRow.lt HRR.out)))) (hide PR20.out))
  have Q6_15_20 : Hid (∀ (g6 g15 g20 : Nat) (W : World) (a : Act), Hid (a = (((a0.put (some 47) (.slice (some ⟨g6, 0, none⟩) 1 1)).put (some 56) (.slice (some ⟨g15, 0, none⟩) 1 1)).put (some 7) (.pointer (some ⟨g20, 0, none⟩)))) → Hid (Later wq W) → Hid (Row W g6 23 [.slice Am (n7 - 1) (c7 - 1)]) → Hid (Row W g15 37 [.bool sm, .slice Xm nx cx, .bool sm', .slice Xm' nx' cx']) → Hid (Row W g20 25 [.slice none 0 0, .slice none 0 0, .slice none 0 0]) → Hid (wq.heap.size ≤ g20) → G 8 #[false, true, true, false, true, true, true, false, false, true, true, false, true, true, true, true, false, true, true, false, true, false] a W) := hide (by
    intro g6 g15 g20 W a HA HL H6 H15 H20 HG20
    have hHeld := HT5.out W HL.out
    refine HG2.out _ _ _ _ ?_
    rw [HA.out, HA0.out]
    try simp only [Act.put, List.setIfInBounds_toArray, List.set_cons_zero, List.set_cons_succ]
    refine wpAnyN_ready (rs := [0, 8]) (by kernel_rfl) (by simp) ?_
    refine AllReadyN.held rfl (by rfl) (fun K hK => ?_) ?_
    · go_simp
      refine hK.out _ _ ?_ (fun hHeld => ?_)
      · exact HT5.out _ (HL.out.alloc _)
      clear hK K
      try simp only [Act.put, List.setIfInBounds_toArray, List.set_cons_zero, List.set_cons_succ]
      refine HG1.out _ _ _ _ ?_
      exact Q0_6_15_20.out (.slice (some ⟨W.heap.size, 0, none⟩) 0 0) g6 g15 g20 _ _ (hide (by rw [HA0.out]; simp only [Act.put, List.setIfInBounds_toArray, List.set_cons_zero, List.set_cons_succ])) (hide (HL.out.alloc _)) (hide (own_at2 W _ _ rfl HL.out.size_le)) (hide (H6.out.later ((Later.refl W).alloc _))) (hide (H15.out.later ((Later.refl W).alloc _))) (hide (H20.out.later ((Later.refl W).alloc _))) (hide HG20.out) (hide (apart_new (lt_row H6.out)).symm) (hide (apart_new (lt_row H15.out)).symm) (hide (apart_new (lt_row H20.out)).symm)
    refine AllReadyN.held rfl (by rfl) (fun K hK => ?_) AllReadyN.nil
    go_simp
    refine hK.out _ _ ?_ (fun hHeld => ?_)
    · exact HT5.out _ (HL.out.alloc _)
    clear hK K
    try simp only [Act.put, List.setIfInBounds_toArray, List.set_cons_zero, List.set_cons_succ]
    refine HG1.out _ _ _ _ ?_
    exact Q6_8_15_20.out (.slice (some ⟨W.heap.size, 0, none⟩) 0 0) g6 g15 g20 _ _ (hide (by rw [HA0.out]; simp only [Act.put, List.setIfInBounds_toArray, List.set_cons_zero, List.set_cons_succ])) (hide (HL.out.alloc _)) (hide (own_at2 W _ _ rfl HL.out.size_le)) (hide (H6.out.later ((Later.refl W).alloc _))) (hide (H15.out.later ((Later.refl W).alloc _))) (hide (H20.out.later ((Later.refl W).alloc _))) (hide HG20.out) (hide (apart_new (lt_row H15.out)).symm) (hide (apart_new (lt_row H20.out)).symm))
  have Q6_8_15 : Hid (∀ (x49 : Value) (g6 g15 : Nat) (W : World) (a : Act), Hid (a = (((a0.put (some 49) (x49)).put (some 47) (.slice (some ⟨g6, 0, none⟩) 1 1)).put (some 56) (.slice (some ⟨g15, 0, none⟩) 1 1))) → Hid (Later wq W) → Hid (W.ownsRow wq.heap.size 37 4 x49 0 []) → Hid (Row W g6 23 [.slice Am (n7 - 1) (c7 - 1)]) → Hid (Row W g15 37 [.bool sm, .slice Xm nx cx, .bool sm', .slice Xm' nx' cx']) → Hid (Apart x49.ownBlock (some g15)) → G 8 #[false, true, true, false, true, true, true, false, true, true, true, false, true, true, true, true, false, true, true, false, false, false] a W) := hide (by
    intro x49 g6 g15 W a HA HL HRR H6 H15 PR15
    have hHeld := HT5.out W HL.out
    refine HG2.out _ _ _ _ ?_
    rw [HA.out, HA0.out]
    try simp only [Act.put, List.setIfInBounds_toArray, List.set_cons_zero, List.set_cons_succ]
    refine wpAnyN_ready (rs := [0, 20]) (by kernel_rfl) (by simp) ?_
    refine AllReadyN.held rfl (by rfl) (fun K hK => ?_) ?_
    · go_simp
      refine hK.out _ _ ?_ (fun hHeld => ?_)
      · exact HT5.out _ (HL.out.alloc _)
      clear hK K
      try simp only [Act.put, List.setIfInBounds_toArray, List.set_cons_zero, List.set_cons_succ]
      refine HG1.out _ _ _ _ ?_
      exact Q0_6_8_15.out (.slice (some ⟨W.heap.size, 0, none⟩) 0 0) x49 g6 g15 _ _ (hide (by rw [HA0.out]; simp only [Act.put, List.setIfInBounds_toArray, List.set_cons_zero, List.set_cons_succ])) (hide (HL.out.alloc _)) (hide (own_at2 W _ _ rfl HL.out.size_le)) (hide (ownsRow_later HRR.out ((Later.refl W).alloc _))) (hide (H6.out.later ((Later.refl W).alloc _))) (hide (H15.out.later ((Later.refl W).alloc _))) (hide (apart_new (lt_of2 (World.ownsRow.lt HRR.out))).symm) (hide (apart_new (lt_row H6.out)).symm) (hide (apart_new (lt_row H15.out)).symm) (hide PR15.out)
    refine AllReadyN.held rfl (by rfl) (fun K hK => ?_) AllReadyN.nil
    go_simp
    refine hK.out _ _ ?_ (fun hHeld => ?_)
    · exact HT5.out _ (HL.out.alloc _)
    clear hK K
    try simp only [Act.put, List.setIfInBounds_toArray, List.set_cons_zero, List.set_cons_succ]
    refine HG1.out _ _ _ _ ?_
    exact Q6_8_15_20.out x49 g6 g15 W.heap.size _ _ (hide (by rw [HA0.out]; simp only [Act.put, List.setIfInBounds_toArray, List.set_cons_zero, List.set_cons_succ])) (hide (HL.out.alloc _)) (hide (ownsRow_later HRR.out ((Later.refl W).alloc _))) (hide (H6.out.later ((Later.refl W).alloc _))) (hide (H15.out.later ((Later.refl W).alloc _))) (hide (Row.new W _ _)) (hide HL.out.size_le) (hide PR15.out) (hide (apart_new (lt_of2 (World.ownsRow.lt HRR.out)))))
  have Q6_8_20 : Hid (∀ (x49 : Value) (g6 g20 : Nat) (W : World) (a : Act), Hid (a = (((a0.put (some 49) (x49)).put (some 47) (.slice (some ⟨g6, 0, none⟩) 1 1)).put (some 7) (.pointer (some ⟨g20, 0, none⟩)))) → Hid (Later wq W) → Hid (W.ownsRow wq.heap.size 37 4 x49 0 []) → Hid (Row W g6 23 [.slice Am (n7 - 1) (c7 - 1)]) → Hid (Row W g20 25 [.slice none 0 0, .slice none 0 0, .slice none 0 0]) → Hid (wq.heap.size ≤ g20) → Hid (Apart x49.ownBlock (some g20)) → G 8 #[false, true, true, false, true, true, true, false, true, true, true, false, true, true, true, false, false, true, true, false, true, false] a W) := hide (by
    intro x49 g6 g20 W a HA HL HRR H6 H20 HG20 PR20
    have hHeld := HT5.out W HL.out
    refine HG2.out _ _ _ _ ?_
    rw [HA.out, HA0.out]
    try simp only [Act.put, List.setIfInBounds_toArray, List.set_cons_zero, List.set_cons_succ]
    refine wpAnyN_ready (rs := [0, 15]) (by kernel_rfl) (by simp) ?_
    refine AllReadyN.held rfl (by rfl) (fun K hK => ?_) ?_
    · go_simp
      refine hK.out _ _ ?_ (fun hHeld => ?_)
      · exact HT5.out _ (HL.out.alloc _)
      clear hK K
      try simp only [Act.put, List.setIfInBounds_toArray, List.set_cons_zero, List.set_cons_succ]
      refine HG1.out _ _ _ _ ?_
      exact Q0_6_8_20.out (.slice (some ⟨W.heap.size, 0, none⟩) 0 0) x49 g6 g20 _ _ (hide (by rw [HA0.out]; simp only [Act.put, List.setIfInBounds_toArray, List.set_cons_zero, List.set_cons_succ])) (hide (HL.out.alloc _)) (hide (own_at2 W _ _ rfl HL.out.size_le)) (hide (ownsRow_later HRR.out ((Later.refl W).alloc _))) (hide (H6.out.later ((Later.refl W).alloc _))) (hide (H20.out.later ((Later.refl W).alloc _))) (hide HG20.out) (hide (apart_new (lt_of2 (World.ownsRow.lt HRR.out))).symm) (hide (apart_new (lt_row H6.out)).symm) (hide (apart_new (lt_row H20.out)).symm) (hide PR20.out)
    refine AllReadyN.held rfl (by rfl) (fun K hK => ?_) AllReadyN.nil
    go_simp
    refine hK.out _ _ ?_ (fun hHeld => ?_)
    · exact HT5.out _ (HL.out.alloc _)
    clear hK K
    try simp only [Act.put, List.setIfInBounds_toArray, List.set_cons_zero, List.set_cons_succ]
    refine HG1.out _ _ _ _ ?_
    exact Q6_8_15_20.out x49 g6 W.heap.size g20 _ _ (hide (by rw [HA0.out]; simp only [Act.put, List.setIfInBounds_toArray, List.set_cons_zero, List.set_cons_succ])) (hide (HL.out.alloc _)) (hide (ownsRow_later HRR.out ((Later.refl W).alloc _))) (hide (H6.out.later ((Later.refl W).alloc _))) (hide (Row.new W _ _)) (hide (H20.out.later ((Later.refl W).alloc _))) (hide HG20.out) (hide (apart_new (lt_of2 (World.ownsRow.lt HRR.out)))) (hide PR20.out))
  have Q8_15_20 : Hid (∀ (x49 : Value) (g15 g20 : Nat) (W : World) (a : Act), Hid (a = (((a0.put (some 49) (x49)).put (some 56) (.slice (some ⟨g15, 0, none⟩) 1 1)).put (some 7) (.pointer (some ⟨g20, 0, none⟩)))) → Hid (Later wq W) → Hid (W.ownsRow wq.heap.size 37 4 x49 0 []) → Hid (Row W g15 37 [.bool sm, .slice Xm nx cx, .bool sm', .slice Xm' nx' cx']) → Hid (Row W g20 25 [.slice none 0 0, .slice none 0 0, .slice none 0 0]) → Hid (wq.heap.size ≤ g20) → Hid (Apart x49.ownBlock (some g15)) → Hid (Apart x49.ownBlock (some g20)) → G 8 #[false, true, true, false, true, true, false, false, true, true, true, false, true, true, true, true, false, true, true, false, true, false] a W) := hide (by
    intro x49 g15 g20 W a HA HL HRR H15 H20 HG20 PR15 PR20
    have hHeld := HT5.out W HL.out
    refine HG2.out _ _ _ _ ?_
    rw [HA.out, HA0.out]
    try simp only [Act.put, List.setIfInBounds_toArray, List.set_cons_zero, List.set_cons_succ]
    refine wpAnyN_ready (rs := [0, 6]) (by kernel_rfl) (by simp) ?_
    refine AllReadyN.held rfl (by rfl) (fun K hK => ?_) ?_
    · go_simp
      refine hK.out _ _ ?_ (fun hHeld => ?_)
      · exact HT5.out _ (HL.out.alloc _)
      clear hK K
      try simp only [Act.put, List.setIfInBounds_toArray, List.set_cons_zero, List.set_cons_succ]
      refine HG1.out _ _ _ _ ?_
      exact Q0_8_15_20.out (.slice (some ⟨W.heap.size, 0, none⟩) 0 0) x49 g15 g20 _ _ (hide (by rw [HA0.out]; simp only [Act.put, List.setIfInBounds_toArray, List.set_cons_zero, List.set_cons_succ])) (hide (HL.out.alloc _)) (hide (own_at2 W _ _ rfl HL.out.size_le)) (hide (ownsRow_later HRR.out ((Later.refl W).alloc _))) (hide (H15.out.later ((Later.refl W).alloc _))) (hide (H20.out.later ((Later.refl W).alloc _))) (hide HG20.out) (hide (apart_new (lt_of2 (World.ownsRow.lt HRR.out))).symm) (hide (apart_new (lt_row H15.out)).symm) (hide (apart_new (lt_row H20.out)).symm) (hide PR15.out) (hide PR20.out)
    refine AllReadyN.held rfl (by rfl) (fun K hK => ?_) AllReadyN.nil
    go_simp
    refine hK.out _ _ ?_ (fun hHeld => ?_)
    · exact HT5.out _ (HL.out.alloc _)
    clear hK K
    try simp only [Act.put, List.setIfInBounds_toArray, List.set_cons_zero, List.set_cons_succ]
    refine HG1.out _ _ _ _ ?_
    exact Q6_8_15_20.out x49 W.heap.size g15 g20 _ _ (hide (by rw [HA0.out]; simp only [Act.put, List.setIfInBounds_toArray, List.set_cons_zero, List.set_cons_succ])) (hide (HL.out.alloc _)) (hide (ownsRow_later HRR.out ((Later.refl W).alloc _))) (hide (Row.new W _ _)) (hide (H15.out.later ((Later.refl W).alloc _))) (hide (H20.out.later ((Later.refl W).alloc _))) (hide HG20.out) (hide PR15.out) (hide PR20.out))
  have Q0_15 : Hid (∀ (x41 : Value) (g15 : Nat) (W : World) (a : Act), Hid (a = ((a0.put (some 41) (x41)).put (some 56) (.slice (some ⟨g15, 0, none⟩) 1 1))) → Hid (Later wq W) → Hid (W.ownsRow wq.heap.size 23 1 x41 0 []) → Hid (Row W g15 37 [.bool sm, .slice Xm nx cx, .bool sm', .slice Xm' nx' cx']) → Hid (Apart x41.ownBlock (some g15)) → G 9 #[true, true, true, false, true, true, false, false, false, true, true, false, true, true, true, true, false, true, true, false, false, false] a W) := hide (by
    intro x41 g15 W a HA HL HT H15 PT15
    have hHeld := HT5.out W HL.out
    refine HG2.out _ _ _ _ ?_
    rw [HA.out, HA0.out]
    try simp only [Act.put, List.setIfInBounds_toArray, List.set_cons_zero, List.set_cons_succ]
    refine wpAnyN_ready (rs := [3, 6, 8, 20]) (by kernel_rfl) (by simp) ?_
    refine AllReadyN.held rfl (by rfl) (fun K hK => ?_) ?_
    · refine wp_append_tab4 _ _ rfl (EM.agree bv) rfl HT.out rfl HTA.out HL.out HAP.out (by have := HLA.out; omega) ?_
      intro x44 W2 k1 k2 k3
      show K (Act.put _ (some 44) x44) W2
      change W.grownBy W2 x41.ownBlock at k2
      change x44.ownBlock = x41.ownBlock ∨ x44.ownBlock = some W.heap.size at k3
      refine hK.out _ _ ?_ (fun hHeld => ?_)
      · exact HT5.out _ (HL.out.grown k2 (base_le (World.ownsRow.lt HT.out)))
      clear hK K
      try simp only [Act.put, List.setIfInBounds_toArray, List.set_cons_zero, List.set_cons_succ]
      refine HG1.out _ _ _ _ ?_
      exact Q0_3_15.out x41 x44 g15 _ _ (hide (by rw [HA0.out]; simp only [Act.put, List.setIfInBounds_toArray, List.set_cons_zero, List.set_cons_succ])) (hide (HL.out.grown k2 (base_le (World.ownsRow.lt HT.out)))) (hide k1) (hide (H15.out.grown k2 (PT15.out.ne1 _ rfl))) (hide (PT15.out.step k3 (lt_row H15.out)))
    refine AllReadyN.held rfl (by rfl) (fun K hK => ?_) ?_
    · go_simp
      refine hK.out _ _ ?_ (fun hHeld => ?_)
      · exact HT5.out _ (HL.out.alloc _)
      clear hK K
      try simp only [Act.put, List.setIfInBounds_toArray, List.set_cons_zero, List.set_cons_succ]
      refine HG1.out _ _ _ _ ?_
      exact Q0_6_15.out x41 W.heap.size g15 _ _ (hide (by rw [HA0.out]; simp only [Act.put, List.setIfInBounds_toArray, List.set_cons_zero, List.set_cons_succ])) (hide (HL.out.alloc _)) (hide (ownsRow_later HT.out ((Later.refl W).alloc _))) (hide (Row.new W _ _)) (hide (H15.out.later ((Later.refl W).alloc _))) (hide (apart_new (lt_of2 (World.ownsRow.lt HT.out)))) (hide PT15.out)
    refine AllReadyN.held rfl (by rfl) (fun K hK => ?_) ?_
    · go_simp
      refine hK.out _ _ ?_ (fun hHeld => ?_)
      · exact HT5.out _ (HL.out.alloc _)
      clear hK K
      try simp only [Act.put, List.setIfInBounds_toArray, List.set_cons_zero, List.set_cons_succ]
      refine HG1.out _ _ _ _ ?_
      exact Q0_8_15.out x41 (.slice (some ⟨W.heap.size, 0, none⟩) 0 0) g15 _ _ (hide (by rw [HA0.out]; simp only [Act.put, List.setIfInBounds_toArray, List.set_cons_zero, List.set_cons_succ])) (hide (HL.out.alloc _)) (hide (ownsRow_later HT.out ((Later.refl W).alloc _))) (hide (own_at2 W _ _ rfl HL.out.size_le)) (hide (H15.out.later ((Later.refl W).alloc _))) (hide (apart_new (lt_of2 (World.ownsRow.lt HT.out)))) (hide PT15.out) (hide (apart_new (lt_row H15.out)).symm)
    refine AllReadyN.held rfl (by rfl) (fun K hK => ?_) AllReadyN.nil
    go_simp
    refine hK.out _ _ ?_ (fun hHeld => ?_)
    · exact HT5.out _ (HL.out.alloc _)
    clear hK K
    try simp only [Act.put, List.setIfInBounds_toArray, List.set_cons_zero, List.set_cons_succ]
    refine HG1.out _ _ _ _ ?_
    exact Q0_15_20.out x41 g15 W.heap.size _ _ (hide (by rw [HA0.out]; simp only [Act.put, List.setIfInBounds_toArray, List.set_cons_zero, List.set_cons_succ])) (hide (HL.out.alloc _)) (hide (ownsRow_later HT.out ((Later.refl W).alloc _))) (hide (H15.out.later ((Later.refl W).alloc _))) (hide (Row.new W _ _)) (hide HL.out.size_le) (hide PT15.out) (hide (apart_new (lt_of2 (World.ownsRow.lt HT.out)))))
  have Q0_20 : Hid (∀ (x41 : Value) (g20 : Nat) (W : World) (a : Act), Hid (a = ((a0.put (some 41) (x41)).put (some 7) (.pointer (some ⟨g20, 0, none⟩)))) → Hid (Later wq W) → Hid (W.ownsRow wq.heap.size 23 1 x41 0 []) → Hid (Row W g20 25 [.slice none 0 0, .slice none 0 0, .slice none 0 0]) → Hid (wq.heap.size ≤ g20) → Hid (Apart x41.ownBlock (some g20)) → G 9 #[true, true, true, false, true, true, false, false, false, true, true, false, true, true, true, false, false, true, true, false, true, false] a W) := hide (by
    intro x41 g20 W a HA HL HT H20 HG20 PT20
    have hHeld := HT5.out W HL.out
    refine HG2.out _ _ _ _ ?_
    rw [HA.out, HA0.out]
    try simp only [Act.put, List.setIfInBounds_toArray, List.set_cons_zero, List.set_cons_succ]
    refine wpAnyN_ready (rs := [3, 6, 8, 15]) (by kernel_rfl) (by simp) ?_
    refine AllReadyN.held rfl (by rfl) (fun K hK => ?_) ?_
    · refine wp_append_tab4 _ _ rfl (EM.agree bv) rfl HT.out rfl HTA.out HL.out HAP.out (by have := HLA.out; omega) ?_
      intro x44 W2 k1 k2 k3
      show K (Act.put _ (some 44) x44) W2
      change W.grownBy W2 x41.ownBlock at k2
      change x44.ownBlock = x41.ownBlock ∨ x44.ownBlock = some W.heap.size at k3
      refine hK.out _ _ ?_ (fun hHeld => ?_)
      · exact HT5.out _ (HL.out.grown k2 (base_le (World.ownsRow.lt HT.out)))
      clear hK K
      try simp only [Act.put, List.setIfInBounds_toArray, List.set_cons_zero, List.set_cons_succ]
      refine HG1.out _ _ _ _ ?_
      exact Q0_3_20.out x41 x44 g20 _ _ (hide (by rw [HA0.out]; simp only [Act.put, List.setIfInBounds_toArray, List.set_cons_zero, List.set_cons_succ])) (hide (HL.out.grown k2 (base_le (World.ownsRow.lt HT.out)))) (hide k1) (hide (H20.out.grown k2 (PT20.out.ne1 _ rfl))) (hide HG20.out) (hide (PT20.out.step k3 (lt_row H20.out)))
    refine AllReadyN.held rfl (by rfl) (fun K hK => ?_) ?_
    · go_simp
      refine hK.out _ _ ?_ (fun hHeld => ?_)
      · exact HT5.out _ (HL.out.alloc _)
      clear hK K
      try simp only [Act.put, List.setIfInBounds_toArray, List.set_cons_zero, List.set_cons_succ]
      refine HG1.out _ _ _ _ ?_
      exact Q0_6_20.out x41 W.heap.size g20 _ _ (hide (by rw [HA0.out]; simp only [Act.put, List.setIfInBounds_toArray, List.set_cons_zero, List.set_cons_succ])) (hide (HL.out.alloc _)) (hide (ownsRow_later HT.out ((Later.refl W).alloc _))) (hide (Row.new W _ _)) (hide (H20.out.later ((Later.refl W).alloc _))) (hide HG20.out) (hide (apart_new (lt_of2 (World.ownsRow.lt HT.out)))) (hide PT20.out)
    refine AllReadyN.held rfl (by rfl) (fun K hK => ?_) ?_
    · go_simp
      refine hK.out _ _ ?_ (fun hHeld => ?_)
      · exact HT5.out _ (HL.out.alloc _)
      clear hK K
      try simp only [Act.put, List.setIfInBounds_toArray, List.set_cons_zero, List.set_cons_succ]
      refine HG1.out _ _ _ _ ?_
      exact Q0_8_20.out x41 (.slice (some ⟨W.heap.size, 0, none⟩) 0 0) g20 _ _ (hide (by rw [HA0.out]; simp only [Act.put, List.setIfInBounds_toArray, List.set_cons_zero, List.set_cons_succ])) (hide (HL.out.alloc _)) (hide (ownsRow_later HT.out ((Later.refl W).alloc _))) (hide (own_at2 W _ _ rfl HL.out.size_le)) (hide (H20.out.later ((Later.refl W).alloc _))) (hide HG20.out) (hide (apart_new (lt_of2 (World.ownsRow.lt HT.out)))) (hide PT20.out) (hide (apart_new (lt_row H20.out)).symm)
    refine AllReadyN.held rfl (by rfl) (fun K hK => ?_) AllReadyN.nil
    go_simp
    refine hK.out _ _ ?_ (fun hHeld => ?_)
    · exact HT5.out _ (HL.out.alloc _)
    clear hK K
    try simp only [Act.put, List.setIfInBounds_toArray, List.set_cons_zero, List.set_cons_succ]
    refine HG1.out _ _ _ _ ?_
    exact Q0_15_20.out x41 W.heap.size g20 _ _ (hide (by rw [HA0.out]; simp only [Act.put, List.setIfInBounds_toArray, List.set_cons_zero, List.set_cons_succ])) (hide (HL.out.alloc _)) (hide (ownsRow_later HT.out ((Later.refl W).alloc _))) (hide (Row.new W _ _)) (hide (H20.out.later ((Later.refl W).alloc _))) (hide HG20.out) (hide (apart_new (lt_of2 (World.ownsRow.lt HT.out)))) (hide PT20.out))
  have Q0_3 : Hid (∀ (x41 x44 : Value) (W : World) (a : Act), Hid (a = ((a0.put (some 41) (x41)).put (some 44) (x44))) → Hid (Later wq W) → Hid (OutTab (EM bv) W (fun b => b < wq.heap.size) wq.heap.size x44 A) → G 9 #[true, true, true, true, true, true, false, false, false, true, true, false, true, true, true, false, false, true, true, false, false, false] a W) := hide (by
    intro x41 x44 W a HA HL HT
    have hHeld := HT5.out W HL.out
    refine HG2.out _ _ _ _ ?_
    rw [HA.out, HA0.out]
    try simp only [Act.put, List.setIfInBounds_toArray, List.set_cons_zero, List.set_cons_succ]
    refine wpAnyN_ready (rs := [6, 8, 15, 20]) (by kernel_rfl) (by simp) ?_
    refine AllReadyN.held rfl (by rfl) (fun K hK => ?_) ?_
    · go_simp
      refine hK.out _ _ ?_ (fun hHeld => ?_)
      · exact HT5.out _ (HL.out.alloc _)
      clear hK K
      try simp only [Act.put, List.setIfInBounds_toArray, List.set_cons_zero, List.set_cons_succ]
      refine HG1.out _ _ _ _ ?_
      exact Q0_3_6.out x41 x44 W.heap.size _ _ (hide (by rw [HA0.out]; simp only [Act.put, List.setIfInBounds_toArray, List.set_cons_zero, List.set_cons_succ])) (hide (HL.out.alloc _)) (hide (HT.out.later ((Later.refl W).alloc _))) (hide (Row.new W _ _)) (hide (apart_new (lt_of2 HT.out.lt)))
    refine AllReadyN.held rfl (by rfl) (fun K hK => ?_) ?_
    · go_simp
      refine hK.out _ _ ?_ (fun hHeld => ?_)
      · exact HT5.out _ (HL.out.alloc _)
      clear hK K
      try simp only [Act.put, List.setIfInBounds_toArray, List.set_cons_zero, List.set_cons_succ]
      refine HG1.out _ _ _ _ ?_
      exact Q0_3_8.out x41 x44 (.slice (some ⟨W.heap.size, 0, none⟩) 0 0) _ _ (hide (by rw [HA0.out]; simp only [Act.put, List.setIfInBounds_toArray, List.set_cons_zero, List.set_cons_succ])) (hide (HL.out.alloc _)) (hide (HT.out.later ((Later.refl W).alloc _))) (hide (own_at2 W _ _ rfl HL.out.size_le)) (hide (apart_new (lt_of2 HT.out.lt)))
    refine AllReadyN.held rfl (by rfl) (fun K hK => ?_) ?_
    · go_simp
      refine hK.out _ _ ?_ (fun hHeld => ?_)
      · exact HT5.out _ (HL.out.alloc _)
      clear hK K
      try simp only [Act.put, List.setIfInBounds_toArray, List.set_cons_zero, List.set_cons_succ]
      refine HG1.out _ _ _ _ ?_
      exact Q0_3_15.out x41 x44 W.heap.size _ _ (hide (by rw [HA0.out]; simp only [Act.put, List.setIfInBounds_toArray, List.set_cons_zero, List.set_cons_succ])) (hide (HL.out.alloc _)) (hide (HT.out.later ((Later.refl W).alloc _))) (hide (Row.new W _ _)) (hide (apart_new (lt_of2 HT.out.lt)))
    refine AllReadyN.held rfl (by rfl) (fun K hK => ?_) AllReadyN.nil
    go_simp
    refine hK.out _ _ ?_ (fun hHeld => ?_)
    · exact HT5.out _ (HL.out.alloc _)
    clear hK K
    try simp only [Act.put, List.setIfInBounds_toArray, List.set_cons_zero, List.set_cons_succ]
    refine HG1.out _ _ _ _ ?_
    exact Q0_3_20.out x41 x44 W.heap.size _ _ (hide (by rw [HA0.out]; simp only [Act.put, List.setIfInBounds_toArray, List.set_cons_zero, List.set_cons_succ])) (hide (HL.out.alloc _)) (hide (HT.out.later ((Later.refl W).alloc _))) (hide (Row.new W _ _)) (hide HL.out.size_le) (hide (apart_new (lt_of2 HT.out.lt))))
  have Q0_6 : Hid (∀ (x41 : Value) (g6 : Nat) (W : World) (a : Act), Hid (a = ((a0.put (some 41) (x41)).put (some 47) (.slice (some ⟨g6, 0, none⟩) 1 1))) → Hid (Later wq W) → Hid (W.ownsRow wq.heap.size 23 1 x41 0 []) → Hid (Row W g6 23 [.slice Am (n7 - 1) (c7 - 1)]) → Hid (Apart x41.ownBlock (some g6)) → G 9 #[true, true, true, false, true, true, true, false, false, true, true, false, true, true, true, false, false, true, true, false, false, false] a W) := hide (by
    intro x41 g6 W a HA HL HT H6 PT6
    have hHeld := HT5.out W HL.out
    refine HG2.out _ _ _ _ ?_
    rw [HA.out, HA0.out]
    try simp only [Act.put, List.setIfInBounds_toArray, List.set_cons_zero, List.set_cons_succ]
    refine wpAnyN_ready (rs := [3, 8, 15, 20]) (by kernel_rfl) (by simp) ?_
    refine AllReadyN.held rfl (by rfl) (fun K hK => ?_) ?_
    · refine wp_append_tab4 _ _ rfl (EM.agree bv) rfl HT.out rfl HTA.out HL.out HAP.out (by have := HLA.out; omega) ?_
      intro x44 W2 k1 k2 k3
      show K (Act.put _ (some 44) x44) W2
      change W.grownBy W2 x41.ownBlock at k2
      change x44.ownBlock = x41.ownBlock ∨ x44.ownBlock = some W.heap.size at k3
      refine hK.out _ _ ?_ (fun hHeld => ?_)
      · exact HT5.out _ (HL.out.grown k2 (base_le (World.ownsRow.lt HT.out)))
      clear hK K
      try simp only [Act.put, List.setIfInBounds_toArray, List.set_cons_zero, List.set_cons_succ]
      refine HG1.out _ _ _ _ ?_
      exact Q0_3_6.out x41 x44 g6 _ _ (hide (by rw [HA0.out]; simp only [Act.put, List.setIfInBounds_toArray, List.set_cons_zero, List.set_cons_succ])) (hide (HL.out.grown k2 (base_le (World.ownsRow.lt HT.out)))) (hide k1) (hide (H6.out.grown k2 (PT6.out.ne1 _ rfl))) (hide (PT6.out.step k3 (lt_row H6.out)))
    refine AllReadyN.held rfl (by rfl) (fun K hK => ?_) ?_
    · go_simp
      refine hK.out _ _ ?_ (fun hHeld => ?_)
      · exact HT5.out _ (HL.out.alloc _)
      clear hK K
      try simp only [Act.put, List.setIfInBounds_toArray, List.set_cons_zero, List.set_cons_succ]
      refine HG1.out _ _ _ _ ?_
      exact Q0_6_8.out x41 (.slice (some ⟨W.heap.size, 0, none⟩) 0 0) g6 _ _ (hide (by rw [HA0.out]; simp only [Act.put, List.setIfInBounds_toArray, List.set_cons_zero, List.set_cons_succ])) (hide (HL.out.alloc _)) (hide (ownsRow_later HT.out ((Later.refl W).alloc _))) (hide (own_at2 W _ _ rfl HL.out.size_le)) (hide (H6.out.later ((Later.refl W).alloc _))) (hide (apart_new (lt_of2 (World.ownsRow.lt HT.out)))) (hide PT6.out)
    refine AllReadyN.held rfl (by rfl) (fun K hK => ?_) ?_
    · go_simp
      refine hK.out _ _ ?_ (fun hHeld => ?_)
      · exact HT5.out _ (HL.out.alloc _)
      clear hK K
      try simp only [Act.put, List.setIfInBounds_toArray, List.set_cons_zero, List.set_cons_succ]
      refine HG1.out _ _ _ _ ?_
      exact Q0_6_15.out x41 g6 W.heap.size _ _ (hide (by rw [HA0.out]; simp only [Act.put, List.setIfInBounds_toArray, List.set_cons_zero, List.set_cons_succ])) (hide (HL.out.alloc _)) (hide (ownsRow_later HT.out ((Later.refl W).alloc _))) (hide (H6.out.later ((Later.refl W).alloc _))) (hide (Row.new W _ _)) (hide PT6.out) (hide (apart_new (lt_of2 (World.ownsRow.lt HT.out))))
    refine AllReadyN.held rfl (by rfl) (fun K hK => ?_) AllReadyN.nil
    go_simp
    refine hK.out _ _ ?_ (fun hHeld => ?_)
    · exact HT5.out _ (HL.out.alloc _)
    clear hK K
    try simp only [Act.put, List.setIfInBounds_toArray, List.set_cons_zero, List.set_cons_succ]
    refine HG1.out _ _ _ _ ?_
    exact Q0_6_20.out x41 g6 W.heap.size _ _ (hide (by rw [HA0.out]; simp only [Act.put, List.setIfInBounds_toArray, List.set_cons_zero, List.set_cons_succ])) (hide (HL.out.alloc _)) (hide (ownsRow_later HT.out ((Later.refl W).alloc _))) (hide (H6.out.later ((Later.refl W).alloc _))) (hide (Row.new W _ _)) (hide HL.out.size_le) (hide PT6.out) (hide (apart_new (lt_of2 (World.ownsRow.lt HT.out)))))
  have Q0_8 : Hid (∀ (x41 x49 : Value) (W : World) (a : Act), Hid (a = ((a0.put (some 41) (x41)).put (some 49) (x49))) → Hid (Later wq W) → Hid (W.ownsRow wq.heap.size 23 1 x41 0 []) → Hid (W.ownsRow wq.heap.size 37 4 x49 0 []) → Hid (Apart x41.ownBlock x49.ownBlock) → G 9 #[true, true, true, false, true, true, false, false, true, true, true, false, true, true, true, false, false, true, true, false, false, false] a W) := hide (by
    intro x41 x49 W a HA HL HT HRR PTR
    have hHeld := HT5.out W HL.out
    refine HG2.out _ _ _ _ ?_
    rw [HA.out, HA0.out]
    try simp only [Act.put, List.setIfInBounds_toArray, List.set_cons_zero, List.set_cons_succ]
    refine wpAnyN_ready (rs := [3, 6, 15, 20]) (by kernel_rfl) (by simp) ?_
    refine AllReadyN.held rfl (by rfl) (fun K hK => ?_) ?_
    · refine wp_append_tab4 _ _ rfl (EM.agree bv) rfl HT.out rfl HTA.out HL.out HAP.out (by have := HLA.out; omega) ?_
      intro x44 W2 k1 k2 k3
      show K (Act.put _ (some 44) x44) W2
      change W.grownBy W2 x41.ownBlock at k2
      change x44.ownBlock = x41.ownBlock ∨ x44.ownBlock = some W.heap.size at k3
      refine hK.out _ _ ?_ (fun hHeld => ?_)
      · exact HT5.out _ (HL.out.grown k2 (base_le (World.ownsRow.lt HT.out)))
      clear hK K
      try simp only [Act.put, List.setIfInBounds_toArray, List.set_cons_zero, List.set_cons_succ]
      refine HG1.out _ _ _ _ ?_
      exact Q0_3_8.out x41 x44 x49 _ _ (hide (by rw [HA0.out]; simp only [Act.put, List.setIfInBounds_toArray, List.set_cons_zero, List.set_cons_succ])) (hide (HL.out.grown k2 (base_le (World.ownsRow.lt HT.out)))) (hide k1) (hide (ownsRow_grown HRR.out k2 PTR.out.ne1)) (hide (PTR.out.step k3 (lt_of2 (World.ownsRow.lt HRR.out))))
    refine AllReadyN.held rfl (by rfl) (fun K hK => ?_) ?_
    · go_simp
      refine hK.out _ _ ?_ (fun hHeld => ?_)
      · exact HT5.out _ (HL.out.alloc _)
      clear hK K
      try simp only [Act.put, List.setIfInBounds_toArray, List.set_cons_zero, List.set_cons_succ]
      refine HG1.out _ _ _ _ ?_
      exact Q0_6_8.out x41 x49 W.heap.size _ _ (hide (by rw [HA0.out]; simp only [Act.put, List.setIfInBounds_toArray, List.set_cons_zero, List.set_cons_succ])) (hide (HL.out.alloc _)) (hide (ownsRow_later HT.out ((Later.refl W).alloc _))) (hide (ownsRow_later HRR.out ((Later.refl W).alloc _))) (hide (Row.new W _ _)) (hide PTR.out) (hide (apart_new (lt_of2 (World.ownsRow.lt HT.out))))
    refine AllReadyN.held rfl (by rfl) (fun K hK => ?_) ?_
    · go_simp
      refine hK.out _ _ ?_ (fun hHeld => ?_)
      · exact HT5.out _ (HL.out.alloc _)
      clear hK K
      try simp only [Act.put, List.setIfInBounds_toArray, List.set_cons_zero, List.set_cons_succ]
      refine HG1.out _ _ _ _ ?_
      exact Q0_8_15.out x41 x49 W.heap.size _ _ (hide (by rw [HA0.out]; simp only [Act.put, List.setIfInBounds_toArray, List.set_cons_zero, List.set_cons_succ])) (hide (HL.out.alloc _)) (hide (ownsRow_later HT.out ((Later.refl W).alloc _))) (hide (ownsRow_later HRR.out ((Later.refl W).alloc _))) (hide (Row.new W _ _)) (hide PTR.out) (hide (apart_new (lt_of2 (World.ownsRow.lt HT.out)))) (hide (apart_new (lt_of2 (World.ownsRow.lt HRR.out))))
    refine AllReadyN.held rfl (by rfl) (fun K hK => ?_) AllReadyN.nil
    go_simp
    refine hK.out _ _ ?_ (fun hHeld => ?_)
    · exact HT5.out _ (HL.out.alloc _)
    clear hK K
    try simp only [Act.put, List.setIfInBounds_toArray, List.set_cons_zero, List.set_cons_succ]
    refine HG1.out _ _ _ _ ?_
    exact Q0_8_20.out x41 x49 W.heap.size _ _ (hide (by rw [HA0.out]; simp only [Act.put, List.setIfInBounds_toArray, List.set_cons_zero, List.set_cons_succ])) (hide (HL.out.alloc _)) (hide (ownsRow_later HT.out ((Later.refl W).alloc _))) (hide (ownsRow_later HRR.out ((Later.refl W).alloc _))) (hide (Row.new W _ _)) (hide HL.out.size_le) (hide PTR.out) (hide (apart_new (lt_of2 (World.ownsRow.lt HT.out)))) (hide (apart_new (lt_of2 (World.ownsRow.lt HRR.out)))))
  have Q15_20 : Hid (∀ (g15 g20 : Nat) (W : World) (a : Act), Hid (a = ((a0.put (some 56) (.slice (some ⟨g15, 0, none⟩) 1 1)).put (some 7) (.pointer (some ⟨g20, 0, none⟩)))) → Hid (Later wq W) → Hid (Row W g15 37 [.bool sm, .slice Xm nx cx, .bool sm', .slice Xm' nx' cx']) → Hid (Row W g20 25 [.slice none 0 0, .slice none 0 0, .slice none 0 0]) → Hid (wq.heap.size ≤ g20) → G 9 #[false, true, true, false, true, true, false, false, false, true, true, false, true, true, true, true, false, true, true, false, true, false] a W) := hide (by
    intro g15 g20 W a HA HL H15 H20 HG20
    have hHeld := HT5.out W HL.out
    refine HG2.out _ _ _ _ ?_
    rw [HA.out, HA0.out]
    try simp only [Act.put, List.setIfInBounds_toArray, List.set_cons_zero, List.set_cons_succ]
    refine wpAnyN_ready (rs := [0, 6, 8]) (by kernel_rfl) (by simp) ?_
    refine AllReadyN.held rfl (by rfl) (fun K hK => ?_) ?_
    · go_simp
      refine hK.out _ _ ?_ (fun hHeld => ?_)
      · exact HT5.out _ (HL.out.alloc _)
      clear hK K
      try simp only [Act.put, List.setIfInBounds_toArray, List.set_cons_zero, List.set_cons_succ]
      refine HG1.out _ _ _ _ ?_
      exact Q0_15_20.out (.slice (some ⟨W.heap.size, 0, none⟩) 0 0) g15 g20 _ _ (hide (by rw [HA0.out]; simp only [Act.put, List.setIfInBounds_toArray, List.set_cons_zero, List.set_cons_succ])) (hide (HL.out.alloc _)) (hide (own_at2 W _ _ rfl HL.out.size_le)) (hide (H15.out.later ((Later.refl W).alloc _))) (hide (H20.out.later ((Later.refl W).alloc _))) (hide HG20.out) (hide (apart_new (lt_row H15.out)).symm) (hide (apart_new (lt_row H20.out)).symm)
    refine AllReadyN.held rfl (by rfl) (fun K hK => ?_) ?_
    · go_simp
      refine hK.out _ _ ?_ (fun hHeld => ?_)
      · exact HT5.out _ (HL.out.alloc _)
      clear hK K
      try simp only [Act.put, List.setIfInBounds_toArray, List.set_cons_zero, List.set_cons_succ]
      refine HG1.out _ _ _ _ ?_
      exact Q6_15_20.out W.heap.size g15 g20 _ _ (hide (by rw [HA0.out]; simp only [Act.put, List.setIfInBounds_toArray, List.set_cons_zero, List.set_cons_succ])) (hide (HL.out.alloc _)) (hide (Row.new W _ _)) (hide (H15.out.later ((Later.refl W).alloc _))) (hide (H20.out.later ((Later.refl W).alloc _))) (hide HG20.out)
    refine AllReadyN.held rfl (by rfl) (fun K hK => ?_) AllReadyN.nil
    go_simp
    refine hK.out _ _ ?_ (fun hHeld => ?_)
    · exact HT5.out _ (HL.out.alloc _)
    clear hK K
    try simp only [Act.put, List.setIfInBounds_toArray, List.set_cons_zero, List.set_cons_succ]
    refine HG1.out _ _ _ _ ?_
    exact Q8_15_20.out (.slice (some ⟨W.heap.size, 0, none⟩) 0 0) g15 g20 _ _ (hide (by rw [HA0.out]; simp only [Act.put, List.setIfInBounds_toArray, List.set_cons_zero, List.set_cons_succ])) (hide (HL.out.alloc _)) (hide (own_at2 W _ _ rfl HL.out.size_le)) (hide (H15.out.later ((Later.refl W).alloc _))) (hide (H20.out.later ((Later.refl W).alloc _))) (hide HG20.out) (hide (apart_new (lt_row H15.out)).symm) (hide (apart_new (lt_row H20.out)).symm))
  have Q6_15 : Hid (∀ (g6 g15 : Nat) (W : World) (a : Act), Hid (a = ((a0.put (some 47) (.slice (some ⟨g6, 0, none⟩) 1 1)).put (some 56) (.slice (some ⟨g15, 0, none⟩) 1 1))) → Hid (Later wq W) → Hid (Row W g6 23 [.slice Am (n7 - 1) (c7 - 1)]) → Hid (Row W g15 37 [.bool sm, .slice Xm nx cx, .bool sm', .slice Xm' nx' cx']) → G 9 #[false, true, true, false, true, true, true, false, false, true, true, false, true, true, true, true, false, true, true, false, false, false] a W) := hide (by
    intro g6 g15 W a HA HL H6 H15
    have hHeld := HT5.out W HL.out
    refine HG2.out _ _ _ _ ?_
    rw [HA.out, HA0.out]
    try simp only [Act.put, List.setIfInBounds_toArray, List.set_cons_zero, List.set_cons_succ]
    refine wpAnyN_ready (rs := [0, 8, 20]) (by kernel_rfl) (by simp) ?_
    refine AllReadyN.held rfl (by rfl) (fun K hK => ?_) ?_
    · go_simp
      refine hK.out _ _ ?_ (fun hHeld => ?_)
      · exact HT5.out _ (HL.out.alloc _)
      clear hK K
      try simp only [Act.put, List.setIfInBounds_toArray, List.set_cons_zero, List.set_cons_succ]
      refine HG1.out _ _ _ _ ?_
      exact Q0_6_15.out (.slice (some ⟨W.heap.size, 0, none⟩) 0 0) g6 g15 _ _ (hide (by rw [HA0.out]; simp only [Act.put, List.setIfInBounds_toArray, List.set_cons_zero, List.set_cons_succ])) (hide (HL.out.alloc _)) (hide (own_at2 W _ _ rfl HL.out.size_le)) (hide (H6.out.later ((Later.refl W).alloc _))) (hide (H15.out.later ((Later.refl W).alloc _))) (hide (apart_new (lt_row H6.out)).symm) (hide (apart_new (lt_row H15.out)).symm)
    refine AllReadyN.held rfl (by rfl) (fun K hK => ?_) ?_
    · go_simp
      refine hK.out _ _ ?_ (fun hHeld => ?_)
      · exact HT5.out _ (HL.out.alloc _)
      clear hK K
      try simp only [Act.put, List.setIfInBounds_toArray, List.set_cons_zero, List.set_cons_succ]
      refine HG1.out _ _ _ _ ?_
      exact Q6_8_15.out (.slice (some ⟨W.heap.size, 0, none⟩) 0 0) g6 g15 _ _ (hide (by rw [HA0.out]; simp only [Act.put, List.setIfInBounds_toArray, List.set_cons_zero, List.set_cons_succ])) (hide (HL.out.alloc _)) (hide (own_at2 W _ _ rfl HL.out.size_le)) (hide (H6.out.later ((Later.refl W).alloc _))) (hide (H15.out.later ((Later.refl W).alloc _))) (hide (apart_new (lt_row H15.out)).symm)
    refine AllReadyN.held rfl (by rfl) (fun K hK => ?_) AllReadyN.nil
    go_simp
    refine hK.out _ _ ?_ (fun hHeld => ?_)
    · exact HT5.out _ (HL.out.alloc _)
    clear hK K
    try simp only [Act.put, List.setIfInBounds_toArray, List.set_cons_zero, List.set_cons_succ]
    refine HG1.out _ _ _ _ ?_
    exact Q6_15_20.out g6 g15 W.heap.size _ _ (hide (by rw [HA0.out]; simp only [Act.put, List.setIfInBounds_toArray, List.set_cons_zero, List.set_cons_succ])) (hide (HL.out.alloc _)) (hide (H6.out.later ((Later.refl W).alloc _))) (hide (H15.out.later ((Later.refl W).alloc _))) (hide (Row.new W _ _)) (hide HL.out.size_le))
  have Q6_20 : Hid (∀ (g6 g20 : Nat) (W : World) (a : Act), Hid (a = ((a0.put (some 47) (.slice (some ⟨g6, 0, none⟩) 1 1)).put (some 7) (.pointer (some ⟨g20, 0, none⟩)))) → Hid (Later wq W) → Hid (Row W g6 23 [.slice Am (n7 - 1) (c7 - 1)]) → Hid (Row W g20 25 [.slice none 0 0, .slice none 0 0, .slice none 0 0]) → Hid (wq.heap.size ≤ g20) → G 9 #[false, true, true, false, true, true, true, false, false, true, true, false, true, true, true, false, false, true, true, false, true, false] a W) := hide (by
    intro g6 g20 W a HA HL H6 H20 HG20
    have hHeld := HT5.out W HL.out
    refine HG2.out _ _ _ _ ?_
    rw [HA.out, HA0.out]
    try simp only [Act.put, List.setIfInBounds_toArray, List.set_cons_zero, List.set_cons_succ]
    refine wpAnyN_ready (rs := [0, 8, 15]) (by kernel_rfl) (by simp) ?_
    refine AllReadyN.held rfl (by rfl) (fun K hK => ?_) ?_
    · go_simp
      refine hK.out _ _ ?_ (fun hHeld => ?_)
      · exact HT5.out _ (HL.out.alloc _)
      clear hK K
      try simp only [Act.put, List.setIfInBounds_toArray, List.set_cons_zero, List.set_cons_succ]
      refine HG1.out _ _ _ _ ?_
      exact Q0_6_20.out (.slice (some ⟨W.heap.size, 0, none⟩) 0 0) g6 g20 _ _ (hide (by rw [HA0.out]; simp only [Act.put, List.setIfInBounds_toArray, List.set_cons_zero, List.set_cons_succ])) (hide (HL.out.alloc _)) (hide (own_at2 W _ _ rfl HL.out.size_le)) (hide (H6.out.later ((Later.refl W).alloc _))) (hide (H20.out.later ((Later.refl W).alloc _))) (hide HG20.out) (hide (apart_new (lt_row H6.out)).symm) (hide (apart_new (lt_row H20.out)).symm)
    refine AllReadyN.held rfl (by rfl) (fun K hK => ?_) ?_
    · go_simp
      refine hK.out _ _ ?_ (fun hHeld => ?_)
      · exact HT5.out _ (HL.out.alloc _)
      clear hK K
      try simp only [Act.put, List.setIfInBounds_toArray, List.set_cons_zero, List.set_cons_succ]
      refine HG1.out _ _ _ _ ?_
      exact Q6_8_20.out (.slice (some ⟨W.heap.size, 0, none⟩) 0 0) g6 g20 _ _ (hide (by rw [HA0.out]; simp only [Act.put, List.setIfInBounds_toArray, List.set_cons_zero, List.set_cons_succ])) (hide (HL.out.alloc _)) (hide (own_at2 W _ _ rfl HL.out.size_le)) (hide (H6.out.later ((Later.refl W).alloc _))) (hide (H20.out.later ((Later.refl W).alloc _))) (hide HG20.out) (hide (apart_new (lt_row H20.out)).symm)
    refine AllReadyN.held rfl (by rfl) (fun K hK => ?_) AllReadyN.nil
    go_simp
    refine hK.out _ _ ?_ (fun hHeld => ?_)
    · exact HT5.out _ (HL.out.alloc _)
    clear hK K
    try simp only [Act.put, List.setIfInBounds_toArray, List.set_cons_zero, List.set_cons_succ]
    refine HG1.out _ _ _ _ ?_
    exact Q6_15_20.out g6 W.heap.size g20 _ _ (hide (by rw [HA0.out]; simp only [Act.put, List.setIfInBounds_toArray, List.set_cons_zero, List.set_cons_succ])) (hide (HL.out.alloc _)) (hide (H6.out.later ((Later.refl W).alloc _))) (hide (Row.new W _ _)) (hide (H20.out.later ((Later.refl W).alloc _))) (hide HG20.out))
  have Q6_8 : Hid (∀ (x49 : Value) (g6 : Nat) (W : World) (a : Act), Hid (a = ((a0.put (some 49) (x49)).put (some 47) (.slice (some ⟨g6, 0, none⟩) 1 1))) → Hid (Later wq W) → Hid (W.ownsRow wq.heap.size 37 4 x49 0 []) → Hid (Row W g6 23 [.slice Am (n7 - 1) (c7 - 1)]) → G 9 #[false, true, true, false, true, true, true, false, true, true, true, false, true, true, true, false, false, true, true, false, false, false] a W) := hide (by
    intro x49 g6 W a HA HL HRR H6
    have hHeld := HT5.out W HL.out
    refine HG2.out _ _ _ _ ?_
    rw [HA.out, HA0.out]
    try simp only [Act.put, List.setIfInBounds_toArray, List.set_cons_zero, List.set_cons_succ]
    refine wpAnyN_ready (rs := [0, 15, 20]) (by kernel_rfl) (by simp) ?_
    refine AllReadyN.held rfl (by rfl) (fun K hK => ?_) ?_
    · go_simp
      refine hK.out _ _ ?_ (fun hHeld => ?_)
      · exact HT5.out _ (HL.out.alloc _)
      clear hK K
      try simp only [Act.put, List.setIfInBounds_toArray, List.set_cons_zero, List.set_cons_succ]
      refine HG1.out _ _ _ _ ?_
      exact Q0_6_8.out (.slice (some ⟨W.heap.size, 0, none⟩) 0 0) x49 g6 _ _ (hide (by rw [HA0.out]; simp only [Act.put, List.setIfInBounds_toArray, List.set_cons_zero, List.set_cons_succ])) (hide (HL.out.alloc _)) (hide (own_at2 W _ _ rfl HL.out.size_le)) (hide (ownsRow_later HRR.out ((Later.refl W).alloc _))) (hide (H6.out.later ((Later.refl W).alloc _))) (hide (apart_new (lt_of2 (World.ownsRow.lt HRR.out))).symm) (hide (apart_new (lt_row H6.out)).symm)
    refine AllReadyN.held rfl (by rfl) (fun K hK => ?_) ?_
    · go_simp
      refine hK.out _ _ ?_ (fun hHeld => ?_)
      · exact HT5.out _ (HL.out.alloc _)
      clear hK K
      try simp only [Act.put, List.setIfInBounds_toArray, List.set_cons_zero, List.set_cons_succ]
      refine HG1.out _ _ _ _ ?_
      exact Q6_8_15.out x49 g6 W.heap.size _ _ (hide (by rw [HA0.out]; simp only [Act.put, List.setIfInBounds_toArray, List.set_cons_zero, List.set_cons_succ])) (hide (HL.out.alloc _)) (hide (ownsRow_later HRR.out ((Later.refl W).alloc _))) (hide (H6.out.later ((Later.refl W).alloc _))) (hide (Row.new W _ _)) (hide (apart_new (lt_of2 (World.ownsRow.lt HRR.out))))
    refine AllReadyN.held rfl (by rfl) (fun K hK => ?_) AllReadyN.nil
    go_simp
    refine hK.out _ _ ?_ (fun hHeld => ?_)
    · exact HT5.out _ (HL.out.alloc _)
    clear hK K
    try simp only [Act.put, List.setIfInBounds_toArray, List.set_cons_zero, List.set_cons_succ]
    refine HG1.out _ _ _ _ ?_
    exact Q6_8_20.out x49 g6 W.heap.size _ _ (hide (by rw [HA0.out]; simp only [Act.put, List.setIfInBounds_toArray, List.set_cons_zero, List.set_cons_succ])) (hide (HL.out.alloc _)) (hide (ownsRow_later HRR.out ((Later.refl W).alloc _))) (hide (H6.out.later ((Later.refl W).alloc _))) (hide (Row.new W _ _)) (hide HL.out.size_le) (hide (apart_new (lt_of2 (World.ownsRow.lt HRR.out)))))
  have Q8_15 : Hid (∀ (x49 : Value) (g15 : Nat) (W : World) (a : Act), Hid (a = ((a0.put (some 49) (x49)).put (some 56) (.slice (some ⟨g15, 0, none⟩) 1 1))) → Hid (Later wq W) → Hid (W.ownsRow wq.heap.size 37 4 x49 0 []) → Hid (Row W g15 37 [.bool sm, .slice Xm nx cx, .bool sm', .slice Xm' nx' cx']) → Hid (Apart x49.ownBlock (some g15)) → G 9 #[false, true, true, false, true, true, false, false, true, true, true, false, true, true, true, true, false, true, true, false, false, false] a W) := hide (by
    intro x49 g15 W a HA HL HRR H15 PR15
    have hHeld := HT5.out W HL.out
    refine HG2.out _ _ _ _ ?_
    rw [HA.out, HA0.out]
    try simp only [Act.put, List.setIfInBounds_toArray, List.set_cons_zero, List.set_cons_succ]
    refine wpAnyN_ready (rs := [0, 6, 20]) (by kernel_rfl) (by simp) ?_
    refine AllReadyN.held rfl (by rfl) (fun K hK => ?_) ?_
    · go_simp
      refine hK.out _ _ ?_ (fun hHeld => ?_)
      · exact HT5.out _ (HL.out.alloc _)
      clear hK K
      try simp only [Act.put, List.setIfInBounds_toArray, List.set_cons_zero, List.set_cons_succ]
      refine HG1.out _ _ _ _ ?_
      exact Q0_8_15.out (.slice (some ⟨W.heap.size, 0, none⟩) 0 0) x49 g15 _ _ (hide (by rw [HA0.out]; simp only [Act.put, List.setIfInBounds_toArray, List.set_cons_zero, List.set_cons_succ])) (hide (HL.out.alloc _)) (hide (own_at2 W _ _ rfl HL.out.size_le)) (hide (ownsRow_later HRR.out ((Later.refl W).alloc _))) (hide (H15.out.later ((Later.refl W).alloc _))) (hide (apart_new (lt_of2 (World.ownsRow.lt HRR.out))).symm) (hide (apart_new (lt_row H15.out)).symm) (hide PR15.out)
    refine AllReadyN.held rfl (by rfl) (fun K hK => ?_) ?_
    · go_simp
      refine hK.out _ _ ?_ (fun hHeld => ?_)
      · exact HT5.out _ (HL.out.alloc _)
      clear hK K
      try simp only [Act.put, List.setIfInBounds_toArray, List.set_cons_zero, List.set_cons_succ]
      refine HG1.out _ _ _ _ ?_
      exact Q6_8_15.out x49 W.heap.size g15 _ _ (hide (by rw [HA0.out]; simp only [Act.put, List.setIfInBounds_toArray, List.set_cons_zero, List.set_cons_succ])) (hide (HL.out.alloc _)) (hide (ownsRow_later HRR.out ((Later.refl W).alloc _))) (hide (Row.new W _ _)) (hide (H15.out.later ((Later.refl W).alloc _))) (hide PR15.out)
    refine AllReadyN.held rfl (by rfl) (fun K hK => ?_) AllReadyN.nil
    go_simp
    refine hK.out _ _ ?_ (fun hHeld => ?_)
    · exact HT5.out _ (HL.out.alloc _)
    clear hK K
    try simp only [Act.put, List.setIfInBounds_toArray, List.set_cons_zero, List.set_cons_succ]
    refine HG1.out _ _ _ _ ?_
    exact Q8_15_20.out x49 g15 W.heap.size _ _ (hide (by rw [HA0.out]; simp only [Act.put, List.setIfInBounds_toArray, List.set_cons_zero, List.set_cons_succ])) (hide (HL.out.alloc _)) (hide (ownsRow_later HRR.out ((Later.refl W).alloc _))) (hide (H15.out.later ((Later.refl W).alloc _))) (hide (Row.new W _ _)) (hide HL.out.size_le) (hide PR15.out) (hide (apart_new (lt_of2 (World.ownsRow.lt HRR.out)))))
  have Q8_20 : Hid (∀ (x49 : Value) (g20 : Nat) (W : World) (a : Act), Hid (a = ((a0.put (some 49) (x49)).put (some 7) (.pointer (some ⟨g20, 0, none⟩)))) → Hid (Later wq W) → Hid (W.ownsRow wq.heap.size 37 4 x49 0 []) → Hid (Row W g20 25 [.slice none 0 0, .slice none 0 0, .slice none 0 0]) → Hid (wq.heap.size ≤ g20) → Hid (Apart x49.ownBlock (some g20)) → G 9 #[false, true, true, false, true, true, false, false, true, true, true, false, true, true, true, false, false, true, true, false, true, false] a W) := hide (by
    intro x49 g20 W a HA HL HRR H20 HG20 PR20
    have hHeld := HT5.out W HL.out
    refine HG2.out _ _ _ _ ?_
    rw [HA.out, HA0.out]
    try simp only [Act.put, List.setIfInBounds_toArray, List.set_cons_zero, List.set_cons_succ]
    refine wpAnyN_ready (rs := [0, 6, 15]) (by kernel_rfl) (by simp) ?_
    refine AllReadyN.held rfl (by rfl) (fun K hK => ?_) ?_
    · go_simp
      refine hK.out _ _ ?_ (fun hHeld => ?_)
      · exact HT5.out _ (HL.out.alloc _)
      clear hK K
      try simp only [Act.put, List.setIfInBounds_toArray, List.set_cons_zero, List.set_cons_succ]
      refine HG1.out _ _ _ _ ?_
      exact Q0_8_20.out (.slice (some ⟨W.heap.size, 0, none⟩) 0 0) x49 g20 _ _ (hide (by rw [HA0.out]; simp only [Act.put, List.setIfInBounds_toArray, List.set_cons_zero, List.set_cons_succ])) (hide (HL.out.alloc _)) (hide (own_at2 W _ _ rfl HL.out.size_le)) (hide (ownsRow_later HRR.out ((Later.refl W).alloc _))) (hide (H20.out.later ((Later.refl W).alloc _))) (hide HG20.out) (hide (apart_new (lt_of2 (World.ownsRow.lt HRR.out))).symm) (hide (apart_new (lt_row H20.out)).symm) (hide PR20.out)
    refine AllReadyN.held rfl (by rfl) (fun K hK => ?_) ?_
    · go_simp
      refine hK.out _ _ ?_ (fun hHeld => ?_)
      · exact HT5.out _ (HL.out.alloc _)
      clear hK K
      try simp only [Act.put, List.setIfInBounds_toArray, List.set_cons_zero, List.set_cons_succ]
      refine HG1.out _ _ _ _ ?_
      exact Q6_8_20.out x49 W.heap.size g20 _ _ (hide (by rw [HA0.out]; simp only [Act.put, List.setIfInBounds_toArray, List.set_cons_zero, List.set_cons_succ])) (hide (HL.out.alloc _)) (hide (ownsRow_later HRR.out ((Later.refl W).alloc _))) (hide (Row.new W _ _)) (hide (H20.out.later ((Later.refl W).alloc _))) (hide HG20.out) (hide PR20.out)
    refine AllReadyN.held rfl (by rfl) (fun K hK => ?_) AllReadyN.nil
    go_simp
    refine hK.out _ _ ?_ (fun hHeld => ?_)
    · exact HT5.out _ (HL.out.alloc _)
    clear hK K
    try simp only [Act.put, List.setIfInBounds_toArray, List.set_cons_zero, List.set_cons_succ]
    refine HG1.out _ _ _ _ ?_
    exact Q8_15_20.out x49 W.heap.size g20 _ _ (hide (by rw [HA0.out]; simp only [Act.put, List.setIfInBounds_toArray, List.set_cons_zero, List.set_cons_succ])) (hide (HL.out.alloc _)) (hide (ownsRow_later HRR.out ((Later.refl W).alloc _))) (hide (Row.new W _ _)) (hide (H20.out.later ((Later.refl W).alloc _))) (hide HG20.out) (hide (apart_new (lt_of2 (World.ownsRow.lt HRR.out)))) (hide PR20.out))
  have Q0 : Hid (∀ (x41 : Value) (W : World) (a : Act), Hid (a = (a0.put (some 41) (x41))) → Hid (Later wq W) → Hid (W.ownsRow wq.heap.size 23 1 x41 0 []) → G 10 #[true, true, true, false, true, true, false, false, false, true, true, false, true, true, true, false, false, true, true, false, false, false] a W) := hide (by
    intro x41 W a HA HL HT
    have hHeld := HT5.out W HL.out
    refine HG2.out _ _ _ _ ?_
    rw [HA.out, HA0.out]
    try simp only [Act.put, List.setIfInBounds_toArray, List.set_cons_zero, List.set_cons_succ]
    refine wpAnyN_ready (rs := [3, 6, 8, 15, 20]) (by kernel_rfl) (by simp) ?_
    refine AllReadyN.held rfl (by rfl) (fun K hK => ?_) ?_
    · refine wp_append_tab4 _ _ rfl (EM.agree bv) rfl HT.out rfl HTA.out HL.out HAP.out (by have := HLA.out; omega) ?_
      intro x44 W2 k1 k2 k3
      show K (Act.put _ (some 44) x44) W2
      change W.grownBy W2 x41.ownBlock at k2
      change x44.ownBlock = x41.ownBlock ∨ x44.ownBlock = some W.heap.size at k3
      refine hK.out _ _ ?_ (fun hHeld => ?_)
      · exact HT5.out _ (HL.out.grown k2 (base_le (World.ownsRow.lt HT.out)))
      clear hK K
      try simp only [Act.put, List.setIfInBounds_toArray, List.set_cons_zero, List.set_cons_succ]
      refine HG1.out _ _ _ _ ?_
      exact Q0_3.out x41 x44 _ _ (hide (by rw [HA0.out]; simp only [Act.put, List.setIfInBounds_toArray, List.set_cons_zero, List.set_cons_succ])) (hide (HL.out.grown k2 (base_le (World.ownsRow.lt HT.out)))) (hide k1)
    refine AllReadyN.held rfl (by rfl) (fun K hK => ?_) ?_
    · go_simp
      refine hK.out _ _ ?_ (fun hHeld => ?_)
      · exact HT5.out _ (HL.out.alloc _)
      clear hK K
      try simp only [Act.put, List.setIfInBounds_toArray, List.set_cons_zero, List.set_cons_succ]
      refine HG1.out _ _ _ _ ?_
      exact Q0_6.out x41 W.heap.size _ _ (hide (by rw [HA0.out]; simp only [Act.put, List.setIfInBounds_toArray, List.set_cons_zero, List.set_cons_succ])) (hide (HL.out.alloc _)) (hide (ownsRow_later HT.out ((Later.refl W).alloc _))) (hide (Row.new W _ _)) (hide (apart_new (lt_of2 (World.ownsRow.lt HT.out))))
    refine AllReadyN.held rfl (by rfl) (fun K hK => ?_) ?_
    · go_simp
      refine hK.out _ _ ?_ (fun hHeld => ?_)
      · exact HT5.out _ (HL.out.alloc _)
      clear hK K
      try simp only [Act.put, List.setIfInBounds_toArray, List.set_cons_zero, List.set_cons_succ]
      refine HG1.out _ _ _ _ ?_
      exact Q0_8.out x41 (.slice (some ⟨W.heap.size, 0, none⟩) 0 0) _ _ (hide (by rw [HA0.out]; simp only [Act.put, List.setIfInBounds_toArray, List.set_cons_zero, List.set_cons_succ])) (hide (HL.out.alloc _)) (hide (ownsRow_later HT.out ((Later.refl W).alloc _))) (hide (own_at2 W _ _ rfl HL.out.size_le)) (hide (apart_new (lt_of2 (World.ownsRow.lt HT.out))))
    refine AllReadyN.held rfl (by rfl) (fun K hK => ?_) ?_
    · go_simp
      refine hK.out _ _ ?_ (fun hHeld => ?_)
      · exact HT5.out _ (HL.out.alloc _)
      clear hK K
      try simp only [Act.put, List.setIfInBounds_toArray, List.set_cons_zero, List.set_cons_succ]
      refine HG1.out _ _ _ _ ?_
      exact Q0_15.out x41 W.heap.size _ _ (hide (by rw [HA0.out]; simp only [Act.put, List.setIfInBounds_toArray, List.set_cons_zero, List.set_cons_succ])) (hide (HL.out.alloc _)) (hide (ownsRow_later HT.out ((Later.refl W).alloc _))) (hide (Row.new W _ _)) (hide (apart_new (lt_of2 (World.ownsRow.lt HT.out))))
    refine AllReadyN.held rfl (by rfl) (fun K hK => ?_) AllReadyN.nil
    go_simp
    refine hK.out _ _ ?_ (fun hHeld => ?_)
    · exact HT5.out _ (HL.out.alloc _)
    clear hK K
    try simp only [Act.put, List.setIfInBounds_toArray, List.set_cons_zero, List.set_cons_succ]
    refine HG1.out _ _ _ _ ?_
    exact Q0_20.out x41 W.heap.size _ _ (hide (by rw [HA0.out]; simp only [Act.put, List.setIfInBounds_toArray, List.set_cons_zero, List.set_cons_succ])) (hide (HL.out.alloc _)) (hide (ownsRow_later HT.out ((Later.refl W).alloc _))) (hide (Row.new W _ _)) (hide HL.out.size_le) (hide (apart_new (lt_of2 (World.ownsRow.lt HT.out)))))
  have Q15 : Hid (∀ (g15 : Nat) (W : World) (a : Act), Hid (a = (a0.put (some 56) (.slice (some ⟨g15, 0, none⟩) 1 1))) → Hid (Later wq W) → Hid (Row W g15 37 [.bool sm, .slice Xm nx cx, .bool sm', .slice Xm' nx' cx']) → G 10 #[false, true, true, false, true, true, false, false, false, true, true, false, true, true, true, true, false, true, true, false, false, false] a W) := hide (by
    intro g15 W a HA HL H15
    have hHeld := HT5.out W HL.out
    refine HG2.out _ _ _ _ ?_
    rw [HA.out, HA0.out]
    try simp only [Act.put, List.setIfInBounds_toArray, List.set_cons_zero, List.set_cons_succ]
    refine wpAnyN_ready (rs := [0, 6, 8, 20]) (by kernel_rfl) (by simp) ?_
    refine AllReadyN.held rfl (by rfl) (fun K hK => ?_) ?_
    · go_simp
      refine hK.out _ _ ?_ (fun hHeld => ?_)
      · exact HT5.out _ (HL.out.alloc _)
      clear hK K
      try simp only [Act.put, List.setIfInBounds_toArray, List.set_cons_zero, List.set_cons_succ]
      refine HG1.out _ _ _ _ ?_
      exact Q0_15.out (.slice (some ⟨W.heap.size, 0, none⟩) 0 0) g15 _ _ (hide (by rw [HA0.out]; simp only [Act.put, List.setIfInBounds_toArray, List.set_cons_zero, List.set_cons_succ])) (hide (HL.out.alloc _)) (hide (own_at2 W _ _ rfl HL.out.size_le)) (hide (H15.out.later ((Later.refl W).alloc _))) (hide (apart_new (lt_row H15.out)).symm)
    refine AllReadyN.held rfl (by rfl) (fun K hK => ?_) ?_
    · go_simp
      refine hK.out _ _ ?_ (fun hHeld => ?_)
      · exact HT5.out _ (HL.out.alloc _)
      clear hK K
      try simp only [Act.put, List.setIfInBounds_toArray, List.set_cons_zero, List.set_cons_succ]
      refine HG1.out _ _ _ _ ?_
      exact Q6_15.out W.heap.size g15 _ _ (hide (by rw [HA0.out]; simp only [Act.put, List.setIfInBounds_toArray, List.set_cons_zero, List.set_cons_succ])) (hide (HL.out.alloc _)) (hide (Row.new W _ _)) (hide (H15.out.later ((Later.refl W).alloc _)))
    refine AllReadyN.held rfl (by rfl) (fun K hK => ?_) ?_
    · go_simp
      refine hK.out _ _ ?_ (fun hHeld => ?_)
      · exact HT5.out _ (HL.out.alloc _)
      clear hK K
      try simp only [Act.put, List.setIfInBounds_toArray, List.set_cons_zero, List.set_cons_succ]
      refine HG1.out _ _ _ _ ?_
      exact Q8_15.out (.slice (some ⟨W.heap.size, 0, none⟩) 0 0) g15 _ _ (hide (by rw [HA0.out]; simp only [Act.put, List.setIfInBounds_toArray, List.set_cons_zero, List.set_cons_succ])) (hide (HL.out.alloc _)) (hide (own_at2 W _ _ rfl HL.out.size_le)) (hide (H15.out.later ((Later.refl W).alloc _))) (hide (apart_new (lt_row H15.out)).symm)
    refine AllReadyN.held rfl (by rfl) (fun K hK => ?_) AllReadyN.nil
    go_simp
    refine hK.out _ _ ?_ (fun hHeld => ?_)
    · exact HT5.out _ (HL.out.alloc _)
    clear hK K
    try simp only [Act.put, List.setIfInBounds_toArray, List.set_cons_zero, List.set_cons_succ]
    refine HG1.out _ _ _ _ ?_
    exact Q15_20.out g15 W.heap.size _ _ (hide (by rw [HA0.out]; simp only [Act.put, List.setIfInBounds_toArray, List.set_cons_zero, List.set_cons_succ])) (hide (HL.out.alloc _)) (hide (H15.out.later ((Later.refl W).alloc _))) (hide (Row.new W _ _)) (hide HL.out.size_le))
  have Q20 : Hid (∀ (g20 : Nat) (W : World) (a : Act), Hid (a = (a0.put (some 7) (.pointer (some ⟨g20, 0, none⟩)))) → Hid (Later wq W) → Hid (Row W g20 25 [.slice none 0 0, .slice none 0 0, .slice none 0 0]) → Hid (wq.heap.size ≤ g20) → G 10 #[false, true, true, false, true, true, false, false, false, true, true, false, true, true, true, false, false, true, true, false, true, false] a W) := hide (by
    intro g20 W a HA HL H20 HG20
    have hHeld := HT5.out W HL.out
    refine HG2.out _ _ _ _ ?_
    rw [HA.out, HA0.out]
    try simp only [Act.put, List.setIfInBounds_toArray, List.set_cons_zero, List.set_cons_succ]
    refine wpAnyN_ready (rs := [0, 6, 8, 15]) (by kernel_rfl) (by simp) ?_
    refine AllReadyN.held rfl (by rfl) (fun K hK => ?_) ?_
    · go_simp
      refine hK.out _ _ ?_ (fun hHeld => ?_)
      · exact HT5.out _ (HL.out.alloc _)
      clear hK K
      try simp only [Act.put, List.setIfInBounds_toArray, List.set_cons_zero, List.set_cons_succ]
      refine HG1.out _ _ _ _ ?_
      exact Q0_20.out (.slice (some ⟨W.heap.size, 0, none⟩) 0 0) g20 _ _ (hide (by rw [HA0.out]; simp only [Act.put, List.setIfInBounds_toArray, List.set_cons_zero, List.set_cons_succ])) (hide (HL.out.alloc _)) (hide (own_at2 W _ _ rfl HL.out.size_le)) (hide (H20.out.later ((Later.refl W).alloc _))) (hide HG20.out) (hide (apart_new (lt_row H20.out)).symm)
    refine AllReadyN.held rfl (by rfl) (fun K hK => ?_) ?_
    · go_simp
      refine hK.out _ _ ?_ (fun hHeld => ?_)
      · exact HT5.out _ (HL.out.alloc _)
      clear hK K
      try simp only [Act.put, List.setIfInBounds_toArray, List.set_cons_zero, List.set_cons_succ]
      refine HG1.out _ _ _ _ ?_
      exact Q6_20.out W.heap.size g20 _ _ (hide (by rw [HA0.out]; simp only [Act.put, List.setIfInBounds_toArray, List.set_cons_zero, List.set_cons_succ])) (hide (HL.out.alloc _)) (hide (Row.new W _ _)) (hide (H20.out.later ((Later.refl W).alloc _))) (hide HG20.out)
    refine AllReadyN.held rfl (by rfl) (fun K hK => ?_) ?_
    · go_simp
      refine hK.out _ _ ?_ (fun hHeld => ?_)
      · exact HT5.out _ (HL.out.alloc _)
      clear hK K
      try simp only [Act.put, List.setIfInBounds_toArray, List.set_cons_zero, List.set_cons_succ]
      refine HG1.out _ _ _ _ ?_
      exact Q8_20.out (.slice (some ⟨W.heap.size, 0, none⟩) 0 0) g20 _ _ (hide (by rw [HA0.out]; simp only [Act.put, List.setIfInBounds_toArray, List.set_cons_zero, List.set_cons_succ])) (hide (HL.out.alloc _)) (hide (own_at2 W _ _ rfl HL.out.size_le)) (hide (H20.out.later ((Later.refl W).alloc _))) (hide HG20.out) (hide (apart_new (lt_row H20.out)).symm)
    refine AllReadyN.held rfl (by rfl) (fun K hK => ?_) AllReadyN.nil
    go_simp
    refine hK.out _ _ ?_ (fun hHeld => ?_)
    · exact HT5.out _ (HL.out.alloc _)
    clear hK K
    try simp only [Act.put, List.setIfInBounds_toArray, List.set_cons_zero, List.set_cons_succ]
    refine HG1.out _ _ _ _ ?_
    exact Q15_20.out W.heap.size g20 _ _ (hide (by rw [HA0.out]; simp only [Act.put, List.setIfInBounds_toArray, List.set_cons_zero, List.set_cons_succ])) (hide (HL.out.alloc _)) (hide (Row.new W _ _)) (hide (H20.out.later ((Later.refl W).alloc _))) (hide HG20.out))
  have Q6 : Hid (∀ (g6 : Nat) (W : World) (a : Act), Hid (a = (a0.put (some 47) (.slice (some ⟨g6, 0, none⟩) 1 1))) → Hid (Later wq W) → Hid (Row W g6 23 [.slice Am (n7 - 1) (c7 - 1)]) → G 10 #[false, true, true, false, true, true, true, false, false, true, true, false, true, true, true, false, false, true, true, false, false, false] a W) := hide (by
    intro g6 W a HA HL H6
    have hHeld := HT5.out W HL.out
    refine HG2.out _ _ _ _ ?_
    rw [HA.out, HA0.out]
    try simp only [Act.put, List.setIfInBounds_toArray, List.set_cons_zero, List.set_cons_succ]
    refine wpAnyN_ready (rs := [0, 8, 15, 20]) (by kernel_rfl) (by simp) ?_
    refine AllReadyN.held rfl (by rfl) (fun K hK => ?_) ?_
    · go_simp
      refine hK.out _ _ ?_ (fun hHeld => ?_)
      · exact HT5.out _ (HL.out.alloc _)
      clear hK K
      try simp only [Act.put, List.setIfInBounds_toArray, List.set_cons_zero, List.set_cons_succ]
      refine HG1.out _ _ _ _ ?_
      exact Q0_6.out (.slice (some ⟨W.heap.size, 0, none⟩) 0 0) g6 _ _ (hide (by rw [HA0.out]; simp only [Act.put, List.setIfInBounds_toArray, List.set_cons_zero, List.set_cons_succ])) (hide (HL.out.alloc _)) (hide (own_at2 W _ _ rfl HL.out.size_le)) (hide (H6.out.later ((Later.refl W).alloc _))) (hide (apart_new (lt_row H6.out)).symm)
    refine AllReadyN.held rfl (by rfl) (fun K hK => ?_) ?_
    · go_simp
      refine hK.out _ _ ?_ (fun hHeld => ?_)
      · exact HT5.out _ (HL.out.alloc _)
      clear hK K
      try simp only [Act.put, List.setIfInBounds_toArray, List.set_cons_zero, List.set_cons_succ]
      refine HG1.out _ _ _ _ ?_
      exact Q6_8.out (.slice (some ⟨W.heap.size, 0, none⟩) 0 0) g6 _ _ (hide (by rw [HA0.out]; simp only [Act.put, List.setIfInBounds_toArray, List.set_cons_zero, List.set_cons_succ])) (hide (HL.out.alloc _)) (hide (own_at2 W _ _ rfl HL.out.size_le)) (hide (H6.out.later ((Later.refl W).alloc _)))
    refine AllReadyN.held rfl (by rfl) (fun K hK => ?_) ?_
    · go_simp
      refine hK.out _ _ ?_ (fun hHeld => ?_)
      · exact HT5.out _ (HL.out.alloc _)
      clear hK K
      try simp only [Act.put, List.setIfInBounds_toArray, List.set_cons_zero, List.set_cons_succ]
      refine HG1.out _ _ _ _ ?_
      exact Q6_15.out g6 W.heap.size _ _ (hide (by rw [HA0.out]; simp only [Act.put, List.setIfInBounds_toArray, List.set_cons_zero, List.set_cons_succ])) (hide (HL.out.alloc _)) (hide (H6.out.later ((Later.refl W).alloc _))) (hide (Row.new W _ _))
    refine AllReadyN.held rfl (by rfl) (fun K hK => ?_) AllReadyN.nil
    go_simp
    refine hK.out _ _ ?_ (fun hHeld => ?_)
    · exact HT5.out _ (HL.out.alloc _)
    clear hK K
    try simp only [Act.put, List.setIfInBounds_toArray, List.set_cons_zero, List.set_cons_succ]
    refine HG1.out _ _ _ _ ?_
    exact Q6_20.out g6 W.heap.size _ _ (hide (by rw [HA0.out]; simp only [Act.put, List.setIfInBounds_toArray, List.set_cons_zero, List.set_cons_succ])) (hide (HL.out.alloc _)) (hide (H6.out.later ((Later.refl W).alloc _))) (hide (Row.new W _ _)) (hide HL.out.size_le))
  have Q8 : Hid (∀ (x49 : Value) (W : World) (a : Act), Hid (a = (a0.put (some 49) (x49))) → Hid (Later wq W) → Hid (W.ownsRow wq.heap.size 37 4 x49 0 []) → G 10 #[false, true, true, false, true, true, false, false, true, true, true, false, true, true, true, false, false, true, true, false, false, false] a W) := hide (by
    intro x49 W a HA HL HRR
    have hHeld := HT5.out W HL.out
    refine HG2.out _ _ _ _ ?_
    rw [HA.out, HA0.out]
    try simp only [Act.put, List.setIfInBounds_toArray, List.set_cons_zero, List.set_cons_succ]
    refine wpAnyN_ready (rs := [0, 6, 15, 20]) (by kernel_rfl) (by simp) ?_
    refine AllReadyN.held rfl (by rfl) (fun K hK => ?_) ?_
    · go_simp
      refine hK.out _ _ ?_ (fun hHeld => ?_)
      · exact HT5.out _ (HL.out.alloc _)
      clear hK K
      try simp only [Act.put, List.setIfInBounds_toArray, List.set_cons_zero, List.set_cons_succ]
      refine HG1.out _ _ _ _ ?_
      exact Q0_8.out (.slice (some ⟨W.heap.size, 0, none⟩) 0 0) x49 _ _ (hide (by rw [HA0.out]; simp only [Act.put, List.setIfInBounds_toArray, List.set_cons_zero, List.set_cons_succ])) (hide (HL.out.alloc _)) (hide (own_at2 W _ _ rfl HL.out.size_le)) (hide (ownsRow_later HRR.out ((Later.refl W).alloc _))) (hide (apart_new (lt_of2 (World.ownsRow.lt HRR.out))).symm)
    refine AllReadyN.held rfl (by rfl) (fun K hK => ?_) ?_
    · go_simp
      refine hK.out _ _ ?_ (fun hHeld => ?_)
      · exact HT5.out _ (HL.out.alloc _)
      clear hK K
      try simp only [Act.put, List.setIfInBounds_toArray, List.set_cons_zero, List.set_cons_succ]
      refine HG1.out _ _ _ _ ?_
      exact Q6_8.out x49 W.heap.size _ _ (hide (by rw [HA0.out]; simp only [Act.put, List.setIfInBounds_toArray, List.set_cons_zero, List.set_cons_succ])) (hide (HL.out.alloc _)) (hide (ownsRow_later HRR.out ((Later.refl W).alloc _))) (hide (Row.new W _ _))
    refine AllReadyN.held rfl (by rfl) (fun K hK => ?_) ?_
    · go_simp
      refine hK.out _ _ ?_ (fun hHeld => ?_)
      · exact HT5.out _ (HL.out.alloc _)
      clear hK K
      try simp only [Act.put, List.setIfInBounds_toArray, List.set_cons_zero, List.set_cons_succ]
      refine HG1.out _ _ _ _ ?_
      exact Q8_15.out x49 W.heap.size _ _ (hide (by rw [HA0.out]; simp only [Act.put, List.setIfInBounds_toArray, List.set_cons_zero, List.set_cons_succ])) (hide (HL.out.alloc _)) (hide (ownsRow_later HRR.out ((Later.refl W).alloc _))) (hide (Row.new W _ _)) (hide (apart_new (lt_of2 (World.ownsRow.lt HRR.out))))
    refine AllReadyN.held rfl (by rfl) (fun K hK => ?_) AllReadyN.nil
    go_simp
    refine hK.out _ _ ?_ (fun hHeld => ?_)
    · exact HT5.out _ (HL.out.alloc _)
    clear hK K
    try simp only [Act.put, List.setIfInBounds_toArray, List.set_cons_zero, List.set_cons_succ]
    refine HG1.out _ _ _ _ ?_
    exact Q8_20.out x49 W.heap.size _ _ (hide (by rw [HA0.out]; simp only [Act.put, List.setIfInBounds_toArray, List.set_cons_zero, List.set_cons_succ])) (hide (HL.out.alloc _)) (hide (ownsRow_later HRR.out ((Later.refl W).alloc _))) (hide (Row.new W _ _)) (hide HL.out.size_le) (hide (apart_new (lt_of2 (World.ownsRow.lt HRR.out)))))
  have Q : Hid (∀ (W : World) (a : Act), Hid (a = a0) → Hid (Later wq W) → G 11 #[false, true, true, false, true, true, false, false, false, true, true, false, true, true, true, false, false, true, true, false, false, false] a W) := hide (by
    intro  W a HA HL
    have hHeld := HT5.out W HL.out
    refine HG2.out _ _ _ _ ?_
    rw [HA.out, HA0.out]
    try simp only [Act.put, List.setIfInBounds_toArray, List.set_cons_zero, List.set_cons_succ]
    refine wpAnyN_ready (rs := [0, 6, 8, 15, 20]) (by kernel_rfl) (by simp) ?_
    refine AllReadyN.held rfl (by rfl) (fun K hK => ?_) ?_
    · go_simp
      refine hK.out _ _ ?_ (fun hHeld => ?_)
      · exact HT5.out _ (HL.out.alloc _)
      clear hK K
      try simp only [Act.put, List.setIfInBounds_toArray, List.set_cons_zero, List.set_cons_succ]
      refine HG1.out _ _ _ _ ?_
      exact Q0.out (.slice (some ⟨W.heap.size, 0, none⟩) 0 0) _ _ (hide (by rw [HA0.out]; simp only [Act.put, List.setIfInBounds_toArray, List.set_cons_zero, List.set_cons_succ])) (hide (HL.out.alloc _)) (hide (own_at2 W _ _ rfl HL.out.size_le))
    refine AllReadyN.held rfl (by rfl) (fun K hK => ?_) ?_
    · go_simp
      refine hK.out _ _ ?_ (fun hHeld => ?_)
      · exact HT5.out _ (HL.out.alloc _)
      clear hK K
      try simp only [Act.put, List.setIfInBounds_toArray, List.set_cons_zero, List.set_cons_succ]
      refine HG1.out _ _ _ _ ?_
      exact Q6.out W.heap.size _ _ (hide (by rw [HA0.out]; simp only [Act.put, List.setIfInBounds_toArray, List.set_cons_zero, List.set_cons_succ])) (hide (HL.out.alloc _)) (hide (Row.new W _ _))
    refine AllReadyN.held rfl (by rfl) (fun K hK => ?_) ?_
    · go_simp
      refine hK.out _ _ ?_ (fun hHeld => ?_)
      · exact HT5.out _ (HL.out.alloc _)
      clear hK K
      try simp only [Act.put, List.setIfInBounds_toArray, List.set_cons_zero, List.set_cons_succ]
      refine HG1.out _ _ _ _ ?_
      exact Q8.out (.slice (some ⟨W.heap.size, 0, none⟩) 0 0) _ _ (hide (by rw [HA0.out]; simp only [Act.put, List.setIfInBounds_toArray, List.set_cons_zero, List.set_cons_succ])) (hide (HL.out.alloc _)) (hide (own_at2 W _ _ rfl HL.out.size_le))
    refine AllReadyN.held rfl (by rfl) (fun K hK => ?_) ?_
    · go_simp
      refine hK.out _ _ ?_ (fun hHeld => ?_)
      · exact HT5.out _ (HL.out.alloc _)
      clear hK K
      try simp only [Act.put, List.setIfInBounds_toArray, List.set_cons_zero, List.set_cons_succ]
      refine HG1.out _ _ _ _ ?_
      exact Q15.out W.heap.size _ _ (hide (by rw [HA0.out]; simp only [Act.put, List.setIfInBounds_toArray, List.set_cons_zero, List.set_cons_succ])) (hide (HL.out.alloc _)) (hide (Row.new W _ _))
    refine AllReadyN.held rfl (by rfl) (fun K hK => ?_) AllReadyN.nil
    go_simp
    refine hK.out _ _ ?_ (fun hHeld => ?_)
    · exact HT5.out _ (HL.out.alloc _)
    clear hK K
    try simp only [Act.put, List.setIfInBounds_toArray, List.set_cons_zero, List.set_cons_succ]
    refine HG1.out _ _ _ _ ?_
    exact Q20.out W.heap.size _ _ (hide (by rw [HA0.out]; simp only [Act.put, List.setIfInBounds_toArray, List.set_cons_zero, List.set_cons_succ])) (hide (HL.out.alloc _)) (hide (Row.new W _ _)) (hide HL.out.size_le))
  exact Q.out wq a0 (hide rfl) (hide (Later.refl _))
end Go.Proofs.YthncinngkfflgaaGreat
