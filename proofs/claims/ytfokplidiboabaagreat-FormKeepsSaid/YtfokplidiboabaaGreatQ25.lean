/- Problems: awake (the laws), whole. -/
import Derived.Test.YtfokplidiboabaaGreatQ24
import Derived.Test.YtfokplidiboabaaGreatQ8
set_option linter.unusedVariables false
set_option linter.unusedSimpArgs false
set_option maxRecDepth 100000
namespace Go.Proofs.YtfokplidiboabaaGreat
open Go.RowKit Go.Shelf
attribute [local go_sem ↓] Go.wp_at_zero Go.wp_at_succ

theorem results_b {fn : Func} {t : Tmp} {tmps : Array Value} {W : World} {b : Bool} (h : fn.results = #[.tmp t]) (hp : tmps[t]?.getD undef = .bool b) : (results fn tmps).run Tryz.prog W = .ok (.bool b) W := by
  simp [results, h, hp, go_sem]

set_option maxHeartbeats 32000000 in
theorem awake11_calls (w : World) : Calls Tryz.prog 15 #[] w (RetV w (.bool true)) := by
  go_enter Tryz.func15, Tryz.ntmps15
  go_wp2_with fail
  refine (of11_calls _ 1 (by omega) (by omega) 1 div_1).mono ?_
  rintro e w1 ⟨v1, rfl, o1, b1⟩
  obtain ⟨s1, P1, q1, e1, P1', q1', e1', rfl, o1⟩ := o1.open_; have O1 := hide o1; clear o1
  go_wp2_with fail
  refine (of11_calls _ 1 (by omega) (by omega) 1 div_1).mono ?_
  rintro e w2 ⟨v2, rfl, o2, b2⟩
  obtain ⟨s2, P2, q2, e2, P2', q2', e2', rfl, o2⟩ := o2.open_; have O2 := hide o2; clear o2
  go_wp2_with fail
  refine (of11_calls _ 2 (by omega) (by omega) 2 div_2).mono ?_
  rintro e w3 ⟨v3, rfl, o3, b3⟩
  obtain ⟨s3, P3, q3, e3, P3', q3', e3', rfl, o3⟩ := o3.open_; have O3 := hide o3; clear o3
  go_wp2_with fail
  refine (of11_calls _ 0 (by omega) (by omega) 0 div_0).mono ?_
  rintro e w4 ⟨v4, rfl, o4, b4⟩
  obtain ⟨s4, P4, q4, e4, P4', q4', e4', rfl, o4⟩ := o4.open_; have O4 := hide o4; clear o4
  go_wp2_with fail
  refine (of11_calls _ 0 (by omega) (by omega) 0 div_0).mono ?_
  rintro e w5 ⟨v5, rfl, o5, b5⟩
  obtain ⟨s5, P5, q5, e5, P5', q5', e5', rfl, o5⟩ := o5.open_; have O5 := hide o5; clear o5
  go_upto_region 2 with fail
  obtain ⟨wl, hwl⟩ : ∃ W, W = ((w5.alloc (Obj.cells #[Value.bool s5, Value.slice P5 q5 e5, Value.bool false, Value.slice P5' q5' e5'] 36)).alloc (Obj.cells #[Value.bool true] 4)).alloc (Obj.cells #[Value.slice (some ⟨w1.heap.size, 0, none⟩) 1 1, Value.slice (some ⟨w3.heap.size, 0, none⟩) 1 1, Value.slice (some ⟨w4.heap.size, 0, none⟩) 1 1, Value.slice (some ⟨w5.heap.size, 0, none⟩) 1 1, Value.slice (some ⟨w5.heap.size + 1, 0, none⟩) 1 1] 26) := ⟨_, rfl⟩
  have k5 : Later w5 wl := by rw [hwl]; exact (((Later.refl _).alloc _).alloc _).alloc _
  have k4' := b5.trans k5
  have k4 : Later w4 wl := ((Later.refl _).alloc _).trans k4'
  have k3' := b4.trans k4
  have k3 : Later w3 wl := ((Later.refl _).alloc _).trans k3'
  have k2' := b3.trans k3
  have k2 : Later w2 wl := ((Later.refl _).alloc _).trans k2'
  have k1' := b2.trans k2
  have k1 : Later w1 wl := ((Later.refl _).alloc _).trans k1'
  have k0 : Later w wl := b1.trans k1
  have r1 : Row wl w1.heap.size 36 [.bool s1, .slice P1 q1 e1, .bool false, .slice P1' q1' e1'] := (Row.new _ _ _).later k1'
  have r2 : Row wl w2.heap.size 36 [.bool s2, .slice P2 q2 e2, .bool false, .slice P2' q2' e2'] := (Row.new _ _ _).later k2'
  have r3 : Row wl w3.heap.size 60 [.slice (some ⟨w2.heap.size, 0, none⟩) 1 1, .int .i64 2, .bool s3, .slice P3 q3 e3, .bool false, .slice P3' q3' e3'] := (Row.new _ _ _).later k3'
  have r4 : Row wl w4.heap.size 36 [.bool s4, .slice P4 q4 e4, .bool false, .slice P4' q4' e4'] := (Row.new _ _ _).later k4'
  have r5 : Row wl w5.heap.size 36 [.bool s5, .slice P5 q5 e5, .bool false, .slice P5' q5' e5'] := by rw [hwl]; exact ((Row.new _ _ _).alloc _).alloc _
  have r6 : Row wl (w5.heap.size + 1) 4 [.bool true] := by rw [hwl]; exact (row_new1 _ _ _ _).alloc _
  have r7 : Row wl (w5.heap.size + 1 + 1) 26 [.slice (some ⟨w1.heap.size, 0, none⟩) 1 1, .slice (some ⟨w3.heap.size, 0, none⟩) 1 1, .slice (some ⟨w4.heap.size, 0, none⟩) 1 1, .slice (some ⟨w5.heap.size, 0, none⟩) 1 1, .slice (some ⟨w5.heap.size + 1, 0, none⟩) 1 1] := by rw [hwl]; exact row_new2 _ _ _ _ _
  have hI : LpIn wl (.slice (some ⟨w1.heap.size, 0, none⟩) 1 1) (.slice (some ⟨w3.heap.size, 0, none⟩) 1 1) (.slice (some ⟨w4.heap.size, 0, none⟩) 1 1) (.slice (some ⟨w5.heap.size, 0, none⟩) 1 1) (.slice (some ⟨w5.heap.size + 1, 0, none⟩) 1 1) 1 awP :=
    lp_own (rats_one (E := EOwn) r1 (OwnR.weaken (OwnR.later O1.out k1) (Nat.zero_le _))) (lrows_one (x := ⟨[1], 2, 2, true⟩) (r := ⟨some ⟨w2.heap.size, 0, none⟩, 1, 1, ⟨s3, P3, q3, e3, false, P3', q3', e3'⟩⟩) r3 (rowS_own (rats_one (E := EOwn) r2 (OwnR.weaken (OwnR.later O2.out k2) (Nat.zero_le _))) (OwnR.weaken (OwnR.later O3.out k3) (Nat.zero_le _)) (sized_list1 (by simp)) sized_2 (by simp) ⟨by decide, by decide⟩)) (rats_one (E := EOwn) r4 (OwnR.weaken (OwnR.later O4.out k4) (Nat.zero_le _))) (rats_one (E := EOwn) r5 (OwnR.weaken (OwnR.later O5.out k5) (Nat.zero_le _))) (bools_one r6) (sized_list1 (by simp)) (sized_list1 (by simp)) (sized_list1 (by simp)) (by simp) (by simp) (by simp) (by simp) (by simp)
  rw [← hwl]
  obtain ⟨gp, hgp⟩ : ∃ g, g = w5.heap.size + 1 + 1 := ⟨_, rfl⟩
  obtain ⟨p6, hp6⟩ : ∃ g, g = w5.heap.size + 1 := ⟨_, rfl⟩
  obtain ⟨p5, hp5⟩ : ∃ g, g = w5.heap.size := ⟨_, rfl⟩
  obtain ⟨p4, hp4⟩ : ∃ g, g = w4.heap.size := ⟨_, rfl⟩
  obtain ⟨p3, hp3⟩ : ∃ g, g = w3.heap.size := ⟨_, rfl⟩
  obtain ⟨p1, hp1⟩ : ∃ g, g = w1.heap.size := ⟨_, rfl⟩
  rw [← hgp] at r7 ⊢
  rw [← hp6, ← hp5, ← hp4, ← hp3, ← hp1] at r7 hI
  have HI0 := hide hI; have HP0 := hide r7; have HK0 := hide k0
  clear k0 k1 k1' k2 k2' k3 k3' k4 k4' k5 r1 r2 r3 r4 r5 r6 hI hgp hp6 hp5 hp4 hp3 hp1 hwl b1 b2 b3 b4 b5 O1 O2 O3 O4 O5
  have d0 := r7.cell (i := 0) rfl; have d1 := r7.cell (i := 1) rfl; have d2 := r7.cell (i := 2) rfl; have d3 := r7.cell (i := 3) rfl; have d4 := r7.cell (i := 4) rfl
  clear r7
  have hcode : (if lpB awP then (0 : Int) else 1) = 0 := by rw [awP_may]; rfl
  have hcodn : (if lpB noP then (0 : Int) else 1) = 1 := by rw [noP_may]; rfl
  go_wp2_with fail
  refine (pstd_calls _ _ _ _ _ _ _ _ _ _ _ _ _ _ _ _ 1 awP HI0.out).mono ?_
  rintro e w6 ⟨vA, vB, vC, vr, rfl, hv, -, b6⟩
  rw [hcode]
  have hv := hv awP_may
  obtain ⟨A6, n6, c6, rfl, -⟩ := hv.a.form
  obtain ⟨A7, n7, c7, rfl, -⟩ := hv.b.form
  obtain ⟨A8, n8, c8, rfl, -⟩ := hv.c.form
  obtain ⟨s6, P6, q6, e6, P6', q6', e6', rfl, o6⟩ := hv.r.open_
  clear d0 d1 d2 d3 d4
  go_upto_region 3 with fail
  obtain ⟨wn6, hwn6⟩ : ∃ W, W = (w6.alloc (Obj.cells #[Value.slice A6 n6 c6, Value.slice A7 n7 c7, Value.slice A8 n8 c8] 31)).alloc (Obj.cells #[Value.bool s6, Value.slice P6 q6 e6, Value.bool false, Value.slice P6' q6' e6'] 36) := ⟨_, rfl⟩
  obtain ⟨gr, hgr⟩ : ∃ g, g = w6.heap.size + 1 := ⟨_, rfl⟩
  obtain ⟨gs, hgs⟩ : ∃ g, g = w6.heap.size := ⟨_, rfl⟩
  have r6g : Row wn6 gs 31 [.slice A6 n6 c6, .slice A7 n7 c7, .slice A8 n8 c8] := by rw [hwn6, hgs]; exact (Row.new _ _ _).alloc _
  have r6r : Row wn6 gr 36 [.bool s6, .slice P6 q6 e6, .bool false, .slice P6' q6' e6'] := by rw [hwn6, hgr]; exact row_new1 _ _ _ _
  have b7 : Later w6 wn6 := by rw [hwn6]; exact ((Later.refl _).alloc _).alloc _
  rw [← hwn6, ← hgr, ← hgs]
  have HS6 := hide r6g; have HR6 := hide r6r; have HB6 := hide (b6.trans b7); have HV6 := hide (hv.later b7)
  clear hwn6 hgs hgr r6g r6r b6 b7 hv o6
  go_wp2_with fail
  refine (pstd_calls _ _ _ _ _ _ _ _ _ _ _ _ _ _ _ _ 1 noP (lp_none _)).mono ?_
  rintro e w7 ⟨vA, vB, vC, vr, rfl, -, hv, b8⟩
  rw [hcodn]
  obtain ⟨rfl, rfl, rfl, o7⟩ := hv noP_may
  obtain ⟨s7, P7, q7, e7, P7', q7', e7', rfl, o7⟩ := o7.open_
  have HB7 := hide b8
  clear hv o7 b8 hcode hcodn
  go_upto_region 4 with fail
  obtain ⟨wn, hwn⟩ : ∃ W, W = (w7.alloc (Obj.cells #[Value.slice none 0 0, Value.slice none 0 0, Value.slice none 0 0] 31)).alloc (Obj.cells #[Value.bool s7, Value.slice P7 q7 e7, Value.bool false, Value.slice P7' q7' e7'] 36) := ⟨_, rfl⟩
  have b9 : Later w7 wn := by rw [hwn]; exact ((Later.refl _).alloc _).alloc _
  rw [← hwn]
  have hl := HB7.out.trans b9
  have hl2 := HB6.out.trans hl
  have HGP := hide (HP0.out.later hl2); have HGS := hide (HS6.out.later hl); have HGR := hide (HR6.out.later hl); have HSV := hide (HV6.out.later hl); have HI := hide (HI0.out.later hl2)
  have HLW := hide (HK0.out.trans hl2)
  clear hwn b9 hl hl2 HP0 HS6 HR6 HV6 HI0 HB6 HB7 HK0
  have HT4 : Hid (∀ w', Later wn w' → w'.cell? ⟨gp, 0, none⟩ = some (.slice (some ⟨p1, 0, none⟩) 1 1) ∧ w'.cell? ⟨gp, 1, none⟩ = some (.slice (some ⟨p3, 0, none⟩) 1 1) ∧ w'.cell? ⟨gp, 2, none⟩ = some (.slice (some ⟨p4, 0, none⟩) 1 1) ∧ w'.cell? ⟨gp, 3, none⟩ = some (.slice (some ⟨p5, 0, none⟩) 1 1) ∧ w'.cell? ⟨gp, 4, none⟩ = some (.slice (some ⟨p6, 0, none⟩) 1 1)) := hide fun w' hb => by
    have h1 := HGP.out.later hb
    exact ⟨h1.cell (i := 0) rfl, h1.cell (i := 1) rfl, h1.cell (i := 2) rfl, h1.cell (i := 3) rfl, h1.cell (i := 4) rfl⟩
  have hmx : Tryz.prog.follows .mixedOrders = true := by kernel_rfl
  refine wp_region_N (fun w' => w'.cell? ⟨gp, 0, none⟩ = some (.slice (some ⟨p1, 0, none⟩) 1 1) ∧ w'.cell? ⟨gp, 1, none⟩ = some (.slice (some ⟨p3, 0, none⟩) 1 1) ∧ w'.cell? ⟨gp, 2, none⟩ = some (.slice (some ⟨p4, 0, none⟩) 1 1) ∧ w'.cell? ⟨gp, 3, none⟩ = some (.slice (some ⟨p5, 0, none⟩) 1 1) ∧ w'.cell? ⟨gp, 4, none⟩ = some (.slice (some ⟨p6, 0, none⟩) 1 1)) [] hmx (HT4.out _ lt_) (fun hHeld => ?_)
  refine tkA 39 0 ?_
  try simp only [Act.put, List.setIfInBounds_toArray, List.set_cons_zero, List.set_cons_succ]
  refine wpAnyN_ready (rs := [1]) (by kernel_rfl) (by simp) ?_
  refine AllReadyN.held rfl (by rfl) (fun K hK => ?_) AllReadyN.nil
  go_simp
  refine (of11_calls _ 3 (by omega) (by omega) 3 div_3).mono ?_
  rintro e w101 ⟨v101, rfl, o101, b101⟩
  obtain ⟨s101, P101, q101, e101, P101', q101', e101', rfl, o101⟩ := o101.open_; have O101 := hide o101; clear o101
  have l1 : Later wn w101 := Later.trans lt_ b101
  refine hK.out _ _ ?_ (fun hHeld => ?_)
  · exact HT4.out _ lt_
  clear hK K
  try simp only [Act.put, List.setIfInBounds_toArray, List.set_cons_zero, List.set_cons_succ]
  refine wpAnyN_ready (rs := [2]) (by kernel_rfl) (by simp) ?_
  refine AllReadyN.held rfl (by rfl) (fun K hK => ?_) AllReadyN.nil
  go_simp
  refine (of11_calls _ 1 (by omega) (by omega) 1 div_1).mono ?_
  rintro e w102 ⟨v102, rfl, o102, b102⟩
  obtain ⟨s102, P102, q102, e102, P102', q102', e102', rfl, o102⟩ := o102.open_; have O102 := hide o102; clear o102
  have l2 : Later wn w102 := Later.trans lt_ b102
  refine hK.out _ _ ?_ (fun hHeld => ?_)
  · exact HT4.out _ lt_
  clear hK K
  try simp only [Act.put, List.setIfInBounds_toArray, List.set_cons_zero, List.set_cons_succ]
  refine wpAnyN_ready (rs := [3]) (by kernel_rfl) (by simp) ?_
  refine AllReadyN.held rfl (by rfl) (fun K hK => ?_) AllReadyN.nil
  go_simp
  refine hK.out _ _ ?_ (fun hHeld => ?_)
  · exact HT4.out _ lt_
  clear hK K
  try simp only [Act.put, List.setIfInBounds_toArray, List.set_cons_zero, List.set_cons_succ]
  refine wpAnyN_ready (rs := [4]) (by kernel_rfl) (by simp) ?_
  refine AllReadyN.held rfl (by rfl) (fun K hK => ?_) AllReadyN.nil
  go_simp
  refine (pback_calls _ _ _ _ _ _ _ _ _ _ _ _ _ _ _ _ 1 awP (HI.out.later lt_) _ [3, 1] 1 (Own.raw1 (rats_two (E := EOwn) (Row.new w102 _ _) ((OwnR.later O101.out (Later.trans b102 lt_)).weaken (Nat.zero_le _)) ((OwnR.later O102.out lt_).weaken (Nat.zero_le _))) (sized_list1 (by simp))) (by omega) (by simp)).mono ?_
  rintro e w104 ⟨v104, rfl, hb1, -, b104⟩
  have hcode4 : (if backB awP [3, 1] then (0 : Int) else 1) = 0 := by rw [awP_backB]; rfl
  rw [hcode4]
  have hx4 : Rats EOwn w104 v104 [3] := by have h1 := (hb1 awP_backB).now; rw [awP_back] at h1; exact h1
  obtain ⟨A9, n9, c9, rfl, -⟩ := hx4.form
  have HX4 := hide hx4
  have l4 : Later wn w104 := Later.trans lt_ b104
  clear hb1 hcode4 hx4 b104
  refine hK.out _ _ ?_ (fun hHeld => ?_)
  · exact HT4.out _ lt_
  clear hK K
  try simp only [Act.put, List.setIfInBounds_toArray, List.set_cons_zero, List.set_cons_succ]
  refine tkA 38 5 ?_
  try simp only [Act.put, List.setIfInBounds_toArray, List.set_cons_zero, List.set_cons_succ]
  refine tkA 44 6 ?_
  try simp only [Act.put, List.setIfInBounds_toArray, List.set_cons_zero, List.set_cons_succ]
  refine tkA 45 7 ?_
  try simp only [Act.put, List.setIfInBounds_toArray, List.set_cons_zero, List.set_cons_succ]
  refine tkA 8 8 ?_
  try simp only [Act.put, List.setIfInBounds_toArray, List.set_cons_zero, List.set_cons_succ]
  refine tkA 9 9 ?_
  try simp only [Act.put, List.setIfInBounds_toArray, List.set_cons_zero, List.set_cons_succ]
  refine wpAnyN_done (by kernel_rfl) ?_ _
  have HL4 := hide (show Later wn w104 from l4)
  clear hHeld l1 l2 l4 b101 b102 O101 O102
  go_upto_region 5 with fail
  have HT5 : Hid (∀ w', Later w104 w' → w'.cell? ⟨gp, 0, none⟩ = some (.slice (some ⟨p1, 0, none⟩) 1 1) ∧ w'.cell? ⟨gp, 1, none⟩ = some (.slice (some ⟨p3, 0, none⟩) 1 1) ∧ w'.cell? ⟨gp, 2, none⟩ = some (.slice (some ⟨p4, 0, none⟩) 1 1) ∧ w'.cell? ⟨gp, 3, none⟩ = some (.slice (some ⟨p5, 0, none⟩) 1 1) ∧ w'.cell? ⟨gp, 4, none⟩ = some (.slice (some ⟨p6, 0, none⟩) 1 1)) := hide fun w' hb => HT4.out w' (HL4.out.trans hb)
  refine wp_region_N (fun w' => w'.cell? ⟨gp, 0, none⟩ = some (.slice (some ⟨p1, 0, none⟩) 1 1) ∧ w'.cell? ⟨gp, 1, none⟩ = some (.slice (some ⟨p3, 0, none⟩) 1 1) ∧ w'.cell? ⟨gp, 2, none⟩ = some (.slice (some ⟨p4, 0, none⟩) 1 1) ∧ w'.cell? ⟨gp, 3, none⟩ = some (.slice (some ⟨p5, 0, none⟩) 1 1) ∧ w'.cell? ⟨gp, 4, none⟩ = some (.slice (some ⟨p6, 0, none⟩) 1 1)) [] hmx (HT5.out _ lt_) (fun hHeld => ?_)
  refine tkA 47 0 ?_
  try simp only [Act.put, List.setIfInBounds_toArray, List.set_cons_zero, List.set_cons_succ]
  refine wpAnyN_ready (rs := [1, 7]) (by kernel_rfl) (by simp) ?_
  refine AllReadyN.held rfl (by rfl) (fun K hK => ?_) ?_
  · go_simp
    refine (of11_calls _ 3 (by omega) (by omega) 3 div_3).mono ?_
    rintro e w201 ⟨v201, rfl, o201, b201⟩
    obtain ⟨s201, P201, q201, e201, P201', q201', e201', rfl, o201⟩ := o201.open_; have O201 := hide o201; clear o201
    have l201 : Later w104 w201 := Later.trans lt_ b201
    refine hK.out _ _ ?_ (fun hHeld => ?_)
    · exact HT5.out _ lt_
    clear hK K
    try simp only [Act.put, List.setIfInBounds_toArray, List.set_cons_zero, List.set_cons_succ]
    refine wpAnyN_ready (rs := [2, 7]) (by kernel_rfl) (by simp) ?_
    refine AllReadyN.held rfl (by rfl) (fun K hK => ?_) ?_
    · go_simp
      refine hK.out _ _ ?_ (fun hHeld => ?_)
      · exact HT5.out _ lt_
      clear hK K
      try simp only [Act.put, List.setIfInBounds_toArray, List.set_cons_zero, List.set_cons_succ]
      refine wpAnyN_ready (rs := [3, 7]) (by kernel_rfl) (by simp) ?_
      refine AllReadyN.held rfl (by rfl) (fun K hK => ?_) ?_
      · go_simp
        refine (pcost_calls _ _ _ _ _ _ _ _ _ _ _ _ _ _ _ _ 1 awP (HI.out.later (Later.trans HL4.out lt_)) _ [3] 1 (Own.raw1 (rats_one (E := EOwn) (Row.later (Row.new _ _ _) lt_) ((OwnR.later O201.out lt_).weaken (Nat.zero_le _))) (sized_list1 (by simp))) (by omega)).mono ?_
        rintro e w203 ⟨v203, ok203, rfl, ⟨o203, rfl⟩, b203⟩
        rw [awP_costB]
        rw [awP_cost] at o203
        obtain ⟨s203, P203, q203, e203, P203', q203', e203', rfl, o203⟩ := o203.open_; have O203 := hide o203; clear o203
        have l203 : Later w104 w203 := Later.trans lt_ b203
        refine hK.out _ _ ?_ (fun hHeld => ?_)
        · exact HT5.out _ lt_
        clear hK K
        try simp only [Act.put, List.setIfInBounds_toArray, List.set_cons_zero, List.set_cons_succ]
        refine tkA 46 4 ?_
        try simp only [Act.put, List.setIfInBounds_toArray, List.set_cons_zero, List.set_cons_succ]
        refine tkA 51 5 ?_
        try simp only [Act.put, List.setIfInBounds_toArray, List.set_cons_zero, List.set_cons_succ]
        refine tkA 52 6 ?_
        try simp only [Act.put, List.setIfInBounds_toArray, List.set_cons_zero, List.set_cons_succ]
        refine wpAnyN_ready (rs := [7]) (by kernel_rfl) (by simp) ?_
        refine AllReadyN.held rfl (by rfl) (fun K hK => ?_) AllReadyN.nil
        go_simp
        obtain ⟨W10, hW10⟩ : ∃ W, W = w203.alloc (Obj.cells #[Value.bool false, Value.slice none 0 0, Value.bool false, Value.slice none 0 0] 36) := ⟨_, rfl⟩
        obtain ⟨g10, hg10⟩ : ∃ g, g = w203.heap.size := ⟨_, rfl⟩
        have r10 : Row W10 g10 36 [.bool false, .slice none 0 0, .bool false, .slice none 0 0] := by rw [hW10, hg10]; exact Row.new _ _ _
        have hg104 : w104.heap.size ≤ g10 := by
          have h1 := (show Later w104 w203 from lt_).size
          rw [hg10]; exact h1
        have lW10 : Later w104 W10 := by rw [hW10]; exact (show Later w104 w203 from lt_).alloc _
        have lX10 : Later w203 W10 := by rw [hW10]; exact (Later.refl _).alloc _
        have R10 := hide r10
        rw [← hW10, ← hg10]
        clear r10 hW10 hg10
        refine hK.out _ _ ?_ (fun hHeld => ?_)
        · exact HT5.out _ lt_
        clear hK K
        try simp only [Act.put, List.setIfInBounds_toArray, List.set_cons_zero, List.set_cons_succ]
        refine wpAnyN_ready (rs := [8]) (by kernel_rfl) (by simp) ?_
        refine AllReadyN.held rfl (by rfl) (fun K hK => ?_) AllReadyN.nil
        have r10 := R10.out.later (Later.refl W10)
        obtain ⟨k30, k31, k32, k33, f30, f31, f32, f33⟩ := row_cells4 r10
        have HS8 : Hid (((((W10.setCell ⟨g10, 0, none⟩ (.bool s203)).setCell ⟨g10, 1, none⟩ (.slice P203 q203 e203)).setCell ⟨g10, 2, none⟩ (.bool false)).setCell ⟨g10, 3, none⟩ (.slice P203' q203' e203')).cell? ⟨gp, 0, none⟩ = some (.slice (some ⟨p1, 0, none⟩) 1 1) ∧ ((((W10.setCell ⟨g10, 0, none⟩ (.bool s203)).setCell ⟨g10, 1, none⟩ (.slice P203 q203 e203)).setCell ⟨g10, 2, none⟩ (.bool false)).setCell ⟨g10, 3, none⟩ (.slice P203' q203' e203')).cell? ⟨gp, 1, none⟩ = some (.slice (some ⟨p3, 0, none⟩) 1 1) ∧ ((((W10.setCell ⟨g10, 0, none⟩ (.bool s203)).setCell ⟨g10, 1, none⟩ (.slice P203 q203 e203)).setCell ⟨g10, 2, none⟩ (.bool false)).setCell ⟨g10, 3, none⟩ (.slice P203' q203' e203')).cell? ⟨gp, 2, none⟩ = some (.slice (some ⟨p4, 0, none⟩) 1 1) ∧ ((((W10.setCell ⟨g10, 0, none⟩ (.bool s203)).setCell ⟨g10, 1, none⟩ (.slice P203 q203 e203)).setCell ⟨g10, 2, none⟩ (.bool false)).setCell ⟨g10, 3, none⟩ (.slice P203' q203' e203')).cell? ⟨gp, 3, none⟩ = some (.slice (some ⟨p5, 0, none⟩) 1 1) ∧ ((((W10.setCell ⟨g10, 0, none⟩ (.bool s203)).setCell ⟨g10, 1, none⟩ (.slice P203 q203 e203)).setCell ⟨g10, 2, none⟩ (.bool false)).setCell ⟨g10, 3, none⟩ (.slice P203' q203' e203')).cell? ⟨gp, 4, none⟩ = some (.slice (some ⟨p6, 0, none⟩) 1 1)) := hide (by
          have oo : Only g10 W10 ((((W10.setCell ⟨g10, 0, none⟩ (.bool s203)).setCell ⟨g10, 1, none⟩ (.slice P203 q203 e203)).setCell ⟨g10, 2, none⟩ (.bool false)).setCell ⟨g10, 3, none⟩ (.slice P203' q203' e203')) := Only.four _ _ _ _ _ _
          have hgl := HGP.out.lt
          have hg2 := HL4.out.size
          have h1 := (HGP.out.later (HL4.out.trans (show Later w104 W10 from lW10))).only oo (by omega)
          exact ⟨h1.cell (i := 0) rfl, h1.cell (i := 1) rfl, h1.cell (i := 2) rfl, h1.cell (i := 3) rfl, h1.cell (i := 4) rfl⟩)
        go_simp
        refine hK.out _ _ ?_ (fun hHeld => ?_)
        · exact HS8.out
        clear hK K
        try simp only [Act.put, List.setIfInBounds_toArray, List.set_cons_zero, List.set_cons_succ]
        refine tkA 11 9 ?_
        try simp only [Act.put, List.setIfInBounds_toArray, List.set_cons_zero, List.set_cons_succ]
        refine wpAnyN_done (by kernel_rfl) ?_ _
        obtain ⟨wt, hwt⟩ : ∃ W, W = ((((W10.setCell ⟨g10, 0, none⟩ (.bool s203)).setCell ⟨g10, 1, none⟩ (.slice P203 q203 e203)).setCell ⟨g10, 2, none⟩ (.bool false)).setCell ⟨g10, 3, none⟩ (.slice P203' q203' e203')) := ⟨_, rfl⟩
        rw [← hwt]
        have oo : Only g10 W10 wt := by rw [hwt]; exact Only.four _ _ _ _ _ _
        have rt : Row wt g10 36 [.bool s203, .slice P203 q203 e203, .bool false, .slice P203' q203' e203'] := by rw [hwt]; exact r10.four _ _ _ _
        have ht : Later w104 wt := (show Later w104 W10 from lW10).only oo hg104
        have HCc : OwnR wt 0 (.agg #[.bool s203, .slice P203 q203 e203, .bool false, .slice P203' q203' e203']) 3 := OwnR.keepU (OwnR.later O203.out lX10) (KeepU.only oo r10 (by decide))
        have hl4 := HL4.out.trans ht
        have HBt : Boxes wt [(gp, 26, [.slice (some ⟨p1, 0, none⟩) 1 1, .slice (some ⟨p3, 0, none⟩) 1 1, .slice (some ⟨p4, 0, none⟩) 1 1, .slice (some ⟨p5, 0, none⟩) 1 1, .slice (some ⟨p6, 0, none⟩) 1 1]), (gs, 31, [.slice A6 n6 c6, .slice A7 n7 c7, .slice A8 n8 c8]), (gr, 36, [.bool s6, .slice P6 q6 e6, .bool false, .slice P6' q6' e6']), (g10, 36, [.bool s203, .slice P203 q203 e203, .bool false, .slice P203' q203' e203'])] := by
          intro r hr
          simp only [List.mem_cons, List.not_mem_nil, or_false] at hr
          rcases hr with rfl | rfl | rfl | rfl
          · exact HGP.out.later hl4
          · exact HGS.out.later hl4
          · exact HGR.out.later hl4
          · exact rt
        clear hHeld HS8 r10 k30 k31 k32 k33 f30 f31 f32 f33 hwt
        simp only [Exit.inBlock, Exit.then]
        apply_assumption
        refine wp_mono (awake11_tail w wt _ _ _ _ _ _ _ _ _ _ _ _ _ _ _ gp gs gr g10 _ _ _ _ _ _ _ _ _ _ _ _ _ _ _ _ _ _ _ _ _ _ _ _ _ _ _ _ (HI.out.later hl4) (HSV.out.later hl4) (HX4.out.later EOwn.later ht) HCc HBt (HLW.out.trans hl4) _ _ _ _ _ _ _ _ _ _ _ _ _ _ _ _ _ _ _ _ _ _ _ _ _ _ _ _ _ _ _ _ _ _ _ _ _ _ _ _ _ _ _ _ _ _ _ _ _ _ _ _ _ _ _ _ _ _ _ _ _ _ _ _ _ _ _ _ _ _ _ _ _ _ _ _ _ _ _ _ _ _ _ _ _ _ _ _ _ _ _ _ _ _ _ _ _ _ _ _ _ _ _ _ _ _ _ (bodyPost Tryz.prog Tryz.f15 (RetV w (.bool true)) .ret) ?_) ?_
        · intro a' w' hd h0 hL
          exact bodyPost_ret (results_b rfl h0) hd ⟨rfl, hL⟩
        · intro e a' w' h
          cases e <;> first | exact h | exact h.elim
      refine AllReadyN.held rfl (by rfl) (fun K hK => ?_) AllReadyN.nil
      go_simp
      obtain ⟨W10, hW10⟩ : ∃ W, W = (w201.alloc (Obj.cells #[Value.bool s201, Value.slice P201 q201 e201, Value.bool false, Value.slice P201' q201' e201'] 36)).alloc (Obj.cells #[Value.bool false, Value.slice none 0 0, Value.bool false, Value.slice none 0 0] 36) := ⟨_, rfl⟩
      obtain ⟨g10, hg10⟩ : ∃ g, g = w201.heap.size + 1 := ⟨_, rfl⟩
      have r10 : Row W10 g10 36 [.bool false, .slice none 0 0, .bool false, .slice none 0 0] := by rw [hW10, hg10]; exact row_new1 _ _ _ _
      have hg104 : w104.heap.size ≤ g10 := by
        have h1 := (show Later w104 (w201.alloc (Obj.cells #[Value.bool s201, Value.slice P201 q201 e201, Value.bool false, Value.slice P201' q201' e201'] 36)) from lt_).size
        rw [hg10]; rw [World.size_alloc] at h1; exact h1
      have lW10 : Later w104 W10 := by rw [hW10]; exact (show Later w104 (w201.alloc (Obj.cells #[Value.bool s201, Value.slice P201 q201 e201, Value.bool false, Value.slice P201' q201' e201'] 36)) from lt_).alloc _
      have l1X : Later w201 W10 := by rw [hW10]; exact (show Later w201 (w201.alloc (Obj.cells #[Value.bool s201, Value.slice P201 q201 e201, Value.bool false, Value.slice P201' q201' e201'] 36)) from lt_).alloc _
      have r2X : Row W10 w201.heap.size 36 [.bool s201, .slice P201 q201 e201, .bool false, .slice P201' q201' e201'] := by rw [hW10]; exact (Row.new _ _ _).alloc _
      have R10 := hide r10
      rw [← hW10, ← hg10]
      clear r10 hW10 hg10
      refine hK.out _ _ ?_ (fun hHeld => ?_)
      · exact HT5.out _ lt_
      clear hK K
      try simp only [Act.put, List.setIfInBounds_toArray, List.set_cons_zero, List.set_cons_succ]
      refine wpAnyN_ready (rs := [3]) (by kernel_rfl) (by simp) ?_
      refine AllReadyN.held rfl (by rfl) (fun K hK => ?_) AllReadyN.nil
      go_simp
      refine (pcost_calls _ _ _ _ _ _ _ _ _ _ _ _ _ _ _ _ 1 awP (HI.out.later (Later.trans HL4.out lt_)) _ [3] 1 (Own.raw1 (rats_one (E := EOwn) (r2X) ((OwnR.later O201.out lt_).weaken (Nat.zero_le _))) (sized_list1 (by simp))) (by omega)).mono ?_
      rintro e w203 ⟨v203, ok203, rfl, ⟨o203, rfl⟩, b203⟩
      rw [awP_costB]
      rw [awP_cost] at o203
      obtain ⟨s203, P203, q203, e203, P203', q203', e203', rfl, o203⟩ := o203.open_; have O203 := hide o203; clear o203
      have l203 : Later w104 w203 := Later.trans lt_ b203
      have m203 : Later W10 w203 := Later.trans lt_ b203
      refine hK.out _ _ ?_ (fun hHeld => ?_)
      · exact HT5.out _ lt_
      clear hK K
      try simp only [Act.put, List.setIfInBounds_toArray, List.set_cons_zero, List.set_cons_succ]
      refine tkA 46 4 ?_
      try simp only [Act.put, List.setIfInBounds_toArray, List.set_cons_zero, List.set_cons_succ]
      refine tkA 51 5 ?_
      try simp only [Act.put, List.setIfInBounds_toArray, List.set_cons_zero, List.set_cons_succ]
      refine tkA 52 6 ?_
      try simp only [Act.put, List.setIfInBounds_toArray, List.set_cons_zero, List.set_cons_succ]
      refine wpAnyN_ready (rs := [8]) (by kernel_rfl) (by simp) ?_
      refine AllReadyN.held rfl (by rfl) (fun K hK => ?_) AllReadyN.nil
      have r10 := R10.out.later m203
      obtain ⟨k30, k31, k32, k33, f30, f31, f32, f33⟩ := row_cells4 r10
      have HS8 : Hid (((((w203.setCell ⟨g10, 0, none⟩ (.bool s203)).setCell ⟨g10, 1, none⟩ (.slice P203 q203 e203)).setCell ⟨g10, 2, none⟩ (.bool false)).setCell ⟨g10, 3, none⟩ (.slice P203' q203' e203')).cell? ⟨gp, 0, none⟩ = some (.slice (some ⟨p1, 0, none⟩) 1 1) ∧ ((((w203.setCell ⟨g10, 0, none⟩ (.bool s203)).setCell ⟨g10, 1, none⟩ (.slice P203 q203 e203)).setCell ⟨g10, 2, none⟩ (.bool false)).setCell ⟨g10, 3, none⟩ (.slice P203' q203' e203')).cell? ⟨gp, 1, none⟩ = some (.slice (some ⟨p3, 0, none⟩) 1 1) ∧ ((((w203.setCell ⟨g10, 0, none⟩ (.bool s203)).setCell ⟨g10, 1, none⟩ (.slice P203 q203 e203)).setCell ⟨g10, 2, none⟩ (.bool false)).setCell ⟨g10, 3, none⟩ (.slice P203' q203' e203')).cell? ⟨gp, 2, none⟩ = some (.slice (some ⟨p4, 0, none⟩) 1 1) ∧ ((((w203.setCell ⟨g10, 0, none⟩ (.bool s203)).setCell ⟨g10, 1, none⟩ (.slice P203 q203 e203)).setCell ⟨g10, 2, none⟩ (.bool false)).setCell ⟨g10, 3, none⟩ (.slice P203' q203' e203')).cell? ⟨gp, 3, none⟩ = some (.slice (some ⟨p5, 0, none⟩) 1 1) ∧ ((((w203.setCell ⟨g10, 0, none⟩ (.bool s203)).setCell ⟨g10, 1, none⟩ (.slice P203 q203 e203)).setCell ⟨g10, 2, none⟩ (.bool false)).setCell ⟨g10, 3, none⟩ (.slice P203' q203' e203')).cell? ⟨gp, 4, none⟩ = some (.slice (some ⟨p6, 0, none⟩) 1 1)) := hide (by
        have oo : Only g10 w203 ((((w203.setCell ⟨g10, 0, none⟩ (.bool s203)).setCell ⟨g10, 1, none⟩ (.slice P203 q203 e203)).setCell ⟨g10, 2, none⟩ (.bool false)).setCell ⟨g10, 3, none⟩ (.slice P203' q203' e203')) := Only.four _ _ _ _ _ _
        have hgl := HGP.out.lt
        have hg2 := HL4.out.size
        have h1 := (HGP.out.later (HL4.out.trans (show Later w104 w203 from l203))).only oo (by omega)
        exact ⟨h1.cell (i := 0) rfl, h1.cell (i := 1) rfl, h1.cell (i := 2) rfl, h1.cell (i := 3) rfl, h1.cell (i := 4) rfl⟩)
      go_simp
      refine hK.out _ _ ?_ (fun hHeld => ?_)
      · exact HS8.out
      clear hK K
      try simp only [Act.put, List.setIfInBounds_toArray, List.set_cons_zero, List.set_cons_succ]
      refine tkA 11 9 ?_
      try simp only [Act.put, List.setIfInBounds_toArray, List.set_cons_zero, List.set_cons_succ]
      refine wpAnyN_done (by kernel_rfl) ?_ _
      obtain ⟨wt, hwt⟩ : ∃ W, W = ((((w203.setCell ⟨g10, 0, none⟩ (.bool s203)).setCell ⟨g10, 1, none⟩ (.slice P203 q203 e203)).setCell ⟨g10, 2, none⟩ (.bool false)).setCell ⟨g10, 3, none⟩ (.slice P203' q203' e203')) := ⟨_, rfl⟩
      rw [← hwt]
      have oo : Only g10 w203 wt := by rw [hwt]; exact Only.four _ _ _ _ _ _
      have rt : Row wt g10 36 [.bool s203, .slice P203 q203 e203, .bool false, .slice P203' q203' e203'] := by rw [hwt]; exact r10.four _ _ _ _
      have ht : Later w104 wt := (show Later w104 w203 from l203).only oo hg104
      have HCc : OwnR wt 0 (.agg #[.bool s203, .slice P203 q203 e203, .bool false, .slice P203' q203' e203']) 3 := OwnR.keepU (OwnR.later O203.out (Later.refl w203)) (KeepU.only oo r10 (by decide))
      have hl4 := HL4.out.trans ht
      have HBt : Boxes wt [(gp, 26, [.slice (some ⟨p1, 0, none⟩) 1 1, .slice (some ⟨p3, 0, none⟩) 1 1, .slice (some ⟨p4, 0, none⟩) 1 1, .slice (some ⟨p5, 0, none⟩) 1 1, .slice (some ⟨p6, 0, none⟩) 1 1]), (gs, 31, [.slice A6 n6 c6, .slice A7 n7 c7, .slice A8 n8 c8]), (gr, 36, [.bool s6, .slice P6 q6 e6, .bool false, .slice P6' q6' e6']), (g10, 36, [.bool s203, .slice P203 q203 e203, .bool false, .slice P203' q203' e203'])] := by
        intro r hr
        simp only [List.mem_cons, List.not_mem_nil, or_false] at hr
        rcases hr with rfl | rfl | rfl | rfl
        · exact HGP.out.later hl4
        · exact HGS.out.later hl4
        · exact HGR.out.later hl4
        · exact rt
      clear hHeld HS8 r10 k30 k31 k32 k33 f30 f31 f32 f33 hwt
      simp only [Exit.inBlock, Exit.then]
      apply_assumption
      refine wp_mono (awake11_tail w wt _ _ _ _ _ _ _ _ _ _ _ _ _ _ _ gp gs gr g10 _ _ _ _ _ _ _ _ _ _ _ _ _ _ _ _ _ _ _ _ _ _ _ _ _ _ _ _ (HI.out.later hl4) (HSV.out.later hl4) (HX4.out.later EOwn.later ht) HCc HBt (HLW.out.trans hl4) _ _ _ _ _ _ _ _ _ _ _ _ _ _ _ _ _ _ _ _ _ _ _ _ _ _ _ _ _ _ _ _ _ _ _ _ _ _ _ _ _ _ _ _ _ _ _ _ _ _ _ _ _ _ _ _ _ _ _ _ _ _ _ _ _ _ _ _ _ _ _ _ _ _ _ _ _ _ _ _ _ _ _ _ _ _ _ _ _ _ _ _ _ _ _ _ _ _ _ _ _ _ _ _ _ _ _ (bodyPost Tryz.prog Tryz.f15 (RetV w (.bool true)) .ret) ?_) ?_
      · intro a' w' hd h0 hL
        exact bodyPost_ret (results_b rfl h0) hd ⟨rfl, hL⟩
      · intro e a' w' h
        cases e <;> first | exact h | exact h.elim
    refine AllReadyN.held rfl (by rfl) (fun K hK => ?_) AllReadyN.nil
    go_simp
    obtain ⟨W10, hW10⟩ : ∃ W, W = w201.alloc (Obj.cells #[Value.bool false, Value.slice none 0 0, Value.bool false, Value.slice none 0 0] 36) := ⟨_, rfl⟩
    obtain ⟨g10, hg10⟩ : ∃ g, g = w201.heap.size := ⟨_, rfl⟩
    have r10 : Row W10 g10 36 [.bool false, .slice none 0 0, .bool false, .slice none 0 0] := by rw [hW10, hg10]; exact Row.new _ _ _
    have hg104 : w104.heap.size ≤ g10 := by
      have h1 := (show Later w104 w201 from lt_).size
      rw [hg10]; exact h1
    have lW10 : Later w104 W10 := by rw [hW10]; exact (show Later w104 w201 from lt_).alloc _
    have l1X : Later w201 W10 := by rw [hW10]; exact (show Later w201 w201 from lt_).alloc _
    have R10 := hide r10
    rw [← hW10, ← hg10]
    clear r10 hW10 hg10
    refine hK.out _ _ ?_ (fun hHeld => ?_)
    · exact HT5.out _ lt_
    clear hK K
    try simp only [Act.put, List.setIfInBounds_toArray, List.set_cons_zero, List.set_cons_succ]
    refine wpAnyN_ready (rs := [2]) (by kernel_rfl) (by simp) ?_
    refine AllReadyN.held rfl (by rfl) (fun K hK => ?_) AllReadyN.nil
    go_simp
    refine hK.out _ _ ?_ (fun hHeld => ?_)
    · exact HT5.out _ lt_
    clear hK K
    try simp only [Act.put, List.setIfInBounds_toArray, List.set_cons_zero, List.set_cons_succ]
    refine wpAnyN_ready (rs := [3]) (by kernel_rfl) (by simp) ?_
    refine AllReadyN.held rfl (by rfl) (fun K hK => ?_) AllReadyN.nil
    go_simp
    refine (pcost_calls _ _ _ _ _ _ _ _ _ _ _ _ _ _ _ _ 1 awP (HI.out.later (Later.trans HL4.out lt_)) _ [3] 1 (Own.raw1 (rats_one (E := EOwn) (Row.later (Row.new _ _ _) lt_) ((OwnR.later O201.out lt_).weaken (Nat.zero_le _))) (sized_list1 (by simp))) (by omega)).mono ?_
    rintro e w203 ⟨v203, ok203, rfl, ⟨o203, rfl⟩, b203⟩
    rw [awP_costB]
    rw [awP_cost] at o203
    obtain ⟨s203, P203, q203, e203, P203', q203', e203', rfl, o203⟩ := o203.open_; have O203 := hide o203; clear o203
    have l203 : Later w104 w203 := Later.trans lt_ b203
    have m203 : Later W10 w203 := Later.trans lt_ b203
    refine hK.out _ _ ?_ (fun hHeld => ?_)
    · exact HT5.out _ lt_
    clear hK K
    try simp only [Act.put, List.setIfInBounds_toArray, List.set_cons_zero, List.set_cons_succ]
    refine tkA 46 4 ?_
    try simp only [Act.put, List.setIfInBounds_toArray, List.set_cons_zero, List.set_cons_succ]
    refine tkA 51 5 ?_
    try simp only [Act.put, List.setIfInBounds_toArray, List.set_cons_zero, List.set_cons_succ]
    refine tkA 52 6 ?_
    try simp only [Act.put, List.setIfInBounds_toArray, List.set_cons_zero, List.set_cons_succ]
    refine wpAnyN_ready (rs := [8]) (by kernel_rfl) (by simp) ?_
    refine AllReadyN.held rfl (by rfl) (fun K hK => ?_) AllReadyN.nil
    have r10 := R10.out.later m203
    obtain ⟨k30, k31, k32, k33, f30, f31, f32, f33⟩ := row_cells4 r10
    have HS8 : Hid (((((w203.setCell ⟨g10, 0, none⟩ (.bool s203)).setCell ⟨g10, 1, none⟩ (.slice P203 q203 e203)).setCell ⟨g10, 2, none⟩ (.bool false)).setCell ⟨g10, 3, none⟩ (.slice P203' q203' e203')).cell? ⟨gp, 0, none⟩ = some (.slice (some ⟨p1, 0, none⟩) 1 1) ∧ ((((w203.setCell ⟨g10, 0, none⟩ (.bool s203)).setCell ⟨g10, 1, none⟩ (.slice P203 q203 e203)).setCell ⟨g10, 2, none⟩ (.bool false)).setCell ⟨g10, 3, none⟩ (.slice P203' q203' e203')).cell? ⟨gp, 1, none⟩ = some (.slice (some ⟨p3, 0, none⟩) 1 1) ∧ ((((w203.setCell ⟨g10, 0, none⟩ (.bool s203)).setCell ⟨g10, 1, none⟩ (.slice P203 q203 e203)).setCell ⟨g10, 2, none⟩ (.bool false)).setCell ⟨g10, 3, none⟩ (.slice P203' q203' e203')).cell? ⟨gp, 2, none⟩ = some (.slice (some ⟨p4, 0, none⟩) 1 1) ∧ ((((w203.setCell ⟨g10, 0, none⟩ (.bool s203)).setCell ⟨g10, 1, none⟩ (.slice P203 q203 e203)).setCell ⟨g10, 2, none⟩ (.bool false)).setCell ⟨g10, 3, none⟩ (.slice P203' q203' e203')).cell? ⟨gp, 3, none⟩ = some (.slice (some ⟨p5, 0, none⟩) 1 1) ∧ ((((w203.setCell ⟨g10, 0, none⟩ (.bool s203)).setCell ⟨g10, 1, none⟩ (.slice P203 q203 e203)).setCell ⟨g10, 2, none⟩ (.bool false)).setCell ⟨g10, 3, none⟩ (.slice P203' q203' e203')).cell? ⟨gp, 4, none⟩ = some (.slice (some ⟨p6, 0, none⟩) 1 1)) := hide (by
      have oo : Only g10 w203 ((((w203.setCell ⟨g10, 0, none⟩ (.bool s203)).setCell ⟨g10, 1, none⟩ (.slice P203 q203 e203)).setCell ⟨g10, 2, none⟩ (.bool false)).setCell ⟨g10, 3, none⟩ (.slice P203' q203' e203')) := Only.four _ _ _ _ _ _
      have hgl := HGP.out.lt
      have hg2 := HL4.out.size
      have h1 := (HGP.out.later (HL4.out.trans (show Later w104 w203 from l203))).only oo (by omega)
      exact ⟨h1.cell (i := 0) rfl, h1.cell (i := 1) rfl, h1.cell (i := 2) rfl, h1.cell (i := 3) rfl, h1.cell (i := 4) rfl⟩)
    go_simp
    refine hK.out _ _ ?_ (fun hHeld => ?_)
    · exact HS8.out
    clear hK K
    try simp only [Act.put, List.setIfInBounds_toArray, List.set_cons_zero, List.set_cons_succ]
    refine tkA 11 9 ?_
    try simp only [Act.put, List.setIfInBounds_toArray, List.set_cons_zero, List.set_cons_succ]
    refine wpAnyN_done (by kernel_rfl) ?_ _
    obtain ⟨wt, hwt⟩ : ∃ W, W = ((((w203.setCell ⟨g10, 0, none⟩ (.bool s203)).setCell ⟨g10, 1, none⟩ (.slice P203 q203 e203)).setCell ⟨g10, 2, none⟩ (.bool false)).setCell ⟨g10, 3, none⟩ (.slice P203' q203' e203')) := ⟨_, rfl⟩
    rw [← hwt]
    have oo : Only g10 w203 wt := by rw [hwt]; exact Only.four _ _ _ _ _ _
    have rt : Row wt g10 36 [.bool s203, .slice P203 q203 e203, .bool false, .slice P203' q203' e203'] := by rw [hwt]; exact r10.four _ _ _ _
    have ht : Later w104 wt := (show Later w104 w203 from l203).only oo hg104
    have HCc : OwnR wt 0 (.agg #[.bool s203, .slice P203 q203 e203, .bool false, .slice P203' q203' e203']) 3 := OwnR.keepU (OwnR.later O203.out (Later.refl w203)) (KeepU.only oo r10 (by decide))
    have hl4 := HL4.out.trans ht
    have HBt : Boxes wt [(gp, 26, [.slice (some ⟨p1, 0, none⟩) 1 1, .slice (some ⟨p3, 0, none⟩) 1 1, .slice (some ⟨p4, 0, none⟩) 1 1, .slice (some ⟨p5, 0, none⟩) 1 1, .slice (some ⟨p6, 0, none⟩) 1 1]), (gs, 31, [.slice A6 n6 c6, .slice A7 n7 c7, .slice A8 n8 c8]), (gr, 36, [.bool s6, .slice P6 q6 e6, .bool false, .slice P6' q6' e6']), (g10, 36, [.bool s203, .slice P203 q203 e203, .bool false, .slice P203' q203' e203'])] := by
      intro r hr
      simp only [List.mem_cons, List.not_mem_nil, or_false] at hr
      rcases hr with rfl | rfl | rfl | rfl
      · exact HGP.out.later hl4
      · exact HGS.out.later hl4
      · exact HGR.out.later hl4
      · exact rt
    clear hHeld HS8 r10 k30 k31 k32 k33 f30 f31 f32 f33 hwt
    simp only [Exit.inBlock, Exit.then]
    apply_assumption
    refine wp_mono (awake11_tail w wt _ _ _ _ _ _ _ _ _ _ _ _ _ _ _ gp gs gr g10 _ _ _ _ _ _ _ _ _ _ _ _ _ _ _ _ _ _ _ _ _ _ _ _ _ _ _ _ (HI.out.later hl4) (HSV.out.later hl4) (HX4.out.later EOwn.later ht) HCc HBt (HLW.out.trans hl4) _ _ _ _ _ _ _ _ _ _ _ _ _ _ _ _ _ _ _ _ _ _ _ _ _ _ _ _ _ _ _ _ _ _ _ _ _ _ _ _ _ _ _ _ _ _ _ _ _ _ _ _ _ _ _ _ _ _ _ _ _ _ _ _ _ _ _ _ _ _ _ _ _ _ _ _ _ _ _ _ _ _ _ _ _ _ _ _ _ _ _ _ _ _ _ _ _ _ _ _ _ _ _ _ _ _ _ (bodyPost Tryz.prog Tryz.f15 (RetV w (.bool true)) .ret) ?_) ?_
    · intro a' w' hd h0 hL
      exact bodyPost_ret (results_b rfl h0) hd ⟨rfl, hL⟩
    · intro e a' w' h
      cases e <;> first | exact h | exact h.elim
  refine AllReadyN.held rfl (by rfl) (fun K hK => ?_) AllReadyN.nil
  go_simp
  obtain ⟨W10, hW10⟩ : ∃ W, W = w104.alloc (Obj.cells #[Value.bool false, Value.slice none 0 0, Value.bool false, Value.slice none 0 0] 36) := ⟨_, rfl⟩
  obtain ⟨g10, hg10⟩ : ∃ g, g = w104.heap.size := ⟨_, rfl⟩
  have r10 : Row W10 g10 36 [.bool false, .slice none 0 0, .bool false, .slice none 0 0] := by rw [hW10, hg10]; exact Row.new _ _ _
  have hg104 : w104.heap.size ≤ g10 := by
    have h1 := (show Later w104 w104 from lt_).size
    rw [hg10]; exact h1
  have lW10 : Later w104 W10 := by rw [hW10]; exact (show Later w104 w104 from lt_).alloc _
  have R10 := hide r10
  rw [← hW10, ← hg10]
  clear r10 hW10 hg10
  refine hK.out _ _ ?_ (fun hHeld => ?_)
  · exact HT5.out _ lt_
  clear hK K
  try simp only [Act.put, List.setIfInBounds_toArray, List.set_cons_zero, List.set_cons_succ]
  refine wpAnyN_ready (rs := [1]) (by kernel_rfl) (by simp) ?_
  refine AllReadyN.held rfl (by rfl) (fun K hK => ?_) AllReadyN.nil
  go_simp
  refine (of11_calls _ 3 (by omega) (by omega) 3 div_3).mono ?_
  rintro e w201 ⟨v201, rfl, o201, b201⟩
  obtain ⟨s201, P201, q201, e201, P201', q201', e201', rfl, o201⟩ := o201.open_; have O201 := hide o201; clear o201
  have l201 : Later w104 w201 := Later.trans lt_ b201
  have m201 : Later W10 w201 := Later.trans lt_ b201
  refine hK.out _ _ ?_ (fun hHeld => ?_)
  · exact HT5.out _ lt_
  clear hK K
  try simp only [Act.put, List.setIfInBounds_toArray, List.set_cons_zero, List.set_cons_succ]
  refine wpAnyN_ready (rs := [2]) (by kernel_rfl) (by simp) ?_
  refine AllReadyN.held rfl (by rfl) (fun K hK => ?_) AllReadyN.nil
  go_simp
  refine hK.out _ _ ?_ (fun hHeld => ?_)
  · exact HT5.out _ lt_
  clear hK K
  try simp only [Act.put, List.setIfInBounds_toArray, List.set_cons_zero, List.set_cons_succ]
  refine wpAnyN_ready (rs := [3]) (by kernel_rfl) (by simp) ?_
  refine AllReadyN.held rfl (by rfl) (fun K hK => ?_) AllReadyN.nil
  go_simp
  refine (pcost_calls _ _ _ _ _ _ _ _ _ _ _ _ _ _ _ _ 1 awP (HI.out.later (Later.trans HL4.out lt_)) _ [3] 1 (Own.raw1 (rats_one (E := EOwn) (Row.later (Row.new _ _ _) lt_) ((OwnR.later O201.out lt_).weaken (Nat.zero_le _))) (sized_list1 (by simp))) (by omega)).mono ?_
  rintro e w203 ⟨v203, ok203, rfl, ⟨o203, rfl⟩, b203⟩
  rw [awP_costB]
  rw [awP_cost] at o203
  obtain ⟨s203, P203, q203, e203, P203', q203', e203', rfl, o203⟩ := o203.open_; have O203 := hide o203; clear o203
  have l203 : Later w104 w203 := Later.trans lt_ b203
  have m203 : Later W10 w203 := Later.trans lt_ b203
  refine hK.out _ _ ?_ (fun hHeld => ?_)
  · exact HT5.out _ lt_
  clear hK K
  try simp only [Act.put, List.setIfInBounds_toArray, List.set_cons_zero, List.set_cons_succ]
  refine tkA 46 4 ?_
  try simp only [Act.put, List.setIfInBounds_toArray, List.set_cons_zero, List.set_cons_succ]
  refine tkA 51 5 ?_
  try simp only [Act.put, List.setIfInBounds_toArray, List.set_cons_zero, List.set_cons_succ]
  refine tkA 52 6 ?_
  try simp only [Act.put, List.setIfInBounds_toArray, List.set_cons_zero, List.set_cons_succ]
  refine wpAnyN_ready (rs := [8]) (by kernel_rfl) (by simp) ?_
  refine AllReadyN.held rfl (by rfl) (fun K hK => ?_) AllReadyN.nil
  have r10 := R10.out.later m203
  obtain ⟨k30, k31, k32, k33, f30, f31, f32, f33⟩ := row_cells4 r10
  have HS8 : Hid (((((w203.setCell ⟨g10, 0, none⟩ (.bool s203)).setCell ⟨g10, 1, none⟩ (.slice P203 q203 e203)).setCell ⟨g10, 2, none⟩ (.bool false)).setCell ⟨g10, 3, none⟩ (.slice P203' q203' e203')).cell? ⟨gp, 0, none⟩ = some (.slice (some ⟨p1, 0, none⟩) 1 1) ∧ ((((w203.setCell ⟨g10, 0, none⟩ (.bool s203)).setCell ⟨g10, 1, none⟩ (.slice P203 q203 e203)).setCell ⟨g10, 2, none⟩ (.bool false)).setCell ⟨g10, 3, none⟩ (.slice P203' q203' e203')).cell? ⟨gp, 1, none⟩ = some (.slice (some ⟨p3, 0, none⟩) 1 1) ∧ ((((w203.setCell ⟨g10, 0, none⟩ (.bool s203)).setCell ⟨g10, 1, none⟩ (.slice P203 q203 e203)).setCell ⟨g10, 2, none⟩ (.bool false)).setCell ⟨g10, 3, none⟩ (.slice P203' q203' e203')).cell? ⟨gp, 2, none⟩ = some (.slice (some ⟨p4, 0, none⟩) 1 1) ∧ ((((w203.setCell ⟨g10, 0, none⟩ (.bool s203)).setCell ⟨g10, 1, none⟩ (.slice P203 q203 e203)).setCell ⟨g10, 2, none⟩ (.bool false)).setCell ⟨g10, 3, none⟩ (.slice P203' q203' e203')).cell? ⟨gp, 3, none⟩ = some (.slice (some ⟨p5, 0, none⟩) 1 1) ∧ ((((w203.setCell ⟨g10, 0, none⟩ (.bool s203)).setCell ⟨g10, 1, none⟩ (.slice P203 q203 e203)).setCell ⟨g10, 2, none⟩ (.bool false)).setCell ⟨g10, 3, none⟩ (.slice P203' q203' e203')).cell? ⟨gp, 4, none⟩ = some (.slice (some ⟨p6, 0, none⟩) 1 1)) := hide (by
    have oo : Only g10 w203 ((((w203.setCell ⟨g10, 0, none⟩ (.bool s203)).setCell ⟨g10, 1, none⟩ (.slice P203 q203 e203)).setCell ⟨g10, 2, none⟩ (.bool false)).setCell ⟨g10, 3, none⟩ (.slice P203' q203' e203')) := Only.four _ _ _ _ _ _
    have hgl := HGP.out.lt
    have hg2 := HL4.out.size
    have h1 := (HGP.out.later (HL4.out.trans (show Later w104 w203 from l203))).only oo (by omega)
    exact ⟨h1.cell (i := 0) rfl, h1.cell (i := 1) rfl, h1.cell (i := 2) rfl, h1.cell (i := 3) rfl, h1.cell (i := 4) rfl⟩)
  go_simp
  refine hK.out _ _ ?_ (fun hHeld => ?_)
  · exact HS8.out
  clear hK K
  try simp only [Act.put, List.setIfInBounds_toArray, List.set_cons_zero, List.set_cons_succ]
  refine tkA 11 9 ?_
  try simp only [Act.put, List.setIfInBounds_toArray, List.set_cons_zero, List.set_cons_succ]
  refine wpAnyN_done (by kernel_rfl) ?_ _
  obtain ⟨wt, hwt⟩ : ∃ W, W = ((((w203.setCell ⟨g10, 0, none⟩ (.bool s203)).setCell ⟨g10, 1, none⟩ (.slice P203 q203 e203)).setCell ⟨g10, 2, none⟩ (.bool false)).setCell ⟨g10, 3, none⟩ (.slice P203' q203' e203')) := ⟨_, rfl⟩
  rw [← hwt]
  have oo : Only g10 w203 wt := by rw [hwt]; exact Only.four _ _ _ _ _ _
  have rt : Row wt g10 36 [.bool s203, .slice P203 q203 e203, .bool false, .slice P203' q203' e203'] := by rw [hwt]; exact r10.four _ _ _ _
  have ht : Later w104 wt := (show Later w104 w203 from l203).only oo hg104
  have HCc : OwnR wt 0 (.agg #[.bool s203, .slice P203 q203 e203, .bool false, .slice P203' q203' e203']) 3 := OwnR.keepU (OwnR.later O203.out (Later.refl w203)) (KeepU.only oo r10 (by decide))
  have hl4 := HL4.out.trans ht
  have HBt : Boxes wt [(gp, 26, [.slice (some ⟨p1, 0, none⟩) 1 1, .slice (some ⟨p3, 0, none⟩) 1 1, .slice (some ⟨p4, 0, none⟩) 1 1, .slice (some ⟨p5, 0, none⟩) 1 1, .slice (some ⟨p6, 0, none⟩) 1 1]), (gs, 31, [.slice A6 n6 c6, .slice A7 n7 c7, .slice A8 n8 c8]), (gr, 36, [.bool s6, .slice P6 q6 e6, .bool false, .slice P6' q6' e6']), (g10, 36, [.bool s203, .slice P203 q203 e203, .bool false, .slice P203' q203' e203'])] := by
    intro r hr
    simp only [List.mem_cons, List.not_mem_nil, or_false] at hr
    rcases hr with rfl | rfl | rfl | rfl
    · exact HGP.out.later hl4
    · exact HGS.out.later hl4
    · exact HGR.out.later hl4
    · exact rt
  clear hHeld HS8 r10 k30 k31 k32 k33 f30 f31 f32 f33 hwt
  simp only [Exit.inBlock, Exit.then]
  apply_assumption
  refine wp_mono (awake11_tail w wt _ _ _ _ _ _ _ _ _ _ _ _ _ _ _ gp gs gr g10 _ _ _ _ _ _ _ _ _ _ _ _ _ _ _ _ _ _ _ _ _ _ _ _ _ _ _ _ (HI.out.later hl4) (HSV.out.later hl4) (HX4.out.later EOwn.later ht) HCc HBt (HLW.out.trans hl4) _ _ _ _ _ _ _ _ _ _ _ _ _ _ _ _ _ _ _ _ _ _ _ _ _ _ _ _ _ _ _ _ _ _ _ _ _ _ _ _ _ _ _ _ _ _ _ _ _ _ _ _ _ _ _ _ _ _ _ _ _ _ _ _ _ _ _ _ _ _ _ _ _ _ _ _ _ _ _ _ _ _ _ _ _ _ _ _ _ _ _ _ _ _ _ _ _ _ _ _ _ _ _ _ _ _ _ (bodyPost Tryz.prog Tryz.f15 (RetV w (.bool true)) .ret) ?_) ?_
  · intro a' w' hd h0 hL
    exact bodyPost_ret (results_b rfl h0) hd ⟨rfl, hL⟩
  · intro e a' w' h
    cases e <;> first | exact h | exact h.elim
end Go.Proofs.YtfokplidiboabaaGreat
