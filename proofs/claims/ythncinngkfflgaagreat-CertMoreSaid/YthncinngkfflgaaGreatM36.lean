import Derived.Test.YthncinngkfflgaaGreatM35
import Derived.Test.YthncinngkfflgaaGreatM16

/- Proofs of standard forms: the law's numbers; awake. -/
set_option linter.unusedVariables false
set_option linter.unusedSimpArgs false
set_option maxRecDepth 100000
namespace Go.Proofs.YthncinngkfflgaaGreat
open Go.RowKit Go.Shelf
attribute [local go_sem ↓] Go.wp_at_zero Go.wp_at_succ

set_option maxHeartbeats 1000000 in
theorem of12_calls (w : World) (n : Int) (h1 : -9223372036854775808 ≤ n) (h2 : n < 9223372036854775808) (q : Rat) (hq : Rat.divInt n 1 = q) :
    Calls Tryz.prog 17 #[.int .i64 n] w (Ret w fun w' v => OwnR w' w.heap.size v q) := by
  obtain ⟨W0, hW0⟩ : ∃ W0, W0 = w.alloc (Obj.cells #[Value.bool false, Value.slice none 0 0, Value.bool false, Value.slice none 0 0] 37) := ⟨_, rfl⟩
  obtain ⟨hb0, r1, hsz0⟩ := boxes1 w [.bool false, .slice none 0 0, .bool false, .slice none 0 0] 37 hW0
  have R1 := hide r1; have B0' := hide hb0; have HW0 := hide hW0
  clear r1 hb0 hW0
  go_enter Tryz.func17, Tryz.ntmps17
  go_wp2_with fail
  rw [← HW0.out]
  refine (lawof_calls _ n h1 h2 q hq).mono ?_
  rintro e w1 ⟨v1, rfl, o1, b1⟩
  obtain ⟨s1, P1, q1, e1, P1', q1', e1', rfl, o1⟩ := o1.open_; have O1 := hide o1; clear o1
  have HR := hide (R1.out.later b1)
  have hL := hide (B0'.out.trans b1)
  have hs1 := b1.size
  have hs : w.heap.size < W0.heap.size := R1.out.lt
  obtain ⟨d1, d2, d3, d4, d5, d6, d7, d8⟩ := row_cells4 HR.out
  go_wp2_with fail
  refine bodyPost_ret (results_rat rfl rfl (HR.out.four _ _ _ _)) rfl ?_
  have oo := Only.four w.heap.size w1 (.bool s1) (.slice P1 q1 e1) (.bool false) (.slice P1' q1' e1')
  exact ⟨_, rfl, (O1.out.only oo (by omega)).weaken (by omega), hL.out.only oo (Nat.le_refl _)⟩

/-- what is told of a proof's small numbers -/
def FewProof (w : World) (vY vU vR : Value) (y u r : List Rat) (e : Ending) (w' : World) : Prop :=
  ∃ t, e = .returned (.bool t) ∧ (t = true → (y.length ≤ 6 ∧ Rats (ERaw 1) w' vY y) ∧ (u.length ≤ 6 ∧ Rats (ERaw 1) w' vU u) ∧ (r.length ≤ 6 ∧ Rats (ERaw 1) w' vR r)) ∧ Later w w'
set_option maxHeartbeats 4000000 in
theorem fewproof_calls (w : World) (vY vU vR : Value) (y u r : List Rat) (hy : Rats EAny w vY y) (hu : Rats EAny w vU u) (hr : Rats EAny w vR r) :
    Calls Tryz.prog 14 #[.agg #[vY, vU, vR]] w (FewProof w vY vU vR y u r) := by
  have HY := hide hy; have HU := hide hu; have HR := hide hr
  obtain ⟨A1, n1, c1, rfl, -⟩ := hy.form
  obtain ⟨A2, n2, c2, rfl, -⟩ := hu.form
  obtain ⟨A3, n3, c3, rfl, -⟩ := hr.form
  clear hy hu hr
  obtain ⟨W0, hW0⟩ : ∃ W0, W0 = w.alloc (Obj.cells #[Value.slice A1 n1 c1, Value.slice A2 n2 c2, Value.slice A3 n3 c3] 27) := ⟨_, rfl⟩
  obtain ⟨hb0, r1, hsz0⟩ := boxes1 w [.slice A1 n1 c1, .slice A2 n2 c2, .slice A3 n3 c3] 27 hW0
  have B0 := hide hb0; have HW0 := hide hW0; have R0 := hide r1
  have d1 := r1.cell (i := 0) rfl; have d2 := r1.cell (i := 1) rfl; have d3 := r1.cell (i := 2) rfl
  clear r1 hb0 hW0 hsz0
  go_enter Tryz.func14, Tryz.ntmps14
  go_upto_region 1 with fail
  rw [← HW0.out]
  go_wp2_with fail
  refine (few_calls W0 _ y 6 (HY.out.later EAny.later B0.out) (by omega)).mono ?_
  rintro e w1 ⟨u1, rfl, h1, rfl⟩
  have H1 := hide h1
  clear h1
  cases u1 with
  | false =>
    go_wp2_with fail
    go_ret
    exact ⟨false, rfl, (fun h => by cases h), B0.out⟩
  | true =>
  go_wp2_with fail
  refine (few_calls W0 _ u 6 (HU.out.later EAny.later B0.out) (by omega)).mono ?_
  rintro e w1 ⟨u2, rfl, h2, rfl⟩
  have H2 := hide h2
  clear h2
  cases u2 with
  | false =>
    go_wp2_with fail
    go_ret
    exact ⟨false, rfl, (fun h => by cases h), B0.out⟩
  | true =>
  go_wp2_with fail
  refine (few_calls W0 _ r 6 (HR.out.later EAny.later B0.out) (by omega)).mono ?_
  rintro e w1 ⟨u3, rfl, h3, rfl⟩
  have H3 := hide h3
  clear h3
  go_wp2_with fail
  go_ret
  exact ⟨u3, rfl, (fun h => ⟨H1.out trivial, H2.out trivial, H3.out h⟩), B0.out⟩
theorem tab_own_flags {w : World} {v : Value} {t : List (List Rat)} (h : Tab EOwn w v t) (hs : ∀ r ∈ t, ∀ q ∈ r, Sized q 1000) : Tab EFlag w v (t.map fun r => List.replicate r.length 1) := by
  obtain ⟨A, c, e, h1, h2, h3⟩ := h
  refine ⟨A, c, by simpa using e, by simpa using h1, h2, fun i row hi => ?_⟩
  rw [List.getElem?_map] at hi
  cases ht : t[i]? with
  | none => rw [ht] at hi; cases hi
  | some r =>
    rw [ht] at hi
    injection hi with hi
    subst hi
    obtain ⟨b, off, A', n', c', hA, x1, hr⟩ := h3 i r ht
    exact ⟨b, off, A', n', c', hA, x1, rats_own_flags hr (hs r (List.mem_of_getElem? ht))⟩
theorem allF_ones (n : Nat) : allF (List.replicate n 1) = true := by
  unfold allF
  rw [List.all_eq_true]
  intro x hx
  rw [List.mem_replicate] at hx
  rw [hx.2]; decide
theorem std_own {w : World} {vA vB vC : Value} {A : List (List Rat)} {B C : List Rat} (ha : Tab EOwn w vA A) (hb : Rats EOwn w vB B) (hc : Rats EOwn w vC C)
    (s1 : ∀ r ∈ A, ∀ q ∈ r, Sized q 1) (s2 : ∀ q ∈ B, Sized q 1) (s3 : ∀ q ∈ C, Sized q 1) (l1 : A.length ≤ 1000) (l2 : ∀ r ∈ A, r.length ≤ 1000) (l3 : B.length ≤ 1000) (l4 : C.length ≤ 1000) : StdIn w vA vB vC 1 A B C true := by
  refine ⟨_, _, _, ha.map (fun row hr v q hq he => OwnR.raw (B := 0) he (s1 row hr q hq)), hb.map (fun v q hq he => OwnR.raw (B := 0) he (s2 q hq)), hc.map (fun v q hq he => OwnR.raw (B := 0) he (s3 q hq)), tab_own_flags ha (fun r hr q hq => (s1 r hr q hq).mono (by omega)), rats_own_flags hb (fun q hq => (s2 q hq).mono (by omega)), rats_own_flags hc (fun q hq => (s3 q hq).mono (by omega)), ?_, by omega, l2, ?_, l1, l3, l4⟩
  · rw [allF_ones, allF_ones]
    have : allFF (A.map fun r => List.replicate r.length 1) = true := by
      unfold allFF
      rw [List.all_eq_true]
      intro r hr
      obtain ⟨q, -, rfl⟩ := List.mem_map.1 hr
      exact allF_ones _
    rw [this]; rfl
  · intro r hr
    obtain ⟨q, hq, rfl⟩ := List.mem_map.1 hr
    rw [List.length_replicate]; exact l2 q hq
theorem rats_nil (E : Elem) (w : World) : Rats E w (.slice none 0 0) [] := ⟨none, 0, rfl, Nat.le_refl _, by decide, fun i q hi => by simp at hi⟩
theorem anyN_cut {P : Program} {md : Region.Mode} {ops : Array Oper} {Q : Exit → Act → World → Prop} {S : World → Prop} {nf : List Nat} {fuel : Nat} {listed : Array Bool} {a : Act} {w : World} {α : Type} (f2 : Nat) (l2 : Array Bool) (A : Act → α → Act) (R : World → Prop)
    (h1 : ∀ x W, R W → wpAnyN P md ops Q S nf f2 l2 (A a x) W)
    (h2 : (∀ l b W, l = l2 → ∀ x, b = A a x → R W → wpAnyN P md ops Q S nf f2 l b W) → wpAnyN P md ops Q S nf fuel listed a w) : wpAnyN P md ops Q S nf fuel listed a w :=
  h2 fun l b W hl x hb hR => by subst hl hb; exact h1 x W hR
theorem awk_best1 : bestB [[1]] [2] [1] true [2] [1] = true := by decide +kernel
theorem awk_best2 : bestB [[1]] [2] [1] true [2] [2] = false := by decide +kernel
theorem awk_none1 : noneB [[-1]] [2] [1] true [1] = true := by decide +kernel
theorem awk_none2 : noneB [[1]] [2] [1] true [1] = false := by decide +kernel
theorem awk_endless : endlessB [[1, -1]] [2] [-1, 0] true [2, 0] [1, 1] = true := by decide +kernel
theorem awk_fulfils : fulfB [[1]] [2] [1] true [2] = true := by decide +kernel
theorem awk_proves1 : provesB [[1]] [2] [1] true 0 [2] 2 [1] [] = true := by decide +kernel
theorem awk_proves2 : provesB [[1]] [2] [1] true 3 [] 0 [] [] = false := by decide +kernel
theorem awk_colok : colOk [[1, -1]] [2] [-1, 0] true [1] = true := by decide +kernel
theorem awk_cols : colsL [[1, -1]] [1] ([-1, 0] : List Rat).length = [1, -1] := by decide +kernel

set_option maxHeartbeats 32000000 in
theorem awake12_calls (w : World) : Calls Tryz.prog 12 #[] w (RetV w (.bool true)) := by
  go_enter Tryz.func12, Tryz.ntmps12
  go_wp2_with fail
  refine (of12_calls _ 1 (by omega) (by omega) 1 div_1).mono ?_
  rintro e w1 ⟨v1, rfl, o1, b1⟩
  obtain ⟨s1, P1, q1, e1, P1', q1', e1', rfl, o1⟩ := o1.open_; have O1 := hide o1; clear o1
  go_wp2_with fail
  refine (of12_calls _ 2 (by omega) (by omega) 2 div_2).mono ?_
  rintro e w2 ⟨v2, rfl, o2, b2⟩
  obtain ⟨s2, P2, q2, e2, P2', q2', e2', rfl, o2⟩ := o2.open_; have O2 := hide o2; clear o2
  go_wp2_with fail
  refine (of12_calls _ 1 (by omega) (by omega) 1 div_1).mono ?_
  rintro e w3 ⟨v3, rfl, o3, b3⟩
  obtain ⟨s3, P3, q3, e3, P3', q3', e3', rfl, o3⟩ := o3.open_; have O3 := hide o3; clear o3
  go_upto_region 2 with fail
  obtain ⟨WS, hWS⟩ : ∃ WS, WS = (w3.alloc (Obj.cells #[Value.bool s3, Value.slice P3 q3 e3, Value.bool false, Value.slice P3' q3' e3'] 37)).alloc (Obj.cells #[Value.slice (some ⟨w1.heap.size + 1, 0, none⟩) 1 1, Value.slice (some ⟨w2.heap.size, 0, none⟩) 1 1, Value.slice (some ⟨w3.heap.size, 0, none⟩) 1 1] 25) := ⟨_, rfl⟩
  have k5 : Later w3 WS := by rw [hWS]; exact ((Later.refl _).alloc _).alloc _
  have k4 := b3.trans k5
  have kb : Later w2 WS := (((Later.refl _).alloc _)).trans k4
  have k3 := b2.trans kb
  have ka : Later w1 WS := (((Later.refl _).alloc _).alloc _).trans k3
  have kx : Later w WS := b1.trans ka
  have r1 : Row WS w1.heap.size 37 [.bool s1, .slice P1 q1 e1, .bool false, .slice P1' q1' e1'] := ((Row.new w1 _ _).alloc _).later k3
  have r2 : Row WS (w1.heap.size + 1) 23 [.slice (some ⟨w1.heap.size, 0, none⟩) 1 1] := (row_new1 w1 _ _ _).later k3
  have r3 : Row WS w2.heap.size 37 [.bool s2, .slice P2 q2 e2, .bool false, .slice P2' q2' e2'] := (Row.new _ _ _).later k4
  have r4 : Row WS w3.heap.size 37 [.bool s3, .slice P3 q3 e3, .bool false, .slice P3' q3' e3'] := by rw [hWS]; exact (Row.new _ _ _).alloc _
  have r5 : Row WS (w3.heap.size + 1) 25 [.slice (some ⟨w1.heap.size + 1, 0, none⟩) 1 1, .slice (some ⟨w2.heap.size, 0, none⟩) 1 1, .slice (some ⟨w3.heap.size, 0, none⟩) 1 1] := by rw [hWS]; exact row_new1 _ _ _ _
  have hss : StdIn WS (.slice (some ⟨w1.heap.size + 1, 0, none⟩) 1 1) (.slice (some ⟨w2.heap.size, 0, none⟩) 1 1) (.slice (some ⟨w3.heap.size, 0, none⟩) 1 1) 1 [[1]] [2] [1] true := std_own (tab_one r2 (rats_one (E := EOwn) r1 (OwnR.weaken (OwnR.later O1.out ka) (Nat.zero_le _)))) (rats_one (E := EOwn) r3 (OwnR.weaken (OwnR.later O2.out kb) (Nat.zero_le _))) (rats_one (E := EOwn) r4 (OwnR.weaken (OwnR.later O3.out k5) (Nat.zero_le _))) (fun row hr => sized_list1 (l := row) (by simp at hr; subst hr; simp)) (sized_list1 (by simp)) (sized_list1 (by simp)) (by simp) (by simp) (by simp) (by simp)
  rw [← hWS]
  obtain ⟨gs, hgs⟩ : ∃ gs, gs = w3.heap.size + 1 := ⟨_, rfl⟩
  obtain ⟨psA, hpsA⟩ : ∃ x, x = w1.heap.size + 1 := ⟨_, rfl⟩
  obtain ⟨psB, hpsB⟩ : ∃ x, x = w2.heap.size := ⟨_, rfl⟩
  obtain ⟨psC, hpsC⟩ : ∃ x, x = w3.heap.size := ⟨_, rfl⟩
  rw [← hgs] at r5 ⊢
  rw [← hpsA, ← hpsB, ← hpsC] at hss r5
  have HSs := hide hss; have HRs := hide r5; have HKs := hide kx
  clear b1 O1 b2 O2 b3 O3 r1 r2 r3 r4 r5 ka kb k3 k4 k5 kx hss hpsA hpsB hpsC hgs hWS  
  go_wp2_with fail
  refine (of12_calls _ 1 (by omega) (by omega) 1 div_1).mono ?_
  rintro e w4 ⟨v4, rfl, o4, b4⟩
  obtain ⟨s4, P4, q4, e4, P4', q4', e4', rfl, o4⟩ := o4.open_; have O4 := hide o4; clear o4
  go_wp2_with fail
  refine (of12_calls _ (-1) (by omega) (by omega) (-1) div_m1).mono ?_
  rintro e w5 ⟨v5, rfl, o5, b5⟩
  obtain ⟨s5, P5, q5, e5, P5', q5', e5', rfl, o5⟩ := o5.open_; have O5 := hide o5; clear o5
  go_wp2_with fail
  refine (of12_calls _ 2 (by omega) (by omega) 2 div_2).mono ?_
  rintro e w6 ⟨v6, rfl, o6, b6⟩
  obtain ⟨s6, P6, q6, e6, P6', q6', e6', rfl, o6⟩ := o6.open_; have O6 := hide o6; clear o6
  go_wp2_with fail
  refine (of12_calls _ (-1) (by omega) (by omega) (-1) div_m1).mono ?_
  rintro e w7 ⟨v7, rfl, o7, b7⟩
  obtain ⟨s7, P7, q7, e7, P7', q7', e7', rfl, o7⟩ := o7.open_; have O7 := hide o7; clear o7
  go_wp2_with fail
  refine (of12_calls _ 0 (by omega) (by omega) 0 div_0).mono ?_
  rintro e w8 ⟨v8, rfl, o8, b8⟩
  obtain ⟨s8, P8, q8, e8, P8', q8', e8', rfl, o8⟩ := o8.open_; have O8 := hide o8; clear o8
  go_upto_region 3 with fail
  obtain ⟨WF, hWF⟩ : ∃ WF, WF = (w8.alloc (Obj.cells #[Value.bool s7, Value.slice P7 q7 e7, Value.bool false, Value.slice P7' q7' e7', Value.bool s8, Value.slice P8 q8 e8, Value.bool false, Value.slice P8' q8' e8'] 37)).alloc (Obj.cells #[Value.slice (some ⟨w5.heap.size + 1, 0, none⟩) 1 1, Value.slice (some ⟨w6.heap.size, 0, none⟩) 1 1, Value.slice (some ⟨w8.heap.size, 0, none⟩) 2 2] 25) := ⟨_, rfl⟩
  have k5 : Later w8 WF := by rw [hWF]; exact ((Later.refl _).alloc _).alloc _
  have kc7 : Later w7 WF := b8.trans k5
  have k4 := b7.trans kc7
  have kb : Later w6 WF := (((Later.refl _).alloc _)).trans k4
  have k3 := b6.trans kb
  have ka : Later w5 WF := (((Later.refl _).alloc _).alloc _).trans k3
  have ka4 : Later w4 WF := b5.trans ka
  have kx : Later WS WF := b4.trans ka4
  have r1 : Row WF w5.heap.size 37 [.bool s4, .slice P4 q4 e4, .bool false, .slice P4' q4' e4', .bool s5, .slice P5 q5 e5, .bool false, .slice P5' q5' e5'] := ((Row.new w5 _ _).alloc _).later k3
  have r2 : Row WF (w5.heap.size + 1) 23 [.slice (some ⟨w5.heap.size, 0, none⟩) 2 2] := (row_new1 w5 _ _ _).later k3
  have r3 : Row WF w6.heap.size 37 [.bool s6, .slice P6 q6 e6, .bool false, .slice P6' q6' e6'] := (Row.new _ _ _).later k4
  have r4 : Row WF w8.heap.size 37 [.bool s7, .slice P7 q7 e7, .bool false, .slice P7' q7' e7', .bool s8, .slice P8 q8 e8, .bool false, .slice P8' q8' e8'] := by rw [hWF]; exact (Row.new _ _ _).alloc _
  have r5 : Row WF (w8.heap.size + 1) 25 [.slice (some ⟨w5.heap.size + 1, 0, none⟩) 1 1, .slice (some ⟨w6.heap.size, 0, none⟩) 1 1, .slice (some ⟨w8.heap.size, 0, none⟩) 2 2] := by rw [hWF]; exact row_new1 _ _ _ _
  have hsf : StdIn WF (.slice (some ⟨w5.heap.size + 1, 0, none⟩) 1 1) (.slice (some ⟨w6.heap.size, 0, none⟩) 1 1) (.slice (some ⟨w8.heap.size, 0, none⟩) 2 2) 1 [[1, -1]] [2] [-1, 0] true := std_own (tab_one r2 (rats_two (E := EOwn) r1 (OwnR.weaken (OwnR.later O4.out ka4) (Nat.zero_le _)) (OwnR.weaken (OwnR.later O5.out ka) (Nat.zero_le _)))) (rats_one (E := EOwn) r3 (OwnR.weaken (OwnR.later O6.out kb) (Nat.zero_le _))) (rats_two (E := EOwn) r4 (OwnR.weaken (OwnR.later O7.out kc7) (Nat.zero_le _)) (OwnR.weaken (OwnR.later O8.out k5) (Nat.zero_le _))) (fun row hr => sized_list1 (l := row) (by simp at hr; subst hr; simp)) (sized_list1 (by simp)) (sized_list1 (by simp)) (by simp) (by simp) (by simp) (by simp)
  rw [← hWF]
  obtain ⟨gf, hgf⟩ : ∃ gf, gf = w8.heap.size + 1 := ⟨_, rfl⟩
  obtain ⟨pfA, hpfA⟩ : ∃ x, x = w5.heap.size + 1 := ⟨_, rfl⟩
  obtain ⟨pfB, hpfB⟩ : ∃ x, x = w6.heap.size := ⟨_, rfl⟩
  obtain ⟨pfC, hpfC⟩ : ∃ x, x = w8.heap.size := ⟨_, rfl⟩
  rw [← hgf] at r5 ⊢
  rw [← hpfA, ← hpfB, ← hpfC] at hsf r5
  have HSf := hide hsf; have HRf := hide r5; have HKf := hide kx
  clear b4 O4 b5 O5 b6 O6 b7 O7 b8 O8 r1 r2 r3 r4 r5 ka kb k3 k4 k5 kx hsf hpfA hpfB hpfC hgf hWF kc7 ka4
  go_wp2_with fail
  refine (of12_calls _ (-1) (by omega) (by omega) (-1) div_m1).mono ?_
  rintro e w9 ⟨v9, rfl, o9, b9⟩
  obtain ⟨s9, P9, q9, e9, P9', q9', e9', rfl, o9⟩ := o9.open_; have O9 := hide o9; clear o9
  go_wp2_with fail
  refine (of12_calls _ 2 (by omega) (by omega) 2 div_2).mono ?_
  rintro e w10 ⟨v10, rfl, o10, b10⟩
  obtain ⟨s10, P10, q10, e10, P10', q10', e10', rfl, o10⟩ := o10.open_; have O10 := hide o10; clear o10
  go_wp2_with fail
  refine (of12_calls _ 1 (by omega) (by omega) 1 div_1).mono ?_
  rintro e w11 ⟨v11, rfl, o11, b11⟩
  obtain ⟨s11, P11, q11, e11, P11', q11', e11', rfl, o11⟩ := o11.open_; have O11 := hide o11; clear o11
  go_upto_region 4 with fail
  obtain ⟨WB, hWB⟩ : ∃ WB, WB = (w11.alloc (Obj.cells #[Value.bool s11, Value.slice P11 q11 e11, Value.bool false, Value.slice P11' q11' e11'] 37)).alloc (Obj.cells #[Value.slice (some ⟨w9.heap.size + 1, 0, none⟩) 1 1, Value.slice (some ⟨w10.heap.size, 0, none⟩) 1 1, Value.slice (some ⟨w11.heap.size, 0, none⟩) 1 1] 25) := ⟨_, rfl⟩
  have k5 : Later w11 WB := by rw [hWB]; exact ((Later.refl _).alloc _).alloc _
  have k4 := b11.trans k5
  have kb : Later w10 WB := (((Later.refl _).alloc _)).trans k4
  have k3 := b10.trans kb
  have ka : Later w9 WB := (((Later.refl _).alloc _).alloc _).trans k3
  have kx : Later WF WB := b9.trans ka
  have r1 : Row WB w9.heap.size 37 [.bool s9, .slice P9 q9 e9, .bool false, .slice P9' q9' e9'] := ((Row.new w9 _ _).alloc _).later k3
  have r2 : Row WB (w9.heap.size + 1) 23 [.slice (some ⟨w9.heap.size, 0, none⟩) 1 1] := (row_new1 w9 _ _ _).later k3
  have r3 : Row WB w10.heap.size 37 [.bool s10, .slice P10 q10 e10, .bool false, .slice P10' q10' e10'] := (Row.new _ _ _).later k4
  have r4 : Row WB w11.heap.size 37 [.bool s11, .slice P11 q11 e11, .bool false, .slice P11' q11' e11'] := by rw [hWB]; exact (Row.new _ _ _).alloc _
  have r5 : Row WB (w11.heap.size + 1) 25 [.slice (some ⟨w9.heap.size + 1, 0, none⟩) 1 1, .slice (some ⟨w10.heap.size, 0, none⟩) 1 1, .slice (some ⟨w11.heap.size, 0, none⟩) 1 1] := by rw [hWB]; exact row_new1 _ _ _ _
  have hsb : StdIn WB (.slice (some ⟨w9.heap.size + 1, 0, none⟩) 1 1) (.slice (some ⟨w10.heap.size, 0, none⟩) 1 1) (.slice (some ⟨w11.heap.size, 0, none⟩) 1 1) 1 [[-1]] [2] [1] true := std_own (tab_one r2 (rats_one (E := EOwn) r1 (OwnR.weaken (OwnR.later O9.out ka) (Nat.zero_le _)))) (rats_one (E := EOwn) r3 (OwnR.weaken (OwnR.later O10.out kb) (Nat.zero_le _))) (rats_one (E := EOwn) r4 (OwnR.weaken (OwnR.later O11.out k5) (Nat.zero_le _))) (fun row hr => sized_list1 (l := row) (by simp at hr; subst hr; simp)) (sized_list1 (by simp)) (sized_list1 (by simp)) (by simp) (by simp) (by simp) (by simp)
  rw [← hWB]
  obtain ⟨gb, hgb⟩ : ∃ gb, gb = w11.heap.size + 1 := ⟨_, rfl⟩
  obtain ⟨pbA, hpbA⟩ : ∃ x, x = w9.heap.size + 1 := ⟨_, rfl⟩
  obtain ⟨pbB, hpbB⟩ : ∃ x, x = w10.heap.size := ⟨_, rfl⟩
  obtain ⟨pbC, hpbC⟩ : ∃ x, x = w11.heap.size := ⟨_, rfl⟩
  rw [← hgb] at r5 ⊢
  rw [← hpbA, ← hpbB, ← hpbC] at hsb r5
  have HSb := hide hsb; have HRb := hide r5; have HKb := hide kx
  clear b9 O9 b10 O10 b11 O11 r1 r2 r3 r4 r5 ka kb k3 k4 k5 kx hsb hpbA hpbB hpbC hgb hWB  
  go_wp2_with fail
  refine (of12_calls _ 2 (by omega) (by omega) 2 div_2).mono ?_
  rintro e w12 ⟨v12, rfl, o12, b12⟩
  obtain ⟨s12, P12, q12, e12, P12', q12', e12', rfl, o12⟩ := o12.open_; have O12 := hide o12; clear o12
  go_wp2_with fail
  refine (of12_calls _ 1 (by omega) (by omega) 1 div_1).mono ?_
  rintro e w13 ⟨v13, rfl, o13, b13⟩
  obtain ⟨s13, P13, q13, e13, P13', q13', e13', rfl, o13⟩ := o13.open_; have O13 := hide o13; clear o13
  go_upto_region 6 with fail
  obtain ⟨wq, hwq⟩ : ∃ wq, wq = w13.alloc (Obj.cells #[Value.bool s13, Value.slice P13 q13 e13, Value.bool false, Value.slice P13' q13' e13'] 37) := ⟨_, rfl⟩
  have k1 : Later w13 wq := by rw [hwq]; exact (Later.refl _).alloc _
  have k2 := b13.trans k1
  have k3 : Later w12 wq := ((Later.refl _).alloc _).trans k2
  have k4 : Later WB wq := b12.trans k3
  have r1 : Row wq w12.heap.size 37 [.bool s12, .slice P12 q12 e12, .bool false, .slice P12' q12' e12'] := (Row.new _ _ _).later k2
  have r2 : Row wq w13.heap.size 37 [.bool s13, .slice P13 q13 e13, .bool false, .slice P13' q13' e13'] := by rw [hwq]; exact Row.new _ _ _
  have htwo : Rats (ERaw 1) wq (.slice (some ⟨w12.heap.size, 0, none⟩) 1 1) [2] := Own.raw1 (rats_one (E := EOwn) r1 (OwnR.weaken (OwnR.later O12.out k3) (Nat.zero_le _))) (sized_list1 (by simp))
  have hone : Rats (ERaw 1) wq (.slice (some ⟨w13.heap.size, 0, none⟩) 1 1) [1] := Own.raw1 (rats_one (E := EOwn) r2 (OwnR.weaken (OwnR.later O13.out k1) (Nat.zero_le _))) (sized_list1 (by simp))
  rw [← hwq]
  obtain ⟨p2, hp2⟩ : ∃ x, x = w12.heap.size := ⟨_, rfl⟩
  obtain ⟨p1, hp1⟩ : ∃ x, x = w13.heap.size := ⟨_, rfl⟩
  rw [← hp2] at htwo ⊢
  rw [← hp1] at hone ⊢
  have HKQ := hide k4; have HTWOQ := hide htwo; have HONEQ := hide hone
  clear hp1 hp2 htwo hone r1 r2 k1 k2 k3 k4 hwq O12 O13 b12 b13
  have hfq : Later WF wq := HKb.out.trans HKQ.out
  obtain ⟨d1, d2, d3⟩ : wq.cell? ⟨gf, 0, none⟩ = some (.slice (some ⟨pfA, 0, none⟩) 1 1) ∧ wq.cell? ⟨gf, 1, none⟩ = some (.slice (some ⟨pfB, 0, none⟩) 1 1) ∧ wq.cell? ⟨gf, 2, none⟩ = some (.slice (some ⟨pfC, 0, none⟩) 2 2) := ⟨(HRf.out.later hfq).cell rfl, (HRf.out.later hfq).cell rfl, (HRf.out.later hfq).cell rfl⟩
  have HFQ := hide hfq
  clear hfq
  go_wp2_with fail
  refine (columns_calls wq _ _ _ _ 1 1 [[1, -1]] [2] [-1, 0] [1] true (HSf.out.later HFQ.out) HONEQ.out (by omega) (by simp)).mono ?_
  rintro e wr ⟨b20, ⟨hck, v20, rfl, o20, -⟩ | ⟨hck, rfl⟩⟩
  rotate_left
  · rw [awk_colok] at hck; cases hck
  rw [awk_cols] at o20
  have HL6 := hide o20.now
  obtain ⟨A20, n20, c20, rfl, -⟩ := HL6.out.form
  have HKR := hide b20
  clear b20 o20 hck d1 d2 d3
  go_upto_region 7 with fail
  have HLF := hide (HFQ.out.trans HKR.out)
  have HSs' := hide (HSs.out.later (HKf.out.trans HLF.out))
  have HSf' := hide (HSf.out.later HLF.out)
  have HSb' := hide (HSb.out.later (HKQ.out.trans HKR.out))
  have HTWO := hide (HTWOQ.out.later ERaw.later HKR.out)
  have HONE := hide (HONEQ.out.later ERaw.later HKR.out)
  have HLW : Hid (Later w wr) := hide (HKs.out.trans (HKf.out.trans HLF.out))
  have HS7 : Hid (∀ w', Later wr w' → w'.cell? ⟨gs, 0, none⟩ = some (.slice (some ⟨psA, 0, none⟩) 1 1) ∧ w'.cell? ⟨gs, 1, none⟩ = some (.slice (some ⟨psB, 0, none⟩) 1 1) ∧ w'.cell? ⟨gs, 2, none⟩ = some (.slice (some ⟨psC, 0, none⟩) 1 1) ∧ w'.cell? ⟨gf, 0, none⟩ = some (.slice (some ⟨pfA, 0, none⟩) 1 1) ∧ w'.cell? ⟨gf, 1, none⟩ = some (.slice (some ⟨pfB, 0, none⟩) 1 1) ∧ w'.cell? ⟨gf, 2, none⟩ = some (.slice (some ⟨pfC, 0, none⟩) 2 2) ∧ w'.cell? ⟨gb, 0, none⟩ = some (.slice (some ⟨pbA, 0, none⟩) 1 1) ∧ w'.cell? ⟨gb, 1, none⟩ = some (.slice (some ⟨pbB, 0, none⟩) 1 1) ∧ w'.cell? ⟨gb, 2, none⟩ = some (.slice (some ⟨pbC, 0, none⟩) 1 1)) := hide fun W hW => by
    have h1 := HRs.out.later ((HKf.out.trans HLF.out).trans hW)
    have h2 := HRf.out.later (HLF.out.trans hW)
    have h3 := HRb.out.later ((HKQ.out.trans HKR.out).trans hW)
    exact ⟨h1.cell rfl, h1.cell rfl, h1.cell rfl, h2.cell rfl, h2.cell rfl, h2.cell rfl, h3.cell rfl, h3.cell rfl, h3.cell rfl⟩
  clear HRs HRf HRb HSs HSf HSb HKs HKf HKb HKQ HKR HLF HFQ HTWOQ HONEQ
  have HSs := HSs'; have HSf := HSf'; have HSb := HSb'
  clear HSs' HSf' HSb'
  have hmx : Tryz.prog.follows .mixedOrders = true := by kernel_rfl
  refine wp_region_N (fun w' => w'.cell? ⟨gs, 0, none⟩ = some (.slice (some ⟨psA, 0, none⟩) 1 1) ∧ w'.cell? ⟨gs, 1, none⟩ = some (.slice (some ⟨psB, 0, none⟩) 1 1) ∧ w'.cell? ⟨gs, 2, none⟩ = some (.slice (some ⟨psC, 0, none⟩) 1 1) ∧ w'.cell? ⟨gf, 0, none⟩ = some (.slice (some ⟨pfA, 0, none⟩) 1 1) ∧ w'.cell? ⟨gf, 1, none⟩ = some (.slice (some ⟨pfB, 0, none⟩) 1 1) ∧ w'.cell? ⟨gf, 2, none⟩ = some (.slice (some ⟨pfC, 0, none⟩) 2 2) ∧ w'.cell? ⟨gb, 0, none⟩ = some (.slice (some ⟨pbA, 0, none⟩) 1 1) ∧ w'.cell? ⟨gb, 1, none⟩ = some (.slice (some ⟨pbB, 0, none⟩) 1 1) ∧ w'.cell? ⟨gb, 2, none⟩ = some (.slice (some ⟨pbC, 0, none⟩) 1 1)) [] hmx (HS7.out _ (Later.refl wr).drew) (fun hHeld => ?_)
  refine wpAnyN_takeD (some 44) (by rfl) (i := 0) (oi := _) (v := ?_) rfl (by kernel_rfl) (by kernel_rfl) (by kernel_rfl) (by kernel_rfl) (fun _ _ _ h => h) (Or.inl ⟨by rfl, ?_⟩) (by assumption) ?_
  rotate_left
  · intro w hSw; (try dsimp only at hSw); go_simp
    first | done | with_reducible rfl
  try simp only [Act.put, List.setIfInBounds_toArray, List.set_cons_zero, List.set_cons_succ]
  refine wpAnyN_takeD (some 45) (by rfl) (i := 1) (oi := _) (v := ?_) rfl (by kernel_rfl) (by kernel_rfl) (by kernel_rfl) (by kernel_rfl) (fun _ _ _ h => h) (Or.inl ⟨by rfl, ?_⟩) (by assumption) ?_
  rotate_left
  · intro w hSw; (try dsimp only at hSw); go_simp
    first | done | with_reducible rfl
  try simp only [Act.put, List.setIfInBounds_toArray, List.set_cons_zero, List.set_cons_succ]
  refine wpAnyN_takeD (some 46) (by rfl) (i := 2) (oi := _) (v := ?_) rfl (by kernel_rfl) (by kernel_rfl) (by kernel_rfl) (by kernel_rfl) (fun _ _ _ h => h) (Or.inl ⟨by rfl, ?_⟩) (by assumption) ?_
  rotate_left
  · intro w hSw; (try dsimp only at hSw); go_simp
    first | done | with_reducible rfl
  try simp only [Act.put, List.setIfInBounds_toArray, List.set_cons_zero, List.set_cons_succ]
  refine wpAnyN_ready (rs := [3]) (by kernel_rfl) (by simp) ?_
  refine AllReadyN.held rfl (by rfl) (fun K hK => ?_) AllReadyN.nil
  go_simp
  refine (best_calls _ _ _ _ _ _ 1 1 1 [[1]] [2] [1] [2] [1] true (HSs.out.later (Later.refl wr).drew) (HTWO.out.later ERaw.later (Later.refl wr).drew) (HONE.out.later ERaw.later (Later.refl wr).drew) (by omega) (by omega) (by simp) (by simp)).mono ?_
  rintro e w103 ⟨rfl, b103⟩
  rw [awk_best1]
  have l3 : Later wr w103 := Later.trans (Later.refl wr).drew b103
  refine hK.out _ _ ?_ (fun hHeld => ?_)
  · exact HS7.out _ l3
  clear hK K
  try simp only [Act.put, List.setIfInBounds_toArray, List.set_cons_zero, List.set_cons_succ]
  refine wpAnyN_takeD (some 48) (by rfl) (i := 4) (oi := _) (v := ?_) rfl (by kernel_rfl) (by kernel_rfl) (by kernel_rfl) (by kernel_rfl) (fun _ _ _ h => h) (Or.inl ⟨by rfl, ?_⟩) (by assumption) ?_
  rotate_left
  · intro w hSw; (try dsimp only at hSw); go_simp
    first | done | with_reducible rfl
  try simp only [Act.put, List.setIfInBounds_toArray, List.set_cons_zero, List.set_cons_succ]
  refine wpAnyN_takeD (some 49) (by rfl) (i := 5) (oi := _) (v := ?_) rfl (by kernel_rfl) (by kernel_rfl) (by kernel_rfl) (by kernel_rfl) (fun _ _ _ h => h) (Or.inl ⟨by rfl, ?_⟩) (by assumption) ?_
  rotate_left
  · intro w hSw; (try dsimp only at hSw); go_simp
    first | done | with_reducible rfl
  try simp only [Act.put, List.setIfInBounds_toArray, List.set_cons_zero, List.set_cons_succ]
  refine wpAnyN_takeD (some 50) (by rfl) (i := 6) (oi := _) (v := ?_) rfl (by kernel_rfl) (by kernel_rfl) (by kernel_rfl) (by kernel_rfl) (fun _ _ _ h => h) (Or.inl ⟨by rfl, ?_⟩) (by assumption) ?_
  rotate_left
  · intro w hSw; (try dsimp only at hSw); go_simp
    first | done | with_reducible rfl
  try simp only [Act.put, List.setIfInBounds_toArray, List.set_cons_zero, List.set_cons_succ]
  refine wpAnyN_takeD (some 51) (by rfl) (i := 7) (oi := _) (v := ?_) rfl (by kernel_rfl) (by kernel_rfl) (by kernel_rfl) (by kernel_rfl) (fun _ _ _ h => h) (Or.inl ⟨by rfl, ?_⟩) (by assumption) ?_
  rotate_left
  · intro w hSw; (try dsimp only at hSw); go_simp
    first | done | with_reducible rfl
  try simp only [Act.put, List.setIfInBounds_toArray, List.set_cons_zero, List.set_cons_succ]
  refine wpAnyN_ready (rs := [8]) (by kernel_rfl) (by simp) ?_
  refine AllReadyN.held rfl (by rfl) (fun K hK => ?_) AllReadyN.nil
  go_simp
  refine (best_calls _ _ _ _ _ _ 1 1 1 [[1]] [2] [1] [2] [2] true (HSs.out.later l3) (HTWO.out.later ERaw.later l3) (HTWO.out.later ERaw.later l3) (by omega) (by omega) (by simp) (by simp)).mono ?_
  rintro e w108 ⟨rfl, b108⟩
  rw [awk_best2]
  have l8 : Later wr w108 := Later.trans l3 b108
  refine hK.out _ _ ?_ (fun hHeld => ?_)
  · exact HS7.out _ l8
  clear hK K
  try simp only [Act.put, List.setIfInBounds_toArray, List.set_cons_zero, List.set_cons_succ]
  refine wpAnyN_takeD (some 53) (by rfl) (i := 9) (oi := _) (v := ?_) rfl (by kernel_rfl) (by kernel_rfl) (by kernel_rfl) (by kernel_rfl) (fun _ _ _ h => h) (Or.inl ⟨by rfl, ?_⟩) (by assumption) ?_
  rotate_left
  · intro w hSw; (try dsimp only at hSw); go_simp
    first | done | with_reducible rfl
  try simp only [Act.put, List.setIfInBounds_toArray, List.set_cons_zero, List.set_cons_succ]
  refine wpAnyN_takeD (some 54) (by rfl) (i := 10) (oi := _) (v := ?_) rfl (by kernel_rfl) (by kernel_rfl) (by kernel_rfl) (by kernel_rfl) (fun _ _ _ h => h) (Or.inl ⟨by rfl, ?_⟩) (by assumption) ?_
  rotate_left
  · intro w hSw; (try dsimp only at hSw); go_simp
    first | done | with_reducible rfl
  try simp only [Act.put, List.setIfInBounds_toArray, List.set_cons_zero, List.set_cons_succ]
  refine wpAnyN_takeD (some 55) (by rfl) (i := 11) (oi := _) (v := ?_) rfl (by kernel_rfl) (by kernel_rfl) (by kernel_rfl) (by kernel_rfl) (fun _ _ _ h => h) (Or.inl ⟨by rfl, ?_⟩) (by assumption) ?_
  rotate_left
  · intro w hSw; (try dsimp only at hSw); go_simp
    first | done | with_reducible rfl
  try simp only [Act.put, List.setIfInBounds_toArray, List.set_cons_zero, List.set_cons_succ]
  refine wpAnyN_takeD (some 56) (by rfl) (i := 12) (oi := _) (v := ?_) rfl (by kernel_rfl) (by kernel_rfl) (by kernel_rfl) (by kernel_rfl) (fun _ _ _ h => h) (Or.inl ⟨by rfl, ?_⟩) (by assumption) ?_
  rotate_left
  · intro w hSw; (try dsimp only at hSw); go_simp
    first | done | with_reducible rfl
  try simp only [Act.put, List.setIfInBounds_toArray, List.set_cons_zero, List.set_cons_succ]
  refine wpAnyN_takeD (some 57) (by rfl) (i := 13) (oi := _) (v := ?_) rfl (by kernel_rfl) (by kernel_rfl) (by kernel_rfl) (by kernel_rfl) (fun _ _ _ h => h) (Or.inl ⟨by rfl, ?_⟩) (by assumption) ?_
  rotate_left
  · intro w hSw; (try dsimp only at hSw); go_simp
    first | done | with_reducible rfl
  try simp only [Act.put, List.setIfInBounds_toArray, List.set_cons_zero, List.set_cons_succ]
  refine wpAnyN_ready (rs := [14]) (by kernel_rfl) (by simp) ?_
  refine AllReadyN.held rfl (by rfl) (fun K hK => ?_) AllReadyN.nil
  go_simp
  refine (none_calls _ _ _ _ _ 1 1 [[-1]] [2] [1] [1] true (HSb.out.later l8) (HONE.out.later ERaw.later l8) (by omega) (by simp)).mono ?_
  rintro e w114 ⟨rfl, b114⟩
  rw [awk_none1]
  have l14 : Later wr w114 := Later.trans l8 b114
  refine hK.out _ _ ?_ (fun hHeld => ?_)
  · exact HS7.out _ l14
  clear hK K
  try simp only [Act.put, List.setIfInBounds_toArray, List.set_cons_zero, List.set_cons_succ]
  refine wpAnyN_takeD (some 59) (by rfl) (i := 15) (oi := _) (v := ?_) rfl (by kernel_rfl) (by kernel_rfl) (by kernel_rfl) (by kernel_rfl) (fun _ _ _ h => h) (Or.inl ⟨by rfl, ?_⟩) (by assumption) ?_
  rotate_left
  · intro w hSw; (try dsimp only at hSw); go_simp
    first | done | with_reducible rfl
  try simp only [Act.put, List.setIfInBounds_toArray, List.set_cons_zero, List.set_cons_succ]
  refine wpAnyN_takeD (some 60) (by rfl) (i := 16) (oi := _) (v := ?_) rfl (by kernel_rfl) (by kernel_rfl) (by kernel_rfl) (by kernel_rfl) (fun _ _ _ h => h) (Or.inl ⟨by rfl, ?_⟩) (by assumption) ?_
  rotate_left
  · intro w hSw; (try dsimp only at hSw); go_simp
    first | done | with_reducible rfl
  try simp only [Act.put, List.setIfInBounds_toArray, List.set_cons_zero, List.set_cons_succ]
  refine wpAnyN_takeD (some 61) (by rfl) (i := 17) (oi := _) (v := ?_) rfl (by kernel_rfl) (by kernel_rfl) (by kernel_rfl) (by kernel_rfl) (fun _ _ _ h => h) (Or.inl ⟨by rfl, ?_⟩) (by assumption) ?_
  rotate_left
  · intro w hSw; (try dsimp only at hSw); go_simp
    first | done | with_reducible rfl
  try simp only [Act.put, List.setIfInBounds_toArray, List.set_cons_zero, List.set_cons_succ]
  refine wpAnyN_takeD (some 62) (by rfl) (i := 18) (oi := _) (v := ?_) rfl (by kernel_rfl) (by kernel_rfl) (by kernel_rfl) (by kernel_rfl) (fun _ _ _ h => h) (Or.inl ⟨by rfl, ?_⟩) (by assumption) ?_
  rotate_left
  · intro w hSw; (try dsimp only at hSw); go_simp
    first | done | with_reducible rfl
  try simp only [Act.put, List.setIfInBounds_toArray, List.set_cons_zero, List.set_cons_succ]
  refine wpAnyN_ready (rs := [19]) (by kernel_rfl) (by simp) ?_
  refine AllReadyN.held rfl (by rfl) (fun K hK => ?_) AllReadyN.nil
  go_simp
  refine (none_calls _ _ _ _ _ 1 1 [[1]] [2] [1] [1] true (HSs.out.later l14) (HONE.out.later ERaw.later l14) (by omega) (by simp)).mono ?_
  rintro e w119 ⟨rfl, b119⟩
  rw [awk_none2]
  have l19 : Later wr w119 := Later.trans l14 b119
  refine hK.out _ _ ?_ (fun hHeld => ?_)
  · exact HS7.out _ l19
  clear hK K
  try simp only [Act.put, List.setIfInBounds_toArray, List.set_cons_zero, List.set_cons_succ]
  refine wpAnyN_takeD (some 64) (by rfl) (i := 20) (oi := _) (v := ?_) rfl (by kernel_rfl) (by kernel_rfl) (by kernel_rfl) (by kernel_rfl) (fun _ _ _ h => h) (Or.inl ⟨by rfl, ?_⟩) (by assumption) ?_
  rotate_left
  · intro w hSw; (try dsimp only at hSw); go_simp
    first | done | with_reducible rfl
  try simp only [Act.put, List.setIfInBounds_toArray, List.set_cons_zero, List.set_cons_succ]
  refine wpAnyN_takeD (some 65) (by rfl) (i := 21) (oi := _) (v := ?_) rfl (by kernel_rfl) (by kernel_rfl) (by kernel_rfl) (by kernel_rfl) (fun _ _ _ h => h) (Or.inl ⟨by rfl, ?_⟩) (by assumption) ?_
  rotate_left
  · intro w hSw; (try dsimp only at hSw); go_simp
    first | done | with_reducible rfl
  try simp only [Act.put, List.setIfInBounds_toArray, List.set_cons_zero, List.set_cons_succ]
  refine wpAnyN_takeD (some 66) (by rfl) (i := 22) (oi := _) (v := ?_) rfl (by kernel_rfl) (by kernel_rfl) (by kernel_rfl) (by kernel_rfl) (fun _ _ _ h => h) (Or.inl ⟨by rfl, ?_⟩) (by assumption) ?_
  rotate_left
  · intro w hSw; (try dsimp only at hSw); go_simp
    first | done | with_reducible rfl
  try simp only [Act.put, List.setIfInBounds_toArray, List.set_cons_zero, List.set_cons_succ]
  refine wpAnyN_takeD (some 67) (by rfl) (i := 23) (oi := _) (v := ?_) rfl (by kernel_rfl) (by kernel_rfl) (by kernel_rfl) (by kernel_rfl) (fun _ _ _ h => h) (Or.inl ⟨by rfl, ?_⟩) (by assumption) ?_
  rotate_left
  · intro w hSw; (try dsimp only at hSw); go_simp
    first | done | with_reducible rfl
  try simp only [Act.put, List.setIfInBounds_toArray, List.set_cons_zero, List.set_cons_succ]
  refine anyN_cut (α := Value × Value × Value × Value × Value × Value) 31 #[true, true, true, true, true, true, true, true, true, true, true, true, true, true, true, true, true, true, true, true, true, true, true, true, true, true, true, true, true, true, true, false, false, false, false, false, false, false, false, false, false, false, false, false, false, false, false, false, false, false, false, false, false, false, false, false, false, false, false, false, false, false] (fun a x => (((((((a.put (some 68) x.1).put (some 69) x.2.1).put (some 70) x.2.2.1).put (some 71) x.2.2.2.1).put (some 72) x.2.2.2.2.1).put (some 73) x.2.2.2.2.2).put (some 74) (.bool true))) (fun W => Later wr W) (fun x W hW => ?_) (fun TAIL => ?_)
  · obtain ⟨x68, x69, x70, x71, x72, x73⟩ := x
    clear hHeld
    dsimp only at *
    simp only [Act.put, List.setIfInBounds_toArray, List.set_cons_zero, List.set_cons_succ]
    have hHeld := HS7.out W hW
    refine wpAnyN_takeD (some 75) (by rfl) (i := 31) (oi := _) (v := ?_) rfl (by kernel_rfl) (by kernel_rfl) (by kernel_rfl) (by kernel_rfl) (fun _ _ _ h => h) (Or.inl ⟨by rfl, ?_⟩) (by assumption) ?_
    rotate_left
    · intro w hSw; (try dsimp only at hSw); go_simp
      first | done | with_reducible rfl
    try simp only [Act.put, List.setIfInBounds_toArray, List.set_cons_zero, List.set_cons_succ]
    refine wpAnyN_takeD (some 76) (by rfl) (i := 32) (oi := _) (v := ?_) rfl (by kernel_rfl) (by kernel_rfl) (by kernel_rfl) (by kernel_rfl) (fun _ _ _ h => h) (Or.inl ⟨by rfl, ?_⟩) (by assumption) ?_
    rotate_left
    · intro w hSw; (try dsimp only at hSw); go_simp
      first | done | with_reducible rfl
    try simp only [Act.put, List.setIfInBounds_toArray, List.set_cons_zero, List.set_cons_succ]
    refine wpAnyN_takeD (some 77) (by rfl) (i := 33) (oi := _) (v := ?_) rfl (by kernel_rfl) (by kernel_rfl) (by kernel_rfl) (by kernel_rfl) (fun _ _ _ h => h) (Or.inl ⟨by rfl, ?_⟩) (by assumption) ?_
    rotate_left
    · intro w hSw; (try dsimp only at hSw); go_simp
      first | done | with_reducible rfl
    try simp only [Act.put, List.setIfInBounds_toArray, List.set_cons_zero, List.set_cons_succ]
    refine wpAnyN_takeD (some 78) (by rfl) (i := 34) (oi := _) (v := ?_) rfl (by kernel_rfl) (by kernel_rfl) (by kernel_rfl) (by kernel_rfl) (fun _ _ _ h => h) (Or.inl ⟨by rfl, ?_⟩) (by assumption) ?_
    rotate_left
    · intro w hSw; (try dsimp only at hSw); go_simp
      first | done | with_reducible rfl
    try simp only [Act.put, List.setIfInBounds_toArray, List.set_cons_zero, List.set_cons_succ]
    refine wpAnyN_ready (rs := [35]) (by kernel_rfl) (by simp) ?_
    refine AllReadyN.held rfl (by rfl) (fun K hK => ?_) AllReadyN.nil
    go_simp
    refine (fulfils_calls _ _ _ _ _ 1 1 [[1]] [2] [1] [2] true (HSs.out.later hW) (HTWO.out.later ERaw.later hW) (by omega) (by simp)).mono ?_
    rintro e w135 ⟨rfl, b135⟩
    rw [awk_fulfils]
    have l35 : Later wr w135 := Later.trans hW b135
    refine hK.out _ _ ?_ (fun hHeld => ?_)
    · exact HS7.out _ l35
    clear hK K
    try simp only [Act.put, List.setIfInBounds_toArray, List.set_cons_zero, List.set_cons_succ]
    refine wpAnyN_takeD (some 80) (by rfl) (i := 36) (oi := _) (v := ?_) rfl (by kernel_rfl) (by kernel_rfl) (by kernel_rfl) (by kernel_rfl) (fun _ _ _ h => h) (Or.inl ⟨by rfl, ?_⟩) (by assumption) ?_
    rotate_left
    · intro w hSw; (try dsimp only at hSw); go_simp
      first | done | with_reducible rfl
    try simp only [Act.put, List.setIfInBounds_toArray, List.set_cons_zero, List.set_cons_succ]
    refine wpAnyN_takeD (some 81) (by rfl) (i := 37) (oi := _) (v := ?_) rfl (by kernel_rfl) (by kernel_rfl) (by kernel_rfl) (by kernel_rfl) (fun _ _ _ h => h) (Or.inl ⟨by rfl, ?_⟩) (by assumption) ?_
    rotate_left
    · intro w hSw; (try dsimp only at hSw); go_simp
      first | done | with_reducible rfl
    try simp only [Act.put, List.setIfInBounds_toArray, List.set_cons_zero, List.set_cons_succ]
    refine wpAnyN_takeD (some 82) (by rfl) (i := 38) (oi := _) (v := ?_) rfl (by kernel_rfl) (by kernel_rfl) (by kernel_rfl) (by kernel_rfl) (fun _ _ _ h => h) (Or.inl ⟨by rfl, ?_⟩) (by assumption) ?_
    rotate_left
    · intro w hSw; (try dsimp only at hSw); go_simp
      first | done | with_reducible rfl
    try simp only [Act.put, List.setIfInBounds_toArray, List.set_cons_zero, List.set_cons_succ]
    refine wpAnyN_takeD (some 83) (by rfl) (i := 39) (oi := _) (v := ?_) rfl (by kernel_rfl) (by kernel_rfl) (by kernel_rfl) (by kernel_rfl) (fun _ _ _ h => h) (Or.inl ⟨by rfl, ?_⟩) (by assumption) ?_
    rotate_left
    · intro w hSw; (try dsimp only at hSw); go_simp
      first | done | with_reducible rfl
    try simp only [Act.put, List.setIfInBounds_toArray, List.set_cons_zero, List.set_cons_succ]
    refine wpAnyN_takeD (some 84) (by rfl) (i := 40) (oi := _) (v := ?_) rfl (by kernel_rfl) (by kernel_rfl) (by kernel_rfl) (by kernel_rfl) (fun _ _ _ h => h) (Or.inl ⟨by rfl, ?_⟩) (by assumption) ?_
    rotate_left
    · intro w hSw; (try dsimp only at hSw); go_simp
      first | done | with_reducible rfl
    try simp only [Act.put, List.setIfInBounds_toArray, List.set_cons_zero, List.set_cons_succ]
    refine wpAnyN_takeD (some 85) (by rfl) (i := 41) (oi := _) (v := ?_) rfl (by kernel_rfl) (by kernel_rfl) (by kernel_rfl) (by kernel_rfl) (fun _ _ _ h => h) (Or.inl ⟨by rfl, ?_⟩) (by assumption) ?_
    rotate_left
    · intro w hSw; (try dsimp only at hSw); go_simp
      first | done | with_reducible rfl
    try simp only [Act.put, List.setIfInBounds_toArray, List.set_cons_zero, List.set_cons_succ]
    refine wpAnyN_ready (rs := [42]) (by kernel_rfl) (by simp) ?_
    refine AllReadyN.held rfl (by rfl) (fun K hK => ?_) AllReadyN.nil
    go_simp
    refine (of12_calls _ 1 (by omega) (by omega) 1 div_1).mono ?_
    rintro e w142 ⟨v142, rfl, o142, b142⟩
    obtain ⟨s142, P142, q142, e142, P142', q142', e142', rfl, o142⟩ := o142.open_; have O142 := hide o142; clear o142
    have l42 : Later wr w142 := Later.trans l35 b142
    refine hK.out _ _ ?_ (fun hHeld => ?_)
    · exact HS7.out _ l42
    clear hK K
    try simp only [Act.put, List.setIfInBounds_toArray, List.set_cons_zero, List.set_cons_succ]
    refine wpAnyN_ready (rs := [43]) (by kernel_rfl) (by simp) ?_
    refine AllReadyN.held rfl (by rfl) (fun K hK => ?_) AllReadyN.nil
    go_simp
    refine (of12_calls _ (-1) (by omega) (by omega) (-1) div_m1).mono ?_
    rintro e w143 ⟨v143, rfl, o143, b143⟩
    obtain ⟨s143, P143, q143, e143, P143', q143', e143', rfl, o143⟩ := o143.open_; have O143 := hide o143; clear o143
    have l43 : Later wr w143 := Later.trans l42 b143
    refine hK.out _ _ ?_ (fun hHeld => ?_)
    · exact HS7.out _ l43
    clear hK K
    try simp only [Act.put, List.setIfInBounds_toArray, List.set_cons_zero, List.set_cons_succ]
    refine wpAnyN_ready (rs := [44]) (by kernel_rfl) (by simp) ?_
    refine AllReadyN.held rfl (by rfl) (fun K hK => ?_) AllReadyN.nil
    go_simp
    refine hK.out _ _ ?_ (fun hHeld => ?_)
    · exact HS7.out _ (l43.alloc _)
    clear hK K
    try simp only [Act.put, List.setIfInBounds_toArray, List.set_cons_zero, List.set_cons_succ]
    refine wpAnyN_ready (rs := [45]) (by kernel_rfl) (by simp) ?_
    refine AllReadyN.held rfl (by rfl) (fun K hK => ?_) AllReadyN.nil
    go_simp
    refine (lsame_calls _ _ _ [1, -1] [1, -1] 1 1 (HL6.out.later EOwn.later (l43.alloc _)) (rats_two (E := EOwn) (Row.new w143 _ _) (OwnR.weaken (OwnR.later O142.out (((Later.refl _).trans b143).alloc _)) (Nat.zero_le _)) (OwnR.weaken (OwnR.later O143.out ((Later.refl _).alloc _)) (Nat.zero_le _))) (sized_list1 (by simp)) (sized_list1 (by simp)) (by omega) (by omega) (by simp) true (by simp)).mono ?_
    rintro e w145 ⟨rfl, b145⟩

    have l45 : Later wr w145 := Later.trans (l43.alloc _) b145
    refine hK.out _ _ ?_ (fun hHeld => ?_)
    · exact HS7.out _ l45
    clear hK K
    try simp only [Act.put, List.setIfInBounds_toArray, List.set_cons_zero, List.set_cons_succ]
    refine wpAnyN_takeD (some 90) (by rfl) (i := 46) (oi := _) (v := ?_) rfl (by kernel_rfl) (by kernel_rfl) (by kernel_rfl) (by kernel_rfl) (fun _ _ _ h => h) (Or.inl ⟨by rfl, ?_⟩) (by assumption) ?_
    rotate_left
    · intro w hSw; (try dsimp only at hSw); go_simp
      first | done | with_reducible rfl
    try simp only [Act.put, List.setIfInBounds_toArray, List.set_cons_zero, List.set_cons_succ]
    refine wpAnyN_takeD (some 91) (by rfl) (i := 47) (oi := _) (v := ?_) rfl (by kernel_rfl) (by kernel_rfl) (by kernel_rfl) (by kernel_rfl) (fun _ _ _ h => h) (Or.inl ⟨by rfl, ?_⟩) (by assumption) ?_
    rotate_left
    · intro w hSw; (try dsimp only at hSw); go_simp
      first | done | with_reducible rfl
    try simp only [Act.put, List.setIfInBounds_toArray, List.set_cons_zero, List.set_cons_succ]
    refine wpAnyN_takeD (some 92) (by rfl) (i := 48) (oi := _) (v := ?_) rfl (by kernel_rfl) (by kernel_rfl) (by kernel_rfl) (by kernel_rfl) (fun _ _ _ h => h) (Or.inl ⟨by rfl, ?_⟩) (by assumption) ?_
    rotate_left
    · intro w hSw; (try dsimp only at hSw); go_simp
      first | done | with_reducible rfl
    try simp only [Act.put, List.setIfInBounds_toArray, List.set_cons_zero, List.set_cons_succ]
    refine wpAnyN_takeD (some 93) (by rfl) (i := 49) (oi := _) (v := ?_) rfl (by kernel_rfl) (by kernel_rfl) (by kernel_rfl) (by kernel_rfl) (fun _ _ _ h => h) (Or.inl ⟨by rfl, ?_⟩) (by assumption) ?_
    rotate_left
    · intro w hSw; (try dsimp only at hSw); go_simp
      first | done | with_reducible rfl
    try simp only [Act.put, List.setIfInBounds_toArray, List.set_cons_zero, List.set_cons_succ]
    refine wpAnyN_takeD (some 95) (by rfl) (i := 51) (oi := _) (v := ?_) rfl (by kernel_rfl) (by kernel_rfl) (by kernel_rfl) (by kernel_rfl) (fun _ _ _ h => h) (Or.inl ⟨by rfl, ?_⟩) (by assumption) ?_
    rotate_left
    · intro w hSw; (try dsimp only at hSw); go_simp
      first | done | with_reducible rfl
    try simp only [Act.put, List.setIfInBounds_toArray, List.set_cons_zero, List.set_cons_succ]
    refine wpAnyN_ready (rs := [50]) (by kernel_rfl) (by simp) ?_
    refine AllReadyN.held rfl (by rfl) (fun K hK => ?_) AllReadyN.nil
    go_simp
    refine (of12_calls _ 2 (by omega) (by omega) 2 div_2).mono ?_
    rintro e w150 ⟨v150, rfl, o150, b150⟩
    obtain ⟨s150, P150, q150, e150, P150', q150', e150', rfl, o150⟩ := o150.open_; have O150 := hide o150; clear o150
    have l50 : Later wr w150 := Later.trans l45 b150
    refine hK.out _ _ ?_ (fun hHeld => ?_)
    · exact HS7.out _ l50
    clear hK K
    try simp only [Act.put, List.setIfInBounds_toArray, List.set_cons_zero, List.set_cons_succ]
    refine wpAnyN_takeD (some 96) (by rfl) (i := 52) (oi := _) (v := ?_) rfl (by kernel_rfl) (by kernel_rfl) (by kernel_rfl) (by kernel_rfl) (fun _ _ _ h => h) (Or.inl ⟨by rfl, ?_⟩) (by assumption) ?_
    rotate_left
    · intro w hSw; (try dsimp only at hSw); go_simp
      first | done | with_reducible rfl
    try simp only [Act.put, List.setIfInBounds_toArray, List.set_cons_zero, List.set_cons_succ]
    refine wpAnyN_ready (rs := [53]) (by kernel_rfl) (by simp) ?_
    refine AllReadyN.held rfl (by rfl) (fun K hK => ?_) AllReadyN.nil
    go_simp
    refine (proves_calls _ _ _ _ 1 [[1]] [2] [1] true (HSs.out.later l50) 0 _ _ _ _ _ _ _ _ _ _ _ _ _ _ _ _ _ _ _ _ [2] [1] [] 2 (HTWO.out.later ERaw.later l50) (OwnR.raw (OwnR.weaken (OwnR.later O150.out (Later.refl _)) (Nat.zero_le _)) sized_2) (HONE.out.later ERaw.later l50) (rats_nil _ _) (by simp) (by simp) (by simp)).mono ?_
    rintro e w153 ⟨rfl, b153⟩
    rw [awk_proves1]
    have l53 : Later wr w153 := Later.trans l50 b153
    refine hK.out _ _ ?_ (fun hHeld => ?_)
    · exact HS7.out _ l53
    clear hK K
    try simp only [Act.put, List.setIfInBounds_toArray, List.set_cons_zero, List.set_cons_succ]
    refine wpAnyN_takeD (some 98) (by rfl) (i := 54) (oi := _) (v := ?_) rfl (by kernel_rfl) (by kernel_rfl) (by kernel_rfl) (by kernel_rfl) (fun _ _ _ h => h) (Or.inl ⟨by rfl, ?_⟩) (by assumption) ?_
    rotate_left
    · intro w hSw; (try dsimp only at hSw); go_simp
      first | done | with_reducible rfl
    try simp only [Act.put, List.setIfInBounds_toArray, List.set_cons_zero, List.set_cons_succ]
    refine wpAnyN_takeD (some 99) (by rfl) (i := 55) (oi := _) (v := ?_) rfl (by kernel_rfl) (by kernel_rfl) (by kernel_rfl) (by kernel_rfl) (fun _ _ _ h => h) (Or.inl ⟨by rfl, ?_⟩) (by assumption) ?_
    rotate_left
    · intro w hSw; (try dsimp only at hSw); go_simp
      first | done | with_reducible rfl
    try simp only [Act.put, List.setIfInBounds_toArray, List.set_cons_zero, List.set_cons_succ]
    refine wpAnyN_takeD (some 100) (by rfl) (i := 56) (oi := _) (v := ?_) rfl (by kernel_rfl) (by kernel_rfl) (by kernel_rfl) (by kernel_rfl) (fun _ _ _ h => h) (Or.inl ⟨by rfl, ?_⟩) (by assumption) ?_
    rotate_left
    · intro w hSw; (try dsimp only at hSw); go_simp
      first | done | with_reducible rfl
    try simp only [Act.put, List.setIfInBounds_toArray, List.set_cons_zero, List.set_cons_succ]
    refine wpAnyN_takeD (some 101) (by rfl) (i := 57) (oi := _) (v := ?_) rfl (by kernel_rfl) (by kernel_rfl) (by kernel_rfl) (by kernel_rfl) (fun _ _ _ h => h) (Or.inl ⟨by rfl, ?_⟩) (by assumption) ?_
    rotate_left
    · intro w hSw; (try dsimp only at hSw); go_simp
      first | done | with_reducible rfl
    try simp only [Act.put, List.setIfInBounds_toArray, List.set_cons_zero, List.set_cons_succ]
    refine wpAnyN_ready (rs := [58]) (by kernel_rfl) (by simp) ?_
    refine AllReadyN.held rfl (by rfl) (fun K hK => ?_) AllReadyN.nil
    go_simp
    refine (proves_calls _ _ _ _ 1 [[1]] [2] [1] true (HSs.out.later l53) 3 _ _ _ _ _ _ _ _ _ _ _ _ _ _ _ _ _ _ _ _ [] [] [] 0 (rats_nil _ _) (raw_zero _) (rats_nil _ _) (rats_nil _ _) (by simp) (by simp) (by simp)).mono ?_
    rintro e w158 ⟨rfl, b158⟩
    rw [awk_proves2]
    have l58 : Later wr w158 := Later.trans l53 b158
    refine hK.out _ _ ?_ (fun hHeld => ?_)
    · exact HS7.out _ l58
    clear hK K
    try simp only [Act.put, List.setIfInBounds_toArray, List.set_cons_zero, List.set_cons_succ]
    refine wpAnyN_takeD (some 103) (by rfl) (i := 59) (oi := _) (v := ?_) rfl (by kernel_rfl) (by kernel_rfl) (by kernel_rfl) (by kernel_rfl) (fun _ _ _ h => h) (Or.inl ⟨by rfl, ?_⟩) (by assumption) ?_
    rotate_left
    · intro w hSw; (try dsimp only at hSw); go_simp
      first | done | with_reducible rfl
    try simp only [Act.put, List.setIfInBounds_toArray, List.set_cons_zero, List.set_cons_succ]
    refine wpAnyN_takeD (some 104) (by rfl) (i := 60) (oi := _) (v := ?_) rfl (by kernel_rfl) (by kernel_rfl) (by kernel_rfl) (by kernel_rfl) (fun _ _ _ h => h) (Or.inl ⟨by rfl, ?_⟩) (by assumption) ?_
    rotate_left
    · intro w hSw; (try dsimp only at hSw); go_simp
      first | done | with_reducible rfl
    try simp only [Act.put, List.setIfInBounds_toArray, List.set_cons_zero, List.set_cons_succ]
    refine wpAnyN_takeD (some 0) (by rfl) (i := 61) (oi := _) (v := ?_) rfl (by kernel_rfl) (by kernel_rfl) (by kernel_rfl) (by kernel_rfl) (fun _ _ _ h => h) (Or.inl ⟨by rfl, ?_⟩) (by assumption) ?_
    rotate_left
    · intro w hSw; (try dsimp only at hSw); go_simp
      first | done | with_reducible rfl
    try simp only [Act.put, List.setIfInBounds_toArray, List.set_cons_zero, List.set_cons_succ]
    refine wpAnyN_done (by kernel_rfl) ?_ _
    have LE := hide (HLW.out.trans l58)
    clear hHeld
    go_wp2_with fail
    go_ret
    exact ⟨rfl, LE.out⟩

  refine wpAnyN_ready (rs := [24]) (by kernel_rfl) (by simp) ?_
  refine AllReadyN.held rfl (by rfl) (fun K hK => ?_) AllReadyN.nil
  go_simp
  refine (of12_calls _ 2 (by omega) (by omega) 2 div_2).mono ?_
  rintro e w124 ⟨v124, rfl, o124, b124⟩
  obtain ⟨s124, P124, q124, e124, P124', q124', e124', rfl, o124⟩ := o124.open_; have O124 := hide o124; clear o124
  have l24 : Later wr w124 := Later.trans l19 b124
  refine hK.out _ _ ?_ (fun hHeld => ?_)
  · exact HS7.out _ l24
  clear hK K
  try simp only [Act.put, List.setIfInBounds_toArray, List.set_cons_zero, List.set_cons_succ]
  refine wpAnyN_ready (rs := [25]) (by kernel_rfl) (by simp) ?_
  refine AllReadyN.held rfl (by rfl) (fun K hK => ?_) AllReadyN.nil
  go_simp
  refine (of12_calls _ 0 (by omega) (by omega) 0 div_0).mono ?_
  rintro e w125 ⟨v125, rfl, o125, b125⟩
  obtain ⟨s125, P125, q125, e125, P125', q125', e125', rfl, o125⟩ := o125.open_; have O125 := hide o125; clear o125
  have l25 : Later wr w125 := Later.trans l24 b125
  refine hK.out _ _ ?_ (fun hHeld => ?_)
  · exact HS7.out _ l25
  clear hK K
  try simp only [Act.put, List.setIfInBounds_toArray, List.set_cons_zero, List.set_cons_succ]
  refine wpAnyN_ready (rs := [26, 27]) (by kernel_rfl) (by simp) ?_
  refine AllReadyN.held rfl (by rfl) (fun K hK => ?_) ?_
  · go_simp
    refine hK.out _ _ ?_ (fun hHeld => ?_)
    · exact HS7.out _ (l25.alloc _)
    clear hK K
    try simp only [Act.put, List.setIfInBounds_toArray, List.set_cons_zero, List.set_cons_succ]
    refine wpAnyN_ready (rs := [27]) (by kernel_rfl) (by simp) ?_
    refine AllReadyN.held rfl (by rfl) (fun K hK => ?_) AllReadyN.nil
    go_simp
    refine (of12_calls _ 1 (by omega) (by omega) 1 div_1).mono ?_
    rintro e w127 ⟨v127, rfl, o127, b127⟩
    obtain ⟨s127, P127, q127, e127, P127', q127', e127', rfl, o127⟩ := o127.open_; have O127 := hide o127; clear o127
    have l27 : Later wr w127 := Later.trans (l25.alloc _) b127
    refine hK.out _ _ ?_ (fun hHeld => ?_)
    · exact HS7.out _ l27
    clear hK K
    try simp only [Act.put, List.setIfInBounds_toArray, List.set_cons_zero, List.set_cons_succ]
    refine wpAnyN_ready (rs := [28]) (by kernel_rfl) (by simp) ?_
    refine AllReadyN.held rfl (by rfl) (fun K hK => ?_) AllReadyN.nil
    go_simp
    refine (of12_calls _ 1 (by omega) (by omega) 1 div_1).mono ?_
    rintro e w128 ⟨v128, rfl, o128, b128⟩
    obtain ⟨s128, P128, q128, e128, P128', q128', e128', rfl, o128⟩ := o128.open_; have O128 := hide o128; clear o128
    have l28 : Later wr w128 := Later.trans l27 b128
    refine hK.out _ _ ?_ (fun hHeld => ?_)
    · exact HS7.out _ l28
    clear hK K
    try simp only [Act.put, List.setIfInBounds_toArray, List.set_cons_zero, List.set_cons_succ]
    refine wpAnyN_ready (rs := [29]) (by kernel_rfl) (by simp) ?_
    refine AllReadyN.held rfl (by rfl) (fun K hK => ?_) AllReadyN.nil
    go_simp
    refine hK.out _ _ ?_ (fun hHeld => ?_)
    · exact HS7.out _ (l28.alloc _)
    clear hK K
    try simp only [Act.put, List.setIfInBounds_toArray, List.set_cons_zero, List.set_cons_succ]
    refine wpAnyN_ready (rs := [30]) (by kernel_rfl) (by simp) ?_
    refine AllReadyN.held rfl (by rfl) (fun K hK => ?_) AllReadyN.nil
    go_simp
    refine (endless_calls _ _ _ _ _ _ 1 1 1 [[1, -1]] [2] [-1, 0] [2, 0] [1, 1] true (HSf.out.later (l28.alloc _)) (Own.raw1 (rats_two (E := EOwn) ((((Row.new w125 _ _).later b127).later b128).alloc _) (OwnR.weaken (OwnR.later O124.out ((((((Later.refl _).trans b125).alloc _).trans b127).trans b128).alloc _)) (Nat.zero_le _)) (OwnR.weaken (OwnR.later O125.out (((((Later.refl _).alloc _).trans b127).trans b128).alloc _)) (Nat.zero_le _))) (sized_list1 (by simp))) (Own.raw1 (rats_two (E := EOwn) (Row.new w128 _ _) (OwnR.weaken (OwnR.later O127.out (((Later.refl _).trans b128).alloc _)) (Nat.zero_le _)) (OwnR.weaken (OwnR.later O128.out ((Later.refl _).alloc _)) (Nat.zero_le _))) (sized_list1 (by simp))) (by omega) (by omega) (by simp) (by simp)).mono ?_
    rintro e w130 ⟨rfl, b130⟩
    rw [awk_endless]
    have l30 : Later wr w130 := Later.trans (l28.alloc _) b130
    refine hK.out _ _ ?_ (fun hHeld => ?_)
    · exact HS7.out _ l30
    clear hK K
    try simp only [Act.put, List.setIfInBounds_toArray, List.set_cons_zero, List.set_cons_succ]
    exact TAIL _ _ _ (by kernel_rfl) (.agg #[.bool s124, .slice P124 q124 e124, .bool false, .slice P124' q124' e124'], .agg #[.bool s125, .slice P125 q125 e125, .bool false, .slice P125' q125' e125'], (.slice (some ⟨w125.heap.size, 0, none⟩) 2 2), .agg #[.bool s127, .slice P127 q127 e127, .bool false, .slice P127' q127' e127'], .agg #[.bool s128, .slice P128 q128 e128, .bool false, .slice P128' q128' e128'], (.slice (some ⟨w128.heap.size, 0, none⟩) 2 2)) (by simp only [Act.put, List.setIfInBounds_toArray, List.set_cons_zero, List.set_cons_succ]) l30
  refine AllReadyN.held rfl (by rfl) (fun K hK => ?_) AllReadyN.nil
  go_simp
  refine (of12_calls _ 1 (by omega) (by omega) 1 div_1).mono ?_
  rintro e w127 ⟨v127, rfl, o127, b127⟩
  obtain ⟨s127, P127, q127, e127, P127', q127', e127', rfl, o127⟩ := o127.open_; have O127 := hide o127; clear o127
  have l27 : Later wr w127 := Later.trans l25 b127
  refine hK.out _ _ ?_ (fun hHeld => ?_)
  · exact HS7.out _ l27
  clear hK K
  try simp only [Act.put, List.setIfInBounds_toArray, List.set_cons_zero, List.set_cons_succ]
  refine wpAnyN_ready (rs := [26, 28]) (by kernel_rfl) (by simp) ?_
  refine AllReadyN.held rfl (by rfl) (fun K hK => ?_) ?_
  · go_simp
    refine hK.out _ _ ?_ (fun hHeld => ?_)
    · exact HS7.out _ (l27.alloc _)
    clear hK K
    try simp only [Act.put, List.setIfInBounds_toArray, List.set_cons_zero, List.set_cons_succ]
    refine wpAnyN_ready (rs := [28]) (by kernel_rfl) (by simp) ?_
    refine AllReadyN.held rfl (by rfl) (fun K hK => ?_) AllReadyN.nil
    go_simp
    refine (of12_calls _ 1 (by omega) (by omega) 1 div_1).mono ?_
    rintro e w128 ⟨v128, rfl, o128, b128⟩
    obtain ⟨s128, P128, q128, e128, P128', q128', e128', rfl, o128⟩ := o128.open_; have O128 := hide o128; clear o128
    have l28 : Later wr w128 := Later.trans (l27.alloc _) b128
    refine hK.out _ _ ?_ (fun hHeld => ?_)
    · exact HS7.out _ l28
    clear hK K
    try simp only [Act.put, List.setIfInBounds_toArray, List.set_cons_zero, List.set_cons_succ]
    refine wpAnyN_ready (rs := [29]) (by kernel_rfl) (by simp) ?_
    refine AllReadyN.held rfl (by rfl) (fun K hK => ?_) AllReadyN.nil
    go_simp
    refine hK.out _ _ ?_ (fun hHeld => ?_)
    · exact HS7.out _ (l28.alloc _)
    clear hK K
    try simp only [Act.put, List.setIfInBounds_toArray, List.set_cons_zero, List.set_cons_succ]
    refine wpAnyN_ready (rs := [30]) (by kernel_rfl) (by simp) ?_
    refine AllReadyN.held rfl (by rfl) (fun K hK => ?_) AllReadyN.nil
    go_simp
    refine (endless_calls _ _ _ _ _ _ 1 1 1 [[1, -1]] [2] [-1, 0] [2, 0] [1, 1] true (HSf.out.later (l28.alloc _)) (Own.raw1 (rats_two (E := EOwn) (((Row.new w127 _ _).later b128).alloc _) (OwnR.weaken (OwnR.later O124.out ((((((Later.refl _).trans b125).trans b127).alloc _).trans b128).alloc _)) (Nat.zero_le _)) (OwnR.weaken (OwnR.later O125.out (((((Later.refl _).trans b127).alloc _).trans b128).alloc _)) (Nat.zero_le _))) (sized_list1 (by simp))) (Own.raw1 (rats_two (E := EOwn) (Row.new w128 _ _) (OwnR.weaken (OwnR.later O127.out ((((Later.refl _).alloc _).trans b128).alloc _)) (Nat.zero_le _)) (OwnR.weaken (OwnR.later O128.out ((Later.refl _).alloc _)) (Nat.zero_le _))) (sized_list1 (by simp))) (by omega) (by omega) (by simp) (by simp)).mono ?_
    rintro e w130 ⟨rfl, b130⟩
    rw [awk_endless]
    have l30 : Later wr w130 := Later.trans (l28.alloc _) b130
    refine hK.out _ _ ?_ (fun hHeld => ?_)
    · exact HS7.out _ l30
    clear hK K
    try simp only [Act.put, List.setIfInBounds_toArray, List.set_cons_zero, List.set_cons_succ]
    exact TAIL _ _ _ (by kernel_rfl) (.agg #[.bool s124, .slice P124 q124 e124, .bool false, .slice P124' q124' e124'], .agg #[.bool s125, .slice P125 q125 e125, .bool false, .slice P125' q125' e125'], (.slice (some ⟨w127.heap.size, 0, none⟩) 2 2), .agg #[.bool s127, .slice P127 q127 e127, .bool false, .slice P127' q127' e127'], .agg #[.bool s128, .slice P128 q128 e128, .bool false, .slice P128' q128' e128'], (.slice (some ⟨w128.heap.size, 0, none⟩) 2 2)) (by simp only [Act.put, List.setIfInBounds_toArray, List.set_cons_zero, List.set_cons_succ]) l30
  refine AllReadyN.held rfl (by rfl) (fun K hK => ?_) AllReadyN.nil
  go_simp
  refine (of12_calls _ 1 (by omega) (by omega) 1 div_1).mono ?_
  rintro e w128 ⟨v128, rfl, o128, b128⟩
  obtain ⟨s128, P128, q128, e128, P128', q128', e128', rfl, o128⟩ := o128.open_; have O128 := hide o128; clear o128
  have l28 : Later wr w128 := Later.trans l27 b128
  refine hK.out _ _ ?_ (fun hHeld => ?_)
  · exact HS7.out _ l28
  clear hK K
  try simp only [Act.put, List.setIfInBounds_toArray, List.set_cons_zero, List.set_cons_succ]
  refine wpAnyN_ready (rs := [26, 29]) (by kernel_rfl) (by simp) ?_
  refine AllReadyN.held rfl (by rfl) (fun K hK => ?_) ?_
  · go_simp
    refine hK.out _ _ ?_ (fun hHeld => ?_)
    · exact HS7.out _ (l28.alloc _)
    clear hK K
    try simp only [Act.put, List.setIfInBounds_toArray, List.set_cons_zero, List.set_cons_succ]
    refine wpAnyN_ready (rs := [29]) (by kernel_rfl) (by simp) ?_
    refine AllReadyN.held rfl (by rfl) (fun K hK => ?_) AllReadyN.nil
    go_simp
    refine hK.out _ _ ?_ (fun hHeld => ?_)
    · exact HS7.out _ ((l28.alloc _).alloc _)
    clear hK K
    try simp only [Act.put, List.setIfInBounds_toArray, List.set_cons_zero, List.set_cons_succ]
    refine wpAnyN_ready (rs := [30]) (by kernel_rfl) (by simp) ?_
    refine AllReadyN.held rfl (by rfl) (fun K hK => ?_) AllReadyN.nil
    go_simp
    refine (endless_calls _ _ _ _ _ _ 1 1 1 [[1, -1]] [2] [-1, 0] [2, 0] [1, 1] true (HSf.out.later ((l28.alloc _).alloc _)) (Own.raw1 (rats_two (E := EOwn) ((Row.new w128 _ _).alloc _) (OwnR.weaken (OwnR.later O124.out ((((((Later.refl _).trans b125).trans b127).trans b128).alloc _).alloc _)) (Nat.zero_le _)) (OwnR.weaken (OwnR.later O125.out (((((Later.refl _).trans b127).trans b128).alloc _).alloc _)) (Nat.zero_le _))) (sized_list1 (by simp))) (Own.raw1 (rats_two (E := EOwn) (row_new1 w128 _ _ _ ) (OwnR.weaken (OwnR.later O127.out ((((Later.refl _).trans b128).alloc _).alloc _)) (Nat.zero_le _)) (OwnR.weaken (OwnR.later O128.out (((Later.refl _).alloc _).alloc _)) (Nat.zero_le _))) (sized_list1 (by simp))) (by omega) (by omega) (by simp) (by simp)).mono ?_
    rintro e w130 ⟨rfl, b130⟩
    rw [awk_endless]
    have l30 : Later wr w130 := Later.trans ((l28.alloc _).alloc _) b130
    refine hK.out _ _ ?_ (fun hHeld => ?_)
    · exact HS7.out _ l30
    clear hK K
    try simp only [Act.put, List.setIfInBounds_toArray, List.set_cons_zero, List.set_cons_succ]
    exact TAIL _ _ _ (by kernel_rfl) (.agg #[.bool s124, .slice P124 q124 e124, .bool false, .slice P124' q124' e124'], .agg #[.bool s125, .slice P125 q125 e125, .bool false, .slice P125' q125' e125'], (.slice (some ⟨w128.heap.size, 0, none⟩) 2 2), .agg #[.bool s127, .slice P127 q127 e127, .bool false, .slice P127' q127' e127'], .agg #[.bool s128, .slice P128 q128 e128, .bool false, .slice P128' q128' e128'], (.slice (some ⟨w128.heap.size + 1, 0, none⟩) 2 2)) (by simp only [Act.put, List.setIfInBounds_toArray, List.set_cons_zero, List.set_cons_succ]) l30
  refine AllReadyN.held rfl (by rfl) (fun K hK => ?_) AllReadyN.nil
  go_simp
  refine hK.out _ _ ?_ (fun hHeld => ?_)
  · exact HS7.out _ (l28.alloc _)
  clear hK K
  try simp only [Act.put, List.setIfInBounds_toArray, List.set_cons_zero, List.set_cons_succ]
  refine wpAnyN_ready (rs := [26]) (by kernel_rfl) (by simp) ?_
  refine AllReadyN.held rfl (by rfl) (fun K hK => ?_) AllReadyN.nil
  go_simp
  refine hK.out _ _ ?_ (fun hHeld => ?_)
  · exact HS7.out _ ((l28.alloc _).alloc _)
  clear hK K
  try simp only [Act.put, List.setIfInBounds_toArray, List.set_cons_zero, List.set_cons_succ]
  refine wpAnyN_ready (rs := [30]) (by kernel_rfl) (by simp) ?_
  refine AllReadyN.held rfl (by rfl) (fun K hK => ?_) AllReadyN.nil
  go_simp
  refine (endless_calls _ _ _ _ _ _ 1 1 1 [[1, -1]] [2] [-1, 0] [2, 0] [1, 1] true (HSf.out.later ((l28.alloc _).alloc _)) (Own.raw1 (rats_two (E := EOwn) (row_new1 w128 _ _ _ ) (OwnR.weaken (OwnR.later O124.out ((((((Later.refl _).trans b125).trans b127).trans b128).alloc _).alloc _)) (Nat.zero_le _)) (OwnR.weaken (OwnR.later O125.out (((((Later.refl _).trans b127).trans b128).alloc _).alloc _)) (Nat.zero_le _))) (sized_list1 (by simp))) (Own.raw1 (rats_two (E := EOwn) ((Row.new w128 _ _).alloc _) (OwnR.weaken (OwnR.later O127.out ((((Later.refl _).trans b128).alloc _).alloc _)) (Nat.zero_le _)) (OwnR.weaken (OwnR.later O128.out (((Later.refl _).alloc _).alloc _)) (Nat.zero_le _))) (sized_list1 (by simp))) (by omega) (by omega) (by simp) (by simp)).mono ?_
  rintro e w130 ⟨rfl, b130⟩
  rw [awk_endless]
  have l30 : Later wr w130 := Later.trans ((l28.alloc _).alloc _) b130
  refine hK.out _ _ ?_ (fun hHeld => ?_)
  · exact HS7.out _ l30
  clear hK K
  try simp only [Act.put, List.setIfInBounds_toArray, List.set_cons_zero, List.set_cons_succ]
  exact TAIL _ _ _ (by kernel_rfl) (.agg #[.bool s124, .slice P124 q124 e124, .bool false, .slice P124' q124' e124'], .agg #[.bool s125, .slice P125 q125 e125, .bool false, .slice P125' q125' e125'], (.slice (some ⟨w128.heap.size + 1, 0, none⟩) 2 2), .agg #[.bool s127, .slice P127 q127 e127, .bool false, .slice P127' q127' e127'], .agg #[.bool s128, .slice P128 q128 e128, .bool false, .slice P128' q128' e128'], (.slice (some ⟨w128.heap.size, 0, none⟩) 2 2)) (by simp only [Act.put, List.setIfInBounds_toArray, List.set_cons_zero, List.set_cons_succ]) l30

end Go.Proofs.YthncinngkfflgaaGreat
