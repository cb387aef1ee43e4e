import Derived.Test.YtkendajmnmchoaaGreatM15

/- Tables: awake. -/
set_option linter.unusedVariables false
set_option linter.unusedSimpArgs false
set_option maxRecDepth 100000
namespace Go.Proofs.YtkendajmnmchoaaGreat
open Go.RowKit Go.Shelf
attribute [local go_sem ↓] Go.wp_at_zero Go.wp_at_succ

theorem row_new1 (w : World) (o : Obj) (T : TypeId) (cs : List Value) : Row ((w.alloc o).alloc (.cells cs.toArray T)) (w.heap.size + 1) T cs := by
  have h := Row.new (w.alloc o) T cs
  rw [World.size_alloc] at h; exact h
theorem row_new2 (w : World) (o o' : Obj) (T : TypeId) (cs : List Value) : Row (((w.alloc o).alloc o').alloc (.cells cs.toArray T)) (w.heap.size + 1 + 1) T cs := by
  have h := Row.new ((w.alloc o).alloc o') T cs
  rw [World.size_alloc, World.size_alloc] at h; exact h
theorem wpAnyN_takeD {P : Program} {md : Region.Mode} {ops : Array Oper} {Q : Exit → Act → World → Prop} {S : World → Prop} {nf : List Nat} {i : Nat} {oi : Oper} {v : Value} {fuel : Nat} {listed : Array Bool} {a : Act} {w : World} (d : Option Nat) (hd : oi.dst = d) (hi : ops[i]? = some oi)
    (hs : Region.noSelect ops = true) (hf : Region.free md ops listed i = true) (hb : behind md ops nf i = true) (hr : (Region.ready md ops listed).contains i = true)
    (hQ : ∀ c a w, Q (.panic c) (a.put oi.dst v) w → Q (.panic c) a w) (hy : YieldsIf P ops S oi v a) (hS : S w)
    (h : wpAnyN P md ops Q S nf fuel (listed.setIfInBounds i true) (a.put d v) w) : wpAnyN P md ops Q S nf (fuel + 1) listed a w :=
  wpAnyN_take hi hs hf hb hr hQ hy hS (by rw [hd]; exact h)
theorem Own.raw1 {w : World} {v : Value} {l : List Rat} (h : Rats EOwn w v l) (hs : ∀ q ∈ l, Sized q 1) : Rats (ERaw 1) w v l := h.map fun v q hq he => OwnR.raw (B := 0) he (hs q hq)

set_option maxHeartbeats 16000000 in
theorem awake_calls (w : World) : Calls Tryz.prog 5 #[] w (RetV w (.bool true)) := by
  go_enter Tryz.func5, Tryz.ntmps5
  go_wp2_with fail
  refine (lawof_calls _ 2 (by omega) (by omega) 2 div_2).mono ?_
  rintro e w1 ⟨v1, rfl, o1, b1⟩
  obtain ⟨s1, P1, q1, e1, P1', q1', e1', rfl, o1⟩ := o1.open_; have O1 := hide o1; clear o1

  go_wp2_with fail
  refine (lawof_calls _ 1 (by omega) (by omega) 1 div_1).mono ?_
  rintro e w2 ⟨v2, rfl, o2, b2⟩
  obtain ⟨s2, P2, q2, e2, P2', q2', e2', rfl, o2⟩ := o2.open_; have O2 := hide o2; clear o2

  go_wp2_with fail
  refine (lawof_calls _ 1 (by omega) (by omega) 1 div_1).mono ?_
  rintro e w3 ⟨v3, rfl, o3, b3⟩
  obtain ⟨s3, P3, q3, e3, P3', q3', e3', rfl, o3⟩ := o3.open_; have O3 := hide o3; clear o3

  go_wp2_with fail
  refine (lawof_calls _ 1 (by omega) (by omega) 1 div_1).mono ?_
  rintro e w4 ⟨v4, rfl, o4, b4⟩
  obtain ⟨s4, P4, q4, e4, P4', q4', e4', rfl, o4⟩ := o4.open_; have O4 := hide o4; clear o4

  go_wp2_with fail
  have hra := ((Row.new w2 32 [.bool s1, .slice P1 q1 e1, .bool false, .slice P1' q1' e1', .bool s2, .slice P2 q2 e2, .bool false, .slice P2' q2' e2']).later (b3.trans b4))
  have b34 := ((Later.refl w2).alloc (Obj.cells #[Value.bool s1, Value.slice P1 q1 e1, Value.bool false, Value.slice P1' q1' e1', Value.bool s2, Value.slice P2 q2 e2, Value.bool false, Value.slice P2' q2' e2'] 32)).trans (b3.trans b4)
  obtain ⟨w5, hw5⟩ : ∃ w5, w5 = (w4.alloc (Obj.cells #[Value.bool s3, Value.slice P3 q3 e3, Value.bool false, Value.slice P3' q3' e3', Value.bool s4, Value.slice P4 q4 e4, Value.bool false, Value.slice P4' q4' e4'] 32)).alloc (Obj.cells #[Value.slice (some ⟨w2.heap.size, 0, none⟩) 2 2, Value.slice (some ⟨w4.heap.size, 0, none⟩) 2 2] 35) := ⟨_, rfl⟩
  have b45 : Later w4 w5 := by rw [hw5]; exact ((Later.refl w4).alloc _).alloc _
  have HRA0 := hide (rats_two (E := EOwn) (hra.later b45) (OwnR.weaken (OwnR.later O1.out ((b2.trans b34).trans b45)) (Nat.zero_le _)) (OwnR.weaken (OwnR.later O2.out (b34.trans b45)) (Nat.zero_le _)))
  have HRB0 : Hid (Rats EOwn w5 (.slice (some ⟨w4.heap.size, 0, none⟩) 2 2) [1, 1]) := hide (rats_two (E := EOwn) (by rw [hw5]; exact (Row.new w4 32 [.bool s3, .slice P3 q3 e3, .bool false, .slice P3' q3' e3', .bool s4, .slice P4 q4 e4, .bool false, .slice P4' q4' e4']).alloc _) (OwnR.weaken (OwnR.later O3.out (b4.trans b45)) (Nat.zero_le _)) (OwnR.weaken (OwnR.later O4.out b45) (Nat.zero_le _)))
  have hrt : Row w5 (w4.heap.size + 1) 35 [.slice (some ⟨w2.heap.size, 0, none⟩) 2 2, .slice (some ⟨w4.heap.size, 0, none⟩) 2 2] := by rw [hw5]; exact row_new1 w4 _ _ _
  have HRT := hide hrt
  have HT0 := hide (tab_two hrt HRA0.out HRB0.out)
  have HL5 : Hid (Later w w5) := hide ((b1.trans (b2.trans b34)).trans b45)
  rw [← hw5]
  clear hw5 hra hrt b34 b45 b1 b2 b3 b4 O1 O2 O3 O4
  obtain ⟨gA, hgA⟩ : ∃ gA, gA = w2.heap.size := ⟨_, rfl⟩
  obtain ⟨gB, hgB⟩ : ∃ gB, gB = w4.heap.size := ⟨_, rfl⟩
  obtain ⟨g3, hg3⟩ : ∃ g3, g3 = w4.heap.size + 1 := ⟨_, rfl⟩
  rw [← hg3] at HT0
  rw [← hg3, ← hgA, ← hgB] at HRT
  rw [← hgA] at HRA0
  rw [← hgB] at HRB0
  rw [← hg3]
  clear hgA hgB hg3
  refine (lawof_calls _ 3 (by omega) (by omega) 3 div_3).mono ?_
  rintro e w6 ⟨v6, rfl, o6, b6⟩
  obtain ⟨s6, P6, q6, e6, P6', q6', e6', rfl, o6⟩ := o6.open_; have O6 := hide o6; clear o6

  go_wp2_with fail
  refine (lawof_calls _ 2 (by omega) (by omega) 2 div_2).mono ?_
  rintro e w7 ⟨v7, rfl, o7, b7⟩
  obtain ⟨s7, P7, q7, e7, P7', q7', e7', rfl, o7⟩ := o7.open_; have O7 := hide o7; clear o7

  go_wp2_with fail
  have hb8 := ((b6.trans b7).alloc (Obj.cells #[Value.bool s6, Value.slice P6 q6 e6, Value.bool false, Value.slice P6' q6' e6', Value.bool s7, Value.slice P7 q7 e7, Value.bool false, Value.slice P7' q7' e7'] 32))
  refine (solve_calls _ _ _ tA bA 1 2 ((HT0.out.later EOwn.later hb8).map (fun row hr v q hq he => OwnR.raw (B := 0) he (sized_list1 (l := row) (by simp [tA] at hr; rcases hr with rfl | rfl <;> simp) q hq))) (Own.raw1 (rats_two (Row.new w7 _ _) (OwnR.weaken (OwnR.later O6.out (b7.alloc _)) (Nat.zero_le _)) (OwnR.weaken (OwnR.later O7.out ((Later.refl _).alloc _)) (Nat.zero_le _))) (sized_list1 (by simp [bA]))) rfl rfl (by simp [tA]) (by omega) (by decide)).mono ?_
  rintro e w8 ⟨v8, o8, rfl, b8, (⟨rfl, rfl, hs⟩ | ⟨rfl, x, hxl, hx, -, hsol, -⟩)⟩
  · exact absurd hs awk_notsing
  obtain rfl := awk_sol hxl hsol
  have HX8 := hide hx.rats.now
  obtain ⟨A8, n8, c8, rfl, -⟩ := HX8.out.form
  have HL8 := hide (hb8.trans b8)
  clear hx hsol hxl O6 O7 b6 b7 hb8 b8
  go_wp2_with fail
  refine (pivot_calls _ _ tA 1 0 0 ((HT0.out.later EOwn.later HL8.out).map (fun row hr v q hq he => OwnR.raw (B := 0) he (sized_list1 (l := row) (by simp [tA] at hr; rcases hr with rfl | rfl <;> simp) q hq))) (by simp [tA]) (by simp [tA]) (by simp [tA]) (by simp [tA]) (by simp [tA]) (by simp [tA]) (by omega)).mono ?_
  rintro e w9 ⟨v9, o9, rfl, ⟨ht9, rfl⟩, b9⟩
  rw [awk_piv] at ht9
  have HP9 := hide ht9.tab.now
  obtain ⟨A9, n9, c9, rfl, -⟩ := HP9.out.form
  clear ht9
  go_wp2_with fail
  refine (qof_calls _ 1 2 (by omega) (by omega) (by omega) (by omega) (by omega) (1/2) div_half).mono ?_
  rintro e w10 ⟨v10, ok10, rfl, ⟨o10, rfl⟩, b10⟩
  obtain ⟨s10, P10, q10, e10, P10', q10', e10', rfl, o10⟩ := o10.open_; have O10 := hide o10; clear o10
  go_upto_region 5 with fail
  obtain ⟨wq, hwq⟩ : ∃ wq, wq = w10.alloc (Obj.cells #[Value.bool s10, Value.slice P10 q10 e10, Value.bool false, Value.slice P10' q10' e10'] 32) := ⟨_, rfl⟩
  have hl10 : Later w10 wq := by rw [hwq]; exact (Later.refl w10).alloc _
  have hrh : Row wq w10.heap.size 32 [.bool s10, .slice P10 q10 e10, .bool false, .slice P10' q10' e10'] := by rw [hwq]; exact Row.new w10 _ _
  rw [← hwq]
  clear hwq
  obtain ⟨g1, hg1⟩ : ∃ g1, g1 = w10.heap.size := ⟨_, rfl⟩
  rw [← hg1] at hrh ⊢
  clear hg1
  have HRH := hide hrh
  have hl8 : Later w8 wq := b9.trans (b10.trans hl10)
  have hl5 : Later w5 wq := HL8.out.trans hl8
  have HXQ := hide (HX8.out.later EOwn.later hl8)
  have HPQ := hide (HP9.out.later EOwn.later (b10.trans hl10))
  have HHQ : Hid (OwnR wq 0 (.agg #[.bool s10, .slice P10 q10 e10, .bool false, .slice P10' q10' e10']) (1/2)) := hide (OwnR.weaken (OwnR.later O10.out hl10) (Nat.zero_le _))
  have HTQ : Hid (∀ W, Later wq W → Tab EOwn W (.slice (some ⟨g3, 0, none⟩) 2 2) tA) := hide fun W hW => HT0.out.later EOwn.later (hl5.trans hW)
  have HRA : Hid (∀ W, Later wq W → Rats (ERaw 1) W (.slice (some ⟨gA, 0, none⟩) 2 2) [2, 1]) := hide fun W hW => Own.raw1 (HRA0.out.later EOwn.later (hl5.trans hW)) (sized_list1 (by simp))
  have HRB : Hid (∀ W, Later wq W → Rats (ERaw 1) W (.slice (some ⟨gB, 0, none⟩) 2 2) [1, 1]) := hide fun W hW => Own.raw1 (HRB0.out.later EOwn.later (hl5.trans hW)) (sized_list1 (by simp))
  have HS5 : Hid (∀ w', Later wq w' → w'.cell? ⟨g3, 0, none⟩ = some (.slice (some ⟨gA, 0, none⟩) 2 2) ∧ w'.cell? ⟨g3, 1, none⟩ = some (.slice (some ⟨gB, 0, none⟩) 2 2)) := hide fun W hW => by
    have h := (HRT.out.later hl5).later hW
    exact ⟨h.cell rfl, h.cell rfl⟩
  have HLQ : Hid (Later w wq) := hide (HL5.out.trans hl5)
  have HSP : Hid (∀ row ∈ ([[1, 1/2], [0, 1/2]] : List (List Rat)), ∀ q ∈ row, Sized q 1) := hide fun row hr => sized_list1 (l := row) (by simp at hr; rcases hr with rfl | rfl <;> simp)
  have hmx : Tryz.prog.follows .mixedOrders = true := by kernel_rfl
  clear hl10 hrh hl8 hl5 b9 b10 O10 HX8 HP9 HT0 HRA0 HRB0 HRT HL5 HL8
  refine wp_region_N (fun w' => w'.cell? ⟨g3, 0, none⟩ = some (.slice (some ⟨gA, 0, none⟩) 2 2) ∧ w'.cell? ⟨g3, 1, none⟩ = some (.slice (some ⟨gB, 0, none⟩) 2 2)) [] hmx (HS5.out _ (Later.refl wq).drew) (fun hHeld => ?_)
  refine wpAnyN_take (i := 0) (oi := _) (v := ?_) rfl (by kernel_rfl) (by kernel_rfl) (by kernel_rfl) (by kernel_rfl) (fun _ _ _ h => h) (Or.inl ⟨by rfl, ?_⟩) (by assumption) ?_
  rotate_left
  · intro w hSw; (try dsimp only at hSw); go_simp
    first | done | with_reducible rfl
  try simp only [Act.put, List.setIfInBounds_toArray, List.set_cons_zero, List.set_cons_succ]
  refine wpAnyN_take (i := 1) (oi := _) (v := ?_) rfl (by kernel_rfl) (by kernel_rfl) (by kernel_rfl) (by kernel_rfl) (fun _ _ _ h => h) (Or.inl ⟨by rfl, ?_⟩) (by assumption) ?_
  rotate_left
  · intro w hSw; (try dsimp only at hSw); go_simp
    first | done | with_reducible rfl
  try simp only [Act.put, List.setIfInBounds_toArray, List.set_cons_zero, List.set_cons_succ]
  refine wpAnyN_take (i := 2) (oi := _) (v := ?_) rfl (by kernel_rfl) (by kernel_rfl) (by kernel_rfl) (by kernel_rfl) (fun _ _ _ h => h) (Or.inl ⟨by rfl, ?_⟩) (by assumption) ?_
  rotate_left
  · intro w hSw; (try dsimp only at hSw); go_simp
    first | done | with_reducible rfl
  try simp only [Act.put, List.setIfInBounds_toArray, List.set_cons_zero, List.set_cons_succ]
  refine wpAnyN_take (i := 3) (oi := _) (v := ?_) rfl (by kernel_rfl) (by kernel_rfl) (by kernel_rfl) (by kernel_rfl) (fun _ _ _ h => h) (Or.inl ⟨by rfl, ?_⟩) (by assumption) ?_
  rotate_left
  · intro w hSw; (try dsimp only at hSw); go_simp
    first | done | with_reducible rfl
  try simp only [Act.put, List.setIfInBounds_toArray, List.set_cons_zero, List.set_cons_succ]
  refine wpAnyN_take (i := 4) (oi := _) (v := ?_) rfl (by kernel_rfl) (by kernel_rfl) (by kernel_rfl) (by kernel_rfl) (fun _ _ _ h => h) (Or.inl ⟨by rfl, ?_⟩) (by assumption) ?_
  rotate_left
  · intro w hSw; (try dsimp only at hSw); go_simp
    first | done | with_reducible rfl
  try simp only [Act.put, List.setIfInBounds_toArray, List.set_cons_zero, List.set_cons_succ]
  refine wpAnyN_take (i := 5) (oi := _) (v := ?_) rfl (by kernel_rfl) (by kernel_rfl) (by kernel_rfl) (by kernel_rfl) (fun _ _ _ h => h) (Or.inl ⟨by rfl, ?_⟩) (by assumption) ?_
  rotate_left
  · intro w hSw; (try dsimp only at hSw); go_simp
    first | done | with_reducible rfl
  try simp only [Act.put, List.setIfInBounds_toArray, List.set_cons_zero, List.set_cons_succ]
  refine wpAnyN_ready (rs := [6, 10]) (by kernel_rfl) (by simp) ?_
  refine AllReadyN.held rfl (by rfl) (fun K hK => ?_) ?_
  · go_simp
    refine (dot_calls _ _ _ [2, 1] [1, 1] 1 1 (HRA.out _ (Later.refl wq).drew) (HRB.out _ (Later.refl wq).drew) rfl (by simp)).mono ?_
    rintro e w11 ⟨v11, ok11, rfl, ⟨o11, rfl⟩, b11⟩
    rw [awk_dot] at o11
    obtain ⟨s11, P11, q11, e11, P11', q11', e11', rfl, o11⟩ := o11.open_; have O11 := hide o11; clear o11
    have k6 : Later wq w11 := Later.trans (Later.refl wq).drew b11
    refine hK.out _ _ ?_ (fun hHeld => ?_)
    · exact HS5.out _ k6
    clear hK K
    try simp only [Act.put, List.setIfInBounds_toArray, List.set_cons_zero, List.set_cons_succ]
    refine wpAnyN_take (i := 7) (oi := _) (v := ?_) rfl (by kernel_rfl) (by kernel_rfl) (by kernel_rfl) (by kernel_rfl) (fun _ _ _ h => h) (Or.inl ⟨by rfl, ?_⟩) (by assumption) ?_
    rotate_left
    · intro w hSw; (try dsimp only at hSw); go_simp
      first | done | with_reducible rfl
    try simp only [Act.put, List.setIfInBounds_toArray, List.set_cons_zero, List.set_cons_succ]
    refine wpAnyN_take (i := 8) (oi := _) (v := ?_) rfl (by kernel_rfl) (by kernel_rfl) (by kernel_rfl) (by kernel_rfl) (fun _ _ _ h => h) (Or.inl ⟨by rfl, ?_⟩) (by assumption) ?_
    rotate_left
    · intro w hSw; (try dsimp only at hSw); go_simp
      first | done | with_reducible rfl
    try simp only [Act.put, List.setIfInBounds_toArray, List.set_cons_zero, List.set_cons_succ]
    refine wpAnyN_take (i := 9) (oi := _) (v := ?_) rfl (by kernel_rfl) (by kernel_rfl) (by kernel_rfl) (by kernel_rfl) (fun _ _ _ h => h) (Or.inl ⟨by rfl, ?_⟩) (by assumption) ?_
    rotate_left
    · intro w hSw; (try dsimp only at hSw); go_simp
      first | done | with_reducible rfl
    try simp only [Act.put, List.setIfInBounds_toArray, List.set_cons_zero, List.set_cons_succ]
    refine wpAnyN_ready (rs := [10]) (by kernel_rfl) (by simp) ?_
    refine AllReadyN.held rfl (by rfl) (fun K hK => ?_) AllReadyN.nil
    go_simp
    refine hK.out _ _ ?_ (fun hHeld => ?_)
    · exact HS5.out _ (k6.alloc _)
    clear hK K
    try simp only [Act.put, List.setIfInBounds_toArray, List.set_cons_zero, List.set_cons_succ]
    refine wpAnyN_ready (rs := [11]) (by kernel_rfl) (by simp) ?_
    refine AllReadyN.held rfl (by rfl) (fun K hK => ?_) AllReadyN.nil
    go_simp
    refine hK.out _ _ ?_ (fun hHeld => ?_)
    · exact HS5.out _ (k6.alloc _)
    clear hK K
    try simp only [Act.put, List.setIfInBounds_toArray, List.set_cons_zero, List.set_cons_succ]
    refine wpAnyN_take (i := 12) (oi := _) (v := ?_) rfl (by kernel_rfl) (by kernel_rfl) (by kernel_rfl) (by kernel_rfl) (fun _ _ _ h => h) (Or.inl ⟨by rfl, ?_⟩) (by assumption) ?_
    rotate_left
    · intro w hSw; (try dsimp only at hSw); go_simp
      first | done | with_reducible rfl
    try simp only [Act.put, List.setIfInBounds_toArray, List.set_cons_zero, List.set_cons_succ]
    refine wpAnyN_done (by kernel_rfl) ?_ _
    have hd12 := (On.ownR O11.out).later ((Later.refl w11).alloc (Obj.cells #[Value.bool s11, Value.slice P11 q11 e11, Value.bool false, Value.slice P11' q11' e11'] 32))
    have hr12 := Row.new w11 32 [.bool s11, .slice P11 q11 e11, .bool false, .slice P11' q11' e11']
    have hl12 := k6.alloc (Obj.cells #[Value.bool s11, Value.slice P11 q11 e11, Value.bool false, Value.slice P11' q11' e11'] 32)
    obtain ⟨w12, hw12⟩ : ∃ w12, w12 = w11.alloc (Obj.cells #[Value.bool s11, Value.slice P11 q11 e11, Value.bool false, Value.slice P11' q11' e11'] 32) := ⟨_, rfl⟩
    rw [← hw12] at hl12 hd12 ⊢
    have hr12 : Row w12 w11.heap.size 32 [.bool s11, .slice P11 q11 e11, .bool false, .slice P11' q11' e11'] := by rw [hw12]; exact hr12
    obtain ⟨g2, hg2⟩ : ∃ g2, g2 = w11.heap.size := ⟨_, rfl⟩
    rw [← hg2] at hr12 ⊢
    have HD12 := hide hd12.now
    have HR12 := hide hr12
    have HL12 := hide hl12
    clear hw12 hg2 hd12 hr12 hl12 hHeld k6 b11 O11
    go_upto_region 6 with fail
    rename_i K6 hK6
    have HRA6 : Hid (∀ W, Later w12.drew W → Rats (ERaw 1) W (.slice (some ⟨gA, 0, none⟩) 2 2) [2, 1]) := hide fun W hW => HRA.out W (HL12.out.drew.trans hW)
    have HRB6 : Hid (∀ W, Later w12.drew W → Rats (ERaw 1) W (.slice (some ⟨gB, 0, none⟩) 2 2) [1, 1]) := hide fun W hW => HRB.out W (HL12.out.drew.trans hW)
    have HS6 : Hid (∀ w', Later w12.drew w' → w'.cell? ⟨g3, 0, none⟩ = some (.slice (some ⟨gA, 0, none⟩) 2 2) ∧ w'.cell? ⟨g3, 1, none⟩ = some (.slice (some ⟨gB, 0, none⟩) 2 2)) := hide fun W hW => HS5.out W (HL12.out.drew.trans hW)
    go_region_held3 (fun w' => w'.cell? ⟨g3, 0, none⟩ = some (.slice (some ⟨gA, 0, none⟩) 2 2) ∧ w'.cell? ⟨g3, 1, none⟩ = some (.slice (some ⟨gB, 0, none⟩) 2 2))
      (first | exact HS6.out _ (Later.refl _) | exact HS6.out _ b13 | exact HS6.out _ (b13.trans b14))
      (first
        | ((with_reducible refine (lawof_calls _ (-2) (by omega) (by omega) (-2) div_m2).mono ?_); rintro e w13 ⟨v13, rfl, o13, b13⟩; obtain ⟨s13, P13, q13, e13, P13', q13', e13', rfl, o13⟩ := o13.open_; have O13 := hide o13; clear o13)
        | ((with_reducible refine (addtimes_calls _ _ _ _ [2, 1] [1, 1] (-2) 1 1 1 (HRA6.out _ b13) (HRB6.out _ b13) (OwnR.raw O13.out sized_m2) rfl (by simp) (by omega)).mono ?_); rintro e w14 ⟨v14, ok14, rfl, ⟨o14, rfl⟩, b14⟩; rw [awk_axpy] at o14; have O14 := hide o14; clear o14))
    show K6 _ _
    refine hK6 _ _ ?_
    clear hK6
    have HSS0 := hide O14.out.now
    obtain ⟨A14, n14, c14, rfl, -⟩ := HSS0.out.form
    have HL14 : Hid (Later wq w14) := hide (HL12.out.drew.trans (b13.trans b14))
    have HL1214 : Hid (Later w12 w14) := hide ((Later.refl w12).drew.trans (b13.trans b14))
    clear b13 b14 O13 O14
    go_upto_region 7 with fail
    obtain ⟨wr, hwr⟩ : ∃ wr, wr = w14 := ⟨_, rfl⟩
    rw [← hwr] at HL14 HL1214 HSS0 ⊢
    clear hwr
    have HX : Hid (Rats EOwn wr (.slice A8 n8 c8) [1, 1]) := hide (HXQ.out.later EOwn.later HL14.out)
    have HP : Hid (Tab EOwn wr (.slice A9 n9 c9) [[1, 1/2], [0, 1/2]]) := hide (HPQ.out.later EOwn.later HL14.out)
    have HH : Hid (OwnR wr 0 (.agg #[.bool s10, .slice P10 q10 e10, .bool false, .slice P10' q10' e10']) (1/2)) := hide (OwnR.later HHQ.out HL14.out)
    have HD : Hid (OwnR wr 0 (.agg #[.bool s11, .slice P11 q11 e11, .bool false, .slice P11' q11' e11']) 3) := hide (OwnR.later HD12.out HL1214.out)
    have HSS := HSS0
    have HT : Hid (∀ W, Later wr W → Tab EOwn W (.slice (some ⟨g3, 0, none⟩) 2 2) tA) := hide fun W hW => HTQ.out W (HL14.out.trans hW)
    have HLW : Hid (Later w wr) := hide (HLQ.out.trans HL14.out)
    have HS7 : Hid (∀ w', Later wr w' → w'.cell? ⟨g1, 0, none⟩ = some (.bool s10) ∧ w'.cell? ⟨g1, 1, none⟩ = some (.slice P10 q10 e10) ∧ w'.cell? ⟨g1, 2, none⟩ = some (.bool false) ∧ w'.cell? ⟨g1, 3, none⟩ = some (.slice P10' q10' e10') ∧ w'.cell? ⟨g2, 0, none⟩ = some (.bool s11) ∧ w'.cell? ⟨g2, 1, none⟩ = some (.slice P11 q11 e11) ∧ w'.cell? ⟨g2, 2, none⟩ = some (.bool false) ∧ w'.cell? ⟨g2, 3, none⟩ = some (.slice P11' q11' e11')) := hide fun W hW => by
      have hra := (HRH.out.later HL14.out).later hW
      have hrb := (HR12.out.later HL1214.out).later hW
      exact ⟨hra.cell rfl, hra.cell rfl, hra.cell rfl, hra.cell rfl, hrb.cell rfl, hrb.cell rfl, hrb.cell rfl, hrb.cell rfl⟩
    refine wp_region_N (fun w' => w'.cell? ⟨g1, 0, none⟩ = some (.bool s10) ∧ w'.cell? ⟨g1, 1, none⟩ = some (.slice P10 q10 e10) ∧ w'.cell? ⟨g1, 2, none⟩ = some (.bool false) ∧ w'.cell? ⟨g1, 3, none⟩ = some (.slice P10' q10' e10') ∧ w'.cell? ⟨g2, 0, none⟩ = some (.bool s11) ∧ w'.cell? ⟨g2, 1, none⟩ = some (.slice P11 q11 e11) ∧ w'.cell? ⟨g2, 2, none⟩ = some (.bool false) ∧ w'.cell? ⟨g2, 3, none⟩ = some (.slice P11' q11' e11')) [] hmx (HS7.out _ (Later.refl wr).drew) (fun hHeld => ?_)
    refine wpAnyN_takeD (some 57) (by rfl) (i := 0) (oi := _) (v := ?_) rfl (by kernel_rfl) (by kernel_rfl) (by kernel_rfl) (by kernel_rfl) (fun _ _ _ h => h) (Or.inl ⟨by rfl, ?_⟩) (by assumption) ?_
    rotate_left
    · intro w hSw; (try dsimp only at hSw); go_simp
      first | done | with_reducible rfl
    try simp only [Act.put, List.setIfInBounds_toArray, List.set_cons_zero, List.set_cons_succ]
    refine wpAnyN_takeD (some 58) (by rfl) (i := 1) (oi := _) (v := ?_) rfl (by kernel_rfl) (by kernel_rfl) (by kernel_rfl) (by kernel_rfl) (fun _ _ _ h => h) (Or.inl ⟨by rfl, ?_⟩) (by assumption) ?_
    rotate_left
    · intro w hSw; (try dsimp only at hSw); go_simp
      first | done | with_reducible rfl
    try simp only [Act.put, List.setIfInBounds_toArray, List.set_cons_zero, List.set_cons_succ]
    refine wpAnyN_takeD (some 59) (by rfl) (i := 2) (oi := _) (v := ?_) rfl (by kernel_rfl) (by kernel_rfl) (by kernel_rfl) (by kernel_rfl) (fun _ _ _ h => h) (Or.inl ⟨by rfl, ?_⟩) (by assumption) ?_
    rotate_left
    · intro w hSw; (try dsimp only at hSw); go_simp
      first | done | with_reducible rfl
    try simp only [Act.put, List.setIfInBounds_toArray, List.set_cons_zero, List.set_cons_succ]
    refine wpAnyN_ready (rs := [3]) (by kernel_rfl) (by simp) ?_
    refine AllReadyN.held rfl (by rfl) (fun K hK => ?_) AllReadyN.nil
    go_simp
    refine (lawof_calls _ 1 (by omega) (by omega) 1 div_1).mono ?_
    rintro e w103 ⟨v103, rfl, o103, b103⟩
    obtain ⟨s103, P103, q103, e103, P103', q103', e103', rfl, o103⟩ := o103.open_; have O103 := hide o103; clear o103
    have l3 : Later wr w103 := Later.trans (Later.refl wr).drew b103
    refine hK.out _ _ ?_ (fun hHeld => ?_)
    · exact HS7.out _ l3
    clear hK K
    try simp only [Act.put, List.setIfInBounds_toArray, List.set_cons_zero, List.set_cons_succ]
    refine wpAnyN_ready (rs := [4]) (by kernel_rfl) (by simp) ?_
    refine AllReadyN.held rfl (by rfl) (fun K hK => ?_) AllReadyN.nil
    go_simp
    refine (lawof_calls _ 1 (by omega) (by omega) 1 div_1).mono ?_
    rintro e w104 ⟨v104, rfl, o104, b104⟩
    obtain ⟨s104, P104, q104, e104, P104', q104', e104', rfl, o104⟩ := o104.open_; have O104 := hide o104; clear o104
    have l4 : Later wr w104 := Later.trans l3 b104
    refine hK.out _ _ ?_ (fun hHeld => ?_)
    · exact HS7.out _ l4
    clear hK K
    try simp only [Act.put, List.setIfInBounds_toArray, List.set_cons_zero, List.set_cons_succ]
    refine wpAnyN_ready (rs := [5]) (by kernel_rfl) (by simp) ?_
    refine AllReadyN.held rfl (by rfl) (fun K hK => ?_) AllReadyN.nil
    go_simp
    refine hK.out _ _ ?_ (fun hHeld => ?_)
    · exact HS7.out _ (l4.alloc _)
    clear hK K
    try simp only [Act.put, List.setIfInBounds_toArray, List.set_cons_zero, List.set_cons_succ]
    refine wpAnyN_ready (rs := [6]) (by kernel_rfl) (by simp) ?_
    refine AllReadyN.held rfl (by rfl) (fun K hK => ?_) AllReadyN.nil
    go_simp
    refine (lsame_calls _ _ _ [1, 1] [1, 1] 1 1 (HX.out.later EOwn.later (l4.alloc _)) (rats_two (Row.new w104 _ _) (OwnR.weaken (OwnR.later O103.out (((Later.refl _).trans b104).alloc _)) (Nat.zero_le _)) (OwnR.weaken (OwnR.later O104.out ((Later.refl _).alloc _)) (Nat.zero_le _))) (sized_list1 (by simp)) (sized_list1 (by simp)) (by omega) (by omega) (by simp) true (by simp)).mono ?_
    rintro e w106 ⟨rfl, b106⟩
    have l6 : Later wr w106 := Later.trans (l4.alloc _) b106
    refine hK.out _ _ ?_ (fun hHeld => ?_)
    · exact HS7.out _ l6
    clear hK K
    try simp only [Act.put, List.setIfInBounds_toArray, List.set_cons_zero, List.set_cons_succ]
    refine wpAnyN_takeD (some 64) (by rfl) (i := 7) (oi := _) (v := ?_) rfl (by kernel_rfl) (by kernel_rfl) (by kernel_rfl) (by kernel_rfl) (fun _ _ _ h => h) (Or.inl ⟨by rfl, ?_⟩) (by assumption) ?_
    rotate_left
    · intro w hSw; (try dsimp only at hSw); go_simp
      first | done | with_reducible rfl
    try simp only [Act.put, List.setIfInBounds_toArray, List.set_cons_zero, List.set_cons_succ]
    refine wpAnyN_takeD (some 65) (by rfl) (i := 8) (oi := _) (v := ?_) rfl (by kernel_rfl) (by kernel_rfl) (by kernel_rfl) (by kernel_rfl) (fun _ _ _ h => h) (Or.inl ⟨by rfl, ?_⟩) (by assumption) ?_
    rotate_left
    · intro w hSw; (try dsimp only at hSw); go_simp
      first | done | with_reducible rfl
    try simp only [Act.put, List.setIfInBounds_toArray, List.set_cons_zero, List.set_cons_succ]
    refine wpAnyN_takeD (some 66) (by rfl) (i := 9) (oi := _) (v := ?_) rfl (by kernel_rfl) (by kernel_rfl) (by kernel_rfl) (by kernel_rfl) (fun _ _ _ h => h) (Or.inl ⟨by rfl, ?_⟩) (by assumption) ?_
    rotate_left
    · intro w hSw; (try dsimp only at hSw); go_simp
      first | done | with_reducible rfl
    try simp only [Act.put, List.setIfInBounds_toArray, List.set_cons_zero, List.set_cons_succ]
    refine wpAnyN_takeD (some 67) (by rfl) (i := 10) (oi := _) (v := ?_) rfl (by kernel_rfl) (by kernel_rfl) (by kernel_rfl) (by kernel_rfl) (fun _ _ _ h => h) (Or.inl ⟨by rfl, ?_⟩) (by assumption) ?_
    rotate_left
    · intro w hSw; (try dsimp only at hSw); go_simp
      first | done | with_reducible rfl
    try simp only [Act.put, List.setIfInBounds_toArray, List.set_cons_zero, List.set_cons_succ]
    refine wpAnyN_takeD (some 68) (by rfl) (i := 11) (oi := _) (v := ?_) rfl (by kernel_rfl) (by kernel_rfl) (by kernel_rfl) (by kernel_rfl) (fun _ _ _ h => h) (Or.inl ⟨by rfl, ?_⟩) (by assumption) ?_
    rotate_left
    · intro w hSw; (try dsimp only at hSw); go_simp
      first | done | with_reducible rfl
    try simp only [Act.put, List.setIfInBounds_toArray, List.set_cons_zero, List.set_cons_succ]
    refine wpAnyN_takeD (some 69) (by rfl) (i := 12) (oi := _) (v := ?_) rfl (by kernel_rfl) (by kernel_rfl) (by kernel_rfl) (by kernel_rfl) (fun _ _ _ h => h) (Or.inl ⟨by rfl, ?_⟩) (by assumption) ?_
    rotate_left
    · intro w hSw; (try dsimp only at hSw); go_simp
      first | done | with_reducible rfl
    try simp only [Act.put, List.setIfInBounds_toArray, List.set_cons_zero, List.set_cons_succ]
    refine wpAnyN_takeD (some 71) (by rfl) (i := 14) (oi := _) (v := ?_) rfl (by kernel_rfl) (by kernel_rfl) (by kernel_rfl) (by kernel_rfl) (fun _ _ _ h => h) (Or.inl ⟨by rfl, ?_⟩) (by assumption) ?_
    rotate_left
    · intro w hSw; (try dsimp only at hSw); go_simp
      first | done | with_reducible rfl
    try simp only [Act.put, List.setIfInBounds_toArray, List.set_cons_zero, List.set_cons_succ]
    refine wpAnyN_takeD (some 74) (by rfl) (i := 17) (oi := _) (v := ?_) rfl (by kernel_rfl) (by kernel_rfl) (by kernel_rfl) (by kernel_rfl) (fun _ _ _ h => h) (Or.inl ⟨by rfl, ?_⟩) (by assumption) ?_
    rotate_left
    · intro w hSw; (try dsimp only at hSw); go_simp
      first | done | with_reducible rfl
    try simp only [Act.put, List.setIfInBounds_toArray, List.set_cons_zero, List.set_cons_succ]
    refine wpAnyN_ready (rs := [13]) (by kernel_rfl) (by simp) ?_
    refine AllReadyN.held rfl (by rfl) (fun K hK => ?_) AllReadyN.nil
    go_simp
    refine (lawof_calls _ 1 (by omega) (by omega) 1 div_1).mono ?_
    rintro e w113 ⟨v113, rfl, o113, b113⟩
    obtain ⟨s113, P113, q113, e113, P113', q113', e113', rfl, o113⟩ := o113.open_; have O113 := hide o113; clear o113
    have l13 : Later wr w113 := Later.trans l6 b113
    refine hK.out _ _ ?_ (fun hHeld => ?_)
    · exact HS7.out _ l13
    clear hK K
    try simp only [Act.put, List.setIfInBounds_toArray, List.set_cons_zero, List.set_cons_succ]
    refine wpAnyN_ready (rs := [15, 16]) (by kernel_rfl) (by simp) ?_
    refine AllReadyN.held rfl (by rfl) (fun K hK => ?_) ?_
    · go_simp
      refine hK.out _ _ ?_ (fun hHeld => ?_)
      · exact HS7.out _ (l13.alloc _)
      clear hK K
      try simp only [Act.put, List.setIfInBounds_toArray, List.set_cons_zero, List.set_cons_succ]
      refine wpAnyN_ready (rs := [16]) (by kernel_rfl) (by simp) ?_
      refine AllReadyN.held rfl (by rfl) (fun K hK => ?_) AllReadyN.nil
      go_simp
      refine (lawof_calls _ 0 (by omega) (by omega) 0 div_0).mono ?_
      rintro e w116 ⟨v116, rfl, o116, b116⟩
      obtain ⟨s116, P116, q116, e116, P116', q116', e116', rfl, o116⟩ := o116.open_; have O116 := hide o116; clear o116
      have l16 : Later wr w116 := Later.trans (l13.alloc _) b116
      refine hK.out _ _ ?_ (fun hHeld => ?_)
      · exact HS7.out _ l16
      clear hK K
      try simp only [Act.put, List.setIfInBounds_toArray, List.set_cons_zero, List.set_cons_succ]
      refine wpAnyN_ready (rs := [18]) (by kernel_rfl) (by simp) ?_
      refine AllReadyN.held rfl (by rfl) (fun K hK => ?_) AllReadyN.nil
      go_simp
      refine hK.out _ _ ?_ (fun hHeld => ?_)
      · exact HS7.out _ (l16.alloc _)
      clear hK K
      try simp only [Act.put, List.setIfInBounds_toArray, List.set_cons_zero, List.set_cons_succ]
      refine wpAnyN_ready (rs := [19]) (by kernel_rfl) (by simp) ?_
      refine AllReadyN.held rfl (by rfl) (fun K hK => ?_) AllReadyN.nil
      go_simp
      refine hK.out _ _ ?_ (fun hHeld => ?_)
      · exact HS7.out _ ((l16.alloc _).alloc _)
      clear hK K
      try simp only [Act.put, List.setIfInBounds_toArray, List.set_cons_zero, List.set_cons_succ]
      refine wpAnyN_ready (rs := [20]) (by kernel_rfl) (by simp) ?_
      refine AllReadyN.held rfl (by rfl) (fun K hK => ?_) AllReadyN.nil
      go_simp
      refine (tsame_calls _ _ _ [[1, 1/2], [0, 1/2]] [[1, 1/2], [0, 1/2]] 1 1 (HP.out.later EOwn.later ((l16.alloc _).alloc _)) (tab_two (row_new1 w116 _ _ _) (rats_two ((((Row.new w113 _ _).later b116).alloc _).alloc _) (OwnR.weaken (OwnR.later O113.out (((((Later.refl _).alloc _).trans b116).alloc _).alloc _)) (Nat.zero_le _)) (OwnR.weaken (OwnR.later HH.out ((l16.alloc _).alloc _)) (Nat.zero_le _))) (rats_two ((Row.new w116 _ _).alloc _) (OwnR.weaken (OwnR.later O116.out (((Later.refl _).alloc _).alloc _)) (Nat.zero_le _)) (OwnR.weaken (OwnR.later HH.out ((l16.alloc _).alloc _)) (Nat.zero_le _)))) HSP.out HSP.out (by omega) (by omega) (by simp) (by simp) true (by simp)).mono ?_
      rintro e w120 ⟨rfl, b120⟩
      have l20 : Later wr w120 := Later.trans ((l16.alloc _).alloc _) b120
      refine hK.out _ _ ?_ (fun hHeld => ?_)
      · exact HS7.out _ l20
      clear hK K
      try simp only [Act.put, List.setIfInBounds_toArray, List.set_cons_zero, List.set_cons_succ]
      refine wpAnyN_takeD (some 78) (by rfl) (i := 21) (oi := _) (v := ?_) rfl (by kernel_rfl) (by kernel_rfl) (by kernel_rfl) (by kernel_rfl) (fun _ _ _ h => h) (Or.inl ⟨by rfl, ?_⟩) (by assumption) ?_
      rotate_left
      · intro w hSw; (try dsimp only at hSw); go_simp
        first | done | with_reducible rfl
      try simp only [Act.put, List.setIfInBounds_toArray, List.set_cons_zero, List.set_cons_succ]
      refine wpAnyN_takeD (some 79) (by rfl) (i := 22) (oi := _) (v := ?_) rfl (by kernel_rfl) (by kernel_rfl) (by kernel_rfl) (by kernel_rfl) (fun _ _ _ h => h) (Or.inl ⟨by rfl, ?_⟩) (by assumption) ?_
      rotate_left
      · intro w hSw; (try dsimp only at hSw); go_simp
        first | done | with_reducible rfl
      try simp only [Act.put, List.setIfInBounds_toArray, List.set_cons_zero, List.set_cons_succ]
      refine wpAnyN_takeD (some 80) (by rfl) (i := 23) (oi := _) (v := ?_) rfl (by kernel_rfl) (by kernel_rfl) (by kernel_rfl) (by kernel_rfl) (fun _ _ _ h => h) (Or.inl ⟨by rfl, ?_⟩) (by assumption) ?_
      rotate_left
      · intro w hSw; (try dsimp only at hSw); go_simp
        first | done | with_reducible rfl
      try simp only [Act.put, List.setIfInBounds_toArray, List.set_cons_zero, List.set_cons_succ]
      refine wpAnyN_takeD (some 81) (by rfl) (i := 24) (oi := _) (v := ?_) rfl (by kernel_rfl) (by kernel_rfl) (by kernel_rfl) (by kernel_rfl) (fun _ _ _ h => h) (Or.inl ⟨by rfl, ?_⟩) (by assumption) ?_
      rotate_left
      · intro w hSw; (try dsimp only at hSw); go_simp
        first | done | with_reducible rfl
      try simp only [Act.put, List.setIfInBounds_toArray, List.set_cons_zero, List.set_cons_succ]
      refine wpAnyN_takeD (some 82) (by rfl) (i := 25) (oi := _) (v := ?_) rfl (by kernel_rfl) (by kernel_rfl) (by kernel_rfl) (by kernel_rfl) (fun _ _ _ h => h) (Or.inl ⟨by rfl, ?_⟩) (by assumption) ?_
      rotate_left
      · intro w hSw; (try dsimp only at hSw); go_simp
        first | done | with_reducible rfl
      try simp only [Act.put, List.setIfInBounds_toArray, List.set_cons_zero, List.set_cons_succ]
      refine wpAnyN_takeD (some 83) (by rfl) (i := 26) (oi := _) (v := ?_) rfl (by kernel_rfl) (by kernel_rfl) (by kernel_rfl) (by kernel_rfl) (fun _ _ _ h => h) (Or.inl ⟨by rfl, ?_⟩) (by assumption) ?_
      rotate_left
      · intro w hSw; (try dsimp only at hSw); go_simp
        first | done | with_reducible rfl
      try simp only [Act.put, List.setIfInBounds_toArray, List.set_cons_zero, List.set_cons_succ]
      refine wpAnyN_ready (rs := [27]) (by kernel_rfl) (by simp) ?_
      refine AllReadyN.held rfl (by rfl) (fun K hK => ?_) AllReadyN.nil
      go_simp
      refine (lawof_calls _ 3 (by omega) (by omega) 3 div_3).mono ?_
      rintro e w127 ⟨v127, rfl, o127, b127⟩
      obtain ⟨s127, P127, q127, e127, P127', q127', e127', rfl, o127⟩ := o127.open_; have O127 := hide o127; clear o127
      have l27 : Later wr w127 := Later.trans l20 b127
      refine hK.out _ _ ?_ (fun hHeld => ?_)
      · exact HS7.out _ l27
      clear hK K
      try simp only [Act.put, List.setIfInBounds_toArray, List.set_cons_zero, List.set_cons_succ]
      refine wpAnyN_ready (rs := [28]) (by kernel_rfl) (by simp) ?_
      refine AllReadyN.held rfl (by rfl) (fun K hK => ?_) AllReadyN.nil
      go_simp
      refine (qsame_calls _ _ _ 3 3 0 0 1 1 (OwnR.weaken (OwnR.later HD.out l27) (Nat.zero_le _)) (OwnR.weaken (OwnR.later O127.out (Later.refl _)) (Nat.zero_le _)) sized_3 sized_3 (by omega) (by omega) true (by simp)).mono ?_
      rintro e w128 ⟨rfl, b128⟩
      have l28 : Later wr w128 := Later.trans l27 b128
      refine hK.out _ _ ?_ (fun hHeld => ?_)
      · exact HS7.out _ l28
      clear hK K
      try simp only [Act.put, List.setIfInBounds_toArray, List.set_cons_zero, List.set_cons_succ]
      refine wpAnyN_takeD (some 86) (by rfl) (i := 29) (oi := _) (v := ?_) rfl (by kernel_rfl) (by kernel_rfl) (by kernel_rfl) (by kernel_rfl) (fun _ _ _ h => h) (Or.inl ⟨by rfl, ?_⟩) (by assumption) ?_
      rotate_left
      · intro w hSw; (try dsimp only at hSw); go_simp
        first | done | with_reducible rfl
      try simp only [Act.put, List.setIfInBounds_toArray, List.set_cons_zero, List.set_cons_succ]
      refine wpAnyN_takeD (some 87) (by rfl) (i := 30) (oi := _) (v := ?_) rfl (by kernel_rfl) (by kernel_rfl) (by kernel_rfl) (by kernel_rfl) (fun _ _ _ h => h) (Or.inl ⟨by rfl, ?_⟩) (by assumption) ?_
      rotate_left
      · intro w hSw; (try dsimp only at hSw); go_simp
        first | done | with_reducible rfl
      try simp only [Act.put, List.setIfInBounds_toArray, List.set_cons_zero, List.set_cons_succ]
      refine wpAnyN_takeD (some 88) (by rfl) (i := 31) (oi := _) (v := ?_) rfl (by kernel_rfl) (by kernel_rfl) (by kernel_rfl) (by kernel_rfl) (fun _ _ _ h => h) (Or.inl ⟨by rfl, ?_⟩) (by assumption) ?_
      rotate_left
      · intro w hSw; (try dsimp only at hSw); go_simp
        first | done | with_reducible rfl
      try simp only [Act.put, List.setIfInBounds_toArray, List.set_cons_zero, List.set_cons_succ]
      refine wpAnyN_takeD (some 89) (by rfl) (i := 32) (oi := _) (v := ?_) rfl (by kernel_rfl) (by kernel_rfl) (by kernel_rfl) (by kernel_rfl) (fun _ _ _ h => h) (Or.inl ⟨by rfl, ?_⟩) (by assumption) ?_
      rotate_left
      · intro w hSw; (try dsimp only at hSw); go_simp
        first | done | with_reducible rfl
      try simp only [Act.put, List.setIfInBounds_toArray, List.set_cons_zero, List.set_cons_succ]
      refine wpAnyN_takeD (some 90) (by rfl) (i := 33) (oi := _) (v := ?_) rfl (by kernel_rfl) (by kernel_rfl) (by kernel_rfl) (by kernel_rfl) (fun _ _ _ h => h) (Or.inl ⟨by rfl, ?_⟩) (by assumption) ?_
      rotate_left
      · intro w hSw; (try dsimp only at hSw); go_simp
        first | done | with_reducible rfl
      try simp only [Act.put, List.setIfInBounds_toArray, List.set_cons_zero, List.set_cons_succ]
      refine wpAnyN_takeD (some 91) (by rfl) (i := 34) (oi := _) (v := ?_) rfl (by kernel_rfl) (by kernel_rfl) (by kernel_rfl) (by kernel_rfl) (fun _ _ _ h => h) (Or.inl ⟨by rfl, ?_⟩) (by assumption) ?_
      rotate_left
      · intro w hSw; (try dsimp only at hSw); go_simp
        first | done | with_reducible rfl
      try simp only [Act.put, List.setIfInBounds_toArray, List.set_cons_zero, List.set_cons_succ]
      refine wpAnyN_ready (rs := [35]) (by kernel_rfl) (by simp) ?_
      refine AllReadyN.held rfl (by rfl) (fun K hK => ?_) AllReadyN.nil
      go_simp
      refine (lawof_calls _ 0 (by omega) (by omega) 0 div_0).mono ?_
      rintro e w135 ⟨v135, rfl, o135, b135⟩
      obtain ⟨s135, P135, q135, e135, P135', q135', e135', rfl, o135⟩ := o135.open_; have O135 := hide o135; clear o135
      have l35 : Later wr w135 := Later.trans l28 b135
      refine hK.out _ _ ?_ (fun hHeld => ?_)
      · exact HS7.out _ l35
      clear hK K
      try simp only [Act.put, List.setIfInBounds_toArray, List.set_cons_zero, List.set_cons_succ]
      refine wpAnyN_ready (rs := [36]) (by kernel_rfl) (by simp) ?_
      refine AllReadyN.held rfl (by rfl) (fun K hK => ?_) AllReadyN.nil
      go_simp
      refine (lawof_calls _ (-1) (by omega) (by omega) (-1) div_m1).mono ?_
      rintro e w136 ⟨v136, rfl, o136, b136⟩
      obtain ⟨s136, P136, q136, e136, P136', q136', e136', rfl, o136⟩ := o136.open_; have O136 := hide o136; clear o136
      have l36 : Later wr w136 := Later.trans l35 b136
      refine hK.out _ _ ?_ (fun hHeld => ?_)
      · exact HS7.out _ l36
      clear hK K
      try simp only [Act.put, List.setIfInBounds_toArray, List.set_cons_zero, List.set_cons_succ]
      refine wpAnyN_ready (rs := [37]) (by kernel_rfl) (by simp) ?_
      refine AllReadyN.held rfl (by rfl) (fun K hK => ?_) AllReadyN.nil
      go_simp
      refine hK.out _ _ ?_ (fun hHeld => ?_)
      · exact HS7.out _ (l36.alloc _)
      clear hK K
      try simp only [Act.put, List.setIfInBounds_toArray, List.set_cons_zero, List.set_cons_succ]
      refine wpAnyN_ready (rs := [38]) (by kernel_rfl) (by simp) ?_
      refine AllReadyN.held rfl (by rfl) (fun K hK => ?_) AllReadyN.nil
      go_simp
      refine (lsame_calls _ _ _ [0, -1] [0, -1] 1 1 (HSS.out.later EOwn.later (l36.alloc _)) (rats_two (Row.new w136 _ _) (OwnR.weaken (OwnR.later O135.out (((Later.refl _).trans b136).alloc _)) (Nat.zero_le _)) (OwnR.weaken (OwnR.later O136.out ((Later.refl _).alloc _)) (Nat.zero_le _))) (sized_list1 (by simp)) (sized_list1 (by simp)) (by omega) (by omega) (by simp) true (by simp)).mono ?_
      rintro e w138 ⟨rfl, b138⟩
      have l38 : Later wr w138 := Later.trans (l36.alloc _) b138
      refine hK.out _ _ ?_ (fun hHeld => ?_)
      · exact HS7.out _ l38
      clear hK K
      try simp only [Act.put, List.setIfInBounds_toArray, List.set_cons_zero, List.set_cons_succ]
      refine wpAnyN_takeD (some 96) (by rfl) (i := 39) (oi := _) (v := ?_) rfl (by kernel_rfl) (by kernel_rfl) (by kernel_rfl) (by kernel_rfl) (fun _ _ _ h => h) (Or.inl ⟨by rfl, ?_⟩) (by assumption) ?_
      rotate_left
      · intro w hSw; (try dsimp only at hSw); go_simp
        first | done | with_reducible rfl
      try simp only [Act.put, List.setIfInBounds_toArray, List.set_cons_zero, List.set_cons_succ]
      refine wpAnyN_takeD (some 97) (by rfl) (i := 40) (oi := _) (v := ?_) rfl (by kernel_rfl) (by kernel_rfl) (by kernel_rfl) (by kernel_rfl) (fun _ _ _ h => h) (Or.inl ⟨by rfl, ?_⟩) (by assumption) ?_
      rotate_left
      · intro w hSw; (try dsimp only at hSw); go_simp
        first | done | with_reducible rfl
      try simp only [Act.put, List.setIfInBounds_toArray, List.set_cons_zero, List.set_cons_succ]
      refine wpAnyN_takeD (some 98) (by rfl) (i := 41) (oi := _) (v := ?_) rfl (by kernel_rfl) (by kernel_rfl) (by kernel_rfl) (by kernel_rfl) (fun _ _ _ h => h) (Or.inl ⟨by rfl, ?_⟩) (by assumption) ?_
      rotate_left
      · intro w hSw; (try dsimp only at hSw); go_simp
        first | done | with_reducible rfl
      try simp only [Act.put, List.setIfInBounds_toArray, List.set_cons_zero, List.set_cons_succ]
      refine wpAnyN_ready (rs := [42]) (by kernel_rfl) (by simp) ?_
      refine AllReadyN.held rfl (by rfl) (fun K hK => ?_) AllReadyN.nil
      go_simp
      refine (rect_calls _ _ tA EOwn EOwn.later (HT.out _ l38) 2 (by simp [tA]) (by simp [tA]) true (by decide)).mono ?_
      rintro e w142 ⟨rfl, b142⟩
      have l42 : Later wr w142 := Later.trans l38 b142
      refine hK.out _ _ ?_ (fun hHeld => ?_)
      · exact HS7.out _ l42
      clear hK K
      try simp only [Act.put, List.setIfInBounds_toArray, List.set_cons_zero, List.set_cons_succ]
      refine wpAnyN_takeD (some 100) (by rfl) (i := 43) (oi := _) (v := ?_) rfl (by kernel_rfl) (by kernel_rfl) (by kernel_rfl) (by kernel_rfl) (fun _ _ _ h => h) (Or.inl ⟨by rfl, ?_⟩) (by assumption) ?_
      rotate_left
      · intro w hSw; (try dsimp only at hSw); go_simp
        first | done | with_reducible rfl
      try simp only [Act.put, List.setIfInBounds_toArray, List.set_cons_zero, List.set_cons_succ]
      refine wpAnyN_takeD (some 101) (by rfl) (i := 44) (oi := _) (v := ?_) rfl (by kernel_rfl) (by kernel_rfl) (by kernel_rfl) (by kernel_rfl) (fun _ _ _ h => h) (Or.inl ⟨by rfl, ?_⟩) (by assumption) ?_
      rotate_left
      · intro w hSw; (try dsimp only at hSw); go_simp
        first | done | with_reducible rfl
      try simp only [Act.put, List.setIfInBounds_toArray, List.set_cons_zero, List.set_cons_succ]
      refine wpAnyN_takeD (some 102) (by rfl) (i := 45) (oi := _) (v := ?_) rfl (by kernel_rfl) (by kernel_rfl) (by kernel_rfl) (by kernel_rfl) (fun _ _ _ h => h) (Or.inl ⟨by rfl, ?_⟩) (by assumption) ?_
      rotate_left
      · intro w hSw; (try dsimp only at hSw); go_simp
        first | done | with_reducible rfl
      try simp only [Act.put, List.setIfInBounds_toArray, List.set_cons_zero, List.set_cons_succ]
      refine wpAnyN_ready (rs := [46]) (by kernel_rfl) (by simp) ?_
      refine AllReadyN.held rfl (by rfl) (fun K hK => ?_) AllReadyN.nil
      go_simp
      refine (rect_calls _ _ tA EOwn EOwn.later (HT.out _ l42) 1 (by simp [tA]) (by simp [tA]) false (by decide)).mono ?_
      rintro e w146 ⟨rfl, b146⟩
      have l46 : Later wr w146 := Later.trans l42 b146
      refine hK.out _ _ ?_ (fun hHeld => ?_)
      · exact HS7.out _ l46
      clear hK K
      try simp only [Act.put, List.setIfInBounds_toArray, List.set_cons_zero, List.set_cons_succ]
      refine wpAnyN_takeD (some 104) (by rfl) (i := 47) (oi := _) (v := ?_) rfl (by kernel_rfl) (by kernel_rfl) (by kernel_rfl) (by kernel_rfl) (fun _ _ _ h => h) (Or.inl ⟨by rfl, ?_⟩) (by assumption) ?_
      rotate_left
      · intro w hSw; (try dsimp only at hSw); go_simp
        first | done | with_reducible rfl
      try simp only [Act.put, List.setIfInBounds_toArray, List.set_cons_zero, List.set_cons_succ]
      refine wpAnyN_takeD (some 105) (by rfl) (i := 48) (oi := _) (v := ?_) rfl (by kernel_rfl) (by kernel_rfl) (by kernel_rfl) (by kernel_rfl) (fun _ _ _ h => h) (Or.inl ⟨by rfl, ?_⟩) (by assumption) ?_
      rotate_left
      · intro w hSw; (try dsimp only at hSw); go_simp
        first | done | with_reducible rfl
      try simp only [Act.put, List.setIfInBounds_toArray, List.set_cons_zero, List.set_cons_succ]
      refine wpAnyN_takeD (some 0) (by rfl) (i := 49) (oi := _) (v := ?_) rfl (by kernel_rfl) (by kernel_rfl) (by kernel_rfl) (by kernel_rfl) (fun _ _ _ h => h) (Or.inl ⟨by rfl, ?_⟩) (by assumption) ?_
      rotate_left
      · intro w hSw; (try dsimp only at hSw); go_simp
        first | done | with_reducible rfl
      try simp only [Act.put, List.setIfInBounds_toArray, List.set_cons_zero, List.set_cons_succ]
      refine wpAnyN_done (by kernel_rfl) ?_ _
      have LE := hide (HLW.out.trans l46)
      clear hHeld
      go_wp2_with fail
      go_ret
      exact ⟨rfl, LE.out⟩
    refine AllReadyN.held rfl (by rfl) (fun K hK => ?_) AllReadyN.nil
    go_simp
    refine (lawof_calls _ 0 (by omega) (by omega) 0 div_0).mono ?_
    rintro e w116 ⟨v116, rfl, o116, b116⟩
    obtain ⟨s116, P116, q116, e116, P116', q116', e116', rfl, o116⟩ := o116.open_; have O116 := hide o116; clear o116
    have l16 : Later wr w116 := Later.trans l13 b116
    refine hK.out _ _ ?_ (fun hHeld => ?_)
    · exact HS7.out _ l16
    clear hK K
    try simp only [Act.put, List.setIfInBounds_toArray, List.set_cons_zero, List.set_cons_succ]
    refine wpAnyN_ready (rs := [15, 18]) (by kernel_rfl) (by simp) ?_
    refine AllReadyN.held rfl (by rfl) (fun K hK => ?_) ?_
    · go_simp
      refine hK.out _ _ ?_ (fun hHeld => ?_)
      · exact HS7.out _ (l16.alloc _)
      clear hK K
      try simp only [Act.put, List.setIfInBounds_toArray, List.set_cons_zero, List.set_cons_succ]
      refine wpAnyN_ready (rs := [18]) (by kernel_rfl) (by simp) ?_
      refine AllReadyN.held rfl (by rfl) (fun K hK => ?_) AllReadyN.nil
      go_simp
      refine hK.out _ _ ?_ (fun hHeld => ?_)
      · exact HS7.out _ ((l16.alloc _).alloc _)
      clear hK K
      try simp only [Act.put, List.setIfInBounds_toArray, List.set_cons_zero, List.set_cons_succ]
      refine wpAnyN_ready (rs := [19]) (by kernel_rfl) (by simp) ?_
      refine AllReadyN.held rfl (by rfl) (fun K hK => ?_) AllReadyN.nil
      go_simp
      refine hK.out _ _ ?_ (fun hHeld => ?_)
      · exact HS7.out _ (((l16.alloc _).alloc _).alloc _)
      clear hK K
      try simp only [Act.put, List.setIfInBounds_toArray, List.set_cons_zero, List.set_cons_succ]
      refine wpAnyN_ready (rs := [20]) (by kernel_rfl) (by simp) ?_
      refine AllReadyN.held rfl (by rfl) (fun K hK => ?_) AllReadyN.nil
      go_simp
      refine (tsame_calls _ _ _ [[1, 1/2], [0, 1/2]] [[1, 1/2], [0, 1/2]] 1 1 (HP.out.later EOwn.later (((l16.alloc _).alloc _).alloc _)) (tab_two (row_new2 w116 _ _ _ _) (rats_two (((Row.new w116 _ _).alloc _).alloc _) (OwnR.weaken (OwnR.later O113.out (((((Later.refl _).trans b116).alloc _).alloc _).alloc _)) (Nat.zero_le _)) (OwnR.weaken (OwnR.later HH.out (((l16.alloc _).alloc _).alloc _)) (Nat.zero_le _))) (rats_two ((row_new1 w116 _ _ _).alloc _) (OwnR.weaken (OwnR.later O116.out ((((Later.refl _).alloc _).alloc _).alloc _)) (Nat.zero_le _)) (OwnR.weaken (OwnR.later HH.out (((l16.alloc _).alloc _).alloc _)) (Nat.zero_le _)))) HSP.out HSP.out (by omega) (by omega) (by simp) (by simp) true (by simp)).mono ?_
      rintro e w120 ⟨rfl, b120⟩
      have l20 : Later wr w120 := Later.trans (((l16.alloc _).alloc _).alloc _) b120
      refine hK.out _ _ ?_ (fun hHeld => ?_)
      · exact HS7.out _ l20
      clear hK K
      try simp only [Act.put, List.setIfInBounds_toArray, List.set_cons_zero, List.set_cons_succ]
      refine wpAnyN_takeD (some 78) (by rfl) (i := 21) (oi := _) (v := ?_) rfl (by kernel_rfl) (by kernel_rfl) (by kernel_rfl) (by kernel_rfl) (fun _ _ _ h => h) (Or.inl ⟨by rfl, ?_⟩) (by assumption) ?_
      rotate_left
      · intro w hSw; (try dsimp only at hSw); go_simp
        first | done | with_reducible rfl
      try simp only [Act.put, List.setIfInBounds_toArray, List.set_cons_zero, List.set_cons_succ]
      refine wpAnyN_takeD (some 79) (by rfl) (i := 22) (oi := _) (v := ?_) rfl (by kernel_rfl) (by kernel_rfl) (by kernel_rfl) (by kernel_rfl) (fun _ _ _ h => h) (Or.inl ⟨by rfl, ?_⟩) (by assumption) ?_
      rotate_left
      · intro w hSw; (try dsimp only at hSw); go_simp
        first | done | with_reducible rfl
      try simp only [Act.put, List.setIfInBounds_toArray, List.set_cons_zero, List.set_cons_succ]
      refine wpAnyN_takeD (some 80) (by rfl) (i := 23) (oi := _) (v := ?_) rfl (by kernel_rfl) (by kernel_rfl) (by kernel_rfl) (by kernel_rfl) (fun _ _ _ h => h) (Or.inl ⟨by rfl, ?_⟩) (by assumption) ?_
      rotate_left
      · intro w hSw; (try dsimp only at hSw); go_simp
        first | done | with_reducible rfl
      try simp only [Act.put, List.setIfInBounds_toArray, List.set_cons_zero, List.set_cons_succ]
      refine wpAnyN_takeD (some 81) (by rfl) (i := 24) (oi := _) (v := ?_) rfl (by kernel_rfl) (by kernel_rfl) (by kernel_rfl) (by kernel_rfl) (fun _ _ _ h => h) (Or.inl ⟨by rfl, ?_⟩) (by assumption) ?_
      rotate_left
      · intro w hSw; (try dsimp only at hSw); go_simp
        first | done | with_reducible rfl
      try simp only [Act.put, List.setIfInBounds_toArray, List.set_cons_zero, List.set_cons_succ]
      refine wpAnyN_takeD (some 82) (by rfl) (i := 25) (oi := _) (v := ?_) rfl (by kernel_rfl) (by kernel_rfl) (by kernel_rfl) (by kernel_rfl) (fun _ _ _ h => h) (Or.inl ⟨by rfl, ?_⟩) (by assumption) ?_
      rotate_left
      · intro w hSw; (try dsimp only at hSw); go_simp
        first | done | with_reducible rfl
      try simp only [Act.put, List.setIfInBounds_toArray, List.set_cons_zero, List.set_cons_succ]
      refine wpAnyN_takeD (some 83) (by rfl) (i := 26) (oi := _) (v := ?_) rfl (by kernel_rfl) (by kernel_rfl) (by kernel_rfl) (by kernel_rfl) (fun _ _ _ h => h) (Or.inl ⟨by rfl, ?_⟩) (by assumption) ?_
      rotate_left
      · intro w hSw; (try dsimp only at hSw); go_simp
        first | done | with_reducible rfl
      try simp only [Act.put, List.setIfInBounds_toArray, List.set_cons_zero, List.set_cons_succ]
      refine wpAnyN_ready (rs := [27]) (by kernel_rfl) (by simp) ?_
      refine AllReadyN.held rfl (by rfl) (fun K hK => ?_) AllReadyN.nil
      go_simp
      refine (lawof_calls _ 3 (by omega) (by omega) 3 div_3).mono ?_
      rintro e w127 ⟨v127, rfl, o127, b127⟩
      obtain ⟨s127, P127, q127, e127, P127', q127', e127', rfl, o127⟩ := o127.open_; have O127 := hide o127; clear o127
      have l27 : Later wr w127 := Later.trans l20 b127
      refine hK.out _ _ ?_ (fun hHeld => ?_)
      · exact HS7.out _ l27
      clear hK K
      try simp only [Act.put, List.setIfInBounds_toArray, List.set_cons_zero, List.set_cons_succ]
      refine wpAnyN_ready (rs := [28]) (by kernel_rfl) (by simp) ?_
      refine AllReadyN.held rfl (by rfl) (fun K hK => ?_) AllReadyN.nil
      go_simp
      refine (qsame_calls _ _ _ 3 3 0 0 1 1 (OwnR.weaken (OwnR.later HD.out l27) (Nat.zero_le _)) (OwnR.weaken (OwnR.later O127.out (Later.refl _)) (Nat.zero_le _)) sized_3 sized_3 (by omega) (by omega) true (by simp)).mono ?_
      rintro e w128 ⟨rfl, b128⟩
      have l28 : Later wr w128 := Later.trans l27 b128
      refine hK.out _ _ ?_ (fun hHeld => ?_)
      · exact HS7.out _ l28
      clear hK K
      try simp only [Act.put, List.setIfInBounds_toArray, List.set_cons_zero, List.set_cons_succ]
      refine wpAnyN_takeD (some 86) (by rfl) (i := 29) (oi := _) (v := ?_) rfl (by kernel_rfl) (by kernel_rfl) (by kernel_rfl) (by kernel_rfl) (fun _ _ _ h => h) (Or.inl ⟨by rfl, ?_⟩) (by assumption) ?_
      rotate_left
      · intro w hSw; (try dsimp only at hSw); go_simp
        first | done | with_reducible rfl
      try simp only [Act.put, List.setIfInBounds_toArray, List.set_cons_zero, List.set_cons_succ]
      refine wpAnyN_takeD (some 87) (by rfl) (i := 30) (oi := _) (v := ?_) rfl (by kernel_rfl) (by kernel_rfl) (by kernel_rfl) (by kernel_rfl) (fun _ _ _ h => h) (Or.inl ⟨by rfl, ?_⟩) (by assumption) ?_
      rotate_left
      · intro w hSw; (try dsimp only at hSw); go_simp
        first | done | with_reducible rfl
      try simp only [Act.put, List.setIfInBounds_toArray, List.set_cons_zero, List.set_cons_succ]
      refine wpAnyN_takeD (some 88) (by rfl) (i := 31) (oi := _) (v := ?_) rfl (by kernel_rfl) (by kernel_rfl) (by kernel_rfl) (by kernel_rfl) (fun _ _ _ h => h) (Or.inl ⟨by rfl, ?_⟩) (by assumption) ?_
      rotate_left
      · intro w hSw; (try dsimp only at hSw); go_simp
        first | done | with_reducible rfl
      try simp only [Act.put, List.setIfInBounds_toArray, List.set_cons_zero, List.set_cons_succ]
      refine wpAnyN_takeD (some 89) (by rfl) (i := 32) (oi := _) (v := ?_) rfl (by kernel_rfl) (by kernel_rfl) (by kernel_rfl) (by kernel_rfl) (fun _ _ _ h => h) (Or.inl ⟨by rfl, ?_⟩) (by assumption) ?_
      rotate_left
      · intro w hSw; (try dsimp only at hSw); go_simp
        first | done | with_reducible rfl
      try simp only [Act.put, List.setIfInBounds_toArray, List.set_cons_zero, List.set_cons_succ]
      refine wpAnyN_takeD (some 90) (by rfl) (i := 33) (oi := _) (v := ?_) rfl (by kernel_rfl) (by kernel_rfl) (by kernel_rfl) (by kernel_rfl) (fun _ _ _ h => h) (Or.inl ⟨by rfl, ?_⟩) (by assumption) ?_
      rotate_left
      · intro w hSw; (try dsimp only at hSw); go_simp
        first | done | with_reducible rfl
      try simp only [Act.put, List.setIfInBounds_toArray, List.set_cons_zero, List.set_cons_succ]
      refine wpAnyN_takeD (some 91) (by rfl) (i := 34) (oi := _) (v := ?_) rfl (by kernel_rfl) (by kernel_rfl) (by kernel_rfl) (by kernel_rfl) (fun _ _ _ h => h) (Or.inl ⟨by rfl, ?_⟩) (by assumption) ?_
      rotate_left
      · intro w hSw; (try dsimp only at hSw); go_simp
        first | done | with_reducible rfl
      try simp only [Act.put, List.setIfInBounds_toArray, List.set_cons_zero, List.set_cons_succ]
      refine wpAnyN_ready (rs := [35]) (by kernel_rfl) (by simp) ?_
      refine AllReadyN.held rfl (by rfl) (fun K hK => ?_) AllReadyN.nil
      go_simp
      refine (lawof_calls _ 0 (by omega) (by omega) 0 div_0).mono ?_
      rintro e w135 ⟨v135, rfl, o135, b135⟩
      obtain ⟨s135, P135, q135, e135, P135', q135', e135', rfl, o135⟩ := o135.open_; have O135 := hide o135; clear o135
      have l35 : Later wr w135 := Later.trans l28 b135
      refine hK.out _ _ ?_ (fun hHeld => ?_)
      · exact HS7.out _ l35
      clear hK K
      try simp only [Act.put, List.setIfInBounds_toArray, List.set_cons_zero, List.set_cons_succ]
      refine wpAnyN_ready (rs := [36]) (by kernel_rfl) (by simp) ?_
      refine AllReadyN.held rfl (by rfl) (fun K hK => ?_) AllReadyN.nil
      go_simp
      refine (lawof_calls _ (-1) (by omega) (by omega) (-1) div_m1).mono ?_
      rintro e w136 ⟨v136, rfl, o136, b136⟩
      obtain ⟨s136, P136, q136, e136, P136', q136', e136', rfl, o136⟩ := o136.open_; have O136 := hide o136; clear o136
      have l36 : Later wr w136 := Later.trans l35 b136
      refine hK.out _ _ ?_ (fun hHeld => ?_)
      · exact HS7.out _ l36
      clear hK K
      try simp only [Act.put, List.setIfInBounds_toArray, List.set_cons_zero, List.set_cons_succ]
      refine wpAnyN_ready (rs := [37]) (by kernel_rfl) (by simp) ?_
      refine AllReadyN.held rfl (by rfl) (fun K hK => ?_) AllReadyN.nil
      go_simp
      refine hK.out _ _ ?_ (fun hHeld => ?_)
      · exact HS7.out _ (l36.alloc _)
      clear hK K
      try simp only [Act.put, List.setIfInBounds_toArray, List.set_cons_zero, List.set_cons_succ]
      refine wpAnyN_ready (rs := [38]) (by kernel_rfl) (by simp) ?_
      refine AllReadyN.held rfl (by rfl) (fun K hK => ?_) AllReadyN.nil
      go_simp
      refine (lsame_calls _ _ _ [0, -1] [0, -1] 1 1 (HSS.out.later EOwn.later (l36.alloc _)) (rats_two (Row.new w136 _ _) (OwnR.weaken (OwnR.later O135.out (((Later.refl _).trans b136).alloc _)) (Nat.zero_le _)) (OwnR.weaken (OwnR.later O136.out ((Later.refl _).alloc _)) (Nat.zero_le _))) (sized_list1 (by simp)) (sized_list1 (by simp)) (by omega) (by omega) (by simp) true (by simp)).mono ?_
      rintro e w138 ⟨rfl, b138⟩
      have l38 : Later wr w138 := Later.trans (l36.alloc _) b138
      refine hK.out _ _ ?_ (fun hHeld => ?_)
      · exact HS7.out _ l38
      clear hK K
      try simp only [Act.put, List.setIfInBounds_toArray, List.set_cons_zero, List.set_cons_succ]
      refine wpAnyN_takeD (some 96) (by rfl) (i := 39) (oi := _) (v := ?_) rfl (by kernel_rfl) (by kernel_rfl) (by kernel_rfl) (by kernel_rfl) (fun _ _ _ h => h) (Or.inl ⟨by rfl, ?_⟩) (by assumption) ?_
      rotate_left
      · intro w hSw; (try dsimp only at hSw); go_simp
        first | done | with_reducible rfl
      try simp only [Act.put, List.setIfInBounds_toArray, List.set_cons_zero, List.set_cons_succ]
      refine wpAnyN_takeD (some 97) (by rfl) (i := 40) (oi := _) (v := ?_) rfl (by kernel_rfl) (by kernel_rfl) (by kernel_rfl) (by kernel_rfl) (fun _ _ _ h => h) (Or.inl ⟨by rfl, ?_⟩) (by assumption) ?_
      rotate_left
      · intro w hSw; (try dsimp only at hSw); go_simp
        first | done | with_reducible rfl
      try simp only [Act.put, List.setIfInBounds_toArray, List.set_cons_zero, List.set_cons_succ]
      refine wpAnyN_takeD (some 98) (by rfl) (i := 41) (oi := _) (v := ?_) rfl (by kernel_rfl) (by kernel_rfl) (by kernel_rfl) (by kernel_rfl) (fun _ _ _ h => h) (Or.inl ⟨by rfl, ?_⟩) (by assumption) ?_
      rotate_left
      · intro w hSw; (try dsimp only at hSw); go_simp
        first | done | with_reducible rfl
      try simp only [Act.put, List.setIfInBounds_toArray, List.set_cons_zero, List.set_cons_succ]
      refine wpAnyN_ready (rs := [42]) (by kernel_rfl) (by simp) ?_
      refine AllReadyN.held rfl (by rfl) (fun K hK => ?_) AllReadyN.nil
      go_simp
      refine (rect_calls _ _ tA EOwn EOwn.later (HT.out _ l38) 2 (by simp [tA]) (by simp [tA]) true (by decide)).mono ?_
      rintro e w142 ⟨rfl, b142⟩
      have l42 : Later wr w142 := Later.trans l38 b142
      refine hK.out _ _ ?_ (fun hHeld => ?_)
      · exact HS7.out _ l42
      clear hK K
      try simp only [Act.put, List.setIfInBounds_toArray, List.set_cons_zero, List.set_cons_succ]
      refine wpAnyN_takeD (some 100) (by rfl) (i := 43) (oi := _) (v := ?_) rfl (by kernel_rfl) (by kernel_rfl) (by kernel_rfl) (by kernel_rfl) (fun _ _ _ h => h) (Or.inl ⟨by rfl, ?_⟩) (by assumption) ?_
      rotate_left
      · intro w hSw; (try dsimp only at hSw); go_simp
        first | done | with_reducible rfl
      try simp only [Act.put, List.setIfInBounds_toArray, List.set_cons_zero, List.set_cons_succ]
      refine wpAnyN_takeD (some 101) (by rfl) (i := 44) (oi := _) (v := ?_) rfl (by kernel_rfl) (by kernel_rfl) (by kernel_rfl) (by kernel_rfl) (fun _ _ _ h => h) (Or.inl ⟨by rfl, ?_⟩) (by assumption) ?_
      rotate_left
      · intro w hSw; (try dsimp only at hSw); go_simp
        first | done | with_reducible rfl
      try simp only [Act.put, List.setIfInBounds_toArray, List.set_cons_zero, List.set_cons_succ]
      refine wpAnyN_takeD (some 102) (by rfl) (i := 45) (oi := _) (v := ?_) rfl (by kernel_rfl) (by kernel_rfl) (by kernel_rfl) (by kernel_rfl) (fun _ _ _ h => h) (Or.inl ⟨by rfl, ?_⟩) (by assumption) ?_
      rotate_left
      · intro w hSw; (try dsimp only at hSw); go_simp
        first | done | with_reducible rfl
      try simp only [Act.put, List.setIfInBounds_toArray, List.set_cons_zero, List.set_cons_succ]
      refine wpAnyN_ready (rs := [46]) (by kernel_rfl) (by simp) ?_
      refine AllReadyN.held rfl (by rfl) (fun K hK => ?_) AllReadyN.nil
      go_simp
      refine (rect_calls _ _ tA EOwn EOwn.later (HT.out _ l42) 1 (by simp [tA]) (by simp [tA]) false (by decide)).mono ?_
      rintro e w146 ⟨rfl, b146⟩
      have l46 : Later wr w146 := Later.trans l42 b146
      refine hK.out _ _ ?_ (fun hHeld => ?_)
      · exact HS7.out _ l46
      clear hK K
      try simp only [Act.put, List.setIfInBounds_toArray, List.set_cons_zero, List.set_cons_succ]
      refine wpAnyN_takeD (some 104) (by rfl) (i := 47) (oi := _) (v := ?_) rfl (by kernel_rfl) (by kernel_rfl) (by kernel_rfl) (by kernel_rfl) (fun _ _ _ h => h) (Or.inl ⟨by rfl, ?_⟩) (by assumption) ?_
      rotate_left
      · intro w hSw; (try dsimp only at hSw); go_simp
        first | done | with_reducible rfl
      try simp only [Act.put, List.setIfInBounds_toArray, List.set_cons_zero, List.set_cons_succ]
      refine wpAnyN_takeD (some 105) (by rfl) (i := 48) (oi := _) (v := ?_) rfl (by kernel_rfl) (by kernel_rfl) (by kernel_rfl) (by kernel_rfl) (fun _ _ _ h => h) (Or.inl ⟨by rfl, ?_⟩) (by assumption) ?_
      rotate_left
      · intro w hSw; (try dsimp only at hSw); go_simp
        first | done | with_reducible rfl
      try simp only [Act.put, List.setIfInBounds_toArray, List.set_cons_zero, List.set_cons_succ]
      refine wpAnyN_takeD (some 0) (by rfl) (i := 49) (oi := _) (v := ?_) rfl (by kernel_rfl) (by kernel_rfl) (by kernel_rfl) (by kernel_rfl) (fun _ _ _ h => h) (Or.inl ⟨by rfl, ?_⟩) (by assumption) ?_
      rotate_left
      · intro w hSw; (try dsimp only at hSw); go_simp
        first | done | with_reducible rfl
      try simp only [Act.put, List.setIfInBounds_toArray, List.set_cons_zero, List.set_cons_succ]
      refine wpAnyN_done (by kernel_rfl) ?_ _
      have LE := hide (HLW.out.trans l46)
      clear hHeld
      go_wp2_with fail
      go_ret
      exact ⟨rfl, LE.out⟩
    refine AllReadyN.held rfl (by rfl) (fun K hK => ?_) AllReadyN.nil
    go_simp
    refine hK.out _ _ ?_ (fun hHeld => ?_)
    · exact HS7.out _ (l16.alloc _)
    clear hK K
    try simp only [Act.put, List.setIfInBounds_toArray, List.set_cons_zero, List.set_cons_succ]
    refine wpAnyN_ready (rs := [15]) (by kernel_rfl) (by simp) ?_
    refine AllReadyN.held rfl (by rfl) (fun K hK => ?_) AllReadyN.nil
    go_simp
    refine hK.out _ _ ?_ (fun hHeld => ?_)
    · exact HS7.out _ ((l16.alloc _).alloc _)
    clear hK K
    try simp only [Act.put, List.setIfInBounds_toArray, List.set_cons_zero, List.set_cons_succ]
    refine wpAnyN_ready (rs := [19]) (by kernel_rfl) (by simp) ?_
    refine AllReadyN.held rfl (by rfl) (fun K hK => ?_) AllReadyN.nil
    go_simp
    refine hK.out _ _ ?_ (fun hHeld => ?_)
    · exact HS7.out _ (((l16.alloc _).alloc _).alloc _)
    clear hK K
    try simp only [Act.put, List.setIfInBounds_toArray, List.set_cons_zero, List.set_cons_succ]
    refine wpAnyN_ready (rs := [20]) (by kernel_rfl) (by simp) ?_
    refine AllReadyN.held rfl (by rfl) (fun K hK => ?_) AllReadyN.nil
    go_simp
    refine (tsame_calls _ _ _ [[1, 1/2], [0, 1/2]] [[1, 1/2], [0, 1/2]] 1 1 (HP.out.later EOwn.later (((l16.alloc _).alloc _).alloc _)) (tab_two (row_new2 w116 _ _ _ _) (rats_two ((row_new1 w116 _ _ _).alloc _) (OwnR.weaken (OwnR.later O113.out (((((Later.refl _).trans b116).alloc _).alloc _).alloc _)) (Nat.zero_le _)) (OwnR.weaken (OwnR.later HH.out (((l16.alloc _).alloc _).alloc _)) (Nat.zero_le _))) (rats_two (((Row.new w116 _ _).alloc _).alloc _) (OwnR.weaken (OwnR.later O116.out ((((Later.refl _).alloc _).alloc _).alloc _)) (Nat.zero_le _)) (OwnR.weaken (OwnR.later HH.out (((l16.alloc _).alloc _).alloc _)) (Nat.zero_le _)))) HSP.out HSP.out (by omega) (by omega) (by simp) (by simp) true (by simp)).mono ?_
    rintro e w120 ⟨rfl, b120⟩
    have l20 : Later wr w120 := Later.trans (((l16.alloc _).alloc _).alloc _) b120
    refine hK.out _ _ ?_ (fun hHeld => ?_)
    · exact HS7.out _ l20
    clear hK K
    try simp only [Act.put, List.setIfInBounds_toArray, List.set_cons_zero, List.set_cons_succ]
    refine wpAnyN_takeD (some 78) (by rfl) (i := 21) (oi := _) (v := ?_) rfl (by kernel_rfl) (by kernel_rfl) (by kernel_rfl) (by kernel_rfl) (fun _ _ _ h => h) (Or.inl ⟨by rfl, ?_⟩) (by assumption) ?_
    rotate_left
    · intro w hSw; (try dsimp only at hSw); go_simp
      first | done | with_reducible rfl
    try simp only [Act.put, List.setIfInBounds_toArray, List.set_cons_zero, List.set_cons_succ]
    refine wpAnyN_takeD (some 79) (by rfl) (i := 22) (oi := _) (v := ?_) rfl (by kernel_rfl) (by kernel_rfl) (by kernel_rfl) (by kernel_rfl) (fun _ _ _ h => h) (Or.inl ⟨by rfl, ?_⟩) (by assumption) ?_
    rotate_left
    · intro w hSw; (try dsimp only at hSw); go_simp
      first | done | with_reducible rfl
    try simp only [Act.put, List.setIfInBounds_toArray, List.set_cons_zero, List.set_cons_succ]
    refine wpAnyN_takeD (some 80) (by rfl) (i := 23) (oi := _) (v := ?_) rfl (by kernel_rfl) (by kernel_rfl) (by kernel_rfl) (by kernel_rfl) (fun _ _ _ h => h) (Or.inl ⟨by rfl, ?_⟩) (by assumption) ?_
    rotate_left
    · intro w hSw; (try dsimp only at hSw); go_simp
      first | done | with_reducible rfl
    try simp only [Act.put, List.setIfInBounds_toArray, List.set_cons_zero, List.set_cons_succ]
    refine wpAnyN_takeD (some 81) (by rfl) (i := 24) (oi := _) (v := ?_) rfl (by kernel_rfl) (by kernel_rfl) (by kernel_rfl) (by kernel_rfl) (fun _ _ _ h => h) (Or.inl ⟨by rfl, ?_⟩) (by assumption) ?_
    rotate_left
    · intro w hSw; (try dsimp only at hSw); go_simp
      first | done | with_reducible rfl
    try simp only [Act.put, List.setIfInBounds_toArray, List.set_cons_zero, List.set_cons_succ]
    refine wpAnyN_takeD (some 82) (by rfl) (i := 25) (oi := _) (v := ?_) rfl (by kernel_rfl) (by kernel_rfl) (by kernel_rfl) (by kernel_rfl) (fun _ _ _ h => h) (Or.inl ⟨by rfl, ?_⟩) (by assumption) ?_
    rotate_left
    · intro w hSw; (try dsimp only at hSw); go_simp
      first | done | with_reducible rfl
    try simp only [Act.put, List.setIfInBounds_toArray, List.set_cons_zero, List.set_cons_succ]
    refine wpAnyN_takeD (some 83) (by rfl) (i := 26) (oi := _) (v := ?_) rfl (by kernel_rfl) (by kernel_rfl) (by kernel_rfl) (by kernel_rfl) (fun _ _ _ h => h) (Or.inl ⟨by rfl, ?_⟩) (by assumption) ?_
    rotate_left
    · intro w hSw; (try dsimp only at hSw); go_simp
      first | done | with_reducible rfl
    try simp only [Act.put, List.setIfInBounds_toArray, List.set_cons_zero, List.set_cons_succ]
    refine wpAnyN_ready (rs := [27]) (by kernel_rfl) (by simp) ?_
    refine AllReadyN.held rfl (by rfl) (fun K hK => ?_) AllReadyN.nil
    go_simp
    refine (lawof_calls _ 3 (by omega) (by omega) 3 div_3).mono ?_
    rintro e w127 ⟨v127, rfl, o127, b127⟩
    obtain ⟨s127, P127, q127, e127, P127', q127', e127', rfl, o127⟩ := o127.open_; have O127 := hide o127; clear o127
    have l27 : Later wr w127 := Later.trans l20 b127
    refine hK.out _ _ ?_ (fun hHeld => ?_)
    · exact HS7.out _ l27
    clear hK K
    try simp only [Act.put, List.setIfInBounds_toArray, List.set_cons_zero, List.set_cons_succ]
    refine wpAnyN_ready (rs := [28]) (by kernel_rfl) (by simp) ?_
    refine AllReadyN.held rfl (by rfl) (fun K hK => ?_) AllReadyN.nil
    go_simp
    refine (qsame_calls _ _ _ 3 3 0 0 1 1 (OwnR.weaken (OwnR.later HD.out l27) (Nat.zero_le _)) (OwnR.weaken (OwnR.later O127.out (Later.refl _)) (Nat.zero_le _)) sized_3 sized_3 (by omega) (by omega) true (by simp)).mono ?_
    rintro e w128 ⟨rfl, b128⟩
    have l28 : Later wr w128 := Later.trans l27 b128
    refine hK.out _ _ ?_ (fun hHeld => ?_)
    · exact HS7.out _ l28
    clear hK K
    try simp only [Act.put, List.setIfInBounds_toArray, List.set_cons_zero, List.set_cons_succ]
    refine wpAnyN_takeD (some 86) (by rfl) (i := 29) (oi := _) (v := ?_) rfl (by kernel_rfl) (by kernel_rfl) (by kernel_rfl) (by kernel_rfl) (fun _ _ _ h => h) (Or.inl ⟨by rfl, ?_⟩) (by assumption) ?_
    rotate_left
    · intro w hSw; (try dsimp only at hSw); go_simp
      first | done | with_reducible rfl
    try simp only [Act.put, List.setIfInBounds_toArray, List.set_cons_zero, List.set_cons_succ]
    refine wpAnyN_takeD (some 87) (by rfl) (i := 30) (oi := _) (v := ?_) rfl (by kernel_rfl) (by kernel_rfl) (by kernel_rfl) (by kernel_rfl) (fun _ _ _ h => h) (Or.inl ⟨by rfl, ?_⟩) (by assumption) ?_
    rotate_left
    · intro w hSw; (try dsimp only at hSw); go_simp
      first | done | with_reducible rfl
    try simp only [Act.put, List.setIfInBounds_toArray, List.set_cons_zero, List.set_cons_succ]
    refine wpAnyN_takeD (some 88) (by rfl) (i := 31) (oi := _) (v := ?_) rfl (by kernel_rfl) (by kernel_rfl) (by kernel_rfl) (by kernel_rfl) (fun _ _ _ h => h) (Or.inl ⟨by rfl, ?_⟩) (by assumption) ?_
    rotate_left
    · intro w hSw; (try dsimp only at hSw); go_simp
      first | done | with_reducible rfl
    try simp only [Act.put, List.setIfInBounds_toArray, List.set_cons_zero, List.set_cons_succ]
    refine wpAnyN_takeD (some 89) (by rfl) (i := 32) (oi := _) (v := ?_) rfl (by kernel_rfl) (by kernel_rfl) (by kernel_rfl) (by kernel_rfl) (fun _ _ _ h => h) (Or.inl ⟨by rfl, ?_⟩) (by assumption) ?_
    rotate_left
    · intro w hSw; (try dsimp only at hSw); go_simp
      first | done | with_reducible rfl
    try simp only [Act.put, List.setIfInBounds_toArray, List.set_cons_zero, List.set_cons_succ]
    refine wpAnyN_takeD (some 90) (by rfl) (i := 33) (oi := _) (v := ?_) rfl (by kernel_rfl) (by kernel_rfl) (by kernel_rfl) (by kernel_rfl) (fun _ _ _ h => h) (Or.inl ⟨by rfl, ?_⟩) (by assumption) ?_
    rotate_left
    · intro w hSw; (try dsimp only at hSw); go_simp
      first | done | with_reducible rfl
    try simp only [Act.put, List.setIfInBounds_toArray, List.set_cons_zero, List.set_cons_succ]
    refine wpAnyN_takeD (some 91) (by rfl) (i := 34) (oi := _) (v := ?_) rfl (by kernel_rfl) (by kernel_rfl) (by kernel_rfl) (by kernel_rfl) (fun _ _ _ h => h) (Or.inl ⟨by rfl, ?_⟩) (by assumption) ?_
    rotate_left
    · intro w hSw; (try dsimp only at hSw); go_simp
      first | done | with_reducible rfl
    try simp only [Act.put, List.setIfInBounds_toArray, List.set_cons_zero, List.set_cons_succ]
    refine wpAnyN_ready (rs := [35]) (by kernel_rfl) (by simp) ?_
    refine AllReadyN.held rfl (by rfl) (fun K hK => ?_) AllReadyN.nil
    go_simp
    refine (lawof_calls _ 0 (by omega) (by omega) 0 div_0).mono ?_
    rintro e w135 ⟨v135, rfl, o135, b135⟩
    obtain ⟨s135, P135, q135, e135, P135', q135', e135', rfl, o135⟩ := o135.open_; have O135 := hide o135; clear o135
    have l35 : Later wr w135 := Later.trans l28 b135
    refine hK.out _ _ ?_ (fun hHeld => ?_)
    · exact HS7.out _ l35
    clear hK K
    try simp only [Act.put, List.setIfInBounds_toArray, List.set_cons_zero, List.set_cons_succ]
    refine wpAnyN_ready (rs := [36]) (by kernel_rfl) (by simp) ?_
    refine AllReadyN.held rfl (by rfl) (fun K hK => ?_) AllReadyN.nil
    go_simp
    refine (lawof_calls _ (-1) (by omega) (by omega) (-1) div_m1).mono ?_
    rintro e w136 ⟨v136, rfl, o136, b136⟩
    obtain ⟨s136, P136, q136, e136, P136', q136', e136', rfl, o136⟩ := o136.open_; have O136 := hide o136; clear o136
    have l36 : Later wr w136 := Later.trans l35 b136
    refine hK.out _ _ ?_ (fun hHeld => ?_)
    · exact HS7.out _ l36
    clear hK K
    try simp only [Act.put, List.setIfInBounds_toArray, List.set_cons_zero, List.set_cons_succ]
    refine wpAnyN_ready (rs := [37]) (by kernel_rfl) (by simp) ?_
    refine AllReadyN.held rfl (by rfl) (fun K hK => ?_) AllReadyN.nil
    go_simp
    refine hK.out _ _ ?_ (fun hHeld => ?_)
    · exact HS7.out _ (l36.alloc _)
    clear hK K
    try simp only [Act.put, List.setIfInBounds_toArray, List.set_cons_zero, List.set_cons_succ]
    refine wpAnyN_ready (rs := [38]) (by kernel_rfl) (by simp) ?_
    refine AllReadyN.held rfl (by rfl) (fun K hK => ?_) AllReadyN.nil
    go_simp
    refine (lsame_calls _ _ _ [0, -1] [0, -1] 1 1 (HSS.out.later EOwn.later (l36.alloc _)) (rats_two (Row.new w136 _ _) (OwnR.weaken (OwnR.later O135.out (((Later.refl _).trans b136).alloc _)) (Nat.zero_le _)) (OwnR.weaken (OwnR.later O136.out ((Later.refl _).alloc _)) (Nat.zero_le _))) (sized_list1 (by simp)) (sized_list1 (by simp)) (by omega) (by omega) (by simp) true (by simp)).mono ?_
    rintro e w138 ⟨rfl, b138⟩
    have l38 : Later wr w138 := Later.trans (l36.alloc _) b138
    refine hK.out _ _ ?_ (fun hHeld => ?_)
    · exact HS7.out _ l38
    clear hK K
    try simp only [Act.put, List.setIfInBounds_toArray, List.set_cons_zero, List.set_cons_succ]
    refine wpAnyN_takeD (some 96) (by rfl) (i := 39) (oi := _) (v := ?_) rfl (by kernel_rfl) (by kernel_rfl) (by kernel_rfl) (by kernel_rfl) (fun _ _ _ h => h) (Or.inl ⟨by rfl, ?_⟩) (by assumption) ?_
    rotate_left
    · intro w hSw; (try dsimp only at hSw); go_simp
      first | done | with_reducible rfl
    try simp only [Act.put, List.setIfInBounds_toArray, List.set_cons_zero, List.set_cons_succ]
    refine wpAnyN_takeD (some 97) (by rfl) (i := 40) (oi := _) (v := ?_) rfl (by kernel_rfl) (by kernel_rfl) (by kernel_rfl) (by kernel_rfl) (fun _ _ _ h => h) (Or.inl ⟨by rfl, ?_⟩) (by assumption) ?_
    rotate_left
    · intro w hSw; (try dsimp only at hSw); go_simp
      first | done | with_reducible rfl
    try simp only [Act.put, List.setIfInBounds_toArray, List.set_cons_zero, List.set_cons_succ]
    refine wpAnyN_takeD (some 98) (by rfl) (i := 41) (oi := _) (v := ?_) rfl (by kernel_rfl) (by kernel_rfl) (by kernel_rfl) (by kernel_rfl) (fun _ _ _ h => h) (Or.inl ⟨by rfl, ?_⟩) (by assumption) ?_
    rotate_left
    · intro w hSw; (try dsimp only at hSw); go_simp
      first | done | with_reducible rfl
    try simp only [Act.put, List.setIfInBounds_toArray, List.set_cons_zero, List.set_cons_succ]
    refine wpAnyN_ready (rs := [42]) (by kernel_rfl) (by simp) ?_
    refine AllReadyN.held rfl (by rfl) (fun K hK => ?_) AllReadyN.nil
    go_simp
    refine (rect_calls _ _ tA EOwn EOwn.later (HT.out _ l38) 2 (by simp [tA]) (by simp [tA]) true (by decide)).mono ?_
    rintro e w142 ⟨rfl, b142⟩
    have l42 : Later wr w142 := Later.trans l38 b142
    refine hK.out _ _ ?_ (fun hHeld => ?_)
    · exact HS7.out _ l42
    clear hK K
    try simp only [Act.put, List.setIfInBounds_toArray, List.set_cons_zero, List.set_cons_succ]
    refine wpAnyN_takeD (some 100) (by rfl) (i := 43) (oi := _) (v := ?_) rfl (by kernel_rfl) (by kernel_rfl) (by kernel_rfl) (by kernel_rfl) (fun _ _ _ h => h) (Or.inl ⟨by rfl, ?_⟩) (by assumption) ?_
    rotate_left
    · intro w hSw; (try dsimp only at hSw); go_simp
      first | done | with_reducible rfl
    try simp only [Act.put, List.setIfInBounds_toArray, List.set_cons_zero, List.set_cons_succ]
    refine wpAnyN_takeD (some 101) (by rfl) (i := 44) (oi := _) (v := ?_) rfl (by kernel_rfl) (by kernel_rfl) (by kernel_rfl) (by kernel_rfl) (fun _ _ _ h => h) (Or.inl ⟨by rfl, ?_⟩) (by assumption) ?_
    rotate_left
    · intro w hSw; (try dsimp only at hSw); go_simp
      first | done | with_reducible rfl
    try simp only [Act.put, List.setIfInBounds_toArray, List.set_cons_zero, List.set_cons_succ]
    refine wpAnyN_takeD (some 102) (by rfl) (i := 45) (oi := _) (v := ?_) rfl (by kernel_rfl) (by kernel_rfl) (by kernel_rfl) (by kernel_rfl) (fun _ _ _ h => h) (Or.inl ⟨by rfl, ?_⟩) (by assumption) ?_
    rotate_left
    · intro w hSw; (try dsimp only at hSw); go_simp
      first | done | with_reducible rfl
    try simp only [Act.put, List.setIfInBounds_toArray, List.set_cons_zero, List.set_cons_succ]
    refine wpAnyN_ready (rs := [46]) (by kernel_rfl) (by simp) ?_
    refine AllReadyN.held rfl (by rfl) (fun K hK => ?_) AllReadyN.nil
    go_simp
    refine (rect_calls _ _ tA EOwn EOwn.later (HT.out _ l42) 1 (by simp [tA]) (by simp [tA]) false (by decide)).mono ?_
    rintro e w146 ⟨rfl, b146⟩
    have l46 : Later wr w146 := Later.trans l42 b146
    refine hK.out _ _ ?_ (fun hHeld => ?_)
    · exact HS7.out _ l46
    clear hK K
    try simp only [Act.put, List.setIfInBounds_toArray, List.set_cons_zero, List.set_cons_succ]
    refine wpAnyN_takeD (some 104) (by rfl) (i := 47) (oi := _) (v := ?_) rfl (by kernel_rfl) (by kernel_rfl) (by kernel_rfl) (by kernel_rfl) (fun _ _ _ h => h) (Or.inl ⟨by rfl, ?_⟩) (by assumption) ?_
    rotate_left
    · intro w hSw; (try dsimp only at hSw); go_simp
      first | done | with_reducible rfl
    try simp only [Act.put, List.setIfInBounds_toArray, List.set_cons_zero, List.set_cons_succ]
    refine wpAnyN_takeD (some 105) (by rfl) (i := 48) (oi := _) (v := ?_) rfl (by kernel_rfl) (by kernel_rfl) (by kernel_rfl) (by kernel_rfl) (fun _ _ _ h => h) (Or.inl ⟨by rfl, ?_⟩) (by assumption) ?_
    rotate_left
    · intro w hSw; (try dsimp only at hSw); go_simp
      first | done | with_reducible rfl
    try simp only [Act.put, List.setIfInBounds_toArray, List.set_cons_zero, List.set_cons_succ]
    refine wpAnyN_takeD (some 0) (by rfl) (i := 49) (oi := _) (v := ?_) rfl (by kernel_rfl) (by kernel_rfl) (by kernel_rfl) (by kernel_rfl) (fun _ _ _ h => h) (Or.inl ⟨by rfl, ?_⟩) (by assumption) ?_
    rotate_left
    · intro w hSw; (try dsimp only at hSw); go_simp
      first | done | with_reducible rfl
    try simp only [Act.put, List.setIfInBounds_toArray, List.set_cons_zero, List.set_cons_succ]
    refine wpAnyN_done (by kernel_rfl) ?_ _
    have LE := hide (HLW.out.trans l46)
    clear hHeld
    go_wp2_with fail
    go_ret
    exact ⟨rfl, LE.out⟩
  refine AllReadyN.held rfl (by rfl) (fun K hK => ?_) AllReadyN.nil
  go_simp
  refine hK.out _ _ ?_ (fun hHeld => ?_)
  · exact HS5.out _ ((Later.refl wq).alloc _).drew
  clear hK K
  try simp only [Act.put, List.setIfInBounds_toArray, List.set_cons_zero, List.set_cons_succ]
  refine wpAnyN_ready (rs := [6]) (by kernel_rfl) (by simp) ?_
  refine AllReadyN.held rfl (by rfl) (fun K hK => ?_) AllReadyN.nil
  go_simp
  refine (dot_calls _ _ _ [2, 1] [1, 1] 1 1 (HRA.out _ ((Later.refl wq).alloc _).drew) (HRB.out _ ((Later.refl wq).alloc _).drew) rfl (by simp)).mono ?_
  rintro e w11 ⟨v11, ok11, rfl, ⟨o11, rfl⟩, b11⟩
  rw [awk_dot] at o11
  obtain ⟨s11, P11, q11, e11, P11', q11', e11', rfl, o11⟩ := o11.open_; have O11 := hide o11; clear o11
  have k6 : Later wq w11 := Later.trans ((Later.refl wq).alloc _).drew b11
  have hbr := (Row.new wq 32 [.bool false, .slice none 0 0, .bool false, .slice none 0 0]).drew.later b11
  obtain ⟨d1, d2, d3, d4, d5, d6, d7, d8⟩ := row_cells4 hbr
  have HBR := hide hbr
  clear hbr
  refine hK.out _ _ ?_ (fun hHeld => ?_)
  · exact HS5.out _ k6
  clear hK K
  try simp only [Act.put, List.setIfInBounds_toArray, List.set_cons_zero, List.set_cons_succ]
  refine wpAnyN_take (i := 7) (oi := _) (v := ?_) rfl (by kernel_rfl) (by kernel_rfl) (by kernel_rfl) (by kernel_rfl) (fun _ _ _ h => h) (Or.inl ⟨by rfl, ?_⟩) (by assumption) ?_
  rotate_left
  · intro w hSw; (try dsimp only at hSw); go_simp
    first | done | with_reducible rfl
  try simp only [Act.put, List.setIfInBounds_toArray, List.set_cons_zero, List.set_cons_succ]
  refine wpAnyN_take (i := 8) (oi := _) (v := ?_) rfl (by kernel_rfl) (by kernel_rfl) (by kernel_rfl) (by kernel_rfl) (fun _ _ _ h => h) (Or.inl ⟨by rfl, ?_⟩) (by assumption) ?_
  rotate_left
  · intro w hSw; (try dsimp only at hSw); go_simp
    first | done | with_reducible rfl
  try simp only [Act.put, List.setIfInBounds_toArray, List.set_cons_zero, List.set_cons_succ]
  refine wpAnyN_take (i := 9) (oi := _) (v := ?_) rfl (by kernel_rfl) (by kernel_rfl) (by kernel_rfl) (by kernel_rfl) (fun _ _ _ h => h) (Or.inl ⟨by rfl, ?_⟩) (by assumption) ?_
  rotate_left
  · intro w hSw; (try dsimp only at hSw); go_simp
    first | done | with_reducible rfl
  try simp only [Act.put, List.setIfInBounds_toArray, List.set_cons_zero, List.set_cons_succ]
  refine wpAnyN_ready (rs := [11]) (by kernel_rfl) (by simp) ?_
  refine AllReadyN.held rfl (by rfl) (fun K hK => ?_) AllReadyN.nil
  go_simp
  refine hK.out _ _ ?_ (fun hHeld => ?_)
  · exact HS5.out _ (Later.four k6 (Nat.le_refl _) _ _ _ _)
  clear hK K
  try simp only [Act.put, List.setIfInBounds_toArray, List.set_cons_zero, List.set_cons_succ]
  refine wpAnyN_take (i := 12) (oi := _) (v := ?_) rfl (by kernel_rfl) (by kernel_rfl) (by kernel_rfl) (by kernel_rfl) (fun _ _ _ h => h) (Or.inl ⟨by rfl, ?_⟩) (by assumption) ?_
  rotate_left
  · intro w hSw; (try dsimp only at hSw); go_simp
    first | done | with_reducible rfl
  try simp only [Act.put, List.setIfInBounds_toArray, List.set_cons_zero, List.set_cons_succ]
  refine wpAnyN_done (by kernel_rfl) ?_ _
  have hsq := Later.size_le k6
  have oo := Only.four wq.heap.size w11 (.bool s11) (.slice P11 q11 e11) (.bool false) (.slice P11' q11' e11')
  have hd12 := ((On.ownR O11.out).mono (P' := fun b => b ≠ wq.heap.size) (fun b hb hlt => by
    have hb2 : wq.heap.size + 1 ≤ b := by simpa using hb
    omega)).only oo (by simp)
  have hr12 := HBR.out.four (.bool s11) (.slice P11 q11 e11) (.bool false) (.slice P11' q11' e11')
  have hl12 := k6.only oo (by omega)
  obtain ⟨w12, hw12⟩ : ∃ w12, w12 = ((((w11.setCell ⟨wq.heap.size, 0, none⟩ (.bool s11)).setCell ⟨wq.heap.size, 1, none⟩ (.slice P11 q11 e11)).setCell ⟨wq.heap.size, 2, none⟩ (.bool false)).setCell ⟨wq.heap.size, 3, none⟩ (.slice P11' q11' e11')) := ⟨_, rfl⟩
  rw [← hw12] at hd12 hr12 hl12 ⊢
  clear oo hsq d1 d2 d3 d4 d5 d6 d7 d8 HBR
  obtain ⟨g2, hg2⟩ : ∃ g2, g2 = wq.heap.size := ⟨_, rfl⟩
  rw [← hg2] at hr12 ⊢
  have HD12 := hide hd12.now
  have HR12 := hide hr12
  have HL12 := hide hl12
  clear hw12 hg2 hd12 hr12 hl12 hHeld k6 b11 O11
  go_upto_region 6 with fail
  rename_i K6 hK6
  have HRA6 : Hid (∀ W, Later w12.drew W → Rats (ERaw 1) W (.slice (some ⟨gA, 0, none⟩) 2 2) [2, 1]) := hide fun W hW => HRA.out W (HL12.out.drew.trans hW)
  have HRB6 : Hid (∀ W, Later w12.drew W → Rats (ERaw 1) W (.slice (some ⟨gB, 0, none⟩) 2 2) [1, 1]) := hide fun W hW => HRB.out W (HL12.out.drew.trans hW)
  have HS6 : Hid (∀ w', Later w12.drew w' → w'.cell? ⟨g3, 0, none⟩ = some (.slice (some ⟨gA, 0, none⟩) 2 2) ∧ w'.cell? ⟨g3, 1, none⟩ = some (.slice (some ⟨gB, 0, none⟩) 2 2)) := hide fun W hW => HS5.out W (HL12.out.drew.trans hW)
  go_region_held3 (fun w' => w'.cell? ⟨g3, 0, none⟩ = some (.slice (some ⟨gA, 0, none⟩) 2 2) ∧ w'.cell? ⟨g3, 1, none⟩ = some (.slice (some ⟨gB, 0, none⟩) 2 2))
    (first | exact HS6.out _ (Later.refl _) | exact HS6.out _ b13 | exact HS6.out _ (b13.trans b14))
    (first
      | ((with_reducible refine (lawof_calls _ (-2) (by omega) (by omega) (-2) div_m2).mono ?_); rintro e w13 ⟨v13, rfl, o13, b13⟩; obtain ⟨s13, P13, q13, e13, P13', q13', e13', rfl, o13⟩ := o13.open_; have O13 := hide o13; clear o13)
      | ((with_reducible refine (addtimes_calls _ _ _ _ [2, 1] [1, 1] (-2) 1 1 1 (HRA6.out _ b13) (HRB6.out _ b13) (OwnR.raw O13.out sized_m2) rfl (by simp) (by omega)).mono ?_); rintro e w14 ⟨v14, ok14, rfl, ⟨o14, rfl⟩, b14⟩; rw [awk_axpy] at o14; have O14 := hide o14; clear o14))
  show K6 _ _
  refine hK6 _ _ ?_
  clear hK6
  have HSS0 := hide O14.out.now
  obtain ⟨A14, n14, c14, rfl, -⟩ := HSS0.out.form
  have HL14 : Hid (Later wq w14) := hide (HL12.out.drew.trans (b13.trans b14))
  have HL1214 : Hid (Later w12 w14) := hide ((Later.refl w12).drew.trans (b13.trans b14))
  clear b13 b14 O13 O14
  go_upto_region 7 with fail
  obtain ⟨wr, hwr⟩ : ∃ wr, wr = w14 := ⟨_, rfl⟩
  rw [← hwr] at HL14 HL1214 HSS0 ⊢
  clear hwr
  have HX : Hid (Rats EOwn wr (.slice A8 n8 c8) [1, 1]) := hide (HXQ.out.later EOwn.later HL14.out)
  have HP : Hid (Tab EOwn wr (.slice A9 n9 c9) [[1, 1/2], [0, 1/2]]) := hide (HPQ.out.later EOwn.later HL14.out)
  have HH : Hid (OwnR wr 0 (.agg #[.bool s10, .slice P10 q10 e10, .bool false, .slice P10' q10' e10']) (1/2)) := hide (OwnR.later HHQ.out HL14.out)
  have HD : Hid (OwnR wr 0 (.agg #[.bool s11, .slice P11 q11 e11, .bool false, .slice P11' q11' e11']) 3) := hide (OwnR.later HD12.out HL1214.out)
  have HSS := HSS0
  have HT : Hid (∀ W, Later wr W → Tab EOwn W (.slice (some ⟨g3, 0, none⟩) 2 2) tA) := hide fun W hW => HTQ.out W (HL14.out.trans hW)
  have HLW : Hid (Later w wr) := hide (HLQ.out.trans HL14.out)
  have HS7 : Hid (∀ w', Later wr w' → w'.cell? ⟨g1, 0, none⟩ = some (.bool s10) ∧ w'.cell? ⟨g1, 1, none⟩ = some (.slice P10 q10 e10) ∧ w'.cell? ⟨g1, 2, none⟩ = some (.bool false) ∧ w'.cell? ⟨g1, 3, none⟩ = some (.slice P10' q10' e10') ∧ w'.cell? ⟨g2, 0, none⟩ = some (.bool s11) ∧ w'.cell? ⟨g2, 1, none⟩ = some (.slice P11 q11 e11) ∧ w'.cell? ⟨g2, 2, none⟩ = some (.bool false) ∧ w'.cell? ⟨g2, 3, none⟩ = some (.slice P11' q11' e11')) := hide fun W hW => by
    have hra := (HRH.out.later HL14.out).later hW
    have hrb := (HR12.out.later HL1214.out).later hW
    exact ⟨hra.cell rfl, hra.cell rfl, hra.cell rfl, hra.cell rfl, hrb.cell rfl, hrb.cell rfl, hrb.cell rfl, hrb.cell rfl⟩
  refine wp_region_N (fun w' => w'.cell? ⟨g1, 0, none⟩ = some (.bool s10) ∧ w'.cell? ⟨g1, 1, none⟩ = some (.slice P10 q10 e10) ∧ w'.cell? ⟨g1, 2, none⟩ = some (.bool false) ∧ w'.cell? ⟨g1, 3, none⟩ = some (.slice P10' q10' e10') ∧ w'.cell? ⟨g2, 0, none⟩ = some (.bool s11) ∧ w'.cell? ⟨g2, 1, none⟩ = some (.slice P11 q11 e11) ∧ w'.cell? ⟨g2, 2, none⟩ = some (.bool false) ∧ w'.cell? ⟨g2, 3, none⟩ = some (.slice P11' q11' e11')) [] hmx (HS7.out _ (Later.refl wr).drew) (fun hHeld => ?_)
  refine wpAnyN_takeD (some 57) (by rfl) (i := 0) (oi := _) (v := ?_) rfl (by kernel_rfl) (by kernel_rfl) (by kernel_rfl) (by kernel_rfl) (fun _ _ _ h => h) (Or.inl ⟨by rfl, ?_⟩) (by assumption) ?_
  rotate_left
  · intro w hSw; (try dsimp only at hSw); go_simp
    first | done | with_reducible rfl
  try simp only [Act.put, List.setIfInBounds_toArray, List.set_cons_zero, List.set_cons_succ]
  refine wpAnyN_takeD (some 58) (by rfl) (i := 1) (oi := _) (v := ?_) rfl (by kernel_rfl) (by kernel_rfl) (by kernel_rfl) (by kernel_rfl) (fun _ _ _ h => h) (Or.inl ⟨by rfl, ?_⟩) (by assumption) ?_
  rotate_left
  · intro w hSw; (try dsimp only at hSw); go_simp
    first | done | with_reducible rfl
  try simp only [Act.put, List.setIfInBounds_toArray, List.set_cons_zero, List.set_cons_succ]
  refine wpAnyN_takeD (some 59) (by rfl) (i := 2) (oi := _) (v := ?_) rfl (by kernel_rfl) (by kernel_rfl) (by kernel_rfl) (by kernel_rfl) (fun _ _ _ h => h) (Or.inl ⟨by rfl, ?_⟩) (by assumption) ?_
  rotate_left
  · intro w hSw; (try dsimp only at hSw); go_simp
    first | done | with_reducible rfl
  try simp only [Act.put, List.setIfInBounds_toArray, List.set_cons_zero, List.set_cons_succ]
  refine wpAnyN_ready (rs := [3]) (by kernel_rfl) (by simp) ?_
  refine AllReadyN.held rfl (by rfl) (fun K hK => ?_) AllReadyN.nil
  go_simp
  refine (lawof_calls _ 1 (by omega) (by omega) 1 div_1).mono ?_
  rintro e w103 ⟨v103, rfl, o103, b103⟩
  obtain ⟨s103, P103, q103, e103, P103', q103', e103', rfl, o103⟩ := o103.open_; have O103 := hide o103; clear o103
  have l3 : Later wr w103 := Later.trans (Later.refl wr).drew b103
  refine hK.out _ _ ?_ (fun hHeld => ?_)
  · exact HS7.out _ l3
  clear hK K
  try simp only [Act.put, List.setIfInBounds_toArray, List.set_cons_zero, List.set_cons_succ]
  refine wpAnyN_ready (rs := [4]) (by kernel_rfl) (by simp) ?_
  refine AllReadyN.held rfl (by rfl) (fun K hK => ?_) AllReadyN.nil
  go_simp
  refine (lawof_calls _ 1 (by omega) (by omega) 1 div_1).mono ?_
  rintro e w104 ⟨v104, rfl, o104, b104⟩
  obtain ⟨s104, P104, q104, e104, P104', q104', e104', rfl, o104⟩ := o104.open_; have O104 := hide o104; clear o104
  have l4 : Later wr w104 := Later.trans l3 b104
  refine hK.out _ _ ?_ (fun hHeld => ?_)
  · exact HS7.out _ l4
  clear hK K
  try simp only [Act.put, List.setIfInBounds_toArray, List.set_cons_zero, List.set_cons_succ]
  refine wpAnyN_ready (rs := [5]) (by kernel_rfl) (by simp) ?_
  refine AllReadyN.held rfl (by rfl) (fun K hK => ?_) AllReadyN.nil
  go_simp
  refine hK.out _ _ ?_ (fun hHeld => ?_)
  · exact HS7.out _ (l4.alloc _)
  clear hK K
  try simp only [Act.put, List.setIfInBounds_toArray, List.set_cons_zero, List.set_cons_succ]
  refine wpAnyN_ready (rs := [6]) (by kernel_rfl) (by simp) ?_
  refine AllReadyN.held rfl (by rfl) (fun K hK => ?_) AllReadyN.nil
  go_simp
  refine (lsame_calls _ _ _ [1, 1] [1, 1] 1 1 (HX.out.later EOwn.later (l4.alloc _)) (rats_two (Row.new w104 _ _) (OwnR.weaken (OwnR.later O103.out (((Later.refl _).trans b104).alloc _)) (Nat.zero_le _)) (OwnR.weaken (OwnR.later O104.out ((Later.refl _).alloc _)) (Nat.zero_le _))) (sized_list1 (by simp)) (sized_list1 (by simp)) (by omega) (by omega) (by simp) true (by simp)).mono ?_
  rintro e w106 ⟨rfl, b106⟩
  have l6 : Later wr w106 := Later.trans (l4.alloc _) b106
  refine hK.out _ _ ?_ (fun hHeld => ?_)
  · exact HS7.out _ l6
  clear hK K
  try simp only [Act.put, List.setIfInBounds_toArray, List.set_cons_zero, List.set_cons_succ]
  refine wpAnyN_takeD (some 64) (by rfl) (i := 7) (oi := _) (v := ?_) rfl (by kernel_rfl) (by kernel_rfl) (by kernel_rfl) (by kernel_rfl) (fun _ _ _ h => h) (Or.inl ⟨by rfl, ?_⟩) (by assumption) ?_
  rotate_left
  · intro w hSw; (try dsimp only at hSw); go_simp
    first | done | with_reducible rfl
  try simp only [Act.put, List.setIfInBounds_toArray, List.set_cons_zero, List.set_cons_succ]
  refine wpAnyN_takeD (some 65) (by rfl) (i := 8) (oi := _) (v := ?_) rfl (by kernel_rfl) (by kernel_rfl) (by kernel_rfl) (by kernel_rfl) (fun _ _ _ h => h) (Or.inl ⟨by rfl, ?_⟩) (by assumption) ?_
  rotate_left
  · intro w hSw; (try dsimp only at hSw); go_simp
    first | done | with_reducible rfl
  try simp only [Act.put, List.setIfInBounds_toArray, List.set_cons_zero, List.set_cons_succ]
  refine wpAnyN_takeD (some 66) (by rfl) (i := 9) (oi := _) (v := ?_) rfl (by kernel_rfl) (by kernel_rfl) (by kernel_rfl) (by kernel_rfl) (fun _ _ _ h => h) (Or.inl ⟨by rfl, ?_⟩) (by assumption) ?_
  rotate_left
  · intro w hSw; (try dsimp only at hSw); go_simp
    first | done | with_reducible rfl
  try simp only [Act.put, List.setIfInBounds_toArray, List.set_cons_zero, List.set_cons_succ]
  refine wpAnyN_takeD (some 67) (by rfl) (i := 10) (oi := _) (v := ?_) rfl (by kernel_rfl) (by kernel_rfl) (by kernel_rfl) (by kernel_rfl) (fun _ _ _ h => h) (Or.inl ⟨by rfl, ?_⟩) (by assumption) ?_
  rotate_left
  · intro w hSw; (try dsimp only at hSw); go_simp
    first | done | with_reducible rfl
  try simp only [Act.put, List.setIfInBounds_toArray, List.set_cons_zero, List.set_cons_succ]
  refine wpAnyN_takeD (some 68) (by rfl) (i := 11) (oi := _) (v := ?_) rfl (by kernel_rfl) (by kernel_rfl) (by kernel_rfl) (by kernel_rfl) (fun _ _ _ h => h) (Or.inl ⟨by rfl, ?_⟩) (by assumption) ?_
  rotate_left
  · intro w hSw; (try dsimp only at hSw); go_simp
    first | done | with_reducible rfl
  try simp only [Act.put, List.setIfInBounds_toArray, List.set_cons_zero, List.set_cons_succ]
  refine wpAnyN_takeD (some 69) (by rfl) (i := 12) (oi := _) (v := ?_) rfl (by kernel_rfl) (by kernel_rfl) (by kernel_rfl) (by kernel_rfl) (fun _ _ _ h => h) (Or.inl ⟨by rfl, ?_⟩) (by assumption) ?_
  rotate_left
  · intro w hSw; (try dsimp only at hSw); go_simp
    first | done | with_reducible rfl
  try simp only [Act.put, List.setIfInBounds_toArray, List.set_cons_zero, List.set_cons_succ]
  refine wpAnyN_takeD (some 71) (by rfl) (i := 14) (oi := _) (v := ?_) rfl (by kernel_rfl) (by kernel_rfl) (by kernel_rfl) (by kernel_rfl) (fun _ _ _ h => h) (Or.inl ⟨by rfl, ?_⟩) (by assumption) ?_
  rotate_left
  · intro w hSw; (try dsimp only at hSw); go_simp
    first | done | with_reducible rfl
  try simp only [Act.put, List.setIfInBounds_toArray, List.set_cons_zero, List.set_cons_succ]
  refine wpAnyN_takeD (some 74) (by rfl) (i := 17) (oi := _) (v := ?_) rfl (by kernel_rfl) (by kernel_rfl) (by kernel_rfl) (by kernel_rfl) (fun _ _ _ h => h) (Or.inl ⟨by rfl, ?_⟩) (by assumption) ?_
  rotate_left
  · intro w hSw; (try dsimp only at hSw); go_simp
    first | done | with_reducible rfl
  try simp only [Act.put, List.setIfInBounds_toArray, List.set_cons_zero, List.set_cons_succ]
  refine wpAnyN_ready (rs := [13]) (by kernel_rfl) (by simp) ?_
  refine AllReadyN.held rfl (by rfl) (fun K hK => ?_) AllReadyN.nil
  go_simp
  refine (lawof_calls _ 1 (by omega) (by omega) 1 div_1).mono ?_
  rintro e w113 ⟨v113, rfl, o113, b113⟩
  obtain ⟨s113, P113, q113, e113, P113', q113', e113', rfl, o113⟩ := o113.open_; have O113 := hide o113; clear o113
  have l13 : Later wr w113 := Later.trans l6 b113
  refine hK.out _ _ ?_ (fun hHeld => ?_)
  · exact HS7.out _ l13
  clear hK K
  try simp only [Act.put, List.setIfInBounds_toArray, List.set_cons_zero, List.set_cons_succ]
  refine wpAnyN_ready (rs := [15, 16]) (by kernel_rfl) (by simp) ?_
  refine AllReadyN.held rfl (by rfl) (fun K hK => ?_) ?_
  · go_simp
    refine hK.out _ _ ?_ (fun hHeld => ?_)
    · exact HS7.out _ (l13.alloc _)
    clear hK K
    try simp only [Act.put, List.setIfInBounds_toArray, List.set_cons_zero, List.set_cons_succ]
    refine wpAnyN_ready (rs := [16]) (by kernel_rfl) (by simp) ?_
    refine AllReadyN.held rfl (by rfl) (fun K hK => ?_) AllReadyN.nil
    go_simp
    refine (lawof_calls _ 0 (by omega) (by omega) 0 div_0).mono ?_
    rintro e w116 ⟨v116, rfl, o116, b116⟩
    obtain ⟨s116, P116, q116, e116, P116', q116', e116', rfl, o116⟩ := o116.open_; have O116 := hide o116; clear o116
    have l16 : Later wr w116 := Later.trans (l13.alloc _) b116
    refine hK.out _ _ ?_ (fun hHeld => ?_)
    · exact HS7.out _ l16
    clear hK K
    try simp only [Act.put, List.setIfInBounds_toArray, List.set_cons_zero, List.set_cons_succ]
    refine wpAnyN_ready (rs := [18]) (by kernel_rfl) (by simp) ?_
    refine AllReadyN.held rfl (by rfl) (fun K hK => ?_) AllReadyN.nil
    go_simp
    refine hK.out _ _ ?_ (fun hHeld => ?_)
    · exact HS7.out _ (l16.alloc _)
    clear hK K
    try simp only [Act.put, List.setIfInBounds_toArray, List.set_cons_zero, List.set_cons_succ]
    refine wpAnyN_ready (rs := [19]) (by kernel_rfl) (by simp) ?_
    refine AllReadyN.held rfl (by rfl) (fun K hK => ?_) AllReadyN.nil
    go_simp
    refine hK.out _ _ ?_ (fun hHeld => ?_)
    · exact HS7.out _ ((l16.alloc _).alloc _)
    clear hK K
    try simp only [Act.put, List.setIfInBounds_toArray, List.set_cons_zero, List.set_cons_succ]
    refine wpAnyN_ready (rs := [20]) (by kernel_rfl) (by simp) ?_
    refine AllReadyN.held rfl (by rfl) (fun K hK => ?_) AllReadyN.nil
    go_simp
    refine (tsame_calls _ _ _ [[1, 1/2], [0, 1/2]] [[1, 1/2], [0, 1/2]] 1 1 (HP.out.later EOwn.later ((l16.alloc _).alloc _)) (tab_two (row_new1 w116 _ _ _) (rats_two ((((Row.new w113 _ _).later b116).alloc _).alloc _) (OwnR.weaken (OwnR.later O113.out (((((Later.refl _).alloc _).trans b116).alloc _).alloc _)) (Nat.zero_le _)) (OwnR.weaken (OwnR.later HH.out ((l16.alloc _).alloc _)) (Nat.zero_le _))) (rats_two ((Row.new w116 _ _).alloc _) (OwnR.weaken (OwnR.later O116.out (((Later.refl _).alloc _).alloc _)) (Nat.zero_le _)) (OwnR.weaken (OwnR.later HH.out ((l16.alloc _).alloc _)) (Nat.zero_le _)))) HSP.out HSP.out (by omega) (by omega) (by simp) (by simp) true (by simp)).mono ?_
    rintro e w120 ⟨rfl, b120⟩
    have l20 : Later wr w120 := Later.trans ((l16.alloc _).alloc _) b120
    refine hK.out _ _ ?_ (fun hHeld => ?_)
    · exact HS7.out _ l20
    clear hK K
    try simp only [Act.put, List.setIfInBounds_toArray, List.set_cons_zero, List.set_cons_succ]
    refine wpAnyN_takeD (some 78) (by rfl) (i := 21) (oi := _) (v := ?_) rfl (by kernel_rfl) (by kernel_rfl) (by kernel_rfl) (by kernel_rfl) (fun _ _ _ h => h) (Or.inl ⟨by rfl, ?_⟩) (by assumption) ?_
    rotate_left
    · intro w hSw; (try dsimp only at hSw); go_simp
      first | done | with_reducible rfl
    try simp only [Act.put, List.setIfInBounds_toArray, List.set_cons_zero, List.set_cons_succ]
    refine wpAnyN_takeD (some 79) (by rfl) (i := 22) (oi := _) (v := ?_) rfl (by kernel_rfl) (by kernel_rfl) (by kernel_rfl) (by kernel_rfl) (fun _ _ _ h => h) (Or.inl ⟨by rfl, ?_⟩) (by assumption) ?_
    rotate_left
    · intro w hSw; (try dsimp only at hSw); go_simp
      first | done | with_reducible rfl
    try simp only [Act.put, List.setIfInBounds_toArray, List.set_cons_zero, List.set_cons_succ]
    refine wpAnyN_takeD (some 80) (by rfl) (i := 23) (oi := _) (v := ?_) rfl (by kernel_rfl) (by kernel_rfl) (by kernel_rfl) (by kernel_rfl) (fun _ _ _ h => h) (Or.inl ⟨by rfl, ?_⟩) (by assumption) ?_
    rotate_left
    · intro w hSw; (try dsimp only at hSw); go_simp
      first | done | with_reducible rfl
    try simp only [Act.put, List.setIfInBounds_toArray, List.set_cons_zero, List.set_cons_succ]
    refine wpAnyN_takeD (some 81) (by rfl) (i := 24) (oi := _) (v := ?_) rfl (by kernel_rfl) (by kernel_rfl) (by kernel_rfl) (by kernel_rfl) (fun _ _ _ h => h) (Or.inl ⟨by rfl, ?_⟩) (by assumption) ?_
    rotate_left
    · intro w hSw; (try dsimp only at hSw); go_simp
      first | done | with_reducible rfl
    try simp only [Act.put, List.setIfInBounds_toArray, List.set_cons_zero, List.set_cons_succ]
    refine wpAnyN_takeD (some 82) (by rfl) (i := 25) (oi := _) (v := ?_) rfl (by kernel_rfl) (by kernel_rfl) (by kernel_rfl) (by kernel_rfl) (fun _ _ _ h => h) (Or.inl ⟨by rfl, ?_⟩) (by assumption) ?_
    rotate_left
    · intro w hSw; (try dsimp only at hSw); go_simp
      first | done | with_reducible rfl
    try simp only [Act.put, List.setIfInBounds_toArray, List.set_cons_zero, List.set_cons_succ]
    refine wpAnyN_takeD (some 83) (by rfl) (i := 26) (oi := _) (v := ?_) rfl (by kernel_rfl) (by kernel_rfl) (by kernel_rfl) (by kernel_rfl) (fun _ _ _ h => h) (Or.inl ⟨by rfl, ?_⟩) (by assumption) ?_
    rotate_left
    · intro w hSw; (try dsimp only at hSw); go_simp
      first | done | with_reducible rfl
    try simp only [Act.put, List.setIfInBounds_toArray, List.set_cons_zero, List.set_cons_succ]
    refine wpAnyN_ready (rs := [27]) (by kernel_rfl) (by simp) ?_
    refine AllReadyN.held rfl (by rfl) (fun K hK => ?_) AllReadyN.nil
    go_simp
    refine (lawof_calls _ 3 (by omega) (by omega) 3 div_3).mono ?_
    rintro e w127 ⟨v127, rfl, o127, b127⟩
    obtain ⟨s127, P127, q127, e127, P127', q127', e127', rfl, o127⟩ := o127.open_; have O127 := hide o127; clear o127
    have l27 : Later wr w127 := Later.trans l20 b127
    refine hK.out _ _ ?_ (fun hHeld => ?_)
    · exact HS7.out _ l27
    clear hK K
    try simp only [Act.put, List.setIfInBounds_toArray, List.set_cons_zero, List.set_cons_succ]
    refine wpAnyN_ready (rs := [28]) (by kernel_rfl) (by simp) ?_
    refine AllReadyN.held rfl (by rfl) (fun K hK => ?_) AllReadyN.nil
    go_simp
    refine (qsame_calls _ _ _ 3 3 0 0 1 1 (OwnR.weaken (OwnR.later HD.out l27) (Nat.zero_le _)) (OwnR.weaken (OwnR.later O127.out (Later.refl _)) (Nat.zero_le _)) sized_3 sized_3 (by omega) (by omega) true (by simp)).mono ?_
    rintro e w128 ⟨rfl, b128⟩
    have l28 : Later wr w128 := Later.trans l27 b128
    refine hK.out _ _ ?_ (fun hHeld => ?_)
    · exact HS7.out _ l28
    clear hK K
    try simp only [Act.put, List.setIfInBounds_toArray, List.set_cons_zero, List.set_cons_succ]
    refine wpAnyN_takeD (some 86) (by rfl) (i := 29) (oi := _) (v := ?_) rfl (by kernel_rfl) (by kernel_rfl) (by kernel_rfl) (by kernel_rfl) (fun _ _ _ h => h) (Or.inl ⟨by rfl, ?_⟩) (by assumption) ?_
    rotate_left
    · intro w hSw; (try dsimp only at hSw); go_simp
      first | done | with_reducible rfl
    try simp only [Act.put, List.setIfInBounds_toArray, List.set_cons_zero, List.set_cons_succ]
    refine wpAnyN_takeD (some 87) (by rfl) (i := 30) (oi := _) (v := ?_) rfl (by kernel_rfl) (by kernel_rfl) (by kernel_rfl) (by kernel_rfl) (fun _ _ _ h => h) (Or.inl ⟨by rfl, ?_⟩) (by assumption) ?_
    rotate_left
    · intro w hSw; (try dsimp only at hSw); go_simp
      first | done | with_reducible rfl
    try simp only [Act.put, List.setIfInBounds_toArray, List.set_cons_zero, List.set_cons_succ]
    refine wpAnyN_takeD (some 88) (by rfl) (i := 31) (oi := _) (v := ?_) rfl (by kernel_rfl) (by kernel_rfl) (by kernel_rfl) (by kernel_rfl) (fun _ _ _ h => h) (Or.inl ⟨by rfl, ?_⟩) (by assumption) ?_
    rotate_left
    · intro w hSw; (try dsimp only at hSw); go_simp
      first | done | with_reducible rfl
    try simp only [Act.put, List.setIfInBounds_toArray, List.set_cons_zero, List.set_cons_succ]
    refine wpAnyN_takeD (some 89) (by rfl) (i := 32) (oi := _) (v := ?_) rfl (by kernel_rfl) (by kernel_rfl) (by kernel_rfl) (by kernel_rfl) (fun _ _ _ h => h) (Or.inl ⟨by rfl, ?_⟩) (by assumption) ?_
    rotate_left
    · intro w hSw; (try dsimp only at hSw); go_simp
      first | done | with_reducible rfl
    try simp only [Act.put, List.setIfInBounds_toArray, List.set_cons_zero, List.set_cons_succ]
    refine wpAnyN_takeD (some 90) (by rfl) (i := 33) (oi := _) (v := ?_) rfl (by kernel_rfl) (by kernel_rfl) (by kernel_rfl) (by kernel_rfl) (fun _ _ _ h => h) (Or.inl ⟨by rfl, ?_⟩) (by assumption) ?_
    rotate_left
    · intro w hSw; (try dsimp only at hSw); go_simp
      first | done | with_reducible rfl
    try simp only [Act.put, List.setIfInBounds_toArray, List.set_cons_zero, List.set_cons_succ]
    refine wpAnyN_takeD (some 91) (by rfl) (i := 34) (oi := _) (v := ?_) rfl (by kernel_rfl) (by kernel_rfl) (by kernel_rfl) (by kernel_rfl) (fun _ _ _ h => h) (Or.inl ⟨by rfl, ?_⟩) (by assumption) ?_
    rotate_left
    · intro w hSw; (try dsimp only at hSw); go_simp
      first | done | with_reducible rfl
    try simp only [Act.put, List.setIfInBounds_toArray, List.set_cons_zero, List.set_cons_succ]
    refine wpAnyN_ready (rs := [35]) (by kernel_rfl) (by simp) ?_
    refine AllReadyN.held rfl (by rfl) (fun K hK => ?_) AllReadyN.nil
    go_simp
    refine (lawof_calls _ 0 (by omega) (by omega) 0 div_0).mono ?_
    rintro e w135 ⟨v135, rfl, o135, b135⟩
    obtain ⟨s135, P135, q135, e135, P135', q135', e135', rfl, o135⟩ := o135.open_; have O135 := hide o135; clear o135
    have l35 : Later wr w135 := Later.trans l28 b135
    refine hK.out _ _ ?_ (fun hHeld => ?_)
    · exact HS7.out _ l35
    clear hK K
    try simp only [Act.put, List.setIfInBounds_toArray, List.set_cons_zero, List.set_cons_succ]
    refine wpAnyN_ready (rs := [36]) (by kernel_rfl) (by simp) ?_
    refine AllReadyN.held rfl (by rfl) (fun K hK => ?_) AllReadyN.nil
    go_simp
    refine (lawof_calls _ (-1) (by omega) (by omega) (-1) div_m1).mono ?_
    rintro e w136 ⟨v136, rfl, o136, b136⟩
    obtain ⟨s136, P136, q136, e136, P136', q136', e136', rfl, o136⟩ := o136.open_; have O136 := hide o136; clear o136
    have l36 : Later wr w136 := Later.trans l35 b136
    refine hK.out _ _ ?_ (fun hHeld => ?_)
    · exact HS7.out _ l36
    clear hK K
    try simp only [Act.put, List.setIfInBounds_toArray, List.set_cons_zero, List.set_cons_succ]
    refine wpAnyN_ready (rs := [37]) (by kernel_rfl) (by simp) ?_
    refine AllReadyN.held rfl (by rfl) (fun K hK => ?_) AllReadyN.nil
    go_simp
    refine hK.out _ _ ?_ (fun hHeld => ?_)
    · exact HS7.out _ (l36.alloc _)
    clear hK K
    try simp only [Act.put, List.setIfInBounds_toArray, List.set_cons_zero, List.set_cons_succ]
    refine wpAnyN_ready (rs := [38]) (by kernel_rfl) (by simp) ?_
    refine AllReadyN.held rfl (by rfl) (fun K hK => ?_) AllReadyN.nil
    go_simp
    refine (lsame_calls _ _ _ [0, -1] [0, -1] 1 1 (HSS.out.later EOwn.later (l36.alloc _)) (rats_two (Row.new w136 _ _) (OwnR.weaken (OwnR.later O135.out (((Later.refl _).trans b136).alloc _)) (Nat.zero_le _)) (OwnR.weaken (OwnR.later O136.out ((Later.refl _).alloc _)) (Nat.zero_le _))) (sized_list1 (by simp)) (sized_list1 (by simp)) (by omega) (by omega) (by simp) true (by simp)).mono ?_
    rintro e w138 ⟨rfl, b138⟩
    have l38 : Later wr w138 := Later.trans (l36.alloc _) b138
    refine hK.out _ _ ?_ (fun hHeld => ?_)
    · exact HS7.out _ l38
    clear hK K
    try simp only [Act.put, List.setIfInBounds_toArray, List.set_cons_zero, List.set_cons_succ]
    refine wpAnyN_takeD (some 96) (by rfl) (i := 39) (oi := _) (v := ?_) rfl (by kernel_rfl) (by kernel_rfl) (by kernel_rfl) (by kernel_rfl) (fun _ _ _ h => h) (Or.inl ⟨by rfl, ?_⟩) (by assumption) ?_
    rotate_left
    · intro w hSw; (try dsimp only at hSw); go_simp
      first | done | with_reducible rfl
    try simp only [Act.put, List.setIfInBounds_toArray, List.set_cons_zero, List.set_cons_succ]
    refine wpAnyN_takeD (some 97) (by rfl) (i := 40) (oi := _) (v := ?_) rfl (by kernel_rfl) (by kernel_rfl) (by kernel_rfl) (by kernel_rfl) (fun _ _ _ h => h) (Or.inl ⟨by rfl, ?_⟩) (by assumption) ?_
    rotate_left
    · intro w hSw; (try dsimp only at hSw); go_simp
      first | done | with_reducible rfl
    try simp only [Act.put, List.setIfInBounds_toArray, List.set_cons_zero, List.set_cons_succ]
    refine wpAnyN_takeD (some 98) (by rfl) (i := 41) (oi := _) (v := ?_) rfl (by kernel_rfl) (by kernel_rfl) (by kernel_rfl) (by kernel_rfl) (fun _ _ _ h => h) (Or.inl ⟨by rfl, ?_⟩) (by assumption) ?_
    rotate_left
    · intro w hSw; (try dsimp only at hSw); go_simp
      first | done | with_reducible rfl
    try simp only [Act.put, List.setIfInBounds_toArray, List.set_cons_zero, List.set_cons_succ]
    refine wpAnyN_ready (rs := [42]) (by kernel_rfl) (by simp) ?_
    refine AllReadyN.held rfl (by rfl) (fun K hK => ?_) AllReadyN.nil
    go_simp
    refine (rect_calls _ _ tA EOwn EOwn.later (HT.out _ l38) 2 (by simp [tA]) (by simp [tA]) true (by decide)).mono ?_
    rintro e w142 ⟨rfl, b142⟩
    have l42 : Later wr w142 := Later.trans l38 b142
    refine hK.out _ _ ?_ (fun hHeld => ?_)
    · exact HS7.out _ l42
    clear hK K
    try simp only [Act.put, List.setIfInBounds_toArray, List.set_cons_zero, List.set_cons_succ]
    refine wpAnyN_takeD (some 100) (by rfl) (i := 43) (oi := _) (v := ?_) rfl (by kernel_rfl) (by kernel_rfl) (by kernel_rfl) (by kernel_rfl) (fun _ _ _ h => h) (Or.inl ⟨by rfl, ?_⟩) (by assumption) ?_
    rotate_left
    · intro w hSw; (try dsimp only at hSw); go_simp
      first | done | with_reducible rfl
    try simp only [Act.put, List.setIfInBounds_toArray, List.set_cons_zero, List.set_cons_succ]
    refine wpAnyN_takeD (some 101) (by rfl) (i := 44) (oi := _) (v := ?_) rfl (by kernel_rfl) (by kernel_rfl) (by kernel_rfl) (by kernel_rfl) (fun _ _ _ h => h) (Or.inl ⟨by rfl, ?_⟩) (by assumption) ?_
    rotate_left
    · intro w hSw; (try dsimp only at hSw); go_simp
      first | done | with_reducible rfl
    try simp only [Act.put, List.setIfInBounds_toArray, List.set_cons_zero, List.set_cons_succ]
    refine wpAnyN_takeD (some 102) (by rfl) (i := 45) (oi := _) (v := ?_) rfl (by kernel_rfl) (by kernel_rfl) (by kernel_rfl) (by kernel_rfl) (fun _ _ _ h => h) (Or.inl ⟨by rfl, ?_⟩) (by assumption) ?_
    rotate_left
    · intro w hSw; (try dsimp only at hSw); go_simp
      first | done | with_reducible rfl
    try simp only [Act.put, List.setIfInBounds_toArray, List.set_cons_zero, List.set_cons_succ]
    refine wpAnyN_ready (rs := [46]) (by kernel_rfl) (by simp) ?_
    refine AllReadyN.held rfl (by rfl) (fun K hK => ?_) AllReadyN.nil
    go_simp
    refine (rect_calls _ _ tA EOwn EOwn.later (HT.out _ l42) 1 (by simp [tA]) (by simp [tA]) false (by decide)).mono ?_
    rintro e w146 ⟨rfl, b146⟩
    have l46 : Later wr w146 := Later.trans l42 b146
    refine hK.out _ _ ?_ (fun hHeld => ?_)
    · exact HS7.out _ l46
    clear hK K
    try simp only [Act.put, List.setIfInBounds_toArray, List.set_cons_zero, List.set_cons_succ]
    refine wpAnyN_takeD (some 104) (by rfl) (i := 47) (oi := _) (v := ?_) rfl (by kernel_rfl) (by kernel_rfl) (by kernel_rfl) (by kernel_rfl) (fun _ _ _ h => h) (Or.inl ⟨by rfl, ?_⟩) (by assumption) ?_
    rotate_left
    · intro w hSw; (try dsimp only at hSw); go_simp
      first | done | with_reducible rfl
    try simp only [Act.put, List.setIfInBounds_toArray, List.set_cons_zero, List.set_cons_succ]
    refine wpAnyN_takeD (some 105) (by rfl) (i := 48) (oi := _) (v := ?_) rfl (by kernel_rfl) (by kernel_rfl) (by kernel_rfl) (by kernel_rfl) (fun _ _ _ h => h) (Or.inl ⟨by rfl, ?_⟩) (by assumption) ?_
    rotate_left
    · intro w hSw; (try dsimp only at hSw); go_simp
      first | done | with_reducible rfl
    try simp only [Act.put, List.setIfInBounds_toArray, List.set_cons_zero, List.set_cons_succ]
    refine wpAnyN_takeD (some 0) (by rfl) (i := 49) (oi := _) (v := ?_) rfl (by kernel_rfl) (by kernel_rfl) (by kernel_rfl) (by kernel_rfl) (fun _ _ _ h => h) (Or.inl ⟨by rfl, ?_⟩) (by assumption) ?_
    rotate_left
    · intro w hSw; (try dsimp only at hSw); go_simp
      first | done | with_reducible rfl
    try simp only [Act.put, List.setIfInBounds_toArray, List.set_cons_zero, List.set_cons_succ]
    refine wpAnyN_done (by kernel_rfl) ?_ _
    have LE := hide (HLW.out.trans l46)
    clear hHeld
    go_wp2_with fail
    go_ret
    exact ⟨rfl, LE.out⟩
  refine AllReadyN.held rfl (by rfl) (fun K hK => ?_) AllReadyN.nil
  go_simp
  refine (lawof_calls _ 0 (by omega) (by omega) 0 div_0).mono ?_
  rintro e w116 ⟨v116, rfl, o116, b116⟩
  obtain ⟨s116, P116, q116, e116, P116', q116', e116', rfl, o116⟩ := o116.open_; have O116 := hide o116; clear o116
  have l16 : Later wr w116 := Later.trans l13 b116
  refine hK.out _ _ ?_ (fun hHeld => ?_)
  · exact HS7.out _ l16
  clear hK K
  try simp only [Act.put, List.setIfInBounds_toArray, List.set_cons_zero, List.set_cons_succ]
  refine wpAnyN_ready (rs := [15, 18]) (by kernel_rfl) (by simp) ?_
  refine AllReadyN.held rfl (by rfl) (fun K hK => ?_) ?_
  · go_simp
    refine hK.out _ _ ?_ (fun hHeld => ?_)
    · exact HS7.out _ (l16.alloc _)
    clear hK K
    try simp only [Act.put, List.setIfInBounds_toArray, List.set_cons_zero, List.set_cons_succ]
    refine wpAnyN_ready (rs := [18]) (by kernel_rfl) (by simp) ?_
    refine AllReadyN.held rfl (by rfl) (fun K hK => ?_) AllReadyN.nil
    go_simp
    refine hK.out _ _ ?_ (fun hHeld => ?_)
    · exact HS7.out _ ((l16.alloc _).alloc _)
    clear hK K
    try simp only [Act.put, List.setIfInBounds_toArray, List.set_cons_zero, List.set_cons_succ]
    refine wpAnyN_ready (rs := [19]) (by kernel_rfl) (by simp) ?_
    refine AllReadyN.held rfl (by rfl) (fun K hK => ?_) AllReadyN.nil
    go_simp
    refine hK.out _ _ ?_ (fun hHeld => ?_)
    · exact HS7.out _ (((l16.alloc _).alloc _).alloc _)
    clear hK K
    try simp only [Act.put, List.setIfInBounds_toArray, List.set_cons_zero, List.set_cons_succ]
    refine wpAnyN_ready (rs := [20]) (by kernel_rfl) (by simp) ?_
    refine AllReadyN.held rfl (by rfl) (fun K hK => ?_) AllReadyN.nil
    go_simp
    refine (tsame_calls _ _ _ [[1, 1/2], [0, 1/2]] [[1, 1/2], [0, 1/2]] 1 1 (HP.out.later EOwn.later (((l16.alloc _).alloc _).alloc _)) (tab_two (row_new2 w116 _ _ _ _) (rats_two (((Row.new w116 _ _).alloc _).alloc _) (OwnR.weaken (OwnR.later O113.out (((((Later.refl _).trans b116).alloc _).alloc _).alloc _)) (Nat.zero_le _)) (OwnR.weaken (OwnR.later HH.out (((l16.alloc _).alloc _).alloc _)) (Nat.zero_le _))) (rats_two ((row_new1 w116 _ _ _).alloc _) (OwnR.weaken (OwnR.later O116.out ((((Later.refl _).alloc _).alloc _).alloc _)) (Nat.zero_le _)) (OwnR.weaken (OwnR.later HH.out (((l16.alloc _).alloc _).alloc _)) (Nat.zero_le _)))) HSP.out HSP.out (by omega) (by omega) (by simp) (by simp) true (by simp)).mono ?_
    rintro e w120 ⟨rfl, b120⟩
    have l20 : Later wr w120 := Later.trans (((l16.alloc _).alloc _).alloc _) b120
    refine hK.out _ _ ?_ (fun hHeld => ?_)
    · exact HS7.out _ l20
    clear hK K
    try simp only [Act.put, List.setIfInBounds_toArray, List.set_cons_zero, List.set_cons_succ]
    refine wpAnyN_takeD (some 78) (by rfl) (i := 21) (oi := _) (v := ?_) rfl (by kernel_rfl) (by kernel_rfl) (by kernel_rfl) (by kernel_rfl) (fun _ _ _ h => h) (Or.inl ⟨by rfl, ?_⟩) (by assumption) ?_
    rotate_left
    · intro w hSw; (try dsimp only at hSw); go_simp
      first | done | with_reducible rfl
    try simp only [Act.put, List.setIfInBounds_toArray, List.set_cons_zero, List.set_cons_succ]
    refine wpAnyN_takeD (some 79) (by rfl) (i := 22) (oi := _) (v := ?_) rfl (by kernel_rfl) (by kernel_rfl) (by kernel_rfl) (by kernel_rfl) (fun _ _ _ h => h) (Or.inl ⟨by rfl, ?_⟩) (by assumption) ?_
    rotate_left
    · intro w hSw; (try dsimp only at hSw); go_simp
      first | done | with_reducible rfl
    try simp only [Act.put, List.setIfInBounds_toArray, List.set_cons_zero, List.set_cons_succ]
    refine wpAnyN_takeD (some 80) (by rfl) (i := 23) (oi := _) (v := ?_) rfl (by kernel_rfl) (by kernel_rfl) (by kernel_rfl) (by kernel_rfl) (fun _ _ _ h => h) (Or.inl ⟨by rfl, ?_⟩) (by assumption) ?_
    rotate_left
    · intro w hSw; (try dsimp only at hSw); go_simp
      first | done | with_reducible rfl
    try simp only [Act.put, List.setIfInBounds_toArray, List.set_cons_zero, List.set_cons_succ]
    refine wpAnyN_takeD (some 81) (by rfl) (i := 24) (oi := _) (v := ?_) rfl (by kernel_rfl) (by kernel_rfl) (by kernel_rfl) (by kernel_rfl) (fun _ _ _ h => h) (Or.inl ⟨by rfl, ?_⟩) (by assumption) ?_
    rotate_left
    · intro w hSw; (try dsimp only at hSw); go_simp
      first | done | with_reducible rfl
    try simp only [Act.put, List.setIfInBounds_toArray, List.set_cons_zero, List.set_cons_succ]
    refine wpAnyN_takeD (some 82) (by rfl) (i := 25) (oi := _) (v := ?_) rfl (by kernel_rfl) (by kernel_rfl) (by kernel_rfl) (by kernel_rfl) (fun _ _ _ h => h) (Or.inl ⟨by rfl, ?_⟩) (by assumption) ?_
    rotate_left
    · intro w hSw; (try dsimp only at hSw); go_simp
      first | done | with_reducible rfl
    try simp only [Act.put, List.setIfInBounds_toArray, List.set_cons_zero, List.set_cons_succ]
    refine wpAnyN_takeD (some 83) (by rfl) (i := 26) (oi := _) (v := ?_) rfl (by kernel_rfl) (by kernel_rfl) (by kernel_rfl) (by kernel_rfl) (fun _ _ _ h => h) (Or.inl ⟨by rfl, ?_⟩) (by assumption) ?_
    rotate_left
    · intro w hSw; (try dsimp only at hSw); go_simp
      first | done | with_reducible rfl
    try simp only [Act.put, List.setIfInBounds_toArray, List.set_cons_zero, List.set_cons_succ]
    refine wpAnyN_ready (rs := [27]) (by kernel_rfl) (by simp) ?_
    refine AllReadyN.held rfl (by rfl) (fun K hK => ?_) AllReadyN.nil
    go_simp
    refine (lawof_calls _ 3 (by omega) (by omega) 3 div_3).mono ?_
    rintro e w127 ⟨v127, rfl, o127, b127⟩
    obtain ⟨s127, P127, q127, e127, P127', q127', e127', rfl, o127⟩ := o127.open_; have O127 := hide o127; clear o127
    have l27 : Later wr w127 := Later.trans l20 b127
    refine hK.out _ _ ?_ (fun hHeld => ?_)
    · exact HS7.out _ l27
    clear hK K
    try simp only [Act.put, List.setIfInBounds_toArray, List.set_cons_zero, List.set_cons_succ]
    refine wpAnyN_ready (rs := [28]) (by kernel_rfl) (by simp) ?_
    refine AllReadyN.held rfl (by rfl) (fun K hK => ?_) AllReadyN.nil
    go_simp
    refine (qsame_calls _ _ _ 3 3 0 0 1 1 (OwnR.weaken (OwnR.later HD.out l27) (Nat.zero_le _)) (OwnR.weaken (OwnR.later O127.out (Later.refl _)) (Nat.zero_le _)) sized_3 sized_3 (by omega) (by omega) true (by simp)).mono ?_
    rintro e w128 ⟨rfl, b128⟩
    have l28 : Later wr w128 := Later.trans l27 b128
    refine hK.out _ _ ?_ (fun hHeld => ?_)
    · exact HS7.out _ l28
    clear hK K
    try simp only [Act.put, List.setIfInBounds_toArray, List.set_cons_zero, List.set_cons_succ]
    refine wpAnyN_takeD (some 86) (by rfl) (i := 29) (oi := _) (v := ?_) rfl (by kernel_rfl) (by kernel_rfl) (by kernel_rfl) (by kernel_rfl) (fun _ _ _ h => h) (Or.inl ⟨by rfl, ?_⟩) (by assumption) ?_
    rotate_left
    · intro w hSw; (try dsimp only at hSw); go_simp
      first | done | with_reducible rfl
    try simp only [Act.put, List.setIfInBounds_toArray, List.set_cons_zero, List.set_cons_succ]
    refine wpAnyN_takeD (some 87) (by rfl) (i := 30) (oi := _) (v := ?_) rfl (by kernel_rfl) (by kernel_rfl) (by kernel_rfl) (by kernel_rfl) (fun _ _ _ h => h) (Or.inl ⟨by rfl, ?_⟩) (by assumption) ?_
    rotate_left
    · intro w hSw; (try dsimp only at hSw); go_simp
      first | done | with_reducible rfl
    try simp only [Act.put, List.setIfInBounds_toArray, List.set_cons_zero, List.set_cons_succ]
    refine wpAnyN_takeD (some 88) (by rfl) (i := 31) (oi := _) (v := ?_) rfl (by kernel_rfl) (by kernel_rfl) (by kernel_rfl) (by kernel_rfl) (fun _ _ _ h => h) (Or.inl ⟨by rfl, ?_⟩) (by assumption) ?_
    rotate_left
    · intro w hSw; (try dsimp only at hSw); go_simp
      first | done | with_reducible rfl
    try simp only [Act.put, List.setIfInBounds_toArray, List.set_cons_zero, List.set_cons_succ]
    refine wpAnyN_takeD (some 89) (by rfl) (i := 32) (oi := _) (v := ?_) rfl (by kernel_rfl) (by kernel_rfl) (by kernel_rfl) (by kernel_rfl) (fun _ _ _ h => h) (Or.inl ⟨by rfl, ?_⟩) (by assumption) ?_
    rotate_left
    · intro w hSw; (try dsimp only at hSw); go_simp
      first | done | with_reducible rfl
    try simp only [Act.put, List.setIfInBounds_toArray, List.set_cons_zero, List.set_cons_succ]
    refine wpAnyN_takeD (some 90) (by rfl) (i := 33) (oi := _) (v := ?_) rfl (by kernel_rfl) (by kernel_rfl) (by kernel_rfl) (by kernel_rfl) (fun _ _ _ h => h) (Or.inl ⟨by rfl, ?_⟩) (by assumption) ?_
    rotate_left
    · intro w hSw; (try dsimp only at hSw); go_simp
      first | done | with_reducible rfl
    try simp only [Act.put, List.setIfInBounds_toArray, List.set_cons_zero, List.set_cons_succ]
    refine wpAnyN_takeD (some 91) (by rfl) (i := 34) (oi := _) (v := ?_) rfl (by kernel_rfl) (by kernel_rfl) (by kernel_rfl) (by kernel_rfl) (fun _ _ _ h => h) (Or.inl ⟨by rfl, ?_⟩) (by assumption) ?_
    rotate_left
    · intro w hSw; (try dsimp only at hSw); go_simp
      first | done | with_reducible rfl
    try simp only [Act.put, List.setIfInBounds_toArray, List.set_cons_zero, List.set_cons_succ]
    refine wpAnyN_ready (rs := [35]) (by kernel_rfl) (by simp) ?_
    refine AllReadyN.held rfl (by rfl) (fun K hK => ?_) AllReadyN.nil
    go_simp
    refine (lawof_calls _ 0 (by omega) (by omega) 0 div_0).mono ?_
    rintro e w135 ⟨v135, rfl, o135, b135⟩
    obtain ⟨s135, P135, q135, e135, P135', q135', e135', rfl, o135⟩ := o135.open_; have O135 := hide o135; clear o135
    have l35 : Later wr w135 := Later.trans l28 b135
    refine hK.out _ _ ?_ (fun hHeld => ?_)
    · exact HS7.out _ l35
    clear hK K
    try simp only [Act.put, List.setIfInBounds_toArray, List.set_cons_zero, List.set_cons_succ]
    refine wpAnyN_ready (rs := [36]) (by kernel_rfl) (by simp) ?_
    refine AllReadyN.held rfl (by rfl) (fun K hK => ?_) AllReadyN.nil
    go_simp
    refine (lawof_calls _ (-1) (by omega) (by omega) (-1) div_m1).mono ?_
    rintro e w136 ⟨v136, rfl, o136, b136⟩
    obtain ⟨s136, P136, q136, e136, P136', q136', e136', rfl, o136⟩ := o136.open_; have O136 := hide o136; clear o136
    have l36 : Later wr w136 := Later.trans l35 b136
    refine hK.out _ _ ?_ (fun hHeld => ?_)
    · exact HS7.out _ l36
    clear hK K
    try simp only [Act.put, List.setIfInBounds_toArray, List.set_cons_zero, List.set_cons_succ]
    refine wpAnyN_ready (rs := [37]) (by kernel_rfl) (by simp) ?_
    refine AllReadyN.held rfl (by rfl) (fun K hK => ?_) AllReadyN.nil
    go_simp
    refine hK.out _ _ ?_ (fun hHeld => ?_)
    · exact HS7.out _ (l36.alloc _)
    clear hK K
    try simp only [Act.put, List.setIfInBounds_toArray, List.set_cons_zero, List.set_cons_succ]
    refine wpAnyN_ready (rs := [38]) (by kernel_rfl) (by simp) ?_
    refine AllReadyN.held rfl (by rfl) (fun K hK => ?_) AllReadyN.nil
    go_simp
    refine (lsame_calls _ _ _ [0, -1] [0, -1] 1 1 (HSS.out.later EOwn.later (l36.alloc _)) (rats_two (Row.new w136 _ _) (OwnR.weaken (OwnR.later O135.out (((Later.refl _).trans b136).alloc _)) (Nat.zero_le _)) (OwnR.weaken (OwnR.later O136.out ((Later.refl _).alloc _)) (Nat.zero_le _))) (sized_list1 (by simp)) (sized_list1 (by simp)) (by omega) (by omega) (by simp) true (by simp)).mono ?_
    rintro e w138 ⟨rfl, b138⟩
    have l38 : Later wr w138 := Later.trans (l36.alloc _) b138
    refine hK.out _ _ ?_ (fun hHeld => ?_)
    · exact HS7.out _ l38
    clear hK K
    try simp only [Act.put, List.setIfInBounds_toArray, List.set_cons_zero, List.set_cons_succ]
    refine wpAnyN_takeD (some 96) (by rfl) (i := 39) (oi := _) (v := ?_) rfl (by kernel_rfl) (by kernel_rfl) (by kernel_rfl) (by kernel_rfl) (fun _ _ _ h => h) (Or.inl ⟨by rfl, ?_⟩) (by assumption) ?_
    rotate_left
    · intro w hSw; (try dsimp only at hSw); go_simp
      first | done | with_reducible rfl
    try simp only [Act.put, List.setIfInBounds_toArray, List.set_cons_zero, List.set_cons_succ]
    refine wpAnyN_takeD (some 97) (by rfl) (i := 40) (oi := _) (v := ?_) rfl (by kernel_rfl) (by kernel_rfl) (by kernel_rfl) (by kernel_rfl) (fun _ _ _ h => h) (Or.inl ⟨by rfl, ?_⟩) (by assumption) ?_
    rotate_left
    · intro w hSw; (try dsimp only at hSw); go_simp
      first | done | with_reducible rfl
    try simp only [Act.put, List.setIfInBounds_toArray, List.set_cons_zero, List.set_cons_succ]
    refine wpAnyN_takeD (some 98) (by rfl) (i := 41) (oi := _) (v := ?_) rfl (by kernel_rfl) (by kernel_rfl) (by kernel_rfl) (by kernel_rfl) (fun _ _ _ h => h) (Or.inl ⟨by rfl, ?_⟩) (by assumption) ?_
    rotate_left
    · intro w hSw; (try dsimp only at hSw); go_simp
      first | done | with_reducible rfl
    try simp only [Act.put, List.setIfInBounds_toArray, List.set_cons_zero, List.set_cons_succ]
    refine wpAnyN_ready (rs := [42]) (by kernel_rfl) (by simp) ?_
    refine AllReadyN.held rfl (by rfl) (fun K hK => ?_) AllReadyN.nil
    go_simp
    refine (rect_calls _ _ tA EOwn EOwn.later (HT.out _ l38) 2 (by simp [tA]) (by simp [tA]) true (by decide)).mono ?_
    rintro e w142 ⟨rfl, b142⟩
    have l42 : Later wr w142 := Later.trans l38 b142
    refine hK.out _ _ ?_ (fun hHeld => ?_)
    · exact HS7.out _ l42
    clear hK K
    try simp only [Act.put, List.setIfInBounds_toArray, List.set_cons_zero, List.set_cons_succ]
    refine wpAnyN_takeD (some 100) (by rfl) (i := 43) (oi := _) (v := ?_) rfl (by kernel_rfl) (by kernel_rfl) (by kernel_rfl) (by kernel_rfl) (fun _ _ _ h => h) (Or.inl ⟨by rfl, ?_⟩) (by assumption) ?_
    rotate_left
    · intro w hSw; (try dsimp only at hSw); go_simp
      first | done | with_reducible rfl
    try simp only [Act.put, List.setIfInBounds_toArray, List.set_cons_zero, List.set_cons_succ]
    refine wpAnyN_takeD (some 101) (by rfl) (i := 44) (oi := _) (v := ?_) rfl (by kernel_rfl) (by kernel_rfl) (by kernel_rfl) (by kernel_rfl) (fun _ _ _ h => h) (Or.inl ⟨by rfl, ?_⟩) (by assumption) ?_
    rotate_left
    · intro w hSw; (try dsimp only at hSw); go_simp
      first | done | with_reducible rfl
    try simp only [Act.put, List.setIfInBounds_toArray, List.set_cons_zero, List.set_cons_succ]
    refine wpAnyN_takeD (some 102) (by rfl) (i := 45) (oi := _) (v := ?_) rfl (by kernel_rfl) (by kernel_rfl) (by kernel_rfl) (by kernel_rfl) (fun _ _ _ h => h) (Or.inl ⟨by rfl, ?_⟩) (by assumption) ?_
    rotate_left
    · intro w hSw; (try dsimp only at hSw); go_simp
      first | done | with_reducible rfl
    try simp only [Act.put, List.setIfInBounds_toArray, List.set_cons_zero, List.set_cons_succ]
    refine wpAnyN_ready (rs := [46]) (by kernel_rfl) (by simp) ?_
    refine AllReadyN.held rfl (by rfl) (fun K hK => ?_) AllReadyN.nil
    go_simp
    refine (rect_calls _ _ tA EOwn EOwn.later (HT.out _ l42) 1 (by simp [tA]) (by simp [tA]) false (by decide)).mono ?_
    rintro e w146 ⟨rfl, b146⟩
    have l46 : Later wr w146 := Later.trans l42 b146
    refine hK.out _ _ ?_ (fun hHeld => ?_)
    · exact HS7.out _ l46
    clear hK K
    try simp only [Act.put, List.setIfInBounds_toArray, List.set_cons_zero, List.set_cons_succ]
    refine wpAnyN_takeD (some 104) (by rfl) (i := 47) (oi := _) (v := ?_) rfl (by kernel_rfl) (by kernel_rfl) (by kernel_rfl) (by kernel_rfl) (fun _ _ _ h => h) (Or.inl ⟨by rfl, ?_⟩) (by assumption) ?_
    rotate_left
    · intro w hSw; (try dsimp only at hSw); go_simp
      first | done | with_reducible rfl
    try simp only [Act.put, List.setIfInBounds_toArray, List.set_cons_zero, List.set_cons_succ]
    refine wpAnyN_takeD (some 105) (by rfl) (i := 48) (oi := _) (v := ?_) rfl (by kernel_rfl) (by kernel_rfl) (by kernel_rfl) (by kernel_rfl) (fun _ _ _ h => h) (Or.inl ⟨by rfl, ?_⟩) (by assumption) ?_
    rotate_left
    · intro w hSw; (try dsimp only at hSw); go_simp
      first | done | with_reducible rfl
    try simp only [Act.put, List.setIfInBounds_toArray, List.set_cons_zero, List.set_cons_succ]
    refine wpAnyN_takeD (some 0) (by rfl) (i := 49) (oi := _) (v := ?_) rfl (by kernel_rfl) (by kernel_rfl) (by kernel_rfl) (by kernel_rfl) (fun _ _ _ h => h) (Or.inl ⟨by rfl, ?_⟩) (by assumption) ?_
    rotate_left
    · intro w hSw; (try dsimp only at hSw); go_simp
      first | done | with_reducible rfl
    try simp only [Act.put, List.setIfInBounds_toArray, List.set_cons_zero, List.set_cons_succ]
    refine wpAnyN_done (by kernel_rfl) ?_ _
    have LE := hide (HLW.out.trans l46)
    clear hHeld
    go_wp2_with fail
    go_ret
    exact ⟨rfl, LE.out⟩
  refine AllReadyN.held rfl (by rfl) (fun K hK => ?_) AllReadyN.nil
  go_simp
  refine hK.out _ _ ?_ (fun hHeld => ?_)
  · exact HS7.out _ (l16.alloc _)
  clear hK K
  try simp only [Act.put, List.setIfInBounds_toArray, List.set_cons_zero, List.set_cons_succ]
  refine wpAnyN_ready (rs := [15]) (by kernel_rfl) (by simp) ?_
  refine AllReadyN.held rfl (by rfl) (fun K hK => ?_) AllReadyN.nil
  go_simp
  refine hK.out _ _ ?_ (fun hHeld => ?_)
  · exact HS7.out _ ((l16.alloc _).alloc _)
  clear hK K
  try simp only [Act.put, List.setIfInBounds_toArray, List.set_cons_zero, List.set_cons_succ]
  refine wpAnyN_ready (rs := [19]) (by kernel_rfl) (by simp) ?_
  refine AllReadyN.held rfl (by rfl) (fun K hK => ?_) AllReadyN.nil
  go_simp
  refine hK.out _ _ ?_ (fun hHeld => ?_)
  · exact HS7.out _ (((l16.alloc _).alloc _).alloc _)
  clear hK K
  try simp only [Act.put, List.setIfInBounds_toArray, List.set_cons_zero, List.set_cons_succ]
  refine wpAnyN_ready (rs := [20]) (by kernel_rfl) (by simp) ?_
  refine AllReadyN.held rfl (by rfl) (fun K hK => ?_) AllReadyN.nil
  go_simp
  refine (tsame_calls _ _ _ [[1, 1/2], [0, 1/2]] [[1, 1/2], [0, 1/2]] 1 1 (HP.out.later EOwn.later (((l16.alloc _).alloc _).alloc _)) (tab_two (row_new2 w116 _ _ _ _) (rats_two ((row_new1 w116 _ _ _).alloc _) (OwnR.weaken (OwnR.later O113.out (((((Later.refl _).trans b116).alloc _).alloc _).alloc _)) (Nat.zero_le _)) (OwnR.weaken (OwnR.later HH.out (((l16.alloc _).alloc _).alloc _)) (Nat.zero_le _))) (rats_two (((Row.new w116 _ _).alloc _).alloc _) (OwnR.weaken (OwnR.later O116.out ((((Later.refl _).alloc _).alloc _).alloc _)) (Nat.zero_le _)) (OwnR.weaken (OwnR.later HH.out (((l16.alloc _).alloc _).alloc _)) (Nat.zero_le _)))) HSP.out HSP.out (by omega) (by omega) (by simp) (by simp) true (by simp)).mono ?_
  rintro e w120 ⟨rfl, b120⟩
  have l20 : Later wr w120 := Later.trans (((l16.alloc _).alloc _).alloc _) b120
  refine hK.out _ _ ?_ (fun hHeld => ?_)
  · exact HS7.out _ l20
  clear hK K
  try simp only [Act.put, List.setIfInBounds_toArray, List.set_cons_zero, List.set_cons_succ]
  refine wpAnyN_takeD (some 78) (by rfl) (i := 21) (oi := _) (v := ?_) rfl (by kernel_rfl) (by kernel_rfl) (by kernel_rfl) (by kernel_rfl) (fun _ _ _ h => h) (Or.inl ⟨by rfl, ?_⟩) (by assumption) ?_
  rotate_left
  · intro w hSw; (try dsimp only at hSw); go_simp
    first | done | with_reducible rfl
  try simp only [Act.put, List.setIfInBounds_toArray, List.set_cons_zero, List.set_cons_succ]
  refine wpAnyN_takeD (some 79) (by rfl) (i := 22) (oi := _) (v := ?_) rfl (by kernel_rfl) (by kernel_rfl) (by kernel_rfl) (by kernel_rfl) (fun _ _ _ h => h) (Or.inl ⟨by rfl, ?_⟩) (by assumption) ?_
  rotate_left
  · intro w hSw; (try dsimp only at hSw); go_simp
    first | done | with_reducible rfl
  try simp only [Act.put, List.setIfInBounds_toArray, List.set_cons_zero, List.set_cons_succ]
  refine wpAnyN_takeD (some 80) (by rfl) (i := 23) (oi := _) (v := ?_) rfl (by kernel_rfl) (by kernel_rfl) (by kernel_rfl) (by kernel_rfl) (fun _ _ _ h => h) (Or.inl ⟨by rfl, ?_⟩) (by assumption) ?_
  rotate_left
  · intro w hSw; (try dsimp only at hSw); go_simp
    first | done | with_reducible rfl
  try simp only [Act.put, List.setIfInBounds_toArray, List.set_cons_zero, List.set_cons_succ]
  refine wpAnyN_takeD (some 81) (by rfl) (i := 24) (oi := _) (v := ?_) rfl (by kernel_rfl) (by kernel_rfl) (by kernel_rfl) (by kernel_rfl) (fun _ _ _ h => h) (Or.inl ⟨by rfl, ?_⟩) (by assumption) ?_
  rotate_left
  · intro w hSw; (try dsimp only at hSw); go_simp
    first | done | with_reducible rfl
  try simp only [Act.put, List.setIfInBounds_toArray, List.set_cons_zero, List.set_cons_succ]
  refine wpAnyN_takeD (some 82) (by rfl) (i := 25) (oi := _) (v := ?_) rfl (by kernel_rfl) (by kernel_rfl) (by kernel_rfl) (by kernel_rfl) (fun _ _ _ h => h) (Or.inl ⟨by rfl, ?_⟩) (by assumption) ?_
  rotate_left
  · intro w hSw; (try dsimp only at hSw); go_simp
    first | done | with_reducible rfl
  try simp only [Act.put, List.setIfInBounds_toArray, List.set_cons_zero, List.set_cons_succ]
  refine wpAnyN_takeD (some 83) (by rfl) (i := 26) (oi := _) (v := ?_) rfl (by kernel_rfl) (by kernel_rfl) (by kernel_rfl) (by kernel_rfl) (fun _ _ _ h => h) (Or.inl ⟨by rfl, ?_⟩) (by assumption) ?_
  rotate_left
  · intro w hSw; (try dsimp only at hSw); go_simp
    first | done | with_reducible rfl
  try simp only [Act.put, List.setIfInBounds_toArray, List.set_cons_zero, List.set_cons_succ]
  refine wpAnyN_ready (rs := [27]) (by kernel_rfl) (by simp) ?_
  refine AllReadyN.held rfl (by rfl) (fun K hK => ?_) AllReadyN.nil
  go_simp
  refine (lawof_calls _ 3 (by omega) (by omega) 3 div_3).mono ?_
  rintro e w127 ⟨v127, rfl, o127, b127⟩
  obtain ⟨s127, P127, q127, e127, P127', q127', e127', rfl, o127⟩ := o127.open_; have O127 := hide o127; clear o127
  have l27 : Later wr w127 := Later.trans l20 b127
  refine hK.out _ _ ?_ (fun hHeld => ?_)
  · exact HS7.out _ l27
  clear hK K
  try simp only [Act.put, List.setIfInBounds_toArray, List.set_cons_zero, List.set_cons_succ]
  refine wpAnyN_ready (rs := [28]) (by kernel_rfl) (by simp) ?_
  refine AllReadyN.held rfl (by rfl) (fun K hK => ?_) AllReadyN.nil
  go_simp
  refine (qsame_calls _ _ _ 3 3 0 0 1 1 (OwnR.weaken (OwnR.later HD.out l27) (Nat.zero_le _)) (OwnR.weaken (OwnR.later O127.out (Later.refl _)) (Nat.zero_le _)) sized_3 sized_3 (by omega) (by omega) true (by simp)).mono ?_
  rintro e w128 ⟨rfl, b128⟩
  have l28 : Later wr w128 := Later.trans l27 b128
  refine hK.out _ _ ?_ (fun hHeld => ?_)
  · exact HS7.out _ l28
  clear hK K
  try simp only [Act.put, List.setIfInBounds_toArray, List.set_cons_zero, List.set_cons_succ]
  refine wpAnyN_takeD (some 86) (by rfl) (i := 29) (oi := _) (v := ?_) rfl (by kernel_rfl) (by kernel_rfl) (by kernel_rfl) (by kernel_rfl) (fun _ _ _ h => h) (Or.inl ⟨by rfl, ?_⟩) (by assumption) ?_
  rotate_left
  · intro w hSw; (try dsimp only at hSw); go_simp
    first | done | with_reducible rfl
  try simp only [Act.put, List.setIfInBounds_toArray, List.set_cons_zero, List.set_cons_succ]
  refine wpAnyN_takeD (some 87) (by rfl) (i := 30) (oi := _) (v := ?_) rfl (by kernel_rfl) (by kernel_rfl) (by kernel_rfl) (by kernel_rfl) (fun _ _ _ h => h) (Or.inl ⟨by rfl, ?_⟩) (by assumption) ?_
  rotate_left
  · intro w hSw; (try dsimp only at hSw); go_simp
    first | done | with_reducible rfl
  try simp only [Act.put, List.setIfInBounds_toArray, List.set_cons_zero, List.set_cons_succ]
  refine wpAnyN_takeD (some 88) (by rfl) (i := 31) (oi := _) (v := ?_) rfl (by kernel_rfl) (by kernel_rfl) (by kernel_rfl) (by kernel_rfl) (fun _ _ _ h => h) (Or.inl ⟨by rfl, ?_⟩) (by assumption) ?_
  rotate_left
  · intro w hSw; (try dsimp only at hSw); go_simp
    first | done | with_reducible rfl
  try simp only [Act.put, List.setIfInBounds_toArray, List.set_cons_zero, List.set_cons_succ]
  refine wpAnyN_takeD (some 89) (by rfl) (i := 32) (oi := _) (v := ?_) rfl (by kernel_rfl) (by kernel_rfl) (by kernel_rfl) (by kernel_rfl) (fun _ _ _ h => h) (Or.inl ⟨by rfl, ?_⟩) (by assumption) ?_
  rotate_left
  · intro w hSw; (try dsimp only at hSw); go_simp
    first | done | with_reducible rfl
  try simp only [Act.put, List.setIfInBounds_toArray, List.set_cons_zero, List.set_cons_succ]
  refine wpAnyN_takeD (some 90) (by rfl) (i := 33) (oi := _) (v := ?_) rfl (by kernel_rfl) (by kernel_rfl) (by kernel_rfl) (by kernel_rfl) (fun _ _ _ h => h) (Or.inl ⟨by rfl, ?_⟩) (by assumption) ?_
  rotate_left
  · intro w hSw; (try dsimp only at hSw); go_simp
    first | done | with_reducible rfl
  try simp only [Act.put, List.setIfInBounds_toArray, List.set_cons_zero, List.set_cons_succ]
  refine wpAnyN_takeD (some 91) (by rfl) (i := 34) (oi := _) (v := ?_) rfl (by kernel_rfl) (by kernel_rfl) (by kernel_rfl) (by kernel_rfl) (fun _ _ _ h => h) (Or.inl ⟨by rfl, ?_⟩) (by assumption) ?_
  rotate_left
  · intro w hSw; (try dsimp only at hSw); go_simp
    first | done | with_reducible rfl
  try simp only [Act.put, List.setIfInBounds_toArray, List.set_cons_zero, List.set_cons_succ]
  refine wpAnyN_ready (rs := [35]) (by kernel_rfl) (by simp) ?_
  refine AllReadyN.held rfl (by rfl) (fun K hK => ?_) AllReadyN.nil
  go_simp
  refine (lawof_calls _ 0 (by omega) (by omega) 0 div_0).mono ?_
  rintro e w135 ⟨v135, rfl, o135, b135⟩
  obtain ⟨s135, P135, q135, e135, P135', q135', e135', rfl, o135⟩ := o135.open_; have O135 := hide o135; clear o135
  have l35 : Later wr w135 := Later.trans l28 b135
  refine hK.out _ _ ?_ (fun hHeld => ?_)
  · exact HS7.out _ l35
  clear hK K
  try simp only [Act.put, List.setIfInBounds_toArray, List.set_cons_zero, List.set_cons_succ]
  refine wpAnyN_ready (rs := [36]) (by kernel_rfl) (by simp) ?_
  refine AllReadyN.held rfl (by rfl) (fun K hK => ?_) AllReadyN.nil
  go_simp
  refine (lawof_calls _ (-1) (by omega) (by omega) (-1) div_m1).mono ?_
  rintro e w136 ⟨v136, rfl, o136, b136⟩
  obtain ⟨s136, P136, q136, e136, P136', q136', e136', rfl, o136⟩ := o136.open_; have O136 := hide o136; clear o136
  have l36 : Later wr w136 := Later.trans l35 b136
  refine hK.out _ _ ?_ (fun hHeld => ?_)
  · exact HS7.out _ l36
  clear hK K
  try simp only [Act.put, List.setIfInBounds_toArray, List.set_cons_zero, List.set_cons_succ]
  refine wpAnyN_ready (rs := [37]) (by kernel_rfl) (by simp) ?_
  refine AllReadyN.held rfl (by rfl) (fun K hK => ?_) AllReadyN.nil
  go_simp
  refine hK.out _ _ ?_ (fun hHeld => ?_)
  · exact HS7.out _ (l36.alloc _)
  clear hK K
  try simp only [Act.put, List.setIfInBounds_toArray, List.set_cons_zero, List.set_cons_succ]
  refine wpAnyN_ready (rs := [38]) (by kernel_rfl) (by simp) ?_
  refine AllReadyN.held rfl (by rfl) (fun K hK => ?_) AllReadyN.nil
  go_simp
  refine (lsame_calls _ _ _ [0, -1] [0, -1] 1 1 (HSS.out.later EOwn.later (l36.alloc _)) (rats_two (Row.new w136 _ _) (OwnR.weaken (OwnR.later O135.out (((Later.refl _).trans b136).alloc _)) (Nat.zero_le _)) (OwnR.weaken (OwnR.later O136.out ((Later.refl _).alloc _)) (Nat.zero_le _))) (sized_list1 (by simp)) (sized_list1 (by simp)) (by omega) (by omega) (by simp) true (by simp)).mono ?_
  rintro e w138 ⟨rfl, b138⟩
  have l38 : Later wr w138 := Later.trans (l36.alloc _) b138
  refine hK.out _ _ ?_ (fun hHeld => ?_)
  · exact HS7.out _ l38
  clear hK K
  try simp only [Act.put, List.setIfInBounds_toArray, List.set_cons_zero, List.set_cons_succ]
  refine wpAnyN_takeD (some 96) (by rfl) (i := 39) (oi := _) (v := ?_) rfl (by kernel_rfl) (by kernel_rfl) (by kernel_rfl) (by kernel_rfl) (fun _ _ _ h => h) (Or.inl ⟨by rfl, ?_⟩) (by assumption) ?_
  rotate_left
  · intro w hSw; (try dsimp only at hSw); go_simp
    first | done | with_reducible rfl
  try simp only [Act.put, List.setIfInBounds_toArray, List.set_cons_zero, List.set_cons_succ]
  refine wpAnyN_takeD (some 97) (by rfl) (i := 40) (oi := _) (v := ?_) rfl (by kernel_rfl) (by kernel_rfl) (by kernel_rfl) (by kernel_rfl) (fun _ _ _ h => h) (Or.inl ⟨by rfl, ?_⟩) (by assumption) ?_
  rotate_left
  · intro w hSw; (try dsimp only at hSw); go_simp
    first | done | with_reducible rfl
  try simp only [Act.put, List.setIfInBounds_toArray, List.set_cons_zero, List.set_cons_succ]
  refine wpAnyN_takeD (some 98) (by rfl) (i := 41) (oi := _) (v := ?_) rfl (by kernel_rfl) (by kernel_rfl) (by kernel_rfl) (by kernel_rfl) (fun _ _ _ h => h) (Or.inl ⟨by rfl, ?_⟩) (by assumption) ?_
  rotate_left
  · intro w hSw; (try dsimp only at hSw); go_simp
    first | done | with_reducible rfl
  try simp only [Act.put, List.setIfInBounds_toArray, List.set_cons_zero, List.set_cons_succ]
  refine wpAnyN_ready (rs := [42]) (by kernel_rfl) (by simp) ?_
  refine AllReadyN.held rfl (by rfl) (fun K hK => ?_) AllReadyN.nil
  go_simp
  refine (rect_calls _ _ tA EOwn EOwn.later (HT.out _ l38) 2 (by simp [tA]) (by simp [tA]) true (by decide)).mono ?_
  rintro e w142 ⟨rfl, b142⟩
  have l42 : Later wr w142 := Later.trans l38 b142
  refine hK.out _ _ ?_ (fun hHeld => ?_)
  · exact HS7.out _ l42
  clear hK K
  try simp only [Act.put, List.setIfInBounds_toArray, List.set_cons_zero, List.set_cons_succ]
  refine wpAnyN_takeD (some 100) (by rfl) (i := 43) (oi := _) (v := ?_) rfl (by kernel_rfl) (by kernel_rfl) (by kernel_rfl) (by kernel_rfl) (fun _ _ _ h => h) (Or.inl ⟨by rfl, ?_⟩) (by assumption) ?_
  rotate_left
  · intro w hSw; (try dsimp only at hSw); go_simp
    first | done | with_reducible rfl
  try simp only [Act.put, List.setIfInBounds_toArray, List.set_cons_zero, List.set_cons_succ]
  refine wpAnyN_takeD (some 101) (by rfl) (i := 44) (oi := _) (v := ?_) rfl (by kernel_rfl) (by kernel_rfl) (by kernel_rfl) (by kernel_rfl) (fun _ _ _ h => h) (Or.inl ⟨by rfl, ?_⟩) (by assumption) ?_
  rotate_left
  · intro w hSw; (try dsimp only at hSw); go_simp
    first | done | with_reducible rfl
  try simp only [Act.put, List.setIfInBounds_toArray, List.set_cons_zero, List.set_cons_succ]
  refine wpAnyN_takeD (some 102) (by rfl) (i := 45) (oi := _) (v := ?_) rfl (by kernel_rfl) (by kernel_rfl) (by kernel_rfl) (by kernel_rfl) (fun _ _ _ h => h) (Or.inl ⟨by rfl, ?_⟩) (by assumption) ?_
  rotate_left
  · intro w hSw; (try dsimp only at hSw); go_simp
    first | done | with_reducible rfl
  try simp only [Act.put, List.setIfInBounds_toArray, List.set_cons_zero, List.set_cons_succ]
  refine wpAnyN_ready (rs := [46]) (by kernel_rfl) (by simp) ?_
  refine AllReadyN.held rfl (by rfl) (fun K hK => ?_) AllReadyN.nil
  go_simp
  refine (rect_calls _ _ tA EOwn EOwn.later (HT.out _ l42) 1 (by simp [tA]) (by simp [tA]) false (by decide)).mono ?_
  rintro e w146 ⟨rfl, b146⟩
  have l46 : Later wr w146 := Later.trans l42 b146
  refine hK.out _ _ ?_ (fun hHeld => ?_)
  · exact HS7.out _ l46
  clear hK K
  try simp only [Act.put, List.setIfInBounds_toArray, List.set_cons_zero, List.set_cons_succ]
  refine wpAnyN_takeD (some 104) (by rfl) (i := 47) (oi := _) (v := ?_) rfl (by kernel_rfl) (by kernel_rfl) (by kernel_rfl) (by kernel_rfl) (fun _ _ _ h => h) (Or.inl ⟨by rfl, ?_⟩) (by assumption) ?_
  rotate_left
  · intro w hSw; (try dsimp only at hSw); go_simp
    first | done | with_reducible rfl
  try simp only [Act.put, List.setIfInBounds_toArray, List.set_cons_zero, List.set_cons_succ]
  refine wpAnyN_takeD (some 105) (by rfl) (i := 48) (oi := _) (v := ?_) rfl (by kernel_rfl) (by kernel_rfl) (by kernel_rfl) (by kernel_rfl) (fun _ _ _ h => h) (Or.inl ⟨by rfl, ?_⟩) (by assumption) ?_
  rotate_left
  · intro w hSw; (try dsimp only at hSw); go_simp
    first | done | with_reducible rfl
  try simp only [Act.put, List.setIfInBounds_toArray, List.set_cons_zero, List.set_cons_succ]
  refine wpAnyN_takeD (some 0) (by rfl) (i := 49) (oi := _) (v := ?_) rfl (by kernel_rfl) (by kernel_rfl) (by kernel_rfl) (by kernel_rfl) (fun _ _ _ h => h) (Or.inl ⟨by rfl, ?_⟩) (by assumption) ?_
  rotate_left
  · intro w hSw; (try dsimp only at hSw); go_simp
    first | done | with_reducible rfl
  try simp only [Act.put, List.setIfInBounds_toArray, List.set_cons_zero, List.set_cons_succ]
  refine wpAnyN_done (by kernel_rfl) ?_ _
  have LE := hide (HLW.out.trans l46)
  clear hHeld
  go_wp2_with fail
  go_ret
  exact ⟨rfl, LE.out⟩

end Go.Proofs.YtkendajmnmchoaaGreat
