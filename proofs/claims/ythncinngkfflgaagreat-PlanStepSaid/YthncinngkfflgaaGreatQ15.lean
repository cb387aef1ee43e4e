/- Plans: whether a book may be (the program). -/
import Derived.Test.YthncinngkfflgaaGreatQ14
set_option linter.unusedVariables false
set_option linter.unusedSimpArgs false
set_option maxRecDepth 100000
namespace Go.Proofs.YthncinngkfflgaaGreat
open Go.RowKit Go.Shelf
attribute [local go_sem ↓] Go.wp_at_zero Go.wp_at_succ

theorem flag_ne (f : Bool) : decide ((if f then (1 : Rat) else 0) ≠ 0) = f := by cases f <;> simp
theorem cost_neg {q : Rat} {f : Bool} {c : Int} (hc : cmpQ q 0 = c) : (!f || decide (c < 0)) = !costB q f := by
  have : decide (c < 0) = !decide (0 ≤ q) := by
    rw [← hc]; unfold cmpQ
    by_cases h : q < 0
    · have h2 : ¬ 0 ≤ q := by grind
      simp [h, h2]
    · have h2 : 0 ≤ q := by grind
      by_cases h3 : 0 < q <;> simp [h, h2, h3]
  rw [this]; unfold costB; cases f <;> simp

theorem rtmay_calls (w : World) (v : Value) (q : Rat) (h : EFlag w v q) : Calls Tryz.prog 120 #[v] w (RetV w (.bool (decide (q ≠ 0)))) := by
  obtain ⟨sx, A1, n1, c1, sx', A2, n2, c2, y, rfl, hy, hq⟩ := h
  refine (may_calls w sx _ undef A2 n2 c2 sx' y 1000 hy ⟨_, _, _, rfl⟩ (by omega)).mono ?_
  rintro e w1 ⟨rfl, b1⟩
  exact ⟨by rw [hq]; by_cases h : 0 < y <;> simp [h], b1⟩

set_option maxHeartbeats 1000000 in
theorem plzero_calls (w : World) : Calls Tryz.prog 80 #[] w (Ret w fun w' v => OwnR w' w.heap.size v 0) := by
  go_enter Tryz.func80, Tryz.ntmps80
  go_wp2_with fail
  refine (rplain_calls _ _ 0 0 (rawR_zero _ 0) (by omega)).mono ?_
  rintro e w1 ⟨v1, rfl, o1, b1⟩
  obtain ⟨s1, P1, q1, e1, P1', q1', e1', rfl, o1⟩ := o1.open_; have O1 := hide o1; clear o1
  have hL := ((Later.refl w).alloc (Obj.cells #[.bool false, .slice none 0 0, .bool false, .slice none 0 0] 37)).trans b1
  have hrow := ((Row.new w 37 [.bool false, .slice none 0 0, .bool false, .slice none 0 0]).later b1)
  obtain ⟨c0, c1, c2, c3, f0, f1, f2, f3⟩ := row_cells4 hrow
  have HR := hide hrow
  clear hrow
  go_wp2_with fail
  refine bodyPost_ret (results_rat rfl rfl (HR.out.four _ _ _ _)) rfl ?_
  have oo := Only.four w.heap.size w1 (.bool s1) (.slice P1 q1 e1) (.bool false) (.slice P1' q1' e1')
  exact ⟨_, rfl, (O1.out.only oo (by simp)).weaken (by simp), hL.only oo (Nat.le_refl _)⟩


set_option maxHeartbeats 2000000 in
theorem head11_calls (w : World) (v : Value) (q : Rat) (f : Bool) (h : ENum 12 w v q f) :
    Calls Tryz.prog 119 #[v] w (RetV w (.bool (!costB q f))) := by
  have H := hide h.1; have HF := hide h.2
  obtain ⟨sx, A1, n1, c1, sx', A2, n2, c2, rfl⟩ := h.1.open_
  obtain ⟨cz, hcz⟩ : ∃ cz, cmpQ q 0 = cz := ⟨_, rfl⟩
  have hc := cost_neg (f := f) hcz
  have HCZ := hide hcz
  clear h hcz
  obtain ⟨u9, t9⟩ : ∃ u9, decide (cz < 0) = u9 := ⟨_, rfl⟩
  have t8 : decide (0 ≤ cz) = !u9 := by
    rw [← t9]
    rcases Int.lt_or_le cz 0 with h | h
    · rw [decide_eq_true h, decide_eq_false (by omega)]; rfl
    · rw [decide_eq_true h, decide_eq_false (by omega)]; rfl
  rw [t9] at hc
  have HC := hide hc
  clear hc
  obtain ⟨W0, hW0⟩ : ∃ W0, W0 = w.alloc (Obj.cells #[Value.bool sx, Value.slice A1 n1 c1, Value.bool sx', Value.slice A2 n2 c2] 37) := ⟨_, rfl⟩
  obtain ⟨hb0, r1, hsz0⟩ := boxes1 w [.bool sx, .slice A1 n1 c1, .bool sx', .slice A2 n2 c2] 37 hW0
  have B0 := hide hb0; have HW0 := hide hW0
  have hr1 := r1.drew
  have HT1 : Hid (∀ w', Later W0.drew w' → w'.cell? ⟨w.heap.size, 0, none⟩ = some (.bool sx) ∧ w'.cell? ⟨w.heap.size, 1, none⟩ = some (.slice A1 n1 c1) ∧ w'.cell? ⟨w.heap.size, 2, none⟩ = some (.bool sx') ∧ w'.cell? ⟨w.heap.size, 3, none⟩ = some (.slice A2 n2 c2)) :=
    hide fun w' hb => ⟨(hr1.later hb).cell rfl, (hr1.later hb).cell rfl, (hr1.later hb).cell rfl, (hr1.later hb).cell rfl⟩
  clear r1 hb0 hW0 hr1
  go_enter Tryz.func119, Tryz.ntmps119
  go_upto_region 1 with fail
  rw [← HW0.out]
  have hmx : Tryz.prog.follows .mixedOrders = true := by kernel_rfl
  cases f with
  | false =>
    refine wp_region_N (fun w' => w'.cell? ⟨w.heap.size, 0, none⟩ = some (.bool sx) ∧ w'.cell? ⟨w.heap.size, 1, none⟩ = some (.slice A1 n1 c1) ∧ w'.cell? ⟨w.heap.size, 2, none⟩ = some (.bool sx') ∧ w'.cell? ⟨w.heap.size, 3, none⟩ = some (.slice A2 n2 c2)) [] hmx (HT1.out _ (Later.refl _)) (fun hHeld => ?_)
    refine wpAnyN_takeD (some 3) (by rfl) (i := 0) (oi := _) (v := ?_) rfl (by kernel_rfl) (by kernel_rfl) (by kernel_rfl) (by kernel_rfl) (fun _ _ _ h => h) (Or.inl ⟨by rfl, ?_⟩) (by assumption) ?_
    rotate_left
    · intro w hSw; (try dsimp only at hSw); go_simp
      first | done | with_reducible rfl
    try simp only [Act.put, List.setIfInBounds_toArray, List.set_cons_zero, List.set_cons_succ]
    refine wpAnyN_ready (rs := [1]) (by kernel_rfl) (by simp) ?_
    refine AllReadyN.held rfl (by rfl) (fun K hK => ?_) AllReadyN.nil
    go_simp
    refine (rtmay_calls _ _ _ (EFlag.later _ _ _ _ HF.out (B0.out.drew.trans (Later.refl W0.drew)))).mono ?_
    rintro e w1 ⟨rfl, b1⟩
    rw [flag_ne]
    refine hK.out _ _ ?_ (fun hHeld => ?_)
    · exact HT1.out _ ((Later.refl W0.drew).trans b1)
    clear hK K
    try simp only [Act.put, List.setIfInBounds_toArray, List.set_cons_zero, List.set_cons_succ]
    refine wpAnyN_takeD (some 5) (by rfl) (i := 2) (oi := _) (v := ?_) rfl (by kernel_rfl) (by kernel_rfl) (by kernel_rfl) (by kernel_rfl) (fun _ _ _ h => h) (Or.inl ⟨by rfl, ?_⟩) (by assumption) ?_
    rotate_left
    · intro w hSw; (try dsimp only at hSw); go_simp
      first | done | with_reducible rfl
    try simp only [Act.put, List.setIfInBounds_toArray, List.set_cons_zero, List.set_cons_succ]
    refine wpAnyN_takeD (some 6) (by rfl) (i := 3) (oi := _) (v := ?_) rfl (by kernel_rfl) (by kernel_rfl) (by kernel_rfl) (by kernel_rfl) (fun _ _ _ h => h) (Or.inl ⟨by rfl, ?_⟩) (by assumption) ?_
    rotate_left
    · intro w hSw; (try dsimp only at hSw); go_simp
      first | done | with_reducible rfl
    try simp only [Act.put, List.setIfInBounds_toArray, List.set_cons_zero, List.set_cons_succ]
    refine wpAnyN_takeD (some 7) (by rfl) (i := 4) (oi := _) (v := undef) rfl (by kernel_rfl) (by kernel_rfl) (by kernel_rfl) (by kernel_rfl) (fun _ _ _ h => h) (Or.inr ⟨by rfl, rfl⟩) (by assumption) ?_
    try simp only [Act.put, List.setIfInBounds_toArray, List.set_cons_zero, List.set_cons_succ]
    refine wpAnyN_takeD (some 8) (by rfl) (i := 5) (oi := _) (v := undef) rfl (by kernel_rfl) (by kernel_rfl) (by kernel_rfl) (by kernel_rfl) (fun _ _ _ h => h) (Or.inr ⟨by rfl, rfl⟩) (by assumption) ?_
    try simp only [Act.put, List.setIfInBounds_toArray, List.set_cons_zero, List.set_cons_succ]
    refine wpAnyN_takeD (some 9) (by rfl) (i := 6) (oi := _) (v := undef) rfl (by kernel_rfl) (by kernel_rfl) (by kernel_rfl) (by kernel_rfl) (fun _ _ _ h => h) (Or.inr ⟨by rfl, rfl⟩) (by assumption) ?_
    try simp only [Act.put, List.setIfInBounds_toArray, List.set_cons_zero, List.set_cons_succ]
    refine wpAnyN_takeD (some 10) (by rfl) (i := 7) (oi := _) (v := undef) rfl (by kernel_rfl) (by kernel_rfl) (by kernel_rfl) (by kernel_rfl) (fun _ _ _ h => h) (Or.inr ⟨by rfl, rfl⟩) (by assumption) ?_
    try simp only [Act.put, List.setIfInBounds_toArray, List.set_cons_zero, List.set_cons_succ]
    refine wpAnyN_takeD (some 11) (by rfl) (i := 8) (oi := _) (v := ?_) rfl (by kernel_rfl) (by kernel_rfl) (by kernel_rfl) (by kernel_rfl) (fun _ _ _ h => h) (Or.inl ⟨by rfl, ?_⟩) (by assumption) ?_
    rotate_left
    · intro w hSw; (try dsimp only at hSw); go_simp
      first | done | with_reducible rfl
    try simp only [Act.put, List.setIfInBounds_toArray, List.set_cons_zero, List.set_cons_succ]
    refine wpAnyN_takeD (some 2) (by rfl) (i := 9) (oi := _) (v := ?_) rfl (by kernel_rfl) (by kernel_rfl) (by kernel_rfl) (by kernel_rfl) (fun _ _ _ h => h) (Or.inl ⟨by rfl, ?_⟩) (by assumption) ?_
    rotate_left
    · intro w hSw; (try dsimp only at hSw); go_simp
      first | done | with_reducible rfl
    try simp only [Act.put, List.setIfInBounds_toArray, List.set_cons_zero, List.set_cons_succ]
    refine wpAnyN_done (by kernel_rfl) ?_ _
    have HL := hide (B0.out.drew.trans ((Later.refl W0.drew).trans b1))
    clear hHeld
    go_wp2_with fail
    go_ret
    exact ⟨by rw [← HC.out]; rfl, HL.out⟩
  | true =>
    refine wp_region_N (fun w' => w'.cell? ⟨w.heap.size, 0, none⟩ = some (.bool sx) ∧ w'.cell? ⟨w.heap.size, 1, none⟩ = some (.slice A1 n1 c1) ∧ w'.cell? ⟨w.heap.size, 2, none⟩ = some (.bool sx') ∧ w'.cell? ⟨w.heap.size, 3, none⟩ = some (.slice A2 n2 c2)) [] hmx (HT1.out _ (Later.refl _)) (fun hHeld => ?_)
    refine wpAnyN_takeD (some 3) (by rfl) (i := 0) (oi := _) (v := ?_) rfl (by kernel_rfl) (by kernel_rfl) (by kernel_rfl) (by kernel_rfl) (fun _ _ _ h => h) (Or.inl ⟨by rfl, ?_⟩) (by assumption) ?_
    rotate_left
    · intro w hSw; (try dsimp only at hSw); go_simp
      first | done | with_reducible rfl
    try simp only [Act.put, List.setIfInBounds_toArray, List.set_cons_zero, List.set_cons_succ]
    refine wpAnyN_ready (rs := [1]) (by kernel_rfl) (by simp) ?_
    refine AllReadyN.held rfl (by rfl) (fun K hK => ?_) AllReadyN.nil
    go_simp
    refine (rtmay_calls _ _ _ (EFlag.later _ _ _ _ HF.out (B0.out.drew.trans (Later.refl W0.drew)))).mono ?_
    rintro e w1 ⟨rfl, b1⟩
    rw [flag_ne]
    refine hK.out _ _ ?_ (fun hHeld => ?_)
    · exact HT1.out _ ((Later.refl W0.drew).trans b1)
    clear hK K
    try simp only [Act.put, List.setIfInBounds_toArray, List.set_cons_zero, List.set_cons_succ]
    refine wpAnyN_takeD (some 5) (by rfl) (i := 2) (oi := _) (v := ?_) rfl (by kernel_rfl) (by kernel_rfl) (by kernel_rfl) (by kernel_rfl) (fun _ _ _ h => h) (Or.inl ⟨by rfl, ?_⟩) (by assumption) ?_
    rotate_left
    · intro w hSw; (try dsimp only at hSw); go_simp
      first | done | with_reducible rfl
    try simp only [Act.put, List.setIfInBounds_toArray, List.set_cons_zero, List.set_cons_succ]
    refine wpAnyN_takeD (some 6) (by rfl) (i := 3) (oi := _) (v := ?_) rfl (by kernel_rfl) (by kernel_rfl) (by kernel_rfl) (by kernel_rfl) (fun _ _ _ h => h) (Or.inl ⟨by rfl, ?_⟩) (by assumption) ?_
    rotate_left
    · intro w hSw; (try dsimp only at hSw); go_simp
      first | done | with_reducible rfl
    try simp only [Act.put, List.setIfInBounds_toArray, List.set_cons_zero, List.set_cons_succ]
    refine wpAnyN_takeD (some 7) (by rfl) (i := 4) (oi := _) (v := ?_) rfl (by kernel_rfl) (by kernel_rfl) (by kernel_rfl) (by kernel_rfl) (fun _ _ _ h => h) (Or.inl ⟨by rfl, ?_⟩) (by assumption) ?_
    rotate_left
    · intro w hSw; (try dsimp only at hSw); go_simp
      first | done | with_reducible rfl
    try simp only [Act.put, List.setIfInBounds_toArray, List.set_cons_zero, List.set_cons_succ]
    refine wpAnyN_ready (rs := [5]) (by kernel_rfl) (by simp) ?_
    refine AllReadyN.held rfl (by rfl) (fun K hK => ?_) AllReadyN.nil
    go_simp
    refine (plzero_calls _).mono ?_
    rintro e w5 ⟨v5, rfl, o5, b5⟩
    obtain ⟨s5, P5, q5, e5, P5', q5', e5', rfl, o5⟩ := o5.open_; have O5 := hide o5; clear o5
    refine hK.out _ _ ?_ (fun hHeld => ?_)
    · exact HT1.out _ (((Later.refl W0.drew).trans b1).trans b5)
    clear hK K
    try simp only [Act.put, List.setIfInBounds_toArray, List.set_cons_zero, List.set_cons_succ]
    refine wpAnyN_ready (rs := [6]) (by kernel_rfl) (by simp) ?_
    refine AllReadyN.held rfl (by rfl) (fun K hK => ?_) AllReadyN.nil
    go_simp
    refine (rcmp_calls _ _ _ q 0 12 1 (RawR.later H.out (B0.out.drew.trans (((Later.refl W0.drew).trans b1).trans b5))) (OwnR.raw O5.out sized_0) (by omega)).mono ?_
    rintro e w6 ⟨rfl, b6⟩
    rw [HCZ.out]
    refine hK.out _ _ ?_ (fun hHeld => ?_)
    · exact HT1.out _ ((((Later.refl W0.drew).trans b1).trans b5).trans b6)
    clear hK K
    try simp only [Act.put, List.setIfInBounds_toArray, List.set_cons_zero, List.set_cons_succ]
    refine wpAnyN_takeD (some 10) (by rfl) (i := 7) (oi := _) (v := ?_) rfl (by kernel_rfl) (by kernel_rfl) (by kernel_rfl) (by kernel_rfl) (fun _ _ _ h => h) (Or.inl ⟨by rfl, ?_⟩) (by assumption) ?_
    rotate_left
    · intro w hSw; (try dsimp only at hSw); go_simp
      first | done | with_reducible rfl
    try simp only [Act.put, List.setIfInBounds_toArray, List.set_cons_zero, List.set_cons_succ]
    refine wpAnyN_takeD (some 11) (by rfl) (i := 8) (oi := _) (v := ?_) rfl (by kernel_rfl) (by kernel_rfl) (by kernel_rfl) (by kernel_rfl) (fun _ _ _ h => h) (Or.inl ⟨by rfl, ?_⟩) (by assumption) ?_
    rotate_left
    · intro w hSw; (try dsimp only at hSw); go_simp
      first | done | with_reducible rfl
    try simp only [Act.put, List.setIfInBounds_toArray, List.set_cons_zero, List.set_cons_succ]
    refine wpAnyN_takeD (some 2) (by rfl) (i := 9) (oi := _) (v := ?_) rfl (by kernel_rfl) (by kernel_rfl) (by kernel_rfl) (by kernel_rfl) (fun _ _ _ h => h) (Or.inl ⟨by rfl, ?_⟩) (by assumption) ?_
    rotate_left
    · intro w hSw; (try dsimp only at hSw); go_simp
      first | done | with_reducible rfl
    try simp only [Act.put, List.setIfInBounds_toArray, List.set_cons_zero, List.set_cons_succ]
    refine wpAnyN_done (by kernel_rfl) ?_ _
    have HL := hide (B0.out.drew.trans ((((Later.refl W0.drew).trans b1).trans b5).trans b6))
    clear hHeld
    go_wp2_with fail
    go_ret
    exact ⟨by rw [← HC.out]; rfl, HL.out⟩

set_option maxHeartbeats 2000000 in
theorem rcost_calls (w : World) (v : Value) (q : Rat) (f : Bool) (h : ENum 12 w v q f) :
    Calls Tryz.prog 125 #[v] w (RetV w (.bool (costB q f))) := by
  have H := hide h.1; have HF := hide h.2
  obtain ⟨sx, A1, n1, c1, sx', A2, n2, c2, rfl⟩ := h.1.open_
  obtain ⟨cz, hcz⟩ : ∃ cz, cmpQ q 0 = cz := ⟨_, rfl⟩
  have hc := cost_neg (f := f) hcz
  have HCZ := hide hcz
  clear h hcz
  obtain ⟨u9, t9⟩ : ∃ u9, decide (cz < 0) = u9 := ⟨_, rfl⟩
  have t8 : decide (0 ≤ cz) = !u9 := by
    rw [← t9]
    rcases Int.lt_or_le cz 0 with h | h
    · rw [decide_eq_true h, decide_eq_false (by omega)]; rfl
    · rw [decide_eq_true h, decide_eq_false (by omega)]; rfl
  rw [t9] at hc
  have HC := hide hc
  clear hc
  obtain ⟨W0, hW0⟩ : ∃ W0, W0 = w.alloc (Obj.cells #[Value.bool sx, Value.slice A1 n1 c1, Value.bool sx', Value.slice A2 n2 c2] 37) := ⟨_, rfl⟩
  obtain ⟨hb0, r1, hsz0⟩ := boxes1 w [.bool sx, .slice A1 n1 c1, .bool sx', .slice A2 n2 c2] 37 hW0
  have B0 := hide hb0; have HW0 := hide hW0
  have hr1 := r1.drew
  have HT1 : Hid (∀ w', Later W0.drew w' → w'.cell? ⟨w.heap.size, 0, none⟩ = some (.bool sx) ∧ w'.cell? ⟨w.heap.size, 1, none⟩ = some (.slice A1 n1 c1) ∧ w'.cell? ⟨w.heap.size, 2, none⟩ = some (.bool sx') ∧ w'.cell? ⟨w.heap.size, 3, none⟩ = some (.slice A2 n2 c2)) :=
    hide fun w' hb => ⟨(hr1.later hb).cell rfl, (hr1.later hb).cell rfl, (hr1.later hb).cell rfl, (hr1.later hb).cell rfl⟩
  clear r1 hb0 hW0 hr1
  go_enter Tryz.func125, Tryz.ntmps125
  go_upto_region 1 with fail
  rw [← HW0.out]
  have hmx : Tryz.prog.follows .mixedOrders = true := by kernel_rfl
  cases f with
  | false =>
    refine wp_region_N (fun w' => w'.cell? ⟨w.heap.size, 0, none⟩ = some (.bool sx) ∧ w'.cell? ⟨w.heap.size, 1, none⟩ = some (.slice A1 n1 c1) ∧ w'.cell? ⟨w.heap.size, 2, none⟩ = some (.bool sx') ∧ w'.cell? ⟨w.heap.size, 3, none⟩ = some (.slice A2 n2 c2)) [] hmx (HT1.out _ (Later.refl _)) (fun hHeld => ?_)
    refine wpAnyN_takeD (some 3) (by rfl) (i := 0) (oi := _) (v := ?_) rfl (by kernel_rfl) (by kernel_rfl) (by kernel_rfl) (by kernel_rfl) (fun _ _ _ h => h) (Or.inl ⟨by rfl, ?_⟩) (by assumption) ?_
    rotate_left
    · intro w hSw; (try dsimp only at hSw); go_simp
      first | done | with_reducible rfl
    try simp only [Act.put, List.setIfInBounds_toArray, List.set_cons_zero, List.set_cons_succ]
    refine wpAnyN_ready (rs := [1]) (by kernel_rfl) (by simp) ?_
    refine AllReadyN.held rfl (by rfl) (fun K hK => ?_) AllReadyN.nil
    go_simp
    refine (rmay_flag _ _ _ (EFlag.later _ _ _ _ HF.out (B0.out.drew.trans (Later.refl W0.drew)))).mono ?_
    rintro e w1 ⟨rfl, b1⟩
    rw [flag_ne]
    refine hK.out _ _ ?_ (fun hHeld => ?_)
    · exact HT1.out _ ((Later.refl W0.drew).trans b1)
    clear hK K
    try simp only [Act.put, List.setIfInBounds_toArray, List.set_cons_zero, List.set_cons_succ]
    refine wpAnyN_takeD (some 5) (by rfl) (i := 2) (oi := _) (v := ?_) rfl (by kernel_rfl) (by kernel_rfl) (by kernel_rfl) (by kernel_rfl) (fun _ _ _ h => h) (Or.inl ⟨by rfl, ?_⟩) (by assumption) ?_
    rotate_left
    · intro w hSw; (try dsimp only at hSw); go_simp
      first | done | with_reducible rfl
    try simp only [Act.put, List.setIfInBounds_toArray, List.set_cons_zero, List.set_cons_succ]
    refine wpAnyN_takeD (some 6) (by rfl) (i := 3) (oi := _) (v := undef) rfl (by kernel_rfl) (by kernel_rfl) (by kernel_rfl) (by kernel_rfl) (fun _ _ _ h => h) (Or.inr ⟨by rfl, rfl⟩) (by assumption) ?_
    try simp only [Act.put, List.setIfInBounds_toArray, List.set_cons_zero, List.set_cons_succ]
    refine wpAnyN_takeD (some 7) (by rfl) (i := 4) (oi := _) (v := undef) rfl (by kernel_rfl) (by kernel_rfl) (by kernel_rfl) (by kernel_rfl) (fun _ _ _ h => h) (Or.inr ⟨by rfl, rfl⟩) (by assumption) ?_
    try simp only [Act.put, List.setIfInBounds_toArray, List.set_cons_zero, List.set_cons_succ]
    refine wpAnyN_takeD (some 8) (by rfl) (i := 5) (oi := _) (v := undef) rfl (by kernel_rfl) (by kernel_rfl) (by kernel_rfl) (by kernel_rfl) (fun _ _ _ h => h) (Or.inr ⟨by rfl, rfl⟩) (by assumption) ?_
    try simp only [Act.put, List.setIfInBounds_toArray, List.set_cons_zero, List.set_cons_succ]
    refine wpAnyN_takeD (some 9) (by rfl) (i := 6) (oi := _) (v := undef) rfl (by kernel_rfl) (by kernel_rfl) (by kernel_rfl) (by kernel_rfl) (fun _ _ _ h => h) (Or.inr ⟨by rfl, rfl⟩) (by assumption) ?_
    try simp only [Act.put, List.setIfInBounds_toArray, List.set_cons_zero, List.set_cons_succ]
    refine wpAnyN_takeD (some 10) (by rfl) (i := 7) (oi := _) (v := ?_) rfl (by kernel_rfl) (by kernel_rfl) (by kernel_rfl) (by kernel_rfl) (fun _ _ _ h => h) (Or.inl ⟨by rfl, ?_⟩) (by assumption) ?_
    rotate_left
    · intro w hSw; (try dsimp only at hSw); go_simp
      first | done | with_reducible rfl
    try simp only [Act.put, List.setIfInBounds_toArray, List.set_cons_zero, List.set_cons_succ]
    refine wpAnyN_takeD (some 2) (by rfl) (i := 8) (oi := _) (v := ?_) rfl (by kernel_rfl) (by kernel_rfl) (by kernel_rfl) (by kernel_rfl) (fun _ _ _ h => h) (Or.inl ⟨by rfl, ?_⟩) (by assumption) ?_
    rotate_left
    · intro w hSw; (try dsimp only at hSw); go_simp
      first | done | with_reducible rfl
    try simp only [Act.put, List.setIfInBounds_toArray, List.set_cons_zero, List.set_cons_succ]
    refine wpAnyN_done (by kernel_rfl) ?_ _
    have HL := hide (B0.out.drew.trans ((Later.refl W0.drew).trans b1))
    clear hHeld
    go_wp2_with fail
    go_ret
    exact ⟨by have := HC.out; cases hb : costB q _ <;> rw [hb] at this <;> simp_all, HL.out⟩
  | true =>
    refine wp_region_N (fun w' => w'.cell? ⟨w.heap.size, 0, none⟩ = some (.bool sx) ∧ w'.cell? ⟨w.heap.size, 1, none⟩ = some (.slice A1 n1 c1) ∧ w'.cell? ⟨w.heap.size, 2, none⟩ = some (.bool sx') ∧ w'.cell? ⟨w.heap.size, 3, none⟩ = some (.slice A2 n2 c2)) [] hmx (HT1.out _ (Later.refl _)) (fun hHeld => ?_)
    refine wpAnyN_takeD (some 3) (by rfl) (i := 0) (oi := _) (v := ?_) rfl (by kernel_rfl) (by kernel_rfl) (by kernel_rfl) (by kernel_rfl) (fun _ _ _ h => h) (Or.inl ⟨by rfl, ?_⟩) (by assumption) ?_
    rotate_left
    · intro w hSw; (try dsimp only at hSw); go_simp
      first | done | with_reducible rfl
    try simp only [Act.put, List.setIfInBounds_toArray, List.set_cons_zero, List.set_cons_succ]
    refine wpAnyN_ready (rs := [1]) (by kernel_rfl) (by simp) ?_
    refine AllReadyN.held rfl (by rfl) (fun K hK => ?_) AllReadyN.nil
    go_simp
    refine (rmay_flag _ _ _ (EFlag.later _ _ _ _ HF.out (B0.out.drew.trans (Later.refl W0.drew)))).mono ?_
    rintro e w1 ⟨rfl, b1⟩
    rw [flag_ne]
    refine hK.out _ _ ?_ (fun hHeld => ?_)
    · exact HT1.out _ ((Later.refl W0.drew).trans b1)
    clear hK K
    try simp only [Act.put, List.setIfInBounds_toArray, List.set_cons_zero, List.set_cons_succ]
    refine wpAnyN_takeD (some 5) (by rfl) (i := 2) (oi := _) (v := ?_) rfl (by kernel_rfl) (by kernel_rfl) (by kernel_rfl) (by kernel_rfl) (fun _ _ _ h => h) (Or.inl ⟨by rfl, ?_⟩) (by assumption) ?_
    rotate_left
    · intro w hSw; (try dsimp only at hSw); go_simp
      first | done | with_reducible rfl
    try simp only [Act.put, List.setIfInBounds_toArray, List.set_cons_zero, List.set_cons_succ]
    refine wpAnyN_takeD (some 6) (by rfl) (i := 3) (oi := _) (v := ?_) rfl (by kernel_rfl) (by kernel_rfl) (by kernel_rfl) (by kernel_rfl) (fun _ _ _ h => h) (Or.inl ⟨by rfl, ?_⟩) (by assumption) ?_
    rotate_left
    · intro w hSw; (try dsimp only at hSw); go_simp
      first | done | with_reducible rfl
    try simp only [Act.put, List.setIfInBounds_toArray, List.set_cons_zero, List.set_cons_succ]
    refine wpAnyN_ready (rs := [4]) (by kernel_rfl) (by simp) ?_
    refine AllReadyN.held rfl (by rfl) (fun K hK => ?_) AllReadyN.nil
    go_simp
    refine (qzero_calls _).mono ?_
    rintro e w4 ⟨v4, rfl, o4, b4⟩
    obtain ⟨s4, P4, q4, e4, P4', q4', e4', rfl, o4⟩ := o4.open_; have O4 := hide o4; clear o4
    refine hK.out _ _ ?_ (fun hHeld => ?_)
    · exact HT1.out _ (((Later.refl W0.drew).trans b1).trans b4)
    clear hK K
    try simp only [Act.put, List.setIfInBounds_toArray, List.set_cons_zero, List.set_cons_succ]
    refine wpAnyN_ready (rs := [5]) (by kernel_rfl) (by simp) ?_
    refine AllReadyN.held rfl (by rfl) (fun K hK => ?_) AllReadyN.nil
    go_simp
    refine (qcmp_calls _ _ _ q 0 12 1 (RawR.later H.out (B0.out.drew.trans (((Later.refl W0.drew).trans b1).trans b4))) (OwnR.raw O4.out sized_0) (by omega)).mono ?_
    rintro e w5 ⟨rfl, b5⟩
    rw [HCZ.out]
    refine hK.out _ _ ?_ (fun hHeld => ?_)
    · exact HT1.out _ ((((Later.refl W0.drew).trans b1).trans b4).trans b5)
    clear hK K
    try simp only [Act.put, List.setIfInBounds_toArray, List.set_cons_zero, List.set_cons_succ]
    refine wpAnyN_takeD (some 9) (by rfl) (i := 6) (oi := _) (v := ?_) rfl (by kernel_rfl) (by kernel_rfl) (by kernel_rfl) (by kernel_rfl) (fun _ _ _ h => h) (Or.inl ⟨by rfl, ?_⟩) (by assumption) ?_
    rotate_left
    · intro w hSw; (try dsimp only at hSw); go_simp
      first | done | with_reducible rfl
    try simp only [Act.put, List.setIfInBounds_toArray, List.set_cons_zero, List.set_cons_succ]
    refine wpAnyN_takeD (some 10) (by rfl) (i := 7) (oi := _) (v := ?_) rfl (by kernel_rfl) (by kernel_rfl) (by kernel_rfl) (by kernel_rfl) (fun _ _ _ h => h) (Or.inl ⟨by rfl, ?_⟩) (by assumption) ?_
    rotate_left
    · intro w hSw; (try dsimp only at hSw); go_simp
      first | done | with_reducible rfl
    try simp only [Act.put, List.setIfInBounds_toArray, List.set_cons_zero, List.set_cons_succ]
    refine wpAnyN_takeD (some 2) (by rfl) (i := 8) (oi := _) (v := ?_) rfl (by kernel_rfl) (by kernel_rfl) (by kernel_rfl) (by kernel_rfl) (fun _ _ _ h => h) (Or.inl ⟨by rfl, ?_⟩) (by assumption) ?_
    rotate_left
    · intro w hSw; (try dsimp only at hSw); go_simp
      first | done | with_reducible rfl
    try simp only [Act.put, List.setIfInBounds_toArray, List.set_cons_zero, List.set_cons_succ]
    refine wpAnyN_done (by kernel_rfl) ?_ _
    have HL := hide (B0.out.drew.trans ((((Later.refl W0.drew).trans b1).trans b4).trans b5))
    clear hHeld
    go_wp2_with fail
    go_ret
    exact ⟨by have := HC.out; cases hb : costB q _ <;> rw [hb] at this <;> simp_all, HL.out⟩

theorem rats_three {E : Elem} {w : World} {g : Nat} {s1 s1' s2 s2' s3 s3' : Bool} {A1 A1' A2 A2' A3 A3' : Option Addr} {n1 c1 n1' c1' n2 c2 n2' c2' n3 c3 n3' c3' : Nat} {p q r : Rat} (hr : Row w g 37 [.bool s1, .slice A1 n1 c1, .bool s1', .slice A1' n1' c1', .bool s2, .slice A2 n2 c2, .bool s2', .slice A2' n2' c2', .bool s3, .slice A3 n3 c3, .bool s3', .slice A3' n3' c3'])
    (h : E w (.agg #[.bool s1, .slice A1 n1 c1, .bool s1', .slice A1' n1' c1']) p) (k : E w (.agg #[.bool s2, .slice A2 n2 c2, .bool s2', .slice A2' n2' c2']) q) (m : E w (.agg #[.bool s3, .slice A3 n3 c3, .bool s3', .slice A3' n3' c3']) r) :
    Rats E w (.slice (some ⟨g, 0, none⟩) 3 3) [p, q, r] := by
  refine ⟨_, 3, rfl, Nat.le_refl _, by decide, fun i q' hi => ?_⟩
  match i, hi with
  | 0, hi => simp at hi; subst hi; exact ⟨g, 0, s1, A1, n1, c1, s1', A1', n1', c1', rfl, hr.cell rfl, hr.cell rfl, hr.cell rfl, hr.cell rfl, h⟩
  | 1, hi => simp at hi; subst hi; exact ⟨g, 0, s2, A2, n2, c2, s2', A2', n2', c2', rfl, hr.cell rfl, hr.cell rfl, hr.cell rfl, hr.cell rfl, k⟩
  | 2, hi => simp at hi; subst hi; exact ⟨g, 0, s3, A3, n3, c3, s3', A3', n3', c3', rfl, hr.cell rfl, hr.cell rfl, hr.cell rfl, hr.cell rfl, m⟩
  | i+3, hi => simp at hi
/-- whether a number may be a cost, as a number: 1, or 0 -/
def ECost : Elem := fun w v x => ∃ q f, ENum 12 w v q f ∧ x = if costB q f then 1 else 0
theorem ECost.later (w w' : World) (v : Value) (q : Rat) (h : ECost w v q) (hb : Later w w') : ECost w' v q := by
  obtain ⟨x, f, h1, h2⟩ := h; exact ⟨x, f, h1.later hb, h2⟩
theorem head11c_calls (w : World) (v : Value) (x : Rat) (h : ECost w v x) : Calls Tryz.prog 119 #[v] w (RetV w (.bool (decide (x = 0)))) := by
  obtain ⟨q, f, h1, rfl⟩ := h
  refine (head11_calls w v q f h1).mono ?_
  rintro e w1 ⟨rfl, b1⟩
  exact ⟨by cases costB q f <;> simp, b1⟩
theorem okB_any (x : PItem) : [(if costB x.s x.sf then (1 : Rat) else 0), if costB x.h x.hf then 1 else 0, if costB x.b x.bf then 1 else 0].any (fun y => decide (y = 0)) = !x.okB := by
  unfold PItem.okB
  cases costB x.s x.sf <;> cases costB x.h x.hf <;> cases costB x.b x.bf <;> simp

set_option maxHeartbeats 2000000 in
theorem head1_calls (w : World) (e1 e2 e3 : ICells) (x : PItem) (h1 : ENum 12 w (.agg #[.bool e1.a, .slice e1.A e1.n e1.c, .bool e1.a', .slice e1.A' e1.n' e1.c']) x.s x.sf) (h2 : ENum 12 w (.agg #[.bool e2.a, .slice e2.A e2.n e2.c, .bool e2.a', .slice e2.A' e2.n' e2.c']) x.h x.hf) (h3 : ENum 12 w (.agg #[.bool e3.a, .slice e3.A e3.n e3.c, .bool e3.a', .slice e3.A' e3.n' e3.c']) x.b x.bf) :
    Calls Tryz.prog 117 #[.agg #[.bool e1.a, .slice e1.A e1.n e1.c, .bool e1.a', .slice e1.A' e1.n' e1.c', .bool e2.a, .slice e2.A e2.n e2.c, .bool e2.a', .slice e2.A' e2.n' e2.c', .bool e3.a, .slice e3.A e3.n e3.c, .bool e3.a', .slice e3.A' e3.n' e3.c']] w (RetV w (.bool (!x.okB))) := by
  have H1 := hide h1; have H2 := hide h2; have H3 := hide h3
  clear h1 h2 h3
  obtain ⟨W0, hW0⟩ : ∃ W0, W0 = (w.alloc (Obj.cells #[Value.bool e1.a, Value.slice e1.A e1.n e1.c, Value.bool e1.a', Value.slice e1.A' e1.n' e1.c', Value.bool e2.a, Value.slice e2.A e2.n e2.c, Value.bool e2.a', Value.slice e2.A' e2.n' e2.c', Value.bool e3.a, Value.slice e3.A e3.n e3.c, Value.bool e3.a', Value.slice e3.A' e3.n' e3.c'] 62)) := ⟨_, rfl⟩
  obtain ⟨hb0, r0, hsz0⟩ := boxes1 w [.bool e1.a, .slice e1.A e1.n e1.c, .bool e1.a', .slice e1.A' e1.n' e1.c', .bool e2.a, .slice e2.A e2.n e2.c, .bool e2.a', .slice e2.A' e2.n' e2.c', .bool e3.a, .slice e3.A e3.n e3.c, .bool e3.a', .slice e3.A' e3.n' e3.c'] 62 hW0
  have B0 := hide hb0; have HW0 := hide hW0
  have R0 := hide r0
  clear hb0 hW0 hsz0 r0
  go_enter Tryz.func117, Tryz.ntmps117
  go_upto_region 1 with fail
  rw [← HW0.out]
  have r_d := R0.out.later (Later.refl W0)
  have d0 := r_d.cell (i := 0) rfl; have d1 := r_d.cell (i := 1) rfl; have d2 := r_d.cell (i := 2) rfl; have d3 := r_d.cell (i := 3) rfl; have d4 := r_d.cell (i := 4) rfl; have d5 := r_d.cell (i := 5) rfl; have d6 := r_d.cell (i := 6) rfl; have d7 := r_d.cell (i := 7) rfl; have d8 := r_d.cell (i := 8) rfl; have d9 := r_d.cell (i := 9) rfl; have d10 := r_d.cell (i := 10) rfl; have d11 := r_d.cell (i := 11) rfl
  clear r_d
  go_wp2_with fail
  have hL : Later W0 (W0.alloc (Obj.cells #[Value.bool e1.a, Value.slice e1.A e1.n e1.c, Value.bool e1.a', Value.slice e1.A' e1.n' e1.c', Value.bool e2.a, Value.slice e2.A e2.n e2.c, Value.bool e2.a', Value.slice e2.A' e2.n' e2.c', Value.bool e3.a, Value.slice e3.A e3.n e3.c, Value.bool e3.a', Value.slice e3.A' e3.n' e3.c'] 37)) := (Later.refl W0).alloc _
  have hrow := Row.new W0 37 [.bool e1.a, .slice e1.A e1.n e1.c, .bool e1.a', .slice e1.A' e1.n' e1.c', .bool e2.a, .slice e2.A e2.n e2.c, .bool e2.a', .slice e2.A' e2.n' e2.c', .bool e3.a, .slice e3.A e3.n e3.c, .bool e3.a', .slice e3.A' e3.n' e3.c']
  have HL := hide hL; have HR := hide hrow
  clear hL hrow d0 d1 d2 d3 d4 d5 d6 d7 d8 d9 d10 d11
  refine (contq_calls _ _ _ ECost ECost.later (rats_three HR.out ⟨_, _, H1.out.later (B0.out.trans HL.out), rfl⟩ ⟨_, _, H2.out.later (B0.out.trans HL.out), rfl⟩ ⟨_, _, H3.out.later (B0.out.trans HL.out), rfl⟩) (by simp) _ ⟨fun _ _ => by kernel_rfl⟩ (fun y => decide (y = 0)) (fun W xv y _ hy _ => head11c_calls W xv y hy) _ (okB_any x)).mono ?_
  rintro e w1 ⟨rfl, b1⟩
  have HB := hide (B0.out.trans (HL.out.trans b1))
  clear b1
  go_wp2_with fail
  go_ret
  exact ⟨rfl, HB.out⟩

set_option maxHeartbeats 2000000 in
theorem head2_calls (w : World) (x : Int) :
    Calls Tryz.prog 122 #[.int .i64 x] w (RetV w (.bool (!decide (0 ≤ x ∧ x ≤ 100)))) := by
  obtain ⟨u, t1⟩ : ∃ u, decide (0 ≤ x ∧ x ≤ 100) = u := ⟨_, rfl⟩
  rw [t1]
  go_enter Tryz.func122, Tryz.ntmps122
  go_wp2_with ((with_reducible refine (pin_calls _ _ _ _ u t1).mono ?_); rintro e w1 ⟨rfl, rfl⟩)
  go_ret
  exact ⟨rfl, Later.refl w⟩

theorem BookIn.lens {w : World} {A1 A2 A3 A4 : Option Addr} {n1 n2 n3 n4 c1 c2 c3 c4 : Nat} {D : PBook} (h : BookIn w (.slice A1 n1 c1) (.slice A2 n2 c2) (.slice A3 n3 c3) (.slice A4 n4 c4) D) :
    n1 = D.items.length ∧ n2 = D.caps.length ∧ n3 = D.ords.length ∧ n4 = D.mks.length := by
  obtain ⟨_, _, _, e1, h1, -⟩ := h.its.form
  obtain ⟨_, _, _, e2, h2, -⟩ := h.caps.form
  obtain ⟨_, _, _, e3, h3, -⟩ := h.ords.form
  obtain ⟨_, _, _, e4, h4, -⟩ := h.mks.form
  injection e1 with _ e1 _; injection e2 with _ e2 _; injection e3 with _ e3 _; injection e4 with _ e4 _
  exact ⟨e1.trans h1, e2.trans h2, e3.trans h3, e4.trans h4⟩
theorem any_not_all {α : Type} {p : α → Bool} {l : List α} {u : Bool} (h : l.any (fun x => !p x) = u) : u = false ↔ ∀ x ∈ l, p x = true := by
  rw [← h, List.any_eq_false]
  constructor <;> intro h x hx <;> have := h x hx <;> simpa using this
end Go.Proofs.YthncinngkfflgaaGreat
