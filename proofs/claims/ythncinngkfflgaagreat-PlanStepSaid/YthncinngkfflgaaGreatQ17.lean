/- Plans: the closures of May; rises. -/
import Derived.Test.YthncinngkfflgaaGreatQ15
import Derived.Test.YthncinngkfflgaaGreatQ16
set_option linter.unusedVariables false
set_option linter.unusedSimpArgs false
set_option maxRecDepth 100000
namespace Go.Proofs.YthncinngkfflgaaGreat
open Go.RowKit Go.Shelf
attribute [local go_sem ↓] Go.wp_at_zero Go.wp_at_succ

set_option maxHeartbeats 4000000 in
theorem may1_calls (w : World) (x : POrd) (G : Nat) (m : Int) (hc : w.cell? ⟨G, 0, none⟩ = some (.int .i64 m)) :
    Calls Tryz.prog 67 #[.agg #[.int .i64 x.id, .int .i64 x.item, .int .i64 x.due, .int .i64 x.qty], .pointer (some ⟨G, 0, none⟩)] w (RetV w (.bool (!decide ((1 ≤ x.id ∧ x.id ≤ 1000000) ∧ (0 ≤ x.item ∧ x.item ≤ m) ∧ (0 ≤ x.due ∧ x.due ≤ 39) ∧ (1 ≤ x.qty ∧ x.qty ≤ 100))))) := by
  have HC := hide hc
  clear hc
  obtain ⟨W0, hW0⟩ : ∃ W0, W0 = (w.alloc (Obj.cells #[Value.int .i64 x.id, Value.int .i64 x.item, Value.int .i64 x.due, Value.int .i64 x.qty] 65)) := ⟨_, rfl⟩
  obtain ⟨hb0, r0, hsz0⟩ := boxes1 w [.int .i64 x.id, .int .i64 x.item, .int .i64 x.due, .int .i64 x.qty] 65 hW0
  have B0 := hide hb0; have HW0 := hide hW0
  have R0 := hide r0
  clear hb0 hW0 hsz0 r0
  go_enter Tryz.func67, Tryz.ntmps67
  go_upto_region 1 with fail
  rw [← HW0.out]
  have hm := Later.cell B0.out HC.out
  have r_d := R0.out.later (Later.refl W0)
  have d0 := r_d.cell (i := 0) rfl; have d1 := r_d.cell (i := 1) rfl; have d2 := r_d.cell (i := 2) rfl; have d3 := r_d.cell (i := 3) rfl
  clear r_d
  by_cases g0 : 1 ≤ x.id ∧ x.id ≤ 1000000
  rotate_left
  · have k0 : decide (1 ≤ x.id ∧ x.id ≤ 1000000) = false := by simpa using g0
    have hu9 : (!decide ((1 ≤ x.id ∧ x.id ≤ 1000000) ∧ (0 ≤ x.item ∧ x.item ≤ m) ∧ (0 ≤ x.due ∧ x.due ≤ 39) ∧ (1 ≤ x.qty ∧ x.qty ≤ 100))) = true := by
      rw [Bool.not_eq_true', decide_eq_false_iff_not]; exact fun h => g0 h.1
    have HU9 := hide hu9
    clear hu9
    go_wp2_with (first | ((with_reducible refine (pin_calls _ _ _ _ _ k0).mono ?_); rintro e w9 ⟨rfl, rfl⟩) | ((with_reducible refine (pin_calls _ _ _ _ _ k1).mono ?_); rintro e w9 ⟨rfl, rfl⟩) | ((with_reducible refine (pin_calls _ _ _ _ _ k2).mono ?_); rintro e w9 ⟨rfl, rfl⟩) | ((with_reducible refine (pin_calls _ _ _ _ _ k3).mono ?_); rintro e w9 ⟨rfl, rfl⟩))
    go_ret
    exact ⟨by first | rfl | (rw [HU9.out]; rfl), B0.out⟩
  have k0 : decide (1 ≤ x.id ∧ x.id ≤ 1000000) = true := by simpa using g0
  by_cases g1 : 0 ≤ x.item ∧ x.item ≤ m
  rotate_left
  · have k1 : decide (0 ≤ x.item ∧ x.item ≤ m) = false := by simpa using g1
    have hu9 : (!decide ((1 ≤ x.id ∧ x.id ≤ 1000000) ∧ (0 ≤ x.item ∧ x.item ≤ m) ∧ (0 ≤ x.due ∧ x.due ≤ 39) ∧ (1 ≤ x.qty ∧ x.qty ≤ 100))) = true := by
      rw [Bool.not_eq_true', decide_eq_false_iff_not]; exact fun h => g1 h.2.1
    have HU9 := hide hu9
    clear hu9
    go_wp2_with (first | ((with_reducible refine (pin_calls _ _ _ _ _ k0).mono ?_); rintro e w9 ⟨rfl, rfl⟩) | ((with_reducible refine (pin_calls _ _ _ _ _ k1).mono ?_); rintro e w9 ⟨rfl, rfl⟩) | ((with_reducible refine (pin_calls _ _ _ _ _ k2).mono ?_); rintro e w9 ⟨rfl, rfl⟩) | ((with_reducible refine (pin_calls _ _ _ _ _ k3).mono ?_); rintro e w9 ⟨rfl, rfl⟩))
    go_ret
    exact ⟨by first | rfl | (rw [HU9.out]; rfl), B0.out⟩
  have k1 : decide (0 ≤ x.item ∧ x.item ≤ m) = true := by simpa using g1
  by_cases g2 : 0 ≤ x.due ∧ x.due ≤ 39
  rotate_left
  · have k2 : decide (0 ≤ x.due ∧ x.due ≤ 39) = false := by simpa using g2
    have hu9 : (!decide ((1 ≤ x.id ∧ x.id ≤ 1000000) ∧ (0 ≤ x.item ∧ x.item ≤ m) ∧ (0 ≤ x.due ∧ x.due ≤ 39) ∧ (1 ≤ x.qty ∧ x.qty ≤ 100))) = true := by
      rw [Bool.not_eq_true', decide_eq_false_iff_not]; exact fun h => g2 h.2.2.1
    have HU9 := hide hu9
    clear hu9
    go_wp2_with (first | ((with_reducible refine (pin_calls _ _ _ _ _ k0).mono ?_); rintro e w9 ⟨rfl, rfl⟩) | ((with_reducible refine (pin_calls _ _ _ _ _ k1).mono ?_); rintro e w9 ⟨rfl, rfl⟩) | ((with_reducible refine (pin_calls _ _ _ _ _ k2).mono ?_); rintro e w9 ⟨rfl, rfl⟩) | ((with_reducible refine (pin_calls _ _ _ _ _ k3).mono ?_); rintro e w9 ⟨rfl, rfl⟩))
    go_ret
    exact ⟨by first | rfl | (rw [HU9.out]; rfl), B0.out⟩
  have k2 : decide (0 ≤ x.due ∧ x.due ≤ 39) = true := by simpa using g2
  by_cases g3 : 1 ≤ x.qty ∧ x.qty ≤ 100
  rotate_left
  · have k3 : decide (1 ≤ x.qty ∧ x.qty ≤ 100) = false := by simpa using g3
    have hu9 : (!decide ((1 ≤ x.id ∧ x.id ≤ 1000000) ∧ (0 ≤ x.item ∧ x.item ≤ m) ∧ (0 ≤ x.due ∧ x.due ≤ 39) ∧ (1 ≤ x.qty ∧ x.qty ≤ 100))) = true := by
      rw [Bool.not_eq_true', decide_eq_false_iff_not]; exact fun h => g3 h.2.2.2
    have HU9 := hide hu9
    clear hu9
    go_wp2_with (first | ((with_reducible refine (pin_calls _ _ _ _ _ k0).mono ?_); rintro e w9 ⟨rfl, rfl⟩) | ((with_reducible refine (pin_calls _ _ _ _ _ k1).mono ?_); rintro e w9 ⟨rfl, rfl⟩) | ((with_reducible refine (pin_calls _ _ _ _ _ k2).mono ?_); rintro e w9 ⟨rfl, rfl⟩) | ((with_reducible refine (pin_calls _ _ _ _ _ k3).mono ?_); rintro e w9 ⟨rfl, rfl⟩))
    go_ret
    exact ⟨by first | rfl | (rw [HU9.out]; rfl), B0.out⟩
  have k3 : decide (1 ≤ x.qty ∧ x.qty ≤ 100) = true := by simpa using g3
  have hu9 : (!decide ((1 ≤ x.id ∧ x.id ≤ 1000000) ∧ (0 ≤ x.item ∧ x.item ≤ m) ∧ (0 ≤ x.due ∧ x.due ≤ 39) ∧ (1 ≤ x.qty ∧ x.qty ≤ 100))) = false := by
    rw [Bool.not_eq_false', decide_eq_true_iff]; exact ⟨g0, g1, g2, g3⟩
  have HU9 := hide hu9
  clear hu9
  go_wp2_with (first | ((with_reducible refine (pin_calls _ _ _ _ _ k0).mono ?_); rintro e w9 ⟨rfl, rfl⟩) | ((with_reducible refine (pin_calls _ _ _ _ _ k1).mono ?_); rintro e w9 ⟨rfl, rfl⟩) | ((with_reducible refine (pin_calls _ _ _ _ _ k2).mono ?_); rintro e w9 ⟨rfl, rfl⟩) | ((with_reducible refine (pin_calls _ _ _ _ _ k3).mono ?_); rintro e w9 ⟨rfl, rfl⟩))
  go_ret
  exact ⟨by first | rfl | (rw [HU9.out]; rfl), B0.out⟩

set_option maxHeartbeats 4000000 in
theorem may2_calls (w : World) (x : PMk) (G : Nat) (m : Int) (hc : w.cell? ⟨G, 0, none⟩ = some (.int .i64 m)) :
    Calls Tryz.prog 70 #[.agg #[.int .i64 x.item, .int .i64 x.period, .int .i64 x.qty], .pointer (some ⟨G, 0, none⟩)] w (RetV w (.bool (!decide ((0 ≤ x.item ∧ x.item ≤ m) ∧ (0 ≤ x.period ∧ x.period ≤ 39) ∧ (0 ≤ x.qty ∧ x.qty ≤ 100))))) := by
  have HC := hide hc
  clear hc
  obtain ⟨W0, hW0⟩ : ∃ W0, W0 = (w.alloc (Obj.cells #[Value.int .i64 x.item, Value.int .i64 x.period, Value.int .i64 x.qty] 67)) := ⟨_, rfl⟩
  obtain ⟨hb0, r0, hsz0⟩ := boxes1 w [.int .i64 x.item, .int .i64 x.period, .int .i64 x.qty] 67 hW0
  have B0 := hide hb0; have HW0 := hide hW0
  have R0 := hide r0
  clear hb0 hW0 hsz0 r0
  go_enter Tryz.func70, Tryz.ntmps70
  go_upto_region 1 with fail
  rw [← HW0.out]
  have hm := Later.cell B0.out HC.out
  have r_d := R0.out.later (Later.refl W0)
  have d0 := r_d.cell (i := 0) rfl; have d1 := r_d.cell (i := 1) rfl; have d2 := r_d.cell (i := 2) rfl
  clear r_d
  by_cases g0 : 0 ≤ x.item ∧ x.item ≤ m
  rotate_left
  · have k0 : decide (0 ≤ x.item ∧ x.item ≤ m) = false := by simpa using g0
    have hu9 : (!decide ((0 ≤ x.item ∧ x.item ≤ m) ∧ (0 ≤ x.period ∧ x.period ≤ 39) ∧ (0 ≤ x.qty ∧ x.qty ≤ 100))) = true := by
      rw [Bool.not_eq_true', decide_eq_false_iff_not]; exact fun h => g0 h.1
    have HU9 := hide hu9
    clear hu9
    go_wp2_with (first | ((with_reducible refine (pin_calls _ _ _ _ _ k0).mono ?_); rintro e w9 ⟨rfl, rfl⟩) | ((with_reducible refine (pin_calls _ _ _ _ _ k1).mono ?_); rintro e w9 ⟨rfl, rfl⟩) | ((with_reducible refine (pin_calls _ _ _ _ _ k2).mono ?_); rintro e w9 ⟨rfl, rfl⟩))
    go_ret
    exact ⟨by first | rfl | (rw [HU9.out]; rfl), B0.out⟩
  have k0 : decide (0 ≤ x.item ∧ x.item ≤ m) = true := by simpa using g0
  by_cases g1 : 0 ≤ x.period ∧ x.period ≤ 39
  rotate_left
  · have k1 : decide (0 ≤ x.period ∧ x.period ≤ 39) = false := by simpa using g1
    have hu9 : (!decide ((0 ≤ x.item ∧ x.item ≤ m) ∧ (0 ≤ x.period ∧ x.period ≤ 39) ∧ (0 ≤ x.qty ∧ x.qty ≤ 100))) = true := by
      rw [Bool.not_eq_true', decide_eq_false_iff_not]; exact fun h => g1 h.2.1
    have HU9 := hide hu9
    clear hu9
    go_wp2_with (first | ((with_reducible refine (pin_calls _ _ _ _ _ k0).mono ?_); rintro e w9 ⟨rfl, rfl⟩) | ((with_reducible refine (pin_calls _ _ _ _ _ k1).mono ?_); rintro e w9 ⟨rfl, rfl⟩) | ((with_reducible refine (pin_calls _ _ _ _ _ k2).mono ?_); rintro e w9 ⟨rfl, rfl⟩))
    go_ret
    exact ⟨by first | rfl | (rw [HU9.out]; rfl), B0.out⟩
  have k1 : decide (0 ≤ x.period ∧ x.period ≤ 39) = true := by simpa using g1
  by_cases g2 : 0 ≤ x.qty ∧ x.qty ≤ 100
  rotate_left
  · have k2 : decide (0 ≤ x.qty ∧ x.qty ≤ 100) = false := by simpa using g2
    have hu9 : (!decide ((0 ≤ x.item ∧ x.item ≤ m) ∧ (0 ≤ x.period ∧ x.period ≤ 39) ∧ (0 ≤ x.qty ∧ x.qty ≤ 100))) = true := by
      rw [Bool.not_eq_true', decide_eq_false_iff_not]; exact fun h => g2 h.2.2
    have HU9 := hide hu9
    clear hu9
    go_wp2_with (first | ((with_reducible refine (pin_calls _ _ _ _ _ k0).mono ?_); rintro e w9 ⟨rfl, rfl⟩) | ((with_reducible refine (pin_calls _ _ _ _ _ k1).mono ?_); rintro e w9 ⟨rfl, rfl⟩) | ((with_reducible refine (pin_calls _ _ _ _ _ k2).mono ?_); rintro e w9 ⟨rfl, rfl⟩))
    go_ret
    exact ⟨by first | rfl | (rw [HU9.out]; rfl), B0.out⟩
  have k2 : decide (0 ≤ x.qty ∧ x.qty ≤ 100) = true := by simpa using g2
  have hu9 : (!decide ((0 ≤ x.item ∧ x.item ≤ m) ∧ (0 ≤ x.period ∧ x.period ≤ 39) ∧ (0 ≤ x.qty ∧ x.qty ≤ 100))) = false := by
    rw [Bool.not_eq_false', decide_eq_true_iff]; exact ⟨g0, g1, g2⟩
  have HU9 := hide hu9
  clear hu9
  go_wp2_with (first | ((with_reducible refine (pin_calls _ _ _ _ _ k0).mono ?_); rintro e w9 ⟨rfl, rfl⟩) | ((with_reducible refine (pin_calls _ _ _ _ _ k1).mono ?_); rintro e w9 ⟨rfl, rfl⟩) | ((with_reducible refine (pin_calls _ _ _ _ _ k2).mono ?_); rintro e w9 ⟨rfl, rfl⟩))
  go_ret
  exact ⟨by first | rfl | (rw [HU9.out]; rfl), B0.out⟩

set_option maxHeartbeats 2000000 in
theorem may3_calls (w : World) (x y : POrd) (z : Int) (hz : cmpI x.id y.id = z) :
    Calls Tryz.prog 72 #[.agg #[.int .i64 x.id, .int .i64 x.item, .int .i64 x.due, .int .i64 x.qty], .agg #[.int .i64 y.id, .int .i64 y.item, .int .i64 y.due, .int .i64 y.qty]] w (RetV w (.int .i64 z)) := by
  have HZ := hide hz
  clear hz
  obtain ⟨W0, hW0⟩ : ∃ W0, W0 = ((w.alloc (Obj.cells #[Value.int .i64 x.id, Value.int .i64 x.item, Value.int .i64 x.due, Value.int .i64 x.qty] 65)).alloc (Obj.cells #[Value.int .i64 y.id, Value.int .i64 y.item, Value.int .i64 y.due, Value.int .i64 y.qty] 65)) := ⟨_, rfl⟩
  obtain ⟨hb0, r0, r1, hsz0⟩ := boxes2 w [.int .i64 x.id, .int .i64 x.item, .int .i64 x.due, .int .i64 x.qty] [.int .i64 y.id, .int .i64 y.item, .int .i64 y.due, .int .i64 y.qty] 65 65 hW0
  have B0 := hide hb0; have HW0 := hide hW0
  have R0 := hide r0; have R1 := hide r1
  clear hb0 hW0 hsz0 r0 r1
  go_enter Tryz.func72, Tryz.ntmps72
  go_upto_region 1 with fail
  rw [← HW0.out]
  have r_d := R0.out.later (Later.refl W0)
  have d0 := r_d.cell (i := 0) rfl; have d1 := r_d.cell (i := 1) rfl; have d2 := r_d.cell (i := 2) rfl; have d3 := r_d.cell (i := 3) rfl
  clear r_d
  have r_e := R1.out.later (Later.refl W0)
  have e0 := r_e.cell (i := 0) rfl; have e1 := r_e.cell (i := 1) rfl; have e2 := r_e.cell (i := 2) rfl; have e3 := r_e.cell (i := 3) rfl
  clear r_e
  go_wp2_with ((with_reducible refine (icompare_calls _ _ _ _ HZ.out).mono ?_); rintro e w9 ⟨rfl, rfl⟩)
  go_ret
  exact ⟨rfl, B0.out⟩

theorem sq_two {w : World} {g : Nat} {T : TypeId} {x y : Int} (hr : Row w g T [.int .i64 x, .int .i64 y]) : Sq 1 iCells w (.slice (some ⟨g, 0, none⟩) 2 2) [x, y] := by
  refine ⟨_, 2, rfl, Nat.le_refl _, by decide, fun i q hi => ?_⟩
  match i, hi with
  | 0, hi => simp at hi; subst hi; exact ⟨g, 0, rfl, fun j u hj => by
      match j, hj with
      | 0, hj => simp [iCells] at hj; subst hj; exact hr.cell rfl
      | j+1, hj => simp [iCells] at hj⟩
  | 1, hi => simp at hi; subst hi; exact ⟨g, 0, rfl, fun j u hj => by
      match j, hj with
      | 0, hj => simp [iCells] at hj; subst hj; exact hr.cell rfl
      | j+1, hj => simp [iCells] at hj⟩
  | i+2, hi => simp at hi
/-- how one is to another one: by period, then item -/
def cmpM (x y : PMk) : Int := orI [cmpI x.period y.period, cmpI x.item y.item]
theorem cmpI_neg (a b : Int) : cmpI a b < 0 ↔ a < b := by unfold cmpI; split <;> (try split) <;> omega
theorem cmpI_zero (a b : Int) : cmpI a b = 0 ↔ a = b := by unfold cmpI; split <;> (try split) <;> omega
theorem cmpM_neg (x y : PMk) : cmpM x y < 0 ↔ (x.period < y.period ∨ (x.period = y.period ∧ x.item < y.item)) := by
  unfold cmpM orI orI orI
  by_cases h : cmpI x.period y.period = 0
  · rw [if_pos h]
    rw [cmpI_zero] at h
    by_cases h2 : cmpI x.item y.item = 0
    · rw [if_pos h2]; rw [cmpI_zero] at h2; omega
    · rw [if_neg h2, cmpI_neg]; omega
  · rw [if_neg h, cmpI_neg]
    rw [cmpI_zero] at h; omega

set_option maxHeartbeats 4000000 in
theorem may4_calls (w : World) (x y : PMk) (z : Int) (hz : cmpM x y = z) :
    Calls Tryz.prog 75 #[.agg #[.int .i64 x.item, .int .i64 x.period, .int .i64 x.qty], .agg #[.int .i64 y.item, .int .i64 y.period, .int .i64 y.qty]] w (RetV w (.int .i64 z)) := by
  obtain ⟨z1, h1⟩ : ∃ z1, cmpI x.period y.period = z1 := ⟨_, rfl⟩
  obtain ⟨z2, h2⟩ : ∃ z2, cmpI x.item y.item = z2 := ⟨_, rfl⟩
  unfold cmpM at hz
  rw [h1, h2] at hz
  have HZ := hide hz; have H1 := hide h1; have H2 := hide h2
  clear hz h1 h2
  obtain ⟨W0, hW0⟩ : ∃ W0, W0 = ((w.alloc (Obj.cells #[Value.int .i64 x.item, Value.int .i64 x.period, Value.int .i64 x.qty] 67)).alloc (Obj.cells #[Value.int .i64 y.item, Value.int .i64 y.period, Value.int .i64 y.qty] 67)) := ⟨_, rfl⟩
  obtain ⟨hb0, r0, r1, hsz0⟩ := boxes2 w [.int .i64 x.item, .int .i64 x.period, .int .i64 x.qty] [.int .i64 y.item, .int .i64 y.period, .int .i64 y.qty] 67 67 hW0
  have B0 := hide hb0; have HW0 := hide hW0
  have R0 := hide r0; have R1 := hide r1
  clear hb0 hW0 hsz0 r0 r1
  go_enter Tryz.func75, Tryz.ntmps75
  go_upto_region 1 with fail
  rw [← HW0.out]
  have hr0 := R0.out.later (Later.refl W0).drew; have hr1 := R1.out.later (Later.refl W0).drew
  have HT1 : Hid (∀ w', Later W0.drew w' → w'.cell? ⟨w.heap.size, 0, none⟩ = some (.int .i64 x.item) ∧ w'.cell? ⟨w.heap.size, 1, none⟩ = some (.int .i64 x.period) ∧ w'.cell? ⟨w.heap.size, 2, none⟩ = some (.int .i64 x.qty) ∧ w'.cell? ⟨w.heap.size + 1, 0, none⟩ = some (.int .i64 y.item) ∧ w'.cell? ⟨w.heap.size + 1, 1, none⟩ = some (.int .i64 y.period) ∧ w'.cell? ⟨w.heap.size + 1, 2, none⟩ = some (.int .i64 y.qty)) := hide fun w' hb => ⟨(hr0.later hb).cell rfl, (hr0.later hb).cell rfl, (hr0.later hb).cell rfl, (hr1.later hb).cell rfl, (hr1.later hb).cell rfl, (hr1.later hb).cell rfl⟩
  clear hr0 hr1
  have hmx : Tryz.prog.follows .mixedOrders = true := by kernel_rfl
  refine wp_region_N (fun w' => w'.cell? ⟨w.heap.size, 0, none⟩ = some (.int .i64 x.item) ∧ w'.cell? ⟨w.heap.size, 1, none⟩ = some (.int .i64 x.period) ∧ w'.cell? ⟨w.heap.size, 2, none⟩ = some (.int .i64 x.qty) ∧ w'.cell? ⟨w.heap.size + 1, 0, none⟩ = some (.int .i64 y.item) ∧ w'.cell? ⟨w.heap.size + 1, 1, none⟩ = some (.int .i64 y.period) ∧ w'.cell? ⟨w.heap.size + 1, 2, none⟩ = some (.int .i64 y.qty)) [] hmx (HT1.out _ (Later.refl _)) (fun hHeld => ?_)
  refine wpAnyN_takeD (some 5) (by rfl) (i := 0) (oi := _) (v := ?_) rfl (by kernel_rfl) (by kernel_rfl) (by kernel_rfl) (by kernel_rfl) (fun _ _ _ h => h) (Or.inl ⟨by rfl, ?_⟩) (by assumption) ?_
  rotate_left
  · intro w hSw; (try dsimp only at hSw); go_simp
    first | done | with_reducible rfl
  try simp only [Act.put, List.setIfInBounds_toArray, List.set_cons_zero, List.set_cons_succ]
  refine wpAnyN_takeD (some 6) (by rfl) (i := 1) (oi := _) (v := ?_) rfl (by kernel_rfl) (by kernel_rfl) (by kernel_rfl) (by kernel_rfl) (fun _ _ _ h => h) (Or.inl ⟨by rfl, ?_⟩) (by assumption) ?_
  rotate_left
  · intro w hSw; (try dsimp only at hSw); go_simp
    first | done | with_reducible rfl
  try simp only [Act.put, List.setIfInBounds_toArray, List.set_cons_zero, List.set_cons_succ]
  refine wpAnyN_takeD (some 7) (by rfl) (i := 2) (oi := _) (v := ?_) rfl (by kernel_rfl) (by kernel_rfl) (by kernel_rfl) (by kernel_rfl) (fun _ _ _ h => h) (Or.inl ⟨by rfl, ?_⟩) (by assumption) ?_
  rotate_left
  · intro w hSw; (try dsimp only at hSw); go_simp
    first | done | with_reducible rfl
  try simp only [Act.put, List.setIfInBounds_toArray, List.set_cons_zero, List.set_cons_succ]
  refine wpAnyN_takeD (some 8) (by rfl) (i := 3) (oi := _) (v := ?_) rfl (by kernel_rfl) (by kernel_rfl) (by kernel_rfl) (by kernel_rfl) (fun _ _ _ h => h) (Or.inl ⟨by rfl, ?_⟩) (by assumption) ?_
  rotate_left
  · intro w hSw; (try dsimp only at hSw); go_simp
    first | done | with_reducible rfl
  try simp only [Act.put, List.setIfInBounds_toArray, List.set_cons_zero, List.set_cons_succ]
  refine wpAnyN_takeD (some 10) (by rfl) (i := 5) (oi := _) (v := ?_) rfl (by kernel_rfl) (by kernel_rfl) (by kernel_rfl) (by kernel_rfl) (fun _ _ _ h => h) (Or.inl ⟨by rfl, ?_⟩) (by assumption) ?_
  rotate_left
  · intro w hSw; (try dsimp only at hSw); go_simp
    first | done | with_reducible rfl
  try simp only [Act.put, List.setIfInBounds_toArray, List.set_cons_zero, List.set_cons_succ]
  refine wpAnyN_takeD (some 11) (by rfl) (i := 6) (oi := _) (v := ?_) rfl (by kernel_rfl) (by kernel_rfl) (by kernel_rfl) (by kernel_rfl) (fun _ _ _ h => h) (Or.inl ⟨by rfl, ?_⟩) (by assumption) ?_
  rotate_left
  · intro w hSw; (try dsimp only at hSw); go_simp
    first | done | with_reducible rfl
  try simp only [Act.put, List.setIfInBounds_toArray, List.set_cons_zero, List.set_cons_succ]
  refine wpAnyN_takeD (some 12) (by rfl) (i := 7) (oi := _) (v := ?_) rfl (by kernel_rfl) (by kernel_rfl) (by kernel_rfl) (by kernel_rfl) (fun _ _ _ h => h) (Or.inl ⟨by rfl, ?_⟩) (by assumption) ?_
  rotate_left
  · intro w hSw; (try dsimp only at hSw); go_simp
    first | done | with_reducible rfl
  try simp only [Act.put, List.setIfInBounds_toArray, List.set_cons_zero, List.set_cons_succ]
  refine wpAnyN_takeD (some 13) (by rfl) (i := 8) (oi := _) (v := ?_) rfl (by kernel_rfl) (by kernel_rfl) (by kernel_rfl) (by kernel_rfl) (fun _ _ _ h => h) (Or.inl ⟨by rfl, ?_⟩) (by assumption) ?_
  rotate_left
  · intro w hSw; (try dsimp only at hSw); go_simp
    first | done | with_reducible rfl
  try simp only [Act.put, List.setIfInBounds_toArray, List.set_cons_zero, List.set_cons_succ]
  refine wpAnyN_ready (rs := [4]) (by kernel_rfl) (by simp) ?_
  refine AllReadyN.held rfl (by rfl) (fun K hK => ?_) AllReadyN.nil
  go_simp
  refine (icompare_calls _ _ _ _ H1.out).mono ?_
  rintro e w4 ⟨rfl, rfl⟩
  refine hK.out _ _ ?_ (fun hHeld => ?_)
  · exact HT1.out _ (Later.refl _)
  clear hK K
  try simp only [Act.put, List.setIfInBounds_toArray, List.set_cons_zero, List.set_cons_succ]
  refine wpAnyN_ready (rs := [9]) (by kernel_rfl) (by simp) ?_
  refine AllReadyN.held rfl (by rfl) (fun K hK => ?_) AllReadyN.nil
  go_simp
  refine (icompare_calls _ _ _ _ H2.out).mono ?_
  rintro e w9 ⟨rfl, rfl⟩
  refine hK.out _ _ ?_ (fun hHeld => ?_)
  · exact HT1.out _ (Later.refl _)
  clear hK K
  try simp only [Act.put, List.setIfInBounds_toArray, List.set_cons_zero, List.set_cons_succ]
  refine wpAnyN_ready (rs := [10]) (by kernel_rfl) (by simp) ?_
  refine AllReadyN.held rfl (by rfl) (fun K hK => ?_) AllReadyN.nil
  go_simp
  refine hK.out _ _ ?_ (fun hHeld => ?_)
  · exact HT1.out _ ((Later.refl _).alloc _)
  clear hK K
  try simp only [Act.put, List.setIfInBounds_toArray, List.set_cons_zero, List.set_cons_succ]
  refine wpAnyN_ready (rs := [11]) (by kernel_rfl) (by simp) ?_
  refine AllReadyN.held rfl (by rfl) (fun K hK => ?_) AllReadyN.nil
  go_simp
  refine (cor_calls _ _ _ _ [z1, z2] (sq_two (Row.new W0.drew 3 [.int .i64 z1, .int .i64 z2])) (by simp) _ HZ.out).mono ?_
  rintro e w11 ⟨rfl, rfl⟩
  refine hK.out _ _ ?_ (fun hHeld => ?_)
  · exact HT1.out _ ((Later.refl _).alloc _)
  clear hK K
  try simp only [Act.put, List.setIfInBounds_toArray, List.set_cons_zero, List.set_cons_succ]
  refine wpAnyN_takeD (some 4) (by rfl) (i := 12) (oi := _) (v := ?_) rfl (by kernel_rfl) (by kernel_rfl) (by kernel_rfl) (by kernel_rfl) (fun _ _ _ h => h) (Or.inl ⟨by rfl, ?_⟩) (by assumption) ?_
  rotate_left
  · intro w hSw; (try dsimp only at hSw); go_simp
    first | done | with_reducible rfl
  try simp only [Act.put, List.setIfInBounds_toArray, List.set_cons_zero, List.set_cons_succ]
  refine wpAnyN_done (by kernel_rfl) ?_ _
  clear hHeld
  go_wp2_with fail
  go_ret
  exact ⟨rfl, B0.out.trans ((Later.refl W0).drew.alloc _)⟩

set_option maxHeartbeats 4000000 in
theorem risesO_calls (w : World) (v : Value) (l : List POrd) (h : Sq 4 oCells w v l) (hl : l.length ≤ 1000000000) (f : FuncId) (hf : Enters f) (c : POrd → POrd → Int) (hp : ∀ W x y, Later w W → x ∈ l → y ∈ l → Calls Tryz.prog f #[.agg #[.int .i64 x.id, .int .i64 x.item, .int .i64 x.due, .int .i64 x.qty], .agg #[.int .i64 y.id, .int .i64 y.item, .int .i64 y.due, .int .i64 y.qty]] W (RetV W (.int .i64 (c x y)))) (u : Bool) (hu : u = true ↔ ∀ (i : Nat) x y, l[i]? = some x → l[i+1]? = some y → c x y < 0) :
    Calls Tryz.prog 71 #[v, .func (.func f) #[] #[]] w (RetV w (.bool u)) := by
  have H := hide h; have HP := hide hp; have HU := hide hu
  have hen := hf.out
  obtain ⟨A0, nt, ct, rfl, hnt, -, -, -⟩ := h.form
  have HNT := hide hnt
  have hn9 : nt ≤ 1000000000 := by omega
  clear h hp hnt hl hu
  go_enter Tryz.func71, Tryz.ntmps71
  go_wp2_with fail
  go_loopw [5] (fun i wr => ∃ j : Nat, (j < nt ∨ j = 0) ∧ i = .int .i64 ((j : Int) + 1) ∧ Hid (∀ (i : Nat) x y, i < j → l[i]? = some x → l[i+1]? = some y → c x y < 0) ∧ Later w wr) (fun i _ => (nt - intOf i).toNat)
  case atStart => exact ⟨0, by omega, rfl, hide fun i x y hi => by omega, Later.refl w⟩
  case round =>
    obtain ⟨j, hj, rfl, hpre, hL⟩ := hrel
    by_cases hjn : j + 1 < nt
    · obtain ⟨x, hx⟩ : ∃ x, l[j]? = some x := ⟨l[j]'(by have := HNT.out; omega), List.getElem?_eq_getElem _⟩
      obtain ⟨y, hy⟩ : ∃ y, l[j+1]? = some y := ⟨l[j+1]'(by have := HNT.out; omega), List.getElem?_eq_getElem _⟩
      obtain ⟨b1, off1, e1, x0, x1, x2, x3⟩ := (H.out.later hL.drew).at4 hx
      obtain ⟨b2, off2, e2, y0, y1, y2, y3⟩ := (H.out.later hL.drew).at4 hy
      subst e1
      injection e2 with e2; injection e2 with e2 e3
      subst e2 e3
      have HX := hide hx; have HY := hide hy; have HL := hide hL
      obtain ⟨z, hz⟩ : ∃ z, c x y = z := ⟨_, rfl⟩
      have HZ := hide hz
      have hj0 : (0 : Int) ≤ (j : Int) := by omega
      have hj1 : (j : Int) + 1 < nt := by omega
      have hw1 : IntKind.i64.wrap (j : Int) = (j : Int) := IntWalk.i64_in _ (by omega)
      have hj2 : ((j : Int) + 1).toNat = j + 1 := by omega
      have hj3 : ((j : Int)).toNat = j := by omega
      have hj4 : (0 : Int) ≤ (j : Int) + 1 := by omega
      have hj5 : (j : Int) < nt := by omega
      have HT1 : Hid (∀ w', Later wr.drew w' → w'.cell? ⟨b1, off1 + j * 4, none⟩ = some (.int .i64 x.id) ∧ w'.cell? ⟨b1, off1 + j * 4 + 1, none⟩ = some (.int .i64 x.item) ∧ w'.cell? ⟨b1, off1 + j * 4 + 2, none⟩ = some (.int .i64 x.due) ∧ w'.cell? ⟨b1, off1 + j * 4 + 3, none⟩ = some (.int .i64 x.qty) ∧ w'.cell? ⟨b1, off1 + (j + 1) * 4, none⟩ = some (.int .i64 y.id) ∧ w'.cell? ⟨b1, off1 + (j + 1) * 4 + 1, none⟩ = some (.int .i64 y.item) ∧ w'.cell? ⟨b1, off1 + (j + 1) * 4 + 2, none⟩ = some (.int .i64 y.due) ∧ w'.cell? ⟨b1, off1 + (j + 1) * 4 + 3, none⟩ = some (.int .i64 y.qty)) := hide fun w' hb => ⟨Later.cell hb x0, Later.cell hb x1, Later.cell hb x2, Later.cell hb x3, Later.cell hb y0, Later.cell hb y1, Later.cell hb y2, Later.cell hb y3⟩
      clear hx hy hz hL x0 x1 x2 x3 y0 y1 y2 y3
      go_upto_region 4 with fail
      have hmx : Tryz.prog.follows .mixedOrders = true := by kernel_rfl
      obtain ⟨u9, t9⟩ : ∃ u9, decide (0 ≤ z) = u9 := ⟨_, rfl⟩
      refine wp_region_N (fun w' => w'.cell? ⟨b1, off1 + j * 4, none⟩ = some (.int .i64 x.id) ∧ w'.cell? ⟨b1, off1 + j * 4 + 1, none⟩ = some (.int .i64 x.item) ∧ w'.cell? ⟨b1, off1 + j * 4 + 2, none⟩ = some (.int .i64 x.due) ∧ w'.cell? ⟨b1, off1 + j * 4 + 3, none⟩ = some (.int .i64 x.qty) ∧ w'.cell? ⟨b1, off1 + (j + 1) * 4, none⟩ = some (.int .i64 y.id) ∧ w'.cell? ⟨b1, off1 + (j + 1) * 4 + 1, none⟩ = some (.int .i64 y.item) ∧ w'.cell? ⟨b1, off1 + (j + 1) * 4 + 2, none⟩ = some (.int .i64 y.due) ∧ w'.cell? ⟨b1, off1 + (j + 1) * 4 + 3, none⟩ = some (.int .i64 y.qty)) [] hmx (HT1.out _ (Later.refl _)) (fun hHeld => ?_)
      refine wpAnyN_takeD (some 12) (by rfl) (i := 0) (oi := _) (v := ?_) rfl (by kernel_rfl) (by kernel_rfl) (by kernel_rfl) (by kernel_rfl) (fun _ _ _ h => h) (Or.inl ⟨by rfl, ?_⟩) (by assumption) ?_
      rotate_left
      · intro w hSw; (try dsimp only at hSw); go_simp
        first | done | with_reducible rfl
      try simp only [Act.put, List.setIfInBounds_toArray, List.set_cons_zero, List.set_cons_succ]
      refine wpAnyN_takeD (some 13) (by rfl) (i := 1) (oi := _) (v := ?_) rfl (by kernel_rfl) (by kernel_rfl) (by kernel_rfl) (by kernel_rfl) (fun _ _ _ h => h) (Or.inl ⟨by rfl, ?_⟩) (by assumption) ?_
      rotate_left
      · intro w hSw; (try dsimp only at hSw); go_simp
        first | done | with_reducible rfl
      try simp only [Act.put, List.setIfInBounds_toArray, List.set_cons_zero, List.set_cons_succ]
      refine wpAnyN_takeD (some 14) (by rfl) (i := 2) (oi := _) (v := ?_) rfl (by kernel_rfl) (by kernel_rfl) (by kernel_rfl) (by kernel_rfl) (fun _ _ _ h => h) (Or.inl ⟨by rfl, ?_⟩) (by assumption) ?_
      rotate_left
      · intro w hSw; (try dsimp only at hSw); go_simp
        first | done | with_reducible rfl
      try simp only [Act.put, List.setIfInBounds_toArray, List.set_cons_zero, List.set_cons_succ]
      refine wpAnyN_takeD (some 15) (by rfl) (i := 3) (oi := _) (v := ?_) rfl (by kernel_rfl) (by kernel_rfl) (by kernel_rfl) (by kernel_rfl) (fun _ _ _ h => h) (Or.inl ⟨by rfl, ?_⟩) (by assumption) ?_
      rotate_left
      · intro w hSw; (try dsimp only at hSw); go_simp
        first | done | with_reducible rfl
      try simp only [Act.put, List.setIfInBounds_toArray, List.set_cons_zero, List.set_cons_succ]
      refine wpAnyN_takeD (some 16) (by rfl) (i := 4) (oi := _) (v := ?_) rfl (by kernel_rfl) (by kernel_rfl) (by kernel_rfl) (by kernel_rfl) (fun _ _ _ h => h) (Or.inl ⟨by rfl, ?_⟩) (by assumption) ?_
      rotate_left
      · intro w hSw; (try dsimp only at hSw); go_simp
        first | done | with_reducible rfl
      try simp only [Act.put, List.setIfInBounds_toArray, List.set_cons_zero, List.set_cons_succ]
      refine wpAnyN_takeD (some 17) (by rfl) (i := 5) (oi := _) (v := ?_) rfl (by kernel_rfl) (by kernel_rfl) (by kernel_rfl) (by kernel_rfl) (fun _ _ _ h => h) (Or.inl ⟨by rfl, ?_⟩) (by assumption) ?_
      rotate_left
      · intro w hSw; (try dsimp only at hSw); go_simp
        first | done | with_reducible rfl
      try simp only [Act.put, List.setIfInBounds_toArray, List.set_cons_zero, List.set_cons_succ]
      refine wpAnyN_takeD (some 18) (by rfl) (i := 6) (oi := _) (v := ?_) rfl (by kernel_rfl) (by kernel_rfl) (by kernel_rfl) (by kernel_rfl) (fun _ _ _ h => h) (Or.inl ⟨by rfl, ?_⟩) (by assumption) ?_
      rotate_left
      · intro w hSw; (try dsimp only at hSw); go_simp
        first | done | with_reducible rfl
      try simp only [Act.put, List.setIfInBounds_toArray, List.set_cons_zero, List.set_cons_succ]
      refine wpAnyN_takeD (some 19) (by rfl) (i := 7) (oi := _) (v := ?_) rfl (by kernel_rfl) (by kernel_rfl) (by kernel_rfl) (by kernel_rfl) (fun _ _ _ h => h) (Or.inl ⟨by rfl, ?_⟩) (by assumption) ?_
      rotate_left
      · intro w hSw; (try dsimp only at hSw); go_simp
        first | done | with_reducible rfl
      try simp only [Act.put, List.setIfInBounds_toArray, List.set_cons_zero, List.set_cons_succ]
      refine wpAnyN_takeD (some 20) (by rfl) (i := 8) (oi := _) (v := ?_) rfl (by kernel_rfl) (by kernel_rfl) (by kernel_rfl) (by kernel_rfl) (fun _ _ _ h => h) (Or.inl ⟨by rfl, ?_⟩) (by assumption) ?_
      rotate_left
      · intro w hSw; (try dsimp only at hSw); go_simp
        first | done | with_reducible rfl
      try simp only [Act.put, List.setIfInBounds_toArray, List.set_cons_zero, List.set_cons_succ]
      refine wpAnyN_takeD (some 21) (by rfl) (i := 9) (oi := _) (v := ?_) rfl (by kernel_rfl) (by kernel_rfl) (by kernel_rfl) (by kernel_rfl) (fun _ _ _ h => h) (Or.inl ⟨by rfl, ?_⟩) (by assumption) ?_
      rotate_left
      · intro w hSw; (try dsimp only at hSw); go_simp
        first | done | with_reducible rfl
      try simp only [Act.put, List.setIfInBounds_toArray, List.set_cons_zero, List.set_cons_succ]
      refine wpAnyN_ready (rs := [10]) (by kernel_rfl) (by simp) ?_
      refine AllReadyN.held rfl (by rfl) (fun K hK => ?_) AllReadyN.nil
      go_simp
      refine (HP.out _ x y (HL.out.drew) (List.mem_of_getElem? HX.out) (List.mem_of_getElem? HY.out)).mono ?_
      rintro e w10 ⟨rfl, b10⟩
      rw [HZ.out]
      refine hK.out _ _ ?_ (fun hHeld => ?_)
      · exact HT1.out _ b10
      clear hK K
      try simp only [Act.put, List.setIfInBounds_toArray, List.set_cons_zero, List.set_cons_succ]
      refine wpAnyN_takeD (some 23) (by rfl) (i := 11) (oi := _) (v := ?_) rfl (by kernel_rfl) (by kernel_rfl) (by kernel_rfl) (by kernel_rfl) (fun _ _ _ h => h) (Or.inl ⟨by rfl, ?_⟩) (by assumption) ?_
      rotate_left
      · intro w hSw; (try dsimp only at hSw); go_simp
        first | done | with_reducible rfl
      try simp only [Act.put, List.setIfInBounds_toArray, List.set_cons_zero, List.set_cons_succ]
      refine wpAnyN_done (by kernel_rfl) ?_ _
      clear hHeld
      have HLW := hide (HL.out.drew.trans b10)
      clear b10
      cases u9 with
      | true =>
        have HF : Hid (u = false) := hide (Bool.eq_false_iff.2 (fun h => by
          have h5 := HU.out.1 h j x y HX.out HY.out
          rw [HZ.out] at h5
          rw [decide_eq_true_iff] at t9; omega))
        clear t9
        go_wp2_with fail
        go_ret
        exact ⟨by rw [HF.out]; rfl, HLW.out⟩
      | false =>
        have HN : Hid (∀ (i : Nat) x y, i < j + 1 → l[i]? = some x → l[i+1]? = some y → c x y < 0) := hide fun i x' y' hi hx hy => by
          by_cases hij : i < j
          · exact hpre.out i x' y' hij hx hy
          · obtain rfl : i = j := by omega
            rw [HX.out] at hx; rw [HY.out] at hy
            injection hx with hx; injection hy with hy
            rw [← hx, ← hy, HZ.out]
            rw [decide_eq_false_iff_not] at t9; omega
        clear t9 hw1 hj2 hj3
        go_wp2_with fail
        exact ⟨⟨j+1, by omega, by go_num, HN, HLW.out⟩, by simp [intOf]; omega⟩
    · have HF : Hid (u = true) := hide (HU.out.2 fun i x y hx hy => hpre.out i x y (by
        have := (List.getElem?_eq_some_iff.1 hy).1
        have := HNT.out; omega) hx hy)
      have hj1 : ¬ (j : Int) + 1 < nt := by omega
      go_wp2_with fail
      go_ret
      exact ⟨by rw [HF.out]; rfl, hL⟩

set_option maxHeartbeats 4000000 in
theorem risesM_calls (w : World) (v : Value) (l : List PMk) (h : Sq 3 mCells w v l) (hl : l.length ≤ 1000000000) (f : FuncId) (hf : Enters f) (c : PMk → PMk → Int) (hp : ∀ W x y, Later w W → x ∈ l → y ∈ l → Calls Tryz.prog f #[.agg #[.int .i64 x.item, .int .i64 x.period, .int .i64 x.qty], .agg #[.int .i64 y.item, .int .i64 y.period, .int .i64 y.qty]] W (RetV W (.int .i64 (c x y)))) (u : Bool) (hu : u = true ↔ ∀ (i : Nat) x y, l[i]? = some x → l[i+1]? = some y → c x y < 0) :
    Calls Tryz.prog 74 #[v, .func (.func f) #[] #[]] w (RetV w (.bool u)) := by
  have H := hide h; have HP := hide hp; have HU := hide hu
  have hen := hf.out
  obtain ⟨A0, nt, ct, rfl, hnt, -, -, -⟩ := h.form
  have HNT := hide hnt
  have hn9 : nt ≤ 1000000000 := by omega
  clear h hp hnt hl hu
  go_enter Tryz.func74, Tryz.ntmps74
  go_wp2_with fail
  go_loopw [5] (fun i wr => ∃ j : Nat, (j < nt ∨ j = 0) ∧ i = .int .i64 ((j : Int) + 1) ∧ Hid (∀ (i : Nat) x y, i < j → l[i]? = some x → l[i+1]? = some y → c x y < 0) ∧ Later w wr) (fun i _ => (nt - intOf i).toNat)
  case atStart => exact ⟨0, by omega, rfl, hide fun i x y hi => by omega, Later.refl w⟩
  case round =>
    obtain ⟨j, hj, rfl, hpre, hL⟩ := hrel
    by_cases hjn : j + 1 < nt
    · obtain ⟨x, hx⟩ : ∃ x, l[j]? = some x := ⟨l[j]'(by have := HNT.out; omega), List.getElem?_eq_getElem _⟩
      obtain ⟨y, hy⟩ : ∃ y, l[j+1]? = some y := ⟨l[j+1]'(by have := HNT.out; omega), List.getElem?_eq_getElem _⟩
      obtain ⟨b1, off1, e1, x0, x1, x2⟩ := (H.out.later hL.drew).at3 hx
      obtain ⟨b2, off2, e2, y0, y1, y2⟩ := (H.out.later hL.drew).at3 hy
      subst e1
      injection e2 with e2; injection e2 with e2 e3
      subst e2 e3
      have HX := hide hx; have HY := hide hy; have HL := hide hL
      obtain ⟨z, hz⟩ : ∃ z, c x y = z := ⟨_, rfl⟩
      have HZ := hide hz
      have hj0 : (0 : Int) ≤ (j : Int) := by omega
      have hj1 : (j : Int) + 1 < nt := by omega
      have hw1 : IntKind.i64.wrap (j : Int) = (j : Int) := IntWalk.i64_in _ (by omega)
      have hj2 : ((j : Int) + 1).toNat = j + 1 := by omega
      have hj3 : ((j : Int)).toNat = j := by omega
      have hj4 : (0 : Int) ≤ (j : Int) + 1 := by omega
      have hj5 : (j : Int) < nt := by omega
      have HT1 : Hid (∀ w', Later wr.drew w' → w'.cell? ⟨b1, off1 + j * 3, none⟩ = some (.int .i64 x.item) ∧ w'.cell? ⟨b1, off1 + j * 3 + 1, none⟩ = some (.int .i64 x.period) ∧ w'.cell? ⟨b1, off1 + j * 3 + 2, none⟩ = some (.int .i64 x.qty) ∧ w'.cell? ⟨b1, off1 + (j + 1) * 3, none⟩ = some (.int .i64 y.item) ∧ w'.cell? ⟨b1, off1 + (j + 1) * 3 + 1, none⟩ = some (.int .i64 y.period) ∧ w'.cell? ⟨b1, off1 + (j + 1) * 3 + 2, none⟩ = some (.int .i64 y.qty)) := hide fun w' hb => ⟨Later.cell hb x0, Later.cell hb x1, Later.cell hb x2, Later.cell hb y0, Later.cell hb y1, Later.cell hb y2⟩
      clear hx hy hz hL x0 x1 x2 y0 y1 y2
      go_upto_region 4 with fail
      have hmx : Tryz.prog.follows .mixedOrders = true := by kernel_rfl
      obtain ⟨u9, t9⟩ : ∃ u9, decide (0 ≤ z) = u9 := ⟨_, rfl⟩
      refine wp_region_N (fun w' => w'.cell? ⟨b1, off1 + j * 3, none⟩ = some (.int .i64 x.item) ∧ w'.cell? ⟨b1, off1 + j * 3 + 1, none⟩ = some (.int .i64 x.period) ∧ w'.cell? ⟨b1, off1 + j * 3 + 2, none⟩ = some (.int .i64 x.qty) ∧ w'.cell? ⟨b1, off1 + (j + 1) * 3, none⟩ = some (.int .i64 y.item) ∧ w'.cell? ⟨b1, off1 + (j + 1) * 3 + 1, none⟩ = some (.int .i64 y.period) ∧ w'.cell? ⟨b1, off1 + (j + 1) * 3 + 2, none⟩ = some (.int .i64 y.qty)) [] hmx (HT1.out _ (Later.refl _)) (fun hHeld => ?_)
      refine wpAnyN_takeD (some 12) (by rfl) (i := 0) (oi := _) (v := ?_) rfl (by kernel_rfl) (by kernel_rfl) (by kernel_rfl) (by kernel_rfl) (fun _ _ _ h => h) (Or.inl ⟨by rfl, ?_⟩) (by assumption) ?_
      rotate_left
      · intro w hSw; (try dsimp only at hSw); go_simp
        first | done | with_reducible rfl
      try simp only [Act.put, List.setIfInBounds_toArray, List.set_cons_zero, List.set_cons_succ]
      refine wpAnyN_takeD (some 13) (by rfl) (i := 1) (oi := _) (v := ?_) rfl (by kernel_rfl) (by kernel_rfl) (by kernel_rfl) (by kernel_rfl) (fun _ _ _ h => h) (Or.inl ⟨by rfl, ?_⟩) (by assumption) ?_
      rotate_left
      · intro w hSw; (try dsimp only at hSw); go_simp
        first | done | with_reducible rfl
      try simp only [Act.put, List.setIfInBounds_toArray, List.set_cons_zero, List.set_cons_succ]
      refine wpAnyN_takeD (some 14) (by rfl) (i := 2) (oi := _) (v := ?_) rfl (by kernel_rfl) (by kernel_rfl) (by kernel_rfl) (by kernel_rfl) (fun _ _ _ h => h) (Or.inl ⟨by rfl, ?_⟩) (by assumption) ?_
      rotate_left
      · intro w hSw; (try dsimp only at hSw); go_simp
        first | done | with_reducible rfl
      try simp only [Act.put, List.setIfInBounds_toArray, List.set_cons_zero, List.set_cons_succ]
      refine wpAnyN_takeD (some 15) (by rfl) (i := 3) (oi := _) (v := ?_) rfl (by kernel_rfl) (by kernel_rfl) (by kernel_rfl) (by kernel_rfl) (fun _ _ _ h => h) (Or.inl ⟨by rfl, ?_⟩) (by assumption) ?_
      rotate_left
      · intro w hSw; (try dsimp only at hSw); go_simp
        first | done | with_reducible rfl
      try simp only [Act.put, List.setIfInBounds_toArray, List.set_cons_zero, List.set_cons_succ]
      refine wpAnyN_takeD (some 16) (by rfl) (i := 4) (oi := _) (v := ?_) rfl (by kernel_rfl) (by kernel_rfl) (by kernel_rfl) (by kernel_rfl) (fun _ _ _ h => h) (Or.inl ⟨by rfl, ?_⟩) (by assumption) ?_
      rotate_left
      · intro w hSw; (try dsimp only at hSw); go_simp
        first | done | with_reducible rfl
      try simp only [Act.put, List.setIfInBounds_toArray, List.set_cons_zero, List.set_cons_succ]
      refine wpAnyN_takeD (some 17) (by rfl) (i := 5) (oi := _) (v := ?_) rfl (by kernel_rfl) (by kernel_rfl) (by kernel_rfl) (by kernel_rfl) (fun _ _ _ h => h) (Or.inl ⟨by rfl, ?_⟩) (by assumption) ?_
      rotate_left
      · intro w hSw; (try dsimp only at hSw); go_simp
        first | done | with_reducible rfl
      try simp only [Act.put, List.setIfInBounds_toArray, List.set_cons_zero, List.set_cons_succ]
      refine wpAnyN_takeD (some 18) (by rfl) (i := 6) (oi := _) (v := ?_) rfl (by kernel_rfl) (by kernel_rfl) (by kernel_rfl) (by kernel_rfl) (fun _ _ _ h => h) (Or.inl ⟨by rfl, ?_⟩) (by assumption) ?_
      rotate_left
      · intro w hSw; (try dsimp only at hSw); go_simp
        first | done | with_reducible rfl
      try simp only [Act.put, List.setIfInBounds_toArray, List.set_cons_zero, List.set_cons_succ]
      refine wpAnyN_takeD (some 19) (by rfl) (i := 7) (oi := _) (v := ?_) rfl (by kernel_rfl) (by kernel_rfl) (by kernel_rfl) (by kernel_rfl) (fun _ _ _ h => h) (Or.inl ⟨by rfl, ?_⟩) (by assumption) ?_
      rotate_left
      · intro w hSw; (try dsimp only at hSw); go_simp
        first | done | with_reducible rfl
      try simp only [Act.put, List.setIfInBounds_toArray, List.set_cons_zero, List.set_cons_succ]
      refine wpAnyN_takeD (some 20) (by rfl) (i := 8) (oi := _) (v := ?_) rfl (by kernel_rfl) (by kernel_rfl) (by kernel_rfl) (by kernel_rfl) (fun _ _ _ h => h) (Or.inl ⟨by rfl, ?_⟩) (by assumption) ?_
      rotate_left
      · intro w hSw; (try dsimp only at hSw); go_simp
        first | done | with_reducible rfl
      try simp only [Act.put, List.setIfInBounds_toArray, List.set_cons_zero, List.set_cons_succ]
      refine wpAnyN_takeD (some 21) (by rfl) (i := 9) (oi := _) (v := ?_) rfl (by kernel_rfl) (by kernel_rfl) (by kernel_rfl) (by kernel_rfl) (fun _ _ _ h => h) (Or.inl ⟨by rfl, ?_⟩) (by assumption) ?_
      rotate_left
      · intro w hSw; (try dsimp only at hSw); go_simp
        first | done | with_reducible rfl
      try simp only [Act.put, List.setIfInBounds_toArray, List.set_cons_zero, List.set_cons_succ]
      refine wpAnyN_ready (rs := [10]) (by kernel_rfl) (by simp) ?_
      refine AllReadyN.held rfl (by rfl) (fun K hK => ?_) AllReadyN.nil
      go_simp
      refine (HP.out _ x y (HL.out.drew) (List.mem_of_getElem? HX.out) (List.mem_of_getElem? HY.out)).mono ?_
      rintro e w10 ⟨rfl, b10⟩
      rw [HZ.out]
      refine hK.out _ _ ?_ (fun hHeld => ?_)
      · exact HT1.out _ b10
      clear hK K
      try simp only [Act.put, List.setIfInBounds_toArray, List.set_cons_zero, List.set_cons_succ]
      refine wpAnyN_takeD (some 23) (by rfl) (i := 11) (oi := _) (v := ?_) rfl (by kernel_rfl) (by kernel_rfl) (by kernel_rfl) (by kernel_rfl) (fun _ _ _ h => h) (Or.inl ⟨by rfl, ?_⟩) (by assumption) ?_
      rotate_left
      · intro w hSw; (try dsimp only at hSw); go_simp
        first | done | with_reducible rfl
      try simp only [Act.put, List.setIfInBounds_toArray, List.set_cons_zero, List.set_cons_succ]
      refine wpAnyN_done (by kernel_rfl) ?_ _
      clear hHeld
      have HLW := hide (HL.out.drew.trans b10)
      clear b10
      cases u9 with
      | true =>
        have HF : Hid (u = false) := hide (Bool.eq_false_iff.2 (fun h => by
          have h5 := HU.out.1 h j x y HX.out HY.out
          rw [HZ.out] at h5
          rw [decide_eq_true_iff] at t9; omega))
        clear t9
        go_wp2_with fail
        go_ret
        exact ⟨by rw [HF.out]; rfl, HLW.out⟩
      | false =>
        have HN : Hid (∀ (i : Nat) x y, i < j + 1 → l[i]? = some x → l[i+1]? = some y → c x y < 0) := hide fun i x' y' hi hx hy => by
          by_cases hij : i < j
          · exact hpre.out i x' y' hij hx hy
          · obtain rfl : i = j := by omega
            rw [HX.out] at hx; rw [HY.out] at hy
            injection hx with hx; injection hy with hy
            rw [← hx, ← hy, HZ.out]
            rw [decide_eq_false_iff_not] at t9; omega
        clear t9 hw1 hj2 hj3
        go_wp2_with fail
        exact ⟨⟨j+1, by omega, by go_num, HN, HLW.out⟩, by simp [intOf]; omega⟩
    · have HF : Hid (u = true) := hide (HU.out.2 fun i x y hx hy => hpre.out i x y (by
        have := (List.getElem?_eq_some_iff.1 hy).1
        have := HNT.out; omega) hx hy)
      have hj1 : ¬ (j : Int) + 1 < nt := by omega
      go_wp2_with fail
      go_ret
      exact ⟨by rw [HF.out]; rfl, hL⟩
end Go.Proofs.YthncinngkfflgaaGreat

/- Plans: whether a book may be, capacities, what is committed, what is due (the program). -/
set_option linter.unusedVariables false
set_option linter.unusedSimpArgs false
set_option maxRecDepth 100000
namespace Go.Proofs.YthncinngkfflgaaGreat
open Go.RowKit Go.Shelf
attribute [local go_sem ↓] Go.wp_at_zero Go.wp_at_succ

theorem exists_bool (p : Prop) : ∃ u : Bool, u = true ↔ p := by classical exact ⟨decide p, by simp⟩

set_option maxHeartbeats 4000000 in
theorem plmay_calls (w : World) (A1 A2 A3 A4 : Option Addr) (n1 n2 n3 n4 c1 c2 c3 c4 : Nat) (D : PBook) (h : BookIn w (.slice A1 n1 c1) (.slice A2 n2 c2) (.slice A3 n3 c3) (.slice A4 n4 c4) D) (u : Bool) (hu : mayB D = u) :
    Calls Tryz.prog 25 #[.agg #[.slice A1 n1 c1, .int .i64 D.hor, .int .i64 D.now, .slice A2 n2 c2, .slice A3 n3 c3, .slice A4 n4 c4]] w (RetV w (.bool u)) := by
  have H := hide h
  obtain ⟨l1, l2, l3, l4⟩ := h.lens
  have hn1 : n1 ≤ 1000 := by have := h.il; omega
  have hn3 : n3 ≤ 1000 := by have := h.ol; omega
  have hn4 : n4 ≤ 1000 := by have := h.ml; omega
  obtain ⟨u0, hu0⟩ : ∃ u, headB D = u := ⟨_, rfl⟩
  obtain ⟨u1, hu1⟩ : ∃ u, D.ords.any (fun x : POrd => !decide ((1 ≤ x.id ∧ x.id ≤ 1000000) ∧ (0 ≤ x.item ∧ x.item ≤ ((n1 : Int) - 1)) ∧ (0 ≤ x.due ∧ x.due ≤ 39) ∧ (1 ≤ x.qty ∧ x.qty ≤ 100))) = u := ⟨_, rfl⟩
  obtain ⟨u2, hu2⟩ : ∃ u, D.mks.any (fun x : PMk => !decide ((0 ≤ x.item ∧ x.item ≤ ((n1 : Int) - 1)) ∧ (0 ≤ x.period ∧ x.period ≤ 39) ∧ (0 ≤ x.qty ∧ x.qty ≤ 100))) = u := ⟨_, rfl⟩
  obtain ⟨u3, hu3⟩ := exists_bool (∀ (i : Nat) x y, D.ords[i]? = some x → D.ords[i+1]? = some y → cmpI x.id y.id < 0)
  obtain ⟨u4, hu4⟩ := exists_bool (∀ (i : Nat) x y, D.mks[i]? = some x → D.mks[i+1]? = some y → cmpM x y < 0)
  have HP : Hid (u = true ↔ (u0 = true ∧ (n3 : Int) ≤ 30 ∧ (n4 : Int) ≤ 120 ∧ u1 = false ∧ u2 = false ∧ u3 = true ∧ u4 = true)) := hide (by
    rw [← hu, mayB_iff, ← hu0, headB_iff, any_not_all hu1, any_not_all hu2, hu3, hu4]
    simp only [decide_eq_true_iff, cmpI_neg, cmpM_neg]
    constructor
    · intro h
      refine ⟨h.head, by have := h.ol; omega, by have := h.ml; omega, fun x hx => ?_, fun x hx => ?_, h.oris, fun i x y hx hy => ?_⟩
      · have := h.ords x hx; unfold POrd.okP at this; omega
      · have := h.mks x hx; unfold PMk.okP at this; omega
      · have h1 := h.mris i x y hx hy
        have h2 := h.mks x (List.mem_of_getElem? hx); have h3 := h.mks y (List.mem_of_getElem? hy)
        have := h.head.n3
        unfold PMk.okP at h2 h3; unfold PMk.key at h1; omega
    · rintro ⟨a, b, c, d, e, f, g⟩
      refine ⟨a, by omega, by omega, fun x hx => ?_, fun x hx => ?_, f, fun i x y hx hy => ?_⟩
      · have := d x hx; unfold POrd.okP; omega
      · have := e x hx; unfold PMk.okP; omega
      · have h1 := g i x y hx hy
        have h2 := e x (List.mem_of_getElem? hx); have h3 := e y (List.mem_of_getElem? hy)
        have := a.n3
        unfold PMk.key; omega)
  have HU0 := hide hu0; have HU1 := hide hu1; have HU2 := hide hu2; have HU3 := hide hu3; have HU4 := hide hu4
  have hol : D.ords.length ≤ 1000000000 := by have := h.ol; omega
  have hml : D.mks.length ≤ 1000000000 := by have := h.ml; omega
  clear h hu hu0 hu1 hu2 hu3 hu4 l1 l2 l3 l4
  obtain ⟨W0, hW0⟩ : ∃ W0, W0 = (w.alloc (Obj.cells #[Value.slice A1 n1 c1, Value.int .i64 D.hor, Value.int .i64 D.now, Value.slice A2 n2 c2, Value.slice A3 n3 c3, Value.slice A4 n4 c4] 47)) := ⟨_, rfl⟩
  obtain ⟨hb0, r0, hsz0⟩ := boxes1 w [.slice A1 n1 c1, .int .i64 D.hor, .int .i64 D.now, .slice A2 n2 c2, .slice A3 n3 c3, .slice A4 n4 c4] 47 hW0
  have B0 := hide hb0; have HW0 := hide hW0
  have R0 := hide r0
  clear hb0 hW0 hsz0 r0
  go_enter Tryz.func25, Tryz.ntmps25
  go_upto_region 1 with fail
  rw [← HW0.out]
  have r_d := R0.out.later (Later.refl W0)
  have d0 := r_d.cell (i := 0) rfl; have d1 := r_d.cell (i := 1) rfl; have d2 := r_d.cell (i := 2) rfl; have d3 := r_d.cell (i := 3) rfl; have d4 := r_d.cell (i := 4) rfl; have d5 := r_d.cell (i := 5) rfl
  clear r_d
  go_wp2_with fail
  ((with_reducible refine (head_calls _ _ _ _ _ _ _ _ _ _ _ _ _ D (H.out.later B0.out) u0 HU0.out).mono ?_); rintro e w1 ⟨rfl, b1⟩)
  have HL1 := hide b1
  clear b1 d0 d1 d2 d3 d4 d5
  have r_d := R0.out.later HL1.out
  have d0 := r_d.cell (i := 0) rfl; have d1 := r_d.cell (i := 1) rfl; have d2 := r_d.cell (i := 2) rfl; have d3 := r_d.cell (i := 3) rfl; have d4 := r_d.cell (i := 4) rfl; have d5 := r_d.cell (i := 5) rfl
  clear r_d
  cases u0 with
  | false =>
    have HF : Hid (u = false) := hide (Bool.eq_false_iff.2 (fun h => by have := (HP.out.1 h).1; cases this))
    go_wp2_with fail
    go_ret
    exact ⟨by first | rfl | (rw [HF.out]; rfl), B0.out.trans HL1.out⟩
  | true =>
  by_cases g1 : (30 : Int) < (n3 : Int)
  · have k1 : decide ((30 : Int) < (n3 : Int)) = true := by simpa using g1
    have HF : Hid (u = false) := hide (Bool.eq_false_iff.2 (fun h => by have := (HP.out.1 h).2.1; omega))
    go_wp2_with fail
    go_ret
    exact ⟨by first | rfl | (rw [HF.out]; rfl), B0.out.trans HL1.out⟩
  by_cases g2 : (120 : Int) < (n4 : Int)
  · have k2 : decide ((120 : Int) < (n4 : Int)) = true := by simpa using g2
    have HF : Hid (u = false) := hide (Bool.eq_false_iff.2 (fun h => by have := (HP.out.1 h).2.2.1; omega))
    go_wp2_with fail
    go_ret
    exact ⟨by first | rfl | (rw [HF.out]; rfl), B0.out.trans HL1.out⟩
  have HG1 := hide g1; have HG2 := hide g2
  go_upto_region 4 with fail
  clear d0 d1 d2 d3 d4 d5
  obtain ⟨W2, hW2⟩ : ∃ W2, W2 = w1.alloc (Obj.cells #[Value.int .i64 ((n1 : Int) - 1)] 3) := ⟨_, rfl⟩
  obtain ⟨gn, hgn⟩ : ∃ gn, gn = w1.heap.size := ⟨_, rfl⟩
  have hb : Later w1 W2 := by rw [hW2]; exact (Later.refl _).alloc _
  have hr : Row W2 gn 3 [.int .i64 ((n1 : Int) - 1)] := by rw [hW2, hgn]; exact Row.new _ _ _
  rw [← hW2, ← hgn]
  have HL2 := hide (HL1.out.trans hb)
  have HRN := hide hr
  clear hb hr hW2 hgn
  have r_d := R0.out.later HL2.out
  have d0 := r_d.cell (i := 0) rfl; have d1 := r_d.cell (i := 1) rfl; have d2 := r_d.cell (i := 2) rfl; have d3 := r_d.cell (i := 3) rfl; have d4 := r_d.cell (i := 4) rfl; have d5 := r_d.cell (i := 5) rfl
  clear r_d
  go_wp2_with fail
  ((with_reducible refine (contO1_calls _ _ D.ords (H.out.later (B0.out.trans HL2.out)).ords hol _ ⟨fun _ _ => by kernel_rfl⟩ gn (fun x : POrd => !decide ((1 ≤ x.id ∧ x.id ≤ 1000000) ∧ (0 ≤ x.item ∧ x.item ≤ ((n1 : Int) - 1)) ∧ (0 ≤ x.due ∧ x.due ≤ 39) ∧ (1 ≤ x.qty ∧ x.qty ≤ 100))) (fun W x hW hx => may1_calls W x gn _ ((HRN.out.later hW).cell rfl)) u1 HU1.out).mono ?_); rintro e w3 ⟨rfl, b3⟩)
  have HL3 := hide (HL2.out.trans b3); have HRN3 := hide (HRN.out.later b3)
  clear b3 d0 d1 d2 d3 d4 d5
  have r_d := R0.out.later HL3.out
  have d0 := r_d.cell (i := 0) rfl; have d1 := r_d.cell (i := 1) rfl; have d2 := r_d.cell (i := 2) rfl; have d3 := r_d.cell (i := 3) rfl; have d4 := r_d.cell (i := 4) rfl; have d5 := r_d.cell (i := 5) rfl
  clear r_d
  go_wp2_with fail
  ((with_reducible refine (contM1_calls _ _ D.mks (H.out.later (B0.out.trans HL3.out)).mks hml _ ⟨fun _ _ => by kernel_rfl⟩ gn (fun x : PMk => !decide ((0 ≤ x.item ∧ x.item ≤ ((n1 : Int) - 1)) ∧ (0 ≤ x.period ∧ x.period ≤ 39) ∧ (0 ≤ x.qty ∧ x.qty ≤ 100))) (fun W x hW hx => may2_calls W x gn _ ((HRN3.out.later hW).cell rfl)) u2 HU2.out).mono ?_); rintro e w4 ⟨rfl, b4⟩)
  have HL4 := hide (HL3.out.trans b4)
  clear b4 d0 d1 d2 d3 d4 d5
  have r_d := R0.out.later HL4.out
  have d0 := r_d.cell (i := 0) rfl; have d1 := r_d.cell (i := 1) rfl; have d2 := r_d.cell (i := 2) rfl; have d3 := r_d.cell (i := 3) rfl; have d4 := r_d.cell (i := 4) rfl; have d5 := r_d.cell (i := 5) rfl
  clear r_d
  cases u1 with
  | true =>
    have HF : Hid (u = false) := hide (Bool.eq_false_iff.2 (fun h => by have := (HP.out.1 h).2.2.2.1; cases this))
    go_wp2_with fail
    go_ret
    exact ⟨by first | rfl | (rw [HF.out]; rfl), B0.out.trans HL4.out⟩
  | false =>
  cases u2 with
  | true =>
    have HF : Hid (u = false) := hide (Bool.eq_false_iff.2 (fun h => by have := (HP.out.1 h).2.2.2.2.1; cases this))
    go_wp2_with fail
    go_ret
    exact ⟨by first | rfl | (rw [HF.out]; rfl), B0.out.trans HL4.out⟩
  | false =>
  go_wp2_with fail
  ((with_reducible refine (risesO_calls _ _ D.ords (H.out.later (B0.out.trans HL4.out)).ords hol _ ⟨fun _ _ => by kernel_rfl⟩ (fun x y => cmpI x.id y.id) (fun W x y hW hx hy => may3_calls W x y _ rfl) u3 HU3.out).mono ?_); rintro e w5 ⟨rfl, b5⟩)
  have HL5 := hide (HL4.out.trans b5)
  clear b5 d0 d1 d2 d3 d4 d5
  have r_d := R0.out.later HL5.out
  have d0 := r_d.cell (i := 0) rfl; have d1 := r_d.cell (i := 1) rfl; have d2 := r_d.cell (i := 2) rfl; have d3 := r_d.cell (i := 3) rfl; have d4 := r_d.cell (i := 4) rfl; have d5 := r_d.cell (i := 5) rfl
  clear r_d
  cases u3 with
  | false =>
    have HF : Hid (u = false) := hide (Bool.eq_false_iff.2 (fun h => by have := (HP.out.1 h).2.2.2.2.2.1; cases this))
    go_wp2_with fail
    go_ret
    exact ⟨by first | rfl | (rw [HF.out]; rfl), B0.out.trans HL5.out⟩
  | true =>
  go_wp2_with fail
  ((with_reducible refine (risesM_calls _ _ D.mks (H.out.later (B0.out.trans HL5.out)).mks hml _ ⟨fun _ _ => by kernel_rfl⟩ (fun x y => cmpM x y) (fun W x y hW hx hy => may4_calls W x y _ rfl) u4 HU4.out).mono ?_); rintro e w6 ⟨rfl, b6⟩)
  have HL6 := hide (HL5.out.trans b6)
  clear b6 d0 d1 d2 d3 d4 d5
  cases u4 with
  | false =>
    have HF : Hid (u = false) := hide (Bool.eq_false_iff.2 (fun h => by have := (HP.out.1 h).2.2.2.2.2.2; cases this))
    go_wp2_with fail
    go_ret
    exact ⟨by first | rfl | (rw [HF.out]; rfl), B0.out.trans HL6.out⟩
  | true =>
    have HF : Hid (u = true) := hide (HP.out.2 (by refine ⟨?_, ?_, ?_, ?_, ?_, ?_, ?_⟩ <;> first | rfl | trivial | exact HG1.out | exact HG2.out | (have := HG1.out; have := HG2.out; omega)))
    go_wp2_with fail
    go_ret
    exact ⟨by first | rfl | (rw [HF.out]; rfl), B0.out.trans HL6.out⟩

set_option maxHeartbeats 2000000 in
theorem plhas_calls (w : World) (A1 A2 A3 A4 : Option Addr) (n1 n2 n3 n4 c1 c2 c3 c4 : Nat) (D : PBook) (h : BookIn w (.slice A1 n1 c1) (.slice A2 n2 c2) (.slice A3 n3 c3) (.slice A4 n4 c4) D) (item : Int) (u : Bool) (hu : (mayB D && decide (0 ≤ item ∧ item ≤ (n1 : Int) - 1)) = u) :
    Calls Tryz.prog 62 #[.agg #[.slice A1 n1 c1, .int .i64 D.hor, .int .i64 D.now, .slice A2 n2 c2, .slice A3 n3 c3, .slice A4 n4 c4], .int .i64 item] w (RetV w (.bool u)) := by
  have H := hide h; have HU := hide hu
  obtain ⟨l1, l2, l3, l4⟩ := h.lens
  have hn1 : n1 ≤ 1000 := by have := h.il; omega
  obtain ⟨u0, hu0⟩ : ∃ u, mayB D = u := ⟨_, rfl⟩
  have HU0 := hide hu0
  clear h hu hu0 l1 l2 l3 l4
  obtain ⟨W0, hW0⟩ : ∃ W0, W0 = (w.alloc (Obj.cells #[Value.slice A1 n1 c1, Value.int .i64 D.hor, Value.int .i64 D.now, Value.slice A2 n2 c2, Value.slice A3 n3 c3, Value.slice A4 n4 c4] 47)) := ⟨_, rfl⟩
  obtain ⟨hb0, r0, hsz0⟩ := boxes1 w [.slice A1 n1 c1, .int .i64 D.hor, .int .i64 D.now, .slice A2 n2 c2, .slice A3 n3 c3, .slice A4 n4 c4] 47 hW0
  have B0 := hide hb0; have HW0 := hide hW0
  have R0 := hide r0
  clear hb0 hW0 hsz0 r0
  go_enter Tryz.func62, Tryz.ntmps62
  go_upto_region 1 with fail
  rw [← HW0.out]
  have r_d := R0.out.later (Later.refl W0)
  have d0 := r_d.cell (i := 0) rfl; have d1 := r_d.cell (i := 1) rfl; have d2 := r_d.cell (i := 2) rfl; have d3 := r_d.cell (i := 3) rfl; have d4 := r_d.cell (i := 4) rfl; have d5 := r_d.cell (i := 5) rfl
  clear r_d
  go_wp2_with fail
  ((with_reducible refine (plmay_calls _ _ _ _ _ _ _ _ _ _ _ _ _ D (H.out.later B0.out) u0 HU0.out).mono ?_); rintro e w1 ⟨rfl, b1⟩)
  have HL1 := hide b1
  clear b1 d0 d1 d2 d3 d4 d5
  have r_d := R0.out.later HL1.out
  have d0 := r_d.cell (i := 0) rfl; have d1 := r_d.cell (i := 1) rfl; have d2 := r_d.cell (i := 2) rfl; have d3 := r_d.cell (i := 3) rfl; have d4 := r_d.cell (i := 4) rfl; have d5 := r_d.cell (i := 5) rfl
  clear r_d
  cases u0 with
  | false =>
    have HF : Hid (u = false) := hide (by rw [← HU.out, HU0.out]; rfl)
    go_wp2_with fail
    go_ret
    exact ⟨by first | rfl | (rw [HF.out]; rfl), B0.out.trans HL1.out⟩
  | true =>
  have HF : Hid (decide (0 ≤ item ∧ item ≤ (n1 : Int) - 1) = u) := hide (by rw [← HU.out, HU0.out]; rfl)
  go_wp2_with ((with_reducible refine (pin_calls _ _ _ _ _ HF.out).mono ?_); rintro e w2 ⟨rfl, rfl⟩)
  go_ret
  exact ⟨by first | rfl | (rw [HF.out]; rfl), B0.out.trans HL1.out⟩

set_option maxHeartbeats 2000000 in
theorem plcap_calls (w : World) (A1 A2 A3 A4 : Option Addr) (n1 n2 n3 n4 c1 c2 c3 c4 : Nat) (D : PBook) (h : BookIn w (.slice A1 n1 c1) (.slice A2 n2 c2) (.slice A3 n3 c3) (.slice A4 n4 c4) D) (period : Int) :
    Calls Tryz.prog 27 #[.agg #[.slice A1 n1 c1, .int .i64 D.hor, .int .i64 D.now, .slice A2 n2 c2, .slice A3 n3 c3, .slice A4 n4 c4], .int .i64 period] w (RetV w (.int .i64 (capV D period))) := by
  have H := hide h
  obtain ⟨l1, l2, l3, l4⟩ := h.lens
  have hn2 : n2 ≤ 1000 := by have := h.cl; omega
  obtain ⟨u0, hu0⟩ : ∃ u, mayB D = u := ⟨_, rfl⟩
  obtain ⟨z, hz⟩ : ∃ z, capV D period = z := ⟨_, rfl⟩
  rw [hz]
  have HU0 := hide hu0; have HZ := hide hz; have L2 := hide l2
  clear h hu0 hz l1 l2 l3 l4
  obtain ⟨W0, hW0⟩ : ∃ W0, W0 = (w.alloc (Obj.cells #[Value.slice A1 n1 c1, Value.int .i64 D.hor, Value.int .i64 D.now, Value.slice A2 n2 c2, Value.slice A3 n3 c3, Value.slice A4 n4 c4] 47)) := ⟨_, rfl⟩
  obtain ⟨hb0, r0, hsz0⟩ := boxes1 w [.slice A1 n1 c1, .int .i64 D.hor, .int .i64 D.now, .slice A2 n2 c2, .slice A3 n3 c3, .slice A4 n4 c4] 47 hW0
  have B0 := hide hb0; have HW0 := hide hW0
  have R0 := hide r0
  clear hb0 hW0 hsz0 r0
  go_enter Tryz.func27, Tryz.ntmps27
  go_upto_region 1 with fail
  rw [← HW0.out]
  have r_d := R0.out.later (Later.refl W0)
  have d0 := r_d.cell (i := 0) rfl; have d1 := r_d.cell (i := 1) rfl; have d2 := r_d.cell (i := 2) rfl; have d3 := r_d.cell (i := 3) rfl; have d4 := r_d.cell (i := 4) rfl; have d5 := r_d.cell (i := 5) rfl
  clear r_d
  go_wp2_with fail
  ((with_reducible refine (plmay_calls _ _ _ _ _ _ _ _ _ _ _ _ _ D (H.out.later B0.out) u0 HU0.out).mono ?_); rintro e w1 ⟨rfl, b1⟩)
  have HL1 := hide b1
  clear b1 d0 d1 d2 d3 d4 d5
  have r_d := R0.out.later HL1.out
  have d0 := r_d.cell (i := 0) rfl; have d1 := r_d.cell (i := 1) rfl; have d2 := r_d.cell (i := 2) rfl; have d3 := r_d.cell (i := 3) rfl; have d4 := r_d.cell (i := 4) rfl; have d5 := r_d.cell (i := 5) rfl
  clear r_d
  cases u0 with
  | false =>
    have HF : Hid (z = 0) := hide (by rw [← HZ.out]; unfold capV; rw [if_neg (by rw [HU0.out]; simp)])
    go_wp2_with fail
    go_ret
    exact ⟨by first | rfl | (rw [HF.out]; rfl), B0.out.trans HL1.out⟩
  | true =>
  by_cases g1 : 0 ≤ period ∧ period ≤ (n2 : Int) - 1
  rotate_left
  · have k1 : decide (0 ≤ period ∧ period ≤ (n2 : Int) - 1) = false := by simpa using g1
    have HF : Hid (z = 0) := hide (by rw [← HZ.out]; unfold capV; rw [if_neg (by rintro ⟨-, h1, h2⟩; have := L2.out; omega)])
    go_wp2_with ((with_reducible refine (pin_calls _ _ _ _ _ k1).mono ?_); rintro e w2 ⟨rfl, rfl⟩)
    go_ret
    exact ⟨by first | rfl | (rw [HF.out]; rfl), B0.out.trans HL1.out⟩
  have k1 : decide (0 ≤ period ∧ period ≤ (n2 : Int) - 1) = true := by simpa using g1
  obtain ⟨k, rfl⟩ := Int.eq_ofNat_of_zero_le g1.1
  obtain ⟨x, hx⟩ : ∃ x, D.caps[k]? = some x := ⟨D.caps[k]'(by have := L2.out; omega), List.getElem?_eq_getElem _⟩
  have HF : Hid (x = z) := hide (by
    rw [← HZ.out]; unfold capV; rw [if_pos ⟨HU0.out, by omega, by have := L2.out; omega⟩, Int.toNat_natCast, List.getD_eq_getElem?_getD, hx]; rfl)
  obtain ⟨b1, off1, rfl, x1⟩ := (H.out.later (B0.out.trans HL1.out)).caps.at1 hx
  have hk1 : (k : Int) < n2 := by omega
  have hk0 : (0 : Int) ≤ (k : Int) := by omega
  clear g1 hx
  go_wp2_with ((with_reducible refine (pin_calls _ _ _ _ _ k1).mono ?_); rintro e w2 ⟨rfl, rfl⟩)
  go_ret
  exact ⟨by first | rfl | (rw [HF.out]; rfl), B0.out.trans HL1.out⟩

set_option maxHeartbeats 2000000 in
theorem fixed1_calls (w : World) (x : PMk) (G G2 : Nat) (it p : Int) (h1 : w.cell? ⟨G, 0, none⟩ = some (.int .i64 it)) (h2 : w.cell? ⟨G2, 0, none⟩ = some (.int .i64 p)) :
    Calls Tryz.prog 64 #[.agg #[.int .i64 x.item, .int .i64 x.period, .int .i64 x.qty], .pointer (some ⟨G, 0, none⟩), .pointer (some ⟨G2, 0, none⟩)] w (RetV w (.bool (decide (x.item = it ∧ x.period = p)))) := by
  have H1 := hide h1; have H2 := hide h2
  clear h1 h2
  obtain ⟨W0, hW0⟩ : ∃ W0, W0 = (w.alloc (Obj.cells #[Value.int .i64 x.item, Value.int .i64 x.period, Value.int .i64 x.qty] 67)) := ⟨_, rfl⟩
  obtain ⟨hb0, r0, hsz0⟩ := boxes1 w [.int .i64 x.item, .int .i64 x.period, .int .i64 x.qty] 67 hW0
  have B0 := hide hb0; have HW0 := hide hW0
  have R0 := hide r0
  clear hb0 hW0 hsz0 r0
  go_enter Tryz.func64, Tryz.ntmps64
  go_upto_region 1 with fail
  rw [← HW0.out]
  have x1 := Later.cell B0.out H1.out; have x2 := Later.cell B0.out H2.out
  have r_d := R0.out.later (Later.refl W0)
  have d0 := r_d.cell (i := 0) rfl; have d1 := r_d.cell (i := 1) rfl; have d2 := r_d.cell (i := 2) rfl
  clear r_d
  by_cases g1 : x.item = it
  · have k1 : (x.item == it) = true := by simpa using g1
    by_cases g2 : x.period = p
    · have k2 : (x.period == p) = true := by simpa using g2
      have HF : Hid (decide (x.item = it ∧ x.period = p) = true) := hide (by simp [g1, g2])
      clear g1 g2
      go_wp2_with fail
      go_ret
      exact ⟨by first | rfl | (rw [HF.out]; first | rfl | simp [k1, k2]), B0.out⟩
    · have k2 : (x.period == p) = false := by simpa using g2
      have HF : Hid (decide (x.item = it ∧ x.period = p) = false) := hide (by simp [g2])
      clear g1 g2
      go_wp2_with fail
      go_ret
      exact ⟨by first | rfl | (rw [HF.out]; first | rfl | simp [k1, k2]), B0.out⟩
  · have k1 : (x.item == it) = false := by simpa using g1
    have HF : Hid (decide (x.item = it ∧ x.period = p) = false) := hide (by simp [g1])
    clear g1
    go_wp2_with fail
    go_ret
    exact ⟨by first | rfl | (rw [HF.out]; first | rfl | simp [k1]), B0.out⟩

/-- what Fixed hands back -/
def RetO (w : World) (o : Option Int) (e : Ending) (w' : World) : Prop := e = .returned (.tuple #[.int .i64 (o.getD 0), .bool o.isSome]) ∧ Later w w'
theorem fixedV_in {D : PBook} {it p : Int} (h : ¬ (mayB D = true ∧ 0 ≤ it ∧ it ≤ (D.items.length : Int) - 1)) : fixedV D it p = none := by
  unfold fixedV
  by_cases hm : mayB D = true
  · rw [if_pos hm]
    rw [Option.map_eq_none_iff, List.find?_eq_none]
    intro x hx
    have := (mayB_iff.1 hm).mks x hx
    unfold PMk.okP at this
    simp; intro h1 h2; apply h; exact ⟨hm, by omega, by omega⟩
  · rw [if_neg hm]

set_option maxHeartbeats 4000000 in
theorem plfixed_calls (w : World) (A1 A2 A3 A4 : Option Addr) (n1 n2 n3 n4 c1 c2 c3 c4 : Nat) (D : PBook) (h : BookIn w (.slice A1 n1 c1) (.slice A2 n2 c2) (.slice A3 n3 c3) (.slice A4 n4 c4) D) (it p : Int) :
    Calls Tryz.prog 23 #[.agg #[.slice A1 n1 c1, .int .i64 D.hor, .int .i64 D.now, .slice A2 n2 c2, .slice A3 n3 c3, .slice A4 n4 c4], .int .i64 it, .int .i64 p] w (RetO w (fixedV D it p)) := by
  have H := hide h
  obtain ⟨l1, l2, l3, l4⟩ := h.lens
  have hn4 : n4 ≤ 1000 := by have := h.ml; omega
  obtain ⟨u0, hu0⟩ : ∃ u, (mayB D && decide (0 ≤ it ∧ it ≤ (n1 : Int) - 1)) = u := ⟨_, rfl⟩
  obtain ⟨z, hz⟩ : ∃ z, fixedV D it p = z := ⟨_, rfl⟩
  rw [hz]
  have HU0 := hide hu0; have HZ := hide hz; have L4 := hide l4; have L1 := hide l1
  clear h hu0 hz l1 l2 l3 l4
  obtain ⟨W0, hW0⟩ : ∃ W0, W0 = (((w.alloc (Obj.cells #[Value.slice A1 n1 c1, Value.int .i64 D.hor, Value.int .i64 D.now, Value.slice A2 n2 c2, Value.slice A3 n3 c3, Value.slice A4 n4 c4] 47)).alloc (Obj.cells #[Value.int .i64 it] 3)).alloc (Obj.cells #[Value.int .i64 p] 3)) := ⟨_, rfl⟩
  obtain ⟨hb0, r0, r1, r2, hsz0⟩ := boxes3 w [.slice A1 n1 c1, .int .i64 D.hor, .int .i64 D.now, .slice A2 n2 c2, .slice A3 n3 c3, .slice A4 n4 c4] [.int .i64 it] [.int .i64 p] 47 3 3 hW0
  have B0 := hide hb0; have HW0 := hide hW0
  have R0 := hide r0; have R1 := hide r1; have R2 := hide r2
  clear hb0 hW0 hsz0 r0 r1 r2
  go_enter Tryz.func23, Tryz.ntmps23
  go_upto_region 1 with fail
  rw [← HW0.out]
  have r_d := R0.out.later (Later.refl W0)
  have d0 := r_d.cell (i := 0) rfl; have d1 := r_d.cell (i := 1) rfl; have d2 := r_d.cell (i := 2) rfl; have d3 := r_d.cell (i := 3) rfl; have d4 := r_d.cell (i := 4) rfl; have d5 := r_d.cell (i := 5) rfl
  clear r_d
  have r_e := R1.out.later (Later.refl W0)
  have e0 := r_e.cell (i := 0) rfl
  clear r_e
  go_wp2_with fail
  ((with_reducible refine (plhas_calls _ _ _ _ _ _ _ _ _ _ _ _ _ D (H.out.later B0.out) it u0 HU0.out).mono ?_); rintro e w1 ⟨rfl, b1⟩)
  have HL1 := hide b1
  clear b1 d0 d1 d2 d3 d4 d5 e0
  have r_d := R0.out.later HL1.out
  have d0 := r_d.cell (i := 0) rfl; have d1 := r_d.cell (i := 1) rfl; have d2 := r_d.cell (i := 2) rfl; have d3 := r_d.cell (i := 3) rfl; have d4 := r_d.cell (i := 4) rfl; have d5 := r_d.cell (i := 5) rfl
  clear r_d
  cases u0 with
  | false =>
    have HF : Hid (z = none) := hide (by
      rw [← HZ.out]; refine fixedV_in fun h => ?_
      have h5 := HU0.out
      rw [h.1, L1.out, Bool.true_and, decide_eq_false_iff_not] at h5
      exact h5 h.2)
    go_wp2_with fail
    go_ret2
    exact ⟨by rw [HF.out]; rfl, B0.out.trans HL1.out⟩
  | true =>
  have HM : Hid (mayB D = true) := hide (by have := HU0.out; rw [Bool.and_eq_true] at this; exact this.1)
  go_wp2_with fail
  ((with_reducible refine (idxM2_calls _ _ D.mks (H.out.later (B0.out.trans HL1.out)).mks (by have := L4.out; omega) _ ⟨fun _ _ => by kernel_rfl⟩ (w.heap.size + 1) (w.heap.size + 2) (fun x => decide (x.item = it ∧ x.period = p)) (fun W x hW hx => fixed1_calls W x _ _ it p ((R1.out.later (HL1.out.trans hW)).cell rfl) ((R2.out.later (HL1.out.trans hW)).cell rfl))).mono ?_); rintro e w2 ⟨zi, rfl, hzi, b2⟩)
  have HL2 := hide (HL1.out.trans b2)
  clear b2 d0 d1 d2 d3 d4 d5
  have r_d := R0.out.later HL2.out
  have d0 := r_d.cell (i := 0) rfl; have d1 := r_d.cell (i := 1) rfl; have d2 := r_d.cell (i := 2) rfl; have d3 := r_d.cell (i := 3) rfl; have d4 := r_d.cell (i := 4) rfl; have d5 := r_d.cell (i := 5) rfl
  clear r_d
  rcases firstX_find hzi with ⟨rfl, hfi⟩ | ⟨i, x, rfl, hil, hx, hfi⟩
  · have HF : Hid (z = none) := hide (by rw [← HZ.out]; unfold fixedV; rw [if_pos HM.out, hfi]; rfl)
    clear hzi hfi
    go_wp2_with fail
    go_ret2
    exact ⟨by rw [HF.out]; rfl, B0.out.trans HL2.out⟩
  · have HF : Hid (z = some x.qty) := hide (by rw [← HZ.out]; unfold fixedV; rw [if_pos HM.out, hfi]; rfl)
    obtain ⟨b1, off1, rfl, x1, x2, x3⟩ := (H.out.later (B0.out.trans HL2.out)).mks.at3 hx
    have hi1 : (i : Int) < n4 := by have := L4.out; omega
    have hi0 : (0 : Int) ≤ (i : Int) := by omega
    clear hzi hfi hx hil
    go_wp2_with fail
    go_ret2
    exact ⟨by rw [HF.out]; rfl, B0.out.trans HL2.out⟩
end Go.Proofs.YthncinngkfflgaaGreat
