/- Plans: capacities, what is committed, due, and there (the reference). -/
import Derived.Test.YthncinngkfflgaaGreatQ19
set_option linter.unusedVariables false
set_option linter.unusedSimpArgs false
set_option maxRecDepth 100000
namespace Go.Proofs.YthncinngkfflgaaGreat
open Go.RowKit Go.Shelf
attribute [local go_sem ↓] Go.wp_at_zero Go.wp_at_succ

set_option maxHeartbeats 2000000 in
theorem rcap_calls (w : World) (A1 A2 A3 A4 : Option Addr) (n1 n2 n3 n4 c1 c2 c3 c4 : Nat) (D : PBook) (h : BookIn w (.slice A1 n1 c1) (.slice A2 n2 c2) (.slice A3 n3 c3) (.slice A4 n4 c4) D) (period : Int) :
    Calls Tryz.prog 28 #[.agg #[.slice A1 n1 c1, .int .i64 D.hor, .int .i64 D.now, .slice A2 n2 c2, .slice A3 n3 c3, .slice A4 n4 c4], .int .i64 period] w (RetV w (.int .i64 (capV D period))) := by
  have H := hide h
  obtain ⟨l1, l2, l3, l4⟩ := h.lens
  have hn2 : n2 ≤ 1000 := by have := h.cl; omega
  obtain ⟨u0, hu0⟩ : ∃ u, mayB D = u := ⟨_, rfl⟩
  obtain ⟨z, hz⟩ : ∃ z, capV D period = z := ⟨_, rfl⟩
  rw [hz]
  have HU0 := hide hu0; have HZ := hide hz; have L2 := hide l2
  clear h hu0 hz l1 l2 l3 l4
  obtain ⟨W0, hW0⟩ : ∃ W0, W0 = (w.alloc (Obj.cells #[Value.slice A1 n1 c1, Value.int .i64 D.hor, Value.int .i64 D.now, Value.slice A2 n2 c2, Value.slice A3 n3 c3, Value.slice A4 n4 c4] 47)) := ⟨_, rfl⟩
  obtain ⟨hb0, r0, hsz0⟩ := boxes1 w [.slice A1 n1 c1, .int .i64 D.hor, .int .i64 D.now, .slice A2 n2 c2, .slice A3 n3 c3, .slice A4 n4 c4] 47 hW0
  have B0 := hide hb0; have HW0 := hide hW0
  have R0 := hide r0
  clear hb0 hW0 hsz0 r0
  go_enter Tryz.func28, Tryz.ntmps28
  go_upto_region 1 with fail
  rw [← HW0.out]
  have r_d := R0.out.later (Later.refl W0)
  have d0 := r_d.cell (i := 0) rfl; have d1 := r_d.cell (i := 1) rfl; have d2 := r_d.cell (i := 2) rfl; have d3 := r_d.cell (i := 3) rfl; have d4 := r_d.cell (i := 4) rfl; have d5 := r_d.cell (i := 5) rfl
  clear r_d
  go_wp2_with fail
  ((with_reducible refine (rmay_calls _ _ _ _ _ _ _ _ _ _ _ _ _ D (H.out.later B0.out) u0 HU0.out).mono ?_); rintro e w1 ⟨rfl, b1⟩)
  have HL1 := hide b1
  clear b1 d0 d1 d2 d3 d4 d5
  have r_d := R0.out.later HL1.out
  have d0 := r_d.cell (i := 0) rfl; have d1 := r_d.cell (i := 1) rfl; have d2 := r_d.cell (i := 2) rfl; have d3 := r_d.cell (i := 3) rfl; have d4 := r_d.cell (i := 4) rfl; have d5 := r_d.cell (i := 5) rfl
  clear r_d
  cases u0 with
  | false =>
    have HF : Hid (z = 0) := hide (by rw [← HZ.out]; unfold capV; rw [if_neg (by rw [HU0.out]; simp)])
    go_wp2_with fail
    go_ret
    exact ⟨by first | rfl | (rw [HF.out]; rfl), B0.out.trans HL1.out⟩
  | true =>
  by_cases g1 : period < 0
  · have k1 : decide (period < 0) = true := by simpa using g1
    have HF : Hid (z = 0) := hide (by rw [← HZ.out]; unfold capV; rw [if_neg (by rintro ⟨-, h1, h2⟩; omega)])
    go_wp2_with fail
    go_ret
    exact ⟨by first | rfl | (rw [HF.out]; rfl), B0.out.trans HL1.out⟩
  have k1 : decide (period < 0) = false := by simpa using g1
  by_cases g2 : (n2 : Int) ≤ period
  · have k2 : decide ((n2 : Int) ≤ period) = true := by simpa using g2
    have HF : Hid (z = 0) := hide (by rw [← HZ.out]; unfold capV; rw [if_neg (by rintro ⟨-, h1, h2⟩; have := L2.out; omega)])
    go_wp2_with fail
    go_ret
    exact ⟨by first | rfl | (rw [HF.out]; rfl), B0.out.trans HL1.out⟩
  obtain ⟨k, rfl⟩ := Int.eq_ofNat_of_zero_le (show 0 ≤ period by omega)
  obtain ⟨x, hx⟩ : ∃ x, D.caps[k]? = some x := ⟨D.caps[k]'(by have := L2.out; omega), List.getElem?_eq_getElem _⟩
  have HF : Hid (x = z) := hide (by
    rw [← HZ.out]; unfold capV; rw [if_pos ⟨HU0.out, by omega, by have := L2.out; omega⟩, Int.toNat_natCast, List.getD_eq_getElem?_getD, hx]; rfl)
  obtain ⟨b1, off1, rfl, x1⟩ := (H.out.later (B0.out.trans HL1.out)).caps.at1 hx
  have hk1 : (k : Int) < n2 := by omega
  have hk0 : (0 : Int) ≤ (k : Int) := by omega
  clear g1 g2 k1 hx
  go_wp2_with fail
  go_ret
  exact ⟨by first | rfl | (rw [HF.out]; rfl), B0.out.trans HL1.out⟩

set_option maxHeartbeats 4000000 in
theorem rfixed_calls (w : World) (A1 A2 A3 A4 : Option Addr) (n1 n2 n3 n4 c1 c2 c3 c4 : Nat) (D : PBook) (h : BookIn w (.slice A1 n1 c1) (.slice A2 n2 c2) (.slice A3 n3 c3) (.slice A4 n4 c4) D) (it p : Int) :
    Calls Tryz.prog 24 #[.agg #[.slice A1 n1 c1, .int .i64 D.hor, .int .i64 D.now, .slice A2 n2 c2, .slice A3 n3 c3, .slice A4 n4 c4], .int .i64 it, .int .i64 p] w (RetO w (fixedV D it p)) := by
  have H := hide h
  obtain ⟨l1, l2, l3, l4⟩ := h.lens
  have hn3 : n3 ≤ 1000 := by have := h.ol; omega
  have hn4 : n4 ≤ 1000 := by have := h.ml; omega
  obtain ⟨u0, hu0⟩ : ∃ u, mayB D = u := ⟨_, rfl⟩
  obtain ⟨z, hz⟩ : ∃ z, fixedV D it p = z := ⟨_, rfl⟩
  rw [hz]
  have HU0 := hide hu0; have HZ := hide hz; have L3 := hide l3; have L4 := hide l4
  clear h hu0 hz l1 l2 l3 l4
  obtain ⟨W0, hW0⟩ : ∃ W0, W0 = (w.alloc (Obj.cells #[Value.slice A1 n1 c1, Value.int .i64 D.hor, Value.int .i64 D.now, Value.slice A2 n2 c2, Value.slice A3 n3 c3, Value.slice A4 n4 c4] 47)) := ⟨_, rfl⟩
  obtain ⟨hb0, r0, hsz0⟩ := boxes1 w [.slice A1 n1 c1, .int .i64 D.hor, .int .i64 D.now, .slice A2 n2 c2, .slice A3 n3 c3, .slice A4 n4 c4] 47 hW0
  have B0 := hide hb0; have HW0 := hide hW0
  have R0 := hide r0
  clear hb0 hW0 hsz0 r0
  go_enter Tryz.func24, Tryz.ntmps24
  go_upto_region 1 with fail
  rw [← HW0.out]
  have r_d := R0.out.later (Later.refl W0)
  have d0 := r_d.cell (i := 0) rfl; have d1 := r_d.cell (i := 1) rfl; have d2 := r_d.cell (i := 2) rfl; have d3 := r_d.cell (i := 3) rfl; have d4 := r_d.cell (i := 4) rfl; have d5 := r_d.cell (i := 5) rfl
  clear r_d
  go_wp2_with fail
  clear d0 d1 d2 d3 d4 d5
  go_loopw [8] (fun i wr => ∃ j : Nat, j ≤ n4 ∧ i = .int .i64 (j : Int) ∧ Hid (∀ (i : Nat) x, i < j → D.mks[i]? = some x → decide (x.item = it ∧ x.period = p) = false) ∧ Later W0 wr) (fun i _ => (n4 - intOf i).toNat)
  case atStart => exact ⟨0, by omega, rfl, hide fun i r hi => by omega, Later.refl _⟩
  case round =>
    obtain ⟨j, hj, rfl, hpre, hL⟩ := hrel
    have HL := hide hL
    clear hL
    have r_d := R0.out.later HL.out
    have d0 := r_d.cell (i := 0) rfl; have d1 := r_d.cell (i := 1) rfl; have d2 := r_d.cell (i := 2) rfl; have d3 := r_d.cell (i := 3) rfl; have d4 := r_d.cell (i := 4) rfl; have d5 := r_d.cell (i := 5) rfl
    clear r_d
    by_cases hjn : j < n4
    · obtain ⟨x, hx⟩ : ∃ x, D.mks[j]? = some x := ⟨D.mks[j]'(by have := L4.out; omega), List.getElem?_eq_getElem _⟩
      have HX := hide hx
      have hj0 : (0 : Int) ≤ (j : Int) := by omega
      have hj1 : (j : Int) < n4 := by omega
      clear hx
      go_wp2_with fail
      ((with_reducible refine (rmay_calls _ _ _ _ _ _ _ _ _ _ _ _ _ D (H.out.later (B0.out.trans HL.out)) u0 HU0.out).mono ?_); rintro e w1 ⟨rfl, b1⟩)
      have HL1 := hide (HL.out.trans b1)
      clear b1 d0 d1 d2 d3 d4 d5
      have r_d := R0.out.later HL1.out
      have d0 := r_d.cell (i := 0) rfl; have d1 := r_d.cell (i := 1) rfl; have d2 := r_d.cell (i := 2) rfl; have d3 := r_d.cell (i := 3) rfl; have d4 := r_d.cell (i := 4) rfl; have d5 := r_d.cell (i := 5) rfl
      clear r_d
      cases u0 with
      | false =>
        have HF : Hid (z = none) := hide (by rw [← HZ.out]; unfold fixedV; rw [if_neg (by rw [HU0.out]; simp)])
        go_wp2_with fail
        go_ret2
        exact ⟨by rw [HF.out]; rfl, B0.out.trans HL1.out⟩
      | true =>
      obtain ⟨b1, off1, rfl, x0, x1, x2⟩ := (H.out.later (B0.out.trans HL1.out)).mks.at3 HX.out
      by_cases g1 : x.item = it
      · have t1 : (x.item == it) = true := by simpa using g1
        by_cases g2 : x.period = p
        · have t2 : (x.period == p) = true := by simpa using g2
          have HF : Hid (z = some x.qty) := hide (by
            rw [← HZ.out]; unfold fixedV; rw [if_pos HU0.out]
            rcases firstX_find (.inr ⟨j, x, rfl, HX.out, by simp [g1, g2], hpre.out⟩ : FirstX (fun x : PMk => decide (x.item = it ∧ x.period = p)) D.mks j) with ⟨h1, -⟩ | ⟨i, y, h1, -, h2, h3⟩
            · omega
            · obtain rfl : i = j := by omega
              rw [HX.out] at h2; injection h2 with h2
              rw [h3, ← h2]; rfl)
          clear g1 g2
          go_wp2_with fail
          go_ret2
          exact ⟨by rw [HF.out]; rfl, B0.out.trans HL1.out⟩
        · have t2 : (x.period == p) = false := by simpa using g2
          have HN : Hid (∀ (i : Nat) x, i < j + 1 → D.mks[i]? = some x → decide (x.item = it ∧ x.period = p) = false) := hide fun i y hi hy => by
            by_cases hij : i < j
            · exact hpre.out i y hij hy
            · obtain rfl : i = j := by omega
              rw [HX.out] at hy; injection hy with hy; rw [← hy]; simp [g2]
          clear g1 g2
          go_wp2_with fail
          exact ⟨⟨j+1, by omega, by go_num, HN, HL1.out⟩, by simp [intOf]; omega⟩
      · have t1 : (x.item == it) = false := by simpa using g1
        have HN : Hid (∀ (i : Nat) x, i < j + 1 → D.mks[i]? = some x → decide (x.item = it ∧ x.period = p) = false) := hide fun i y hi hy => by
          by_cases hij : i < j
          · exact hpre.out i y hij hy
          · obtain rfl : i = j := by omega
            rw [HX.out] at hy; injection hy with hy; rw [← hy]; simp [g1]
        clear g1
        go_wp2_with fail
        exact ⟨⟨j+1, by omega, by go_num, HN, HL1.out⟩, by simp [intOf]; omega⟩
    · have HF : Hid (z = none) := hide (by
        rw [← HZ.out]; unfold fixedV
        split
        · rw [Option.map_eq_none_iff, List.find?_eq_none]
          intro x hx
          obtain ⟨i, hi⟩ := List.getElem?_of_mem hx
          rw [hpre.out i x (by have := (List.getElem?_eq_some_iff.1 hi).1; have := L4.out; omega) hi]; simp
        · rfl)
      have hj1 : ¬ (j : Int) < n4 := by omega
      clear hpre
      go_wp2_with fail
      go_ret2
      exact ⟨by rw [HF.out]; rfl, B0.out.trans HL.out⟩

set_option maxHeartbeats 4000000 in
theorem rdue_calls (w : World) (A1 A2 A3 A4 : Option Addr) (n1 n2 n3 n4 c1 c2 c3 c4 : Nat) (D : PBook) (h : BookIn w (.slice A1 n1 c1) (.slice A2 n2 c2) (.slice A3 n3 c3) (.slice A4 n4 c4) D) (item p : Int) :
    Calls Tryz.prog 32 #[.agg #[.slice A1 n1 c1, .int .i64 D.hor, .int .i64 D.now, .slice A2 n2 c2, .slice A3 n3 c3, .slice A4 n4 c4], .int .i64 item, .int .i64 p] w (RetV w (.int .i64 (dueV D item p))) := by
  have H := hide h
  obtain ⟨l1, l2, l3, l4⟩ := h.lens
  have hn3 : n3 ≤ 1000 := by have := h.ol; omega
  have hn4 : n4 ≤ 1000 := by have := h.ml; omega
  obtain ⟨u0, hu0⟩ : ∃ u, mayB D = u := ⟨_, rfl⟩
  obtain ⟨z, hz⟩ : ∃ z, dueV D item p = z := ⟨_, rfl⟩
  rw [hz]
  have HU0 := hide hu0; have HZ := hide hz; have L3 := hide l3; have L4 := hide l4
  clear h hu0 hz l1 l2 l3 l4
  obtain ⟨W0, hW0⟩ : ∃ W0, W0 = (w.alloc (Obj.cells #[Value.slice A1 n1 c1, Value.int .i64 D.hor, Value.int .i64 D.now, Value.slice A2 n2 c2, Value.slice A3 n3 c3, Value.slice A4 n4 c4] 47)) := ⟨_, rfl⟩
  obtain ⟨hb0, r0, hsz0⟩ := boxes1 w [.slice A1 n1 c1, .int .i64 D.hor, .int .i64 D.now, .slice A2 n2 c2, .slice A3 n3 c3, .slice A4 n4 c4] 47 hW0
  have B0 := hide hb0; have HW0 := hide hW0
  have R0 := hide r0
  clear hb0 hW0 hsz0 r0
  go_enter Tryz.func32, Tryz.ntmps32
  go_upto_region 1 with fail
  rw [← HW0.out]
  have r_d := R0.out.later (Later.refl W0)
  have d0 := r_d.cell (i := 0) rfl; have d1 := r_d.cell (i := 1) rfl; have d2 := r_d.cell (i := 2) rfl; have d3 := r_d.cell (i := 3) rfl; have d4 := r_d.cell (i := 4) rfl; have d5 := r_d.cell (i := 5) rfl
  clear r_d
  go_wp2_with fail
  clear d0 d1 d2 d3 d4 d5
  go_loopw [7, 8] (fun s i wr => ∃ j : Nat, j ≤ n3 ∧ s = .int .i64 (dueOf item p (D.ords.take j)) ∧ i = .int .i64 (j : Int) ∧ (u0 = false → j = 0) ∧ Later W0 wr) (fun _ i _ => (n3 - intOf i).toNat)
  case atStart => exact ⟨0, by omega, rfl, rfl, fun _ => rfl, Later.refl _⟩
  case round =>
    obtain ⟨j, hj, rfl, rfl, hu0, hL⟩ := hrel
    have HJ := hide hu0
    have HL := hide hL
    clear hL hu0
    have r_d := R0.out.later HL.out
    have d0 := r_d.cell (i := 0) rfl; have d1 := r_d.cell (i := 1) rfl; have d2 := r_d.cell (i := 2) rfl; have d3 := r_d.cell (i := 3) rfl; have d4 := r_d.cell (i := 4) rfl; have d5 := r_d.cell (i := 5) rfl
    clear r_d
    by_cases hjn : j < n3
    · obtain ⟨x, hx⟩ : ∃ x, D.ords[j]? = some x := ⟨D.ords[j]'(by have := L3.out; omega), List.getElem?_eq_getElem _⟩
      have HX := hide hx
      have hj0 : (0 : Int) ≤ (j : Int) := by omega
      have hj1 : (j : Int) < n3 := by omega
      clear hx
      go_wp2_with fail
      ((with_reducible refine (rmay_calls _ _ _ _ _ _ _ _ _ _ _ _ _ D (H.out.later (B0.out.trans HL.out)) u0 HU0.out).mono ?_); rintro e w1 ⟨rfl, b1⟩)
      have HL1 := hide (HL.out.trans b1)
      clear b1 d0 d1 d2 d3 d4 d5
      have r_d := R0.out.later HL1.out
      have d0 := r_d.cell (i := 0) rfl; have d1 := r_d.cell (i := 1) rfl; have d2 := r_d.cell (i := 2) rfl; have d3 := r_d.cell (i := 3) rfl; have d4 := r_d.cell (i := 4) rfl; have d5 := r_d.cell (i := 5) rfl
      clear r_d
      cases u0 with
      | false =>
        have HF : Hid (dueOf item p (D.ords.take j) = z) := hide (by rw [← HZ.out, HJ.out rfl]; unfold dueV; rw [if_neg (by rw [HU0.out]; simp)]; rfl)
        rw [HF.out]
        go_wp2_with fail
        go_ret
        exact ⟨rfl, B0.out.trans HL1.out⟩
      | true =>
      obtain ⟨b1, off1, rfl, x0, x1, x2, x3⟩ := (H.out.later (B0.out.trans HL1.out)).ords.at4 HX.out
      have htk := dueOf_snoc item p (D.ords.take j) x
      have e1 : D.ords.take (j+1) = D.ords.take j ++ [x] := by rw [List.take_add_one, HX.out]; rfl
      rw [← e1] at htk
      have hbd := dueOf_bound item p (D.ords.take j) (fun o ho => may_qty HU0.out o (List.mem_of_mem_take ho))
      rw [List.length_take] at hbd
      have hqb := may_qty HU0.out x (List.mem_of_getElem? HX.out)
      obtain ⟨s, hs⟩ : ∃ s, dueOf item p (D.ords.take j) = s := ⟨_, rfl⟩
      rw [hs] at htk hbd ⊢
      have hbd2 : 0 ≤ s ∧ s ≤ 100000 := by omega
      have HTK := hide htk
      clear hs htk e1 hbd
      by_cases g1 : x.item = item
      · have t1 : (x.item == item) = true := by simpa using g1
        by_cases g2 : x.due = p
        · have t2 : (x.due == p) = true := by simpa using g2
          have HE : Hid (dueOf item p (D.ords.take (j+1)) = s + x.qty) := hide (by rw [HTK.out, if_pos ⟨g1, g2⟩])
          clear g1 g2
          go_wp2_with fail
          exact ⟨⟨j+1, by omega, by (rw [HE.out]), by go_num, (fun h => by cases h), HL1.out⟩, by simp [intOf]; omega⟩
        · have t2 : (x.due == p) = false := by simpa using g2
          have HE : Hid (dueOf item p (D.ords.take (j+1)) = s) := hide (by rw [HTK.out, if_neg (fun h => g2 h.2)]; omega)
          clear g1 g2
          go_wp2_with fail
          exact ⟨⟨j+1, by omega, by (rw [HE.out]), by go_num, (fun h => by cases h), HL1.out⟩, by simp [intOf]; omega⟩
      · have t1 : (x.item == item) = false := by simpa using g1
        have HE : Hid (dueOf item p (D.ords.take (j+1)) = s) := hide (by rw [HTK.out, if_neg (fun h => g1 h.1)]; omega)
        clear g1
        go_wp2_with fail
        exact ⟨⟨j+1, by omega, by (rw [HE.out]), by go_num, (fun h => by cases h), HL1.out⟩, by simp [intOf]; omega⟩
    · have HF : Hid (dueOf item p (D.ords.take j) = z) := hide (by
        rw [← HZ.out]; unfold dueV
        by_cases hm : mayB D = true
        · rw [if_pos hm, List.take_of_length_le (by have := L3.out; omega)]
        · rw [if_neg hm]
          have h5 := HU0.out
          rw [HJ.out (by rw [← h5]; simpa using hm)]; rfl)
      rw [HF.out]
      have hj1 : ¬ (j : Int) < n3 := by omega
      go_wp2_with fail
      go_ret
      exact ⟨rfl, B0.out.trans HL.out⟩

/-- what is there, period by period -/
noncomputable def thereR (D : PBook) (item : Int) : Nat → Int
  | 0 => 0
  | k + 1 => thereR D item k + (fixedV D item k).getD 0 - dueV D item k
theorem key_inj {n : Nat} {x y : PMk} (hx : x.okP n) (hy : y.okP n) (hn : n ≤ 3) (h1 : x.item = y.item) (h2 : x.period = y.period) : x.key = y.key := by unfold PMk.key; omega
/-- keys that rise are apart -/
theorem rises_lt {l : List PMk} (h : ∀ (i : Nat) a b, l[i]? = some a → l[i+1]? = some b → a.key < b.key) : ∀ (i j : Nat) a b, i < j → l[i]? = some a → l[j]? = some b → a.key < b.key := by
  intro i j
  induction j with
  | zero => intro a b hij; omega
  | succ j ih =>
    intro a b hij ha hb
    have hjl := (List.getElem?_eq_some_iff.1 hb).1
    obtain ⟨c, hc⟩ : ∃ c, l[j]? = some c := ⟨l[j], List.getElem?_eq_getElem (by omega)⟩
    have h1 := h j c b hc hb
    by_cases hij2 : i = j
    · subst hij2; rw [ha] at hc; injection hc with hc; rw [hc]; exact h1
    · have := ih a c (by omega) ha hc; omega
/-- what is committed in a period, as a sum -/
theorem find_sum {l : List PMk} {n : Nat} (hok : ∀ x ∈ l, x.okP n) (hn : n ≤ 3) (h : ∀ (i : Nat) a b, l[i]? = some a → l[i+1]? = some b → a.key < b.key) (it p : Int) :
    ((l.find? fun x => decide (x.item = it ∧ x.period = p)).map (·.qty)).getD 0 = sumI (l.map fun x => if x.item = it ∧ x.period = p then x.qty else 0) := by
  induction l with
  | nil => rfl
  | cons a l ih =>
    have ih' := ih (fun x hx => hok x (List.mem_cons_of_mem _ hx)) (fun i x y hx hy => h (i+1) x y (by simpa using hx) (by simpa using hy))
    rw [List.find?_cons, List.map_cons]
    by_cases g : a.item = it ∧ a.period = p
    · rw [decide_eq_true g]
      have hz : sumI (l.map fun x => if x.item = it ∧ x.period = p then x.qty else 0) = 0 := sumI_zero fun x hx => by
        obtain ⟨y, hy, rfl⟩ := List.mem_map.1 hx
        rw [if_neg]; rintro ⟨h1, h2⟩
        obtain ⟨i, hi⟩ := List.getElem?_of_mem hy
        have h5 := rises_lt h 0 (i+1) a y (by omega) rfl (by simpa using hi)
        have h6 := key_inj (hok a (List.mem_cons_self ..)) (hok y (List.mem_cons_of_mem _ hy)) hn (g.1.trans h1.symm) (g.2.trans h2.symm)
        omega
      unfold sumI; rw [hz, if_pos g]; simp
    · rw [decide_eq_false g]
      unfold sumI; rw [if_neg g]; simp only [Int.zero_add]; exact ih'
theorem sumI_add {α : Type} (l : List α) (f g : α → Int) : sumI (l.map fun x => f x + g x) = sumI (l.map f) + sumI (l.map g) := by
  induction l with
  | nil => rfl
  | cons a l ih => simp only [List.map_cons, sumI, ih]; omega
theorem sumI_neg {α : Type} (l : List α) (f : α → Int) : sumI (l.map fun x => - f x) = - sumI (l.map f) := by
  induction l with
  | nil => rfl
  | cons a l ih => simp only [List.map_cons, sumI, ih]; omega
theorem sumI_congr {α : Type} {l : List α} {f g : α → Int} (h : ∀ x ∈ l, f x = g x) : sumI (l.map f) = sumI (l.map g) := by
  rw [List.map_congr_left h]
theorem thereR_may {D : PBook} (h : MayP D) (item : Int) (k : Nat) : thereR D item k = goneOf item k D.ords + cameOf item k D.mks := by
  induction k with
  | zero =>
    have e1 : goneOf item ((0 : Nat) : Int) D.ords = 0 := sumI_zero fun x hx => by
      obtain ⟨o, ho, rfl⟩ := List.mem_map.1 hx
      have := h.ords o ho; unfold POrd.okP at this
      rw [if_neg]; rintro ⟨-, h1⟩; omega
    have e2 : cameOf item ((0 : Nat) : Int) D.mks = 0 := sumI_zero fun x hx => by
      obtain ⟨o, ho, rfl⟩ := List.mem_map.1 hx
      have := h.mks o ho; unfold PMk.okP at this
      rw [if_neg]; rintro ⟨-, h1⟩; omega
    rw [e1, e2]; rfl
  | succ k ih =>
    show thereR D item k + (fixedV D item k).getD 0 - dueV D item k = _
    have hm := mayB_iff.2 h
    have e1 : (fixedV D item k).getD 0 = sumI (D.mks.map fun x => if x.item = item ∧ x.period = (k : Int) then x.qty else 0) := by
      unfold fixedV; rw [if_pos hm]; exact find_sum h.mks h.head.n3 h.mris item k
    have e2 : dueV D item k = dueOf item k D.ords := by unfold dueV; rw [if_pos hm]
    have e3 : cameOf item ((k + 1 : Nat) : Int) D.mks = cameOf item k D.mks + sumI (D.mks.map fun x => if x.item = item ∧ x.period = (k : Int) then x.qty else 0) := by
      unfold cameOf; rw [← sumI_add]
      refine sumI_congr fun x hx => ?_
      by_cases h1 : x.item = item
      · simp only [h1, true_and]
        by_cases h2 : x.period < k
        · rw [if_pos (by omega), if_pos h2, if_neg (by omega)]; omega
        · by_cases h3 : x.period = k
          · rw [if_pos (by omega), if_neg h2, if_pos h3]; omega
          · rw [if_neg (by omega), if_neg h2, if_neg h3]; omega
      · simp [h1]
    have e4 : goneOf item ((k + 1 : Nat) : Int) D.ords = goneOf item k D.ords - dueOf item k D.ords := by
      have : dueOf item k D.ords = - sumI (D.ords.map fun o => if o.item = item ∧ o.due = (k : Int) then -o.qty else 0) := by
        unfold dueOf; rw [← sumI_neg]; exact sumI_congr fun x hx => by split <;> omega
      rw [this]
      unfold goneOf
      rw [Int.sub_neg, ← sumI_add]
      refine sumI_congr fun x hx => ?_
      by_cases h1 : x.item = item
      · simp only [h1, true_and]
        by_cases h2 : x.due < k
        · rw [if_pos (by omega), if_pos h2, if_neg (by omega)]; omega
        · by_cases h3 : x.due = k
          · rw [if_pos (by omega), if_neg h2, if_pos h3]; omega
          · rw [if_neg (by omega), if_neg h2, if_neg h3]; omega
      · simp [h1]
    rw [ih, e1, e2, e3, e4]; omega
theorem thereR_not {D : PBook} (h : ¬ mayB D = true) (item : Int) (k : Nat) : thereR D item k = 0 := by
  induction k with
  | zero => rfl
  | succ k ih =>
    show thereR D item k + (fixedV D item k).getD 0 - dueV D item k = 0
    rw [ih]; unfold fixedV dueV; rw [if_neg h, if_neg h]; rfl
theorem fixedV_bound (D : PBook) (it p : Int) : 0 ≤ (fixedV D it p).getD 0 ∧ (fixedV D it p).getD 0 ≤ 100 := by
  unfold fixedV
  split
  · rename_i hm
    cases hf : D.mks.find? fun x => decide (x.item = it ∧ x.period = p) with
    | none => simp
    | some x =>
      have := (mayB_iff.1 hm).mks x (List.mem_of_find?_eq_some hf)
      unfold PMk.okP at this
      simp; omega
  · simp
theorem thereR_bound (D : PBook) (item : Int) (hl : D.ords.length ≤ 1000) (k : Nat) : -100000 * (k : Int) ≤ thereR D item k ∧ thereR D item k ≤ 100 * (k : Int) := by
  induction k with
  | zero => simp [thereR]
  | succ k ih =>
    have h1 := fixedV_bound D item k
    have h2 := dueV_bound D item k hl
    have : thereR D item (k+1) = thereR D item k + (fixedV D item k).getD 0 - dueV D item k := rfl
    rw [this]; omega
theorem thereV_R (D : PBook) (item : Int) : thereV D item = thereR D item (min D.now.toNat 41) := by
  unfold thereV
  split
  · rename_i hm
    have h := mayB_iff.1 hm
    have h1 := h.head.t0; have h2 := h.head.t40
    rw [thereR_may h, show ((min D.now.toNat 41 : Nat) : Int) = D.now by omega]
  · rename_i hm; rw [thereR_not hm]

set_option maxHeartbeats 4000000 in
theorem rthere_calls (w : World) (A1 A2 A3 A4 : Option Addr) (n1 n2 n3 n4 c1 c2 c3 c4 : Nat) (D : PBook) (h : BookIn w (.slice A1 n1 c1) (.slice A2 n2 c2) (.slice A3 n3 c3) (.slice A4 n4 c4) D) (item : Int) :
    Calls Tryz.prog 30 #[.agg #[.slice A1 n1 c1, .int .i64 D.hor, .int .i64 D.now, .slice A2 n2 c2, .slice A3 n3 c3, .slice A4 n4 c4], .int .i64 item] w (RetV w (.int .i64 (thereV D item))) := by
  rw [thereV_R]
  have H := hide h
  have hol := h.ol
  have HN := h.nfit
  unfold IFit at HN
  obtain ⟨m, hm⟩ : ∃ m, m = min D.now.toNat 41 := ⟨_, rfl⟩
  rw [← hm]
  have hm1 : m ≤ 41 := by omega
  have hm2 : (m : Int) = D.now ∨ (m = 41 ∧ (41 : Int) ≤ D.now) ∨ (m = 0 ∧ D.now ≤ 0) := by omega
  have HMM := hide hm2
  clear h hm hm2
  obtain ⟨W0, hW0⟩ : ∃ W0, W0 = (w.alloc (Obj.cells #[Value.slice A1 n1 c1, Value.int .i64 D.hor, Value.int .i64 D.now, Value.slice A2 n2 c2, Value.slice A3 n3 c3, Value.slice A4 n4 c4] 47)) := ⟨_, rfl⟩
  obtain ⟨hb0, r0, hsz0⟩ := boxes1 w [.slice A1 n1 c1, .int .i64 D.hor, .int .i64 D.now, .slice A2 n2 c2, .slice A3 n3 c3, .slice A4 n4 c4] 47 hW0
  have B0 := hide hb0; have HW0 := hide hW0
  have R0 := hide r0
  clear hb0 hW0 hsz0 r0
  go_enter Tryz.func30, Tryz.ntmps30
  go_upto_region 1 with fail
  rw [← HW0.out]
  have r_d := R0.out.later (Later.refl W0)
  have d0 := r_d.cell (i := 0) rfl; have d1 := r_d.cell (i := 1) rfl; have d2 := r_d.cell (i := 2) rfl; have d3 := r_d.cell (i := 3) rfl; have d4 := r_d.cell (i := 4) rfl; have d5 := r_d.cell (i := 5) rfl
  clear r_d
  go_wp2_with fail
  clear d0 d1 d2 d3 d4 d5
  go_loopw [5, 6] (fun s i wr => ∃ j : Nat, j ≤ m ∧ s = .int .i64 (thereR D item j) ∧ i = .int .i64 (j : Int) ∧ Later W0 wr) (fun _ i _ => (m - intOf i).toNat)
  case atStart => exact ⟨0, by omega, rfl, rfl, Later.refl _⟩
  case round =>
    obtain ⟨j, hj, rfl, rfl, hL⟩ := hrel
    have HL := hide hL
    clear hL
    have r_d := R0.out.later HL.out
    have d0 := r_d.cell (i := 0) rfl; have d1 := r_d.cell (i := 1) rfl; have d2 := r_d.cell (i := 2) rfl; have d3 := r_d.cell (i := 3) rfl; have d4 := r_d.cell (i := 4) rfl; have d5 := r_d.cell (i := 5) rfl
    clear r_d
    by_cases hjn : j < m
    · have hj0 : (0 : Int) ≤ (j : Int) := by omega
      have hj1 : (j : Int) < D.now := by have := HMM.out; omega
      have hj2 : (j : Int) < 41 := by omega
      have t1 : decide ((j : Int) < D.now) = true := by simpa using hj1
      have hb := thereR_bound D item hol j
      have hf := fixedV_bound D item j
      have hd := dueV_bound D item j hol
      have hst : thereR D item (j+1) = thereR D item j + (fixedV D item j).getD 0 - dueV D item j := rfl
      obtain ⟨s, hs⟩ : ∃ s, thereR D item j = s := ⟨_, rfl⟩
      obtain ⟨fo, hfo⟩ : ∃ f, fixedV D item j = f := ⟨_, rfl⟩
      obtain ⟨f, hf1⟩ : ∃ f, fo.getD 0 = f := ⟨_, rfl⟩
      obtain ⟨d, hd1⟩ : ∃ d, dueV D item j = d := ⟨_, rfl⟩
      rw [hs, hfo, hf1, hd1] at hst
      rw [hfo, hf1] at hf
      rw [hs] at hb
      rw [hd1] at hd
      rw [hs]
      have hb2 : -10000000 ≤ s ∧ s ≤ 100000 := by omega
      have HST := hide hst; have HFO := hide hfo; have HF1 := hide hf1; have HD1 := hide hd1
      clear hst hs hfo hf1 hd1 hb
      go_wp2_with fail
      ((with_reducible refine (rfixed_calls _ _ _ _ _ _ _ _ _ _ _ _ _ D (H.out.later (B0.out.trans HL.out)) item j).mono ?_); rintro e w1 ⟨rfl, b1⟩)
      rw [HFO.out, HF1.out]
      have HL1 := hide (HL.out.trans b1)
      clear b1 d0 d1 d2 d3 d4 d5
      have r_d := R0.out.later HL1.out
      have d0 := r_d.cell (i := 0) rfl; have d1 := r_d.cell (i := 1) rfl; have d2 := r_d.cell (i := 2) rfl; have d3 := r_d.cell (i := 3) rfl; have d4 := r_d.cell (i := 4) rfl; have d5 := r_d.cell (i := 5) rfl
      clear r_d
      go_wp2_with fail
      ((with_reducible refine (rdue_calls _ _ _ _ _ _ _ _ _ _ _ _ _ D (H.out.later (B0.out.trans HL1.out)) item j).mono ?_); rintro e w2 ⟨rfl, b2⟩)
      rw [HD1.out]
      have HL2 := hide (HL1.out.trans b2)
      clear b2 d0 d1 d2 d3 d4 d5
      have hw1 : IntKind.i64.wrap (s + f) = s + f := IntWalk.i64_in _ (by omega)
      have hw2 : IntKind.i64.wrap (s + f - d) = s + f - d := IntWalk.i64_in _ (by omega)
      go_wp2_with fail
      exact ⟨⟨j+1, by omega, by (rw [HST.out]), by go_num, HL2.out⟩, by simp [intOf]; omega⟩
    · obtain rfl : j = m := by omega
      have hj0 : (0 : Int) ≤ (j : Int) := by omega
      by_cases hj1 : (j : Int) < D.now
      · have t1 : decide ((j : Int) < D.now) = true := by simpa using hj1
        have hj2 : ¬ (j : Int) < 41 := by have := HMM.out; omega
        have t2 : decide ((j : Int) < 41) = false := by simpa using hj2
        go_wp2_with fail
        go_ret
        exact ⟨rfl, B0.out.trans HL.out⟩
      · have t1 : decide ((j : Int) < D.now) = false := by simpa using hj1
        go_wp2_with fail
        go_ret
        exact ⟨rfl, B0.out.trans HL.out⟩
end Go.Proofs.YthncinngkfflgaaGreat

/- Plans: which rows may be; what is there behind each period (both). -/
set_option linter.unusedVariables false
set_option linter.unusedSimpArgs false
set_option maxRecDepth 100000
namespace Go.Proofs.YthncinngkfflgaaGreat
open Go.RowKit Go.Shelf
attribute [local go_sem ↓] Go.wp_at_zero Go.wp_at_succ

/-- whether a plan's row may be -/
def rowOk (hor : Int) (r : List Int) : Bool := decide ((r.length : Int) = hor) && r.all (fun z => decide (0 ≤ z ∧ z ≤ 1000000))
noncomputable def shapeB (D : PBook) (t : List (List Int)) : Bool := mayB D && (decide (t.length = D.items.length) && t.all (rowOk D.hor))
structure ShapeP (D : PBook) (t : List (List Int)) : Prop where
  may : MayP D
  len : t.length = D.items.length
  rows : ∀ r ∈ t, (r.length : Int) = D.hor ∧ ∀ z ∈ r, 0 ≤ z ∧ z ≤ 1000000
theorem rowOk_iff {hor : Int} {r : List Int} : rowOk hor r = true ↔ ((r.length : Int) = hor ∧ ∀ z ∈ r, 0 ≤ z ∧ z ≤ 1000000) := by
  unfold rowOk; rw [Bool.and_eq_true, decide_eq_true_iff, List.all_eq_true]
  constructor
  · rintro ⟨h1, h2⟩; exact ⟨h1, fun z hz => by simpa using h2 z hz⟩
  · rintro ⟨h1, h2⟩; exact ⟨h1, fun z hz => by simpa using h2 z hz⟩
theorem shapeB_iff {D : PBook} {t : List (List Int)} : shapeB D t = true ↔ ShapeP D t := by
  unfold shapeB
  rw [Bool.and_eq_true, Bool.and_eq_true, decide_eq_true_iff, List.all_eq_true, mayB_iff]
  constructor
  · rintro ⟨h1, h2, h3⟩; exact ⟨h1, h2, fun r hr => rowOk_iff.1 (h3 r hr)⟩
  · rintro ⟨h1, h2, h3⟩; exact ⟨h1, h2, fun r hr => rowOk_iff.2 (h3 r hr)⟩
/-- a plan in memory -/
structure GridIn (w : World) (v : Value) (t : List (List Int)) : Prop where
  grid : Grid w v t
  len : t.length ≤ 1000
  lens : ∀ r ∈ t, r.length ≤ 1000
  fit : ∀ r ∈ t, ∀ z ∈ r, -9223372036854775808 ≤ z ∧ z < 9223372036854775808
theorem GridIn.later {w w' : World} {v : Value} {t : List (List Int)} (h : GridIn w v t) (hb : Later w w') : GridIn w' v t := { h with grid := h.grid.later hb }
theorem Sq.len_ {α : Type} {m : Nat} {enc : α → List Value} {w : World} {A : Option Addr} {n c : Nat} {l : List α} (h : Sq m enc w (.slice A n c) l) : n = l.length := by
  obtain ⟨_, _, _, e, hn, -, -, -⟩ := h.form
  injection e with _ e _
  omega
theorem GridIn.lenq {w : World} {A : Option Addr} {n c : Nat} {t : List (List Int)} (h : GridIn w (.slice A n c) t) : n = t.length := by
  obtain ⟨_, _, _, e, hn, -, -, -⟩ := h.grid.form
  injection e with _ e _
  omega
/-- what is there of an item behind so many periods of the window -/
noncomputable def lev (D : PBook) (row : List Int) (item : Int) : Nat → Int
  | 0 => thereV D item
  | k + 1 => lev D row item k + (row.getD k 0 - dueV D item (D.now + k))
theorem thereV_bound (D : PBook) (item : Int) (hl : D.ords.length ≤ 1000) : -10000000 ≤ thereV D item ∧ thereV D item ≤ 10000 := by
  rw [thereV_R]
  have h1 := thereR_bound D item hl (min D.now.toNat 41)
  omega
theorem lev_bound (D : PBook) (row : List Int) (item : Int) (hl : D.ords.length ≤ 1000) (hr : ∀ z ∈ row, 0 ≤ z ∧ z ≤ 1000000) (k : Nat) : -10000000 - 100000 * (k : Int) ≤ lev D row item k ∧ lev D row item k ≤ 10000 + 1000000 * (k : Int) := by
  induction k with
  | zero => have := thereV_bound D item hl; unfold lev; omega
  | succ k ih =>
    have h1 := dueV_bound D item (D.now + k) hl
    have h2 : 0 ≤ row.getD k 0 ∧ row.getD k 0 ≤ 1000000 := by
      rw [List.getD_eq_getElem?_getD]
      cases h : row[k]? with
      | none => simp
      | some z => exact hr z (List.mem_of_getElem? h)
    have : lev D row item (k+1) = lev D row item k + (row.getD k 0 - dueV D item (D.now + k)) := rfl
    rw [this]; omega

set_option maxHeartbeats 2000000 in
theorem shape11_calls (w : World) (x : Int) :
    Calls Tryz.prog 129 #[.int .i64 x] w (RetV w (.bool (!decide (0 ≤ x ∧ x ≤ 1000000)))) := by
  obtain ⟨u, t1⟩ : ∃ u, decide (0 ≤ x ∧ x ≤ 1000000) = u := ⟨_, rfl⟩
  rw [t1]
  go_enter Tryz.func129, Tryz.ntmps129
  go_wp2_with ((with_reducible refine (pin_calls _ _ _ _ u t1).mono ?_); rintro e w1 ⟨rfl, rfl⟩)
  go_ret
  exact ⟨rfl, Later.refl w⟩

set_option maxHeartbeats 2000000 in
theorem shape1_calls (w : World) (rv : Value) (r : List Int) (h : Sq 1 iCells w rv r) (hl : r.length ≤ 1000) (G : Nat) (hor : Int) (hc : w.cell? ⟨G, 1, none⟩ = some (.int .i64 hor)) :
    Calls Tryz.prog 128 #[rv, .pointer (some ⟨G, 0, none⟩)] w (RetV w (.bool (!rowOk hor r))) := by
  have H := hide h
  obtain ⟨A0, n0, c0, rfl, hn, -, -, -⟩ := h.form
  obtain ⟨u, hu⟩ : ∃ u, rowOk hor r = u := ⟨_, rfl⟩
  obtain ⟨u1, hu1⟩ : ∃ u1, r.any (fun x => !decide (0 ≤ x ∧ x ≤ 1000000)) = u1 := ⟨_, rfl⟩
  have HN := hide hn; have HU1 := hide hu1
  have hn0 : n0 ≤ 1000 := by omega
  have HE : Hid (((n0 : Int) != hor) = false → u = !u1) := hide (fun h => by
    rw [← hu, ← hu1]; unfold rowOk
    rw [bne_eq_false_iff_eq, hn] at h
    rw [decide_eq_true h, Bool.true_and, List.any_eq_not_all_not, Bool.not_not]
    congr 1; funext x; simp)
  have HE2 : Hid (((n0 : Int) != hor) = true → u = false) := hide (fun h => by
    rw [← hu]; unfold rowOk
    rw [bne_iff_ne, hn] at h
    rw [decide_eq_false h, Bool.false_and])
  rw [hu]
  clear h hn hu hu1
  go_enter Tryz.func128, Tryz.ntmps128
  by_cases g : (n0 : Int) = hor
  · have t1 : ((n0 : Int) != hor) = false := by simpa using g
    have HF := hide (HE.out t1)
    clear g
    go_wp2_with fail
    ((with_reducible refine (contI0_calls _ _ r H.out (by have := HN.out; omega) _ ⟨fun _ _ => by kernel_rfl⟩ (fun x => !decide (0 ≤ x ∧ x ≤ 1000000)) (fun W x hW hx => shape11_calls W x) u1 HU1.out).mono ?_); rintro e w1 ⟨rfl, b1⟩)
    go_wp2_with fail
    go_ret
    exact ⟨by rw [HF.out]; first | rfl | simp, b1⟩
  · have t1 : ((n0 : Int) != hor) = true := by simpa using g
    have HF := hide (HE2.out t1)
    clear g
    go_wp2_with fail
    go_ret
    exact ⟨by rw [HF.out]; first | rfl | simp, Later.refl w⟩

set_option maxHeartbeats 4000000 in
theorem plshape_calls (w : World) (A1 A2 A3 A4 : Option Addr) (n1 n2 n3 n4 c1 c2 c3 c4 : Nat) (D : PBook) (h : BookIn w (.slice A1 n1 c1) (.slice A2 n2 c2) (.slice A3 n3 c3) (.slice A4 n4 c4) D) (Aq : Option Addr) (nq cq : Nat) (t : List (List Int)) (hq : GridIn w (.slice Aq nq cq) t) (u : Bool) (hu : shapeB D t = u) :
    Calls Tryz.prog 79 #[.agg #[.slice A1 n1 c1, .int .i64 D.hor, .int .i64 D.now, .slice A2 n2 c2, .slice A3 n3 c3, .slice A4 n4 c4], .slice Aq nq cq] w (RetV w (.bool u)) := by
  have H := hide h; have HU := hide hu; have HQ := hide hq
  obtain ⟨l1, l2, l3, l4⟩ := h.lens
  have L1 := hide l1
  have hn1 : n1 ≤ 1000 := by have := h.il; omega
  have hqn := hq.lenq
  have LQ : Hid (nq = t.length) := hide hqn
  have hnq : nq ≤ 1000 := by have := hq.len; omega
  obtain ⟨u0, hu0⟩ : ∃ u, mayB D = u := ⟨_, rfl⟩
  obtain ⟨u1, hu1⟩ : ∃ u, t.any (fun r => !rowOk D.hor r) = u := ⟨_, rfl⟩
  have HU0 := hide hu0; have HU1 := hide hu1
  clear h hu hq hu0 hu1 l1 l2 l3 l4 hqn
  obtain ⟨W0, hW0⟩ : ∃ W0, W0 = (w.alloc (Obj.cells #[Value.slice A1 n1 c1, Value.int .i64 D.hor, Value.int .i64 D.now, Value.slice A2 n2 c2, Value.slice A3 n3 c3, Value.slice A4 n4 c4] 47)) := ⟨_, rfl⟩
  obtain ⟨hb0, r0, hsz0⟩ := boxes1 w [.slice A1 n1 c1, .int .i64 D.hor, .int .i64 D.now, .slice A2 n2 c2, .slice A3 n3 c3, .slice A4 n4 c4] 47 hW0
  have B0 := hide hb0; have HW0 := hide hW0
  have R0 := hide r0
  clear hb0 hW0 hsz0 r0
  go_enter Tryz.func79, Tryz.ntmps79
  go_upto_region 1 with fail
  rw [← HW0.out]
  have r_d := R0.out.later (Later.refl W0)
  have d0 := r_d.cell (i := 0) rfl; have d1 := r_d.cell (i := 1) rfl; have d2 := r_d.cell (i := 2) rfl; have d3 := r_d.cell (i := 3) rfl; have d4 := r_d.cell (i := 4) rfl; have d5 := r_d.cell (i := 5) rfl
  clear r_d
  go_wp2_with fail
  ((with_reducible refine (plmay_calls _ _ _ _ _ _ _ _ _ _ _ _ _ D (H.out.later B0.out) u0 HU0.out).mono ?_); rintro e w1 ⟨rfl, b1⟩)
  have HL1 := hide b1
  clear b1 d0 d1 d2 d3 d4 d5
  have r_d := R0.out.later HL1.out
  have d0 := r_d.cell (i := 0) rfl; have d1 := r_d.cell (i := 1) rfl; have d2 := r_d.cell (i := 2) rfl; have d3 := r_d.cell (i := 3) rfl; have d4 := r_d.cell (i := 4) rfl; have d5 := r_d.cell (i := 5) rfl
  clear r_d
  cases u0 with
  | false =>
    have HF : Hid (u = false) := hide (by rw [← HU.out]; unfold shapeB; rw [HU0.out]; rfl)
    go_wp2_with fail
    go_ret
    exact ⟨by first | rfl | (rw [HF.out]; rfl), B0.out.trans HL1.out⟩
  | true =>
  by_cases g : nq = n1
  rotate_left
  · have t1 : ((nq : Int) != (n1 : Int)) = true := by rw [bne_iff_ne]; omega
    have t2 : (nq != n1) = true := by rw [bne_iff_ne]; omega
    have HF : Hid (u = false) := hide (by
      rw [← HU.out]; unfold shapeB
      rw [decide_eq_false (by rw [← LQ.out, ← L1.out]; exact g)]; simp)
    go_wp2_with fail
    go_ret
    exact ⟨by first | rfl | (rw [HF.out]; rfl), B0.out.trans HL1.out⟩
  subst g
  have t1 : ((nq : Int) != (nq : Int)) = false := by simp
  go_wp2_with fail
  ((with_reducible refine (contR1_calls _ _ t (HQ.out.later (B0.out.trans HL1.out)).grid (by have := LQ.out; omega) _ ⟨fun _ _ => by kernel_rfl⟩ w.heap.size (fun r => !rowOk D.hor r) (fun W rv r hW hr hm => shape1_calls W rv r hr (HQ.out.lens r hm) w.heap.size D.hor ((R0.out.later (HL1.out.trans hW)).cell rfl)) u1 HU1.out).mono ?_); rintro e w2 ⟨rfl, b2⟩)
  have HF : Hid (u = !u1) := hide (by
    rw [← HU.out, ← HU1.out]; unfold shapeB
    rw [HU0.out, Bool.true_and, decide_eq_true (by rw [← LQ.out, ← L1.out]), Bool.true_and, List.any_eq_not_all_not, Bool.not_not]
    congr 1; funext x; simp)
  have HL2 := hide (HL1.out.trans b2)
  clear b2 d0 d1 d2 d3 d4 d5
  go_wp2_with fail
  go_ret
  exact ⟨by rw [HF.out]; rfl, B0.out.trans HL2.out⟩

set_option maxHeartbeats 8000000 in
theorem rshape_calls (w : World) (A1 A2 A3 A4 : Option Addr) (n1 n2 n3 n4 c1 c2 c3 c4 : Nat) (D : PBook) (h : BookIn w (.slice A1 n1 c1) (.slice A2 n2 c2) (.slice A3 n3 c3) (.slice A4 n4 c4) D) (Aq : Option Addr) (nq cq : Nat) (t : List (List Int)) (hq : GridIn w (.slice Aq nq cq) t) (u : Bool) (hu : shapeB D t = u) :
    Calls Tryz.prog 86 #[.agg #[.slice A1 n1 c1, .int .i64 D.hor, .int .i64 D.now, .slice A2 n2 c2, .slice A3 n3 c3, .slice A4 n4 c4], .slice Aq nq cq] w (RetV w (.bool u)) := by
  have H := hide h; have HU := hide hu; have HQ := hide hq
  obtain ⟨l1, l2, l3, l4⟩ := h.lens
  have L1 := hide l1
  have hn1 : n1 ≤ 1000 := by have := h.il; omega
  have hqn := hq.lenq
  have LQ : Hid (nq = t.length) := hide hqn
  have hnq : nq ≤ 1000 := by have := hq.len; omega
  obtain ⟨u0, hu0⟩ : ∃ u, mayB D = u := ⟨_, rfl⟩
  have HU0 := hide hu0
  clear h hu hq hu0 l1 l2 l3 l4 hqn
  obtain ⟨W0, hW0⟩ : ∃ W0, W0 = (w.alloc (Obj.cells #[Value.slice A1 n1 c1, Value.int .i64 D.hor, Value.int .i64 D.now, Value.slice A2 n2 c2, Value.slice A3 n3 c3, Value.slice A4 n4 c4] 47)) := ⟨_, rfl⟩
  obtain ⟨hb0, r0, hsz0⟩ := boxes1 w [.slice A1 n1 c1, .int .i64 D.hor, .int .i64 D.now, .slice A2 n2 c2, .slice A3 n3 c3, .slice A4 n4 c4] 47 hW0
  have B0 := hide hb0; have HW0 := hide hW0
  have R0 := hide r0
  clear hb0 hW0 hsz0 r0
  go_enter Tryz.func86, Tryz.ntmps86
  go_upto_region 1 with fail
  rw [← HW0.out]
  have r_d := R0.out.later (Later.refl W0)
  have d0 := r_d.cell (i := 0) rfl; have d1 := r_d.cell (i := 1) rfl; have d2 := r_d.cell (i := 2) rfl; have d3 := r_d.cell (i := 3) rfl; have d4 := r_d.cell (i := 4) rfl; have d5 := r_d.cell (i := 5) rfl
  clear r_d
  go_wp2_with fail
  ((with_reducible refine (rmay_calls _ _ _ _ _ _ _ _ _ _ _ _ _ D (H.out.later B0.out) u0 HU0.out).mono ?_); rintro e w1 ⟨rfl, b1⟩)
  have HL1 := hide b1
  clear b1 d0 d1 d2 d3 d4 d5
  have r_d := R0.out.later HL1.out
  have d0 := r_d.cell (i := 0) rfl; have d1 := r_d.cell (i := 1) rfl; have d2 := r_d.cell (i := 2) rfl; have d3 := r_d.cell (i := 3) rfl; have d4 := r_d.cell (i := 4) rfl; have d5 := r_d.cell (i := 5) rfl
  clear r_d
  cases u0 with
  | false =>
    have HF : Hid (u = false) := hide (by rw [← HU.out]; unfold shapeB; rw [HU0.out]; rfl)
    go_wp2_with fail
    go_ret
    exact ⟨by first | rfl | (rw [HF.out]; rfl), B0.out.trans HL1.out⟩
  | true =>
  by_cases g : nq = n1
  rotate_left
  · have t1 : ((nq : Int) != (n1 : Int)) = true := by rw [bne_iff_ne]; omega
    have t2 : (nq != n1) = true := by rw [bne_iff_ne]; omega
    have HF : Hid (u = false) := hide (by
      rw [← HU.out]; unfold shapeB
      rw [decide_eq_false (by rw [← LQ.out, ← L1.out]; exact g)]; simp)
    go_wp2_with fail
    go_ret
    exact ⟨by first | rfl | (rw [HF.out]; rfl), B0.out.trans HL1.out⟩
  subst g
  have t1 : ((nq : Int) != (nq : Int)) = false := by simp
  have HNO : Hid (∀ r ∈ t, rowOk D.hor r = false → u = false) := hide (fun r hr h => by
    rw [← HU.out]; unfold shapeB
    rw [show t.all (rowOk D.hor) = false by rw [List.all_eq_false]; exact ⟨r, hr, by rw [h]; simp⟩]; simp)
  go_wp2_with fail
  clear t1 d0 d1 d2 d3 d4 d5
  go_loopw [5] (fun i wr => ∃ j : Nat, j ≤ nq ∧ i = .int .i64 (j : Int) ∧ Hid (∀ (i : Nat) r, i < j → t[i]? = some r → rowOk D.hor r = true) ∧ Later w1 wr) (fun i _ => (nq - intOf i).toNat)
  case atStart => exact ⟨0, by omega, rfl, hide fun i x hi => by omega, Later.refl _⟩
  case round =>
    obtain ⟨j, hj, rfl, hpre, hL⟩ := hrel
    have HL := hide hL
    clear hL
    have r_d := R0.out.later (HL1.out.trans HL.out)
    have d0 := r_d.cell (i := 0) rfl; have d1 := r_d.cell (i := 1) rfl; have d2 := r_d.cell (i := 2) rfl; have d3 := r_d.cell (i := 3) rfl; have d4 := r_d.cell (i := 4) rfl; have d5 := r_d.cell (i := 5) rfl
    clear r_d
    by_cases hjn : j < nq
    · obtain ⟨r, hr⟩ : ∃ r, t[j]? = some r := ⟨t[j]'(by have := LQ.out; omega), List.getElem?_eq_getElem _⟩
      have hrm := List.mem_of_getElem? hr
      obtain ⟨b1, off1, Ar, nr, cr, rfl, x1, hrow⟩ := (HQ.out.later (B0.out.trans (HL1.out.trans HL.out))).grid.at_ hr
      have LR : Hid (nr = r.length) := hide hrow.len_
      have hnr : nr ≤ 1000 := by rw [LR.out]; exact HQ.out.lens r hrm
      have HROW := hide hrow; have HR := hide hr; have HRM := hide hrm
      have hfit := HQ.out.fit r hrm
      have HFIT := hide hfit
      have hj0 : (0 : Int) ≤ (j : Int) := by omega
      have hj1 : (j : Int) < nq := by omega
      clear hr hrm hrow hfit
      have hrx := R0.out.later (HL1.out.trans HL.out).drew
      have HT1 : Hid (∀ w', Later wr.drew w' → w'.cell? ⟨w.heap.size, 0, none⟩ = some (.slice A1 nq c1) ∧ w'.cell? ⟨w.heap.size, 1, none⟩ = some (.int .i64 D.hor) ∧ w'.cell? ⟨w.heap.size, 2, none⟩ = some (.int .i64 D.now) ∧ w'.cell? ⟨w.heap.size, 3, none⟩ = some (.slice A2 n2 c2) ∧ w'.cell? ⟨w.heap.size, 4, none⟩ = some (.slice A3 n3 c3) ∧ w'.cell? ⟨w.heap.size, 5, none⟩ = some (.slice A4 n4 c4) ∧ w'.cell? ⟨b1, off1 + j, none⟩ = some (.slice Ar nr cr)) := hide fun w' hb => ⟨(hrx.later hb).cell rfl, (hrx.later hb).cell rfl, (hrx.later hb).cell rfl, (hrx.later hb).cell rfl, (hrx.later hb).cell rfl, (hrx.later hb).cell rfl, Later.cell (((Later.refl wr).drew).trans hb) x1⟩
      clear hrx
      have hmx : Tryz.prog.follows .mixedOrders = true := by kernel_rfl
      obtain ⟨u9, t9⟩ : ∃ u9, ((nr : Int) != D.hor) = u9 := ⟨_, rfl⟩
      go_upto_region 6 with fail
      refine wp_region_N (fun w' => w'.cell? ⟨w.heap.size, 0, none⟩ = some (.slice A1 nq c1) ∧ w'.cell? ⟨w.heap.size, 1, none⟩ = some (.int .i64 D.hor) ∧ w'.cell? ⟨w.heap.size, 2, none⟩ = some (.int .i64 D.now) ∧ w'.cell? ⟨w.heap.size, 3, none⟩ = some (.slice A2 n2 c2) ∧ w'.cell? ⟨w.heap.size, 4, none⟩ = some (.slice A3 n3 c3) ∧ w'.cell? ⟨w.heap.size, 5, none⟩ = some (.slice A4 n4 c4) ∧ w'.cell? ⟨b1, off1 + j, none⟩ = some (.slice Ar nr cr)) [] hmx (HT1.out _ (Later.refl _)) (fun hHeld => ?_)
      refine wpAnyN_takeD (some 24) (by rfl) (i := 0) (oi := _) (v := ?_) rfl (by kernel_rfl) (by kernel_rfl) (by kernel_rfl) (by kernel_rfl) (fun _ _ _ h => h) (Or.inl ⟨by rfl, ?_⟩) (by assumption) ?_
      rotate_left
      · intro w hSw; (try dsimp only at hSw); go_simp
        first | done | with_reducible rfl
      try simp only [Act.put, List.setIfInBounds_toArray, List.set_cons_zero, List.set_cons_succ]
      refine wpAnyN_takeD (some 25) (by rfl) (i := 1) (oi := _) (v := ?_) rfl (by kernel_rfl) (by kernel_rfl) (by kernel_rfl) (by kernel_rfl) (fun _ _ _ h => h) (Or.inl ⟨by rfl, ?_⟩) (by assumption) ?_
      rotate_left
      · intro w hSw; (try dsimp only at hSw); go_simp
        first | done | with_reducible rfl
      try simp only [Act.put, List.setIfInBounds_toArray, List.set_cons_zero, List.set_cons_succ]
      refine wpAnyN_takeD (some 26) (by rfl) (i := 2) (oi := _) (v := ?_) rfl (by kernel_rfl) (by kernel_rfl) (by kernel_rfl) (by kernel_rfl) (fun _ _ _ h => h) (Or.inl ⟨by rfl, ?_⟩) (by assumption) ?_
      rotate_left
      · intro w hSw; (try dsimp only at hSw); go_simp
        first | done | with_reducible rfl
      try simp only [Act.put, List.setIfInBounds_toArray, List.set_cons_zero, List.set_cons_succ]
      refine wpAnyN_takeD (some 27) (by rfl) (i := 3) (oi := _) (v := ?_) rfl (by kernel_rfl) (by kernel_rfl) (by kernel_rfl) (by kernel_rfl) (fun _ _ _ h => h) (Or.inl ⟨by rfl, ?_⟩) (by assumption) ?_
      rotate_left
      · intro w hSw; (try dsimp only at hSw); go_simp
        first | done | with_reducible rfl
      try simp only [Act.put, List.setIfInBounds_toArray, List.set_cons_zero, List.set_cons_succ]
      refine wpAnyN_takeD (some 28) (by rfl) (i := 4) (oi := _) (v := ?_) rfl (by kernel_rfl) (by kernel_rfl) (by kernel_rfl) (by kernel_rfl) (fun _ _ _ h => h) (Or.inl ⟨by rfl, ?_⟩) (by assumption) ?_
      rotate_left
      · intro w hSw; (try dsimp only at hSw); go_simp
        first | done | with_reducible rfl
      try simp only [Act.put, List.setIfInBounds_toArray, List.set_cons_zero, List.set_cons_succ]
      refine wpAnyN_takeD (some 29) (by rfl) (i := 5) (oi := _) (v := ?_) rfl (by kernel_rfl) (by kernel_rfl) (by kernel_rfl) (by kernel_rfl) (fun _ _ _ h => h) (Or.inl ⟨by rfl, ?_⟩) (by assumption) ?_
      rotate_left
      · intro w hSw; (try dsimp only at hSw); go_simp
        first | done | with_reducible rfl
      try simp only [Act.put, List.setIfInBounds_toArray, List.set_cons_zero, List.set_cons_succ]
      refine wpAnyN_takeD (some 30) (by rfl) (i := 6) (oi := _) (v := ?_) rfl (by kernel_rfl) (by kernel_rfl) (by kernel_rfl) (by kernel_rfl) (fun _ _ _ h => h) (Or.inl ⟨by rfl, ?_⟩) (by assumption) ?_
      rotate_left
      · intro w hSw; (try dsimp only at hSw); go_simp
        first | done | with_reducible rfl
      try simp only [Act.put, List.setIfInBounds_toArray, List.set_cons_zero, List.set_cons_succ]
      refine wpAnyN_takeD (some 31) (by rfl) (i := 7) (oi := _) (v := ?_) rfl (by kernel_rfl) (by kernel_rfl) (by kernel_rfl) (by kernel_rfl) (fun _ _ _ h => h) (Or.inl ⟨by rfl, ?_⟩) (by assumption) ?_
      rotate_left
      · intro w hSw; (try dsimp only at hSw); go_simp
        first | done | with_reducible rfl
      try simp only [Act.put, List.setIfInBounds_toArray, List.set_cons_zero, List.set_cons_succ]
      refine wpAnyN_done (by kernel_rfl) ?_ _
      clear hHeld
      have x1 : wr.drew.cell? ⟨b1, off1 + j, none⟩ = some (.slice Ar nr cr) := x1
      have HD := hide (HL.out.drew)
      clear d0 d1 d2 d3 d4 d5
      have r_d := R0.out.later (HL1.out.trans HD.out)
      have d0 := r_d.cell (i := 0) rfl; have d1 := r_d.cell (i := 1) rfl; have d2 := r_d.cell (i := 2) rfl; have d3 := r_d.cell (i := 3) rfl; have d4 := r_d.cell (i := 4) rfl; have d5 := r_d.cell (i := 5) rfl
      clear r_d
      cases u9 with
      | true =>
        have HF : Hid (u = false) := hide (HNO.out r HRM.out (by
          unfold rowOk
          rw [bne_iff_ne, LR.out] at t9
          rw [decide_eq_false t9]; rfl))
        go_wp2_with fail
        go_ret
        exact ⟨by first | rfl | (rw [HF.out]; rfl), B0.out.trans (HL1.out.trans HD.out)⟩
      | false =>
      have HRL : Hid ((r.length : Int) = D.hor) := hide (by rw [bne_eq_false_iff_eq, LR.out] at t9; exact t9)
      clear t9
      go_wp2_with fail
      have HX1 := hide x1
      clear x1 d0 d1 d2 d3 d4 d5
      obtain ⟨wd, hwd⟩ : ∃ wd, wd = wr.drew := ⟨_, rfl⟩
      rw [← hwd] at HD HX1 ⊢
      have HROW2 : Hid (Sq 1 iCells wd (.slice Ar nr cr) r) := hide (by rw [hwd]; exact HROW.out.later (Later.refl wr).drew)
      clear hwd
      go_loopw [6] (fun i wx => ∃ k : Nat, k ≤ nr ∧ i = .int .i64 (k : Int) ∧ Hid (∀ (i : Nat) z, i < k → r[i]? = some z → 0 ≤ z ∧ z ≤ 1000000) ∧ Later wd wx) (fun i _ => (nr - intOf i).toNat)
      case atStart => exact ⟨0, by omega, rfl, hide fun i x hi => by omega, Later.refl _⟩
      case round =>
        obtain ⟨k, hk, rfl, hpre2, hLx⟩ := hrel
        have x1 := Later.cell hLx HX1.out
        have HLX := hide hLx
        clear hLx
        by_cases hkn : k < nr
        · obtain ⟨z, hz⟩ : ∃ z, r[k]? = some z := ⟨r[k]'(by have := LR.out; omega), List.getElem?_eq_getElem _⟩
          obtain ⟨b3, off3, rfl, x2⟩ := (HROW2.out.later HLX.out).at1 hz
          have HZ := hide hz
          have hfz := HFIT.out z (List.mem_of_getElem? hz)
          have hk0 : (0 : Int) ≤ (k : Int) := by omega
          have hk1 : (k : Int) < nr := by omega
          clear hz
          have HNZ : Hid (¬ (0 ≤ z ∧ z ≤ 1000000) → u = false) := hide (fun hk => HNO.out r HRM.out (by
            cases hro : rowOk D.hor r with
            | false => rfl
            | true => exact absurd ((rowOk_iff.1 hro).2 z (List.mem_of_getElem? HZ.out)) hk))
          by_cases g1 : z < 0
          · have t1 : decide (z < 0) = true := by simpa using g1
            have HF : Hid (u = false) := hide (HNZ.out (by omega))
            go_wp2_with fail
            go_ret
            exact ⟨by first | rfl | (rw [HF.out]; rfl), B0.out.trans (HL1.out.trans (HD.out.trans HLX.out))⟩
          · have t1 : decide (z < 0) = false := by simpa using g1
            by_cases g2 : 1000000 < z
            · have t2 : decide (1000000 < z) = true := by simpa using g2
              have HF : Hid (u = false) := hide (HNZ.out (by omega))
              go_wp2_with fail
              go_ret
              exact ⟨by first | rfl | (rw [HF.out]; rfl), B0.out.trans (HL1.out.trans (HD.out.trans HLX.out))⟩
            · have t2 : decide (1000000 < z) = false := by simpa using g2
              have HN : Hid (∀ (i : Nat) z, i < k + 1 → r[i]? = some z → 0 ≤ z ∧ z ≤ 1000000) := hide fun i y hi hy => by
                by_cases hij : i < k
                · exact hpre2.out i y hij hy
                · obtain rfl : i = k := by omega
                  rw [HZ.out] at hy; injection hy with hy; rw [← hy]; omega
              clear g1 g2
              go_wp2_with fail
              exact ⟨⟨k+1, by omega, by go_num, HN, HLX.out⟩, by simp [intOf]; omega⟩
        · have HN : Hid (∀ (i : Nat) y, i < j + 1 → t[i]? = some y → rowOk D.hor y = true) := hide fun i y hi hy => by
            by_cases hij : i < j
            · exact hpre.out i y hij hy
            · obtain rfl : i = j := by omega
              rw [HR.out] at hy; injection hy with hy; rw [← hy]
              exact rowOk_iff.2 ⟨HRL.out, fun z hz => by
                obtain ⟨i, hi⟩ := List.getElem?_of_mem hz
                exact hpre2.out i z (by have := (List.getElem?_eq_some_iff.1 hi).1; have := LR.out; omega) hi⟩
          have hk1 : ¬ (k : Int) < nr := by omega
          clear hpre2 hpre
          go_wp2_with fail
          exact ⟨⟨j+1, by omega, by go_num, HN, HD.out.trans HLX.out⟩, by simp [intOf]; omega⟩
    · have HF : Hid (u = true) := hide (by
        rw [← HU.out]; refine shapeB_iff.2 ⟨mayB_iff.1 HU0.out, by rw [← LQ.out, ← L1.out], fun r hr => ?_⟩
        obtain ⟨i, hi⟩ := List.getElem?_of_mem hr
        exact rowOk_iff.1 (hpre.out i r (by have := (List.getElem?_eq_some_iff.1 hi).1; have := LQ.out; omega) hi))
      have hj1 : ¬ (j : Int) < nq := by omega
      clear hpre
      go_wp2_with fail
      go_ret
      exact ⟨by first | rfl | (rw [HF.out]; rfl), B0.out.trans (HL1.out.trans HL.out)⟩
end Go.Proofs.YthncinngkfflgaaGreat
