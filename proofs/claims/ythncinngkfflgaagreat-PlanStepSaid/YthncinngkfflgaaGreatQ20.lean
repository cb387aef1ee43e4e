/- Plans: capacities, what is committed, due, and there (the reference). -/
import Derived.Test.YthncinngkfflgaaGreatQ19
import Derived.Test.YthncinngkfflgaaGreatQ6
set_option linter.unusedVariables false
set_option linter.unusedSimpArgs false
set_option maxRecDepth 100000
namespace Go.Proofs.YthncinngkfflgaaGreat
open Go.RowKit Go.Shelf
attribute [local go_sem ↓] Go.wp_at_zero Go.wp_at_succ

set_option maxHeartbeats 4000000 in
theorem rfixed_calls (w : World) (A1 A2 A3 A4 : Option Addr) (n1 n2 n3 n4 c1 c2 c3 c4 : Nat) (D : PBook) (h : BookIn w (.slice A1 n1 c1) (.slice A2 n2 c2) (.slice A3 n3 c3) (.slice A4 n4 c4) D) (it p : Int) :
    Calls Tryz.prog 24 #[.agg #[.slice A1 n1 c1, .int .i64 D.hor, .int .i64 D.now, .slice A2 n2 c2, .slice A3 n3 c3, .slice A4 n4 c4], .int .i64 it, .int .i64 p] w (RetO w (fixedV D it p)) := by
  have H := hide h
  obtain ⟨l1, l2, l3, l4⟩ := h.lens
  have hn3 : n3 ≤ 1000 := by have := h.ol; omega
  have hn4 : n4 ≤ 1000 := by have := h.ml; omega
  obtain ⟨u0, hu0⟩ : ∃ u, mayB D = u := ⟨_, rfl⟩
  obtain ⟨z, hz⟩ : ∃ z, fixedV D it p = z := ⟨_, rfl⟩
  rw [hz]
  have HU0 := hide hu0; have HZ := hide hz; have L3 := hide l3; have L4 := hide l4
  clear h hu0 hz l1 l2 l3 l4
  obtain ⟨W0, hW0⟩ : ∃ W0, W0 = (w.alloc (Obj.cells #[Value.slice A1 n1 c1, Value.int .i64 D.hor, Value.int .i64 D.now, Value.slice A2 n2 c2, Value.slice A3 n3 c3, Value.slice A4 n4 c4] 47)) := ⟨_, rfl⟩
  obtain ⟨hb0, r0, hsz0⟩ := boxes1 w [.slice A1 n1 c1, .int .i64 D.hor, .int .i64 D.now, .slice A2 n2 c2, .slice A3 n3 c3, .slice A4 n4 c4] 47 hW0
  have B0 := hide hb0; have HW0 := hide hW0
  have R0 := hide r0
  clear hb0 hW0 hsz0 r0
  go_enter Tryz.func24, Tryz.ntmps24
  go_upto_region 1 with fail
  rw [← HW0.out]
  have r_d := R0.out.later (Later.refl W0)
  have d0 := r_d.cell (i := 0) rfl; have d1 := r_d.cell (i := 1) rfl; have d2 := r_d.cell (i := 2) rfl; have d3 := r_d.cell (i := 3) rfl; have d4 := r_d.cell (i := 4) rfl; have d5 := r_d.cell (i := 5) rfl
  clear r_d
  go_wp2_with fail
  clear d0 d1 d2 d3 d4 d5
  go_loopw [8] (fun i wr => ∃ j : Nat, j ≤ n4 ∧ i = .int .i64 (j : Int) ∧ Hid (∀ (i : Nat) x, i < j → D.mks[i]? = some x → decide (x.item = it ∧ x.period = p) = false) ∧ Later W0 wr) (fun i _ => (n4 - intOf i).toNat)
  case atStart => exact ⟨0, by omega, rfl, hide fun i r hi => by omega, Later.refl _⟩
  case round =>
    obtain ⟨j, hj, rfl, hpre, hL⟩ := hrel
    have HL := hide hL
    clear hL
    have r_d := R0.out.later HL.out
    have d0 := r_d.cell (i := 0) rfl; have d1 := r_d.cell (i := 1) rfl; have d2 := r_d.cell (i := 2) rfl; have d3 := r_d.cell (i := 3) rfl; have d4 := r_d.cell (i := 4) rfl; have d5 := r_d.cell (i := 5) rfl
    clear r_d
    by_cases hjn : j < n4
    · obtain ⟨x, hx⟩ : ∃ x, D.mks[j]? = some x := ⟨D.mks[j]'(by have := L4.out; omega), List.getElem?_eq_getElem _⟩
      have HX := hide hx
      have hj0 : (0 : Int) ≤ (j : Int) := by omega
      have hj1 : (j : Int) < n4 := by omega
      clear hx
      go_wp2_with fail
      ((with_reducible refine (rmay_calls _ _ _ _ _ _ _ _ _ _ _ _ _ D (H.out.later (B0.out.trans HL.out)) u0 HU0.out).mono ?_); rintro e w1 ⟨rfl, b1⟩)
      have HL1 := hide (HL.out.trans b1)
      clear b1 d0 d1 d2 d3 d4 d5
      have r_d := R0.out.later HL1.out
      have d0 := r_d.cell (i := 0) rfl; have d1 := r_d.cell (i := 1) rfl; have d2 := r_d.cell (i := 2) rfl; have d3 := r_d.cell (i := 3) rfl; have d4 := r_d.cell (i := 4) rfl; have d5 := r_d.cell (i := 5) rfl
      clear r_d
      cases u0 with
      | false =>
        have HF : Hid (z = none) := hide (by rw [← HZ.out]; unfold fixedV; rw [if_neg (by rw [HU0.out]; simp)])
        go_wp2_with fail
        go_ret2
        exact ⟨by rw [HF.out]; rfl, B0.out.trans HL1.out⟩
      | true =>
      obtain ⟨b1, off1, rfl, x0, x1, x2⟩ := (H.out.later (B0.out.trans HL1.out)).mks.at3 HX.out
      by_cases g1 : x.item = it
      · have t1 : (x.item == it) = true := by simpa using g1
        by_cases g2 : x.period = p
        · have t2 : (x.period == p) = true := by simpa using g2
          have HF : Hid (z = some x.qty) := hide (by
            rw [← HZ.out]; unfold fixedV; rw [if_pos HU0.out]
            rcases firstX_find (.inr ⟨j, x, rfl, HX.out, by simp [g1, g2], hpre.out⟩ : FirstX (fun x : PMk => decide (x.item = it ∧ x.period = p)) D.mks j) with ⟨h1, -⟩ | ⟨i, y, h1, -, h2, h3⟩
            · omega
            · obtain rfl : i = j := by omega
              rw [HX.out] at h2; injection h2 with h2
              rw [h3, ← h2]; rfl)
          clear g1 g2
          go_wp2_with fail
          go_ret2
          exact ⟨by rw [HF.out]; rfl, B0.out.trans HL1.out⟩
        · have t2 : (x.period == p) = false := by simpa using g2
          have HN : Hid (∀ (i : Nat) x, i < j + 1 → D.mks[i]? = some x → decide (x.item = it ∧ x.period = p) = false) := hide fun i y hi hy => by
            by_cases hij : i < j
            · exact hpre.out i y hij hy
            · obtain rfl : i = j := by omega
              rw [HX.out] at hy; injection hy with hy; rw [← hy]; simp [g2]
          clear g1 g2
          go_wp2_with fail
          exact ⟨⟨j+1, by omega, by go_num, HN, HL1.out⟩, by simp [intOf]; omega⟩
      · have t1 : (x.item == it) = false := by simpa using g1
        have HN : Hid (∀ (i : Nat) x, i < j + 1 → D.mks[i]? = some x → decide (x.item = it ∧ x.period = p) = false) := hide fun i y hi hy => by
          by_cases hij : i < j
          · exact hpre.out i y hij hy
          · obtain rfl : i = j := by omega
            rw [HX.out] at hy; injection hy with hy; rw [← hy]; simp [g1]
        clear g1
        go_wp2_with fail
        exact ⟨⟨j+1, by omega, by go_num, HN, HL1.out⟩, by simp [intOf]; omega⟩
    · have HF : Hid (z = none) := hide (by
        rw [← HZ.out]; unfold fixedV
        split
        · rw [Option.map_eq_none_iff, List.find?_eq_none]
          intro x hx
          obtain ⟨i, hi⟩ := List.getElem?_of_mem hx
          rw [hpre.out i x (by have := (List.getElem?_eq_some_iff.1 hi).1; have := L4.out; omega) hi]; simp
        · rfl)
      have hj1 : ¬ (j : Int) < n4 := by omega
      clear hpre
      go_wp2_with fail
      go_ret2
      exact ⟨by rw [HF.out]; rfl, B0.out.trans HL.out⟩

set_option maxHeartbeats 4000000 in
theorem rdue_calls (w : World) (A1 A2 A3 A4 : Option Addr) (n1 n2 n3 n4 c1 c2 c3 c4 : Nat) (D : PBook) (h : BookIn w (.slice A1 n1 c1) (.slice A2 n2 c2) (.slice A3 n3 c3) (.slice A4 n4 c4) D) (item p : Int) :
    Calls Tryz.prog 32 #[.agg #[.slice A1 n1 c1, .int .i64 D.hor, .int .i64 D.now, .slice A2 n2 c2, .slice A3 n3 c3, .slice A4 n4 c4], .int .i64 item, .int .i64 p] w (RetV w (.int .i64 (dueV D item p))) := by
  have H := hide h
  obtain ⟨l1, l2, l3, l4⟩ := h.lens
  have hn3 : n3 ≤ 1000 := by have := h.ol; omega
  have hn4 : n4 ≤ 1000 := by have := h.ml; omega
  obtain ⟨u0, hu0⟩ : ∃ u, mayB D = u := ⟨_, rfl⟩
  obtain ⟨z, hz⟩ : ∃ z, dueV D item p = z := ⟨_, rfl⟩
  rw [hz]
  have HU0 := hide hu0; have HZ := hide hz; have L3 := hide l3; have L4 := hide l4
  clear h hu0 hz l1 l2 l3 l4
  obtain ⟨W0, hW0⟩ : ∃ W0, W0 = (w.alloc (Obj.cells #[Value.slice A1 n1 c1, Value.int .i64 D.hor, Value.int .i64 D.now, Value.slice A2 n2 c2, Value.slice A3 n3 c3, Value.slice A4 n4 c4] 47)) := ⟨_, rfl⟩
  obtain ⟨hb0, r0, hsz0⟩ := boxes1 w [.slice A1 n1 c1, .int .i64 D.hor, .int .i64 D.now, .slice A2 n2 c2, .slice A3 n3 c3, .slice A4 n4 c4] 47 hW0
  have B0 := hide hb0; have HW0 := hide hW0
  have R0 := hide r0
  clear hb0 hW0 hsz0 r0
  go_enter Tryz.func32, Tryz.ntmps32
  go_upto_region 1 with fail
  rw [← HW0.out]
  have r_d := R0.out.later (Later.refl W0)
  have d0 := r_d.cell (i := 0) rfl; have d1 := r_d.cell (i := 1) rfl; have d2 := r_d.cell (i := 2) rfl; have d3 := r_d.cell (i := 3) rfl; have d4 := r_d.cell (i := 4) rfl; have d5 := r_d.cell (i := 5) rfl
  clear r_d
  go_wp2_with fail
  clear d0 d1 d2 d3 d4 d5
  go_loopw [7, 8] (fun s i wr => ∃ j : Nat, j ≤ n3 ∧ s = .int .i64 (dueOf item p (D.ords.take j)) ∧ i = .int .i64 (j : Int) ∧ (u0 = false → j = 0) ∧ Later W0 wr) (fun _ i _ => (n3 - intOf i).toNat)
  case atStart => exact ⟨0, by omega, rfl, rfl, fun _ => rfl, Later.refl _⟩
  case round =>
    obtain ⟨j, hj, rfl, rfl, hu0, hL⟩ := hrel
    have HJ := hide hu0
    have HL := hide hL
    clear hL hu0
    have r_d := R0.out.later HL.out
    have d0 := r_d.cell (i := 0) rfl; have d1 := r_d.cell (i := 1) rfl; have d2 := r_d.cell (i := 2) rfl; have d3 := r_d.cell (i := 3) rfl; have d4 := r_d.cell (i := 4) rfl; have d5 := r_d.cell (i := 5) rfl
    clear r_d
    by_cases hjn : j < n3
    · obtain ⟨x, hx⟩ : ∃ x, D.ords[j]? = some x := ⟨D.ords[j]'(by have := L3.out; omega), List.getElem?_eq_getElem _⟩
      have HX := hide hx
      have hj0 : (0 : Int) ≤ (j : Int) := by omega
      have hj1 : (j : Int) < n3 := by omega
      clear hx
      go_wp2_with fail
      ((with_reducible refine (rmay_calls _ _ _ _ _ _ _ _ _ _ _ _ _ D (H.out.later (B0.out.trans HL.out)) u0 HU0.out).mono ?_); rintro e w1 ⟨rfl, b1⟩)
      have HL1 := hide (HL.out.trans b1)
      clear b1 d0 d1 d2 d3 d4 d5
      have r_d := R0.out.later HL1.out
      have d0 := r_d.cell (i := 0) rfl; have d1 := r_d.cell (i := 1) rfl; have d2 := r_d.cell (i := 2) rfl; have d3 := r_d.cell (i := 3) rfl; have d4 := r_d.cell (i := 4) rfl; have d5 := r_d.cell (i := 5) rfl
      clear r_d
      cases u0 with
      | false =>
        have HF : Hid (dueOf item p (D.ords.take j) = z) := hide (by rw [← HZ.out, HJ.out rfl]; unfold dueV; rw [if_neg (by rw [HU0.out]; simp)]; rfl)
        rw [HF.out]
        go_wp2_with fail
        go_ret
        exact ⟨rfl, B0.out.trans HL1.out⟩
      | true =>
      obtain ⟨b1, off1, rfl, x0, x1, x2, x3⟩ := (H.out.later (B0.out.trans HL1.out)).ords.at4 HX.out
      have htk := dueOf_snoc item p (D.ords.take j) x
      have e1 : D.ords.take (j+1) = D.ords.take j ++ [x] := by rw [List.take_add_one, HX.out]; rfl
      rw [← e1] at htk
      have hbd := dueOf_bound item p (D.ords.take j) (fun o ho => may_qty HU0.out o (List.mem_of_mem_take ho))
      rw [List.length_take] at hbd
      have hqb := may_qty HU0.out x (List.mem_of_getElem? HX.out)
      obtain ⟨s, hs⟩ : ∃ s, dueOf item p (D.ords.take j) = s := ⟨_, rfl⟩
      rw [hs] at htk hbd ⊢
      have hbd2 : 0 ≤ s ∧ s ≤ 100000 := by omega
      have HTK := hide htk
      clear hs htk e1 hbd
      by_cases g1 : x.item = item
      · have t1 : (x.item == item) = true := by simpa using g1
        by_cases g2 : x.due = p
        · have t2 : (x.due == p) = true := by simpa using g2
          have HE : Hid (dueOf item p (D.ords.take (j+1)) = s + x.qty) := hide (by rw [HTK.out, if_pos ⟨g1, g2⟩])
          clear g1 g2
          go_wp2_with fail
          exact ⟨⟨j+1, by omega, by (rw [HE.out]), by go_num, (fun h => by cases h), HL1.out⟩, by simp [intOf]; omega⟩
        · have t2 : (x.due == p) = false := by simpa using g2
          have HE : Hid (dueOf item p (D.ords.take (j+1)) = s) := hide (by rw [HTK.out, if_neg (fun h => g2 h.2)]; omega)
          clear g1 g2
          go_wp2_with fail
          exact ⟨⟨j+1, by omega, by (rw [HE.out]), by go_num, (fun h => by cases h), HL1.out⟩, by simp [intOf]; omega⟩
      · have t1 : (x.item == item) = false := by simpa using g1
        have HE : Hid (dueOf item p (D.ords.take (j+1)) = s) := hide (by rw [HTK.out, if_neg (fun h => g1 h.1)]; omega)
        clear g1
        go_wp2_with fail
        exact ⟨⟨j+1, by omega, by (rw [HE.out]), by go_num, (fun h => by cases h), HL1.out⟩, by simp [intOf]; omega⟩
    · have HF : Hid (dueOf item p (D.ords.take j) = z) := hide (by
        rw [← HZ.out]; unfold dueV
        by_cases hm : mayB D = true
        · rw [if_pos hm, List.take_of_length_le (by have := L3.out; omega)]
        · rw [if_neg hm]
          have h5 := HU0.out
          rw [HJ.out (by rw [← h5]; simpa using hm)]; rfl)
      rw [HF.out]
      have hj1 : ¬ (j : Int) < n3 := by omega
      go_wp2_with fail
      go_ret
      exact ⟨rfl, B0.out.trans HL.out⟩

/-- what is there, period by period -/
noncomputable def thereR (D : PBook) (item : Int) : Nat → Int
  | 0 => 0
  | k + 1 => thereR D item k + (fixedV D item k).getD 0 - dueV D item k
theorem key_inj {n : Nat} {x y : PMk} (hx : x.okP n) (hy : y.okP n) (hn : n ≤ 3) (h1 : x.item = y.item) (h2 : x.period = y.period) : x.key = y.key := by unfold PMk.key; omega
/-- keys that rise are apart -/
theorem rises_lt {l : List PMk} (h : ∀ (i : Nat) a b, l[i]? = some a → l[i+1]? = some b → a.key < b.key) : ∀ (i j : Nat) a b, i < j → l[i]? = some a → l[j]? = some b → a.key < b.key := by
  intro i j
  induction j with
  | zero => intro a b hij; omega
  | succ j ih =>
    intro a b hij ha hb
    have hjl := (List.getElem?_eq_some_iff.1 hb).1
    obtain ⟨c, hc⟩ : ∃ c, l[j]? = some c := ⟨l[j], List.getElem?_eq_getElem (by omega)⟩
    have h1 := h j c b hc hb
    by_cases hij2 : i = j
    · subst hij2; rw [ha] at hc; injection hc with hc; rw [hc]; exact h1
    · have := ih a c (by omega) ha hc; omega
/-- what is committed in a period, as a sum -/
theorem find_sum {l : List PMk} {n : Nat} (hok : ∀ x ∈ l, x.okP n) (hn : n ≤ 3) (h : ∀ (i : Nat) a b, l[i]? = some a → l[i+1]? = some b → a.key < b.key) (it p : Int) :
    ((l.find? fun x => decide (x.item = it ∧ x.period = p)).map (·.qty)).getD 0 = sumI (l.map fun x => if x.item = it ∧ x.period = p then x.qty else 0) := by
  induction l with
  | nil => rfl
  | cons a l ih =>
    have ih' := ih (fun x hx => hok x (List.mem_cons_of_mem _ hx)) (fun i x y hx hy => h (i+1) x y (by simpa using hx) (by simpa using hy))
    rw [List.find?_cons, List.map_cons]
    by_cases g : a.item = it ∧ a.period = p
    · rw [decide_eq_true g]
      have hz : sumI (l.map fun x => if x.item = it ∧ x.period = p then x.qty else 0) = 0 := sumI_zero fun x hx => by
        obtain ⟨y, hy, rfl⟩ := List.mem_map.1 hx
        rw [if_neg]; rintro ⟨h1, h2⟩
        obtain ⟨i, hi⟩ := List.getElem?_of_mem hy
        have h5 := rises_lt h 0 (i+1) a y (by omega) rfl (by simpa using hi)
        have h6 := key_inj (hok a (List.mem_cons_self ..)) (hok y (List.mem_cons_of_mem _ hy)) hn (g.1.trans h1.symm) (g.2.trans h2.symm)
        omega
      unfold sumI; rw [hz, if_pos g]; simp
    · rw [decide_eq_false g]
      unfold sumI; rw [if_neg g]; simp only [Int.zero_add]; exact ih'
theorem sumI_add {α : Type} (l : List α) (f g : α → Int) : sumI (l.map fun x => f x + g x) = sumI (l.map f) + sumI (l.map g) := by
  induction l with
  | nil => rfl
  | cons a l ih => simp only [List.map_cons, sumI, ih]; omega
theorem sumI_neg {α : Type} (l : List α) (f : α → Int) : sumI (l.map fun x => - f x) = - sumI (l.map f) := by
  induction l with
  | nil => rfl
  | cons a l ih => simp only [List.map_cons, sumI, ih]; omega
theorem sumI_congr {α : Type} {l : List α} {f g : α → Int} (h : ∀ x ∈ l, f x = g x) : sumI (l.map f) = sumI (l.map g) := by
  rw [List.map_congr_left h]
theorem thereR_may {D : PBook} (h : MayP D) (item : Int) (k : Nat) : thereR D item k = goneOf item k D.ords + cameOf item k D.mks := by
  induction k with
  | zero =>
    have e1 : goneOf item ((0 : Nat) : Int) D.ords = 0 := sumI_zero fun x hx => by
      obtain ⟨o, ho, rfl⟩ := List.mem_map.1 hx
      have := h.ords o ho; unfold POrd.okP at this
      rw [if_neg]; rintro ⟨-, h1⟩; omega
    have e2 : cameOf item ((0 : Nat) : Int) D.mks = 0 := sumI_zero fun x hx => by
      obtain ⟨o, ho, rfl⟩ := List.mem_map.1 hx
      have := h.mks o ho; unfold PMk.okP at this
      rw [if_neg]; rintro ⟨-, h1⟩; omega
    rw [e1, e2]; rfl
  | succ k ih =>
    show thereR D item k + (fixedV D item k).getD 0 - dueV D item k = _
    have hm := mayB_iff.2 h
    have e1 : (fixedV D item k).getD 0 = sumI (D.mks.map fun x => if x.item = item ∧ x.period = (k : Int) then x.qty else 0) := by
      unfold fixedV; rw [if_pos hm]; exact find_sum h.mks h.head.n3 h.mris item k
    have e2 : dueV D item k = dueOf item k D.ords := by unfold dueV; rw [if_pos hm]
    have e3 : cameOf item ((k + 1 : Nat) : Int) D.mks = cameOf item k D.mks + sumI (D.mks.map fun x => if x.item = item ∧ x.period = (k : Int) then x.qty else 0) := by
      unfold cameOf; rw [← sumI_add]
      refine sumI_congr fun x hx => ?_
      by_cases h1 : x.item = item
      · simp only [h1, true_and]
        by_cases h2 : x.period < k
        · rw [if_pos (by omega), if_pos h2, if_neg (by omega)]; omega
        · by_cases h3 : x.period = k
          · rw [if_pos (by omega), if_neg h2, if_pos h3]; omega
          · rw [if_neg (by omega), if_neg h2, if_neg h3]; omega
      · simp [h1]
    have e4 : goneOf item ((k + 1 : Nat) : Int) D.ords = goneOf item k D.ords - dueOf item k D.ords := by
      have : dueOf item k D.ords = - sumI (D.ords.map fun o => if o.item = item ∧ o.due = (k : Int) then -o.qty else 0) := by
        unfold dueOf; rw [← sumI_neg]; exact sumI_congr fun x hx => by split <;> omega
      rw [this]
      unfold goneOf
      rw [Int.sub_neg, ← sumI_add]
      refine sumI_congr fun x hx => ?_
      by_cases h1 : x.item = item
      · simp only [h1, true_and]
        by_cases h2 : x.due < k
        · rw [if_pos (by omega), if_pos h2, if_neg (by omega)]; omega
        · by_cases h3 : x.due = k
          · rw [if_pos (by omega), if_neg h2, if_pos h3]; omega
          · rw [if_neg (by omega), if_neg h2, if_neg h3]; omega
      · simp [h1]
    rw [ih, e1, e2, e3, e4]; omega
theorem thereR_not {D : PBook} (h : ¬ mayB D = true) (item : Int) (k : Nat) : thereR D item k = 0 := by
  induction k with
  | zero => rfl
  | succ k ih =>
    show thereR D item k + (fixedV D item k).getD 0 - dueV D item k = 0
    rw [ih]; unfold fixedV dueV; rw [if_neg h, if_neg h]; rfl
theorem fixedV_bound (D : PBook) (it p : Int) : 0 ≤ (fixedV D it p).getD 0 ∧ (fixedV D it p).getD 0 ≤ 100 := by
  unfold fixedV
  split
  · rename_i hm
    cases hf : D.mks.find? fun x => decide (x.item = it ∧ x.period = p) with
    | none => simp
    | some x =>
      have := (mayB_iff.1 hm).mks x (List.mem_of_find?_eq_some hf)
      unfold PMk.okP at this
      simp; omega
  · simp
theorem thereR_bound (D : PBook) (item : Int) (hl : D.ords.length ≤ 1000) (k : Nat) : -100000 * (k : Int) ≤ thereR D item k ∧ thereR D item k ≤ 100 * (k : Int) := by
  induction k with
  | zero => simp [thereR]
  | succ k ih =>
    have h1 := fixedV_bound D item k
    have h2 := dueV_bound D item k hl
    have : thereR D item (k+1) = thereR D item k + (fixedV D item k).getD 0 - dueV D item k := rfl
    rw [this]; omega
theorem thereV_R (D : PBook) (item : Int) : thereV D item = thereR D item (min D.now.toNat 41) := by
  unfold thereV
  split
  · rename_i hm
    have h := mayB_iff.1 hm
    have h1 := h.head.t0; have h2 := h.head.t40
    rw [thereR_may h, show ((min D.now.toNat 41 : Nat) : Int) = D.now by omega]
  · rename_i hm; rw [thereR_not hm]

set_option maxHeartbeats 4000000 in
theorem rthere_calls (w : World) (A1 A2 A3 A4 : Option Addr) (n1 n2 n3 n4 c1 c2 c3 c4 : Nat) (D : PBook) (h : BookIn w (.slice A1 n1 c1) (.slice A2 n2 c2) (.slice A3 n3 c3) (.slice A4 n4 c4) D) (item : Int) :
    Calls Tryz.prog 30 #[.agg #[.slice A1 n1 c1, .int .i64 D.hor, .int .i64 D.now, .slice A2 n2 c2, .slice A3 n3 c3, .slice A4 n4 c4], .int .i64 item] w (RetV w (.int .i64 (thereV D item))) := by
  rw [thereV_R]
  have H := hide h
  have hol := h.ol
  have HN := h.nfit
  unfold IFit at HN
  obtain ⟨m, hm⟩ : ∃ m, m = min D.now.toNat 41 := ⟨_, rfl⟩
  rw [← hm]
  have hm1 : m ≤ 41 := by omega
  have hm2 : (m : Int) = D.now ∨ (m = 41 ∧ (41 : Int) ≤ D.now) ∨ (m = 0 ∧ D.now ≤ 0) := by omega
  have HMM := hide hm2
  clear h hm hm2
  obtain ⟨W0, hW0⟩ : ∃ W0, W0 = (w.alloc (Obj.cells #[Value.slice A1 n1 c1, Value.int .i64 D.hor, Value.int .i64 D.now, Value.slice A2 n2 c2, Value.slice A3 n3 c3, Value.slice A4 n4 c4] 47)) := ⟨_, rfl⟩
  obtain ⟨hb0, r0, hsz0⟩ := boxes1 w [.slice A1 n1 c1, .int .i64 D.hor, .int .i64 D.now, .slice A2 n2 c2, .slice A3 n3 c3, .slice A4 n4 c4] 47 hW0
  have B0 := hide hb0; have HW0 := hide hW0
  have R0 := hide r0
  clear hb0 hW0 hsz0 r0
  go_enter Tryz.func30, Tryz.ntmps30
  go_upto_region 1 with fail
  rw [← HW0.out]
  have r_d := R0.out.later (Later.refl W0)
  have d0 := r_d.cell (i := 0) rfl; have d1 := r_d.cell (i := 1) rfl; have d2 := r_d.cell (i := 2) rfl; have d3 := r_d.cell (i := 3) rfl; have d4 := r_d.cell (i := 4) rfl; have d5 := r_d.cell (i := 5) rfl
  clear r_d
  go_wp2_with fail
  clear d0 d1 d2 d3 d4 d5
  go_loopw [5, 6] (fun s i wr => ∃ j : Nat, j ≤ m ∧ s = .int .i64 (thereR D item j) ∧ i = .int .i64 (j : Int) ∧ Later W0 wr) (fun _ i _ => (m - intOf i).toNat)
  case atStart => exact ⟨0, by omega, rfl, rfl, Later.refl _⟩
  case round =>
    obtain ⟨j, hj, rfl, rfl, hL⟩ := hrel
    have HL := hide hL
    clear hL
    have r_d := R0.out.later HL.out
    have d0 := r_d.cell (i := 0) rfl; have d1 := r_d.cell (i := 1) rfl; have d2 := r_d.cell (i := 2) rfl; have d3 := r_d.cell (i := 3) rfl; have d4 := r_d.cell (i := 4) rfl; have d5 := r_d.cell (i := 5) rfl
    clear r_d
    by_cases hjn : j < m
    · have hj0 : (0 : Int) ≤ (j : Int) := by omega
      have hj1 : (j : Int) < D.now := by have := HMM.out; omega
      have hj2 : (j : Int) < 41 := by omega
      have t1 : decide ((j : Int) < D.now) = true := by simpa using hj1
      have hb := thereR_bound D item hol j
      have hf := fixedV_bound D item j
      have hd := dueV_bound D item j hol
      have hst : thereR D item (j+1) = thereR D item j + (fixedV D item j).getD 0 - dueV D item j := rfl
      obtain ⟨s, hs⟩ : ∃ s, thereR D item j = s := ⟨_, rfl⟩
      obtain ⟨fo, hfo⟩ : ∃ f, fixedV D item j = f := ⟨_, rfl⟩
      obtain ⟨f, hf1⟩ : ∃ f, fo.getD 0 = f := ⟨_, rfl⟩
      obtain ⟨d, hd1⟩ : ∃ d, dueV D item j = d := ⟨_, rfl⟩
      rw [hs, hfo, hf1, hd1] at hst
      rw [hfo, hf1] at hf
      rw [hs] at hb
      rw [hd1] at hd
      rw [hs]
      have hb2 : -10000000 ≤ s ∧ s ≤ 100000 := by omega
      have HST := hide hst; have HFO := hide hfo; have HF1 := hide hf1; have HD1 := hide hd1
      clear hst hs hfo hf1 hd1 hb
      go_wp2_with fail
      ((with_reducible refine (rfixed_calls _ _ _ _ _ _ _ _ _ _ _ _ _ D (H.out.later (B0.out.trans HL.out)) item j).mono ?_); rintro e w1 ⟨rfl, b1⟩)
      rw [HFO.out, HF1.out]
      have HL1 := hide (HL.out.trans b1)
      clear b1 d0 d1 d2 d3 d4 d5
      have r_d := R0.out.later HL1.out
      have d0 := r_d.cell (i := 0) rfl; have d1 := r_d.cell (i := 1) rfl; have d2 := r_d.cell (i := 2) rfl; have d3 := r_d.cell (i := 3) rfl; have d4 := r_d.cell (i := 4) rfl; have d5 := r_d.cell (i := 5) rfl
      clear r_d
      go_wp2_with fail
      ((with_reducible refine (rdue_calls _ _ _ _ _ _ _ _ _ _ _ _ _ D (H.out.later (B0.out.trans HL1.out)) item j).mono ?_); rintro e w2 ⟨rfl, b2⟩)
      rw [HD1.out]
      have HL2 := hide (HL1.out.trans b2)
      clear b2 d0 d1 d2 d3 d4 d5
      have hw1 : IntKind.i64.wrap (s + f) = s + f := IntWalk.i64_in _ (by omega)
      have hw2 : IntKind.i64.wrap (s + f - d) = s + f - d := IntWalk.i64_in _ (by omega)
      go_wp2_with fail
      exact ⟨⟨j+1, by omega, by (rw [HST.out]), by go_num, HL2.out⟩, by simp [intOf]; omega⟩
    · obtain rfl : j = m := by omega
      have hj0 : (0 : Int) ≤ (j : Int) := by omega
      by_cases hj1 : (j : Int) < D.now
      · have t1 : decide ((j : Int) < D.now) = true := by simpa using hj1
        have hj2 : ¬ (j : Int) < 41 := by have := HMM.out; omega
        have t2 : decide ((j : Int) < 41) = false := by simpa using hj2
        go_wp2_with fail
        go_ret
        exact ⟨rfl, B0.out.trans HL.out⟩
      · have t1 : decide ((j : Int) < D.now) = false := by simpa using hj1
        go_wp2_with fail
        go_ret
        exact ⟨rfl, B0.out.trans HL.out⟩
end Go.Proofs.YthncinngkfflgaaGreat

/- Plans: which rows may be; what is there behind each period (both). -/
set_option linter.unusedVariables false
set_option linter.unusedSimpArgs false
set_option maxRecDepth 100000
namespace Go.Proofs.YthncinngkfflgaaGreat
open Go.RowKit Go.Shelf
attribute [local go_sem ↓] Go.wp_at_zero Go.wp_at_succ

/-- whether a plan's row may be -/
def rowOk (hor : Int) (r : List Int) : Bool := decide ((r.length : Int) = hor) && r.all (fun z => decide (0 ≤ z ∧ z ≤ 1000000))
noncomputable def shapeB (D : PBook) (t : List (List Int)) : Bool := mayB D && (decide (t.length = D.items.length) && t.all (rowOk D.hor))
structure ShapeP (D : PBook) (t : List (List Int)) : Prop where
  may : MayP D
  len : t.length = D.items.length
  rows : ∀ r ∈ t, (r.length : Int) = D.hor ∧ ∀ z ∈ r, 0 ≤ z ∧ z ≤ 1000000
theorem rowOk_iff {hor : Int} {r : List Int} : rowOk hor r = true ↔ ((r.length : Int) = hor ∧ ∀ z ∈ r, 0 ≤ z ∧ z ≤ 1000000) := by
  unfold rowOk; rw [Bool.and_eq_true, decide_eq_true_iff, List.all_eq_true]
  constructor
  · rintro ⟨h1, h2⟩; exact ⟨h1, fun z hz => by simpa using h2 z hz⟩
  · rintro ⟨h1, h2⟩; exact ⟨h1, fun z hz => by simpa using h2 z hz⟩
theorem shapeB_iff {D : PBook} {t : List (List Int)} : shapeB D t = true ↔ ShapeP D t := by
  unfold shapeB
  rw [Bool.and_eq_true, Bool.and_eq_true, decide_eq_true_iff, List.all_eq_true, mayB_iff]
  constructor
  · rintro ⟨h1, h2, h3⟩; exact ⟨h1, h2, fun r hr => rowOk_iff.1 (h3 r hr)⟩
  · rintro ⟨h1, h2, h3⟩; exact ⟨h1, h2, fun r hr => rowOk_iff.2 (h3 r hr)⟩
/-- a plan in memory -/
structure GridIn (w : World) (v : Value) (t : List (List Int)) : Prop where
  grid : Grid w v t
  len : t.length ≤ 1000
  lens : ∀ r ∈ t, r.length ≤ 1000
  fit : ∀ r ∈ t, ∀ z ∈ r, -9223372036854775808 ≤ z ∧ z < 9223372036854775808
theorem GridIn.later {w w' : World} {v : Value} {t : List (List Int)} (h : GridIn w v t) (hb : Later w w') : GridIn w' v t := { h with grid := h.grid.later hb }
theorem Sq.len_ {α : Type} {m : Nat} {enc : α → List Value} {w : World} {A : Option Addr} {n c : Nat} {l : List α} (h : Sq m enc w (.slice A n c) l) : n = l.length := by
  obtain ⟨_, _, _, e, hn, -, -, -⟩ := h.form
  injection e with _ e _
  omega
theorem GridIn.lenq {w : World} {A : Option Addr} {n c : Nat} {t : List (List Int)} (h : GridIn w (.slice A n c) t) : n = t.length := by
  obtain ⟨_, _, _, e, hn, -, -, -⟩ := h.grid.form
  injection e with _ e _
  omega
/-- what is there of an item behind so many periods of the window -/
noncomputable def lev (D : PBook) (row : List Int) (item : Int) : Nat → Int
  | 0 => thereV D item
  | k + 1 => lev D row item k + (row.getD k 0 - dueV D item (D.now + k))
theorem thereV_bound (D : PBook) (item : Int) (hl : D.ords.length ≤ 1000) : -10000000 ≤ thereV D item ∧ thereV D item ≤ 10000 := by
  rw [thereV_R]
  have h1 := thereR_bound D item hl (min D.now.toNat 41)
  omega
theorem lev_bound (D : PBook) (row : List Int) (item : Int) (hl : D.ords.length ≤ 1000) (hr : ∀ z ∈ row, 0 ≤ z ∧ z ≤ 1000000) (k : Nat) : -10000000 - 100000 * (k : Int) ≤ lev D row item k ∧ lev D row item k ≤ 10000 + 1000000 * (k : Int) := by
  induction k with
  | zero => have := thereV_bound D item hl; unfold lev; omega
  | succ k ih =>
    have h1 := dueV_bound D item (D.now + k) hl
    have h2 : 0 ≤ row.getD k 0 ∧ row.getD k 0 ≤ 1000000 := by
      rw [List.getD_eq_getElem?_getD]
      cases h : row[k]? with
      | none => simp
      | some z => exact hr z (List.mem_of_getElem? h)
    have : lev D row item (k+1) = lev D row item k + (row.getD k 0 - dueV D item (D.now + k)) := rfl
    rw [this]; omega

set_option maxHeartbeats 2000000 in
theorem shape11_calls (w : World) (x : Int) :
    Calls Tryz.prog 129 #[.int .i64 x] w (RetV w (.bool (!decide (0 ≤ x ∧ x ≤ 1000000)))) := by
  obtain ⟨u, t1⟩ : ∃ u, decide (0 ≤ x ∧ x ≤ 1000000) = u := ⟨_, rfl⟩
  rw [t1]
  go_enter Tryz.func129, Tryz.ntmps129
  go_wp2_with ((with_reducible refine (pin_calls _ _ _ _ u t1).mono ?_); rintro e w1 ⟨rfl, rfl⟩)
  go_ret
  exact ⟨rfl, Later.refl w⟩

set_option maxHeartbeats 2000000 in
theorem shape1_calls (w : World) (rv : Value) (r : List Int) (h : Sq 1 iCells w rv r) (hl : r.length ≤ 1000) (G : Nat) (hor : Int) (hc : w.cell? ⟨G, 1, none⟩ = some (.int .i64 hor)) :
    Calls Tryz.prog 128 #[rv, .pointer (some ⟨G, 0, none⟩)] w (RetV w (.bool (!rowOk hor r))) := by
  have H := hide h
  obtain ⟨A0, n0, c0, rfl, hn, -, -, -⟩ := h.form
  obtain ⟨u, hu⟩ : ∃ u, rowOk hor r = u := ⟨_, rfl⟩
  obtain ⟨u1, hu1⟩ : ∃ u1, r.any (fun x => !decide (0 ≤ x ∧ x ≤ 1000000)) = u1 := ⟨_, rfl⟩
  have HN := hide hn; have HU1 := hide hu1
  have hn0 : n0 ≤ 1000 := by omega
  have HE : Hid (((n0 : Int) != hor) = false → u = !u1) := hide (fun h => by
    rw [← hu, ← hu1]; unfold rowOk
    rw [bne_eq_false_iff_eq, hn] at h
    rw [decide_eq_true h, Bool.true_and, List.any_eq_not_all_not, Bool.not_not]
    congr 1; funext x; simp)
  have HE2 : Hid (((n0 : Int) != hor) = true → u = false) := hide (fun h => by
    rw [← hu]; unfold rowOk
    rw [bne_iff_ne, hn] at h
    rw [decide_eq_false h, Bool.false_and])
  rw [hu]
  clear h hn hu hu1
  go_enter Tryz.func128, Tryz.ntmps128
  by_cases g : (n0 : Int) = hor
  · have t1 : ((n0 : Int) != hor) = false := by simpa using g
    have HF := hide (HE.out t1)
    clear g
    go_wp2_with fail
    ((with_reducible refine (contI0_calls _ _ r H.out (by have := HN.out; omega) _ ⟨fun _ _ => by kernel_rfl⟩ (fun x => !decide (0 ≤ x ∧ x ≤ 1000000)) (fun W x hW hx => shape11_calls W x) u1 HU1.out).mono ?_); rintro e w1 ⟨rfl, b1⟩)
    go_wp2_with fail
    go_ret
    exact ⟨by rw [HF.out]; first | rfl | simp, b1⟩
  · have t1 : ((n0 : Int) != hor) = true := by simpa using g
    have HF := hide (HE2.out t1)
    clear g
    go_wp2_with fail
    go_ret
    exact ⟨by rw [HF.out]; first | rfl | simp, Later.refl w⟩

set_option maxHeartbeats 4000000 in
theorem plshape_calls (w : World) (A1 A2 A3 A4 : Option Addr) (n1 n2 n3 n4 c1 c2 c3 c4 : Nat) (D : PBook) (h : BookIn w (.slice A1 n1 c1) (.slice A2 n2 c2) (.slice A3 n3 c3) (.slice A4 n4 c4) D) (Aq : Option Addr) (nq cq : Nat) (t : List (List Int)) (hq : GridIn w (.slice Aq nq cq) t) (u : Bool) (hu : shapeB D t = u) :
    Calls Tryz.prog 79 #[.agg #[.slice A1 n1 c1, .int .i64 D.hor, .int .i64 D.now, .slice A2 n2 c2, .slice A3 n3 c3, .slice A4 n4 c4], .slice Aq nq cq] w (RetV w (.bool u)) := by
  have H := hide h; have HU := hide hu; have HQ := hide hq
  obtain ⟨l1, l2, l3, l4⟩ := h.lens
  have L1 := hide l1
  have hn1 : n1 ≤ 1000 := by have := h.il; omega
  have hqn := hq.lenq
  have LQ : Hid (nq = t.length) := hide hqn
  have hnq : nq ≤ 1000 := by have := hq.len; omega
  obtain ⟨u0, hu0⟩ : ∃ u, mayB D = u := ⟨_, rfl⟩
  obtain ⟨u1, hu1⟩ : ∃ u, t.any (fun r => !rowOk D.hor r) = u := ⟨_, rfl⟩
  have HU0 := hide hu0; have HU1 := hide hu1
  clear h hu hq hu0 hu1 l1 l2 l3 l4 hqn
  obtain ⟨W0, hW0⟩ : ∃ W0, W0 = (w.alloc (Obj.cells #[Value.slice A1 n1 c1, Value.int .i64 D.hor, Value.int .i64 D.now, Value.slice A2 n2 c2, Value.slice A3 n3 c3, Value.slice A4 n4 c4] 47)) := ⟨_, rfl⟩
  obtain ⟨hb0, r0, hsz0⟩ := boxes1 w [.slice A1 n1 c1, .int .i64 D.hor, .int .i64 D.now, .slice A2 n2 c2, .slice A3 n3 c3, .slice A4 n4 c4] 47 hW0
  have B0 := hide hb0; have HW0 := hide hW0
  have R0 := hide r0
  clear hb0 hW0 hsz0 r0
  go_enter Tryz.func79, Tryz.ntmps79
  go_upto_region 1 with fail
  rw [← HW0.out]
  have r_d := R0.out.later (Later.refl W0)
  have d0 := r_d.cell (i := 0) rfl; have d1 := r_d.cell (i := 1) rfl; have d2 := r_d.cell (i := 2) rfl; have d3 := r_d.cell (i := 3) rfl; have d4 := r_d.cell (i := 4) rfl; have d5 := r_d.cell (i := 5) rfl
  clear r_d
  go_wp2_with fail
  ((with_reducible refine (plmay_calls _ _ _ _ _ _ _ _ _ _ _ _ _ D (H.out.later B0.out) u0 HU0.out).mono ?_); rintro e w1 ⟨rfl, b1⟩)
  have HL1 := hide b1
  clear b1 d0 d1 d2 d3 d4 d5
  have r_d := R0.out.later HL1.out
  have d0 := r_d.cell (i := 0) rfl; have d1 := r_d.cell (i := 1) rfl; have d2 := r_d.cell (i := 2) rfl; have d3 := r_d.cell (i := 3) rfl; have d4 := r_d.cell (i := 4) rfl; have d5 := r_d.cell (i := 5) rfl
  clear r_d
  cases u0 with
  | false =>
    have HF : Hid (u = false) := hide (by rw [← HU.out]; unfold shapeB; rw [HU0.out]; rfl)
    go_wp2_with fail
    go_ret
    exact ⟨by first | rfl | (rw [HF.out]; rfl), B0.out.trans HL1.out⟩
  | true =>
  by_cases g : nq = n1
  rotate_left
  · have t1 : ((nq : Int) != (n1 : Int)) = true := by rw [bne_iff_ne]; omega
    have t2 : (nq != n1) = true := by rw [bne_iff_ne]; omega
    have HF : Hid (u = false) := hide (by
      rw [← HU.out]; unfold shapeB
      rw [decide_eq_false (by rw [← LQ.out, ← L1.out]; exact g)]; simp)
    go_wp2_with fail
    go_ret
    exact ⟨by first | rfl | (rw [HF.out]; rfl), B0.out.trans HL1.out⟩
  subst g
  have t1 : ((nq : Int) != (nq : Int)) = false := by simp
  go_wp2_with fail
  ((with_reducible refine (contR1_calls _ _ t (HQ.out.later (B0.out.trans HL1.out)).grid (by have := LQ.out; omega) _ ⟨fun _ _ => by kernel_rfl⟩ w.heap.size (fun r => !rowOk D.hor r) (fun W rv r hW hr hm => shape1_calls W rv r hr (HQ.out.lens r hm) w.heap.size D.hor ((R0.out.later (HL1.out.trans hW)).cell rfl)) u1 HU1.out).mono ?_); rintro e w2 ⟨rfl, b2⟩)
  have HF : Hid (u = !u1) := hide (by
    rw [← HU.out, ← HU1.out]; unfold shapeB
    rw [HU0.out, Bool.true_and, decide_eq_true (by rw [← LQ.out, ← L1.out]), Bool.true_and, List.any_eq_not_all_not, Bool.not_not]
    congr 1; funext x; simp)
  have HL2 := hide (HL1.out.trans b2)
  clear b2 d0 d1 d2 d3 d4 d5
  go_wp2_with fail
  go_ret
  exact ⟨by rw [HF.out]; rfl, B0.out.trans HL2.out⟩

end Go.Proofs.YthncinngkfflgaaGreat

/- Plans: what is there behind each period (both). -/
set_option linter.unusedVariables false
set_option linter.unusedSimpArgs false
set_option maxRecDepth 100000
namespace Go.Proofs.YthncinngkfflgaaGreat
open Go.RowKit Go.Shelf
attribute [local go_sem ↓] Go.wp_at_zero Go.wp_at_succ

theorem info_i1 : (Tryz.prog.info? 3).map (fun i => (i.zero, i.size, i.bytes)) = some (some (.int .i64 0), 1, 8) := by kernel_rfl
theorem wpList_append_i {w : World} {ops : Array Oper} {rest : List Oper} {o : Oper} {a : Act} {Q : Exit → Act → World → Prop} (hgd : o.guard = none) (s x : Operand) (ho : o.op = .call { callee := .builtin .append, args := #[s, x], argTypes := #[43, 43] })
    {lo : Nat} {v : Value} {l : List Int} {g : Nat} {z : Int} (hs : a.eval s = v) (hown : w.ownsRow lo 3 1 v l.length (l.flatMap iCells)) (hx : a.eval x = .slice (some ⟨g, 0, none⟩) 1 1) (hrow : Row w g 3 [.int .i64 z]) (hlen : l.length ≤ 3000000000) (hbase : lo ≤ w.heap.size)
    (h : ∀ v' w', w'.ownsRow lo 3 1 v' (l ++ [z]).length ((l ++ [z]).flatMap iCells) → w.grownBy w' v.ownBlock → (v'.ownBlock = v.ownBlock ∨ v'.ownBlock = some w.heap.size) → wpList Tryz.prog ops Q rest (a.put o.dst v') w') : wpList Tryz.prog ops Q (o :: rest) a w := by
  refine wpList_append_src hgd s x _ ho lo 3 _ 1 8 Tryz.underlying43 info_i1 rfl (by omega) (by omega) v l.length _ hs hown _ 1 [.int .i64 z] hx (Src.row hrow rfl (by simp [Value.oneCell'])) (by omega) hbase ?_
  intro v' w' k1 k2 k3
  refine h v' w' ?_ k2 k3
  rw [List.length_append, List.flatMap_append]; exact k1
theorem iCells_len (z : Int) : (iCells z).length = 1 := rfl
/-- what is there, as a list -/
noncomputable def levL (D : PBook) (row : List Int) (item : Int) (n : Nat) : List Int := (List.range n).map fun k => lev D row item (k+1)
theorem levL_succ (D : PBook) (row : List Int) (item : Int) (n : Nat) : levL D row item (n+1) = levL D row item n ++ [lev D row item (n+1)] := by
  unfold levL; rw [List.range_succ, List.map_append]; rfl
theorem levL_len (D : PBook) (row : List Int) (item : Int) (n : Nat) : (levL D row item n).length = n := by unfold levL; simp
theorem now_fit {D : PBook} (h : MayP D) {k : Nat} (hk : k ≤ 1000) : IntKind.i64.wrap (D.now + (k : Int)) = D.now + k := by
  have h1 := h.head.t0; have h2 := h.head.t40
  exact IntWalk.i64_in _ (by omega)
theorem getD_at {l : List Int} {k : Nat} {z : Int} (h : l[k]? = some z) : l.getD k 0 = z := by rw [List.getD_eq_getElem?_getD, h]; rfl

set_option maxHeartbeats 4000000 in
theorem pllevels_calls (w : World) (A1 A2 A3 A4 : Option Addr) (n1 n2 n3 n4 c1 c2 c3 c4 : Nat) (D : PBook) (h : BookIn w (.slice A1 n1 c1) (.slice A2 n2 c2) (.slice A3 n3 c3) (.slice A4 n4 c4) D) (Ar : Option Addr) (nr cr : Nat) (r : List Int) (hr : Sq 1 iCells w (.slice Ar nr cr) r) (hrl : r.length ≤ 1000) (hrz : ∀ z ∈ r, 0 ≤ z ∧ z ≤ 1000000) (item : Int) (hm : MayP D) :
    Calls Tryz.prog 85 #[.agg #[.slice A1 n1 c1, .int .i64 D.hor, .int .i64 D.now, .slice A2 n2 c2, .slice A3 n3 c3, .slice A4 n4 c4], .slice Ar nr cr, .int .i64 item] w (Ret w fun w' v => On w' (fun b => w.heap.size ≤ b) (fun W => Sq 1 iCells W v (levL D r item r.length))) := by
  have H := hide h; have HR := hide hr; have HRZ := hide hrz; have HM := hide hm
  have LR : Hid (nr = r.length) := hide hr.len_
  have hnr : nr ≤ 1000 := by rw [LR.out]; exact hrl
  have hol := h.ol
  have HNW := hide (fun (k : Nat) (hk : k ≤ 1000) => now_fit hm hk)
  have hn0 := hm.head.t0; have hn40 := hm.head.t40
  clear h hr hrz hm hrl
  obtain ⟨W0, hW0⟩ : ∃ W0, W0 = (w.alloc (Obj.cells #[Value.slice A1 n1 c1, Value.int .i64 D.hor, Value.int .i64 D.now, Value.slice A2 n2 c2, Value.slice A3 n3 c3, Value.slice A4 n4 c4] 47)) := ⟨_, rfl⟩
  obtain ⟨hb0, r0, hsz0⟩ := boxes1 w [.slice A1 n1 c1, .int .i64 D.hor, .int .i64 D.now, .slice A2 n2 c2, .slice A3 n3 c3, .slice A4 n4 c4] 47 hW0
  have B0 := hide hb0; have HW0 := hide hW0
  have R0 := hide r0
  clear hb0 hW0 hsz0 r0
  go_enter Tryz.func85, Tryz.ntmps85
  go_upto_region 1 with fail
  rw [← HW0.out]
  have r_d := R0.out.later (Later.refl W0)
  have d0 := r_d.cell (i := 0) rfl; have d1 := r_d.cell (i := 1) rfl; have d2 := r_d.cell (i := 2) rfl; have d3 := r_d.cell (i := 3) rfl; have d4 := r_d.cell (i := 4) rfl; have d5 := r_d.cell (i := 5) rfl
  clear r_d
  go_wp2_with fail
  ((with_reducible refine (plthere2_calls _ _ _ _ _ _ _ _ _ _ _ _ _ D (H.out.later B0.out) item).mono ?_); rintro e w1 ⟨rfl, b1⟩)
  have HL1 := hide b1
  clear b1 d0 d1 d2 d3 d4 d5
  go_wp2_with fail
  go_loopw [7, 8, 16] (fun s o i wr => ∃ j : Nat, j ≤ nr ∧ s = .int .i64 (lev D r item j) ∧ i = .int .i64 (j : Int) ∧ wr.ownsRow w1.heap.size 3 1 o (levL D r item j).length ((levL D r item j).flatMap iCells) ∧ Later w1 wr) (fun _ _ i _ => (nr - intOf i).toNat)
  case atStart => exact ⟨0, by omega, rfl, rfl, World.ownsRow_nil _ _ _ 1, Later.refl _⟩
  case round =>
    obtain ⟨j, hj, rfl, rfl, hown, hL⟩ := hrel
    have HL := hide hL
    have HOWN := hide hown
    clear hL hown
    have r_d := R0.out.later (HL1.out.trans HL.out)
    have d0 := r_d.cell (i := 0) rfl; have d1 := r_d.cell (i := 1) rfl; have d2 := r_d.cell (i := 2) rfl; have d3 := r_d.cell (i := 3) rfl; have d4 := r_d.cell (i := 4) rfl; have d5 := r_d.cell (i := 5) rfl
    clear r_d
    by_cases hjn : j < nr
    · obtain ⟨z, hz⟩ : ∃ z, r[j]? = some z := ⟨r[j]'(by have := LR.out; omega), List.getElem?_eq_getElem _⟩
      obtain ⟨b3, off3, rfl, x2⟩ := (HR.out.later (B0.out.trans (HL1.out.trans HL.out))).at1 hz
      have hzb := HRZ.out z (List.mem_of_getElem? hz)
      have hj0 : (0 : Int) ≤ (j : Int) := by omega
      have hj1 : (j : Int) < nr := by omega
      have hlb := lev_bound D r item hol HRZ.out j
      have hdb := dueV_bound D item (D.now + j) hol
      have hst : lev D r item (j+1) = lev D r item j + (z - dueV D item (D.now + j)) := by
        show lev D r item j + (r.getD j 0 - dueV D item (D.now + j)) = _
        rw [getD_at hz]
      obtain ⟨s, hs⟩ : ∃ s, lev D r item j = s := ⟨_, rfl⟩
      obtain ⟨dv, hd⟩ : ∃ dv, dueV D item (D.now + j) = dv := ⟨_, rfl⟩
      rw [hs] at hlb ⊢
      rw [hs, hd] at hst
      rw [hd] at hdb
      have hlb2 : -200000000 ≤ s ∧ s ≤ 2000000000 := by omega
      have hw0 := HNW.out j (by omega)
      have HST := hide hst; have HD := hide hd; have HJN : Hid (j < nr) := hide hjn
      clear hst hs hd hlb hz
      go_wp2_with fail
      ((with_reducible refine (pldue_calls _ _ _ _ _ _ _ _ _ _ _ _ _ D (H.out.later (B0.out.trans (HL1.out.trans HL.out))) item (D.now + j)).mono ?_); rintro e w2 ⟨rfl, b2⟩)
      rw [HD.out]
      have HL2 := hide (HL.out.trans b2)
      have HOWN2 := hide (ownsRow_later HOWN.out b2)
      clear b2 d0 d1 d2 d3 d4 d5 x2
      have hw1 : IntKind.i64.wrap (z - dv) = z - dv := IntWalk.i64_in _ (by omega)
      have hw2 : IntKind.i64.wrap (s + (z - dv)) = s + (z - dv) := IntWalk.i64_in _ (by omega)
      rw [← HST.out] at hw2
      go_upto_region 7 with fail
      rw [← HST.out]
      go_wp2_with (at_builtin; refine wpList_append_i rfl _ _ rfl rfl (ownsRow_later HOWN2.out ((Later.refl w2).alloc _)) rfl (Row.new w2 3 [.int .i64 (lev D r item (j+1))]) (by rw [levL_len]; omega) (by have := HL2.out.size; rw [World.size_alloc]; omega) ?_; intro v3 w3 k1 k2 k3)
      refine ⟨⟨j+1, by omega, rfl, by go_num, by rw [levL_succ]; exact k1, (HL2.out.alloc _).grown k2 (fun k hk => (World.ownsRow.lt HOWN2.out k hk).1)⟩, by simp [intOf]; omega⟩
    · have hj1 : ¬ (j : Int) < nr := by omega
      obtain rfl : j = nr := by omega
      have HF := hide (On.sq iCells_len HOWN.out)
      go_wp2_with fail
      go_ret
      refine ⟨_, rfl, ?_, B0.out.trans (HL1.out.trans HL.out)⟩
      rw [LR.out] at HF
      exact HF.out.mono (fun b hb _ => by have := (B0.out.trans HL1.out).size; omega)

end Go.Proofs.YthncinngkfflgaaGreat

/- Plans: which may be, period by period (the program). -/
set_option linter.unusedVariables false
set_option linter.unusedSimpArgs false
set_option maxRecDepth 100000
namespace Go.Proofs.YthncinngkfflgaaGreat
open Go.RowKit Go.Shelf
attribute [local go_sem ↓] Go.wp_at_zero Go.wp_at_succ

def qAt (t : List (List Int)) (i k : Nat) : Int := (t.getD i []).getD k 0
noncomputable def fixOk (D : PBook) (t : List (List Int)) (k i : Nat) : Prop := ∀ n, fixedV D i (D.now + k) = some n → n = qAt t i k
def colSum (t : List (List Int)) (k : Nat) : Nat → Int
  | 0 => 0
  | m + 1 => colSum t k m + qAt t m k
noncomputable def freeB (D : PBook) (k : Nat) : Nat → Bool
  | 0 => false
  | m + 1 => freeB D k m || (fixedV D m (D.now + k)).isNone
def periodP (D : PBook) (t : List (List Int)) (k : Nat) : Prop := (∀ i < t.length, fixOk D t k i) ∧ (freeB D k t.length = true → colSum t k t.length ≤ capV D (D.now + k))
structure AllowedP (D : PBook) (t : List (List Int)) : Prop where
  shape : ShapeP D t
  periods : ∀ k : Nat, (k : Int) < D.hor → periodP D t k
  levels : ∀ (i : Nat) r, t[i]? = some r → 0 ≤ lev D r i D.hor.toNat
open Classical in
noncomputable def periodB (D : PBook) (t : List (List Int)) (k : Nat) : Bool := decide (periodP D t k)
open Classical in
noncomputable def allowedB (D : PBook) (t : List (List Int)) : Bool := decide (AllowedP D t)
theorem periodB_iff {D : PBook} {t : List (List Int)} {k : Nat} : periodB D t k = true ↔ periodP D t k := by unfold periodB; simp
theorem allowedB_iff {D : PBook} {t : List (List Int)} : allowedB D t = true ↔ AllowedP D t := by unfold allowedB; simp
theorem qAt_at {t : List (List Int)} {i k : Nat} {r : List Int} {z : Int} (h : t[i]? = some r) (h2 : r[k]? = some z) : qAt t i k = z := by
  unfold qAt; rw [show t.getD i [] = r by rw [List.getD_eq_getElem?_getD, h]; rfl]; exact getD_at h2
theorem colSum_bound {D : PBook} {t : List (List Int)} (h : ShapeP D t) (k m : Nat) (hm : m ≤ t.length) : 0 ≤ colSum t k m ∧ colSum t k m ≤ 1000000 * (m : Int) := by
  induction m with
  | zero => simp [colSum]
  | succ m ih =>
    have h1 := ih (by omega)
    obtain ⟨r, hr⟩ : ∃ r, t[m]? = some r := ⟨t[m], List.getElem?_eq_getElem (by omega)⟩
    have h2 : 0 ≤ qAt t m k ∧ qAt t m k ≤ 1000000 := by
      unfold qAt; rw [show t.getD m [] = r by rw [List.getD_eq_getElem?_getD, hr]; rfl]
      rw [List.getD_eq_getElem?_getD]
      cases hz : r[k]? with
      | none => simp
      | some z => exact (h.rows r (List.mem_of_getElem? hr)).2 z (List.mem_of_getElem? hz)
    have : colSum t k (m+1) = colSum t k m + qAt t m k := rfl
    rw [this]; omega

set_option maxHeartbeats 4000000 in
theorem plperiod_calls (w : World) (A1 A2 A3 A4 : Option Addr) (n1 n2 n3 n4 c1 c2 c3 c4 : Nat) (D : PBook) (h : BookIn w (.slice A1 n1 c1) (.slice A2 n2 c2) (.slice A3 n3 c3) (.slice A4 n4 c4) D) (Aq : Option Addr) (nq cq : Nat) (t : List (List Int)) (hq : GridIn w (.slice Aq nq cq) t) (k : Nat) (hs : ShapeP D t) (hk : (k : Int) < D.hor) (u : Bool) (hu : periodB D t k = u) :
    Calls Tryz.prog 90 #[.agg #[.slice A1 n1 c1, .int .i64 D.hor, .int .i64 D.now, .slice A2 n2 c2, .slice A3 n3 c3, .slice A4 n4 c4], .slice Aq nq cq, .int .i64 (k : Int)] w (RetV w (.bool u)) := by
  have H := hide h; have HU := hide hu; have HQ := hide hq; have HS := hide hs
  have LQ := hide hq.lenq
  have hh := hs.may.head
  have h1 := hh.h1; have h6 := hh.h6; have hn0 := hh.t0; have hn40 := hh.t40; have hn1' := hh.n1; have hn3' := hh.n3
  have hk6 : k < 6 := by
    rcases (by omega : D.items.length = 1 ∨ D.items.length = 2 ∨ D.items.length = 3) with e | e | e <;> rw [e] at h6 <;> omega
  have hnq : nq ≤ 3 := by rw [LQ.out, hs.len]; exact hn3'
  have hw0 : IntKind.i64.wrap (D.now + (k : Int)) = D.now + k := IntWalk.i64_in _ (by omega)
  have HKH : Hid ((k : Int) < D.hor) := hide hk
  have HW0 := hide hw0
  clear h hu hq hs hh h1 h6 hn1' hn3' hk hw0
  obtain ⟨W0, hW0⟩ : ∃ W0, W0 = (w.alloc (Obj.cells #[Value.slice A1 n1 c1, Value.int .i64 D.hor, Value.int .i64 D.now, Value.slice A2 n2 c2, Value.slice A3 n3 c3, Value.slice A4 n4 c4] 47)) := ⟨_, rfl⟩
  obtain ⟨hb0, r0, hsz0⟩ := boxes1 w [.slice A1 n1 c1, .int .i64 D.hor, .int .i64 D.now, .slice A2 n2 c2, .slice A3 n3 c3, .slice A4 n4 c4] 47 hW0
  have B0 := hide hb0; have HW0' := hide hW0
  have R0 := hide r0
  clear hb0 hW0 hsz0 r0
  go_enter Tryz.func90, Tryz.ntmps90
  go_upto_region 1 with fail
  rw [← HW0'.out]
  have r_d := R0.out.later (Later.refl W0)
  have d0 := r_d.cell (i := 0) rfl; have d1 := r_d.cell (i := 1) rfl; have d2 := r_d.cell (i := 2) rfl; have d3 := r_d.cell (i := 3) rfl; have d4 := r_d.cell (i := 4) rfl; have d5 := r_d.cell (i := 5) rfl
  clear r_d
  go_wp2_with fail
  clear d0 d1 d2 d3 d4 d5
  go_loopw [7, 8, 14] (fun s f iv wr => ∃ j : Nat, j ≤ nq ∧ s = .int .i64 (colSum t k j) ∧ f = .bool (freeB D k j) ∧ iv = .int .i64 (j : Int) ∧ Hid (∀ i < j, fixOk D t k i) ∧ Later W0 wr) (fun _ _ iv _ => (nq - intOf iv).toNat)
  case atStart => exact ⟨0, by omega, rfl, rfl, rfl, hide (fun i hi => by omega), Later.refl _⟩
  case round =>
    obtain ⟨j, hj, rfl, rfl, rfl, hpre, hL⟩ := hrel
    have HL := hide hL
    clear hL
    have r_d := R0.out.later HL.out
    have d0 := r_d.cell (i := 0) rfl; have d1 := r_d.cell (i := 1) rfl; have d2 := r_d.cell (i := 2) rfl; have d3 := r_d.cell (i := 3) rfl; have d4 := r_d.cell (i := 4) rfl; have d5 := r_d.cell (i := 5) rfl
    clear r_d
    by_cases hjn : j < nq
    · obtain ⟨r, hr⟩ : ∃ r, t[j]? = some r := ⟨t[j]'(by have := LQ.out; omega), List.getElem?_eq_getElem _⟩
      have hro := HS.out.rows r (List.mem_of_getElem? hr)
      obtain ⟨z, hz⟩ : ∃ z, r[k]? = some z := ⟨r[k]'(by have := HKH.out; omega), List.getElem?_eq_getElem _⟩
      have HQZ := hide (qAt_at hr hz)
      have hzb := hro.2 z (List.mem_of_getElem? hz)
      have HR := hide hr; have HZ := hide hz
      have hj0 : (0 : Int) ≤ (j : Int) := by omega
      have hj1 : (j : Int) < nq := by omega
      have hcb := colSum_bound HS.out k j (by have := LQ.out; omega)
      have HST : Hid (colSum t k (j+1) = colSum t k j + z) := hide (by show colSum t k j + qAt t j k = _; rw [HQZ.out])
      have HFR : Hid (freeB D k (j+1) = (freeB D k j || (fixedV D j (D.now + k)).isNone)) := hide rfl
      obtain ⟨fo, hfo⟩ : ∃ f, fixedV D j (D.now + k) = f := ⟨_, rfl⟩
      obtain ⟨s, hs⟩ : ∃ s, colSum t k j = s := ⟨_, rfl⟩
      obtain ⟨f, hf⟩ : ∃ f, freeB D k j = f := ⟨_, rfl⟩
      rw [hs] at HST hcb ⊢
      rw [hf, hfo] at HFR
      rw [hf]
      have hsb : 0 ≤ s ∧ s ≤ 3000000 := by omega
      have HFO := hide hfo
      clear hr hz hro hcb hfo hs hf
      have hw0 := HW0.out
      go_wp2_with fail
      ((with_reducible refine (plfixed_calls _ _ _ _ _ _ _ _ _ _ _ _ _ D (H.out.later (B0.out.trans HL.out)) j (D.now + k)).mono ?_); rintro e w1 ⟨rfl, b1⟩)
      rw [HFO.out]
      have HL1 := hide (HL.out.trans b1)
      clear b1 d0 d1 d2 d3 d4 d5
      obtain ⟨b1, off1, Ar, nr, cr, rfl, x1, hrow⟩ := (HQ.out.later (B0.out.trans HL1.out)).grid.at_ HR.out
      obtain ⟨b3, off3, rfl, x2⟩ := hrow.at1 HZ.out
      have hkr : k < nr := by have := hrow.len_; have h5 := HS.out.rows r (List.mem_of_getElem? HR.out); have := HKH.out; omega
      have hk1 : (k : Int) < nr := by omega
      have hk0 : (0 : Int) ≤ (k : Int) := by omega
      have hw1 : IntKind.i64.wrap (s + z) = s + z := IntWalk.i64_in _ (by omega)
      clear hrow
      cases fo with
      | none =>
        have HFR2 : Hid (freeB D k (j+1) = true) := hide (by rw [HFR.out]; simp)
        have HN : Hid (∀ i < j + 1, fixOk D t k i) := hide (fun i hi => by
          by_cases hij : i < j
          · exact hpre.out i hij
          · obtain rfl : i = j := by omega
            intro n hn; rw [HFO.out] at hn; cases hn)
        cases f <;>
        (go_wp2_with fail
         exact ⟨⟨j+1, by omega, by rw [HST.out], by rw [HFR2.out], by go_num, HN, HL1.out⟩, by simp [intOf]; omega⟩)
      | some n =>
        have HFR2 : Hid (freeB D k (j+1) = f) := hide (by rw [HFR.out]; simp)
        by_cases g : n = z
        · have t1 : (n != z) = false := by simpa using g
          have HN : Hid (∀ i < j + 1, fixOk D t k i) := hide (fun i hi => by
            by_cases hij : i < j
            · exact hpre.out i hij
            · obtain rfl : i = j := by omega
              intro m hm; rw [HFO.out] at hm; injection hm with hm; rw [HQZ.out, ← hm]; exact g)
          clear g
          cases f <;>
          (go_wp2_with fail
           exact ⟨⟨j+1, by omega, by rw [HST.out], by rw [HFR2.out], by go_num, HN, HL1.out⟩, by simp [intOf]; omega⟩)
        · have t1 : (n != z) = true := by simpa using g
          have HF : Hid (u = false) := hide (Bool.eq_false_iff.2 (fun h => by
            have h5 := (periodB_iff.1 (HU.out.trans h)).1 j (by have := LQ.out; omega) n HFO.out
            rw [HQZ.out] at h5; exact g h5))
          clear g
          go_wp2_with fail
          go_ret
          exact ⟨by first | rfl | (rw [HF.out]; rfl), B0.out.trans HL1.out⟩
    · obtain rfl : j = nq := by omega
      have hw0 := HW0.out
      have hj1 : ¬ (j : Int) < j := by omega
      obtain ⟨s, hs⟩ : ∃ s, colSum t k j = s := ⟨_, rfl⟩
      obtain ⟨f, hf⟩ : ∃ f, freeB D k j = f := ⟨_, rfl⟩
      rw [hs, hf]
      have HP : Hid (u = true ↔ (f = true → s ≤ capV D (D.now + k))) := hide (by
        rw [← HU.out, periodB_iff]; unfold periodP
        rw [← LQ.out, hs, hf]
        exact ⟨fun h => h.2, fun h => ⟨hpre.out, h⟩⟩)
      clear hs hf hpre
      cases f with
      | false =>
        have HF : Hid (u = true) := hide (HP.out.2 (fun h => by cases h))
        go_wp2_with fail
        go_ret
        exact ⟨by first | rfl | (rw [HF.out]; rfl), B0.out.trans HL.out⟩
      | true =>
        obtain ⟨cv, hcv⟩ : ∃ cv, capV D (D.now + k) = cv := ⟨_, rfl⟩
        have HCV := hide hcv
        clear hcv
        have HF : Hid (decide (s ≤ cv) = u) := hide (by
          have h5 := HP.out
          rw [HCV.out] at h5
          rw [Bool.eq_iff_iff, h5, decide_eq_true_iff]; simp)
        go_wp2_with fail
        ((with_reducible refine (plcap_calls _ _ _ _ _ _ _ _ _ _ _ _ _ D (H.out.later (B0.out.trans HL.out)) (D.now + k)).mono ?_); rintro e w1 ⟨rfl, b1⟩)
        rw [HCV.out]
        have HL1 := hide (HL.out.trans b1)
        clear b1
        go_wp2_with fail
        go_ret
        exact ⟨by rw [← HF.out]; rfl, B0.out.trans HL1.out⟩

set_option maxHeartbeats 8000000 in
theorem plallowed_calls (w : World) (A1 A2 A3 A4 : Option Addr) (n1 n2 n3 n4 c1 c2 c3 c4 : Nat) (D : PBook) (h : BookIn w (.slice A1 n1 c1) (.slice A2 n2 c2) (.slice A3 n3 c3) (.slice A4 n4 c4) D) (Aq : Option Addr) (nq cq : Nat) (t : List (List Int)) (hq : GridIn w (.slice Aq nq cq) t) (u : Bool) (hu : allowedB D t = u) :
    Calls Tryz.prog 37 #[.agg #[.slice A1 n1 c1, .int .i64 D.hor, .int .i64 D.now, .slice A2 n2 c2, .slice A3 n3 c3, .slice A4 n4 c4], .slice Aq nq cq] w (RetV w (.bool u)) := by
  have H := hide h; have HU := hide hu; have HQ := hide hq
  have LQ := hide hq.lenq
  have hnq : nq ≤ 1000 := by have := hq.lenq; have := hq.len; omega
  have hhf := h.hfit
  unfold IFit at hhf
  obtain ⟨u0, hu0⟩ : ∃ u, shapeB D t = u := ⟨_, rfl⟩
  have HU0 := hide hu0
  clear h hu hq hu0
  obtain ⟨W0, hW0⟩ : ∃ W0, W0 = (w.alloc (Obj.cells #[Value.slice A1 n1 c1, Value.int .i64 D.hor, Value.int .i64 D.now, Value.slice A2 n2 c2, Value.slice A3 n3 c3, Value.slice A4 n4 c4] 47)) := ⟨_, rfl⟩
  obtain ⟨hb0, r0, hsz0⟩ := boxes1 w [.slice A1 n1 c1, .int .i64 D.hor, .int .i64 D.now, .slice A2 n2 c2, .slice A3 n3 c3, .slice A4 n4 c4] 47 hW0
  have B0 := hide hb0; have HW0 := hide hW0
  have R0 := hide r0
  clear hb0 hW0 hsz0 r0
  go_enter Tryz.func37, Tryz.ntmps37
  go_upto_region 1 with fail
  rw [← HW0.out]
  have r_d := R0.out.later (Later.refl W0)
  have d0 := r_d.cell (i := 0) rfl; have d1 := r_d.cell (i := 1) rfl; have d2 := r_d.cell (i := 2) rfl; have d3 := r_d.cell (i := 3) rfl; have d4 := r_d.cell (i := 4) rfl; have d5 := r_d.cell (i := 5) rfl
  clear r_d
  go_wp2_with fail
  ((with_reducible refine (plshape_calls _ _ _ _ _ _ _ _ _ _ _ _ _ D (H.out.later B0.out) _ _ _ t (HQ.out.later B0.out) u0 HU0.out).mono ?_); rintro e w1 ⟨rfl, b1⟩)
  have HL1 := hide b1
  clear b1 d0 d1 d2 d3 d4 d5
  have r_d := R0.out.later HL1.out
  have d0 := r_d.cell (i := 0) rfl; have d1 := r_d.cell (i := 1) rfl; have d2 := r_d.cell (i := 2) rfl; have d3 := r_d.cell (i := 3) rfl; have d4 := r_d.cell (i := 4) rfl; have d5 := r_d.cell (i := 5) rfl
  clear r_d
  cases u0 with
  | false =>
    have HF : Hid (u = false) := hide (Bool.eq_false_iff.2 (fun h => by
      have h5 := shapeB_iff.2 (allowedB_iff.1 (HU.out.trans h)).shape
      rw [HU0.out] at h5; cases h5))
    go_wp2_with fail
    go_ret
    exact ⟨by first | rfl | (rw [HF.out]; rfl), B0.out.trans HL1.out⟩
  | true =>
  have HS := hide (shapeB_iff.1 HU0.out)
  have hh1 := HS.out.may.head.h1
  obtain ⟨hz, hhz⟩ : ∃ m : Nat, (m : Int) = D.hor := ⟨D.hor.toNat, by omega⟩
  have HHZ := hide hhz
  have hz6 : hz ≤ 6 := by
    have h6 := HS.out.may.head.h6; have := HS.out.may.head.n1; have := HS.out.may.head.n3
    rcases (by omega : D.items.length = 1 ∨ D.items.length = 2 ∨ D.items.length = 3) with e | e | e <;> rw [e] at h6 <;> omega
  have hz1 : 1 ≤ hz := by omega
  go_wp2_with fail
  clear d0 d1 d2 d3 d4 d5
  go_loopw [14] (fun i wr => ∃ j : Nat, j ≤ hz ∧ i = .int .i64 (j : Int) ∧ Hid (∀ k < j, periodP D t k) ∧ Later w1 wr) (fun i _ => (hz - intOf i).toNat)
  case atStart => exact ⟨0, by omega, rfl, hide fun i hi => by omega, Later.refl _⟩
  case round =>
    obtain ⟨j, hj, rfl, hpre, hL⟩ := hrel
    have HL := hide hL
    clear hL
    have r_d := R0.out.later (HL1.out.trans HL.out)
    have d0 := r_d.cell (i := 0) rfl; have d1 := r_d.cell (i := 1) rfl; have d2 := r_d.cell (i := 2) rfl; have d3 := r_d.cell (i := 3) rfl; have d4 := r_d.cell (i := 4) rfl; have d5 := r_d.cell (i := 5) rfl
    clear r_d
    by_cases hjn : j < hz
    · have hj1 : (j : Int) < D.hor := by omega
      have t1 : decide ((j : Int) < D.hor) = true := by simpa using hj1
      obtain ⟨u1, hu1⟩ : ∃ u, periodB D t j = u := ⟨_, rfl⟩
      have HU1 := hide hu1
      have HJ1 : Hid ((j : Int) < D.hor) := hide hj1
      clear hu1
      go_wp2_with fail
      ((with_reducible refine (plperiod_calls _ _ _ _ _ _ _ _ _ _ _ _ _ D (H.out.later (B0.out.trans (HL1.out.trans HL.out))) _ _ _ t (HQ.out.later (B0.out.trans (HL1.out.trans HL.out))) j HS.out HJ1.out u1 HU1.out).mono ?_); rintro e w2 ⟨rfl, b2⟩)
      have HL2 := hide (HL.out.trans b2)
      clear b2 d0 d1 d2 d3 d4 d5
      cases u1 with
      | false =>
        have HF : Hid (u = false) := hide (Bool.eq_false_iff.2 (fun h => by
          have h5 := periodB_iff.2 ((allowedB_iff.1 (HU.out.trans h)).periods j HJ1.out)
          rw [HU1.out] at h5; cases h5))
        go_wp2_with fail
        go_ret
        exact ⟨by first | rfl | (rw [HF.out]; rfl), B0.out.trans (HL1.out.trans HL2.out)⟩
      | true =>
        have HN : Hid (∀ k < j + 1, periodP D t k) := hide (fun k hk => by
          by_cases hkj : k < j
          · exact hpre.out k hkj
          · obtain rfl : k = j := by omega
            exact periodB_iff.1 HU1.out)
        go_wp2_with fail
        exact ⟨⟨j+1, by omega, by go_num, HN, HL2.out⟩, by simp [intOf]; omega⟩
    · obtain rfl : j = hz := by omega
      have hj1 : ¬ (j : Int) < D.hor := by omega
      have t1 : decide ((j : Int) < D.hor) = false := by simpa using hj1
      have HPER := hide hpre.out
      clear hpre
      go_wp2_with fail
      clear d0 d1 d2 d3 d4 d5 hj1 t1 hjn hj
      have HZJ : Hid (D.hor.toNat = j) := hide (by omega)
      obtain ⟨hz, rfl⟩ : ∃ hz, hz = j := ⟨_, rfl⟩
      go_loopw [25] (fun i wr => ∃ j : Nat, j ≤ nq ∧ i = .int .i64 (j : Int) ∧ Hid (∀ (i : Nat) r, i < j → t[i]? = some r → 0 ≤ lev D r i D.hor.toNat) ∧ Later w1 wr) (fun i _ => (nq - intOf i).toNat)
      case atStart => exact ⟨0, by omega, rfl, hide fun i r hi => by omega, HL.out⟩
      case round =>
        obtain ⟨j, hj, rfl, hpre2, hLx⟩ := hrel
        have HLX := hide hLx
        clear hLx
        by_cases hjn : j < nq
        · obtain ⟨r, hr⟩ : ∃ r, t[j]? = some r := ⟨t[j]'(by have := LQ.out; omega), List.getElem?_eq_getElem _⟩
          have HR := hide hr
          obtain ⟨b1, off1, Ar, nr, cr, rfl, x1, hrow⟩ := (HQ.out.later (B0.out.trans (HL1.out.trans HLX.out))).grid.at_ hr
          have hj0 : (0 : Int) ≤ (j : Int) := by omega
          have hj1 : (j : Int) < nq := by omega
          have HRL : Hid (r.length = hz) := hide (by have := (HS.out.rows r (List.mem_of_getElem? hr)).1; have := HHZ.out; omega)
          obtain ⟨lv, hlv⟩ : ∃ lv, lev D r j D.hor.toNat = lv := ⟨_, rfl⟩
          have HLV := hide hlv
          have HLAST : Hid ((levL D r j r.length)[hz - 1]? = some lv) := hide (by
            rw [HRL.out]; unfold levL
            rw [List.getElem?_map, List.getElem?_range (by omega), Option.map_some, show hz - 1 + 1 = hz by omega, ← HZJ.out, HLV.out])
          have hw1 : IntKind.i64.wrap (D.hor - 1) = ((hz - 1 : Nat) : Int) := by rw [IntWalk.i64_in _ (by omega)]; omega
          have hw2 : (0 : Int) ≤ ((hz - 1 : Nat) : Int) := by omega
          have hw3 : ((hz - 1 : Nat) : Int) < hz := by omega
          have hw5 : ((hz - 1 : Nat) : Int) < D.hor := by omega
          have hw4 : (((hz - 1 : Nat) : Int)).toNat = hz - 1 := by omega
          clear hr hlv
          obtain ⟨u9, t9⟩ : ∃ u9, decide (lv < 0) = u9 := ⟨_, rfl⟩
          have hrx := R0.out.later (HL1.out.trans HLX.out).drew
          have HT1 : Hid (∀ w', Later wr.drew w' → w'.cell? ⟨w.heap.size, 0, none⟩ = some (.slice A1 n1 c1) ∧ w'.cell? ⟨w.heap.size, 1, none⟩ = some (.int .i64 D.hor) ∧ w'.cell? ⟨w.heap.size, 2, none⟩ = some (.int .i64 D.now) ∧ w'.cell? ⟨w.heap.size, 3, none⟩ = some (.slice A2 n2 c2) ∧ w'.cell? ⟨w.heap.size, 4, none⟩ = some (.slice A3 n3 c3) ∧ w'.cell? ⟨w.heap.size, 5, none⟩ = some (.slice A4 n4 c4)) := hide fun w' hb => ⟨(hrx.later hb).cell rfl, (hrx.later hb).cell rfl, (hrx.later hb).cell rfl, (hrx.later hb).cell rfl, (hrx.later hb).cell rfl, (hrx.later hb).cell rfl⟩
          clear hrx
          have hmx : Tryz.prog.follows .mixedOrders = true := by kernel_rfl
          go_upto_region 12 with fail
          refine wp_region_N (fun w' => w'.cell? ⟨w.heap.size, 0, none⟩ = some (.slice A1 n1 c1) ∧ w'.cell? ⟨w.heap.size, 1, none⟩ = some (.int .i64 D.hor) ∧ w'.cell? ⟨w.heap.size, 2, none⟩ = some (.int .i64 D.now) ∧ w'.cell? ⟨w.heap.size, 3, none⟩ = some (.slice A2 n2 c2) ∧ w'.cell? ⟨w.heap.size, 4, none⟩ = some (.slice A3 n3 c3) ∧ w'.cell? ⟨w.heap.size, 5, none⟩ = some (.slice A4 n4 c4)) [] hmx (HT1.out _ (Later.refl _)) (fun hHeld => ?_)
          refine wpAnyN_takeD (some 30) (by rfl) (i := 0) (oi := _) (v := ?_) rfl (by kernel_rfl) (by kernel_rfl) (by kernel_rfl) (by kernel_rfl) (fun _ _ _ h => h) (Or.inl ⟨by rfl, ?_⟩) (by assumption) ?_
          rotate_left
          · intro w hSw; (try dsimp only at hSw); go_simp
            first | done | with_reducible rfl
          try simp only [Act.put, List.setIfInBounds_toArray, List.set_cons_zero, List.set_cons_succ]
          refine wpAnyN_takeD (some 31) (by rfl) (i := 1) (oi := _) (v := ?_) rfl (by kernel_rfl) (by kernel_rfl) (by kernel_rfl) (by kernel_rfl) (fun _ _ _ h => h) (Or.inl ⟨by rfl, ?_⟩) (by assumption) ?_
          rotate_left
          · intro w hSw; (try dsimp only at hSw); go_simp
            first | done | with_reducible rfl
          try simp only [Act.put, List.setIfInBounds_toArray, List.set_cons_zero, List.set_cons_succ]
          refine wpAnyN_takeD (some 32) (by rfl) (i := 2) (oi := _) (v := ?_) rfl (by kernel_rfl) (by kernel_rfl) (by kernel_rfl) (by kernel_rfl) (fun _ _ _ h => h) (Or.inl ⟨by rfl, ?_⟩) (by assumption) ?_
          rotate_left
          · intro w hSw; (try dsimp only at hSw); go_simp
            first | done | with_reducible rfl
          try simp only [Act.put, List.setIfInBounds_toArray, List.set_cons_zero, List.set_cons_succ]
          refine wpAnyN_takeD (some 34) (by rfl) (i := 4) (oi := _) (v := ?_) rfl (by kernel_rfl) (by kernel_rfl) (by kernel_rfl) (by kernel_rfl) (fun _ _ _ h => h) (Or.inl ⟨by rfl, ?_⟩) (by assumption) ?_
          rotate_left
          · intro w hSw; (try dsimp only at hSw); go_simp
            first | done | with_reducible rfl
          try simp only [Act.put, List.setIfInBounds_toArray, List.set_cons_zero, List.set_cons_succ]
          refine wpAnyN_takeD (some 35) (by rfl) (i := 5) (oi := _) (v := ?_) rfl (by kernel_rfl) (by kernel_rfl) (by kernel_rfl) (by kernel_rfl) (fun _ _ _ h => h) (Or.inl ⟨by rfl, ?_⟩) (by assumption) ?_
          rotate_left
          · intro w hSw; (try dsimp only at hSw); go_simp
            first | done | with_reducible rfl
          try simp only [Act.put, List.setIfInBounds_toArray, List.set_cons_zero, List.set_cons_succ]
          refine wpAnyN_takeD (some 36) (by rfl) (i := 6) (oi := _) (v := ?_) rfl (by kernel_rfl) (by kernel_rfl) (by kernel_rfl) (by kernel_rfl) (fun _ _ _ h => h) (Or.inl ⟨by rfl, ?_⟩) (by assumption) ?_
          rotate_left
          · intro w hSw; (try dsimp only at hSw); go_simp
            first | done | with_reducible rfl
          try simp only [Act.put, List.setIfInBounds_toArray, List.set_cons_zero, List.set_cons_succ]
          refine wpAnyN_ready (rs := [3]) (by kernel_rfl) (by simp) ?_
          refine AllReadyN.held rfl (by rfl) (fun K hK => ?_) AllReadyN.nil
          go_simp
          refine (pllevels_calls _ _ _ _ _ _ _ _ _ _ _ _ _ D (H.out.later (B0.out.trans (HL1.out.trans HLX.out.drew))) _ _ _ r (hrow.later (Later.refl wr).drew) (HQ.out.lens r (List.mem_of_getElem? HR.out)) (HS.out.rows r (List.mem_of_getElem? HR.out)).2 j HS.out.may).mono ?_
          rintro e w2 ⟨v2, rfl, o2, b2⟩
          have o3 := o2.now
          obtain ⟨Al, nl, cl, rfl, hnl, -, -, o4⟩ := o3.form
          rw [levL_len, HRL.out] at hnl
          subst hnl
          obtain ⟨b5, off5, rfl, y1⟩ := o4.at1 (HLAST.out)
          refine hK.out _ _ ?_ (fun hHeld => ?_)
          · exact HT1.out _ b2
          clear hK K
          try simp only [Act.put, List.setIfInBounds_toArray, List.set_cons_zero, List.set_cons_succ]
          refine wpAnyN_takeD (some 37) (by rfl) (i := 7) (oi := _) (v := ?_) rfl (by kernel_rfl) (by kernel_rfl) (by kernel_rfl) (by kernel_rfl) (fun _ _ _ h => h) (Or.inl ⟨by rfl, ?_⟩) (by assumption) ?_
          rotate_left
          · intro w hSw; (try dsimp only at hSw); go_simp
            first | done | with_reducible rfl
          try simp only [Act.put, List.setIfInBounds_toArray, List.set_cons_zero, List.set_cons_succ]
          refine wpAnyN_ready (rs := [8]) (by kernel_rfl) (by simp) ?_
          refine AllReadyN.held rfl (by rfl) (fun K hK => ?_) AllReadyN.nil
          go_simp
          refine hK.out _ _ ?_ (fun hHeld => ?_)
          · exact HT1.out _ b2
          clear hK K
          try simp only [Act.put, List.setIfInBounds_toArray, List.set_cons_zero, List.set_cons_succ]
          refine wpAnyN_takeD (some 39) (by rfl) (i := 9) (oi := _) (v := ?_) rfl (by kernel_rfl) (by kernel_rfl) (by kernel_rfl) (by kernel_rfl) (fun _ _ _ h => h) (Or.inl ⟨by rfl, ?_⟩) (by assumption) ?_
          rotate_left
          · intro w hSw; (try dsimp only at hSw); go_simp
            first | done | with_reducible rfl
          try simp only [Act.put, List.setIfInBounds_toArray, List.set_cons_zero, List.set_cons_succ]
          refine wpAnyN_done (by kernel_rfl) ?_ _
          clear hHeld
          have HL2 := hide (HLX.out.drew.trans b2)
          clear o2 o3 o4 y1 b2
          cases u9 with
          | true =>
            have HF : Hid (u = false) := hide (Bool.eq_false_iff.2 (fun h => by
              have h5 := (allowedB_iff.1 (HU.out.trans h)).levels j r HR.out
              have := HLV.out
              rw [decide_eq_true_iff] at t9; omega))
            go_wp2_with fail
            go_ret
            exact ⟨by first | rfl | (rw [HF.out]; rfl), B0.out.trans (HL1.out.trans HL2.out)⟩
          | false =>
            have HN : Hid (∀ (i : Nat) r, i < j + 1 → t[i]? = some r → 0 ≤ lev D r i D.hor.toNat) := hide (fun i y hi hy => by
              by_cases hij : i < j
              · exact hpre2.out i y hij hy
              · obtain rfl : i = j := by omega
                rw [HR.out] at hy; injection hy with hy
                rw [← hy, HLV.out]
                rw [decide_eq_false_iff_not] at t9; omega)
            go_wp2_with fail
            exact ⟨⟨j+1, by omega, by go_num, HN, HL2.out⟩, by simp [intOf]; omega⟩
        · have HF : Hid (u = true) := hide (by
            rw [← HU.out, allowedB_iff]
            exact ⟨HS.out, fun k hk => HPER.out k (by have := HHZ.out; omega), fun i r hi => hpre2.out i r (by have := (List.getElem?_eq_some_iff.1 hi).1; have := LQ.out; omega) hi⟩)
          have hj1 : ¬ (j : Int) < nq := by omega
          clear hpre2
          go_wp2_with fail
          go_ret
          exact ⟨by first | rfl | (rw [HF.out]; rfl), B0.out.trans (HL1.out.trans HLX.out)⟩
end Go.Proofs.YthncinngkfflgaaGreat

/- Plans: which may be (the reference). -/
set_option linter.unusedVariables false
set_option linter.unusedSimpArgs false
set_option maxRecDepth 100000
namespace Go.Proofs.YthncinngkfflgaaGreat
open Go.RowKit Go.Shelf
attribute [local go_sem ↓] Go.wp_at_zero Go.wp_at_succ

end Go.Proofs.YthncinngkfflgaaGreat
