import Derived.Test.YtbhohnhkephefaaGreatM34
import Derived.Test.YtbhohnhkephefaaGreatM17
import Derived.Test.YtbhohnhkephefaaGreatM36

/- Proofs of standard forms: what they tell, with no program in sight. -/
set_option linter.unusedVariables false
set_option linter.unusedSimpArgs false
set_option maxRecDepth 100000
namespace Go.Proofs.YtbhohnhkephefaaGreat

theorem dotL_nil (z : List Rat) : dotL [] z = 0 := by unfold dotL; rw [List.zipWith_nil_left]; rfl
theorem dotL_cons (x y : Rat) (a b : List Rat) : dotL (x :: a) (y :: b) = x * y + dotL a b := by
  unfold dotL; rw [List.zipWith_cons_cons, sumR_cons]
theorem axpy_cons (x y : Rat) (a b : List Rat) (q : Rat) : axpyL (x :: a) (y :: b) q = (x + q * y) :: axpyL a b q := rfl
theorem dotL_add : ∀ (a b z : List Rat) (q : Rat), a.length = b.length → dotL (axpyL a b q) z = dotL a z + q * dotL b z := by
  intro a
  induction a with
  | nil =>
    intro b z q h
    cases b with
    | nil => rw [show axpyL [] [] q = [] from rfl, dotL_nil]; grind
    | cons y b => simp at h
  | cons x a ih =>
    intro b z q h
    cases b with
    | nil => simp at h
    | cons y b =>
      have hl : a.length = b.length := by simpa using h
      cases z with
      | nil => rw [dotL_comm _ [], dotL_comm _ [], dotL_comm _ [], dotL_nil, dotL_nil, dotL_nil]; grind
      | cons z zs => rw [axpy_cons, dotL_cons, dotL_cons, dotL_cons, ih b zs q hl]; grind
theorem dotL_zeros (n : Nat) (z : List Rat) : dotL (List.replicate n 0) z = 0 := by
  induction n generalizing z with
  | zero => exact dotL_nil z
  | succ n ih =>
    cases z with
    | nil => rw [dotL_comm, dotL_nil]
    | cons x z => rw [List.replicate_succ, dotL_cons, ih]; grind
theorem dual_fold (z : List Rat) (n : Nat) : ∀ (A : List (List Rat)) (u b o : List Rat), u.length = A.length → b.length = A.length → (∀ r ∈ A, r.length = n) → o.length = n → comesB A z b = true →
    dotL ((List.zip A u).foldl (fun o p => axpyL o p.1 p.2) o) z = dotL o z + dotL b u := by
  intro A
  induction A with
  | nil =>
    intro u b o h1 h2 h3 h4 h5
    obtain rfl : u = [] := List.eq_nil_of_length_eq_zero (by simpa using h1)
    obtain rfl : b = [] := List.eq_nil_of_length_eq_zero (by simpa using h2)
    rw [dotL_nil]; simp only [List.zip_nil_left, List.foldl_nil]; grind
  | cons r A ih =>
    intro u b o h1 h2 h3 h4 h5
    cases u with
    | nil => simp at h1
    | cons x u =>
      cases b with
      | nil => simp at h2
      | cons q b =>
        have hr := h3 r (by simp)
        unfold comesB at h5
        rw [List.zip_cons_cons, List.all_cons, Bool.and_eq_true, decide_eq_true_eq] at h5
        rw [List.zip_cons_cons, List.foldl_cons, ih u b (axpyL o r x) (by simpa using h1) (by simpa using h2) (fun s hs => h3 s (by simp [hs])) (by unfold axpyL; rw [List.length_zipWith, h4, hr, Nat.min_self]) (by unfold comesB; exact h5.2),
          dotL_add o r z x (by rw [h4, hr]), dotL_cons]
        have := h5.1
        simp only at this
        rw [this]; grind
theorem duality {A : List (List Rat)} {u b z : List Rat} {n : Nat} (h1 : u.length = A.length) (h2 : b.length = A.length) (h3 : ∀ r ∈ A, r.length = n) (h5 : comesB A z b = true) : dotL (colsL A u n) z = dotL b u := by
  unfold colsL
  rw [dual_fold z n A u b _ h1 h2 h3 (by simp) h5, dotL_zeros]; grind
theorem dot_le : ∀ (l c z : List Rat), l.length = c.length → (∀ x ∈ axpyL l c (-1), ¬ 0 < x) → (∀ x ∈ z, ¬ x < 0) → dotL l z ≤ dotL c z := by
  intro l
  induction l with
  | nil =>
    intro c z h1 _ _
    obtain rfl : c = [] := List.eq_nil_of_length_eq_zero (by simpa using h1.symm)
    exact Rat.le_refl
  | cons x l ih =>
    intro c z h1 h2 h3
    cases c with
    | nil => simp at h1
    | cons y c =>
      cases z with
      | nil => rw [dotL_comm _ [], dotL_comm _ [], dotL_nil, dotL_nil]; exact Rat.le_refl
      | cons z zs =>
        rw [axpy_cons] at h2
        have k1 := h2 _ (List.mem_cons_self ..)
        have k2 := h3 z (List.mem_cons_self ..)
        have k3 := ih c zs (by simpa using h1) (fun q hq => h2 q (List.mem_cons_of_mem _ hq)) (fun q hq => h3 q (List.mem_cons_of_mem _ hq))
        have k4 : 0 ≤ (y - x) * z := Rat.mul_nonneg (by grind) (by grind)
        rw [dotL_cons, dotL_cons]
        grind
theorem underB_parts {A : List (List Rat)} {B C u c : List Rat} {ok : Bool} (h : underB A B C ok u c = true) : rightB A B C ok = true ∧ u.length = A.length ∧ ∀ x ∈ axpyL (colsL A u C.length) c (-1), ¬ 0 < x := by
  unfold underB colOk at h
  simp only [Bool.and_eq_true, decide_eq_true_eq, Bool.not_eq_true', List.any_eq_false] at h
  exact ⟨h.1.1, h.1.2, fun x hx => h.2 x hx⟩
/-- what is under costs bounds what numbers cost -/
theorem weak {A : List (List Rat)} {B C u c z b : List Rat} {ok : Bool} (hu : underB A B C ok u c = true) (hc : C.length = c.length) (hb : b.length = A.length) (hz : ∀ x ∈ z, ¬ x < 0) (hz2 : comesB A z b = true) : dotL b u ≤ dotL c z := by
  obtain ⟨h1, h2, h3⟩ := underB_parts hu
  have hr := (rightB_facts h1).2.2.2.1
  rw [← duality (n := C.length) h2 hb hr hz2]
  exact dot_le _ _ _ (by rw [colsL_len hr, hc]) h3 hz
section
variable {A : List (List Rat)} {B C y u z r : List Rat} {ok : Bool}
theorem none_no (h : noneB A B C ok u = true) (hz : fulfB A B C ok z = true) : False := by
  unfold noneB at h
  rw [Bool.and_eq_true, decide_eq_true_eq] at h
  obtain ⟨k1, k2, k3, k4⟩ := fulfB_facts hz
  have := weak h.1 (by simp) (rightB_facts k1).2.2.1 k3 k4
  rw [dotL_zeros] at this
  grind
theorem bestB_parts (h : bestB A B C ok y u = true) : fulfB A B C ok y = true ∧ underB A B C ok u C = true ∧ dotL B u = dotL C y := by
  unfold bestB at h
  simpa only [Bool.and_eq_true, decide_eq_true_eq] using h
theorem best_least (h : bestB A B C ok y u = true) (hz : fulfB A B C ok z = true) : dotL C y ≤ dotL C z := by
  obtain ⟨h1, h2, h3⟩ := bestB_parts h
  obtain ⟨k1, k2, k3, k4⟩ := fulfB_facts hz
  rw [← h3]
  exact weak h2 rfl (rightB_facts k1).2.2.1 k3 k4
theorem endlessB_parts (h : endlessB A B C ok y r = true) : fulfB A B C ok y = true ∧ r.length = C.length ∧ (∀ x ∈ r, ¬ x < 0) ∧ comesB A r (List.replicate A.length 0) = true ∧ dotL C r < 0 := by
  unfold endlessB at h
  simp only [Bool.and_eq_true, decide_eq_true_eq, Bool.not_eq_true', List.any_eq_false] at h
  exact ⟨h.1, h.2.1, fun x hx => h.2.2.1 x hx, h.2.2.2⟩
theorem best_ends (h : bestB A B C ok y u = true) (hz : endlessB A B C ok z r = true) : False := by
  obtain ⟨h1, h2, h3⟩ := bestB_parts h
  obtain ⟨k1, k2, k3, k4, k5⟩ := endlessB_parts hz
  have := weak h2 rfl (by simp) k3 k4
  rw [dotL_zeros] at this
  grind
theorem axpy_mem {a b : List Rat} {q x : Rat} (h : x ∈ axpyL a b q) : ∃ s t, s ∈ a ∧ t ∈ b ∧ x = s + q * t := by
  obtain ⟨i, hi⟩ := List.getElem?_of_mem h
  unfold axpyL at hi
  rw [List.getElem?_zipWith] at hi
  cases h1 : a[i]? with
  | none => rw [h1] at hi; cases hi
  | some s =>
    cases h2 : b[i]? with
    | none => rw [h1, h2] at hi; cases hi
    | some t =>
      rw [h1, h2] at hi
      injection hi with hi
      exact ⟨s, t, List.mem_of_getElem? h1, List.mem_of_getElem? h2, hi.symm⟩
/-- so far along a way without an end -/
theorem far_along {q : Rat} (hq : 0 < q) (h : endlessB A B C ok z r = true) : fulfB A B C ok (axpyL z r q) = true ∧ dotL C (axpyL z r q) < dotL C z := by
  obtain ⟨k1, k2, k3, k4, k5⟩ := endlessB_parts h
  obtain ⟨g1, g2, g3, g4⟩ := fulfB_facts k1
  have hl : z.length = r.length := by rw [g2, k2]
  refine ⟨?_, ?_⟩
  · unfold fulfB
    simp only [Bool.and_eq_true, decide_eq_true_eq, Bool.not_eq_true', List.any_eq_false]
    refine ⟨g1, by unfold axpyL; rw [List.length_zipWith, ← hl, Nat.min_self, g2], fun x hx => ?_, ?_⟩
    · obtain ⟨s, t, hs, ht, rfl⟩ := axpy_mem hx
      have e1 := g3 s hs
      have e2 := k3 t ht
      have e3 : 0 ≤ q * t := Rat.mul_nonneg (by grind) (by grind)
      grind
    · refine comesB_true fun i row x hr hx => ?_
      rw [dotL_comm, dotL_add z r row q hl, dotL_comm z, dotL_comm r]
      unfold comesB at g4 k4
      rw [List.all_eq_true] at g4 k4
      have e1 := g4 (row, x) (List.mem_of_getElem? (List.getElem?_zip_eq_some.2 ⟨hr, hx⟩))
      have e2 := k4 (row, 0) (List.mem_of_getElem? (List.getElem?_zip_eq_some.2 ⟨hr, by rw [List.getElem?_replicate, if_pos (List.getElem?_eq_some_iff.1 hr).1]⟩))
      simp only [decide_eq_true_eq] at e1 e2
      rw [e1, e2]; grind
  · rw [dotL_comm C, dotL_add z r C q hl, dotL_comm z, dotL_comm r]
    have e : 0 < q * -(dotL C r) := Rat.mul_pos hq (by grind)
    grind
theorem two_best {y' u' : List Rat} (h : bestB A B C ok y u = true) (k : bestB A B C ok y' u' = true) : dotL C y = dotL C y' := by
  have e1 := best_least h (bestB_parts k).1
  have e2 := best_least k (bestB_parts h).1
  grind
end
end Go.Proofs.YtbhohnhkephefaaGreat


/- CertTwice: the walk. -/
set_option linter.unusedVariables false
set_option linter.unusedSimpArgs false
set_option maxRecDepth 100000
namespace Go.Proofs.YtbhohnhkephefaaGreat
open Go.RowKit Go.Shelf
attribute [local go_sem ↓] Go.wp_at_zero Go.wp_at_succ

/-- a problem in standard form that came in -/
def ArgStd (w : World) (v : Value) : Prop := ∃ vA vB vC A B C, v = .agg #[vA, vB, vC] ∧ Tab EAny w vA A ∧ Rats EAny w vB B ∧ Rats EAny w vC C
/-- a proof's numbers that came in -/
def ArgProof (w : World) (v : Value) : Prop := ∃ vY vU vR y u r, v = .agg #[vY, vU, vR] ∧ Rats EAny w vY y ∧ Rats EAny w vU u ∧ Rats EAny w vR r

set_option maxHeartbeats 8000000 in
theorem certtwice_walk (w : World) (v0 v1 v2 : Value) (h0 : ArgStd w v0) (h1 : ArgProof w v1) (h2 : ArgProof w v2) :
    Calls Tryz.prog 5 #[v0, v1, v2] w (RetV w (.bool true)) := by
  obtain ⟨vA, vB, vC, A, B, C, rfl, ha, hb, hc⟩ := h0
  have HA := hide ha; have HB := hide hb; have HC := hide hc
  obtain ⟨A1, n1, c1, rfl, -⟩ := ha.form
  obtain ⟨A2, n2, c2, rfl, -⟩ := hb.form
  obtain ⟨A3, n3, c3, rfl, -⟩ := hc.form
  clear ha hb hc
  obtain ⟨vY, vU, vR, y, u, r, rfl, hy, hu, hr⟩ := h1
  have HY := hide hy; have HU := hide hu; have HR := hide hr
  obtain ⟨A4, n4, c4, rfl, -⟩ := hy.form
  obtain ⟨A5, n5, c5, rfl, -⟩ := hu.form
  obtain ⟨A6, n6, c6, rfl, -⟩ := hr.form
  clear hy hu hr
  obtain ⟨vY', vU', vR', y', u', r', rfl, hy, hu, hr⟩ := h2
  have HY' := hide hy; have HU' := hide hu; have HR' := hide hr
  obtain ⟨A7, n7, c7, rfl, -⟩ := hy.form
  obtain ⟨A8, n8, c8, rfl, -⟩ := hu.form
  obtain ⟨A9, n9, c9, rfl, -⟩ := hr.form
  clear hy hu hr
  obtain ⟨W0, hW0⟩ : ∃ W0, W0 = (((w.alloc (Obj.cells #[Value.slice A1 n1 c1, Value.slice A2 n2 c2, Value.slice A3 n3 c3] 25)).alloc (Obj.cells #[Value.slice A4 n4 c4, Value.slice A5 n5 c5, Value.slice A6 n6 c6] 27)).alloc (Obj.cells #[Value.slice A7 n7 c7, Value.slice A8 n8 c8, Value.slice A9 n9 c9] 27)) := ⟨_, rfl⟩
  obtain ⟨hb0, r0, r1, r2, hsz0⟩ := boxes3 w [.slice A1 n1 c1, .slice A2 n2 c2, .slice A3 n3 c3] [.slice A4 n4 c4, .slice A5 n5 c5, .slice A6 n6 c6] [.slice A7 n7 c7, .slice A8 n8 c8, .slice A9 n9 c9] 25 27 27 hW0
  have B0 := hide hb0; have HW0 := hide hW0
  have R0 := hide r0; have R1 := hide r1; have R2 := hide r2
  clear hb0 hW0 hsz0 r0 r1 r2
  go_enter Tryz.func5, Tryz.ntmps5
  go_upto_region 1 with fail
  rw [← HW0.out]
  go_wp2_with fail
  ((with_reducible refine (awake12_calls W0).mono ?_); rintro e w1 ⟨rfl, b1⟩)
  have HL1 := hide b1
  clear b1
  have r_d := R0.out.later HL1.out
  have d0 := r_d.cell (i := 0) rfl; have d1 := r_d.cell (i := 1) rfl; have d2 := r_d.cell (i := 2) rfl
  clear r_d
  have r_e := R1.out.later HL1.out
  have e0 := r_e.cell (i := 0) rfl; have e1 := r_e.cell (i := 1) rfl; have e2 := r_e.cell (i := 2) rfl
  clear r_e
  have r_f := R2.out.later HL1.out
  have f0 := r_f.cell (i := 0) rfl; have f1 := r_f.cell (i := 1) rfl; have f2 := r_f.cell (i := 2) rfl
  clear r_f
  go_wp2_with fail
  ((refine (fewstd_calls w1 _ _ _ A B C 6 (HA.out.later EAny.later (B0.out.trans HL1.out)) (HB.out.later EAny.later (B0.out.trans HL1.out)) (HC.out.later EAny.later (B0.out.trans HL1.out)) (by omega)).mono ?_); rintro e w2 ⟨t, rfl, hf, b2⟩)
  have HF := hide hf; have HL2 := hide (HL1.out.trans b2)
  clear hf b2 d0 d1 d2 e0 e1 e2 f0 f1 f2
  have r_d := R0.out.later HL2.out
  have d0 := r_d.cell (i := 0) rfl; have d1 := r_d.cell (i := 1) rfl; have d2 := r_d.cell (i := 2) rfl
  clear r_d
  have r_e := R1.out.later HL2.out
  have e0 := r_e.cell (i := 0) rfl; have e1 := r_e.cell (i := 1) rfl; have e2 := r_e.cell (i := 2) rfl
  clear r_e
  have r_f := R2.out.later HL2.out
  have f0 := r_f.cell (i := 0) rfl; have f1 := r_f.cell (i := 1) rfl; have f2 := r_f.cell (i := 2) rfl
  clear r_f
  cases t with
  | false =>
    go_wp2_with fail
    go_ret
    exact ⟨rfl, B0.out.trans HL2.out⟩
  | true =>
  obtain ⟨hl1, hl2, hl3, ok, hs⟩ := HF.out rfl
  have HS2 := hide hs; have HLA := hide hl1; have HLB := hide hl2; have HLC := hide hl3
  clear hs hl1 hl2 hl3 HF HA HB HC
  go_wp2_with fail
  ((with_reducible refine (fewproof_calls w2 _ _ _ y u r (HY.out.later EAny.later (B0.out.trans HL2.out)) (HU.out.later EAny.later (B0.out.trans HL2.out)) (HR.out.later EAny.later (B0.out.trans HL2.out))).mono ?_); rintro e w3 ⟨t, rfl, hf, b3⟩)
  have HF := hide hf; have HL3 := hide (HL2.out.trans b3); have HK3 := hide b3
  clear hf b3 d0 d1 d2 e0 e1 e2 f0 f1 f2
  have r_d := R0.out.later HL3.out
  have d0 := r_d.cell (i := 0) rfl; have d1 := r_d.cell (i := 1) rfl; have d2 := r_d.cell (i := 2) rfl
  clear r_d
  have r_e := R1.out.later HL3.out
  have e0 := r_e.cell (i := 0) rfl; have e1 := r_e.cell (i := 1) rfl; have e2 := r_e.cell (i := 2) rfl
  clear r_e
  have r_f := R2.out.later HL3.out
  have f0 := r_f.cell (i := 0) rfl; have f1 := r_f.cell (i := 1) rfl; have f2 := r_f.cell (i := 2) rfl
  clear r_f
  cases t with
  | false =>
    go_wp2_with fail
    go_ret
    exact ⟨rfl, B0.out.trans HL3.out⟩
  | true =>
  obtain ⟨⟨hy1, hy2⟩, ⟨hu1, hu2⟩, ⟨hr1, hr2⟩⟩ := HF.out rfl
  have HYL := hide hy1; have HUL := hide hu1; have HRL := hide hr1
  clear HY HU HR
  have HY := hide hy2; have HU := hide hu2; have HR := hide hr2
  clear hy1 hy2 hu1 hu2 hr1 hr2 HF
  go_wp2_with fail
  ((with_reducible refine (fewproof_calls w3 _ _ _ y' u' r' (HY'.out.later EAny.later (B0.out.trans HL3.out)) (HU'.out.later EAny.later (B0.out.trans HL3.out)) (HR'.out.later EAny.later (B0.out.trans HL3.out))).mono ?_); rintro e w4 ⟨t, rfl, hf, b4⟩)
  have HF := hide hf; have HL4 := hide (HL3.out.trans b4); have HK4 := hide b4
  clear hf b4 d0 d1 d2 e0 e1 e2 f0 f1 f2
  have r_d := R0.out.later HL4.out
  have d0 := r_d.cell (i := 0) rfl; have d1 := r_d.cell (i := 1) rfl; have d2 := r_d.cell (i := 2) rfl
  clear r_d
  have r_e := R1.out.later HL4.out
  have e0 := r_e.cell (i := 0) rfl; have e1 := r_e.cell (i := 1) rfl; have e2 := r_e.cell (i := 2) rfl
  clear r_e
  have r_f := R2.out.later HL4.out
  have f0 := r_f.cell (i := 0) rfl; have f1 := r_f.cell (i := 1) rfl; have f2 := r_f.cell (i := 2) rfl
  clear r_f
  cases t with
  | false =>
    go_wp2_with fail
    go_ret
    exact ⟨rfl, B0.out.trans HL4.out⟩
  | true =>
  obtain ⟨⟨hy1, hy2⟩, ⟨hu1, hu2⟩, ⟨hr1, hr2⟩⟩ := HF.out rfl
  have HYL' := hide hy1; have HUL' := hide hu1; have HRL' := hide hr1
  clear HY' HU' HR'
  have HY' := hide hy2; have HU' := hide hu2; have HR' := hide hr2
  clear hy1 hy2 hu1 hu2 hr1 hr2 HF
  go_wp2_with fail
  have HS := hide (HS2.out.later (HK3.out.trans HK4.out))
  have hy := HY.out.later ERaw.later HK4.out; have hu := HU.out.later ERaw.later HK4.out; have hr := HR.out.later ERaw.later HK4.out
  clear HS2 HY HU HR HK3 HK4
  have HY := hide hy; have HU := hide hu; have HR := hide hr
  clear hy hu hr
  obtain ⟨u1, hu1⟩ : ∃ u1, bestB A B C ok y u = u1 := ⟨_, rfl⟩
  obtain ⟨u2, hu2⟩ : ∃ u2, bestB A B C ok y' u' = u2 := ⟨_, rfl⟩
  have HU1 := hide hu1; have HU2 := hide hu2
  clear hu1 hu2
  refine (best_calls w4 _ _ _ _ _ 1 1 1 A B C y u ok HS.out HY.out HU.out (by omega) (by omega) (by have := HYL.out; omega) (by have := HUL.out; omega)).mono ?_
  rintro e w5 ⟨rfl, b5⟩
  rw [HU1.out]
  have HK5 := hide b5
  clear b5 d0 d1 d2 e0 e1 e2 f0 f1 f2
  have r_d := R0.out.later (HL4.out.trans HK5.out)
  have d0 := r_d.cell (i := 0) rfl; have d1 := r_d.cell (i := 1) rfl; have d2 := r_d.cell (i := 2) rfl
  clear r_d
  have r_e := R1.out.later (HL4.out.trans HK5.out)
  have e0 := r_e.cell (i := 0) rfl; have e1 := r_e.cell (i := 1) rfl; have e2 := r_e.cell (i := 2) rfl
  clear r_e
  have r_f := R2.out.later (HL4.out.trans HK5.out)
  have f0 := r_f.cell (i := 0) rfl; have f1 := r_f.cell (i := 1) rfl; have f2 := r_f.cell (i := 2) rfl
  clear r_f
  go_wp2_with fail
  refine (best_calls w5 _ _ _ _ _ 1 1 1 A B C y' u' ok (HS.out.later HK5.out) (HY'.out.later ERaw.later HK5.out) (HU'.out.later ERaw.later HK5.out) (by omega) (by omega) (by have := HYL'.out; omega) (by have := HUL'.out; omega)).mono ?_
  rintro e w6 ⟨rfl, b6⟩
  rw [HU2.out]
  have HK6 := hide (HK5.out.trans b6)
  clear b6 d0 d1 d2 e0 e1 e2 f0 f1 f2
  have r_d := R0.out.later (HL4.out.trans HK6.out)
  have d0 := r_d.cell (i := 0) rfl; have d1 := r_d.cell (i := 1) rfl; have d2 := r_d.cell (i := 2) rfl
  clear r_d
  have r_e := R1.out.later (HL4.out.trans HK6.out)
  have e0 := r_e.cell (i := 0) rfl; have e1 := r_e.cell (i := 1) rfl; have e2 := r_e.cell (i := 2) rfl
  clear r_e
  have r_f := R2.out.later (HL4.out.trans HK6.out)
  have f0 := r_f.cell (i := 0) rfl; have f1 := r_f.cell (i := 1) rfl; have f2 := r_f.cell (i := 2) rfl
  clear r_f
  cases u1 with
  | false =>
    go_wp2_with fail
    clear d0 d1 d2 e0 e1 e2 f0 f1 f2
    have r_d := R0.out.later (HL4.out.trans HK6.out)
    have d0 := r_d.cell (i := 0) rfl; have d1 := r_d.cell (i := 1) rfl; have d2 := r_d.cell (i := 2) rfl
    clear r_d
    have r_e := R1.out.later (HL4.out.trans HK6.out)
    have e0 := r_e.cell (i := 0) rfl; have e1 := r_e.cell (i := 1) rfl; have e2 := r_e.cell (i := 2) rfl
    clear r_e
    have r_f := R2.out.later (HL4.out.trans HK6.out)
    have f0 := r_f.cell (i := 0) rfl; have f1 := r_f.cell (i := 1) rfl; have f2 := r_f.cell (i := 2) rfl
    clear r_f
    ((with_reducible refine (qdotd_calls w6 _ _ C y 1 1 (HS.out.later HK6.out).c (HY.out.later ERaw.later HK6.out) (dot_bound3 (by have := HLC.out; omega) (by omega) (by omega))).mono ?_); rintro e w20 ⟨v20, ok20, rfl, ⟨o20, rfl⟩, b20⟩)
    obtain ⟨s20, P20, q20, e20, P20', q20', e20', rfl, o20⟩ := o20.open_; have O20 := hide o20; clear o20
    go_upto_region 10 with fail
    obtain ⟨W20, hW20⟩ : ∃ W20, W20 = w20.alloc (Obj.cells #[Value.bool s20, Value.slice P20 q20 e20, Value.bool false, Value.slice P20' q20' e20'] 33) := ⟨_, rfl⟩
    obtain ⟨g20, hg20⟩ : ∃ g20, g20 = w20.heap.size := ⟨_, rfl⟩
    have hb : Later w20 W20 := by rw [hW20]; exact (Later.refl _).alloc _
    have hr : Row W20 g20 33 [.bool s20, .slice P20 q20 e20, .bool false, .slice P20' q20' e20'] := by rw [hW20, hg20]; exact Row.new _ _ _
    rw [← hW20, ← hg20]
    have HK20 := hide (HK6.out.trans (b20.trans hb))
    have HR20 := hide hr
    have HO20 := hide (OwnR.later O20.out hb)
    clear hb hr hW20 hg20 b20 d0 d1 d2 e0 e1 e2 f0 f1 f2
    have r_d := R0.out.later (HL4.out.trans HK20.out)
    have d0 := r_d.cell (i := 0) rfl; have d1 := r_d.cell (i := 1) rfl; have d2 := r_d.cell (i := 2) rfl
    clear r_d
    have r_e := R1.out.later (HL4.out.trans HK20.out)
    have e0 := r_e.cell (i := 0) rfl; have e1 := r_e.cell (i := 1) rfl; have e2 := r_e.cell (i := 2) rfl
    clear r_e
    have r_f := R2.out.later (HL4.out.trans HK20.out)
    have f0 := r_f.cell (i := 0) rfl; have f1 := r_f.cell (i := 1) rfl; have f2 := r_f.cell (i := 2) rfl
    clear r_f
    go_wp2_with fail
    ((with_reducible refine (qdotd_calls W20 _ _ C y' 1 1 (HS.out.later HK20.out).c (HY'.out.later ERaw.later HK20.out) (dot_bound3 (by have := HLC.out; omega) (by omega) (by omega))).mono ?_); rintro e w21 ⟨v21, ok21, rfl, ⟨o21, rfl⟩, b21⟩)
    obtain ⟨s21, P21, q21, e21, P21', q21', e21', rfl, o21⟩ := o21.open_; have O21 := hide o21; clear o21
    go_upto_region 11 with fail
    obtain ⟨W21, hW21⟩ : ∃ W21, W21 = w21.alloc (Obj.cells #[Value.bool s21, Value.slice P21 q21 e21, Value.bool false, Value.slice P21' q21' e21'] 33) := ⟨_, rfl⟩
    obtain ⟨g21, hg21⟩ : ∃ g21, g21 = w21.heap.size := ⟨_, rfl⟩
    have hb : Later w21 W21 := by rw [hW21]; exact (Later.refl _).alloc _
    have hr : Row W21 g21 33 [.bool s21, .slice P21 q21 e21, .bool false, .slice P21' q21' e21'] := by rw [hW21, hg21]; exact Row.new _ _ _
    rw [← hW21, ← hg21]
    have HK21 := hide (HK20.out.trans (b21.trans hb))
    have HD20 : Hid (RawR W21 (.agg #[.bool s20, .slice P20 q20 e20, .bool false, .slice P20' q20' e20']) (dotD C y) 3100000) := hide (OwnR.raw (OwnR.later HO20.out (b21.trans hb)) ((sized_dotD (HS.out.c).sized HY.out.sized).mono (dot_bound2 (k := 1) (m := 1) (by have := HLC.out; omega) (by omega) (by omega))))
    have HD21 : Hid (RawR W21 (.agg #[.bool s21, .slice P21 q21 e21, .bool false, .slice P21' q21' e21']) (dotD C y') 3100000) := hide (OwnR.raw (OwnR.later O21.out hb) ((sized_dotD (HS.out.c).sized HY'.out.sized).mono (dot_bound2 (k := 1) (m := 1) (by have := HLC.out; omega) (by omega) (by omega))))
    obtain ⟨x1, x2, x3, x4, -⟩ := row_cells4 (HR20.out.later (b21.trans hb))
    obtain ⟨z1, z2, z3, z4, -⟩ := row_cells4 hr
    clear hb hr hW21 hg21 b21 d0 d1 d2 e0 e1 e2 f0 f1 f2
    go_wp2_with fail
    go_ret
    exact ⟨rfl, B0.out.trans (HL4.out.trans HK21.out)⟩

  | true =>
    go_wp2_with fail
    refine (none_calls w6 _ _ _ _ 1 1 A B C u' ok (HS.out.later HK6.out) (HU'.out.later ERaw.later HK6.out) (by omega) (by have := HUL'.out; omega)).mono ?_
    rintro e w7 ⟨rfl, b7⟩
    have HNO : Hid (noneB A B C ok u' = false) := hide (by
      cases h : noneB A B C ok u' with
      | false => rfl
      | true => exact (none_no h (bestB_parts HU1.out).1).elim)
    rw [HNO.out]
    have HK7 := hide (HK6.out.trans b7)
    clear b7 d0 d1 d2 e0 e1 e2 f0 f1 f2
    have r_d := R0.out.later (HL4.out.trans HK7.out)
    have d0 := r_d.cell (i := 0) rfl; have d1 := r_d.cell (i := 1) rfl; have d2 := r_d.cell (i := 2) rfl
    clear r_d
    have r_e := R1.out.later (HL4.out.trans HK7.out)
    have e0 := r_e.cell (i := 0) rfl; have e1 := r_e.cell (i := 1) rfl; have e2 := r_e.cell (i := 2) rfl
    clear r_e
    have r_f := R2.out.later (HL4.out.trans HK7.out)
    have f0 := r_f.cell (i := 0) rfl; have f1 := r_f.cell (i := 1) rfl; have f2 := r_f.cell (i := 2) rfl
    clear r_f
    go_wp2_with fail
    refine (endless_calls w7 _ _ _ _ _ 1 1 1 A B C y' r' ok (HS.out.later HK7.out) (HY'.out.later ERaw.later HK7.out) (HR'.out.later ERaw.later HK7.out) (by omega) (by omega) (by have := HYL'.out; omega) (by have := HRL'.out; omega)).mono ?_
    rintro e w8 ⟨rfl, b8⟩
    have HEN : Hid (endlessB A B C ok y' r' = false) := hide (by
      cases h : endlessB A B C ok y' r' with
      | false => rfl
      | true => exact (best_ends HU1.out h).elim)
    rw [HEN.out]
    have HK8 := hide (HK7.out.trans b8)
    clear b8
    clear d0 d1 d2 e0 e1 e2 f0 f1 f2
    have r_d := R0.out.later (HL4.out.trans HK8.out)
    have d0 := r_d.cell (i := 0) rfl; have d1 := r_d.cell (i := 1) rfl; have d2 := r_d.cell (i := 2) rfl
    clear r_d
    have r_e := R1.out.later (HL4.out.trans HK8.out)
    have e0 := r_e.cell (i := 0) rfl; have e1 := r_e.cell (i := 1) rfl; have e2 := r_e.cell (i := 2) rfl
    clear r_e
    have r_f := R2.out.later (HL4.out.trans HK8.out)
    have f0 := r_f.cell (i := 0) rfl; have f1 := r_f.cell (i := 1) rfl; have f2 := r_f.cell (i := 2) rfl
    clear r_f
    go_wp2_with fail
    ((with_reducible refine (qdotd_calls w8 _ _ C y 1 1 (HS.out.later HK8.out).c (HY.out.later ERaw.later HK8.out) (dot_bound3 (by have := HLC.out; omega) (by omega) (by omega))).mono ?_); rintro e w20 ⟨v20, ok20, rfl, ⟨o20, rfl⟩, b20⟩)
    obtain ⟨s20, P20, q20, e20, P20', q20', e20', rfl, o20⟩ := o20.open_; have O20 := hide o20; clear o20
    go_upto_region 10 with fail
    obtain ⟨W20, hW20⟩ : ∃ W20, W20 = w20.alloc (Obj.cells #[Value.bool s20, Value.slice P20 q20 e20, Value.bool false, Value.slice P20' q20' e20'] 33) := ⟨_, rfl⟩
    obtain ⟨g20, hg20⟩ : ∃ g20, g20 = w20.heap.size := ⟨_, rfl⟩
    have hb : Later w20 W20 := by rw [hW20]; exact (Later.refl _).alloc _
    have hr : Row W20 g20 33 [.bool s20, .slice P20 q20 e20, .bool false, .slice P20' q20' e20'] := by rw [hW20, hg20]; exact Row.new _ _ _
    rw [← hW20, ← hg20]
    have HK20 := hide (HK8.out.trans (b20.trans hb))
    have HR20 := hide hr
    have HO20 := hide (OwnR.later O20.out hb)
    clear hb hr hW20 hg20 b20 d0 d1 d2 e0 e1 e2 f0 f1 f2
    have r_d := R0.out.later (HL4.out.trans HK20.out)
    have d0 := r_d.cell (i := 0) rfl; have d1 := r_d.cell (i := 1) rfl; have d2 := r_d.cell (i := 2) rfl
    clear r_d
    have r_e := R1.out.later (HL4.out.trans HK20.out)
    have e0 := r_e.cell (i := 0) rfl; have e1 := r_e.cell (i := 1) rfl; have e2 := r_e.cell (i := 2) rfl
    clear r_e
    have r_f := R2.out.later (HL4.out.trans HK20.out)
    have f0 := r_f.cell (i := 0) rfl; have f1 := r_f.cell (i := 1) rfl; have f2 := r_f.cell (i := 2) rfl
    clear r_f
    go_wp2_with fail
    ((with_reducible refine (qdotd_calls W20 _ _ C y' 1 1 (HS.out.later HK20.out).c (HY'.out.later ERaw.later HK20.out) (dot_bound3 (by have := HLC.out; omega) (by omega) (by omega))).mono ?_); rintro e w21 ⟨v21, ok21, rfl, ⟨o21, rfl⟩, b21⟩)
    obtain ⟨s21, P21, q21, e21, P21', q21', e21', rfl, o21⟩ := o21.open_; have O21 := hide o21; clear o21
    go_upto_region 11 with fail
    obtain ⟨W21, hW21⟩ : ∃ W21, W21 = w21.alloc (Obj.cells #[Value.bool s21, Value.slice P21 q21 e21, Value.bool false, Value.slice P21' q21' e21'] 33) := ⟨_, rfl⟩
    obtain ⟨g21, hg21⟩ : ∃ g21, g21 = w21.heap.size := ⟨_, rfl⟩
    have hb : Later w21 W21 := by rw [hW21]; exact (Later.refl _).alloc _
    have hr : Row W21 g21 33 [.bool s21, .slice P21 q21 e21, .bool false, .slice P21' q21' e21'] := by rw [hW21, hg21]; exact Row.new _ _ _
    rw [← hW21, ← hg21]
    have HK21 := hide (HK20.out.trans (b21.trans hb))
    have HD20 : Hid (RawR W21 (.agg #[.bool s20, .slice P20 q20 e20, .bool false, .slice P20' q20' e20']) (dotD C y) 3100000) := hide (OwnR.raw (OwnR.later HO20.out (b21.trans hb)) ((sized_dotD (HS.out.c).sized HY.out.sized).mono (dot_bound2 (k := 1) (m := 1) (by have := HLC.out; omega) (by omega) (by omega))))
    have HD21 : Hid (RawR W21 (.agg #[.bool s21, .slice P21 q21 e21, .bool false, .slice P21' q21' e21']) (dotD C y') 3100000) := hide (OwnR.raw (OwnR.later O21.out hb) ((sized_dotD (HS.out.c).sized HY'.out.sized).mono (dot_bound2 (k := 1) (m := 1) (by have := HLC.out; omega) (by omega) (by omega))))
    obtain ⟨x1, x2, x3, x4, -⟩ := row_cells4 (HR20.out.later (b21.trans hb))
    obtain ⟨z1, z2, z3, z4, -⟩ := row_cells4 hr
    clear hb hr hW21 hg21 b21 d0 d1 d2 e0 e1 e2 f0 f1 f2
    cases u2 with
    | false =>
      go_wp2_with fail
      go_ret
      exact ⟨rfl, B0.out.trans (HL4.out.trans HK21.out)⟩
    | true =>
    obtain ⟨cz, hcz⟩ : ∃ cz, cmpQ (dotD C y) (dotD C y') = cz := ⟨_, rfl⟩
    have HEQ : Hid (dotD C y = dotD C y') := hide (by
      have k1 := (fulfB_facts (bestB_parts HU1.out).1).2.1
      have k2 := (fulfB_facts (bestB_parts HU2.out).1).2.1
      unfold dotD
      rw [if_pos k1.symm, if_pos k2.symm]
      exact two_best HU1.out HU2.out)
    have htz : (cz == 0) = true := by rw [cmp_eq0 hcz, HEQ.out]; simp
    have HCZ := hide hcz
    clear hcz
    go_wp2_with fail
    ((with_reducible refine (qcmp_calls W21 _ _ (dotD C y) (dotD C y') 3100000 3100000 HD20.out HD21.out (by omega)).mono ?_); rintro e w22 ⟨rfl, b22⟩; rw [HCZ.out])
    have HK22 := hide (HK21.out.trans b22)
    clear b22
    go_wp2_with fail
    go_ret
    exact ⟨rfl, B0.out.trans (HL4.out.trans HK22.out)⟩

end Go.Proofs.YtbhohnhkephefaaGreat


/- CertHolds: the walk. -/
set_option linter.unusedVariables false
set_option linter.unusedSimpArgs false
set_option maxRecDepth 100000
namespace Go.Proofs.YtbhohnhkephefaaGreat
open Go.RowKit Go.Shelf
attribute [local go_sem ↓] Go.wp_at_zero Go.wp_at_succ

theorem sized_1000 : Sized 1000 1 := sized_small (by decide) (by decide)
set_option maxHeartbeats 8000000 in
theorem certholds_walk (w : World) (v0 v1 v2 : Value) (z : List Rat) (h0 : ArgStd w v0) (h1 : ArgProof w v1) (h2 : Rats EAny w v2 z) :
    Calls Tryz.prog 4 #[v0, v1, v2] w (RetV w (.bool true)) := by
  obtain ⟨vA, vB, vC, A, B, C, rfl, ha, hb, hc⟩ := h0
  have HA := hide ha; have HB := hide hb; have HC := hide hc
  obtain ⟨A1, n1, c1, rfl, -⟩ := ha.form
  obtain ⟨A2, n2, c2, rfl, -⟩ := hb.form
  obtain ⟨A3, n3, c3, rfl, -⟩ := hc.form
  clear ha hb hc
  obtain ⟨vY, vU, vR, y, u, r, rfl, hy, hu, hr⟩ := h1
  have HY := hide hy; have HU := hide hu; have HR := hide hr
  obtain ⟨A4, n4, c4, rfl, -⟩ := hy.form
  obtain ⟨A5, n5, c5, rfl, -⟩ := hu.form
  obtain ⟨A6, n6, c6, rfl, -⟩ := hr.form
  clear hy hu hr
  have HZ := hide h2
  obtain ⟨A7, n7, c7, rfl, -⟩ := h2.form
  clear h2
  obtain ⟨W0, hW0⟩ : ∃ W0, W0 = ((w.alloc (Obj.cells #[Value.slice A1 n1 c1, Value.slice A2 n2 c2, Value.slice A3 n3 c3] 25)).alloc (Obj.cells #[Value.slice A4 n4 c4, Value.slice A5 n5 c5, Value.slice A6 n6 c6] 27)) := ⟨_, rfl⟩
  obtain ⟨hb0, r0, r1, hsz0⟩ := boxes2 w [.slice A1 n1 c1, .slice A2 n2 c2, .slice A3 n3 c3] [.slice A4 n4 c4, .slice A5 n5 c5, .slice A6 n6 c6] 25 27 hW0
  have B0 := hide hb0; have HW0 := hide hW0
  have R0 := hide r0; have R1 := hide r1
  clear hb0 hW0 hsz0 r0 r1
  go_enter Tryz.func4, Tryz.ntmps4
  go_upto_region 1 with fail
  rw [← HW0.out]
  go_wp2_with fail
  ((with_reducible refine (awake12_calls W0).mono ?_); rintro e w1 ⟨rfl, b1⟩)
  have HL1 := hide b1
  clear b1
  have r_d := R0.out.later HL1.out
  have d0 := r_d.cell (i := 0) rfl; have d1 := r_d.cell (i := 1) rfl; have d2 := r_d.cell (i := 2) rfl
  clear r_d
  have r_e := R1.out.later HL1.out
  have e0 := r_e.cell (i := 0) rfl; have e1 := r_e.cell (i := 1) rfl; have e2 := r_e.cell (i := 2) rfl
  clear r_e
  go_wp2_with fail
  ((refine (fewstd_calls w1 _ _ _ A B C 6 (HA.out.later EAny.later (B0.out.trans HL1.out)) (HB.out.later EAny.later (B0.out.trans HL1.out)) (HC.out.later EAny.later (B0.out.trans HL1.out)) (by omega)).mono ?_); rintro e w2 ⟨t, rfl, hf, b2⟩)
  have HF := hide hf; have HL2 := hide (HL1.out.trans b2)
  clear hf b2 d0 d1 d2 e0 e1 e2
  have r_d := R0.out.later HL2.out
  have d0 := r_d.cell (i := 0) rfl; have d1 := r_d.cell (i := 1) rfl; have d2 := r_d.cell (i := 2) rfl
  clear r_d
  have r_e := R1.out.later HL2.out
  have e0 := r_e.cell (i := 0) rfl; have e1 := r_e.cell (i := 1) rfl; have e2 := r_e.cell (i := 2) rfl
  clear r_e
  cases t with
  | false =>
    go_wp2_with fail
    go_ret
    exact ⟨rfl, B0.out.trans HL2.out⟩
  | true =>
  obtain ⟨hl1, hl2, hl3, ok, hs⟩ := HF.out rfl
  have HS2 := hide hs; have HLA := hide hl1; have HLB := hide hl2; have HLC := hide hl3
  clear hs hl1 hl2 hl3 HF HA HB HC
  go_wp2_with fail
  ((with_reducible refine (fewproof_calls w2 _ _ _ y u r (HY.out.later EAny.later (B0.out.trans HL2.out)) (HU.out.later EAny.later (B0.out.trans HL2.out)) (HR.out.later EAny.later (B0.out.trans HL2.out))).mono ?_); rintro e w3 ⟨t, rfl, hf, b3⟩)
  have HF := hide hf; have HL3 := hide (HL2.out.trans b3); have HK3 := hide b3
  clear hf b3 d0 d1 d2 e0 e1 e2
  have r_d := R0.out.later HL3.out
  have d0 := r_d.cell (i := 0) rfl; have d1 := r_d.cell (i := 1) rfl; have d2 := r_d.cell (i := 2) rfl
  clear r_d
  have r_e := R1.out.later HL3.out
  have e0 := r_e.cell (i := 0) rfl; have e1 := r_e.cell (i := 1) rfl; have e2 := r_e.cell (i := 2) rfl
  clear r_e
  cases t with
  | false =>
    go_wp2_with fail
    go_ret
    exact ⟨rfl, B0.out.trans HL3.out⟩
  | true =>
  obtain ⟨⟨hy1, hy2⟩, ⟨hu1, hu2⟩, ⟨hr1, hr2⟩⟩ := HF.out rfl
  have HYL := hide hy1; have HUL := hide hu1; have HRL := hide hr1
  clear HY HU HR
  have HY := hide hy2; have HU := hide hu2; have HR := hide hr2
  clear hy1 hy2 hu1 hu2 hr1 hr2 HF
  go_wp2_with fail
  ((refine (few_calls w3 _ z 6 (HZ.out.later EAny.later (B0.out.trans HL3.out)) (by omega)).mono ?_); rintro e w9 ⟨t, rfl, hf, hw9⟩)
  subst hw9
  have HF := hide hf
  clear hf
  cases t with
  | false =>
    go_wp2_with fail
    go_ret
    exact ⟨rfl, B0.out.trans HL3.out⟩
  | true =>
  obtain ⟨hz1, hz2⟩ := HF.out rfl
  have HZL := hide hz1
  clear HZ
  have HZ := hide hz2
  clear hz1 hz2 HF
  
  have HS := hide (HS2.out.later HK3.out)
  clear HS2 HK3
  obtain ⟨uf, huf⟩ : ∃ uf, fulfB A B C ok z = uf := ⟨_, rfl⟩
  have HUF := hide huf
  clear huf
  go_wp2_with fail
  refine (rfulfils_calls w3 _ _ _ _ 1 1 A B C z ok HS.out HZ.out (by omega) (by have := HZL.out; omega)).mono ?_
  rintro e w4 ⟨rfl, b4⟩
  rw [HUF.out]
  have HK4 := hide b4
  clear b4 d0 d1 d2 e0 e1 e2
  have r_d := R0.out.later (HL3.out.trans HK4.out)
  have d0 := r_d.cell (i := 0) rfl; have d1 := r_d.cell (i := 1) rfl; have d2 := r_d.cell (i := 2) rfl
  clear r_d
  have r_e := R1.out.later (HL3.out.trans HK4.out)
  have e0 := r_e.cell (i := 0) rfl; have e1 := r_e.cell (i := 1) rfl; have e2 := r_e.cell (i := 2) rfl
  clear r_e
  cases uf with
  | false =>
    go_wp2_with fail
    go_ret
    exact ⟨rfl, B0.out.trans (HL3.out.trans HK4.out)⟩
  | true =>
  have HZC : Hid (z.length = C.length) := hide (fulfB_facts HUF.out).2.1
  go_wp2_with fail
  ((with_reducible refine (qdotd_calls w4 _ _ C y 1 1 (HS.out.later HK4.out).c (HY.out.later ERaw.later HK4.out) (dot_bound3 (k := 1) (m := 1) (by have := HLC.out; omega) (by omega) (by omega))).mono ?_); rintro e w20 ⟨v20, ok20, rfl, ⟨o20, rfl⟩, b20⟩)
  obtain ⟨s20, P20, q20, e20, P20', q20', e20', rfl, o20⟩ := o20.open_; have O20 := hide o20; clear o20
  go_upto_region 8 with fail
  obtain ⟨W20, hW20⟩ : ∃ W20, W20 = w20.alloc (Obj.cells #[Value.bool s20, Value.slice P20 q20 e20, Value.bool false, Value.slice P20' q20' e20'] 33) := ⟨_, rfl⟩
  obtain ⟨g20, hg20⟩ : ∃ g20, g20 = w20.heap.size := ⟨_, rfl⟩
  have hb : Later w20 W20 := by rw [hW20]; exact (Later.refl _).alloc _
  have hr : Row W20 g20 33 [.bool s20, .slice P20 q20 e20, .bool false, .slice P20' q20' e20'] := by rw [hW20, hg20]; exact Row.new _ _ _
  rw [← hW20, ← hg20]
  have HK20 := hide (HK4.out.trans (b20.trans hb))
  have HR20 := hide hr
  have HO20 := hide (OwnR.later O20.out hb)
  clear hb hr hW20 hg20 b20 d0 d1 d2 e0 e1 e2
  have r_d := R0.out.later (HL3.out.trans HK20.out)
  have d0 := r_d.cell (i := 0) rfl; have d1 := r_d.cell (i := 1) rfl; have d2 := r_d.cell (i := 2) rfl
  clear r_d
  have r_e := R1.out.later (HL3.out.trans HK20.out)
  have e0 := r_e.cell (i := 0) rfl; have e1 := r_e.cell (i := 1) rfl; have e2 := r_e.cell (i := 2) rfl
  clear r_e
  go_wp2_with fail
  ((with_reducible refine (qdotd_calls W20 _ _ C z 1 1 (HS.out.later HK20.out).c (HZ.out.later ERaw.later HK20.out) (dot_bound3 (k := 1) (m := 1) (by have := HLC.out; omega) (by omega) (by omega))).mono ?_); rintro e w21 ⟨v21, ok21, rfl, ⟨o21, rfl⟩, b21⟩)
  obtain ⟨s21, P21, q21, e21, P21', q21', e21', rfl, o21⟩ := o21.open_; have O21 := hide o21; clear o21
  go_upto_region 9 with fail
  obtain ⟨W21, hW21⟩ : ∃ W21, W21 = w21.alloc (Obj.cells #[Value.bool s21, Value.slice P21 q21 e21, Value.bool false, Value.slice P21' q21' e21'] 33) := ⟨_, rfl⟩
  obtain ⟨g21, hg21⟩ : ∃ g21, g21 = w21.heap.size := ⟨_, rfl⟩
  have hb : Later w21 W21 := by rw [hW21]; exact (Later.refl _).alloc _
  have hr : Row W21 g21 33 [.bool s21, .slice P21 q21 e21, .bool false, .slice P21' q21' e21'] := by rw [hW21, hg21]; exact Row.new _ _ _
  rw [← hW21, ← hg21]
  have HK21 := hide (HK20.out.trans (b21.trans hb))
  have HR21 := hide hr
  have HD20 : Hid (RawR W21 (.agg #[.bool s20, .slice P20 q20 e20, .bool false, .slice P20' q20' e20']) (dotD C y) 3100000) := hide (OwnR.raw (OwnR.later HO20.out (b21.trans hb)) ((sized_dotD (HS.out.c).sized HY.out.sized).mono (dot_bound2 (k := 1) (m := 1) (by have := HLC.out; omega) (by omega) (by omega))))
  have HD21 : Hid (RawR W21 (.agg #[.bool s21, .slice P21 q21 e21, .bool false, .slice P21' q21' e21']) (dotD C z) 3100000) := hide (OwnR.raw (OwnR.later O21.out hb) ((sized_dotD (HS.out.c).sized HZ.out.sized).mono (dot_bound2 (k := 1) (m := 1) (by have := HLC.out; omega) (by omega) (by omega))))
  have HRX20 := hide (HR20.out.later (b21.trans hb))
  clear HR20
  have HR20 := HRX20
  clear HRX20 hb hr hW21 hg21 b21 d0 d1 d2 e0 e1 e2
  have r_d := R0.out.later (HL3.out.trans HK21.out)
  have d0 := r_d.cell (i := 0) rfl; have d1 := r_d.cell (i := 1) rfl; have d2 := r_d.cell (i := 2) rfl
  clear r_d
  have r_e := R1.out.later (HL3.out.trans HK21.out)
  have e0 := r_e.cell (i := 0) rfl; have e1 := r_e.cell (i := 1) rfl; have e2 := r_e.cell (i := 2) rfl
  clear r_e
  go_wp2_with fail
  refine (none_calls W21 _ _ _ _ 1 1 A B C u ok (HS.out.later HK21.out) (HU.out.later ERaw.later HK21.out) (by omega) (by have := HUL.out; omega)).mono ?_
  rintro e w22 ⟨rfl, b22⟩
  have HNO : Hid (noneB A B C ok u = false) := hide (by
    cases h : noneB A B C ok u with
    | false => rfl
    | true => exact (none_no h HUF.out).elim)
  rw [HNO.out]
  have HK22 := hide (HK21.out.trans b22); have HM22 := hide b22
  clear b22 d0 d1 d2 e0 e1 e2
  have r_d := R0.out.later (HL3.out.trans HK22.out)
  have d0 := r_d.cell (i := 0) rfl; have d1 := r_d.cell (i := 1) rfl; have d2 := r_d.cell (i := 2) rfl
  clear r_d
  have r_e := R1.out.later (HL3.out.trans HK22.out)
  have e0 := r_e.cell (i := 0) rfl; have e1 := r_e.cell (i := 1) rfl; have e2 := r_e.cell (i := 2) rfl
  clear r_e
  obtain ⟨ub, hub⟩ : ∃ ub, bestB A B C ok y u = ub := ⟨_, rfl⟩
  have HUB := hide hub
  clear hub
  go_wp2_with fail
  refine (best_calls w22 _ _ _ _ _ 1 1 1 A B C y u ok (HS.out.later HK22.out) (HY.out.later ERaw.later HK22.out) (HU.out.later ERaw.later HK22.out) (by omega) (by omega) (by have := HYL.out; omega) (by have := HUL.out; omega)).mono ?_
  rintro e w23 ⟨rfl, b23⟩
  rw [HUB.out]
  have HK23 := hide (HK22.out.trans b23); have HM23 := hide (HM22.out.trans b23)
  clear b23 d0 d1 d2 e0 e1 e2
  obtain ⟨x1, x2, x3, x4, -⟩ := row_cells4 (HR20.out.later HM23.out)
  obtain ⟨z1, z2, z3, z4, -⟩ := row_cells4 (HR21.out.later HM23.out)
  have HBET : Hid (∃ w24, ub = true → ∃ cz, cmpQ (dotD C z) (dotD C y) = cz ∧ decide (cz < 0) = false) := hide ⟨w23, fun h => by
    subst h
    refine ⟨_, rfl, ?_⟩
    have k1 := (fulfB_facts (bestB_parts HUB.out).1).2.1
    have k3 := best_least HUB.out HUF.out
    unfold dotD
    rw [if_pos k1.symm, if_pos HZC.out.symm]
    unfold cmpQ
    rw [if_neg (by grind)]
    split <;> simp⟩
  cases ub with
  | false =>
    have r_d := R0.out.later (HL3.out.trans HK23.out)
    have d0 := r_d.cell (i := 0) rfl; have d1 := r_d.cell (i := 1) rfl; have d2 := r_d.cell (i := 2) rfl
    clear r_d
    have r_e := R1.out.later (HL3.out.trans HK23.out)
    have e0 := r_e.cell (i := 0) rfl; have e1 := r_e.cell (i := 1) rfl; have e2 := r_e.cell (i := 2) rfl
    clear r_e
    go_upto_region 11 with fail
    go_wp2_with fail
    obtain ⟨ue, hue⟩ : ∃ ue, endlessB A B C ok z r = ue := ⟨_, rfl⟩
    have HUE := hide hue
    clear hue
    refine (endless_calls w23 _ _ _ _ _ 1 1 1 A B C z r ok (HS.out.later HK23.out) (HZ.out.later ERaw.later HK23.out) (HR.out.later ERaw.later HK23.out) (by omega) (by omega) (by have := HZL.out; omega) (by have := HRL.out; omega)).mono ?_
    rintro e w25 ⟨rfl, b25⟩
    rw [HUE.out]
    have HK25 := hide (HK23.out.trans b25); have HM25 := hide (HM23.out.trans b25)
    clear b25 d0 d1 d2 e0 e1 e2
    cases ue with
    | false =>
      go_wp2_with fail
      go_ret
      exact ⟨rfl, B0.out.trans (HL3.out.trans HK25.out)⟩
    | true =>
    have HFAR := hide (far_along (q := 1000) (by decide +kernel) HUE.out)
    have HLZR : Hid (z.length = r.length) := hide (by rw [HZC.out, (endlessB_parts HUE.out).2.1])
    go_upto_region 13 with fail
    have hd : Later w25 w25.drew := (Later.refl w25).drew
    have HD := hide hd
    have hrb := R1.out.later (HL3.out.trans (HK25.out.trans hd))
    have HT1 : Hid (∀ w', Later w25.drew w' → w'.cell? ⟨w.heap.size + 1, 2, none⟩ = some (.slice A6 n6 c6)) := hide fun w' hb => (hrb.later hb).cell rfl
    clear hd hrb
    go_region_held3 (fun w' => w'.cell? ⟨w.heap.size + 1, 2, none⟩ = some (.slice A6 n6 c6))
      (first | exact HT1.out _ (Later.refl _) | exact HT1.out _ b26 | exact HT1.out _ (b26.trans b27))
      (first
        | ((with_reducible refine (of12_calls _ 1000 (by omega) (by omega) 1000 (by decide +kernel)).mono ?_); rintro e w26 ⟨v26, rfl, o26, b26⟩; obtain ⟨s26, P26, q26, e26, P26', q26', e26', rfl, o26⟩ := o26.open_; have O26 := hide o26; clear o26)
        | ((with_reducible refine (qaddtimes_calls _ _ _ _ z r 1000 1 1 1 (HZ.out.later ERaw.later (HK25.out.trans (HD.out.trans b26))) (HR.out.later ERaw.later (HK25.out.trans (HD.out.trans b26))) (OwnR.raw O26.out sized_1000) HLZR.out (by have := HZL.out; omega) (by omega)).mono ?_); rintro e w27 ⟨v27, ok27, rfl, ⟨o27, rfl⟩, b27⟩; have O27 := hide (On.now o27); clear o27; obtain ⟨A27, n27, c27, rfl, -⟩ := O27.out.form))
    have HK27 := hide (HK25.out.trans (HD.out.trans (b26.trans b27))); have HM27 := hide (HM25.out.trans (HD.out.trans (b26.trans b27)))
    clear b26 b27 O26
    have HFS : Hid (∀ x ∈ axpyL z r 1000, Sized x 10) := hide fun x hx => (sized_axpy HZ.out.sized HR.out.sized sized_1000 x hx).mono (by omega)
    have HFA : Hid (Rats (ERaw 10) w27 (.slice A27 n27 c27) (axpyL z r 1000)) := hide (O27.out.map fun v q hq he => OwnR.raw (B := 0) he (HFS.out q hq))
    have HFL : Hid ((axpyL z r 1000).length ≤ 6) := hide (by unfold axpyL; rw [List.length_zipWith, ← HLZR.out, Nat.min_self]; exact HZL.out)
    clear O27
    have r_d := R0.out.later (HL3.out.trans HK27.out)
    have d0 := r_d.cell (i := 0) rfl; have d1 := r_d.cell (i := 1) rfl; have d2 := r_d.cell (i := 2) rfl
    clear r_d
    have r_e := R1.out.later (HL3.out.trans HK27.out)
    have e0 := r_e.cell (i := 0) rfl; have e1 := r_e.cell (i := 1) rfl; have e2 := r_e.cell (i := 2) rfl
    clear r_e
    go_wp2_with fail
    ((with_reducible refine (qdotd_calls w27 _ _ C (axpyL z r 1000) 1 10 (HS.out.later HK27.out).c (HFA.out) (dot_bound3 (k := 1) (m := 10) (by have := HLC.out; omega) (by omega) (by omega))).mono ?_); rintro e w28 ⟨v28, ok28, rfl, ⟨o28, rfl⟩, b28⟩)
    obtain ⟨s28, P28, q28, e28, P28', q28', e28', rfl, o28⟩ := o28.open_; have O28 := hide o28; clear o28
    go_upto_region 15 with fail
    obtain ⟨W28, hW28⟩ : ∃ W28, W28 = w28.alloc (Obj.cells #[Value.bool s28, Value.slice P28 q28 e28, Value.bool false, Value.slice P28' q28' e28'] 33) := ⟨_, rfl⟩
    obtain ⟨g28, hg28⟩ : ∃ g28, g28 = w28.heap.size := ⟨_, rfl⟩
    have hb : Later w28 W28 := by rw [hW28]; exact (Later.refl _).alloc _
    have hr : Row W28 g28 33 [.bool s28, .slice P28 q28 e28, .bool false, .slice P28' q28' e28'] := by rw [hW28, hg28]; exact Row.new _ _ _
    rw [← hW28, ← hg28]
    have HK28 := hide (HK27.out.trans (b28.trans hb)); have HM28 := hide (HM27.out.trans (b28.trans hb))
    have HFB := hide (HFA.out.later ERaw.later (b28.trans hb))
    have HR28 := hide hr
    have HO28 := hide (OwnR.later O28.out hb)
    clear hb hr hW28 hg28 b28 d0 d1 d2 e0 e1 e2
    have r_d := R0.out.later (HL3.out.trans HK28.out)
    have d0 := r_d.cell (i := 0) rfl; have d1 := r_d.cell (i := 1) rfl; have d2 := r_d.cell (i := 2) rfl
    clear r_d
    have r_e := R1.out.later (HL3.out.trans HK28.out)
    have e0 := r_e.cell (i := 0) rfl; have e1 := r_e.cell (i := 1) rfl; have e2 := r_e.cell (i := 2) rfl
    clear r_e
    go_wp2_with fail
    refine (rfulfils_calls W28 _ _ _ _ 1 10 A B C (axpyL z r 1000) ok (HS.out.later HK28.out) HFB.out (by omega) (by have := HFL.out; omega)).mono ?_
    rintro e w29 ⟨rfl, b29⟩
    rw [HFAR.out.1]
    have HK29 := hide (HK28.out.trans b29); have HM29 := hide (HM28.out.trans b29)
    obtain ⟨x1, x2, x3, x4, -⟩ := row_cells4 (HR28.out.later b29)
    obtain ⟨z1, z2, z3, z4, -⟩ := row_cells4 (HR21.out.later HM29.out)
    have HD28 : Hid (RawR w29 (.agg #[.bool s28, .slice P28 q28 e28, .bool false, .slice P28' q28' e28']) (dotD C (axpyL z r 1000)) 3100000) := hide (OwnR.raw (OwnR.later HO28.out b29) ((sized_dotD (HS.out.c).sized HFS.out).mono (dot_bound2 (k := 1) (m := 9) (by have := HLC.out; omega) (by omega) (by omega))))
    clear b29 d0 d1 d2 e0 e1 e2
    obtain ⟨cz2, hcz2⟩ : ∃ cz, cmpQ (dotD C (axpyL z r 1000)) (dotD C z) = cz := ⟨_, rfl⟩
    have htz2 : decide (cz2 < 0) = true := by
      have k1 := (fulfB_facts HFAR.out.1).2.1
      have k2 := HFAR.out.2
      unfold dotD at hcz2
      rw [if_pos k1.symm, if_pos HZC.out.symm] at hcz2
      unfold cmpQ at hcz2
      rw [if_pos k2] at hcz2
      rw [← hcz2]; decide
    have HCZ2 := hide hcz2
    clear hcz2
    go_wp2_with fail
    ((with_reducible refine (qcmp_calls w29 _ _ (dotD C (axpyL z r 1000)) (dotD C z) 3100000 3100000 HD28.out (HD21.out.later HM29.out) (by omega)).mono ?_); rintro e w30 ⟨rfl, b30⟩; rw [HCZ2.out])
    have HK30 := hide (HK29.out.trans b30)
    clear b30
    go_wp2_with fail
    go_ret
    exact ⟨rfl, B0.out.trans (HL3.out.trans HK30.out)⟩
  | true =>
    obtain ⟨-, hcz⟩ := HBET.out
    obtain ⟨cz, hcz, htz⟩ := hcz rfl
    have HCZ := hide hcz
    clear hcz
    go_wp2_with fail
    ((with_reducible refine (qcmp_calls w23 _ _ (dotD C z) (dotD C y) 3100000 3100000 (HD21.out.later HM23.out) (HD20.out.later HM23.out) (by omega)).mono ?_); rintro e w24 ⟨rfl, b24⟩; rw [HCZ.out])
    have HK24 := hide (HK23.out.trans b24); have HM24 := hide (HM23.out.trans b24)
    clear b24 x1 x2 x3 x4 z1 z2 z3 z4
    have r_d := R0.out.later (HL3.out.trans HK24.out)
    have d0 := r_d.cell (i := 0) rfl; have d1 := r_d.cell (i := 1) rfl; have d2 := r_d.cell (i := 2) rfl
    clear r_d
    have r_e := R1.out.later (HL3.out.trans HK24.out)
    have e0 := r_e.cell (i := 0) rfl; have e1 := r_e.cell (i := 1) rfl; have e2 := r_e.cell (i := 2) rfl
    clear r_e
    go_upto_region 11 with fail
    go_wp2_with fail
    obtain ⟨ue, hue⟩ : ∃ ue, endlessB A B C ok z r = ue := ⟨_, rfl⟩
    have HUE := hide hue
    clear hue
    refine (endless_calls w24 _ _ _ _ _ 1 1 1 A B C z r ok (HS.out.later HK24.out) (HZ.out.later ERaw.later HK24.out) (HR.out.later ERaw.later HK24.out) (by omega) (by omega) (by have := HZL.out; omega) (by have := HRL.out; omega)).mono ?_
    rintro e w25 ⟨rfl, b25⟩
    rw [HUE.out]
    have HK25 := hide (HK24.out.trans b25); have HM25 := hide (HM24.out.trans b25)
    clear b25 d0 d1 d2 e0 e1 e2
    cases ue with
    | false =>
      go_wp2_with fail
      go_ret
      exact ⟨rfl, B0.out.trans (HL3.out.trans HK25.out)⟩
    | true =>
    have HFAR := hide (far_along (q := 1000) (by decide +kernel) HUE.out)
    have HLZR : Hid (z.length = r.length) := hide (by rw [HZC.out, (endlessB_parts HUE.out).2.1])
    go_upto_region 13 with fail
    have hd : Later w25 w25.drew := (Later.refl w25).drew
    have HD := hide hd
    have hrb := R1.out.later (HL3.out.trans (HK25.out.trans hd))
    have HT1 : Hid (∀ w', Later w25.drew w' → w'.cell? ⟨w.heap.size + 1, 2, none⟩ = some (.slice A6 n6 c6)) := hide fun w' hb => (hrb.later hb).cell rfl
    clear hd hrb
    go_region_held3 (fun w' => w'.cell? ⟨w.heap.size + 1, 2, none⟩ = some (.slice A6 n6 c6))
      (first | exact HT1.out _ (Later.refl _) | exact HT1.out _ b26 | exact HT1.out _ (b26.trans b27))
      (first
        | ((with_reducible refine (of12_calls _ 1000 (by omega) (by omega) 1000 (by decide +kernel)).mono ?_); rintro e w26 ⟨v26, rfl, o26, b26⟩; obtain ⟨s26, P26, q26, e26, P26', q26', e26', rfl, o26⟩ := o26.open_; have O26 := hide o26; clear o26)
        | ((with_reducible refine (qaddtimes_calls _ _ _ _ z r 1000 1 1 1 (HZ.out.later ERaw.later (HK25.out.trans (HD.out.trans b26))) (HR.out.later ERaw.later (HK25.out.trans (HD.out.trans b26))) (OwnR.raw O26.out sized_1000) HLZR.out (by have := HZL.out; omega) (by omega)).mono ?_); rintro e w27 ⟨v27, ok27, rfl, ⟨o27, rfl⟩, b27⟩; have O27 := hide (On.now o27); clear o27; obtain ⟨A27, n27, c27, rfl, -⟩ := O27.out.form))
    have HK27 := hide (HK25.out.trans (HD.out.trans (b26.trans b27))); have HM27 := hide (HM25.out.trans (HD.out.trans (b26.trans b27)))
    clear b26 b27 O26
    have HFS : Hid (∀ x ∈ axpyL z r 1000, Sized x 10) := hide fun x hx => (sized_axpy HZ.out.sized HR.out.sized sized_1000 x hx).mono (by omega)
    have HFA : Hid (Rats (ERaw 10) w27 (.slice A27 n27 c27) (axpyL z r 1000)) := hide (O27.out.map fun v q hq he => OwnR.raw (B := 0) he (HFS.out q hq))
    have HFL : Hid ((axpyL z r 1000).length ≤ 6) := hide (by unfold axpyL; rw [List.length_zipWith, ← HLZR.out, Nat.min_self]; exact HZL.out)
    clear O27
    have r_d := R0.out.later (HL3.out.trans HK27.out)
    have d0 := r_d.cell (i := 0) rfl; have d1 := r_d.cell (i := 1) rfl; have d2 := r_d.cell (i := 2) rfl
    clear r_d
    have r_e := R1.out.later (HL3.out.trans HK27.out)
    have e0 := r_e.cell (i := 0) rfl; have e1 := r_e.cell (i := 1) rfl; have e2 := r_e.cell (i := 2) rfl
    clear r_e
    go_wp2_with fail
    ((with_reducible refine (qdotd_calls w27 _ _ C (axpyL z r 1000) 1 10 (HS.out.later HK27.out).c (HFA.out) (dot_bound3 (k := 1) (m := 10) (by have := HLC.out; omega) (by omega) (by omega))).mono ?_); rintro e w28 ⟨v28, ok28, rfl, ⟨o28, rfl⟩, b28⟩)
    obtain ⟨s28, P28, q28, e28, P28', q28', e28', rfl, o28⟩ := o28.open_; have O28 := hide o28; clear o28
    go_upto_region 15 with fail
    obtain ⟨W28, hW28⟩ : ∃ W28, W28 = w28.alloc (Obj.cells #[Value.bool s28, Value.slice P28 q28 e28, Value.bool false, Value.slice P28' q28' e28'] 33) := ⟨_, rfl⟩
    obtain ⟨g28, hg28⟩ : ∃ g28, g28 = w28.heap.size := ⟨_, rfl⟩
    have hb : Later w28 W28 := by rw [hW28]; exact (Later.refl _).alloc _
    have hr : Row W28 g28 33 [.bool s28, .slice P28 q28 e28, .bool false, .slice P28' q28' e28'] := by rw [hW28, hg28]; exact Row.new _ _ _
    rw [← hW28, ← hg28]
    have HK28 := hide (HK27.out.trans (b28.trans hb)); have HM28 := hide (HM27.out.trans (b28.trans hb))
    have HFB := hide (HFA.out.later ERaw.later (b28.trans hb))
    have HR28 := hide hr
    have HO28 := hide (OwnR.later O28.out hb)
    clear hb hr hW28 hg28 b28 d0 d1 d2 e0 e1 e2
    have r_d := R0.out.later (HL3.out.trans HK28.out)
    have d0 := r_d.cell (i := 0) rfl; have d1 := r_d.cell (i := 1) rfl; have d2 := r_d.cell (i := 2) rfl
    clear r_d
    have r_e := R1.out.later (HL3.out.trans HK28.out)
    have e0 := r_e.cell (i := 0) rfl; have e1 := r_e.cell (i := 1) rfl; have e2 := r_e.cell (i := 2) rfl
    clear r_e
    go_wp2_with fail
    refine (rfulfils_calls W28 _ _ _ _ 1 10 A B C (axpyL z r 1000) ok (HS.out.later HK28.out) HFB.out (by omega) (by have := HFL.out; omega)).mono ?_
    rintro e w29 ⟨rfl, b29⟩
    rw [HFAR.out.1]
    have HK29 := hide (HK28.out.trans b29); have HM29 := hide (HM28.out.trans b29)
    obtain ⟨x1, x2, x3, x4, -⟩ := row_cells4 (HR28.out.later b29)
    obtain ⟨z1, z2, z3, z4, -⟩ := row_cells4 (HR21.out.later HM29.out)
    have HD28 : Hid (RawR w29 (.agg #[.bool s28, .slice P28 q28 e28, .bool false, .slice P28' q28' e28']) (dotD C (axpyL z r 1000)) 3100000) := hide (OwnR.raw (OwnR.later HO28.out b29) ((sized_dotD (HS.out.c).sized HFS.out).mono (dot_bound2 (k := 1) (m := 9) (by have := HLC.out; omega) (by omega) (by omega))))
    clear b29 d0 d1 d2 e0 e1 e2
    obtain ⟨cz2, hcz2⟩ : ∃ cz, cmpQ (dotD C (axpyL z r 1000)) (dotD C z) = cz := ⟨_, rfl⟩
    have htz2 : decide (cz2 < 0) = true := by
      have k1 := (fulfB_facts HFAR.out.1).2.1
      have k2 := HFAR.out.2
      unfold dotD at hcz2
      rw [if_pos k1.symm, if_pos HZC.out.symm] at hcz2
      unfold cmpQ at hcz2
      rw [if_pos k2] at hcz2
      rw [← hcz2]; decide
    have HCZ2 := hide hcz2
    clear hcz2
    go_wp2_with fail
    ((with_reducible refine (qcmp_calls w29 _ _ (dotD C (axpyL z r 1000)) (dotD C z) 3100000 3100000 HD28.out (HD21.out.later HM29.out) (by omega)).mono ?_); rintro e w30 ⟨rfl, b30⟩; rw [HCZ2.out])
    have HK30 := hide (HK29.out.trans b30)
    clear b30
    go_wp2_with fail
    go_ret
    exact ⟨rfl, B0.out.trans (HL3.out.trans HK30.out)⟩
end Go.Proofs.YtbhohnhkephefaaGreat
