import Derived.Test.YthncinngkfflgaaGreatM34
import Derived.Test.YthncinngkfflgaaGreatM17
import Derived.Test.YthncinngkfflgaaGreatM36

/- Proofs of standard forms: what they tell, with no program in sight. -/
set_option linter.unusedVariables false
set_option linter.unusedSimpArgs false
set_option maxRecDepth 100000
namespace Go.Proofs.YthncinngkfflgaaGreat

theorem dotL_nil (z : List Rat) : dotL [] z = 0 := by unfold dotL; rw [List.zipWith_nil_left]; rfl
theorem dotL_cons (x y : Rat) (a b : List Rat) : dotL (x :: a) (y :: b) = x * y + dotL a b := by
  unfold dotL; rw [List.zipWith_cons_cons, sumR_cons]
theorem axpy_cons (x y : Rat) (a b : List Rat) (q : Rat) : axpyL (x :: a) (y :: b) q = (x + q * y) :: axpyL a b q := rfl
theorem dotL_add : ∀ (a b z : List Rat) (q : Rat), a.length = b.length → dotL (axpyL a b q) z = dotL a z + q * dotL b z := by
  intro a
  induction a with
  | nil =>
    intro b z q h
    cases b with
    | nil => rw [show axpyL [] [] q = [] from rfl, dotL_nil]; grind
    | cons y b => simp at h
  | cons x a ih =>
    intro b z q h
    cases b with
    | nil => simp at h
    | cons y b =>
      have hl : a.length = b.length := by simpa using h
      cases z with
      | nil => rw [dotL_comm _ [], dotL_comm _ [], dotL_comm _ [], dotL_nil, dotL_nil, dotL_nil]; grind
      | cons z zs => rw [axpy_cons, dotL_cons, dotL_cons, dotL_cons, ih b zs q hl]; grind
theorem dotL_zeros (n : Nat) (z : List Rat) : dotL (List.replicate n 0) z = 0 := by
  induction n generalizing z with
  | zero => exact dotL_nil z
  | succ n ih =>
    cases z with
    | nil => rw [dotL_comm, dotL_nil]
    | cons x z => rw [List.replicate_succ, dotL_cons, ih]; grind
theorem dual_fold (z : List Rat) (n : Nat) : ∀ (A : List (List Rat)) (u b o : List Rat), u.length = A.length → b.length = A.length → (∀ r ∈ A, r.length = n) → o.length = n → comesB A z b = true →
    dotL ((List.zip A u).foldl (fun o p => axpyL o p.1 p.2) o) z = dotL o z + dotL b u := by
  intro A
  induction A with
  | nil =>
    intro u b o h1 h2 h3 h4 h5
    obtain rfl : u = [] := List.eq_nil_of_length_eq_zero (by simpa using h1)
    obtain rfl : b = [] := List.eq_nil_of_length_eq_zero (by simpa using h2)
    rw [dotL_nil]; simp only [List.zip_nil_left, List.foldl_nil]; grind
  | cons r A ih =>
    intro u b o h1 h2 h3 h4 h5
    cases u with
    | nil => simp at h1
    | cons x u =>
      cases b with
      | nil => simp at h2
      | cons q b =>
        have hr := h3 r (by simp)
        unfold comesB at h5
        rw [List.zip_cons_cons, List.all_cons, Bool.and_eq_true, decide_eq_true_eq] at h5
        rw [List.zip_cons_cons, List.foldl_cons, ih u b (axpyL o r x) (by simpa using h1) (by simpa using h2) (fun s hs => h3 s (by simp [hs])) (by unfold axpyL; rw [List.length_zipWith, h4, hr, Nat.min_self]) (by unfold comesB; exact h5.2),
          dotL_add o r z x (by rw [h4, hr]), dotL_cons]
        have := h5.1
        simp only at this
        rw [this]; grind
theorem duality {A : List (List Rat)} {u b z : List Rat} {n : Nat} (h1 : u.length = A.length) (h2 : b.length = A.length) (h3 : ∀ r ∈ A, r.length = n) (h5 : comesB A z b = true) : dotL (colsL A u n) z = dotL b u := by
  unfold colsL
  rw [dual_fold z n A u b _ h1 h2 h3 (by simp) h5, dotL_zeros]; grind
theorem dot_le : ∀ (l c z : List Rat), l.length = c.length → (∀ x ∈ axpyL l c (-1), ¬ 0 < x) → (∀ x ∈ z, ¬ x < 0) → dotL l z ≤ dotL c z := by
  intro l
  induction l with
  | nil =>
    intro c z h1 _ _
    obtain rfl : c = [] := List.eq_nil_of_length_eq_zero (by simpa using h1.symm)
    exact Rat.le_refl
  | cons x l ih =>
    intro c z h1 h2 h3
    cases c with
    | nil => simp at h1
    | cons y c =>
      cases z with
      | nil => rw [dotL_comm _ [], dotL_comm _ [], dotL_nil, dotL_nil]; exact Rat.le_refl
      | cons z zs =>
        rw [axpy_cons] at h2
        have k1 := h2 _ (List.mem_cons_self ..)
        have k2 := h3 z (List.mem_cons_self ..)
        have k3 := ih c zs (by simpa using h1) (fun q hq => h2 q (List.mem_cons_of_mem _ hq)) (fun q hq => h3 q (List.mem_cons_of_mem _ hq))
        have k4 : 0 ≤ (y - x) * z := Rat.mul_nonneg (by grind) (by grind)
        rw [dotL_cons, dotL_cons]
        grind
theorem underB_parts {A : List (List Rat)} {B C u c : List Rat} {ok : Bool} (h : underB A B C ok u c = true) : rightB A B C ok = true ∧ u.length = A.length ∧ ∀ x ∈ axpyL (colsL A u C.length) c (-1), ¬ 0 < x := by
  unfold underB colOk at h
  simp only [Bool.and_eq_true, decide_eq_true_eq, Bool.not_eq_true', List.any_eq_false] at h
  exact ⟨h.1.1, h.1.2, fun x hx => h.2 x hx⟩
/-- what is under costs bounds what numbers cost -/
theorem weak {A : List (List Rat)} {B C u c z b : List Rat} {ok : Bool} (hu : underB A B C ok u c = true) (hc : C.length = c.length) (hb : b.length = A.length) (hz : ∀ x ∈ z, ¬ x < 0) (hz2 : comesB A z b = true) : dotL b u ≤ dotL c z := by
  obtain ⟨h1, h2, h3⟩ := underB_parts hu
  have hr := (rightB_facts h1).2.2.2.1
  rw [← duality (n := C.length) h2 hb hr hz2]
  exact dot_le _ _ _ (by rw [colsL_len hr, hc]) h3 hz
section
variable {A : List (List Rat)} {B C y u z r : List Rat} {ok : Bool}
theorem none_no (h : noneB A B C ok u = true) (hz : fulfB A B C ok z = true) : False := by
  unfold noneB at h
  rw [Bool.and_eq_true, decide_eq_true_eq] at h
  obtain ⟨k1, k2, k3, k4⟩ := fulfB_facts hz
  have := weak h.1 (by simp) (rightB_facts k1).2.2.1 k3 k4
  rw [dotL_zeros] at this
  grind
theorem bestB_parts (h : bestB A B C ok y u = true) : fulfB A B C ok y = true ∧ underB A B C ok u C = true ∧ dotL B u = dotL C y := by
  unfold bestB at h
  simpa only [Bool.and_eq_true, decide_eq_true_eq] using h
theorem best_least (h : bestB A B C ok y u = true) (hz : fulfB A B C ok z = true) : dotL C y ≤ dotL C z := by
  obtain ⟨h1, h2, h3⟩ := bestB_parts h
  obtain ⟨k1, k2, k3, k4⟩ := fulfB_facts hz
  rw [← h3]
  exact weak h2 rfl (rightB_facts k1).2.2.1 k3 k4
theorem endlessB_parts (h : endlessB A B C ok y r = true) : fulfB A B C ok y = true ∧ r.length = C.length ∧ (∀ x ∈ r, ¬ x < 0) ∧ comesB A r (List.replicate A.length 0) = true ∧ dotL C r < 0 := by
  unfold endlessB at h
  simp only [Bool.and_eq_true, decide_eq_true_eq, Bool.not_eq_true', List.any_eq_false] at h
  exact ⟨h.1, h.2.1, fun x hx => h.2.2.1 x hx, h.2.2.2⟩
theorem best_ends (h : bestB A B C ok y u = true) (hz : endlessB A B C ok z r = true) : False := by
  obtain ⟨h1, h2, h3⟩ := bestB_parts h
  obtain ⟨k1, k2, k3, k4, k5⟩ := endlessB_parts hz
  have := weak h2 rfl (by simp) k3 k4
  rw [dotL_zeros] at this
  grind
theorem axpy_mem {a b : List Rat} {q x : Rat} (h : x ∈ axpyL a b q) : ∃ s t, s ∈ a ∧ t ∈ b ∧ x = s + q * t := by
  obtain ⟨i, hi⟩ := List.getElem?_of_mem h
  unfold axpyL at hi
  rw [List.getElem?_zipWith] at hi
  cases h1 : a[i]? with
  | none => rw [h1] at hi; cases hi
  | some s =>
    cases h2 : b[i]? with
    | none => rw [h1, h2] at hi; cases hi
    | some t =>
      rw [h1, h2] at hi
      injection hi with hi
      exact ⟨s, t, List.mem_of_getElem? h1, List.mem_of_getElem? h2, hi.symm⟩
/-- so far along a way without an end -/
theorem far_along {q : Rat} (hq : 0 < q) (h : endlessB A B C ok z r = true) : fulfB A B C ok (axpyL z r q) = true ∧ dotL C (axpyL z r q) < dotL C z := by
  obtain ⟨k1, k2, k3, k4, k5⟩ := endlessB_parts h
  obtain ⟨g1, g2, g3, g4⟩ := fulfB_facts k1
  have hl : z.length = r.length := by rw [g2, k2]
  refine ⟨?_, ?_⟩
  · unfold fulfB
    simp only [Bool.and_eq_true, decide_eq_true_eq, Bool.not_eq_true', List.any_eq_false]
    refine ⟨g1, by unfold axpyL; rw [List.length_zipWith, ← hl, Nat.min_self, g2], fun x hx => ?_, ?_⟩
    · obtain ⟨s, t, hs, ht, rfl⟩ := axpy_mem hx
      have e1 := g3 s hs
      have e2 := k3 t ht
      have e3 : 0 ≤ q * t := Rat.mul_nonneg (by grind) (by grind)
      grind
    · refine comesB_true fun i row x hr hx => ?_
      rw [dotL_comm, dotL_add z r row q hl, dotL_comm z, dotL_comm r]
      unfold comesB at g4 k4
      rw [List.all_eq_true] at g4 k4
      have e1 := g4 (row, x) (List.mem_of_getElem? (List.getElem?_zip_eq_some.2 ⟨hr, hx⟩))
      have e2 := k4 (row, 0) (List.mem_of_getElem? (List.getElem?_zip_eq_some.2 ⟨hr, by rw [List.getElem?_replicate, if_pos (List.getElem?_eq_some_iff.1 hr).1]⟩))
      simp only [decide_eq_true_eq] at e1 e2
      rw [e1, e2]; grind
  · rw [dotL_comm C, dotL_add z r C q hl, dotL_comm z, dotL_comm r]
    have e : 0 < q * -(dotL C r) := Rat.mul_pos hq (by grind)
    grind
theorem two_best {y' u' : List Rat} (h : bestB A B C ok y u = true) (k : bestB A B C ok y' u' = true) : dotL C y = dotL C y' := by
  have e1 := best_least h (bestB_parts k).1
  have e2 := best_least k (bestB_parts h).1
  grind
end
end Go.Proofs.YthncinngkfflgaaGreat


/- CertTwice: the walk. -/
set_option linter.unusedVariables false
set_option linter.unusedSimpArgs false
set_option maxRecDepth 100000
namespace Go.Proofs.YthncinngkfflgaaGreat
open Go.RowKit Go.Shelf
attribute [local go_sem ↓] Go.wp_at_zero Go.wp_at_succ

/-- a problem in standard form that came in -/
def ArgStd (w : World) (v : Value) : Prop := ∃ vA vB vC A B C, v = .agg #[vA, vB, vC] ∧ Tab EAny w vA A ∧ Rats EAny w vB B ∧ Rats EAny w vC C
/-- a proof's numbers that came in -/
def ArgProof (w : World) (v : Value) : Prop := ∃ vY vU vR y u r, v = .agg #[vY, vU, vR] ∧ Rats EAny w vY y ∧ Rats EAny w vU u ∧ Rats EAny w vR r

end Go.Proofs.YthncinngkfflgaaGreat


/- CertHolds: the walk. -/
set_option linter.unusedVariables false
set_option linter.unusedSimpArgs false
set_option maxRecDepth 100000
namespace Go.Proofs.YthncinngkfflgaaGreat
open Go.RowKit Go.Shelf
attribute [local go_sem ↓] Go.wp_at_zero Go.wp_at_succ

theorem sized_1000 : Sized 1000 1 := sized_small (by decide) (by decide)
end Go.Proofs.YthncinngkfflgaaGreat
