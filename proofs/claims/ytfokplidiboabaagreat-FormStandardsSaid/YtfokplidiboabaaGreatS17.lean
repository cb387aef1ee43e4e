/- Proofs of standard forms: the law's numbers; awake. -/
import Derived.Test.YtfokplidiboabaaGreatS16
import Derived.Test.YtfokplidiboabaaGreatS14
set_option linter.unusedVariables false
set_option linter.unusedSimpArgs false
set_option maxRecDepth 100000
namespace Go.Proofs.YtfokplidiboabaaGreat
open Go.RowKit Go.Shelf
attribute [local go_sem ↓] Go.wp_at_zero Go.wp_at_succ
theorem tab_own_flags {w : World} {v : Value} {t : List (List Rat)} (h : Tab EOwn w v t) (hs : ∀ r ∈ t, ∀ q ∈ r, Sized q 1000) : Tab EFlag w v (t.map fun r => List.replicate r.length 1) := by
 obtain ⟨A, c, e, h1, h2, h3⟩ := h
 refine ⟨A, c, by simpa using e, by simpa using h1, h2, fun i row hi => ?_⟩
 rw [List.getElem?_map] at hi
 cases ht : t[i]? with
 | none => rw [ht] at hi; cases hi
 | some r =>
   rw [ht] at hi
   injection hi with hi
   subst hi
   obtain ⟨b, off, A', n', c', hA, x1, hr⟩ := h3 i r ht
   exact ⟨b, off, A', n', c', hA, x1, rats_own_flags hr (hs r (List.mem_of_getElem? ht))⟩
theorem allF_ones (n : Nat) : allF (List.replicate n 1) = true := by
 unfold allF
 rw [List.all_eq_true]
 intro x hx
 rw [List.mem_replicate] at hx
 rw [hx.2]; decide
theorem std_own {w : World} {vA vB vC : Value} {A : List (List Rat)} {B C : List Rat} (ha : Tab EOwn w vA A) (hb : Rats EOwn w vB B) (hc : Rats EOwn w vC C)
 (s1 : ∀ r ∈ A, ∀ q ∈ r, Sized q 1) (s2 : ∀ q ∈ B, Sized q 1) (s3 : ∀ q ∈ C, Sized q 1) (l1 : A.length <= 1000) (l2 : ∀ r ∈ A, r.length <= 1000) (l3 : B.length <= 1000) (l4 : C.length <= 1000) : StdIn w vA vB vC 1 A B C true := by
 refine ⟨_, _, _, ha.map (fun row hr v q hq he => OwnR.raw (B := 0) he (s1 row hr q hq)), hb.map (fun v q hq he => OwnR.raw (B := 0) he (s2 q hq)), hc.map (fun v q hq he => OwnR.raw (B := 0) he (s3 q hq)), tab_own_flags ha (fun r hr q hq => (s1 r hr q hq).mono (by omega)), rats_own_flags hb (fun q hq => (s2 q hq).mono (by omega)), rats_own_flags hc (fun q hq => (s3 q hq).mono (by omega)), ?_, by omega, l2, ?_, l1, l3, l4⟩
 ·rw [allF_ones, allF_ones]
  have : allFF (A.map fun r => List.replicate r.length 1) = true := by
   unfold allFF
   rw [List.all_eq_true]
   intro r hr
   obtain ⟨q, -, rfl⟩ := List.mem_map.1 hr
   exact allF_ones _
  rw [this]; rfl
 ·intro r hr
  obtain ⟨q, hq, rfl⟩ := List.mem_map.1 hr
  rw [List.length_replicate]; exact l2 q hq
theorem rats_nil (E : Elem) (w : World) : Rats E w (.slice none 0 0) [] := ⟨none, 0, rfl, Nat.le_refl _, by decide, fun i q hi => by simp at hi⟩
end Go.Proofs.YtfokplidiboabaaGreat
