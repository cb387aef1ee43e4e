import Derived.Test.YthncinngkfflgaaGreatM34

/- Proofs of standard forms: the reference's Endless, Proves, Few. -/
set_option linter.unusedVariables false
set_option linter.unusedSimpArgs false
set_option maxRecDepth 100000
namespace Go.Proofs.YthncinngkfflgaaGreat
open Go.RowKit Go.Shelf
attribute [local go_sem ↓] Go.wp_at_zero Go.wp_at_succ

theorem tab_lens {E F : Elem} {w : World} {v : Value} {t ft : List (List Rat)} {m : Nat} (h : Tab E w v t) (g : Tab F w v ft) (hl : ∀ r ∈ t, r.length ≤ m) : ft.length = t.length ∧ ∀ r ∈ ft, r.length ≤ m := by
  obtain ⟨A, n, c, rfl, hn, -, -, -⟩ := h.form
  have hn2 : n = ft.length := by obtain ⟨_, _, _, e, e2, -, -, -⟩ := g.form; injection e with _ e _; rw [e, e2]
  refine ⟨by omega, fun f hf => ?_⟩
  obtain ⟨i, hi⟩ := List.getElem?_of_mem hf
  have hil := (List.getElem?_eq_some_iff.1 hi).1
  obtain ⟨row, hrow⟩ : ∃ x, t[i]? = some x := ⟨t[i]'(by omega), List.getElem?_eq_getElem _⟩
  obtain ⟨b, off, A', n', c', rfl, x1, x2⟩ := h.at_ hrow
  obtain ⟨b', off', A'', n'', c'', e, y1, y2⟩ := g.at_ hi
  injection e with e
  injection e with e1 e2 e3
  subst e1 e2
  rw [x1] at y1
  injection y1 with y1
  injection y1 with z1 z2 z3
  subst z1 z2 z3
  have k1 := x2.len_
  have k2 := y2.len_
  have := hl row (List.mem_of_getElem? hrow)
  omega
theorem std_in {w : World} {vA vB vC : Value} {A : List (List Rat)} {B C : List Rat} {most : Nat} (hm : most ≤ 1000) (a1 : A.length ≤ most) (a2 : ∀ row ∈ A, row.length ≤ most) (b1 : B.length ≤ most) (c1 : C.length ≤ most)
    (ha : Tab (ERaw 1) w vA A) (hb : Rats (ERaw 1) w vB B) (hc : Rats (ERaw 1) w vC C) : ∃ ok, StdIn w vA vB vC 1 A B C ok := by
  obtain ⟨fA, -, g1⟩ := tab_flags ha (by omega)
  obtain ⟨fB, -, g2⟩ := rats_flags hb (by omega)
  obtain ⟨fC, -, g3⟩ := rats_flags hc (by omega)
  have hl := tab_lens ha g1 a2
  exact ⟨_, fA, fB, fC, ha, hb, hc, g1, g2, g3, rfl, by omega, fun r hr => by have := a2 r hr; omega, fun r hr => by have := hl.2 r hr; omega, by omega, by omega, by omega⟩
/-- what is told of a small problem in standard form -/
def FewStd (w : World) (vA vB vC : Value) (A : List (List Rat)) (B C : List Rat) (most : Nat) (e : Ending) (w' : World) : Prop :=
  ∃ u, e = .returned (.bool u) ∧ (u = true → A.length ≤ most ∧ B.length ≤ most ∧ C.length ≤ most ∧ ∃ ok, StdIn w' vA vB vC 1 A B C ok) ∧ Later w w'
set_option maxHeartbeats 4000000 in
theorem fewstd_calls (w : World) (vA vB vC : Value) (A : List (List Rat)) (B C : List Rat) (most : Nat) (ha : Tab EAny w vA A) (hb : Rats EAny w vB B) (hc : Rats EAny w vC C) (hm : most ≤ 1000) :
    Calls Tryz.prog 13 #[.agg #[vA, vB, vC], .int .i64 (most : Int)] w (FewStd w vA vB vC A B C most) := by
  have HA := hide ha; have HB := hide hb; have HC := hide hc
  obtain ⟨A1, n1, c1, rfl, -⟩ := ha.form
  obtain ⟨A2, n2, c2, rfl, -⟩ := hb.form
  obtain ⟨A3, n3, c3, rfl, -⟩ := hc.form
  clear ha hb hc
  obtain ⟨W0, hW0⟩ : ∃ W0, W0 = w.alloc (Obj.cells #[Value.slice A1 n1 c1, Value.slice A2 n2 c2, Value.slice A3 n3 c3] 25) := ⟨_, rfl⟩
  obtain ⟨hb0, r1, hsz0⟩ := boxes1 w [.slice A1 n1 c1, .slice A2 n2 c2, .slice A3 n3 c3] 25 hW0
  have B0 := hide hb0; have HW0 := hide hW0; have R0 := hide r1
  have d1 := r1.cell (i := 0) rfl; have d2 := r1.cell (i := 1) rfl; have d3 := r1.cell (i := 2) rfl
  clear r1 hb0 hW0 hsz0
  go_enter Tryz.func13, Tryz.ntmps13
  go_upto_region 1 with fail
  rw [← HW0.out]
  go_wp2_with fail
  refine (fewrows_calls W0 _ A most (HA.out.later EAny.later B0.out) (by omega)).mono ?_
  rintro e w1 ⟨u1, rfl, h1, rfl⟩
  have H1 := hide h1
  clear h1
  cases u1 with
  | false =>
    go_wp2_with fail
    go_ret
    exact ⟨false, rfl, (fun h => by cases h), B0.out⟩
  | true =>
  go_wp2_with fail
  refine (few_calls W0 _ B most (HB.out.later EAny.later B0.out) (by omega)).mono ?_
  rintro e w1 ⟨u2, rfl, h2, rfl⟩
  have H2 := hide h2
  clear h2
  cases u2 with
  | false =>
    go_wp2_with fail
    go_ret
    exact ⟨false, rfl, (fun h => by cases h), B0.out⟩
  | true =>
  go_wp2_with fail
  refine (few_calls W0 _ C most (HC.out.later EAny.later B0.out) (by omega)).mono ?_
  rintro e w1 ⟨u3, rfl, h3, rfl⟩
  have H3 := hide h3
  clear h3
  go_wp2_with fail
  go_ret
  refine ⟨u3, rfl, fun h => ?_, B0.out⟩
  obtain ⟨a1, a2, a3⟩ := H1.out trivial
  obtain ⟨x1, x2⟩ := H2.out trivial
  obtain ⟨y1, y2⟩ := H3.out h
  obtain ⟨ok, hok⟩ := std_in hm a1 a2 x1 y1 a3 x2 y2
  exact ⟨a1, x1, y1, ok, hok⟩
end Go.Proofs.YthncinngkfflgaaGreat
