import Derived.Test.YthncinngkfflgaaGreatM14

/- Tables: Solve. -/
set_option linter.unusedVariables false
set_option linter.unusedSimpArgs false
set_option maxRecDepth 100000
namespace Go.Proofs.YthncinngkfflgaaGreat
open Go.RowKit Go.Shelf
attribute [local go_sem ↓] Go.wp_at_zero Go.wp_at_succ

theorem OutRats.weaken {E : Elem} {w : World} {P : Nat → Prop} {lo lo' : Nat} {v : Value} {l : List Rat} (h : OutRats E w P lo v l) (hl : lo' ≤ lo) : OutRats E w P lo' v l := by
  obtain ⟨es, h1, h2, h3, h4⟩ := h
  exact ⟨es, h1, ownsRow_weaken h2 hl, h3, h4⟩
/-- what Solve answers -/
def SolvePost (w : World) (n : Nat) (t : List (List Rat)) (b : List Rat) (K : Nat) (e : Ending) (w' : World) : Prop :=
  ∃ v o, e = .returned (.tuple #[v, .bool o]) ∧ Later w w' ∧ ((o = false ∧ v = .slice none 0 0 ∧ SingF n (ent t)) ∨
    (o = true ∧ ∃ x : List Rat, x.length = n ∧ OutRats EOwn w' (fun b => w.heap.size ≤ b) w.heap.size v x ∧ (∀ q ∈ x, Sized q (K + 1)) ∧ SolF n (ent t) (fun i => b.getD i 0) (fun i => x.getD i 0) ∧ ¬ SingF n (ent t)))

end Go.Proofs.YthncinngkfflgaaGreat


/- Tables: what the laws make of numbers; Tables. -/
set_option linter.unusedVariables false
set_option linter.unusedSimpArgs false
set_option maxRecDepth 100000
namespace Go.Proofs.YthncinngkfflgaaGreat
open Go.RowKit Go.Shelf
attribute [local go_sem ↓] Go.wp_at_zero Go.wp_at_succ

theorem rats_one {E : Elem} {w : World} {g : Nat} {s s' : Bool} {A A' : Option Addr} {n c n' c' : Nat} {p : Rat} (hr : Row w g 37 [.bool s, .slice A n c, .bool s', .slice A' n' c']) (h : E w (.agg #[.bool s, .slice A n c, .bool s', .slice A' n' c']) p) :
    Rats E w (.slice (some ⟨g, 0, none⟩) 1 1) [p] := by
  refine ⟨_, 1, rfl, Nat.le_refl _, by decide, fun i q hi => ?_⟩
  match i, hi with
  | 0, hi => simp at hi; subst hi; exact ⟨g, 0, s, A, n, c, s', A', n', c', rfl, hr.cell rfl, hr.cell rfl, hr.cell rfl, hr.cell rfl, h⟩
  | i+1, hi => simp at hi
theorem rats_two {E : Elem} {w : World} {g : Nat} {s s' r r' : Bool} {A A' B B' : Option Addr} {n c n' c' m d m' d' : Nat} {p q : Rat} (hr : Row w g 37 [.bool s, .slice A n c, .bool s', .slice A' n' c', .bool r, .slice B m d, .bool r', .slice B' m' d'])
    (h : E w (.agg #[.bool s, .slice A n c, .bool s', .slice A' n' c']) p) (k : E w (.agg #[.bool r, .slice B m d, .bool r', .slice B' m' d']) q) :
    Rats E w (.slice (some ⟨g, 0, none⟩) 2 2) [p, q] := by
  refine ⟨_, 2, rfl, Nat.le_refl _, by decide, fun i q hi => ?_⟩
  match i, hi with
  | 0, hi => simp at hi; subst hi; exact ⟨g, 0, s, A, n, c, s', A', n', c', rfl, hr.cell rfl, hr.cell rfl, hr.cell rfl, hr.cell rfl, h⟩
  | 1, hi => simp at hi; subst hi; exact ⟨g, 0, r, B, m, d, r', B', m', d', rfl, hr.cell rfl, hr.cell rfl, hr.cell rfl, hr.cell rfl, k⟩
  | i+2, hi => simp at hi
theorem tab_two {E : Elem} {w : World} {g : Nat} {A B : Option Addr} {n c m d : Nat} {p q : List Rat} (hr : Row w g 23 [.slice A n c, .slice B m d]) (h : Rats E w (.slice A n c) p) (k : Rats E w (.slice B m d) q) :
    Tab E w (.slice (some ⟨g, 0, none⟩) 2 2) [p, q] := by
  refine ⟨_, 2, rfl, Nat.le_refl _, by decide, fun i row hi => ?_⟩
  match i, hi with
  | 0, hi => simp at hi; subst hi; exact ⟨g, 0, A, n, c, rfl, hr.cell rfl, h⟩
  | 1, hi => simp at hi; subst hi; exact ⟨g, 0, B, m, d, rfl, hr.cell rfl, k⟩
  | i+2, hi => simp at hi

set_option maxHeartbeats 1000000 in
theorem lawof_calls (w : World) (n : Int) (h1 : -9223372036854775808 ≤ n) (h2 : n < 9223372036854775808) (q : Rat) (hq : Rat.divInt n 1 = q) :
    Calls Tryz.prog 54 #[.int .i64 n] w (Ret w fun w' v => OwnR w' w.heap.size v q) := by
  obtain ⟨W0, hW0⟩ : ∃ W0, W0 = w.alloc (Obj.cells #[Value.bool false, Value.slice none 0 0, Value.bool false, Value.slice none 0 0] 37) := ⟨_, rfl⟩
  obtain ⟨hb0, r1, hsz0⟩ := boxes1 w [.bool false, .slice none 0 0, .bool false, .slice none 0 0] 37 hW0
  have R1 := hide r1; have B0' := hide hb0; have HW0 := hide hW0
  clear r1 hb0 hW0
  go_enter Tryz.func54, Tryz.ntmps54
  go_wp2_with fail
  rw [← HW0.out]
  refine (qof_calls _ n 1 h1 h2 (by omega) (by omega) (by omega) q hq).mono ?_
  rintro e w1 ⟨v1, ok1, rfl, ⟨o1, rfl⟩, b1⟩
  obtain ⟨s1, P1, q1, e1, P1', q1', e1', rfl, o1⟩ := o1.open_; have O1 := hide o1; clear o1
  have hs1 := b1.size
  have hb2 := b1.alloc (Obj.cells #[Value.bool s1, Value.slice P1 q1 e1, Value.bool false, Value.slice P1' q1' e1'] 37)
  have HR := hide (R1.out.later hb2)
  have hL := hide (B0'.out.trans hb2)
  obtain ⟨d1, d2, d3, d4, d5, d6, d7, d8⟩ := row_cells4 HR.out
  go_wp2_with fail
  refine bodyPost_ret (results_rat rfl rfl (HR.out.four _ _ _ _)) rfl ?_
  have oo := Only.four w.heap.size (w1.alloc (Obj.cells #[Value.bool s1, Value.slice P1 q1 e1, Value.bool false, Value.slice P1' q1' e1'] 37)) (.bool s1) (.slice P1 q1 e1) (.bool false) (.slice P1' q1' e1')
  exact ⟨_, rfl, ((O1.out.later ((Later.refl _).alloc _)).only oo (by omega)).weaken (by omega), hL.out.only oo (Nat.le_refl _)⟩

end Go.Proofs.YthncinngkfflgaaGreat


/- The small numbers that awake asks about. No program is in sight here. -/
set_option linter.unusedVariables false
set_option linter.unusedSimpArgs false
namespace Go.Proofs.YthncinngkfflgaaGreat
theorem sized_small {q : Rat} (h1 : q.num.natAbs < 2 ^ 32) (h2 : q.den < 2 ^ 32) : Sized q 1 := ⟨length_limbs_le (by simpa using h1), length_limbs_le (by simpa using h2)⟩
theorem sized_0 : Sized 0 1 := sized_small (by decide) (by decide)
theorem sized_1 : Sized 1 1 := sized_small (by decide) (by decide)
theorem sized_2 : Sized 2 1 := sized_small (by decide) (by decide)
theorem sized_3 : Sized 3 1 := sized_small (by decide) (by decide)
theorem sized_m1 : Sized (-1) 1 := sized_small (by decide) (by decide)
theorem sized_m2 : Sized (-2) 1 := sized_small (by decide) (by decide)
theorem sized_half : Sized (1/2) 1 := sized_small (by decide +kernel) (by decide +kernel)
theorem div_0 : Rat.divInt 0 1 = 0 := by decide +kernel
theorem div_1 : Rat.divInt 1 1 = 1 := by decide +kernel
theorem div_2 : Rat.divInt 2 1 = 2 := by decide +kernel
theorem div_3 : Rat.divInt 3 1 = 3 := by decide +kernel
theorem div_m1 : Rat.divInt (-1) 1 = -1 := by decide +kernel
theorem div_m2 : Rat.divInt (-2) 1 = -2 := by decide +kernel
theorem div_half : Rat.divInt 1 2 = 1/2 := by decide +kernel
/-- the table of awake -/
def tA : List (List Rat) := [[2, 1], [1, 1]]
def bA : List Rat := [3, 2]
theorem awk_notsing : ¬ SingF 2 (ent tA) := by
  rintro ⟨z, ⟨k, hk, hz⟩, h⟩
  have h0 := h 0 (by omega)
  have h1 := h 1 (by omega)
  simp [sumTo, ent, tA] at h0 h1
  have e0 : z 0 = 0 := by grind
  have e1 : z 1 = 0 := by grind
  match k, hk, hz with
  | 0, _, hz => exact hz e0
  | 1, _, hz => exact hz e1
theorem awk_sol {x : List Rat} (hl : x.length = 2) (h : SolF 2 (ent tA) (fun i => bA.getD i 0) (fun i => x.getD i 0)) : x = [1, 1] := by
  match x, hl with
  | [a, b], _ =>
    have h0 := h 0 (by omega)
    have h1 := h 1 (by omega)
    simp [sumTo, ent, tA, bA] at h0 h1
    have e0 : a = 1 := by grind
    have e1 : b = 1 := by grind
    rw [e0, e1]
theorem awk_piv : pivL tA 0 0 = [[1, 1/2], [0, 1/2]] := by decide +kernel
theorem awk_dot : dotL [2, 1] [1, 1] = 3 := by decide +kernel
theorem awk_axpy : axpyL [2, 1] [1, 1] (-2) = [0, -1] := by decide +kernel
theorem sized_list1 {l : List Rat} (h : ∀ q ∈ l, q = 0 ∨ q = 1 ∨ q = 2 ∨ q = 3 ∨ q = -1 ∨ q = -2 ∨ q = 1/2) : ∀ q ∈ l, Sized q 1 := by
  intro q hq
  rcases h q hq with rfl | rfl | rfl | rfl | rfl | rfl | rfl
  · exact sized_0
  · exact sized_1
  · exact sized_2
  · exact sized_3
  · exact sized_m1
  · exact sized_m2
  · exact sized_half
end Go.Proofs.YthncinngkfflgaaGreat
