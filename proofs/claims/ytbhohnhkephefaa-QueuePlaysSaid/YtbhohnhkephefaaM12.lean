import Derived.Test.YtbhohnhkephefaaM11

/- Rows of fractions: zero, pairs. -/
set_option linter.unusedVariables false
set_option linter.unusedSimpArgs false
set_option maxRecDepth 100000
namespace Go.Proofs.Ytbhohnhkephefaa
open Go.RowKit Go.Shelf
attribute [local go_sem ↓] Go.wp_at_zero Go.wp_at_succ

theorem zipWith_take_ {α β γ : Type} (f : α → β → γ) (a : List α) (b : List β) : List.zipWith f a (b.take a.length) = List.zipWith f a b := by
  induction a generalizing b with
  | nil => simp
  | cons x a ih => cases b with
    | nil => simp
    | cons y b => simp [ih]
theorem rawR_zero (w : World) (k : Nat) : RawR w (.agg #[.bool false, .slice none 0 0, .bool false, .slice none 0 0]) 0 k :=
  ⟨_, _, _, _, _, _, _, _, 0, 0, rfl, rawI_zero w k, rawI_zero w k, by rw [ratOf_not (by omega)]⟩

end Go.Proofs.Ytbhohnhkephefaa


/- Rows of fractions: AddTimes. -/
set_option linter.unusedVariables false
set_option linter.unusedSimpArgs false
set_option maxRecDepth 100000
namespace Go.Proofs.Ytbhohnhkephefaa
open Go.RowKit Go.Shelf
attribute [local go_sem ↓] Go.wp_at_zero Go.wp_at_succ

theorem rawR_len {w : World} {s s' : Bool} {A A' : Option Addr} {n c n' c' k : Nat} {q : Rat} (h : RawR w (.agg #[.bool s, .slice A n c, .bool s', .slice A' n' c']) q k) (h0 : n = 0) : q = 0 := by
  subst h0
  obtain ⟨a, A1, n1, c1, b, A2, n2, c2, x, y, e, h1, h2, rfl⟩ := h
  injection e with e; injection e with e; injection e with e1 e; injection e with e2 e
  obtain ⟨neg, A3, n3, c3, l, e3, hu, hz, hl⟩ := h1
  injection e3 with e3; injection e3 with e3; injection e3 with e4 e3; injection e3 with e5 e3
  obtain ⟨A4, c4, e6, -, -, -, -⟩ := hu.form
  rw [← e5, ← e2] at e6
  injection e6 with _ e7 _
  have hl0 : l = [] := List.eq_nil_of_length_eq_zero e7.symm
  subst hl0
  have hx0 : x = 0 := by rw [hz]; cases neg <;> rfl
  rw [hx0]
  by_cases hy : 0 < y
  · rw [ratOf_pos hy, Rat.divInt_eq_div]; simp [Rat.div_def]
  · exact ratOf_not hy

/-- the k-th by k: one and so many times the other -/
def axpyL (a b : List Rat) (q : Rat) : List Rat := List.zipWith (fun x y => x + q * y) a b

end Go.Proofs.Ytbhohnhkephefaa


/- Rows of fractions: Dot. -/
set_option linter.unusedVariables false
set_option linter.unusedSimpArgs false
set_option maxRecDepth 100000
namespace Go.Proofs.Ytbhohnhkephefaa
open Go.RowKit Go.Shelf
attribute [local go_sem ↓] Go.wp_at_zero Go.wp_at_succ

/-- the sum -/
def sumR (l : List Rat) : Rat := l.foldl (· + ·) 0
theorem sumR_snoc (l : List Rat) (x : Rat) : sumR (l ++ [x]) = sumR l + x := by simp [sumR, List.foldl_append]
theorem sumR_nil : sumR [] = 0 := rfl
theorem sized_sumR {l : List Rat} {K : Nat} (h : ∀ q ∈ l, Sized q K) : Sized (sumR l) (l.length * (K + 1) + 1) := by
  obtain ⟨r, hr⟩ : ∃ r, r = l.reverse := ⟨_, rfl⟩
  have hl : l = r.reverse := by rw [hr, List.reverse_reverse]
  subst hl
  clear hr
  induction r with
  | nil => exact (Sized.zero 0).mono (by simp)
  | cons x r ih =>
    rw [List.reverse_cons, sumR_snoc]
    refine (Sized.add (ih fun q hq => h q (by rw [List.reverse_cons]; exact List.mem_append_left _ hq)) (h x (by simp))).mono ?_
    simp only [List.length_append, List.length_reverse, List.length_singleton, Nat.add_mul, Nat.one_mul]
    omega
theorem Rats.sized {k : Nat} {w : World} {v : Value} {l : List Rat} (h : Rats (ERaw k) w v l) : ∀ q ∈ l, Sized q (k+1) := by
  intro q hq
  obtain ⟨i, hi⟩ := List.getElem?_of_mem hq
  obtain ⟨A, c, e, -, -, h3⟩ := h
  obtain ⟨b, off, s, A1, n1, c1, s', A2, n2, c2, -, -, -, -, -, hE⟩ := h3 i q hi
  exact RawR.sized hE
theorem sized_zip {a b : List Rat} {k m : Nat} (ha : ∀ q ∈ a, Sized q k) (hb : ∀ q ∈ b, Sized q m) : ∀ q ∈ List.zipWith (fun x y => x * y) a b, Sized q (k + m) := by
  induction a generalizing b with
  | nil => simp
  | cons x a ih => cases b with
    | nil => simp
    | cons y b =>
      intro q hq
      rw [List.zipWith_cons_cons] at hq
      rcases List.mem_cons.1 hq with rfl | hq
      · exact (ha x (List.mem_cons_self ..)).mul (hb y (List.mem_cons_self ..))
      · exact ih (fun q h => ha q (List.mem_cons_of_mem _ h)) (fun q h => hb q (List.mem_cons_of_mem _ h)) q hq
/-- the sum of the products -/
def dotL (a b : List Rat) : Rat := sumR (List.zipWith (fun x y => x * y) a b)

theorem Own32.of_agree {T : TypeId} {w : World} {P : Nat → Prop} {B : Nat} {v : Value} {l : List Nat} (h : On w P (fun W => Own32 T W 0 v l)) (hP : ∀ b, P b → B ≤ b) : Own32 T w B v l := by
  obtain ⟨h1, h2, h3⟩ := h.now
  refine ⟨h1, h2, ?_⟩
  rcases h3 with h3 | ⟨g, cap, cur, rfl, hb, hg, r⟩
  · exact .inl h3
  · refine .inr ⟨g, cap, cur, rfl, ?_, hg, r⟩
    obtain ⟨F, f1, f2⟩ := h
    by_cases hF : F g
    · exact hP g (f1 g hF).1
    · -- the block may be taken away, and the fact must stand all the same: it can't
      exfalso
      have h4 := f2 { w with heap := w.heap.set g (.cells #[] T (0, 1)) (by have := Array.getElem?_eq_some_iff.1 hg; exact this.1) } (fun b hb => by
        have hne : g ≠ b := fun e => hF (e ▸ hb)
        simp [Array.getElem?_set, hne])
      obtain ⟨-, -, h5⟩ := h4
      rcases h5 with ⟨h5, -⟩ | ⟨g', cap', cur', e, hb', hg', r'⟩
      · cases h5
      · injection e with e1 e2 e3
        injection e1 with e1; injection e1 with e1
        subst e1
        simp at hg'
theorem OwnR.of_on {w : World} {P : Nat → Prop} {B : Nat} {v : Value} {q : Rat} (h : On w P (fun W => OwnR W 0 v q)) (hP : ∀ b, P b → B ≤ b) : OwnR w B v q := by
  obtain ⟨A, n, c, A', n', c', e, h1, h2⟩ := h.now
  subst e
  refine ⟨A, n, c, A', n', c', rfl, Own32.of_agree (h.map fun W hW => ?_) hP, Own32.of_agree (h.map fun W hW => ?_) hP⟩
  · have := hW.num.own; exact this
  · have := hW.den.own; rw [Int.natAbs_natCast] at this; exact this
/-- what a round of Dot holds -/
def DotAt (w : World) (g : Nat) (ps : List Rat) (pv : Value) (k : Nat) (wr : World) : Prop :=
  ∃ s A n c A' n' c', Row wr g 35 [.bool s, .slice A n c, .bool false, .slice A' n' c'] ∧ On wr (fun b => w.heap.size < b ∧ b ≠ g) (fun W => OwnR W 0 (.agg #[.bool s, .slice A n c, .bool false, .slice A' n' c']) (sumR (ps.take k))) ∧
    On wr (fun b => w.heap.size < b ∧ b ≠ g) (fun W => Rats EOwn W pv ps) ∧ Row wr w.heap.size 35 [.bool false, .slice none 0 0, .bool false, .slice none 0 0] ∧ Later w wr ∧ w.heap.size < g

end Go.Proofs.Ytbhohnhkephefaa
