import Derived.Test.YthncinngkfflgaaGreatM13

/- Tables: Clone, scaled, the test of Solve. -/
set_option linter.unusedVariables false
set_option linter.unusedSimpArgs false
set_option maxRecDepth 100000
namespace Go.Proofs.YthncinngkfflgaaGreat
open Go.RowKit Go.Shelf
attribute [local go_sem ↓] Go.wp_at_zero Go.wp_at_succ

def es_len_ (es : List (Bool × Value × Bool × Value)) : Nat := es.length * 4
theorem flat4_len (es : List (Bool × Value × Bool × Value)) : (es.flatMap fun (e : Bool × Value × Bool × Value) => [Value.bool e.1, e.2.1, Value.bool e.2.2.1, e.2.2.2]).length = es_len_ es := by
  unfold es_len_
  induction es with
  | nil => rfl
  | cons a es ih => simp only [List.flatMap_cons, List.length_append, ih, List.length_cons, List.length_nil]; omega
theorem Rats.list {E : Elem} {w : World} {b off n c : Nat} {l : List Rat} (h : Rats E w (.slice (some ⟨b, off, none⟩) n c) l) (hn : n = l.length) :
    ∃ es : List (Bool × Value × Bool × Value), es.length = l.length ∧ (∀ e ∈ es, (∃ A n c, e.2.1 = .slice A n c) ∧ (∃ A n c, e.2.2.2 = .slice A n c)) ∧
      Src w 4 (.slice (some ⟨b, off, none⟩) n c) n (es.flatMap fun (e : Bool × Value × Bool × Value) => [Value.bool e.1, e.2.1, Value.bool e.2.2.1, e.2.2.2]) ∧
      ∀ (i : Nat) (e : Bool × Value × Bool × Value) (q : Rat), es[i]? = some e → l[i]? = some q → E w (.agg #[.bool e.1, e.2.1, .bool e.2.2.1, e.2.2.2]) q := by
  have h1 : ∀ i : Fin l.length, ∃ e : Bool × Value × Bool × Value, ((∃ A n c, e.2.1 = .slice A n c) ∧ (∃ A n c, e.2.2.2 = .slice A n c)) ∧ (∀ r u, [Value.bool e.1, e.2.1, Value.bool e.2.2.1, e.2.2.2][r]? = some u → w.cell? ⟨b, off + i.1 * 4 + r, none⟩ = some u) ∧
      E w (.agg #[.bool e.1, e.2.1, .bool e.2.2.1, e.2.2.2]) (l[i.1]'i.2) := by
    intro i
    obtain ⟨b', off', s, A1, n1, c1, s', A2, n2, c2, ha, x1, x2, x3, x4, hE⟩ := h.at_ (i := i.1) (List.getElem?_eq_getElem i.2)
    injection ha with ha; injection ha with ha1 ha2
    subst ha1 ha2
    refine ⟨(s, .slice A1 n1 c1, s', .slice A2 n2 c2), ⟨⟨_, _, _, rfl⟩, ⟨_, _, _, rfl⟩⟩, fun r u hr => ?_, hE⟩
    match r, hr with
    | 0, hr => simp at hr; subst hr; exact x1
    | 1, hr => simp at hr; subst hr; exact x2
    | 2, hr => simp at hr; subst hr; exact x3
    | 3, hr => simp at hr; subst hr; exact x4
    | r+4, hr => simp at hr
  obtain ⟨f, hf⟩ := Classical.axiomOfChoice h1
  have hget : ∀ i (hi : i < l.length), (List.ofFn f)[i]? = some (f ⟨i, hi⟩) := fun i hi => by rw [List.getElem?_ofFn, dif_pos hi]
  have hlen : (List.ofFn f).length = l.length := List.length_ofFn
  refine ⟨List.ofFn f, hlen, ?_, ⟨?_, ?_, .inr ⟨⟨b, off, none⟩, c, rfl, fun j u hj => ?_⟩⟩, ?_⟩
  · intro e he
    obtain ⟨i, hi⟩ := List.getElem?_of_mem he
    have hil : i < l.length := by rw [← hlen]; exact (List.getElem?_eq_some_iff.1 hi).1
    rw [hget i hil] at hi
    injection hi with hi
    rw [← hi]; exact (hf ⟨i, hil⟩).1
  · rw [flat4_len]; unfold es_len_; omega
  · intro u hu
    rw [List.mem_flatMap] at hu
    obtain ⟨e, he, hu⟩ := hu
    obtain ⟨i, hi⟩ := List.getElem?_of_mem he
    have hil : i < l.length := by rw [← hlen]; exact (List.getElem?_eq_some_iff.1 hi).1
    rw [hget i hil] at hi
    injection hi with hi
    obtain ⟨⟨A1, n1, c1, e1⟩, ⟨A2, n2, c2, e2⟩⟩ := (hf ⟨i, hil⟩).1
    rw [hi] at e1 e2
    rw [e1, e2] at hu
    simp at hu
    rcases hu with rfl | rfl | rfl | rfl <;> rfl
  · rw [Go.WideShapes.add_plain]
    have hjl : j / 4 < (List.ofFn f).length := by
      rcases Nat.lt_or_ge (j / 4) (List.ofFn f).length with h | h
      · exact h
      · exfalso
        have : (es_len_ (List.ofFn f)) ≤ j := by unfold es_len_; omega
        rw [List.getElem?_eq_none (by rw [flat4_len]; exact this)] at hj; cases hj
    have hee := hget (j / 4) (by rw [← hlen]; exact hjl)
    have h2 := flat4_get (List.ofFn f) (j / 4) (j % 4) (Nat.mod_lt _ (by omega)) _ hee
    rw [show j / 4 * 4 + j % 4 = j by omega, hj] at h2
    have h3 := (hf ⟨j / 4, by rw [← hlen]; exact hjl⟩).2.1 (j % 4) u h2.symm
    rw [show off + j / 4 * 4 + j % 4 = off + j by omega] at h3
    exact h3
  · intro i e q hi hq
    have hil : i < l.length := (List.getElem?_eq_some_iff.1 hq).1
    rw [hget i hil] at hi
    injection hi with hi
    rw [List.getElem?_eq_getElem hil] at hq
    injection hq with hq
    rw [← hi, ← hq]; exact (hf ⟨i, hil⟩).2.2

theorem own_empty (w : World) (e : TypeId) (size : Nat) : (w.alloc (Obj.cells #[] e)).ownsRow w.heap.size e size (.slice (some ⟨w.heap.size, 0, none⟩) 0 0) 0 [] :=
  ⟨by simp, .inr ⟨w.heap.size, 0, #[], rfl, Nat.le_refl _, Row.new w e [], Nat.le_refl _, Nat.zero_le _, by simp, by simp⟩⟩
theorem On.list_ {α : Type} {w : World} {P : Nat → Prop} {T : Nat → α → World → Prop} (n : Nat) (f : Nat → Option α) (h : ∀ i x, i < n → f i = some x → On w P (T i x)) : On w P (fun W => ∀ i x, i < n → f i = some x → T i x W) := by
  induction n with
  | zero => exact On.pure fun W i x hi => by omega
  | succ n ih =>
    have h1 := ih fun i x hi hx => h i x (by omega) hx
    cases hf : f n with
    | none =>
      refine h1.map fun W hW i x hi hx => ?_
      by_cases e : i = n
      · subst e; rw [hf] at hx; cases hx
      · exact hW i x (by omega) hx
    | some y =>
      refine (h1.and (h n y (by omega) hf)).map fun W hWy i x hi hx => ?_
      by_cases e : i = n
      · subst e; rw [hf] at hx; injection hx with hx; rw [← hx]; exact hWy.2
      · exact hWy.1 i x (by omega) hx

end Go.Proofs.YthncinngkfflgaaGreat


/- Tables: Pivot. -/
set_option linter.unusedVariables false
set_option linter.unusedSimpArgs false
set_option maxRecDepth 100000
namespace Go.Proofs.YthncinngkfflgaaGreat
open Go.RowKit Go.Shelf
attribute [local go_sem ↓] Go.wp_at_zero Go.wp_at_succ

/-- the row of the pivot, divided by it -/
def ownL (t : List (List Rat)) (r c : Nat) : List Rat := (t.getD r []).map fun x => x / (t.getD r []).getD c 0
/-- a row of a pivoted table -/
def pivRow (t : List (List Rat)) (r c i : Nat) : List Rat := if i = r then ownL t r c else axpyL (t.getD i []) (ownL t r c) (0 - (t.getD i []).getD c 0)
/-- a pivoted table -/
def pivL (t : List (List Rat)) (r c : Nat) : List (List Rat) := (List.range t.length).map (pivRow t r c)
/-- the first so many rows of it -/
def pivTo (t : List (List Rat)) (r c j : Nat) : List (List Rat) := (List.range j).map (pivRow t r c)
theorem pivTo_succ (t : List (List Rat)) (r c j : Nat) : pivTo t r c (j+1) = pivTo t r c j ++ [pivRow t r c j] := by simp [pivTo, List.range_succ]
theorem pivTo_len (t : List (List Rat)) (r c j : Nat) : (pivTo t r c j).length = j := by simp [pivTo]
theorem pivL_eq (t : List (List Rat)) (r c : Nat) : pivL t r c = pivTo t r c t.length := rfl
theorem getD_of {α : Type} {l : List α} {i : Nat} {x d : α} (h : l[i]? = some x) : l.getD i d = x := by rw [List.getD_eq_getElem?_getD, h]; rfl
theorem sized_axpy {a b : List Rat} {q : Rat} {k m p : Nat} (ha : ∀ x ∈ a, Sized x k) (hb : ∀ x ∈ b, Sized x m) (hq : Sized q p) : ∀ x ∈ axpyL a b q, Sized x (k + (p + m) + 1) := by
  unfold axpyL
  induction a generalizing b with
  | nil => simp
  | cons x a ih => cases b with
    | nil => simp
    | cons y b =>
      intro z hz
      rw [List.zipWith_cons_cons] at hz
      rcases List.mem_cons.1 hz with rfl | hz
      · exact (ha x (List.mem_cons_self ..)).add (hq.mul (hb y (List.mem_cons_self ..)))
      · exact ih (fun q h => ha q (List.mem_cons_of_mem _ h)) (fun q h => hb q (List.mem_cons_of_mem _ h)) z hz
theorem Tab.sized {k : Nat} {w : World} {v : Value} {t : List (List Rat)} (h : Tab (ERaw k) w v t) : ∀ row ∈ t, ∀ q ∈ row, Sized q (k+1) := by
  intro row hr q hq
  obtain ⟨i, hi⟩ := List.getElem?_of_mem hr
  obtain ⟨A, c, e, -, -, h3⟩ := h
  obtain ⟨b, off, A', n', c', -, -, x⟩ := h3 i row hi
  exact Rats.sized x q hq
theorem sized_own {t : List (List Rat)} {k r c : Nat} (h : ∀ row ∈ t, ∀ q ∈ row, Sized q (k+1)) (hr : r < t.length) (hc : c < (t.getD r []).length) : ∀ q ∈ ownL t r c, Sized q (2 * k + 3) := by
  intro q hq
  unfold ownL at hq
  rw [List.mem_map] at hq
  obtain ⟨x, hx, rfl⟩ := hq
  have hm : t.getD r [] ∈ t := by rw [List.getD_eq_getElem?_getD, List.getElem?_eq_getElem hr]; exact List.getElem_mem hr
  have hc2 : (t.getD r []).getD c 0 ∈ t.getD r [] := by
    rw [List.getD_eq_getElem?_getD (l := t.getD r []), List.getElem?_eq_getElem hc]; exact List.getElem_mem hc
  exact ((h _ hm _ hx).div (h _ hm _ hc2)).mono (by omega)
theorem sized_pivL {t : List (List Rat)} {k r c : Nat} (h : ∀ row ∈ t, ∀ q ∈ row, Sized q (k+1)) (hr : r < t.length) (hrect : ∀ row ∈ t, c < row.length) : ∀ row ∈ pivL t r c, ∀ q ∈ row, Sized q (4 * k + 9) := by
  intro row hrow
  unfold pivL at hrow
  rw [List.mem_map] at hrow
  obtain ⟨i, hi, rfl⟩ := hrow
  rw [List.mem_range] at hi
  have hm : ∀ i, i < t.length → t.getD i [] ∈ t := fun i hi => by rw [List.getD_eq_getElem?_getD, List.getElem?_eq_getElem hi]; exact List.getElem_mem hi
  have ho := sized_own h hr (hrect _ (hm r hr))
  unfold pivRow
  split
  · intro q hq; exact (ho q hq).mono (by omega)
  · intro q hq
    have hc := hrect _ (hm i hi)
    have hc2 : (t.getD i []).getD c 0 ∈ t.getD i [] := by
      rw [List.getD_eq_getElem?_getD (l := t.getD i []), List.getElem?_eq_getElem hc]; exact List.getElem_mem hc
    exact (sized_axpy (h _ (hm i hi)) ho ((Sized.zero 0).sub (h _ (hm i hi) _ hc2)) q hq).mono (by omega)
theorem OutRats.ratsLt {E : Elem} {w : World} {P P' : Nat → Prop} {lo : Nat} {v : Value} {l : List Rat} (h : OutRats E w P lo v l) (hp : ∀ b, P b → b < w.heap.size → P' b) (hl : ∀ b, lo ≤ b → b < w.heap.size → P' b) : On w P' (fun W => Rats (EOn P' E) W v l) := by
  have h1 : OutRats E w P' lo v l := h.mono hp
  have h' : OutRats (EOn P' E) w P' lo v l := by
    obtain ⟨es, h1, h2, h3, h4⟩ := h1
    refine ⟨es, h1, h2, h3, ?_⟩
    obtain ⟨F, f1, f2⟩ := h4
    exact ⟨F, f1, fun W hW i e q hi hq => ⟨F, fun b hb => ⟨(f1 b hb).1.1, by
      have h5 := hW b hb
      rw [Array.getElem?_eq_getElem (f1 b hb).2] at h5
      exact (Array.getElem?_eq_some_iff.1 h5).1⟩, fun W' hW' => f2 W' (fun b hb => (hW' b hb).trans (hW b hb)) i e q hi hq⟩⟩
  exact h'.rats.mono fun b hb hlt => hb.elim id fun h => hl b h hlt

end Go.Proofs.YthncinngkfflgaaGreat


/- Tables of numbers: what a pivot does, and what the one solution is. No program is in sight here. -/
set_option linter.unusedVariables false
set_option linter.unusedSimpArgs false
namespace Go.Proofs.YthncinngkfflgaaGreat

/-- the sum of the first n -/
def sumTo : Nat → (Nat → Rat) → Rat
  | 0, _ => 0
  | n+1, f => sumTo n f + f n

theorem sumTo_congr {n : Nat} {f g : Nat → Rat} (h : ∀ k, k < n → f k = g k) : sumTo n f = sumTo n g := by
  induction n with
  | zero => rfl
  | succ n ih => simp only [sumTo]; rw [ih (fun k hk => h k (by omega)), h n (by omega)]
theorem sumTo_zero (n : Nat) : sumTo n (fun _ => 0) = 0 := by
  induction n with
  | zero => rfl
  | succ n ih => simp only [sumTo]; rw [ih]; grind
theorem sumTo_lin (n : Nat) (f g : Nat → Rat) (a b : Rat) : sumTo n (fun k => a * f k + b * g k) = a * sumTo n f + b * sumTo n g := by
  induction n with
  | zero => simp only [sumTo]; grind
  | succ n ih => simp only [sumTo]; rw [ih]; grind
theorem sumTo_one {n c : Nat} (f : Nat → Rat) (hc : c < n) (h : ∀ k, k < n → k ≠ c → f k = 0) : sumTo n f = f c := by
  induction n with
  | zero => omega
  | succ n ih =>
    simp only [sumTo]
    by_cases h1 : c = n
    · subst h1
      rw [sumTo_congr (g := fun _ => 0) (fun k hk => h k (by omega) (by omega)), sumTo_zero]; grind
    · rw [ih (by omega) (fun k hk => h k (by omega)), h n (by omega) (by omega)]; grind

/-- a table with 0 but at one row of a column -/
def piv (M : Nat → Nat → Rat) (r c : Nat) : Nat → Nat → Rat := fun i k => if i = r then M r k / M r c else M i k - M i c * (M r k / M r c)
/-- numbers whose sum of products with each row is 0 -/
def NullF (n m : Nat) (M : Nat → Nat → Rat) (z : Nat → Rat) : Prop := ∀ i, i < n → sumTo m (fun k => M i k * z k) = 0

theorem piv_sum (m : Nat) (M : Nat → Nat → Rat) (r c i : Nat) (z : Nat → Rat) (hp : M r c ≠ 0) :
    sumTo m (fun k => piv M r c i k * z k) = if i = r then sumTo m (fun k => M r k * z k) / M r c else sumTo m (fun k => M i k * z k) - M i c / M r c * sumTo m (fun k => M r k * z k) := by
  by_cases h : i = r
  · subst h
    simp only [piv, if_true]
    rw [sumTo_congr (g := fun k => (1 / M i c) * (M i k * z k) + 0 * 0) (fun k _ => by grind), sumTo_lin m (fun k => M i k * z k) (fun _ => 0)]; grind
  · simp only [piv, if_neg h]
    rw [sumTo_congr (g := fun k => 1 * (M i k * z k) + (- (M i c / M r c)) * (M r k * z k)) (fun k _ => by grind), sumTo_lin]; grind

theorem piv_null {n m : Nat} {M : Nat → Nat → Rat} {r c : Nat} (hr : r < n) (hp : M r c ≠ 0) (z : Nat → Rat) : NullF n m (piv M r c) z ↔ NullF n m M z := by
  constructor
  · intro h i hi
    have h1 := h r hr
    rw [piv_sum m M r c r z hp, if_pos rfl] at h1
    have h2 : sumTo m (fun k => M r k * z k) = 0 := by grind
    by_cases e : i = r
    · subst e; exact h2
    · have h3 := h i hi
      rw [piv_sum m M r c i z hp, if_neg e, h2] at h3; grind
  · intro h i hi
    rw [piv_sum m M r c i z hp, h r hr]
    split
    · grind
    · rw [h i hi]; grind

/-- the first c columns have 1 at their row, and 0 else -/
structure UnitF (n c : Nat) (M : Nat → Nat → Rat) (u : Nat → Nat) : Prop where
  lt : ∀ k, k < c → u k < n
  inj : ∀ k j, k < c → j < c → u k = u j → k = j
  ent : ∀ k i, k < c → i < n → M i k = if i = u k then 1 else 0

theorem UnitF.zero (n : Nat) (M : Nat → Nat → Rat) (u : Nat → Nat) : UnitF n 0 M u := ⟨fun k h => by omega, fun k j h => by omega, fun k i h => by omega⟩
theorem UnitF.step {n c : Nat} {M : Nat → Nat → Rat} {u v : Nat → Nat} {r : Nat} (h : UnitF n c M u) (hr : r < n) (hu : ∀ k, k < c → u k ≠ r) (hp : M r c ≠ 0) (hv : ∀ k, k < c → v k = u k) (hc : v c = r) : UnitF n (c+1) (piv M r c) v := by
  refine ⟨fun k hk => ?_, fun k j hk hj e => ?_, fun k i hk hi => ?_⟩
  · by_cases e : k = c
    · subst e; omega
    · rw [hv k (by omega)]; exact h.lt k (by omega)
  · by_cases e1 : k = c
    · by_cases e2 : j = c
      · omega
      · subst e1; rw [hc, hv j (by omega)] at e; exact absurd e.symm (hu j (by omega))
    · by_cases e2 : j = c
      · subst e2; rw [hc, hv k (by omega)] at e; exact absurd e (hu k (by omega))
      · rw [hv k (by omega), hv j (by omega)] at e; exact h.inj k j (by omega) (by omega) e
  · by_cases e : k = c
    · subst e
      rw [hc]
      by_cases e2 : i = r
      · subst e2; simp only [piv, if_true]; grind
      · simp only [piv, if_neg e2]; grind
    · have h1 := h.ent k i (by omega) hi
      have h2 := h.ent k r (by omega) hr
      rw [if_neg (fun e => hu k (by omega) e.symm)] at h2
      rw [hv k (by omega)]
      by_cases e2 : i = r
      · subst e2; rw [if_neg (fun e => hu k (by omega) e.symm)]; simp only [piv, if_true]; rw [h2]; grind
      · simp only [piv, if_neg e2]; rw [h1, h2]; grind

/-- there isn't just one solution: some numbers, not all 0, whose sum of products with each row is 0 -/
def SingF (n : Nat) (M : Nat → Nat → Rat) : Prop := ∃ z : Nat → Rat, (∃ k, k < n ∧ z k ≠ 0) ∧ ∀ i, i < n → sumTo n (fun k => M i k * z k) = 0
/-- numbers fulfil all rows -/
def SolF (n : Nat) (M : Nat → Nat → Rat) (b x : Nat → Rat) : Prop := ∀ i, i < n → sumTo n (fun k => M i k * x k) = b i
/-- a table with what its rows come to behind it -/
def augF (n : Nat) (M : Nat → Nat → Rat) (b : Nat → Rat) : Nat → Nat → Rat := fun i k => if k < n then M i k else b i

theorem aug_null (n : Nat) (M : Nat → Nat → Rat) (b z : Nat → Rat) : NullF n (n+1) (augF n M b) z ↔ ∀ i, i < n → sumTo n (fun k => M i k * z k) + b i * z n = 0 := by
  have key : ∀ i, sumTo (n+1) (fun k => augF n M b i k * z k) = sumTo n (fun k => M i k * z k) + b i * z n := fun i => by
    simp only [sumTo]
    rw [sumTo_congr (g := fun k => M i k * z k) (fun k hk => by simp [augF, hk])]
    simp [augF]
  constructor
  · intro h i hi; rw [← key]; exact h i hi
  · intro h i hi; rw [key]; exact h i hi

/-- the sum of a row that is known where columns are done -/
theorem unit_row {n c : Nat} {M : Nat → Nat → Rat} {u : Nat → Nat} (h : UnitF n c M u) {j : Nat} (hj : j < c) (z : Nat → Rat) :
    sumTo c (fun k => M (u j) k * z k) = z j := by
  rw [sumTo_one (c := j) _ hj]
  · rw [h.ent j _ hj (h.lt j hj), if_pos rfl]; grind
  · intro k hk hne
    rw [h.ent k _ hk (h.lt j hj), if_neg (fun e => hne (h.inj _ _ hj hk e).symm)]; grind

theorem sumTo_pad {c n : Nat} (f : Nat → Rat) (hc : c ≤ n) (h : ∀ k, c ≤ k → k < n → f k = 0) : sumTo n f = sumTo c f := by
  induction n with
  | zero => have : c = 0 := by omega
            subst this; rfl
  | succ n ih =>
    by_cases e : c = n + 1
    · subst e; rfl
    · simp only [sumTo]; rw [ih (by omega) (fun k h1 h2 => h k h1 (by omega)), h n (by omega) (by omega)]; grind

/-- no place for a pivot in the next column: there isn't just one solution -/
theorem stuck_sing {n c : Nat} {M W : Nat → Nat → Rat} {b : Nat → Rat} {u : Nat → Nat} (hc : c < n) (h : UnitF n c W u)
    (hn : ∀ z, NullF n (n+1) W z ↔ NullF n (n+1) (augF n M b) z) (h0 : ∀ i, i < n → (∀ k, k < c → u k ≠ i) → W i c = 0) : SingF n M := by
  let z : Nat → Rat := fun k => if k < c then - W (u k) c else if k = c then 1 else 0
  have hz : NullF n (n+1) W z := by
    intro i hi
    rw [sumTo_pad (c := c+1) _ (by omega) (fun k h1 h2 => by simp only [z]; rw [if_neg (by omega), if_neg (by omega)]; grind)]
    simp only [sumTo]
    have hzc : z c = 1 := by simp [z]
    rw [hzc]
    by_cases hi2 : ∃ k, k < c ∧ u k = i
    · obtain ⟨j, hj, rfl⟩ := hi2
      rw [unit_row h hj]
      simp only [z, if_pos hj]; grind
    · have hi3 : ∀ k, k < c → u k ≠ i := fun k hk e => hi2 ⟨k, hk, e⟩
      rw [h0 i hi hi3, sumTo_congr (g := fun _ => 0) (fun k hk => by rw [h.ent k i hk hi, if_neg (fun e => hi3 k hk e.symm)]; grind), sumTo_zero]; grind
  have h2 := (aug_null n M b z).1 ((hn z).1 hz)
  refine ⟨z, ⟨c, hc, by simp [z]⟩, fun i hi => ?_⟩
  have h3 := h2 i hi
  have hzn : z n = 0 := by simp only [z]; rw [if_neg (by omega), if_neg (by omega)]
  rw [hzn] at h3; grind

/-- a pivot in each column: the last column is the one solution -/
theorem done_sol {n : Nat} {M W : Nat → Nat → Rat} {b : Nat → Rat} {u : Nat → Nat} (h : UnitF n n W u)
    (hn : ∀ z, NullF n (n+1) W z ↔ NullF n (n+1) (augF n M b) z) (hsur : ∀ i, i < n → ∃ k, k < n ∧ u k = i) : SolF n M b (fun c => W (u c) n) ∧ ¬ SingF n M := by
  constructor
  · let z : Nat → Rat := fun k => if k < n then W (u k) n else -1
    have hz : NullF n (n+1) W z := by
      intro i hi
      obtain ⟨j, hj, rfl⟩ := hsur i hi
      simp only [sumTo]
      rw [unit_row h hj]
      simp only [z, if_pos hj]; rw [if_neg (by omega)]; grind
    have h2 := (aug_null n M b z).1 ((hn z).1 hz)
    intro i hi
    have h3 := h2 i hi
    have hzn : z n = -1 := by simp [z]
    rw [hzn] at h3
    rw [sumTo_congr (g := fun k => M i k * z k) (fun k hk => by simp only [z, if_pos hk])]; grind
  · rintro ⟨z, ⟨k, hk, hzk⟩, h0⟩
    let y : Nat → Rat := fun k => if k < n then z k else 0
    have hy : NullF n (n+1) (augF n M b) y := by
      rw [aug_null]
      intro i hi
      rw [sumTo_congr (g := fun k => M i k * z k) (fun k hk => by simp only [y, if_pos hk]), h0 i hi]
      simp only [y]; rw [if_neg (by omega)]; grind
    have h1 := (hn y).2 hy (u k) (h.lt k hk)
    simp only [sumTo] at h1
    rw [unit_row h hk] at h1
    simp only [y, if_pos hk] at h1
    rw [if_neg (by omega)] at h1
    grind

theorem sol_unique {n : Nat} {M : Nat → Nat → Rat} {b x y : Nat → Rat} (hs : ¬ SingF n M) (hx : SolF n M b x) (hy : SolF n M b y) {k : Nat} (hk : k < n) : x k = y k := by
  refine Classical.byContradiction fun hne => hs ⟨fun k => x k - y k, ⟨k, hk, by grind⟩, fun i hi => ?_⟩
  rw [sumTo_congr (g := fun k => 1 * (M i k * x k) + (-1) * (M i k * y k)) (fun k _ => by grind), sumTo_lin, hx i hi, hy i hi]; grind

/-- an injection of the first n into themselves meets each -/
theorem inj_sur : ∀ (n : Nat) (u : Nat → Nat), (∀ k, k < n → u k < n) → (∀ k j, k < n → j < n → u k = u j → k = j) → ∀ i, i < n → ∃ k, k < n ∧ u k = i := by
  intro n
  induction n with
  | zero => intro u _ _ i hi; omega
  | succ n ih =>
    intro u hlt hinj i hi
    -- the value n is moved to the last place
    by_cases hn : ∃ k, k < n ∧ u k = n
    · obtain ⟨k0, hk0, e0⟩ := hn
      have hun : u n ≠ n := fun e => by have := hinj n k0 (by omega) (by omega) (by omega); omega
      have hunlt : u n < n := by have := hlt n (by omega); omega
      let v : Nat → Nat := fun k => if k = k0 then u n else u k
      have hv1 : ∀ k, k < n → v k < n := by
        intro k hk
        simp only [v]
        split
        · exact hunlt
        · rename_i hne
          have h1 := hlt k (by omega)
          have h2 : u k ≠ n := fun e => hne (hinj k k0 (by omega) (by omega) (by omega))
          omega
      have hv2 : ∀ k j, k < n → j < n → v k = v j → k = j := by
        intro k j hk hj e
        simp only [v] at e
        split at e <;> split at e
        · omega
        · rename_i h1 h2; have := hinj n j (by omega) (by omega) e; omega
        · rename_i h1 h2; have := hinj k n (by omega) (by omega) e; omega
        · exact hinj k j (by omega) (by omega) e
      by_cases hi2 : i = n
      · exact ⟨k0, by omega, by omega⟩
      · obtain ⟨k, hk, e⟩ := ih v hv1 hv2 i (by omega)
        simp only [v] at e
        split at e
        · exact ⟨n, by omega, e⟩
        · exact ⟨k, by omega, e⟩
    · have hv1 : ∀ k, k < n → u k < n := by
        intro k hk
        have h1 := hlt k (by omega)
        have h2 : u k ≠ n := fun e => hn ⟨k, hk, e⟩
        omega
      by_cases hi2 : i = n
      · refine ⟨n, by omega, ?_⟩
        have h1 := hlt n (by omega)
        by_cases e : u n = n
        · omega
        · obtain ⟨k, hk, e2⟩ := ih u hv1 (fun k j hk hj => hinj k j (by omega) (by omega)) (u n) (by omega)
          have := hinj k n (by omega) (by omega) e2
          omega
      · obtain ⟨k, hk, e⟩ := ih u hv1 (fun k j hk hj => hinj k j (by omega) (by omega)) i (by omega)
        exact ⟨k, by omega, e⟩
end Go.Proofs.YthncinngkfflgaaGreat


/- What Solve does to a table, in plain Lean. No program is in sight here. -/
set_option linter.unusedVariables false
set_option linter.unusedSimpArgs false
namespace Go.Proofs.YthncinngkfflgaaGreat

/-- the number at a place -/
def ent (t : List (List Rat)) (i k : Nat) : Rat := (t.getD i []).getD k 0
/-- the table with what its rows come to behind it -/
def augT (t : List (List Rat)) (b : List Rat) : List (List Rat) := List.zipWith (fun r x => r ++ [x]) t b
/-- two rows changed about -/
def swapT (t : List (List Rat)) (i j : Nat) : List (List Rat) := (t.set i (t.getD j [])).set j (t.getD i [])
/-- how long numbers get -/
def grow (k : Nat) : Nat → Nat
  | 0 => k
  | c+1 => 4 * grow k c + 9
theorem grow_mono {k c d : Nat} (h : c ≤ d) : grow k c ≤ grow k d := by
  induction h with
  | refl => exact Nat.le_refl _
  | step h ih => simp only [grow]; omega

theorem null_congr {n m : Nat} {M N : Nat → Nat → Rat} (h : ∀ i k, i < n → k < m → M i k = N i k) (z : Nat → Rat) : NullF n m M z ↔ NullF n m N z := by
  constructor
  · intro h1 i hi; rw [sumTo_congr (g := fun k => M i k * z k) (fun k hk => by rw [h i k hi hk])]; exact h1 i hi
  · intro h1 i hi; rw [sumTo_congr (g := fun k => N i k * z k) (fun k hk => by rw [h i k hi hk])]; exact h1 i hi

structure Good (n : Nat) (t : List (List Rat)) (b : List Rat) (c : Nat) (W : List (List Rat)) : Prop where
  len : W.length = n
  rect : ∀ row ∈ W, row.length = n + 1
  unit : UnitF n c (ent W) id
  null : ∀ z, NullF n (n+1) (ent W) z ↔ NullF n (n+1) (augF n (ent t) (fun i => b.getD i 0)) z

theorem aug_at {t : List (List Rat)} {b : List Rat} (i : Nat) : (augT t b)[i]? = (match t[i]?, b[i]? with | some r, some x => some (r ++ [x]) | _, _ => none) := by
  unfold augT
  rw [List.getElem?_zipWith]
  cases t[i]? <;> cases b[i]? <;> rfl
theorem good_start {n : Nat} {t : List (List Rat)} {b : List Rat} (ht : t.length = n) (hb : b.length = n) (hr : ∀ row ∈ t, row.length = n) : Good n t b 0 (augT t b) := by
  refine ⟨by unfold augT; rw [List.length_zipWith]; omega, ?_, UnitF.zero _ _ _, null_congr fun i k hi hk => ?_⟩
  · intro row hrow
    obtain ⟨i, hi⟩ := List.getElem?_of_mem hrow
    rw [aug_at] at hi
    split at hi
    · rename_i r x h1 h2
      injection hi with hi
      rw [← hi, List.length_append, hr r (List.mem_of_getElem? h1)]; rfl
    · cases hi
  · have h1 : t[i]? = some (t[i]'(by omega)) := List.getElem?_eq_getElem _
    have h2 : b[i]? = some (b[i]'(by omega)) := List.getElem?_eq_getElem _
    have h3 := hr _ (List.mem_of_getElem? h1)
    unfold ent augF
    rw [List.getD_eq_getElem?_getD (l := augT t b), aug_at, h1, h2]
    simp only [Option.getD_some]
    by_cases hkn : k < n
    · rw [if_pos hkn, List.getD_eq_getElem?_getD, List.getElem?_append_left (by omega)]
      rw [List.getD_eq_getElem?_getD (l := t), h1, List.getD_eq_getElem?_getD]; rfl
    · obtain rfl : k = n := by omega
      rw [if_neg (by omega), List.getD_eq_getElem?_getD, List.getElem?_append_right (by omega), h3, Nat.sub_self, List.getD_eq_getElem?_getD, h2]; rfl

theorem swap_len (t : List (List Rat)) (i j : Nat) : (swapT t i j).length = t.length := by simp [swapT]
theorem swap_ent {t : List (List Rat)} {i j : Nat} (hi : i < t.length) (hj : j < t.length) (a k : Nat) : ent (swapT t i j) a k = ent t (if a = j then i else if a = i then j else a) k := by
  unfold ent swapT
  congr 1
  rw [List.getD_eq_getElem?_getD, List.getElem?_set, List.getElem?_set]
  by_cases h1 : a = j
  · subst h1
    simp [hj]
  · by_cases h2 : a = i
    · subst h2
      simp [h1, hi]; rw [if_neg (fun e => h1 e.symm)]; simp
    · rw [if_neg (fun e => h1 e.symm), if_neg (fun e => h2 e.symm), if_neg h1, if_neg h2, List.getD_eq_getElem?_getD]
theorem swap_rect {t : List (List Rat)} {i j m : Nat} (hi : i < t.length) (hj : j < t.length) (h : ∀ row ∈ t, row.length = m) : ∀ row ∈ swapT t i j, row.length = m := by
  have hg : ∀ a, a < t.length → t.getD a [] ∈ t := fun a ha => by rw [List.getD_eq_getElem?_getD, List.getElem?_eq_getElem ha]; exact List.getElem_mem ha
  intro row hrow
  unfold swapT at hrow
  rcases List.mem_or_eq_of_mem_set hrow with h1 | h1
  · rcases List.mem_or_eq_of_mem_set h1 with h2 | h2
    · exact h _ h2
    · rw [h2]; exact h _ (hg j hj)
  · rw [h1]; exact h _ (hg i hi)
theorem swap_mem {t : List (List Rat)} {i j : Nat} (hi : i < t.length) (hj : j < t.length) {row : List Rat} (hrow : row ∈ swapT t i j) : row ∈ t := by
  have hg : ∀ a, a < t.length → t.getD a [] ∈ t := fun a ha => by rw [List.getD_eq_getElem?_getD, List.getElem?_eq_getElem ha]; exact List.getElem_mem ha
  unfold swapT at hrow
  rcases List.mem_or_eq_of_mem_set hrow with h1 | h1
  · rcases List.mem_or_eq_of_mem_set h1 with h2 | h2
    · exact h2
    · rw [h2]; exact hg j hj
  · rw [h1]; exact hg i hi
theorem piv_len (t : List (List Rat)) (r c : Nat) : (pivL t r c).length = t.length := by simp [pivL]
theorem piv_rect {t : List (List Rat)} {r c m : Nat} (hr : r < t.length) (h : ∀ row ∈ t, row.length = m) : ∀ row ∈ pivL t r c, row.length = m := by
  have hg : ∀ a, a < t.length → (t.getD a []).length = m := fun a ha => h _ (by rw [List.getD_eq_getElem?_getD, List.getElem?_eq_getElem ha]; exact List.getElem_mem ha)
  intro row hrow
  unfold pivL at hrow
  rw [List.mem_map] at hrow
  obtain ⟨i, hi, rfl⟩ := hrow
  rw [List.mem_range] at hi
  unfold pivRow
  split
  · unfold ownL; rw [List.length_map]; exact hg r hr
  · unfold axpyL; rw [List.length_zipWith]; unfold ownL; rw [List.length_map, hg r hr, hg i hi]; omega
theorem getD_map_ {l : List Rat} {f : Rat → Rat} {k : Nat} (hk : k < l.length) : (l.map f).getD k 0 = f (l.getD k 0) := by
  rw [List.getD_eq_getElem?_getD, List.getElem?_map, List.getD_eq_getElem?_getD, List.getElem?_eq_getElem hk]; rfl
theorem getD_zip_ {l m : List Rat} {f : Rat → Rat → Rat} {k : Nat} (hk : k < l.length) (hm : k < m.length) : (List.zipWith f l m).getD k 0 = f (l.getD k 0) (m.getD k 0) := by
  rw [List.getD_eq_getElem?_getD, List.getElem?_zipWith, List.getD_eq_getElem?_getD, List.getD_eq_getElem?_getD, List.getElem?_eq_getElem hk, List.getElem?_eq_getElem hm]; rfl
theorem piv_ent {t : List (List Rat)} {r c m i k : Nat} (hr : r < t.length) (h : ∀ row ∈ t, row.length = m) (hi : i < t.length) (hk : k < m) : ent (pivL t r c) i k = piv (ent t) r c i k := by
  have hg : ∀ a, a < t.length → (t.getD a []).length = m := fun a ha => h _ (by rw [List.getD_eq_getElem?_getD, List.getElem?_eq_getElem ha]; exact List.getElem_mem ha)
  have e1 : (pivL t r c).getD i [] = pivRow t r c i := by
    unfold pivL
    rw [List.getD_eq_getElem?_getD, List.getElem?_map, List.getElem?_range hi]; rfl
  have e2 : (ownL t r c).getD k 0 = ent t r k / ent t r c := by
    unfold ownL
    rw [getD_map_ (by rw [hg r hr]; exact hk)]; rfl
  have e3 : (ownL t r c).length = m := by unfold ownL; rw [List.length_map, hg r hr]
  unfold ent at e2 ⊢
  rw [e1]
  unfold pivRow piv
  split
  · rename_i hir
    subst hir
    exact e2
  · unfold axpyL
    rw [getD_zip_ (by rw [hg i hi]; exact hk) (by rw [e3]; exact hk), e2]
    grind

theorem good_step {n c j : Nat} {t : List (List Rat)} {b : List Rat} {W : List (List Rat)} (h : Good n t b c W) (hc : c < n) (hj : c ≤ j) (hjn : j < n) (hp : ent W j c ≠ 0) : Good n t b (c+1) (pivL (swapT W c j) c c) := by
  have hl := h.len
  have hcl : c < W.length := by omega
  have hjl : j < W.length := by omega
  have hse := fun a k => swap_ent hcl hjl a k
  have hpc : ent (swapT W c j) c c ≠ 0 := by
    rw [hse]
    by_cases e : c = j
    · subst e; simpa using hp
    · simpa [e] using hp
  have hsl : (swapT W c j).length = n := by rw [swap_len, hl]
  have hsr := swap_rect hcl hjl h.rect
  have hpe : ∀ i k, i < n → k < n + 1 → ent (pivL (swapT W c j) c c) i k = piv (ent (swapT W c j)) c c i k := fun i k hi hk => piv_ent (by omega) hsr (by omega) hk
  have hus : UnitF n c (ent (swapT W c j)) id := by
    refine ⟨fun k hk => by show k < n; omega, fun k j' _ _ e => e, fun k i hk hi => ?_⟩
    rw [hse]
    by_cases e1 : i = j
    · subst e1
      rw [if_pos rfl, h.unit.ent k c hk hc]
      show (if c = k then (1 : Rat) else 0) = if i = k then 1 else 0
      rw [if_neg (by omega), if_neg (by omega)]
    · rw [if_neg e1]
      by_cases e2 : i = c
      · subst e2
        rw [if_pos rfl, h.unit.ent k j hk hjn]
        show (if j = k then (1 : Rat) else 0) = if i = k then 1 else 0
        rw [if_neg (by omega), if_neg (by omega)]
      · rw [if_neg e2]; exact h.unit.ent k i hk hi
  refine ⟨by rw [piv_len, swap_len, hl], piv_rect (by omega) hsr, ?_, fun z => ?_⟩
  · have hst := hus.step (v := id) hc (fun k hk => by show k ≠ c; omega) hpc (fun k hk => rfl) rfl
    refine ⟨hst.lt, hst.inj, fun k i hk hi => ?_⟩
    rw [hpe i k hi (by omega)]; exact hst.ent k i hk hi
  · rw [← h.null z, null_congr hpe z, piv_null hc hpc]
    constructor
    · intro h1 i hi
      by_cases e1 : i = j
      · have := h1 c hc
        rw [sumTo_congr (g := fun k => ent W i k * z k) (fun k hk => by
          rw [hse]
          by_cases e : c = j
          · rw [if_pos e, e1, ← e]
          · rw [if_neg e, if_pos rfl, e1])] at this
        exact this
      · by_cases e2 : i = c
        · have := h1 j hjn
          rw [sumTo_congr (g := fun k => ent W i k * z k) (fun k hk => by rw [hse, if_pos rfl, e2])] at this
          exact this
        · have := h1 i hi
          rw [sumTo_congr (g := fun k => ent W i k * z k) (fun k hk => by rw [hse, if_neg e1, if_neg e2])] at this
          exact this
    · intro h1 i hi
      have hx : ∀ a, a < n → sumTo (n+1) (fun k => ent W a k * z k) = 0 := h1
      rw [sumTo_congr (g := fun k => ent W (if i = j then c else if i = c then j else i) k * z k) (fun k hk => by rw [hse])]
      refine hx _ ?_
      split
      · exact hc
      · split
        · exact hjn
        · exact hi

theorem good_stuck {n c : Nat} {t : List (List Rat)} {b : List Rat} {W : List (List Rat)} (h : Good n t b c W) (hc : c < n) (h0 : ∀ row ∈ W.drop c, row.getD c 0 = 0) : SingF n (ent t) := by
  refine stuck_sing hc h.unit h.null fun i hi hne => ?_
  have hic : c ≤ i := by
    rcases Nat.lt_or_ge i c with h1 | h1
    · exact absurd rfl (hne i h1)
    · exact h1
  have hl := h.len
  have h1 : W[i]? = some (W[i]'(by omega)) := List.getElem?_eq_getElem _
  have h2 : (W.drop c)[i - c]? = some (W[i]'(by omega)) := by rw [List.getElem?_drop, show c + (i - c) = i by omega, h1]
  have h3 := h0 _ (List.mem_of_getElem? h2)
  unfold ent
  rw [List.getD_eq_getElem?_getD (l := W), h1]; exact h3

/-- what Solve answers -/
def lastCol (n : Nat) (W : List (List Rat)) : List Rat := W.map fun row => row.getD n 0
theorem good_done {n : Nat} {t : List (List Rat)} {b : List Rat} {W : List (List Rat)} (h : Good n t b n W) : SolF n (ent t) (fun i => b.getD i 0) (fun i => (lastCol n W).getD i 0) ∧ ¬ SingF n (ent t) := by
  have h1 := done_sol h.unit h.null (fun i hi => ⟨i, hi, rfl⟩)
  have e : ∀ i, i < n → (lastCol n W).getD i 0 = ent W i n := fun i hi => by
    have hl := h.len
    have h1 : W[i]? = some (W[i]'(by omega)) := List.getElem?_eq_getElem _
    unfold lastCol ent
    rw [List.getD_eq_getElem?_getD, List.getElem?_map, List.getD_eq_getElem?_getD (l := W), h1]; rfl
  refine ⟨fun i hi => ?_, h1.2⟩
  have h2 := h1.1 i hi
  rw [sumTo_congr (g := fun k => ent t i k * ent W k n) (fun k hk => by show ent t i k * (lastCol n W).getD k 0 = _; rw [e k hk])]
  exact h2
end Go.Proofs.YthncinngkfflgaaGreat


/- Tables: swaps in memory. -/
set_option linter.unusedVariables false
set_option linter.unusedSimpArgs false
set_option maxRecDepth 100000
namespace Go.Proofs.YthncinngkfflgaaGreat
open Go.RowKit Go.Shelf
attribute [local go_sem ↓] Go.wp_at_zero Go.wp_at_succ

theorem OutTab.map {E E' : Elem} {w : World} {P : Nat → Prop} {lo : Nat} {v : Value} {t : List (List Rat)} (h : OutTab E w P lo v t) (hE : ∀ W v q, (∃ row ∈ t, q ∈ row) → E W v q → E' W v q) : OutTab E' w P lo v t := by
  obtain ⟨es, h1, h2, h3, h4⟩ := h
  exact ⟨es, h1, h2, h3, h4.map fun W hW i e row hi hr => (hW i e row hi hr).map fun v q hq he => hE W v q ⟨row, List.mem_of_getElem? hr, hq⟩ he⟩
theorem OutTab.empty {E E' : Elem} {w : World} {P P' : Nat → Prop} {lo : Nat} {v : Value} (h : OutTab E w P lo v []) : OutTab E' w P' lo v [] := by
  obtain ⟨es, h1, h2, h3, h4⟩ := h
  exact ⟨es, h1, h2, h3, On.pure fun W i e row hi hr => by simp at hr⟩
theorem OutTab.open_ {E : Elem} {w : World} {P : Nat → Prop} {lo : Nat} {v : Value} {t : List (List Rat)} (h : OutTab E w P lo v t) (hi : 0 < t.length) :
    ∃ g cap cs, v = .slice (some ⟨g, 0, none⟩) t.length cap ∧ lo ≤ g ∧ t.length ≤ cap ∧ cap ≤ maxLen ∧ Row w g 23 cs ∧ ∀ j, j < t.length → ∃ A n c, cs[j]? = some (.slice A n c) := by
  obtain ⟨es, h1, ⟨h2, h2'⟩, h3, h4⟩ := h
  rcases h2' with ⟨rfl, h0⟩ | ⟨g, cap, cur, rfl, hb, hg, hn, hm, hs, ht⟩
  · omega
  · refine ⟨g, cap, cur.toList, rfl, hb, hn, hm, by unfold Row; simpa using hg, fun j hj => ?_⟩
    obtain ⟨e, hee⟩ : ∃ e, es[j]? = some e := ⟨es[j]'(by omega), List.getElem?_eq_getElem _⟩
    obtain ⟨A1, n1, c1, rfl⟩ := h3 e (List.mem_of_getElem? hee)
    refine ⟨A1, n1, c1, ?_⟩
    rw [← ht, List.getElem?_take] at hee
    split at hee
    · exact hee
    · cases hee
theorem OutTab.swap {E : Elem} {w : World} {P : Nat → Prop} {lo g n cap : Nat} {t : List (List Rat)} {cs : List Value} {i j : Nat} {x y : Value} (h : OutTab E w P lo (.slice (some ⟨g, 0, none⟩) n cap) t)
    (hr : Row w g 23 cs) (hx : cs[i]? = some x) (hy : cs[j]? = some y) (hi : i < t.length) (hj : j < t.length) :
    OutTab E ((w.setCell ⟨g, i, none⟩ y).setCell ⟨g, j, none⟩ x) P lo (.slice (some ⟨g, 0, none⟩) n cap) (swapT t i j) := by
  obtain ⟨es, h1, ⟨h2, h2'⟩, h3, h4⟩ := h
  rcases h2' with ⟨e, h0⟩ | ⟨g', cap', cur, e, hb, hg, hn, hm, hs, ht⟩
  · omega
  · injection e with e1 e2 e3
    injection e1 with e1; injection e1 with e1
    subst e1 e2 e3
    have hcs : cur.toList = cs := by
      unfold Row at hr
      rw [hr] at hg
      injection hg with hg; injection hg with hg
      rw [← hg]
    have htk : ∀ a u, a < t.length → cs[a]? = some u → es[a]? = some u := fun a u ha hu => by
      rw [← ht, hcs, List.getElem?_take, if_pos (by omega)]; exact hu
    have hex := htk i x hi hx
    have hey := htk j y hj hy
    have hti : t[i]? = some (t.getD i []) := by rw [List.getD_eq_getElem?_getD, List.getElem?_eq_getElem hi]; rfl
    have htj : t[j]? = some (t.getD j []) := by rw [List.getD_eq_getElem?_getD, List.getElem?_eq_getElem hj]; rfl
    have hr2 := (hr.set_ i y).set_ j x
    refine ⟨(es.set i y).set j x, by simp [h1, swap_len], ⟨?_, .inr ⟨g, cap, ((cs.set i y).set j x).toArray, by rw [swap_len], hb, hr2, by rw [swap_len]; exact hn, hm, ?_, ?_⟩⟩, ?_, ?_⟩
    · rw [swap_len, List.length_set, List.length_set]; exact h2
    · rw [← hcs]; simp [hs]
    · rw [swap_len, ← ht, ← hcs, List.take_set, List.take_set]
    · intro e he
      rcases List.mem_or_eq_of_mem_set he with he | he
      · rcases List.mem_or_eq_of_mem_set he with he | he
        · exact h3 _ he
        · rw [he]; exact h3 _ (List.mem_of_getElem? hey)
      · rw [he]; exact h3 _ (List.mem_of_getElem? hex)
    · have oo : Only g w ((w.setCell ⟨g, i, none⟩ y).setCell ⟨g, j, none⟩ x) := (Only.one g w i y).set j x
      refine (h4.only oo (fun hh => hh.2 rfl)).map fun W hW a e row ha hrow => ?_
      have hil : i < es.length := by omega
      have hjl : j < es.length := by omega
      unfold swapT at hrow
      rw [List.getElem?_set] at ha hrow
      by_cases e1 : j = a
      · subst e1
        rw [if_pos rfl, if_pos (by simpa using hjl)] at ha
        rw [if_pos rfl, if_pos (by simpa using hj)] at hrow
        injection ha with ha; injection hrow with hrow
        rw [← ha, ← hrow]; exact hW i _ _ hex hti
      · rw [if_neg e1, List.getElem?_set] at ha hrow
        by_cases e2 : i = a
        · subst e2
          rw [if_pos rfl, if_pos hil] at ha
          rw [if_pos rfl, if_pos hi] at hrow
          injection ha with ha; injection hrow with hrow
          rw [← ha, ← hrow]; exact hW j _ _ hey htj
        · rw [if_neg e2] at ha hrow
          exact hW a _ _ ha hrow
theorem Tab.drop {E : Elem} {w : World} {b off n cap c : Nat} {t : List (List Rat)} (h : Tab E w (.slice (some ⟨b, off, none⟩) n cap) t) (hc : c ≤ n) : Tab E w (.slice (some ⟨b, off + c, none⟩) (n - c) (cap - c)) (t.drop c) := by
  obtain ⟨A, cap', e, h1, h2, h3⟩ := h
  injection e with e1 e2 e3
  subst e1 e2 e3
  refine ⟨_, cap - c, by rw [List.length_drop], by rw [List.length_drop]; omega, by omega, fun i row hi => ?_⟩
  rw [List.getElem?_drop] at hi
  obtain ⟨b', off', A', n', c', ha, x1, x2⟩ := h3 (c + i) row hi
  injection ha with ha; injection ha with ha1 ha2
  subst ha1 ha2
  exact ⟨b, off + c, A', n', c', rfl, by rw [Nat.add_assoc]; exact x1, x2⟩

/-- what hangs on some blocks alone does so element by element -/
theorem On.ratsE {E : Elem} {w : World} {P : Nat → Prop} {v : Value} {l : List Rat} (h : On w P (fun W => Rats E W v l)) : Rats (EOn P E) w v l := by
  obtain ⟨F, f1, f2⟩ := h
  obtain ⟨A, c, rfl, h1, h2, h3⟩ := f2 w fun _ _ => rfl
  refine ⟨A, c, rfl, h1, h2, fun i q hi => ?_⟩
  obtain ⟨b, off, s, A1, n1, c1, s', A2, n2, c2, rfl, x1, x2, x3, x4, hE⟩ := h3 i q hi
  have hblt : b < w.heap.size := World.block_lt_of_cell? w ⟨b, off + i * 4, none⟩ x1
  have hF : F b := by
    refine Classical.byContradiction fun hF => ?_
    have hR := f2 { w with heap := w.heap.set b (.cells #[] 0 (0, 1)) hblt } (fun b' hb' => by
      have hne : b ≠ b' := fun e => hF (e ▸ hb')
      simp [Array.getElem?_set, hne])
    obtain ⟨b', off', s'', A1', n1', c1', s3, A2', n2', c2', e, y1, -⟩ := hR.at_ hi
    injection e with e; injection e with e1 e2
    subst e1 e2
    unfold World.cell? at y1
    simp at y1
  refine ⟨b, off, s, A1, n1, c1, s', A2, n2, c2, rfl, x1, x2, x3, x4, F, f1, fun W hW => ?_⟩
  obtain ⟨b', off', s'', A1', n1', c1', s3, A2', n2', c2', e, y1, y2, y3, y4, hE'⟩ := (f2 W hW).at_ hi
  injection e with e; injection e with e1 e2
  subst e1 e2
  have hk := fun o => World.cell?_of_block (a := ⟨b, o, none⟩) (hW b hF)
  rw [hk, x1] at y1
  rw [hk, x2] at y2
  rw [hk, x3] at y3
  rw [hk, x4] at y4
  injection y1 with y1; injection y2 with y2; injection y3 with y3; injection y4 with y4
  rw [y1, y2, y3, y4]; exact hE'
theorem OutTab.tabE {E : Elem} {w : World} {P : Nat → Prop} {lo : Nat} {v : Value} {t : List (List Rat)} (h : OutTab E w P lo v t) : Tab (EOn P E) w v t := by
  obtain ⟨es, h1, h2, h3, h4⟩ := h
  refine (OutTab.tab (E := EOn P E) (P := fun _ => True) (lo := lo) ⟨es, h1, h2, h3, ?_⟩).now
  obtain ⟨F, f1, f2⟩ := h4
  refine ⟨F, fun b hb => ⟨⟨trivial, (f1 b hb).1.2⟩, (f1 b hb).2⟩, fun W hW i e row hi hr => On.ratsE ⟨F, fun b hb => ⟨(f1 b hb).1.1, ?_⟩, fun W' hW' => f2 W' (fun b hb => (hW' b hb).trans (hW b hb)) i e row hi hr⟩⟩
  have h5 := hW b hb
  rw [Array.getElem?_eq_getElem (f1 b hb).2] at h5
  exact (Array.getElem?_eq_some_iff.1 h5).1
end Go.Proofs.YthncinngkfflgaaGreat
