import Derived.Test.YtbhohnhkephefaaM14
import Derived.Test.YtbhohnhkephefaaM12
import Derived.Test.YtbhohnhkephefaaM15
import Derived.ProofKit
import Derived.Deep.Slices
import Derived.Test.YtbhohnhkephefaaM11

/- Tables whose rows, or columns, stand the other way round; a row so many times; sums of products. No program is in sight here. -/
set_option linter.unusedVariables false
set_option linter.unusedSimpArgs false
namespace Go.Proofs.Ytbhohnhkephefaa

theorem sumTo_front (n : Nat) (f : Nat → Rat) : sumTo (n+1) f = f 0 + sumTo n (fun k => f (k+1)) := by
  induction n with
  | zero => simp only [sumTo]; grind
  | succ n ih => rw [sumTo, ih]; simp only [sumTo]; grind
theorem sumTo_rev (n : Nat) (f : Nat → Rat) : sumTo n (fun k => f (n-1-k)) = sumTo n f := by
  induction n generalizing f with
  | zero => rfl
  | succ n ih =>
    rw [sumTo_front]
    have h : sumTo n (fun k => f (n+1-1-(k+1))) = sumTo n f := by
      rw [← ih f]; exact sumTo_congr (fun k hk => by congr 1; omega)
    rw [h, show n+1-1-0 = n by omega]
    simp only [sumTo]; grind

theorem sing_iff (n : Nat) (M : Nat → Nat → Rat) : SingF n M ↔ ∃ z : Nat → Rat, (∃ k, k < n ∧ z k ≠ 0) ∧ SolF n M (fun _ => 0) z := Iff.rfl

theorem sol_rows1 {n : Nat} {M N : Nat → Nat → Rat} {b c x : Nat → Rat} (h : ∀ i k, i < n → k < n → N i k = M (n-1-i) k) (hb : ∀ i, i < n → c i = b (n-1-i)) (hx : SolF n M b x) : SolF n N c x := by
  intro i hi
  rw [sumTo_congr (g := fun k => M (n-1-i) k * x k) (fun k hk => by rw [h i k hi hk]), hx (n-1-i) (by omega), hb i hi]
theorem sol_rows {n : Nat} {M N : Nat → Nat → Rat} {b c x : Nat → Rat} (h : ∀ i k, i < n → k < n → N i k = M (n-1-i) k) (hb : ∀ i, i < n → c i = b (n-1-i)) : SolF n N c x ↔ SolF n M b x := by
  refine ⟨sol_rows1 (fun i k hi hk => ?_) (fun i hi => ?_), sol_rows1 h hb⟩
  · rw [h (n-1-i) k (by omega) hk, show n-1-(n-1-i) = i by omega]
  · rw [hb (n-1-i) (by omega), show n-1-(n-1-i) = i by omega]
theorem sing_rows {n : Nat} {M N : Nat → Nat → Rat} (h : ∀ i k, i < n → k < n → N i k = M (n-1-i) k) : SingF n N ↔ SingF n M := by
  rw [sing_iff, sing_iff]
  constructor
  · rintro ⟨z, hz, hs⟩; exact ⟨z, hz, (sol_rows (b := fun _ => 0) h (fun _ _ => rfl)).1 hs⟩
  · rintro ⟨z, hz, hs⟩; exact ⟨z, hz, (sol_rows (b := fun _ => 0) h (fun _ _ => rfl)).2 hs⟩

theorem sol_cols {n : Nat} {M N : Nat → Nat → Rat} {b x : Nat → Rat} (h : ∀ i k, i < n → k < n → N i k = M i (n-1-k)) : SolF n N b x ↔ SolF n M b (fun k => x (n-1-k)) := by
  have key : ∀ i, i < n → sumTo n (fun k => N i k * x k) = sumTo n (fun k => M i k * x (n-1-k)) := fun i hi => by
    rw [← sumTo_rev n (fun k => M i k * x (n-1-k))]
    exact sumTo_congr fun k hk => by rw [h i k hi hk, show n-1-(n-1-k) = k by omega]
  constructor
  · intro hs i hi; show sumTo n (fun k => M i k * x (n-1-k)) = b i; rw [← key i hi]; exact hs i hi
  · intro hs i hi; rw [key i hi]; exact hs i hi
theorem sing_cols {n : Nat} {M N : Nat → Nat → Rat} (h : ∀ i k, i < n → k < n → N i k = M i (n-1-k)) : SingF n N ↔ SingF n M := by
  rw [sing_iff, sing_iff]
  constructor
  · rintro ⟨z, ⟨k, hk, hz⟩, hs⟩
    exact ⟨fun k => z (n-1-k), ⟨n-1-k, by omega, by show z (n-1-(n-1-k)) ≠ 0; rw [show n-1-(n-1-k) = k by omega]; exact hz⟩, (sol_cols h).1 hs⟩
  · rintro ⟨z, ⟨k, hk, hz⟩, hs⟩
    refine ⟨fun k => z (n-1-k), ⟨n-1-k, by omega, by show z (n-1-(n-1-k)) ≠ 0; rw [show n-1-(n-1-k) = k by omega]; exact hz⟩, (sol_cols h).2 ?_⟩
    intro i hi
    rw [sumTo_congr (g := fun k => M i k * z k) (fun k hk => by show M i k * z (n-1-(n-1-k)) = M i k * z k; rw [show n-1-(n-1-k) = k by omega])]
    exact hs i hi

theorem sol_scaled {n i : Nat} {M N : Nat → Nat → Rat} {b c x : Nat → Rat} {q : Rat} (hq : q ≠ 0) (h : ∀ a k, a < n → k < n → N a k = if a = i then q * M i k else M a k) (hc : ∀ a, a < n → c a = if a = i then b i * q else b a) :
    SolF n N c x ↔ SolF n M b x := by
  have key : ∀ a, a < n → sumTo n (fun k => N a k * x k) = if a = i then q * sumTo n (fun k => M i k * x k) else sumTo n (fun k => M a k * x k) := fun a ha => by
    by_cases e : a = i
    · subst e
      rw [if_pos rfl, sumTo_congr (g := fun k => q * (M a k * x k) + 0 * 0) (fun k hk => by rw [h a k ha hk, if_pos rfl]; grind), sumTo_lin n (fun k => M a k * x k) (fun _ => 0)]; grind
    · rw [if_neg e]; exact sumTo_congr fun k hk => by rw [h a k ha hk, if_neg e]
  constructor
  · intro hs a ha
    have h1 := hs a ha
    rw [key a ha, hc a ha] at h1
    by_cases e : a = i
    · subst e; rw [if_pos rfl, if_pos rfl] at h1
      have h2 : q * (sumTo n (fun k => M a k * x k) - b a) = 0 := by grind
      rcases Rat.mul_eq_zero.1 h2 with h3 | h3
      · exact absurd h3 hq
      · grind
    · rw [if_neg e, if_neg e] at h1; exact h1
  · intro hs a ha
    rw [key a ha, hc a ha]
    by_cases e : a = i
    · subst e; rw [if_pos rfl, if_pos rfl, hs a ha]; grind
    · rw [if_neg e, if_neg e]; exact hs a ha
theorem sing_scaled {n i : Nat} {M N : Nat → Nat → Rat} {q : Rat} (hq : q ≠ 0) (h : ∀ a k, a < n → k < n → N a k = if a = i then q * M i k else M a k) : SingF n N ↔ SingF n M := by
  rw [sing_iff, sing_iff]
  have hc : ∀ a, a < n → (fun _ : Nat => (0 : Rat)) a = if a = i then (fun _ : Nat => (0 : Rat)) i * q else (fun _ : Nat => (0 : Rat)) a := fun a _ => by
    show (0 : Rat) = if a = i then 0 * q else 0
    split <;> grind
  constructor
  · rintro ⟨z, hz, hs⟩; exact ⟨z, hz, (sol_scaled hq h hc).1 hs⟩
  · rintro ⟨z, hz, hs⟩; exact ⟨z, hz, (sol_scaled hq h hc).2 hs⟩
theorem sol_double {n : Nat} {M : Nat → Nat → Rat} {b c x y : Nat → Rat} (hc : ∀ a, a < n → c a = b a + 1 * b a) (hy : ∀ k, k < n → y k = x k + 1 * x k) (hs : SolF n M b x) : SolF n M c y := by
  intro a ha
  rw [sumTo_congr (g := fun k => 2 * (M a k * x k) + 0 * 0) (fun k hk => by rw [hy k hk]; grind), sumTo_lin n (fun k => M a k * x k) (fun _ => 0), hs a ha, hc a ha]; grind

theorem unit_sum {n : Nat} {M : Nat → Nat → Rat} (h : ∀ i k, i < n → k < n → M i k = if k = i then 1 else 0) (x : Nat → Rat) {i : Nat} (hi : i < n) : sumTo n (fun k => M i k * x k) = x i := by
  rw [sumTo_one (c := i) _ hi (fun k hk hne => by rw [h i k hi hk, if_neg hne]; grind), h i i hi hi, if_pos rfl]; grind
theorem unit_sol {n : Nat} {M : Nat → Nat → Rat} (h : ∀ i k, i < n → k < n → M i k = if k = i then 1 else 0) {b x : Nat → Rat} (hs : SolF n M b x) {i : Nat} (hi : i < n) : x i = b i := by
  rw [← unit_sum h x hi]; exact hs i hi
theorem unit_not_sing {n : Nat} {M : Nat → Nat → Rat} (h : ∀ i k, i < n → k < n → M i k = if k = i then 1 else 0) : ¬ SingF n M := by
  rintro ⟨z, ⟨k, hk, hz⟩, hs⟩
  exact hz (by rw [← unit_sum h z hk]; exact hs k hk)

/-! ### lists -/
theorem list_eq_of_getD {x y : List Rat} {n : Nat} (hx : x.length = n) (hy : y.length = n) (h : ∀ k, k < n → x.getD k 0 = y.getD k 0) : x = y := by
  apply List.ext_getElem (by omega)
  intro i h1 h2
  have := h i (by omega)
  rwa [List.getD_eq_getElem?_getD, List.getD_eq_getElem?_getD, List.getElem?_eq_getElem h1, List.getElem?_eq_getElem h2] at this
theorem getD_rev {α : Type} {x : List α} {d : α} {n k : Nat} (hx : x.length = n) (hk : k < n) : x.reverse.getD k d = x.getD (n-1-k) d := by
  rw [List.getD_eq_getElem?_getD, List.getD_eq_getElem?_getD, List.getElem?_reverse (by omega), hx]
theorem ent_rows {t : List (List Rat)} {n i : Nat} (ht : t.length = n) (hi : i < n) (k : Nat) : ent t.reverse i k = ent t (n-1-i) k := by
  unfold ent; rw [getD_rev ht hi]
theorem ent_cols {t : List (List Rat)} {n i k : Nat} (ht : t.length = n) (hr : ∀ row ∈ t, row.length = n) (hi : i < n) (hk : k < n) : ent (t.map List.reverse) i k = ent t i (n-1-k) := by
  have h1 : t[i]? = some (t[i]'(by omega)) := List.getElem?_eq_getElem _
  have h2 := hr _ (List.mem_of_getElem? h1)
  unfold ent
  rw [List.getD_eq_getElem?_getD (l := t.map List.reverse), List.getElem?_map, h1, List.getD_eq_getElem?_getD (l := t), h1]
  simp only [Option.map_some, Option.getD_some]
  rw [getD_rev h2 hk]

theorem foldl_add (l : List Rat) (x : Rat) : l.foldl (· + ·) x = x + l.foldl (· + ·) 0 := by
  induction l generalizing x with
  | nil => simp only [List.foldl_nil]; grind
  | cons y l ih => simp only [List.foldl_cons]; rw [ih (x + y), ih (0 + y)]; grind
theorem sumR_cons (x : Rat) (l : List Rat) : sumR (x :: l) = x + sumR l := by
  unfold sumR; rw [List.foldl_cons, foldl_add]; grind
theorem dotL_comm (a b : List Rat) : dotL a b = dotL b a := by
  unfold dotL
  rw [List.zipWith_comm]
  congr 2
  funext x y; grind
theorem dotL_axpy (a : List Rat) (k : Rat) : ∀ (b : List Rat), dotL (axpyL (List.replicate a.length 0) a k) b = k * dotL a b := by
  induction a with
  | nil => intro b; simp only [dotL, axpyL, List.length_nil, List.replicate_zero, List.zipWith_nil_left, sumR_nil]; grind
  | cons x a ih =>
    intro b
    cases b with
    | nil => simp only [dotL, List.zipWith_nil_right, sumR_nil]; grind
    | cons y b =>
      have h := ih b
      unfold dotL axpyL at h ⊢
      rw [List.length_cons, List.replicate_succ, List.zipWith_cons_cons, List.zipWith_cons_cons, List.zipWith_cons_cons, sumR_cons, sumR_cons, h]; grind
end Go.Proofs.Ytbhohnhkephefaa


/- Tables that are the same, number by number. No program is in sight here. -/
set_option linter.unusedVariables false
set_option linter.unusedSimpArgs false
namespace Go.Proofs.Ytbhohnhkephefaa

theorem tab_ext {t u : List (List Rat)} {n m : Nat} (ht : t.length = n) (hu : u.length = n) (hr : ∀ row ∈ t, row.length = m) (hs : ∀ row ∈ u, row.length = m) (h : ∀ i k, i < n → k < m → ent t i k = ent u i k) : t = u := by
  apply List.ext_getElem (by omega)
  intro i h1 h2
  have e1 := hr _ (List.getElem_mem h1)
  have e2 := hs _ (List.getElem_mem h2)
  refine list_eq_of_getD e1 e2 fun k hk => ?_
  have h3 := h i k (by omega) hk
  unfold ent at h3
  rwa [List.getD_eq_getElem?_getD (l := t), List.getD_eq_getElem?_getD (l := u), List.getElem?_eq_getElem h1, List.getElem?_eq_getElem h2] at h3
theorem pivL_rect {t : List (List Rat)} {r c m : Nat} (hr : r < t.length) (h : ∀ row ∈ t, row.length = m) : ∀ row ∈ pivL t r c, row.length = m := by
  have hg : ∀ a, a < t.length → (t.getD a []).length = m := fun a ha => h _ (by rw [List.getD_eq_getElem?_getD, List.getElem?_eq_getElem ha]; exact List.getElem_mem ha)
  intro row hrow
  obtain ⟨i, hi, rfl⟩ := List.mem_map.1 hrow
  have hi2 := List.mem_range.1 hi
  unfold pivRow ownL axpyL
  split
  · rw [List.length_map]; exact hg r hr
  · rw [List.length_zipWith, List.length_map, hg r hr, hg i hi2, Nat.min_self]
end Go.Proofs.Ytbhohnhkephefaa


/- What the reference's Solve does to a table, in plain Lean: a pivot in each column, wherever one may be. No program is in sight here. -/
set_option linter.unusedVariables false
set_option linter.unusedSimpArgs false
namespace Go.Proofs.Ytbhohnhkephefaa

structure GoodU (n : Nat) (t : List (List Rat)) (b : List Rat) (c : Nat) (W : List (List Rat)) (u : List Nat) : Prop where
  len : W.length = n
  rect : ∀ row ∈ W, row.length = n + 1
  unit : UnitF n c (ent W) (fun k => u.getD k 0)
  null : ∀ z, NullF n (n+1) (ent W) z ↔ NullF n (n+1) (augF n (ent t) (fun i => b.getD i 0)) z

theorem goodU_start {n : Nat} {t : List (List Rat)} {b : List Rat} (ht : t.length = n) (hb : b.length = n) (hr : ∀ row ∈ t, row.length = n) (u : List Nat) : GoodU n t b 0 (augT t b) u := by
  have h := good_start ht hb hr
  exact ⟨h.len, h.rect, UnitF.zero _ _ _, h.null⟩
theorem goodU_step {n c r : Nat} {t : List (List Rat)} {b : List Rat} {W : List (List Rat)} {u : List Nat} (h : GoodU n t b c W u) (hc : c < n) (hul : u.length = n) (hr : r < n) (hu : ∀ k, k < c → u.getD k 0 ≠ r) (hp : ent W r c ≠ 0) :
    GoodU n t b (c+1) (pivL W r c) (u.set c r) := by
  have hl := h.len
  have hpe : ∀ i k, i < n → k < n + 1 → ent (pivL W r c) i k = piv (ent W) r c i k := fun i k hi hk => piv_ent (by omega) h.rect (by omega) hk
  refine ⟨by simp [pivL, hl], pivL_rect (by omega) h.rect, ?_, fun z => ?_⟩
  · have hst := h.unit.step (v := fun k => (u.set c r).getD k 0) hr hu hp (fun k hk => by
      show (u.set c r).getD k 0 = u.getD k 0
      rw [List.getD_eq_getElem?_getD, List.getElem?_set_ne (by omega), List.getD_eq_getElem?_getD]) (by
      show (u.set c r).getD c 0 = r
      rw [List.getD_eq_getElem?_getD, List.getElem?_set, if_pos rfl, if_pos (by omega)]; rfl)
    refine ⟨hst.lt, hst.inj, fun k i hk hi => ?_⟩
    rw [hpe i k hi (by omega)]; exact hst.ent k i hk hi
  · rw [← h.null z, null_congr hpe z, piv_null hr hp]
theorem goodU_stuck {n c : Nat} {t : List (List Rat)} {b : List Rat} {W : List (List Rat)} {u : List Nat} (h : GoodU n t b c W u) (hc : c < n) (h0 : ∀ i, i < n → (∀ k, k < c → u.getD k 0 ≠ i) → ent W i c = 0) : SingF n (ent t) :=
  stuck_sing hc h.unit h.null h0
/-- the one solution -/
def usedCol (n : Nat) (u : List Nat) (W : List (List Rat)) : List Rat := (List.range n).map fun c => ent W (u.getD c 0) n
theorem goodU_done {n : Nat} {t : List (List Rat)} {b : List Rat} {W : List (List Rat)} {u : List Nat} (h : GoodU n t b n W u) : SolF n (ent t) (fun i => b.getD i 0) (fun i => (usedCol n u W).getD i 0) ∧ ¬ SingF n (ent t) := by
  have h1 := done_sol h.unit h.null (inj_sur n _ h.unit.lt h.unit.inj)
  refine ⟨fun i hi => ?_, h1.2⟩
  have h2 := h1.1 i hi
  rw [sumTo_congr (g := fun k => ent t i k * ent W (u.getD k 0) n) (fun k hk => by
    show ent t i k * (usedCol n u W).getD k 0 = _
    unfold usedCol
    rw [List.getD_eq_getElem?_getD (l := List.map _ _), List.getElem?_map, List.getElem?_range hk]; rfl)]
  exact h2

/-- which rows have had their pivot -/
def TakenL (n c : Nat) (u : List Nat) (tk : List Bool) : Prop := tk.length = n ∧ u.length = n ∧ ∀ i, i < n → (tk.getD i false = true ↔ ∃ k, k < c ∧ u.getD k 0 = i)
theorem taken_start (n : Nat) : TakenL n 0 (List.replicate n 0) (List.replicate n false) := by
  refine ⟨by simp, by simp, fun i hi => ⟨fun h => ?_, fun ⟨k, hk, _⟩ => by omega⟩⟩
  rw [List.getD_eq_getElem?_getD, List.getElem?_replicate, if_pos hi] at h
  cases h
theorem taken_step {n c r : Nat} {u : List Nat} {tk : List Bool} (h : TakenL n c u tk) (hc : c < n) (hr : r < n) : TakenL n (c+1) (u.set c r) (tk.set r true) := by
  obtain ⟨h1, h2, h3⟩ := h
  have hu : ∀ k, (u.set c r).getD k 0 = if k = c then r else u.getD k 0 := fun k => by
    rw [List.getD_eq_getElem?_getD, List.getElem?_set]
    by_cases e : c = k
    · subst e; rw [if_pos rfl, if_pos (by omega), if_pos rfl]; rfl
    · rw [if_neg e, if_neg (fun e2 => e e2.symm), List.getD_eq_getElem?_getD]
  refine ⟨by simp [h1], by simp [h2], fun i hi => ?_⟩
  rw [List.getD_eq_getElem?_getD, List.getElem?_set]
  by_cases e : r = i
  · subst e
    rw [if_pos rfl, if_pos (by omega)]
    refine ⟨fun _ => ⟨c, by omega, by rw [hu, if_pos rfl]⟩, fun _ => rfl⟩
  · rw [if_neg e, ← List.getD_eq_getElem?_getD, h3 i hi]
    constructor
    · rintro ⟨k, hk, hk2⟩; exact ⟨k, by omega, by rw [hu, if_neg (by omega)]; exact hk2⟩
    · rintro ⟨k, hk, hk2⟩
      rw [hu] at hk2
      by_cases e2 : k = c
      · rw [if_pos e2] at hk2; exact absurd hk2 e
      · rw [if_neg e2] at hk2; exact ⟨k, by omega, hk2⟩

/-- the search for a row, from the last on: none from p on, or one -/
def Found (W : List (List Rat)) (tk : List Bool) (c p n : Nat) (r : Int) : Prop :=
  (r = -1 ∧ ∀ i, p ≤ i → i < n → tk.getD i false = false → ent W i c = 0) ∨ (∃ i : Nat, r = (i : Int) ∧ i < n ∧ tk.getD i false = false ∧ ent W i c ≠ 0)
theorem found_start (W : List (List Rat)) (tk : List Bool) (c n : Nat) : Found W tk c n n (-1) := .inl ⟨rfl, fun i h1 h2 => by omega⟩
theorem found_not {W : List (List Rat)} {tk : List Bool} {c p n : Nat} {r : Int} (h : Found W tk c (p+1) n r) (hp : tk.getD p false = true ∨ ent W p c = 0) : Found W tk c p n r := by
  rcases h with ⟨h1, h2⟩ | h
  · refine .inl ⟨h1, fun i hi hin ht => ?_⟩
    by_cases e : i = p
    · subst e
      rcases hp with h | h
      · rw [h] at ht; cases ht
      · exact h
    · exact h2 i (by omega) hin ht
  · exact .inr h
theorem found_yes {W : List (List Rat)} {tk : List Bool} {c p n : Nat} (hp : p < n) (h1 : tk.getD p false = false) (h2 : ent W p c ≠ 0) : Found W tk c p n (p : Int) := .inr ⟨p, rfl, hp, h1, h2⟩
end Go.Proofs.Ytbhohnhkephefaa


/- What comes in reads as fractions, rows and tables of fractions, of whatever size. -/
set_option linter.unusedVariables false
set_option linter.unusedSimpArgs false
set_option maxRecDepth 100000
namespace Go.Proofs.Ytbhohnhkephefaa
open Go.RowKit Go.Shelf Go.ChangeShapes Go.WideShapes Go.Deep

section
variable {H : Type} {enc : TypeId × Value → H} {w : World} {base : Nat} {spare : Nat → Bool} {held : Bool}

theorem cellsRat : Try.prog.cellsOf 35 = 4 := by kernel_rfl
theorem cellsInt : Try.prog.cellsOf 33 = 2 := by kernel_rfl
theorem cellsBool : Try.prog.cellsOf 4 = 1 := by kernel_rfl
theorem cellsU32s : Try.prog.cellsOf 31 = 1 := by kernel_rfl
theorem cellsU32 : Try.prog.cellsOf 98 = 1 := by kernel_rfl
theorem cellsRats : Try.prog.cellsOf 27 = 1 := by kernel_rfl

theorem u32s_open {fuel : Nat} {cs : List Value} {y : DataW H × List MemPlace} (h : DataW.trod enc Try.prog w base spare held fuel 31 cs = some y) :
    ∃ A n c l, cs = [.slice A n c] ∧ U32s w (.slice A n c) l := by
  rcases open_ints Try.underlying31 Try.underlying98 cellsU32 h with ⟨rfl, -⟩ | ⟨a, n, c, zs, rfl, -, hl, hm, hz, -, hcell, hwf⟩
  · exact ⟨_, _, _, [], rfl, U32s.nil w⟩
  · have hzl : n ≤ zs.length := by rw [hz]; split <;> omega
    have hb : ∀ i, i < n → 0 ≤ zs.getD i 0 ∧ zs.getD i 0 < 4294967296 := fun i hi => by
      have h1 : zs.getD i 0 ∈ zs := by
        rw [List.getD_eq_getElem?_getD, List.getElem?_eq_getElem (by omega)]; exact List.getElem_mem _
      have h2 := hwf _ h1
      have h3 : 0 ≤ zs.getD i 0 ∧ zs.getD i 0 ≤ 4294967295 := by simpa [Lit.wf, IntKind.min, IntKind.max, IntKind.bits, IntKind.signed] using h2
      omega
    refine ⟨_, _, _, (List.range n).map fun i => (zs.getD i 0).toNat, rfl, ?_, some a, c, by simp, by simpa using hl, hm, by simp [nums], ?_⟩
    · intro x hx
      obtain ⟨i, hi, rfl⟩ := List.mem_map.1 hx
      have := hb i (List.mem_range.1 hi)
      omega
    · by_cases hn : n = 0
      · subst hn; left; rfl
      · right
        obtain ⟨b, off, spot⟩ := a
        have h0 := hcell 0 (by omega)
        have hs : spot = none := by simpa [Addr.add] using World.cell?_spot h0
        subst hs
        refine ⟨b, off, rfl, fun j u hj => ?_⟩
        have hjn : j < n := by
          have := (List.getElem?_eq_some_iff.1 hj).1
          simpa [nums] using this
        have h1 := hcell j (by omega)
        rw [add_plain] at h1
        rw [h1]
        have h2 := hb j hjn
        have hj2 : u = .int .u32 (((zs.getD j 0).toNat : Nat) : Int) := by
          unfold nums at hj
          rw [List.getElem?_map, List.getElem?_map, List.getElem?_range hjn] at hj
          simpa using hj.symm
        rw [hj2, Int.toNat_of_nonneg h2.1]

theorem int_open {fuel : Nat} {cs : List Value} {y : DataW H × List MemPlace} (h : DataW.trod enc Try.prog w base spare held fuel 33 cs = some y) :
    ∃ s A n c z k, cs = [.bool s, .slice A n c] ∧ RawI w (.agg #[.bool s, .slice A n c]) z k := by
  obtain ⟨y0, y1, m, -, hlen, h0, h1⟩ := trod_struct2 Try.underlying33 h
  rw [cellsInt] at hlen
  match cs, hlen with
  | [c0, c1], _ =>
    simp only [cellsBool, cellsU32s, List.drop_zero, List.drop_succ_cons, List.take_succ_cons, List.take_zero] at h0 h1
    obtain ⟨s, e0, -⟩ := DataW.trod_bool Try.underlying4 h0
    obtain ⟨A, n, c, l, e1, hu⟩ := u32s_open h1
    simp at e0 e1
    subst e0 e1
    exact ⟨s, A, n, c, _, _, rfl, s, A, n, c, l, rfl, hu, rfl, Nat.le_refl _⟩

theorem RawI.mono' {w : World} {v : Value} {z : Int} {k m : Nat} (h : RawI w v z k) (hm : k ≤ m) : RawI w v z m := by
  obtain ⟨a, A, n, c, l, e, hu, hz, hl⟩ := h; exact ⟨a, A, n, c, l, e, hu, hz, by omega⟩

theorem rat_open {fuel : Nat} {cs : List Value} {y : DataW H × List MemPlace} (h : DataW.trod enc Try.prog w base spare held fuel 35 cs = some y) :
    ∃ s A n c s' A' n' c' q, cs = [.bool s, .slice A n c, .bool s', .slice A' n' c'] ∧ EAny w (.agg #[.bool s, .slice A n c, .bool s', .slice A' n' c']) q := by
  obtain ⟨y0, y1, m, -, hlen, h0, h1⟩ := trod_struct2 Try.underlying35 h
  rw [cellsRat] at hlen
  match cs, hlen with
  | [c0, c1, c2, c3], _ =>
    simp only [cellsInt, List.drop_zero, List.drop_succ_cons, List.take_succ_cons, List.take_zero] at h0 h1
    obtain ⟨s, A, n, c, z, k, e0, hz⟩ := int_open h0
    obtain ⟨s', A', n', c', z', k', e1, hz'⟩ := int_open h1
    simp at e0 e1
    obtain ⟨rfl, rfl⟩ := e0
    obtain ⟨rfl, rfl⟩ := e1
    exact ⟨s, A, n, c, s', A', n', c', _, rfl, k + k', s, A, n, c, s', A', n', c', z, z', rfl, hz.mono' (by omega), hz'.mono' (by omega), rfl⟩

theorem rats_open {fuel : Nat} {cs : List Value} {y : DataW H × List MemPlace} (h : DataW.trod enc Try.prog w base spare held fuel 27 cs = some y) :
    ∃ A n c l, cs = [.slice A n c] ∧ Rats EAny w (.slice A n c) l := by
  rcases open_slice Try.underlying27 h with ⟨rfl, -⟩ | ⟨a, n, c, m, f, D, Pl, rfl, -, hl, hm, hmm, -, hx⟩
  · exact ⟨_, _, _, [], rfl, none, 0, rfl, by simp, by decide, fun i q hi => by simp at hi⟩
  · have hnm : n ≤ m := by rw [hmm]; split <;> omega
    rcases Nat.eq_zero_or_pos n with rfl | hpos
    · exact ⟨_, _, _, [], rfl, some a, c, rfl, by simp, hm, fun i q hi => by simp at hi⟩
    obtain ⟨b0, off0, spot⟩ := a
    obtain rfl : spot = none := by
      obtain ⟨cs, h1, h2⟩ := hx 0 (by omega)
      obtain ⟨s, A, n', c', s', A', n'', c'', q, rfl, hq⟩ := rat_open h2
      rw [cellsRat] at h1
      obtain ⟨-, -, h3⟩ := World.cells?_some h1
      have := World.cell?_spot (h3 0 (by omega))
      simpa [Addr.add] using this
    have key : ∀ i, i < n → ∃ q : Rat, ∃ b off s A1 n1 c1 s' A2 n2 c2, (⟨b0, off0, none⟩ : Addr) = ⟨b, off, none⟩ ∧ w.cell? ⟨b, off + i * 4, none⟩ = some (.bool s) ∧ w.cell? ⟨b, off + i * 4 + 1, none⟩ = some (.slice A1 n1 c1) ∧
        w.cell? ⟨b, off + i * 4 + 2, none⟩ = some (.bool s') ∧ w.cell? ⟨b, off + i * 4 + 3, none⟩ = some (.slice A2 n2 c2) ∧ EAny w (.agg #[.bool s, .slice A1 n1 c1, .bool s', .slice A2 n2 c2]) q := fun i hi => by
      obtain ⟨cs, h1, h2⟩ := hx i (by omega)
      obtain ⟨s, A, n', c', s', A', n'', c'', q, rfl, hq⟩ := rat_open h2
      rw [cellsRat] at h1
      obtain ⟨-, -, h3⟩ := World.cells?_some h1
      have h4 := h3 0 (by omega); have h5 := h3 1 (by omega); have h6 := h3 2 (by omega); have h7 := h3 3 (by omega)
      simp only [add_plain, Nat.add_zero] at h4 h5 h6 h7
      exact ⟨q, b0, off0, s, A, n', c', s', A', n'', c'', rfl, h4, h5, h6, h7, hq⟩
    obtain ⟨Q, hQ⟩ := choose_lt (α := Rat) key
    refine ⟨_, _, _, (List.range n).map Q, rfl, some ⟨b0, off0, none⟩, c, by simp, by simpa using hl, hm, fun i q hi => ?_⟩
    have hin : i < n := by
      have := (List.getElem?_eq_some_iff.1 hi).1
      simpa using this
    obtain ⟨b, off, s, A1, n1, c1, s', A2, n2, c2, e0, x⟩ := hQ i hin
    simp [hin] at hi
    subst hi
    exact ⟨b, off, s, A1, n1, c1, s', A2, n2, c2, by rw [e0], x⟩

theorem arg_rat {r : Reach} {b0 : Nat} {v : Value} {d : DataW H} {p : List MemPlace} (hv : Value.okWide Try.prog w r b0 35 v) (h : DataW.Trod enc Try.prog w base spare held 35 v d p) : ∃ q, EAny w v q := by
  obtain ⟨cs, rfl, hsz⟩ := okWide_struct Try.underlying35 hv
  obtain ⟨fuel, hf⟩ := h
  obtain ⟨s, A, n, c, s', A', n', c', q, e, hq⟩ := rat_open hf
  have e2 : cs = #[.bool s, .slice A n c, .bool s', .slice A' n' c'] := by
    apply Array.ext'
    simpa [Value.cells] using e
  exact ⟨q, by rw [e2]; exact hq⟩
theorem arg_rats {r : Reach} {b0 : Nat} {v : Value} {d : DataW H} {p : List MemPlace} (hv : Value.okWide Try.prog w r b0 27 v) (h : DataW.Trod enc Try.prog w base spare held 27 v d p) : ∃ l, Rats EAny w v l := by
  obtain ⟨A, n, c, rfl⟩ := okWide_slice Try.underlying27 hv
  obtain ⟨fuel, hf⟩ := h
  obtain ⟨A', n', c', l, e, hl⟩ := rats_open hf
  simp [Value.cells] at e
  obtain ⟨rfl, rfl, rfl⟩ := e
  exact ⟨l, hl⟩
end
end Go.Proofs.Ytbhohnhkephefaa


/- Several rows of one's own that grow by turns. -/
set_option linter.unusedVariables false
set_option linter.unusedSimpArgs false
set_option maxRecDepth 100000
namespace Go.Proofs.Ytbhohnhkephefaa
open Go.RowKit Go.Shelf
attribute [local go_sem ↓] Go.wp_at_zero Go.wp_at_succ

theorem ownsRow_grown {w w' : World} {B size n : Nat} {e : TypeId} {v : Value} {xs : List Value} {row : Option Nat} (h : w.ownsRow B e size v n xs) (hg : w.grownBy w' row) (hv : ∀ k, v.ownBlock = some k → some k ≠ row) : w'.ownsRow B e size v n xs := by
  obtain ⟨h2, h3⟩ := h
  refine ⟨h2, ?_⟩
  rcases h3 with h3 | ⟨g, cap, cur, rfl, hb', hgg, r⟩
  · exact .inl h3
  · have hlt : g < w.heap.size := by
      rcases Nat.lt_or_ge g w.heap.size with h | h
      · exact h
      · rw [Array.getElem?_eq_none h] at hgg; cases hgg
    exact .inr ⟨g, cap, cur, rfl, hb', (hg.block g hlt (hv g rfl)).trans hgg, r⟩
theorem On.beside {w w' : World} {P P' : Nat → Prop} {T : World → Prop} {row : Option Nat} (h : On w P T) (hg : w.grownBy w' row) (h1 : ∀ b, P b → b < w.heap.size → some b ≠ row ∧ P' b) : On w' P' T := by
  obtain ⟨F, f1, f2⟩ := h
  exact ⟨F, fun b hb => ⟨(h1 b (f1 b hb).1 (f1 b hb).2).2, Nat.lt_of_lt_of_le (f1 b hb).2 hg.size⟩, fun W hW => f2 W fun b hb => (hW b hb).trans (hg.block b (f1 b hb).2 (h1 b (f1 b hb).1 (f1 b hb).2).1)⟩

theorem rats_agree {w W : World} {k : Nat} {v : Value} {l : List Rat} (h : Rats (ERaw k) w v l) (ha : ∀ b, b < w.heap.size → W.heap[b]? = w.heap[b]?) : Rats (ERaw k) W v l := by
  have hc : ∀ (p : Addr) (u : Value), w.cell? p = some u → W.cell? p = some u := fun p u h => (World.cell?_of_block (a := p) (ha p.block (World.block_lt_of_cell? w _ h))).trans h
  obtain ⟨A, c, e, h1, h2, h3⟩ := h
  refine ⟨A, c, e, h1, h2, fun i q hi => ?_⟩
  obtain ⟨b, off, s, A1, n1, c1, s', A2, n2, c2, hA, x1, x2, x3, x4, hE'⟩ := h3 i q hi
  exact ⟨b, off, s, A1, n1, c1, s', A2, n2, c2, hA, hc _ _ x1, hc _ _ x2, hc _ _ x3, hc _ _ x4, rawR_agree hE' ha⟩
/-- a row that came in hangs on what was there -/
theorem On.ratsRaw {w : World} {v : Value} {l : List Rat} {k : Nat} (h : Rats (ERaw k) w v l) : On w (fun b => b < w.heap.size) (fun W => Rats (ERaw k) W v l) :=
  ⟨fun b => b < w.heap.size, fun b hb => ⟨hb, hb⟩, fun W hW => rats_agree h hW⟩

/-- another row, X, has grown -/
theorem OutRats.beside {E : Elem} {w w' : World} {P P' : Nat → Prop} {lo : Nat} {v : Value} {l : List Rat} {row : Option Nat} (h : OutRats E w P lo v l) (hg : w.grownBy w' row)
    (hv : ∀ k, v.ownBlock = some k → some k ≠ row) (hP : ∀ b, P b → b < w.heap.size → some b ≠ row ∧ P' b) : OutRats E w' P' lo v l := by
  obtain ⟨es, h1, h2, h3, h4⟩ := h
  exact ⟨es, h1, ownsRow_grown h2 hg hv, h3, h4.beside hg fun b hb hlt => ⟨(hP b hb.1 hlt).1, (hP b hb.1 hlt).2, hb.2⟩⟩
theorem OutTab.beside {E : Elem} {w w' : World} {P P' : Nat → Prop} {lo : Nat} {v : Value} {t : List (List Rat)} {row : Option Nat} (h : OutTab E w P lo v t) (hg : w.grownBy w' row)
    (hv : ∀ k, v.ownBlock = some k → some k ≠ row) (hP : ∀ b, P b → b < w.heap.size → some b ≠ row ∧ P' b) : OutTab E w' P' lo v t := by
  obtain ⟨es, h1, h2, h3, h4⟩ := h
  exact ⟨es, h1, ownsRow_grown h2 hg hv, h3, h4.beside hg fun b hb hlt => ⟨(hP b hb.1 hlt).1, (hP b hb.1 hlt).2, hb.2⟩⟩
/-- a row of fractions and a table lie in different blocks -/
theorem rats_tab_apart {E E' : Elem} {w : World} {P P' : Nat → Prop} {lo lo' : Nat} {v u : Value} {l : List Rat} {t : List (List Rat)} (h : OutRats E w P lo v l) (k : OutTab E' w P' lo' u t) : ∀ g, v.ownBlock = some g → some g ≠ u.ownBlock := by
  obtain ⟨es, h1, ⟨-, h2⟩, -⟩ := h
  obtain ⟨fs, k1, ⟨-, k2⟩, -⟩ := k
  intro g hg he
  rcases h2 with ⟨rfl, -⟩ | ⟨g1, c1, cur1, rfl, -, hg1, -⟩
  · cases hg
  rcases k2 with ⟨rfl, -⟩ | ⟨g2, c2, cur2, rfl, -, hg2, -⟩
  · cases he
  injection hg with hg; injection he with he
  subst hg
  subst he
  rw [hg1] at hg2
  injection hg2 with hg2
  injection hg2 with _ hg2 _
  exact absurd hg2 (by decide)

section
variable {w : World} {o : Oper} {a : Act} {K : Act → World → Prop} {Q : Exit → Act → World → Prop}
theorem wp_append_rat3 (s x : Operand) (ho : o.op = .call { callee := .builtin .append, args := #[s, x], argTypes := #[27, 27] })
    {E : Elem} {P : Nat → Prop} {lo : Nat} {v : Value} {l : List Rat} {g : Nat} {q : Rat} {t t' : Bool} {A A' : Option Addr} {n c n' c' : Nat} (hs : a.eval s = v) (hown : OutRats E w P lo v l)
    (hx : a.eval x = .slice (some ⟨g, 0, none⟩) 1 1) (hrow : Row w g 35 [.bool t, .slice A n c, .bool t', .slice A' n' c'])
    (hel : On w (fun b => P b ∧ some b ≠ v.ownBlock) (fun W => E W (.agg #[.bool t, .slice A n c, .bool t', .slice A' n' c']) q)) (hlen : l.length ≤ 3000000000) (hbase : lo ≤ w.heap.size)
    (h : ∀ v' w', OutRats E w' P lo v' (l ++ [q]) → w.grownBy w' v.ownBlock → (v'.ownBlock = v.ownBlock ∨ v'.ownBlock = some w.heap.size) → K (a.put o.dst v') w') : o.wp Try.prog a w K Q := by
  obtain ⟨es, h1, h2, h3, h4⟩ := hown
  refine wp_append_own_ s x _ ho lo 35 _ 4 64 Try.underlying27 info_rat rfl (by omega) (by omega) v l.length _ hs h2 ⟨g, 0, none⟩ 1 1 [.bool t, .slice A n c, .bool t', .slice A' n' c'] hx rfl (fun j u hj => by rw [Go.WideShapes.add_plain, Nat.zero_add]; exact hrow.cell hj) (by simp [Value.oneCell']) (by omega) hbase ?_
  intro v' w' k1 k2 k3
  exact h v' w' (OutRats.snoc es h1 h3 h4 k1 k2 k3 hel) k2 k3
end
theorem wpList_append_rat3 {w : World} {ops : Array Oper} {rest : List Oper} {o : Oper} {a : Act} {Q : Exit → Act → World → Prop} (hgd : o.guard = none) (s x : Operand) (ho : o.op = .call { callee := .builtin .append, args := #[s, x], argTypes := #[27, 27] })
    {E : Elem} {P : Nat → Prop} {lo : Nat} {v : Value} {l : List Rat} {g : Nat} {q : Rat} {t t' : Bool} {A A' : Option Addr} {n c n' c' : Nat} (hs : a.eval s = v) (hown : OutRats E w P lo v l)
    (hx : a.eval x = .slice (some ⟨g, 0, none⟩) 1 1) (hrow : Row w g 35 [.bool t, .slice A n c, .bool t', .slice A' n' c'])
    (hel : On w (fun b => P b ∧ some b ≠ v.ownBlock) (fun W => E W (.agg #[.bool t, .slice A n c, .bool t', .slice A' n' c']) q)) (hlen : l.length ≤ 3000000000) (hbase : lo ≤ w.heap.size)
    (h : ∀ v' w', OutRats E w' P lo v' (l ++ [q]) → w.grownBy w' v.ownBlock → (v'.ownBlock = v.ownBlock ∨ v'.ownBlock = some w.heap.size) → wpList Try.prog ops Q rest (a.put o.dst v') w') : wpList Try.prog ops Q (o :: rest) a w :=
  wpList_plain hgd fun K hK => wp_append_rat3 s x ho hs hown hx hrow hel hlen hbase fun v' w' h1 h2 h3 => hK _ _ (h v' w' h1 h2 h3)
end Go.Proofs.Ytbhohnhkephefaa


/- FewRows, and the reference's Rect. -/
set_option linter.unusedVariables false
set_option linter.unusedSimpArgs false
set_option maxRecDepth 100000
namespace Go.Proofs.Ytbhohnhkephefaa
open Go.RowKit Go.Shelf
attribute [local go_sem ↓] Go.wp_at_zero Go.wp_at_succ

/-- the i-th row of a table -/
def RowAt (E : Elem) (w : World) (A : Option Addr) (i : Nat) (row : List Rat) : Prop :=
  ∃ b off A' n' c', A = some ⟨b, off, none⟩ ∧ w.cell? ⟨b, off + i, none⟩ = some (.slice A' n' c') ∧ Rats E w (.slice A' n' c') row
/-- what FewRows tells -/
def FewRowsPost (w : World) (v : Value) (t : List (List Rat)) (most : Nat) (e : Ending) (w' : World) : Prop := ∃ u, e = .returned (.bool u) ∧ (u = true → t.length ≤ most ∧ (∀ row ∈ t, row.length ≤ most) ∧ Tab (ERaw 1) w v t) ∧ w = w'

end Go.Proofs.Ytbhohnhkephefaa


/- A row of one's own made of another one; one element stored anew. -/
set_option linter.unusedVariables false
set_option linter.unusedSimpArgs false
set_option maxRecDepth 100000
namespace Go.Proofs.Ytbhohnhkephefaa
open Go.RowKit Go.Shelf
attribute [local go_sem ↓] Go.wp_at_zero Go.wp_at_succ

theorem OutRats.ratsOn2 {E : Elem} {w : World} {P : Nat → Prop} {lo : Nat} {v : Value} {l : List Rat} (h : OutRats E w P lo v l) : Rats (EOn (fun b => P b ∧ some b ≠ v.ownBlock) E) w v l := by
  have h' : OutRats (EOn (fun b => P b ∧ some b ≠ v.ownBlock) E) w P lo v l := by
    obtain ⟨es, h1, h2, h3, h4⟩ := h
    refine ⟨es, h1, h2, h3, ?_⟩
    obtain ⟨F, f1, f2⟩ := h4
    exact ⟨F, f1, fun W hW i e q hi hq => ⟨F, fun b hb => ⟨(f1 b hb).1, by
      have h5 := hW b hb
      rw [Array.getElem?_eq_getElem (f1 b hb).2] at h5
      exact (Array.getElem?_eq_some_iff.1 h5).1⟩, fun W' hW' => f2 W' (fun b hb => (hW' b hb).trans (hW b hb)) i e q hi hq⟩⟩
  exact h'.rats.now
theorem OutRats.row {E : Elem} {w : World} {P : Nat → Prop} {lo : Nat} {v : Value} {l : List Rat} (h : OutRats E w P lo v l) (hl : 0 < l.length) :
    ∃ g cap cs, v = .slice (some ⟨g, 0, none⟩) l.length cap ∧ lo ≤ g ∧ l.length ≤ cap ∧ cap ≤ maxLen ∧ Row w g 35 cs := by
  obtain ⟨es, h1, ⟨h2, h2'⟩, h3, h4⟩ := h
  rcases h2' with ⟨rfl, h0⟩ | ⟨g, cap, cur, rfl, hb, hg, hn, hm, hs, ht⟩
  · omega
  · exact ⟨g, cap, cur.toList, rfl, hb, hn, hm, by unfold Row; simpa using hg⟩

/-- one element of a row of one's own is stored anew -/
theorem OutRats.put {E : Elem} {w : World} {P : Nat → Prop} {lo g cap n a i : Nat} {l : List Rat} {q : Rat} {s s' : Bool} {A A' : Option Addr} {m c m' c' : Nat} (h : OutRats E w P lo (.slice (some ⟨g, 0, none⟩) n cap) l) (hi : i < l.length) (ha : a = i * 4)
    (hq : On w (fun b => b ≠ g) (fun W => E W (.agg #[.bool s, .slice A m c, .bool s', .slice A' m' c']) q)) :
    Rats E ((((w.setCell ⟨g, a, none⟩ (.bool s)).setCell ⟨g, a + 1, none⟩ (.slice A m c)).setCell ⟨g, a + 2, none⟩ (.bool s')).setCell ⟨g, a + 3, none⟩ (.slice A' m' c')) (.slice (some ⟨g, 0, none⟩) n cap) (l.set i q) := by
  obtain ⟨g2, cap2, cs, e, hlo, hlc, hcm, hr⟩ := h.row (by omega)
  injection e with e1 e2 e3
  injection e1 with e1; injection e1 with e1
  subst e1 e2 e3
  have hall := h.ratsOn2
  have hr2 := (((hr.set_ a (.bool s)).set_ (a+1) (.slice A m c)).set_ (a+2) (.bool s')).set_ (a+3) (.slice A' m' c')
  have oo : Only g w ((((w.setCell ⟨g, a, none⟩ (.bool s)).setCell ⟨g, a + 1, none⟩ (.slice A m c)).setCell ⟨g, a + 2, none⟩ (.bool s')).setCell ⟨g, a + 3, none⟩ (.slice A' m' c')) := (((Only.one g w a _).set _ _).set _ _).set _ _
  have hcell : ∀ k u, w.cell? ⟨g, k, none⟩ = some u → cs[k]? = some u := fun k u hk => by
    rw [cell_of_row w g k cs.toArray 35 (0, 0) hr] at hk; simpa using hk
  refine ⟨some ⟨g, 0, none⟩, cap, by rw [List.length_set], by rw [List.length_set]; exact hlc, hcm, fun j x hj => ?_⟩
  have hjl : j < l.length := by
    have := (List.getElem?_eq_some_iff.1 hj).1
    simpa using this
  obtain ⟨y, hy⟩ : ∃ y, l[j]? = some y := ⟨l[j], List.getElem?_eq_getElem hjl⟩
  obtain ⟨b, off, t, B, k, d, t', B', k', d', e0, x1, x2, x3, x4, hE⟩ := hall.at_ hy
  injection e0 with e0; injection e0 with e0 e0'
  subst e0 e0'
  rw [Nat.zero_add] at x1 x2 x3 x4
  by_cases e : j = i
  · subst e
    rw [List.getElem?_set, if_pos rfl, if_pos hjl] at hj
    injection hj with hj
    subst hj
    have l1 := (List.getElem?_eq_some_iff.1 (hcell _ _ x1)).1; have l2 := (List.getElem?_eq_some_iff.1 (hcell _ _ x2)).1; have l3 := (List.getElem?_eq_some_iff.1 (hcell _ _ x3)).1; have l4 := (List.getElem?_eq_some_iff.1 (hcell _ _ x4)).1
    refine ⟨g, 0, s, A, m, c, s', A', m', c', rfl, hr2.cell ?_, hr2.cell ?_, hr2.cell ?_, hr2.cell ?_, ?_⟩
    · subst ha; simp [List.getElem?_set, l1]
    · subst ha; simp [List.getElem?_set, l2]
    · subst ha; simp [List.getElem?_set, l3]
    · subst ha; simp [List.getElem?_set, l4]
    · exact (hq.only oo (fun h => h rfl)).now
  · rw [List.getElem?_set, if_neg (fun e2 => e e2.symm), hy] at hj
    injection hj with hj
    subst hj
    have hne : ∀ r p, r < 4 → p < 4 → j * 4 + r ≠ i * 4 + p := fun r p hr hp => by omega
    refine ⟨g, 0, t, B, k, d, t', B', k', d', rfl, hr2.cell ?_, hr2.cell ?_, hr2.cell ?_, hr2.cell ?_, ?_⟩
    · subst ha; rw [Nat.zero_add, List.getElem?_set_ne (by omega), List.getElem?_set_ne (by omega), List.getElem?_set_ne (by omega), List.getElem?_set_ne (by omega)]; exact hcell _ _ x1
    · subst ha; rw [Nat.zero_add, List.getElem?_set_ne (by omega), List.getElem?_set_ne (by omega), List.getElem?_set_ne (by omega), List.getElem?_set_ne (by omega)]; exact hcell _ _ x2
    · subst ha; rw [Nat.zero_add, List.getElem?_set_ne (by omega), List.getElem?_set_ne (by omega), List.getElem?_set_ne (by omega), List.getElem?_set_ne (by omega)]; exact hcell _ _ x3
    · subst ha; rw [Nat.zero_add, List.getElem?_set_ne (by omega), List.getElem?_set_ne (by omega), List.getElem?_set_ne (by omega), List.getElem?_set_ne (by omega)]; exact hcell _ _ x4
    · exact ((show On w _ (fun W => E W _ _) from hE).only oo (fun h => h.2 rfl)).now

/-- one row of a table of one's own is stored anew -/
theorem OutTab.put {E : Elem} {w : World} {P : Nat → Prop} {lo g n cap i : Nat} {t : List (List Rat)} {row : List Rat} {A : Option Addr} {m c : Nat} (h : OutTab E w P lo (.slice (some ⟨g, 0, none⟩) n cap) t)
    (hi : i < t.length) (hx : On w (fun b => P b ∧ b ≠ g) (fun W => Rats E W (.slice A m c) row)) :
    OutTab E (w.setCell ⟨g, i, none⟩ (.slice A m c)) P lo (.slice (some ⟨g, 0, none⟩) n cap) (t.set i row) := by
  obtain ⟨es, h1, ⟨h2, h2'⟩, h3, h4⟩ := h
  rcases h2' with ⟨e, h0⟩ | ⟨g', cap', cur, e, hb, hg, hn, hm, hs, ht⟩
  · omega
  · injection e with e1 e2 e3
    injection e1 with e1; injection e1 with e1
    subst e1 e2 e3
    have hr : Row w g 27 cur.toList := by unfold Row; simpa using hg
    have hr2 := hr.set_ i (.slice A m c)
    refine ⟨es.set i (.slice A m c), by simp [h1], ⟨?_, .inr ⟨g, cap, (cur.toList.set i (.slice A m c)).toArray, by rw [List.length_set], hb, hr2, by rw [List.length_set]; exact hn, hm, ?_, ?_⟩⟩, ?_, ?_⟩
    · rw [List.length_set, List.length_set]; exact h2
    · simp [hs]
    · rw [List.length_set, ← ht, List.take_set]
    · intro e he
      rcases List.mem_or_eq_of_mem_set he with he | he
      · exact h3 _ he
      · rw [he]; exact ⟨_, _, _, rfl⟩
    · have oo : Only g w (w.setCell ⟨g, i, none⟩ (.slice A m c)) := Only.one g w i _
      have hx2 : On w (fun b => P b ∧ some b ≠ (Value.slice (some ⟨g, 0, none⟩) t.length cap).ownBlock) (fun W => Rats E W (.slice A m c) row) := hx.mono fun b hb _ => ⟨hb.1, fun e => hb.2 (by have e2 : some b = some g := e; injection e2)⟩
      refine ((h4.and hx2).only oo (fun hh => hh.2 rfl)).map fun W hW a e r ha hrow => ?_
      rw [List.getElem?_set] at ha hrow
      by_cases e2 : i = a
      · subst e2
        rw [if_pos rfl, if_pos (by omega)] at ha
        rw [if_pos rfl, if_pos hi] at hrow
        injection ha with ha; injection hrow with hrow
        rw [← ha, ← hrow]; exact hW.2
      · rw [if_neg e2] at ha hrow
        exact hW.1 a _ _ ha hrow

/-- a table's rows, as a list of values -/
theorem Tab.list {E : Elem} {w : World} {A : Option Addr} {n c : Nat} {t : List (List Rat)} (h : Tab E w (.slice A n c) t) (hl : 0 < t.length) :
    ∃ es : List Value, es.length = t.length ∧ (∀ e ∈ es, ∃ A n c, e = .slice A n c) ∧ Src w 1 (.slice A n c) n es ∧ ∀ (i : Nat) (e : Value) (row : List Rat), es[i]? = some e → t[i]? = some row → Rats E w e row := by
  obtain ⟨A', c', e, h1, h2, h3⟩ := id h
  injection e with e1 e2 e3
  subst e1 e2 e3
  have hk : ∀ i : Fin t.length, ∃ e : Value, (∃ A n c, e = .slice A n c) ∧ (∃ b off, A = some ⟨b, off, none⟩ ∧ w.cell? ⟨b, off + i.1, none⟩ = some e) ∧ Rats E w e (t[i.1]'i.2) := by
    intro i
    obtain ⟨b, off, A', n', c', ha, x1, x2⟩ := h3 i.1 _ (List.getElem?_eq_getElem i.2)
    exact ⟨_, ⟨_, _, _, rfl⟩, ⟨b, off, ha, x1⟩, x2⟩
  obtain ⟨f, hf⟩ := Classical.axiomOfChoice hk
  have hget : ∀ i (hi : i < t.length), (List.ofFn f)[i]? = some (f ⟨i, hi⟩) := fun i hi => by rw [List.getElem?_ofFn, dif_pos hi]
  have hlen : (List.ofFn f).length = t.length := List.length_ofFn
  have hmem : ∀ e ∈ List.ofFn f, ∃ A n c, e = .slice A n c := fun e he => by
    obtain ⟨i, hi⟩ := List.getElem?_of_mem he
    have hil : i < t.length := by rw [← hlen]; exact (List.getElem?_eq_some_iff.1 hi).1
    rw [hget i hil] at hi
    injection hi with hi
    rw [← hi]; exact (hf ⟨i, hil⟩).1
  obtain ⟨b, off, hA, -⟩ := (hf ⟨0, hl⟩).2.1
  refine ⟨List.ofFn f, hlen, hmem, ⟨by rw [hlen]; omega, fun u hu => ?_, .inr ⟨⟨b, off, none⟩, c, by rw [hA], fun j u hj => ?_⟩⟩, ?_⟩
  · obtain ⟨A, n, c, rfl⟩ := hmem u hu; rfl
  · rw [Go.WideShapes.add_plain]
    have hjl : j < t.length := by rw [← hlen]; exact (List.getElem?_eq_some_iff.1 hj).1
    rw [hget j hjl] at hj
    injection hj with hj
    obtain ⟨b', off', hA', hc⟩ := (hf ⟨j, hjl⟩).2.1
    rw [hA] at hA'
    injection hA' with hA'; injection hA' with hb ho
    subst hb ho
    rw [← hj]; exact hc
  · intro i e row hi hr
    have hil : i < t.length := by rw [← hlen]; exact (List.getElem?_eq_some_iff.1 hi).1
    rw [hget i hil] at hi
    rw [List.getElem?_eq_getElem hil] at hr
    injection hi with hi; injection hr with hr
    rw [← hi, ← hr]; exact (hf ⟨i, hil⟩).2.2

/-- 'append([]api.Rat{}, b...)' of what came in -/
theorem wpList_append_rats {w : World} {ops : Array Oper} {rest : List Oper} {o : Oper} {a : Act} {Q : Exit → Act → World → Prop} (hgd : o.guard = none) (s x : Operand)
    (ho : o.op = .call { callee := .builtin .append, args := #[s, x], argTypes := #[27, 27] })
    {E : Elem} {lo B : Nat} {v vt : Value} {l : List Rat} (hs : a.eval s = v) (hown : w.ownsRow lo 35 4 v 0 []) (hx : a.eval x = vt) (hB : lo ≤ w.heap.size)
    (hsrc : Rats (EOn (fun b => b < B) E) w vt l) (hpos : 0 < l.length) (hlen : l.length ≤ 1000000000) (hBl : B ≤ lo)
    (h : ∀ v' w', OutRats E w' (fun b => b < B) lo v' l → w.grownBy w' v.ownBlock → wpList Try.prog ops Q rest (a.put o.dst v') w') :
    wpList Try.prog ops Q (o :: rest) a w := by
  obtain ⟨A, n, c, rfl, hn, -, -, h'⟩ := hsrc.form
  obtain ⟨b, off, rfl⟩ : ∃ b off, A = some ⟨b, off, none⟩ := by
    obtain ⟨b, off, _, _, _, _, _, _, _, _, e, -⟩ := h'.at_ (List.getElem?_eq_getElem hpos)
    exact ⟨b, off, e⟩
  obtain ⟨es, h1, h3, h4, h6⟩ := h'.list hn
  rw [hn] at h4
  refine wpList_append_src hgd s x _ ho lo 35 (.agg #[.bool false, .slice none 0 0, .bool false, .slice none 0 0]) 4 64 Try.underlying27 info_rat rfl (by omega) (by omega) v 0 [] hs hown _ l.length _ (by rw [hx, hn]) h4 (by omega) hB ?_
  intro v' w' k1 k2 k3
  rw [Nat.zero_add, List.nil_append] at k1
  have hlt := World.ownsRow.lt k1
  have hvl := World.ownsRow.lt hown
  refine h v' w' ⟨es, h1, k1, h3, ?_⟩ k2
  have h5 : On w (fun b => b < B) (fun W => ∀ i e, i < es.length → es[i]? = some e → ∀ q, l[i]? = some q → E W (.agg #[.bool e.1, e.2.1, .bool e.2.2.1, e.2.2.2]) q) := On.list_ (T := fun i e W => ∀ q, l[i]? = some q → E W (.agg #[.bool e.1, e.2.1, .bool e.2.2.1, e.2.2.2]) q) es.length (fun i => es[i]?) (fun i e hi he => by
    obtain ⟨q, hq⟩ : ∃ q, l[i]? = some q := ⟨l[i]'(by omega), List.getElem?_eq_getElem _⟩
    refine (show On w (fun b => b < B) _ from h6 i e q he hq).map fun W hW q' hq' => ?_
    rw [hq] at hq'; injection hq' with hq'; rw [← hq']; exact hW)
  refine (h5.beside (P' := fun b => b < B ∧ some b ≠ v'.ownBlock) k2 fun b hb hlt2 => ⟨fun e => by have := (hvl b e.symm).1; omega, hb, fun e => by have := (hlt b e.symm).1; omega⟩).map fun W hW i e q hi hq => hW i e (List.getElem?_eq_some_iff.1 hi).1 hi q hq
end Go.Proofs.Ytbhohnhkephefaa


/- The reference's fractions: Div; IsZero. -/
set_option linter.unusedVariables false
set_option linter.unusedSimpArgs false
set_option maxRecDepth 100000
namespace Go.Proofs.Ytbhohnhkephefaa
open Go.RowKit Go.Shelf
attribute [local go_sem ↓] Go.wp_at_zero Go.wp_at_succ

theorem inv_ratOf (b : Rat) (hb : b ≠ 0) : ratOf (sgn (decide (b.num < 0)) b.den) (b.num.natAbs : Int) = 1 / b := by
  have h0 : b.num ≠ 0 := fun e => hb (Rat.num_eq_zero.1 e)
  have h1 := ratOf_div 1 b
  rw [show (1 : Rat).num = 1 from rfl, show ((1 : Rat).den : Int) = 1 from rfl, Int.one_mul, Int.one_mul] at h1
  rw [ratOf_pos (by omega), ← h1]
  by_cases hn : b.num < 0
  · have e1 : decide (b.num < 0) = true := by simpa using hn
    have e2 : (b.num.natAbs : Int) = - b.num := by omega
    rw [e1, e2]
    refine (Rat.divInt_eq_divInt_iff (by omega) h0).2 ?_
    simp [sgn, Int.neg_mul, Int.mul_neg]
  · have e1 : decide (b.num < 0) = false := by simpa using hn
    have e2 : (b.num.natAbs : Int) = b.num := by omega
    rw [e1, e2]; simp [sgn]
theorem rawR_inv {w : World} {B : Nat} {s : Bool} {P P' : Option Addr} {q e q' e' : Nat} {b : Rat} {k : Nat} (h : OwnR w B (.agg #[.bool s, .slice P q e, .bool false, .slice P' q' e']) b) (hs : Sized b k) (hb : b ≠ 0) :
    RawR w (.agg #[.bool s, .slice P' q' e', .bool false, .slice P q e]) (1 / b) k := by
  obtain ⟨A, n, c, A', n', c', e0, h1, h2⟩ := h
  injection e0 with e0; injection e0 with e0; injection e0 with e1 e0; injection e0 with e2 e0; injection e0 with e3 e0; injection e0 with e4 e0
  injection e1 with e1
  rw [← e2] at h1; rw [← e4] at h2
  refine ⟨s, _, _, _, false, _, _, _, sgn (decide (b.num < 0)) b.den, (b.num.natAbs : Int), rfl, ?_, ?_, (inv_ratOf b hb).symm⟩
  · exact ⟨s, _, _, _, limbs b.den, rfl, h2.reads, by rw [val_limbs, e1], hs.2⟩
  · exact ⟨false, _, _, _, limbs b.num.natAbs, rfl, h1.reads, by rw [val_limbs]; rfl, hs.1⟩
theorem div_by_inv (a b : Rat) : a * (1 / b) = a / b := by
  rw [Rat.div_def, Rat.div_def, Rat.one_mul]

end Go.Proofs.Ytbhohnhkephefaa
