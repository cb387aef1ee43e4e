/- Tables: IndexFunc, ContainsFunc, Rect, is. -/
import Derived.Test.YtfokplidiboabaaGreatB12
set_option linter.unusedVariables false
set_option linter.unusedSimpArgs false
set_option maxRecDepth 100000
namespace Go.Proofs.YtfokplidiboabaaGreat
open Go.RowKit Go.Shelf
attribute [local go_sem ↓] Go.wp_at_zero Go.wp_at_succ

/-- the first place where p is so; -1: nowhere -/
def FirstIdx (p : List Rat → Bool) (t : List (List Rat)) (z : Int) : Prop := (z = -1 ∧ ∀ row ∈ t, p row = false) ∨ ∃ (i : Nat) (row : List Rat), z = i ∧ t[i]? = some row ∧ p row = true ∧ ∀ j r, j < i → t[j]? = some r → p r = false
/-- a number, and what is so of it -/
def RetZ (w : World) (P : Int → Prop) (e : Ending) (w' : World) : Prop := ∃ z : Int, e = .returned (.int .i64 z) ∧ P z ∧ Later w w'

set_option maxHeartbeats 2000000 in
theorem idxf1_calls (w : World) (v : Value) (t : List (List Rat)) (E : Elem) (hE : ∀ w w' v q, E w v q → Later w w' → E w' v q) (h : Tab E w v t) (hl : t.length ≤ 1000000000) (f : FuncId) (hf : Enters f) (G : Nat) (p : List Rat → Bool)
    (hp : ∀ W rv row, Later w W → Rats E W rv row → row ∈ t → Calls Tryz.prog f #[rv, .pointer (some ⟨G, 0, none⟩)] W (RetV W (.bool (p row)))) :
    Calls Tryz.prog 214 #[v, .func (.func f) #[] #[.pointer (some ⟨G, 0, none⟩)]] w (RetZ w (FirstIdx p t)) := by
  have H := hide h; have HP := hide hp
  have hen := hf.out
  obtain ⟨A0, nt, ct, rfl, hnt, -, -, -⟩ := h.form
  have HNT := hide hnt
  have hn9 : nt ≤ 1000000000 := by omega
  clear h hp hnt hl
  go_enter Tryz.func214, Tryz.ntmps214
  go_wp2_with fail
  go_loopw [8] (fun i wr => ∃ j : Nat, j ≤ nt ∧ i = .int .i64 (j : Int) ∧ Hid (∀ i r, i < j → t[i]? = some r → p r = false) ∧ Later w wr) (fun i _ => (nt - intOf i).toNat)
  case atStart => exact ⟨0, by omega, rfl, hide fun i r hi => by omega, Later.refl w⟩
  case round =>
    obtain ⟨j, hj, rfl, hpre, hL⟩ := hrel
    by_cases hjn : j < nt
    · obtain ⟨row, hrow⟩ : ∃ row, t[j]? = some row := ⟨t[j]'(by have := HNT.out; omega), List.getElem?_eq_getElem _⟩
      obtain ⟨b1, off1, A1, n1, c1, rfl, x1, hr⟩ := (H.out.later hE hL).at_ hrow
      have HR := hide hr; have HROW := hide hrow
      obtain ⟨u, hu⟩ : ∃ u, p row = u := ⟨_, rfl⟩
      have HU := hide hu
      have hj0 : (0 : Int) ≤ (j : Int) := by omega
      have hj1 : (j : Int) < nt := by omega
      clear hr hrow hu
      go_wp2_with fail
      refine (HP.out _ _ row hL HR.out (List.mem_of_getElem? HROW.out)).mono ?_
      rintro e w8 ⟨rfl, b8⟩
      rw [HU.out]
      have hL8 := hL.trans b8
      cases u
      case false =>
        have HN : Hid (∀ i r, i < j + 1 → t[i]? = some r → p r = false) := hide fun i r hi hr => by
          by_cases hij : i < j
          · exact hpre.out i r hij hr
          · obtain rfl : i = j := by omega
            rw [HROW.out] at hr; injection hr with hr; rw [← hr, HU.out]
        go_wp2_with fail
        exact ⟨⟨j+1, by omega, by go_num, HN, hL8⟩, by simp [intOf]; omega⟩
      case true =>
        have HF : Hid (FirstIdx p t j) := hide (.inr ⟨j, row, rfl, HROW.out, HU.out, hpre.out⟩)
        go_wp2_with fail
        go_ret
        exact ⟨_, rfl, HF.out, hL8⟩
    · obtain rfl : j = nt := by omega
      have HF : Hid (FirstIdx p t (-1)) := hide (.inl ⟨rfl, fun row hr => by
        obtain ⟨i, hi⟩ := List.getElem?_of_mem hr
        exact hpre.out i row (by rw [HNT.out]; exact (List.getElem?_eq_some_iff.1 hi).1) hi⟩)
      go_wp2_with fail
      go_ret
      exact ⟨_, rfl, HF.out, hL⟩

theorem firstIdx_any {p : List Rat → Bool} {t : List (List Rat)} {z : Int} (h : FirstIdx p t z) : decide (0 ≤ z) = t.any p := by
  rcases h with ⟨rfl, h⟩ | ⟨i, row, rfl, h1, h2, h3⟩
  · have : t.any p = false := by
      rw [List.any_eq_false]; intro x hx; rw [h x hx]; simp
    rw [this]; simp
  · have : t.any p = true := by
      rw [List.any_eq_true]; exact ⟨row, List.mem_of_getElem? h1, h2⟩
    rw [this]; simp

set_option maxHeartbeats 1000000 in
theorem contf1_calls (w : World) (v : Value) (t : List (List Rat)) (E : Elem) (hE : ∀ w w' v q, E w v q → Later w w' → E w' v q) (h : Tab E w v t) (hl : t.length ≤ 1000000000) (f : FuncId) (hf : Enters f) (G : Nat) (p : List Rat → Bool)
    (hp : ∀ W rv row, Later w W → Rats E W rv row → row ∈ t → Calls Tryz.prog f #[rv, .pointer (some ⟨G, 0, none⟩)] W (RetV W (.bool (p row)))) (u : Bool) (hu : t.any p = u) :
    Calls Tryz.prog 151 #[v, .func (.func f) #[] #[.pointer (some ⟨G, 0, none⟩)]] w (RetV w (.bool u)) := by
  have H := hide h; have HP := hide hp; have HU := hide hu
  obtain ⟨A0, nt, ct, rfl, hnt, -, -, -⟩ := h.form
  clear h hp hnt hu
  go_enter Tryz.func151, Tryz.ntmps151
  go_wp2_with fail
  refine (idxf1_calls _ _ t E hE H.out hl f hf G p HP.out).mono ?_
  rintro e w1 ⟨z, rfl, hz, b1⟩
  have hd := firstIdx_any hz
  rw [HU.out] at hd
  have HD := hide hd
  clear hz hd
  go_wp2_with fail
  go_ret
  exact ⟨by simp [HD.out], b1⟩

set_option maxHeartbeats 1000000 in
theorem rect1_calls (w : World) (rv : Value) (row : List Rat) (E : Elem) (h : Rats E w rv row) (G : Nat) (n : Nat) (hr : Row w G 3 [.int .i64 (n : Int)]) (hl : row.length ≤ 1000000000) (u : Bool) (hu : decide (row.length ≠ n) = u) :
    Calls Tryz.prog 152 #[rv, .pointer (some ⟨G, 0, none⟩)] w (RetV w (.bool u)) := by
  obtain ⟨A0, nt, ct, rfl, hnt, -, -, -⟩ := h.form
  have c0 := hr.cell (i := 0) rfl
  have hd : ((nt : Int) != n) = u := by
    rw [← hu, ← hnt, Bool.eq_iff_iff]; simp
    omega
  have HD := hide hd
  clear h hr hu hd hnt
  go_enter Tryz.func152, Tryz.ntmps152
  go_wp2_with fail
  go_ret
  exact ⟨by simp [HD.out], Later.refl w⟩

/-- whether each row has so many -/
def rectB (t : List (List Rat)) (n : Nat) : Bool := t.all fun r => decide (r.length = n)
theorem rectB_any (t : List (List Rat)) (n : Nat) : t.any (fun r => decide (r.length ≠ n)) = !rectB t n := by
  induction t with
  | nil => rfl
  | cons r t ih => rw [List.any_cons, ih]; unfold rectB; rw [List.all_cons]; by_cases h : r.length = n <;> simp [h]

set_option maxHeartbeats 1000000 in
theorem rect_calls (w : World) (v : Value) (t : List (List Rat)) (E : Elem) (hE : ∀ w w' v q, E w v q → Later w w' → E w' v q) (h : Tab E w v t) (n : Nat) (hl : t.length ≤ 1000000000) (hl2 : ∀ row ∈ t, row.length ≤ 1000000000) (u : Bool) (hu : rectB t n = u) :
    Calls Tryz.prog 82 #[v, .int .i64 (n : Int)] w (RetV w (.bool u)) := by
  have H := hide h
  have hu2 : t.any (fun r => decide (r.length ≠ n)) = !u := by rw [rectB_any, hu]
  have HU := hide hu2; have HL2 := hide hl2
  obtain ⟨A0, nt, ct, rfl, hnt, -, -, -⟩ := h.form
  clear h hnt hu hu2 hl2
  go_enter Tryz.func82, Tryz.ntmps82
  go_wp2_with fail
  have hL : Later w (w.alloc (Obj.cells #[Value.int .i64 (n : Int)] 3)) := (Later.refl w).alloc _
  have hrow := Row.new w 3 [.int .i64 (n : Int)]
  have HL := hide hL; have HR := hide hrow
  clear hL hrow
  refine (contf1_calls _ _ t E hE (H.out.later hE HL.out) hl _ ⟨fun _ _ => by kernel_rfl⟩ w.heap.size (fun r => decide (r.length ≠ n)) (fun W rv row hW hr hm => rect1_calls W rv row E hr w.heap.size n (HR.out.later hW) (HL2.out row hm) _ rfl) (!u) HU.out).mono ?_
  rintro e w1 ⟨rfl, b1⟩
  go_wp2_with fail
  go_ret
  exact ⟨by simp, HL.out.trans b1⟩

end Go.Proofs.YtfokplidiboabaaGreat

/- Tables: Clone, scaled, the test of Solve. -/
set_option linter.unusedVariables false
set_option linter.unusedSimpArgs false
set_option maxRecDepth 100000
namespace Go.Proofs.YtfokplidiboabaaGreat
open Go.RowKit Go.Shelf
attribute [local go_sem ↓] Go.wp_at_zero Go.wp_at_succ

theorem On.list_ {α : Type} {w : World} {P : Nat → Prop} {T : Nat → α → World → Prop} (n : Nat) (f : Nat → Option α) (h : ∀ i x, i < n → f i = some x → On w P (T i x)) : On w P (fun W => ∀ i x, i < n → f i = some x → T i x W) := by
  induction n with
  | zero => exact On.pure fun W i x hi => by omega
  | succ n ih =>
    have h1 := ih fun i x hi hx => h i x (by omega) hx
    cases hf : f n with
    | none =>
      refine h1.map fun W hW i x hi hx => ?_
      by_cases e : i = n
      · subst e; rw [hf] at hx; cases hx
      · exact hW i x (by omega) hx
    | some y =>
      refine (h1.and (h n y (by omega) hf)).map fun W hWy i x hi hx => ?_
      by_cases e : i = n
      · subst e; rw [hf] at hx; injection hx with hx; rw [← hx]; exact hWy.2
      · exact hWy.1 i x (by omega) hx

end Go.Proofs.YtfokplidiboabaaGreat

/- Tables: Pivot. -/
set_option linter.unusedVariables false
set_option linter.unusedSimpArgs false
set_option maxRecDepth 100000
namespace Go.Proofs.YtfokplidiboabaaGreat
open Go.RowKit Go.Shelf
attribute [local go_sem ↓] Go.wp_at_zero Go.wp_at_succ

theorem sized_axpy {a b : List Rat} {q : Rat} {k m p : Nat} (ha : ∀ x ∈ a, Sized x k) (hb : ∀ x ∈ b, Sized x m) (hq : Sized q p) : ∀ x ∈ axpyL a b q, Sized x (k + (p + m) + 1) := by
  unfold axpyL
  induction a generalizing b with
  | nil => simp
  | cons x a ih => cases b with
    | nil => simp
    | cons y b =>
      intro z hz
      rw [List.zipWith_cons_cons] at hz
      rcases List.mem_cons.1 hz with rfl | hz
      · exact (ha x (List.mem_cons_self ..)).add (hq.mul (hb y (List.mem_cons_self ..)))
      · exact ih (fun q h => ha q (List.mem_cons_of_mem _ h)) (fun q h => hb q (List.mem_cons_of_mem _ h)) z hz
theorem Tab.sized {k : Nat} {w : World} {v : Value} {t : List (List Rat)} (h : Tab (ERaw k) w v t) : ∀ row ∈ t, ∀ q ∈ row, Sized q (k+1) := by
  intro row hr q hq
  obtain ⟨i, hi⟩ := List.getElem?_of_mem hr
  obtain ⟨A, c, e, -, -, h3⟩ := h
  obtain ⟨b, off, A', n', c', -, -, x⟩ := h3 i row hi
  exact Rats.sized x q hq
end Go.Proofs.YtfokplidiboabaaGreat

/- Tables of numbers: what a pivot does, and what the one solution is. No program is in sight here. -/
set_option linter.unusedVariables false
set_option linter.unusedSimpArgs false
namespace Go.Proofs.YtfokplidiboabaaGreat

/-- a table with 0 but at one row of a column -/
def piv (M : Nat → Nat → Rat) (r c : Nat) : Nat → Nat → Rat := fun i k => if i = r then M r k / M r c else M i k - M i c * (M r k / M r c)
/-- the first c columns have 1 at their row, and 0 else -/
structure UnitF (n c : Nat) (M : Nat → Nat → Rat) (u : Nat → Nat) : Prop where
  lt : ∀ k, k < c → u k < n
  inj : ∀ k j, k < c → j < c → u k = u j → k = j
  ent : ∀ k i, k < c → i < n → M i k = if i = u k then 1 else 0

theorem UnitF.zero (n : Nat) (M : Nat → Nat → Rat) (u : Nat → Nat) : UnitF n 0 M u := ⟨fun k h => by omega, fun k j h => by omega, fun k i h => by omega⟩
theorem UnitF.step {n c : Nat} {M : Nat → Nat → Rat} {u v : Nat → Nat} {r : Nat} (h : UnitF n c M u) (hr : r < n) (hu : ∀ k, k < c → u k ≠ r) (hp : M r c ≠ 0) (hv : ∀ k, k < c → v k = u k) (hc : v c = r) : UnitF n (c+1) (piv M r c) v := by
  refine ⟨fun k hk => ?_, fun k j hk hj e => ?_, fun k i hk hi => ?_⟩
  · by_cases e : k = c
    · subst e; omega
    · rw [hv k (by omega)]; exact h.lt k (by omega)
  · by_cases e1 : k = c
    · by_cases e2 : j = c
      · omega
      · subst e1; rw [hc, hv j (by omega)] at e; exact absurd e.symm (hu j (by omega))
    · by_cases e2 : j = c
      · subst e2; rw [hc, hv k (by omega)] at e; exact absurd e (hu k (by omega))
      · rw [hv k (by omega), hv j (by omega)] at e; exact h.inj k j (by omega) (by omega) e
  · by_cases e : k = c
    · subst e
      rw [hc]
      by_cases e2 : i = r
      · subst e2; simp only [piv, if_true]; grind
      · simp only [piv, if_neg e2]; grind
    · have h1 := h.ent k i (by omega) hi
      have h2 := h.ent k r (by omega) hr
      rw [if_neg (fun e => hu k (by omega) e.symm)] at h2
      rw [hv k (by omega)]
      by_cases e2 : i = r
      · subst e2; rw [if_neg (fun e => hu k (by omega) e.symm)]; simp only [piv, if_true]; rw [h2]; grind
      · simp only [piv, if_neg e2]; rw [h1, h2]; grind

end Go.Proofs.YtfokplidiboabaaGreat

/- What Solve does to a table, in plain Lean. No program is in sight here. -/
set_option linter.unusedVariables false
set_option linter.unusedSimpArgs false
namespace Go.Proofs.YtfokplidiboabaaGreat

/-- the number at a place -/
def ent (t : List (List Rat)) (i k : Nat) : Rat := (t.getD i []).getD k 0
end Go.Proofs.YtfokplidiboabaaGreat

/- Tables: swaps in memory. -/
set_option linter.unusedVariables false
set_option linter.unusedSimpArgs false
set_option maxRecDepth 100000
namespace Go.Proofs.YtfokplidiboabaaGreat
open Go.RowKit Go.Shelf
attribute [local go_sem ↓] Go.wp_at_zero Go.wp_at_succ

theorem OutTab.map {E E' : Elem} {w : World} {P : Nat → Prop} {lo : Nat} {v : Value} {t : List (List Rat)} (h : OutTab E w P lo v t) (hE : ∀ W v q, (∃ row ∈ t, q ∈ row) → E W v q → E' W v q) : OutTab E' w P lo v t := by
  obtain ⟨es, h1, h2, h3, h4⟩ := h
  exact ⟨es, h1, h2, h3, h4.map fun W hW i e row hi hr => (hW i e row hi hr).map fun v q hq he => hE W v q ⟨row, List.mem_of_getElem? hr, hq⟩ he⟩
theorem OutTab.open_ {E : Elem} {w : World} {P : Nat → Prop} {lo : Nat} {v : Value} {t : List (List Rat)} (h : OutTab E w P lo v t) (hi : 0 < t.length) :
    ∃ g cap cs, v = .slice (some ⟨g, 0, none⟩) t.length cap ∧ lo ≤ g ∧ t.length ≤ cap ∧ cap ≤ maxLen ∧ Row w g 22 cs ∧ ∀ j, j < t.length → ∃ A n c, cs[j]? = some (.slice A n c) := by
  obtain ⟨es, h1, ⟨h2, h2'⟩, h3, h4⟩ := h
  rcases h2' with ⟨rfl, h0⟩ | ⟨g, cap, cur, rfl, hb, hg, hn, hm, hs, ht⟩
  · omega
  · refine ⟨g, cap, cur.toList, rfl, hb, hn, hm, by unfold Row; simpa using hg, fun j hj => ?_⟩
    obtain ⟨e, hee⟩ : ∃ e, es[j]? = some e := ⟨es[j]'(by omega), List.getElem?_eq_getElem _⟩
    obtain ⟨A1, n1, c1, rfl⟩ := h3 e (List.mem_of_getElem? hee)
    refine ⟨A1, n1, c1, ?_⟩
    rw [← ht, List.getElem?_take] at hee
    split at hee
    · exact hee
    · cases hee
theorem Tab.drop {E : Elem} {w : World} {b off n cap c : Nat} {t : List (List Rat)} (h : Tab E w (.slice (some ⟨b, off, none⟩) n cap) t) (hc : c ≤ n) : Tab E w (.slice (some ⟨b, off + c, none⟩) (n - c) (cap - c)) (t.drop c) := by
  obtain ⟨A, cap', e, h1, h2, h3⟩ := h
  injection e with e1 e2 e3
  subst e1 e2 e3
  refine ⟨_, cap - c, by rw [List.length_drop], by rw [List.length_drop]; omega, by omega, fun i row hi => ?_⟩
  rw [List.getElem?_drop] at hi
  obtain ⟨b', off', A', n', c', ha, x1, x2⟩ := h3 (c + i) row hi
  injection ha with ha; injection ha with ha1 ha2
  subst ha1 ha2
  exact ⟨b, off + c, A', n', c', rfl, by rw [Nat.add_assoc]; exact x1, x2⟩

end Go.Proofs.YtfokplidiboabaaGreat

/- Tables: Solve. -/
set_option linter.unusedVariables false
set_option linter.unusedSimpArgs false
set_option maxRecDepth 100000
namespace Go.Proofs.YtfokplidiboabaaGreat
open Go.RowKit Go.Shelf
attribute [local go_sem ↓] Go.wp_at_zero Go.wp_at_succ

theorem OutRats.weaken {E : Elem} {w : World} {P : Nat → Prop} {lo lo' : Nat} {v : Value} {l : List Rat} (h : OutRats E w P lo v l) (hl : lo' ≤ lo) : OutRats E w P lo' v l := by
  obtain ⟨es, h1, h2, h3, h4⟩ := h
  exact ⟨es, h1, ownsRow_weaken h2 hl, h3, h4⟩
end Go.Proofs.YtfokplidiboabaaGreat

/- Tables: what the laws make of numbers; Tables. -/
set_option linter.unusedVariables false
set_option linter.unusedSimpArgs false
set_option maxRecDepth 100000
namespace Go.Proofs.YtfokplidiboabaaGreat
open Go.RowKit Go.Shelf
attribute [local go_sem ↓] Go.wp_at_zero Go.wp_at_succ

theorem rats_one {E : Elem} {w : World} {g : Nat} {s s' : Bool} {A A' : Option Addr} {n c n' c' : Nat} {p : Rat} (hr : Row w g 36 [.bool s, .slice A n c, .bool s', .slice A' n' c']) (h : E w (.agg #[.bool s, .slice A n c, .bool s', .slice A' n' c']) p) :
    Rats E w (.slice (some ⟨g, 0, none⟩) 1 1) [p] := by
  refine ⟨_, 1, rfl, Nat.le_refl _, by decide, fun i q hi => ?_⟩
  match i, hi with
  | 0, hi => simp at hi; subst hi; exact ⟨g, 0, s, A, n, c, s', A', n', c', rfl, hr.cell rfl, hr.cell rfl, hr.cell rfl, hr.cell rfl, h⟩
  | i+1, hi => simp at hi
theorem rats_two {E : Elem} {w : World} {g : Nat} {s s' r r' : Bool} {A A' B B' : Option Addr} {n c n' c' m d m' d' : Nat} {p q : Rat} (hr : Row w g 36 [.bool s, .slice A n c, .bool s', .slice A' n' c', .bool r, .slice B m d, .bool r', .slice B' m' d'])
    (h : E w (.agg #[.bool s, .slice A n c, .bool s', .slice A' n' c']) p) (k : E w (.agg #[.bool r, .slice B m d, .bool r', .slice B' m' d']) q) :
    Rats E w (.slice (some ⟨g, 0, none⟩) 2 2) [p, q] := by
  refine ⟨_, 2, rfl, Nat.le_refl _, by decide, fun i q hi => ?_⟩
  match i, hi with
  | 0, hi => simp at hi; subst hi; exact ⟨g, 0, s, A, n, c, s', A', n', c', rfl, hr.cell rfl, hr.cell rfl, hr.cell rfl, hr.cell rfl, h⟩
  | 1, hi => simp at hi; subst hi; exact ⟨g, 0, r, B, m, d, r', B', m', d', rfl, hr.cell rfl, hr.cell rfl, hr.cell rfl, hr.cell rfl, k⟩
  | i+2, hi => simp at hi
theorem tab_two {E : Elem} {w : World} {g : Nat} {A B : Option Addr} {n c m d : Nat} {p q : List Rat} (hr : Row w g 22 [.slice A n c, .slice B m d]) (h : Rats E w (.slice A n c) p) (k : Rats E w (.slice B m d) q) :
    Tab E w (.slice (some ⟨g, 0, none⟩) 2 2) [p, q] := by
  refine ⟨_, 2, rfl, Nat.le_refl _, by decide, fun i row hi => ?_⟩
  match i, hi with
  | 0, hi => simp at hi; subst hi; exact ⟨g, 0, A, n, c, rfl, hr.cell rfl, h⟩
  | 1, hi => simp at hi; subst hi; exact ⟨g, 0, B, m, d, rfl, hr.cell rfl, k⟩
  | i+2, hi => simp at hi

set_option maxHeartbeats 1000000 in
theorem lawof_calls (w : World) (n : Int) (h1 : -9223372036854775808 ≤ n) (h2 : n < 9223372036854775808) (q : Rat) (hq : Rat.divInt n 1 = q) :
    Calls Tryz.prog 91 #[.int .i64 n] w (Ret w fun w' v => OwnR w' w.heap.size v q) := by
  obtain ⟨W0, hW0⟩ : ∃ W0, W0 = w.alloc (Obj.cells #[Value.bool false, Value.slice none 0 0, Value.bool false, Value.slice none 0 0] 36) := ⟨_, rfl⟩
  obtain ⟨hb0, r1, hsz0⟩ := boxes1 w [.bool false, .slice none 0 0, .bool false, .slice none 0 0] 36 hW0
  have R1 := hide r1; have B0' := hide hb0; have HW0 := hide hW0
  clear r1 hb0 hW0
  go_enter Tryz.func91, Tryz.ntmps91
  go_wp2_with fail
  rw [← HW0.out]
  refine (qof_calls _ n 1 h1 h2 (by omega) (by omega) (by omega) q hq).mono ?_
  rintro e w1 ⟨v1, ok1, rfl, ⟨o1, rfl⟩, b1⟩
  obtain ⟨s1, P1, q1, e1, P1', q1', e1', rfl, o1⟩ := o1.open_; have O1 := hide o1; clear o1
  have hs1 := b1.size
  have hb2 := b1.alloc (Obj.cells #[Value.bool s1, Value.slice P1 q1 e1, Value.bool false, Value.slice P1' q1' e1'] 36)
  have HR := hide (R1.out.later hb2)
  have hL := hide (B0'.out.trans hb2)
  obtain ⟨d1, d2, d3, d4, d5, d6, d7, d8⟩ := row_cells4 HR.out
  go_wp2_with fail
  refine bodyPost_ret (results_rat rfl rfl (HR.out.four _ _ _ _)) rfl ?_
  have oo := Only.four w.heap.size (w1.alloc (Obj.cells #[Value.bool s1, Value.slice P1 q1 e1, Value.bool false, Value.slice P1' q1' e1'] 36)) (.bool s1) (.slice P1 q1 e1) (.bool false) (.slice P1' q1' e1')
  exact ⟨_, rfl, ((O1.out.later ((Later.refl _).alloc _)).only oo (by omega)).weaken (by omega), hL.out.only oo (Nat.le_refl _)⟩

set_option maxHeartbeats 2000000 in
theorem tsame_calls (w : World) (va vb : Value) (a b : List (List Rat)) (k m : Nat) (ha : Tab EOwn w va a) (hb : Tab EOwn w vb b) (hA : ∀ row ∈ a, ∀ q ∈ row, Sized q k) (hB : ∀ row ∈ b, ∀ q ∈ row, Sized q m) (hk : k ≤ 1000000000) (hm : m ≤ 1000000000) (hla : a.length ≤ 1000000000) (hla2 : ∀ row ∈ a, row.length ≤ 1000000000) (t : Bool) (ht : decide (a = b) = t) :
    Calls Tryz.prog 77 #[va, vb] w (RetV w (.bool t)) := by
  have HA := hide ha; have HB := hide hb; have HT := hide ht; have SA := hide hA; have SB := hide hB; have HL2 := hide hla2
  obtain ⟨A0, na, ca, rfl, hna, -⟩ := ha.form
  obtain ⟨B0, nb, cb, rfl, hnb, -⟩ := hb.form
  have HNA := hide hna; have HNB := hide hnb
  have hla9 : na ≤ 1000000000 := by omega
  by_cases hne : na = nb
  · subst hne
    have t1 : ((na : Int) != na) = false := by simp
    clear ha hb ht hA hB hna hnb hla hla2
    go_enter Tryz.func77, Tryz.ntmps77
    go_wp2_with fail
    go_loopw [5] (fun i wr => ∃ j : Nat, j ≤ na ∧ i = .int .i64 (j : Int) ∧ Hid (a.take j = b.take j) ∧ Later w wr) (fun i _ => (na - intOf i).toNat)
    case atStart => exact ⟨0, by omega, rfl, hide rfl, Later.refl w⟩
    case round =>
      obtain ⟨j, hj, rfl, hpre, hL⟩ := hrel
      by_cases hjn : j < na
      · obtain ⟨x, hx⟩ : ∃ x, a[j]? = some x := ⟨a[j]'(by have := HNA.out; omega), List.getElem?_eq_getElem _⟩
        obtain ⟨y, hy⟩ : ∃ y, b[j]? = some y := ⟨b[j]'(by have := HNB.out; omega), List.getElem?_eq_getElem _⟩
        obtain ⟨b1, off1, A5, n5, c5, rfl, z1, hx1⟩ := (HA.out.later EOwn.later hL).at_ hx
        obtain ⟨b2, off2, A6, n6, c6, rfl, z2, hy1⟩ := (HB.out.later EOwn.later hL).at_ hy
        have HX := hide (hx1.later EOwn.later (Later.refl wr).drew); have HY := hide (hy1.later EOwn.later (Later.refl wr).drew)
        have HXM := hide (List.mem_of_getElem? hx); have HYM := hide (List.mem_of_getElem? hy)
        have HEX := hide hx; have HEY := hide hy; have HL := hide hL.drew
        have HS : Hid (∀ w', Later wr.drew w' → w'.cell? ⟨b1, off1 + j, none⟩ = some (.slice A5 n5 c5) ∧ w'.cell? ⟨b2, off2 + j, none⟩ = some (.slice A6 n6 c6)) := hide fun w' hb => ⟨Later.cell ((Later.refl wr).drew.trans hb) z1, Later.cell ((Later.refl wr).drew.trans hb) z2⟩
        have hj0 : (0 : Int) ≤ (j : Int) := by omega
        have hj1 : (j : Int) < na := by omega
        obtain ⟨u, hu⟩ : ∃ u, decide (x = y) = u := ⟨_, rfl⟩
        have HU := hide hu
        clear hx hy hx1 hy1 hL z1 z2 hu
        go_upto_region 6 with fail
        rename_i K4 hK4
        go_region_held3 (fun w' => w'.cell? ⟨b1, off1 + j, none⟩ = some (.slice A5 n5 c5) ∧ w'.cell? ⟨b2, off2 + j, none⟩ = some (.slice A6 n6 c6))
          (first | exact HS.out _ (Later.refl _) | exact HS.out _ b3)
          (first
            | ((with_reducible refine (lsame_calls _ _ _ x y k m HX.out HY.out (SA.out x HXM.out) (SB.out y HYM.out) hk hm (HL2.out x HXM.out) u HU.out).mono ?_); rintro e w3 ⟨rfl, b3⟩))
        show K4 _ _
        refine hK4 _ _ ?_
        clear hK4
        have hLL := hide (HL.out.trans b3)
        cases u with
        | false =>
          have HF : Hid (t = false) := hide (by
            rw [← HT.out, decide_eq_false_iff_not]
            rintro rfl
            have h1 := HEX.out
            rw [HEY.out] at h1
            injection h1 with h1
            have := HU.out
            simp [h1] at this)
          go_wp2_with fail
          go_ret
          exact ⟨by rw [HF.out]; rfl, hLL.out⟩
        | true =>
          have HP : Hid (a.take (j+1) = b.take (j+1)) := hide (by
            have h1 : x = y := by simpa using HU.out
            rw [List.take_add_one, List.take_add_one, hpre.out, HEX.out, HEY.out, h1])
          go_wp2_with fail
          exact ⟨⟨j+1, by omega, by go_num, HP, hLL.out⟩, by simp [intOf]; omega⟩
      · obtain rfl : j = na := by omega
        have HF : Hid (t = true) := hide (by
          have h1 := hpre.out
          rw [List.take_of_length_le (by rw [← HNA.out]; exact Nat.le_refl _), List.take_of_length_le (by rw [← HNB.out]; exact Nat.le_refl _)] at h1
          rw [← HT.out]; simpa using h1)
        have HL := hide hL
        go_wp2_with fail
        go_ret
        exact ⟨by rw [HF.out]; rfl, HL.out⟩
  · have t1 : ((na : Int) != nb) = true := by rw [bne_iff_ne]; omega
    have HF : Hid (t = false) := hide (by
      rw [← ht, decide_eq_false_iff_not]
      rintro rfl
      omega)
    clear ha hb ht hA hB hna hnb hla hla2
    go_enter Tryz.func77, Tryz.ntmps77
    go_wp2_with fail
    go_ret
    exact ⟨by rw [HF.out]; rfl, Later.refl w⟩
end Go.Proofs.YtfokplidiboabaaGreat

/- The small numbers that awake asks about. No program is in sight here. -/
set_option linter.unusedVariables false
set_option linter.unusedSimpArgs false
namespace Go.Proofs.YtfokplidiboabaaGreat
theorem sized_small {q : Rat} (h1 : q.num.natAbs < 2 ^ 32) (h2 : q.den < 2 ^ 32) : Sized q 1 := ⟨length_limbs_le (by simpa using h1), length_limbs_le (by simpa using h2)⟩
theorem sized_0 : Sized 0 1 := sized_small (by decide) (by decide)
theorem sized_1 : Sized 1 1 := sized_small (by decide) (by decide)
theorem sized_2 : Sized 2 1 := sized_small (by decide) (by decide)
theorem sized_3 : Sized 3 1 := sized_small (by decide) (by decide)
theorem sized_m1 : Sized (-1) 1 := sized_small (by decide) (by decide)
theorem sized_m2 : Sized (-2) 1 := sized_small (by decide) (by decide)
theorem sized_half : Sized (1/2) 1 := sized_small (by decide +kernel) (by decide +kernel)
theorem div_0 : Rat.divInt 0 1 = 0 := by decide +kernel
theorem div_1 : Rat.divInt 1 1 = 1 := by decide +kernel
theorem div_2 : Rat.divInt 2 1 = 2 := by decide +kernel
theorem div_3 : Rat.divInt 3 1 = 3 := by decide +kernel
theorem div_m1 : Rat.divInt (-1) 1 = -1 := by decide +kernel
theorem sized_list1 {l : List Rat} (h : ∀ q ∈ l, q = 0 ∨ q = 1 ∨ q = 2 ∨ q = 3 ∨ q = -1 ∨ q = -2 ∨ q = 1/2) : ∀ q ∈ l, Sized q 1 := by
  intro q hq
  rcases h q hq with rfl | rfl | rfl | rfl | rfl | rfl | rfl
  · exact sized_0
  · exact sized_1
  · exact sized_2
  · exact sized_3
  · exact sized_m1
  · exact sized_m2
  · exact sized_half
end Go.Proofs.YtfokplidiboabaaGreat
