/- Facts that hang on some blocks alone; lists of fractions in memory. -/
import Derived.Test.YthncinngkfflgaaGreatQ4
import Derived.Test.YthncinngkfflgaaGreatQ6
import Derived.Test.YthncinngkfflgaaGreatQ8
import Derived.Test.YthncinngkfflgaaGreatQ9
set_option linter.unusedVariables false
set_option linter.unusedSimpArgs false
namespace Go.Proofs.YthncinngkfflgaaGreat
open Go.RowKit

/-- T stands at w, and wherever some blocks, for which P stands, are as in w -/
def On (w : World) (P : Nat → Prop) (T : World → Prop) : Prop := ∃ F : Nat → Prop, (∀ b, F b → P b ∧ b < w.heap.size) ∧ ∀ W : World, (∀ b, F b → W.heap[b]? = w.heap[b]?) → T W
section
variable {w w' : World} {P P' : Nat → Prop} {T T' : World → Prop}
theorem On.now (h : On w P T) : T w := by obtain ⟨F, h1, h2⟩ := h; exact h2 w fun _ _ => rfl
theorem On.mono (h : On w P T) (hp : ∀ b, P b → b < w.heap.size → P' b) : On w P' T := by
  obtain ⟨F, h1, h2⟩ := h; exact ⟨F, fun b hb => ⟨hp b (h1 b hb).1 (h1 b hb).2, (h1 b hb).2⟩, h2⟩
theorem On.map (h : On w P T) (ht : ∀ W, T W → T' W) : On w P T' := by
  obtain ⟨F, h1, h2⟩ := h; exact ⟨F, h1, fun W hW => ht W (h2 W hW)⟩
theorem On.and (h : On w P T) (k : On w P T') : On w P (fun W => T W ∧ T' W) := by
  obtain ⟨F, h1, h2⟩ := h
  obtain ⟨G, k1, k2⟩ := k
  exact ⟨fun b => F b ∨ G b, fun b hb => hb.elim (h1 b) (k1 b), fun W hW => ⟨h2 W fun b hb => hW b (.inl hb), k2 W fun b hb => hW b (.inr hb)⟩⟩
theorem On.keep (h : On w P T) (hs : w.heap.size ≤ w'.heap.size) (hk : ∀ b, P b → b < w.heap.size → w'.heap[b]? = w.heap[b]?) : On w' P T := by
  obtain ⟨F, h1, h2⟩ := h
  exact ⟨F, fun b hb => ⟨(h1 b hb).1, Nat.lt_of_lt_of_le (h1 b hb).2 hs⟩, fun W hW => h2 W fun b hb => (hW b hb).trans (hk b (h1 b hb).1 (h1 b hb).2)⟩
theorem On.later (h : On w P T) (hb : Later w w') : On w' P T := h.keep hb.size fun b _ hlt => hb.block b hlt
theorem On.only {g : Nat} (h : On w P T) (o : Only g w w') (hg : ¬ P g) : On w' P T := h.keep (by rw [o.size]; exact Nat.le_refl _) fun b hb _ => o.block b (fun e => hg (e ▸ hb))
theorem On.grown {row : Option Nat} (h : On w P T) (hg : w.grownBy w' row) (hr : ∀ b, P b → b < w.heap.size → some b ≠ row) : On w' P T := h.keep hg.size fun b hb hlt => hg.block b hlt (hr b hb hlt)
theorem On.pure (h : ∀ W, T W) : On w P T := ⟨fun _ => False, fun _ hb => hb.elim, fun W _ => h W⟩
theorem On.all {α : Type} {T : α → World → Prop} (l : List α) (h : ∀ x ∈ l, On w P (T x)) : On w P (fun W => ∀ x ∈ l, T x W) := by
  induction l with
  | nil => exact On.pure fun W x hx => by cases hx
  | cons a l ih =>
    refine (On.and (h a (List.mem_cons_self ..)) (ih fun x hx => h x (List.mem_cons_of_mem _ hx))).map fun W ⟨h1, h2⟩ x hx => ?_
    rcases List.mem_cons.1 hx with rfl | hx
    · exact h1
    · exact h2 x hx
theorem On.of_row {g : Nat} {t : TypeId} {cs : List Value} (h : Row w g t cs) (hP : P g) (ht : ∀ W, Row W g t cs → T W) : On w P T :=
  ⟨fun b => b = g, fun b hb => by subst hb; exact ⟨hP, h.lt⟩, fun W hW => ht W ((hW g rfl).trans h)⟩
end

theorem On.own32 {T : TypeId} {w : World} {B : Nat} {v : Value} {l : List Nat} (h : Own32 T w B v l) : On w (fun b => B ≤ b) (fun W => Own32 T W B v l) := by
  obtain ⟨h1, h2, h3⟩ := h
  rcases h3 with h3 | ⟨g, cap, cur, rfl, hb, hg, r⟩
  · exact On.pure fun W => ⟨h1, h2, .inl h3⟩
  · exact On.of_row (cs := cur.toList) (t := T) hg hb fun W hW => ⟨h1, h2, .inr ⟨g, cap, cur, rfl, hb, hW, r⟩⟩
theorem On.ownR {w : World} {B : Nat} {v : Value} {q : Rat} (h : OwnR w B v q) : On w (fun b => B ≤ b) (fun W => OwnR W 0 v q) := by
  obtain ⟨A, n, c, A', n', c', e, h1, h2⟩ := h
  exact ((On.own32 h1).and (On.own32 h2)).map fun W h => ⟨A, n, c, A', n', c', e, h.1.weaken (Nat.zero_le _), h.2.weaken (Nat.zero_le _)⟩

/-! ### lists of fractions -/
/-- an element's way of standing for a number -/
abbrev Elem := World → Value → Rat → Prop
def ERaw (k : Nat) : Elem := fun w v q => RawR w v q k
def EOwn : Elem := fun w v q => OwnR w 0 v q
/-- a slice that reads as fractions -/
def Rats (E : Elem) (w : World) (v : Value) (l : List Rat) : Prop :=
  ∃ A c, v = .slice A l.length c ∧ l.length ≤ c ∧ c ≤ maxLen ∧ ∀ i q, l[i]? = some q → ∃ b off s A1 n1 c1 s' A2 n2 c2, A = some ⟨b, off, none⟩ ∧ w.cell? ⟨b, off + i * 4, none⟩ = some (.bool s) ∧ w.cell? ⟨b, off + i * 4 + 1, none⟩ = some (.slice A1 n1 c1) ∧
    w.cell? ⟨b, off + i * 4 + 2, none⟩ = some (.bool s') ∧ w.cell? ⟨b, off + i * 4 + 3, none⟩ = some (.slice A2 n2 c2) ∧ E w (.agg #[.bool s, .slice A1 n1 c1, .bool s', .slice A2 n2 c2]) q
theorem Rats.later {E : Elem} (hE : ∀ w w' v q, E w v q → Later w w' → E w' v q) {w w' : World} {v : Value} {l : List Rat} (h : Rats E w v l) (hb : Later w w') : Rats E w' v l := by
  obtain ⟨A, c, e, h1, h2, h3⟩ := h
  refine ⟨A, c, e, h1, h2, fun i q hi => ?_⟩
  obtain ⟨b, off, s, A1, n1, c1, s', A2, n2, c2, ha, x1, x2, x3, x4, hE'⟩ := h3 i q hi
  exact ⟨b, off, s, A1, n1, c1, s', A2, n2, c2, ha, Later.cell hb x1, Later.cell hb x2, Later.cell hb x3, Later.cell hb x4, hE _ _ _ _ hE' hb⟩
theorem ERaw.later {k : Nat} (w w' : World) (v : Value) (q : Rat) (h : ERaw k w v q) (hb : Later w w') : ERaw k w' v q := RawR.later h hb
theorem EOwn.later (w w' : World) (v : Value) (q : Rat) (h : EOwn w v q) (hb : Later w w') : EOwn w' v q := OwnR.later h hb
theorem Rats.map {E E' : Elem} {w : World} {v : Value} {l : List Rat} (h : Rats E w v l) (hE : ∀ v q, q ∈ l → E w v q → E' w v q) : Rats E' w v l := by
  obtain ⟨A, c, e, h1, h2, h3⟩ := h
  refine ⟨A, c, e, h1, h2, fun i q hi => ?_⟩
  obtain ⟨b, off, s, A1, n1, c1, s', A2, n2, c2, ha, x1, x2, x3, x4, hE'⟩ := h3 i q hi
  exact ⟨b, off, s, A1, n1, c1, s', A2, n2, c2, ha, x1, x2, x3, x4, hE _ _ (List.mem_of_getElem? hi) hE'⟩

/-- a row of one's own that is being built: its elements hang on other blocks, for which P stands -/
def OutRats (E : Elem) (w : World) (P : Nat → Prop) (lo : Nat) (v : Value) (l : List Rat) : Prop :=
  ∃ es : List (Bool × Value × Bool × Value), es.length = l.length ∧ w.ownsRow lo 37 4 v l.length (es.flatMap fun (e : Bool × Value × Bool × Value) => [.bool e.1, e.2.1, .bool e.2.2.1, e.2.2.2]) ∧
    (∀ e ∈ es, (∃ A n c, e.2.1 = .slice A n c) ∧ (∃ A n c, e.2.2.2 = .slice A n c)) ∧
    On w (fun b => P b ∧ some b ≠ v.ownBlock) (fun W => ∀ (i : Nat) (e : Bool × Value × Bool × Value) (q : Rat), es[i]? = some e → l[i]? = some q → E W (.agg #[.bool e.1, e.2.1, .bool e.2.2.1, e.2.2.2]) q)

theorem OutRats.nil (E : Elem) (w : World) (P : Nat → Prop) (lo : Nat) : OutRats E w P lo (.slice none 0 0) [] :=
  ⟨[], rfl, World.ownsRow_nil w lo _ 4, by simp, On.pure fun W i e q hi => by simp at hi⟩
theorem OutRats.mono {E : Elem} {w : World} {P P' : Nat → Prop} {lo : Nat} {v : Value} {l : List Rat} (h : OutRats E w P lo v l) (hp : ∀ b, P b → b < w.heap.size → P' b) : OutRats E w P' lo v l := by
  obtain ⟨es, h1, h2, h3, h4⟩ := h
  exact ⟨es, h1, h2, h3, h4.mono fun b hb hlt => ⟨hp b hb.1 hlt, hb.2⟩⟩

theorem ownsRow_later {w w' : World} {B size n : Nat} {e : TypeId} {v : Value} {xs : List Value} (h : w.ownsRow B e size v n xs) (hb : Later w w') : w'.ownsRow B e size v n xs := by
  obtain ⟨h2, h3⟩ := h
  refine ⟨h2, ?_⟩
  rcases h3 with h3 | ⟨g, cap, cur, rfl, hb', hg, r⟩
  · exact .inl h3
  · exact .inr ⟨g, cap, cur, rfl, hb', Row.later (cs := cur.toList) hg hb, r⟩
theorem OutRats.later {E : Elem} {w w' : World} {P : Nat → Prop} {lo : Nat} {v : Value} {l : List Rat} (h : OutRats E w P lo v l) (hb : Later w w') : OutRats E w' P lo v l := by
  obtain ⟨es, h1, h2, h3, h4⟩ := h
  exact ⟨es, h1, ownsRow_later h2 hb, h3, h4.later hb⟩
theorem OutRats.only {E : Elem} {w w' : World} {P : Nat → Prop} {lo g : Nat} {v : Value} {l : List Rat} (h : OutRats E w P lo v l) (o : Only g w w') (hg : g < lo) (hP : ¬ P g) : OutRats E w' P lo v l := by
  obtain ⟨es, h1, h2, h3, h4⟩ := h
  exact ⟨es, h1, ownsRow_only h2 o hg, h3, h4.only o fun h => hP h.1⟩

theorem flat4_get (es : List (Bool × Value × Bool × Value)) (i j : Nat) (hj : j < 4) (e : Bool × Value × Bool × Value) (hi : es[i]? = some e) :
    (es.flatMap fun e => [Value.bool e.1, e.2.1, Value.bool e.2.2.1, e.2.2.2])[i * 4 + j]? = [Value.bool e.1, e.2.1, Value.bool e.2.2.1, e.2.2.2][j]? := by
  induction es generalizing i with
  | nil => simp at hi
  | cons a es ih =>
    rw [List.flatMap_cons]
    cases i with
    | zero =>
      simp at hi; subst hi
      rw [Nat.zero_mul, Nat.zero_add, List.getElem?_append_left (by simpa using hj)]
    | succ i =>
      have h1 := ih i (by simpa using hi)
      rw [List.getElem?_append_right (by simp; omega)]
      rw [← h1]; congr 1; simp; omega

/-- what was built reads as its numbers -/
theorem OutRats.rats {E : Elem} {w : World} {P : Nat → Prop} {lo : Nat} {v : Value} {l : List Rat} (h : OutRats E w P lo v l) : On w (fun b => P b ∨ lo ≤ b) (fun W => Rats E W v l) := by
  obtain ⟨es, h1, ⟨h2, h2'⟩, h3, h4⟩ := h
  rcases h2' with ⟨rfl, h0⟩ | ⟨g, cap, cur, rfl, hb, hg, hn, hm, hs, ht⟩
  · have : l = [] := List.eq_nil_of_length_eq_zero h0
    subst this
    exact On.pure fun W => ⟨none, 0, rfl, by simp, by simp, fun i q hi => by simp at hi⟩
  · have hrow : Row w g 37 cur.toList := by unfold Row; simpa using hg
    have h5 : On w (fun b => P b ∨ lo ≤ b) (fun W => Row W g 37 cur.toList) := On.of_row hrow (.inr hb) fun W hW => hW
    refine (h5.and (h4.mono fun b hb _ => .inl hb.1)).map fun W ⟨hr, he⟩ => ?_
    refine ⟨some ⟨g, 0, none⟩, cap, rfl, hn, hm, fun i q hi => ?_⟩
    have hil : i < es.length := by rw [h1]; exact (List.getElem?_eq_some_iff.1 hi).1
    obtain ⟨e, hee⟩ : ∃ e, es[i]? = some e := ⟨es[i], List.getElem?_eq_getElem hil⟩
    obtain ⟨⟨A1, n1, c1, e1⟩, ⟨A2, n2, c2, e2⟩⟩ := h3 e (List.mem_of_getElem? hee)
    have hcell : ∀ j, j < 4 → ∀ u, [Value.bool e.1, e.2.1, Value.bool e.2.2.1, e.2.2.2][j]? = some u → W.cell? ⟨g, 0 + i * 4 + j, none⟩ = some u := fun j hj u hu => by
      rw [Nat.zero_add]
      refine hr.cell ?_
      rw [← flat4_get es i j hj e hee, ← ht, List.getElem?_take] at hu
      split at hu
      · exact hu
      · cases hu
    refine ⟨g, 0, e.1, A1, n1, c1, e.2.2.1, A2, n2, c2, rfl, hcell 0 (by omega) _ rfl, hcell 1 (by omega) _ (by simp [e1]), hcell 2 (by omega) _ rfl, hcell 3 (by omega) _ (by simp [e2]), ?_⟩
    have := he i e q hee hi
    rw [e1, e2] at this; exact this

/-- a list of plain fractions, all of it from block B on -/
def OwnRats (w : World) (B : Nat) (v : Value) (l : List Rat) : Prop := On w (fun b => B ≤ b) (fun W => Rats EOwn W v l)
theorem OwnRats.later {w w' : World} {B : Nat} {v : Value} {l : List Rat} (h : OwnRats w B v l) (hb : Later w w') : OwnRats w' B v l := On.later h hb
theorem OwnRats.weaken {w : World} {B C : Nat} {v : Value} {l : List Rat} (h : OwnRats w B v l) (hC : C ≤ B) : OwnRats w C v l := On.mono h fun b hb _ => Nat.le_trans hC hb
theorem OwnRats.only {w w' : World} {B g : Nat} {v : Value} {l : List Rat} (h : OwnRats w B v l) (o : Only g w w') (hg : g < B) : OwnRats w' B v l := On.only h o (by omega)
end Go.Proofs.YthncinngkfflgaaGreat

/- append of a fraction to a row of one's own. -/
set_option linter.unusedVariables false
set_option linter.unusedSimpArgs false
namespace Go.Proofs.YthncinngkfflgaaGreat
open Go.RowKit

theorem Later.grownBy {w w' : World} (h : Later w w') (row : Option Nat) : w.grownBy w' row := ⟨h.os, h.tape, h.output, h.size, fun b hb _ => h.block b hb⟩
theorem OutRats.lt {E : Elem} {w : World} {P : Nat → Prop} {lo : Nat} {v : Value} {l : List Rat} (h : OutRats E w P lo v l) : ∀ k, v.ownBlock = some k → lo ≤ k ∧ k < w.heap.size := by
  obtain ⟨es, h1, h2, -⟩ := h; exact World.ownsRow.lt h2

section
variable {w : World} {o : Oper} {a : Act} {K : Act → World → Prop} {Q : Exit → Act → World → Prop}
end
/-- the cells of an element -/
theorem Rats.at_ {E : Elem} {w : World} {A : Option Addr} {n c : Nat} {l : List Rat} (h : Rats E w (.slice A n c) l) {i : Nat} {q : Rat} (hi : l[i]? = some q) :
    ∃ b off s A1 n1 c1 s' A2 n2 c2, A = some ⟨b, off, none⟩ ∧ w.cell? ⟨b, off + i * 4, none⟩ = some (.bool s) ∧ w.cell? ⟨b, off + i * 4 + 1, none⟩ = some (.slice A1 n1 c1) ∧
    w.cell? ⟨b, off + i * 4 + 2, none⟩ = some (.bool s') ∧ w.cell? ⟨b, off + i * 4 + 3, none⟩ = some (.slice A2 n2 c2) ∧ E w (.agg #[.bool s, .slice A1 n1 c1, .bool s', .slice A2 n2 c2]) q := by
  obtain ⟨A', c', e, -, -, h3⟩ := h
  injection e with e1 e2 e3
  subst e1
  exact h3 i q hi
theorem Rats.form {E : Elem} {w : World} {v : Value} {l : List Rat} (h : Rats E w v l) : ∃ A n c, v = .slice A n c ∧ n = l.length ∧ n ≤ c ∧ c ≤ maxLen ∧ Rats E w (.slice A n c) l := by
  obtain ⟨A, c, rfl, h1, h2, h3⟩ := id h
  exact ⟨A, _, c, rfl, rfl, h1, h2, h⟩
end Go.Proofs.YthncinngkfflgaaGreat

/- Rows of fractions: zero, pairs. -/
set_option linter.unusedVariables false
set_option linter.unusedSimpArgs false
set_option maxRecDepth 100000
namespace Go.Proofs.YthncinngkfflgaaGreat
open Go.RowKit Go.Shelf
attribute [local go_sem ↓] Go.wp_at_zero Go.wp_at_succ

theorem rawR_zero (w : World) (k : Nat) : RawR w (.agg #[.bool false, .slice none 0 0, .bool false, .slice none 0 0]) 0 k :=
  ⟨_, _, _, _, _, _, _, _, 0, 0, rfl, rawI_zero w k, rawI_zero w k, by rw [ratOf_not (by omega)]⟩

end Go.Proofs.YthncinngkfflgaaGreat

/- Rows of fractions: AddTimes. -/
set_option linter.unusedVariables false
set_option linter.unusedSimpArgs false
set_option maxRecDepth 100000
namespace Go.Proofs.YthncinngkfflgaaGreat
open Go.RowKit Go.Shelf
attribute [local go_sem ↓] Go.wp_at_zero Go.wp_at_succ

end Go.Proofs.YthncinngkfflgaaGreat

/- Rows of fractions: Dot. -/
set_option linter.unusedVariables false
set_option linter.unusedSimpArgs false
set_option maxRecDepth 100000
namespace Go.Proofs.YthncinngkfflgaaGreat
open Go.RowKit Go.Shelf
attribute [local go_sem ↓] Go.wp_at_zero Go.wp_at_succ

theorem Rats.sized {k : Nat} {w : World} {v : Value} {l : List Rat} (h : Rats (ERaw k) w v l) : ∀ q ∈ l, Sized q (k+1) := by
  intro q hq
  obtain ⟨i, hi⟩ := List.getElem?_of_mem hq
  obtain ⟨A, c, e, -, -, h3⟩ := h
  obtain ⟨b, off, s, A1, n1, c1, s', A2, n2, c2, -, -, -, -, -, hE⟩ := h3 i q hi
  exact RawR.sized hE
end Go.Proofs.YthncinngkfflgaaGreat

/- Rows of fractions: the reference's Dot, AddTimes. -/
set_option linter.unusedVariables false
set_option linter.unusedSimpArgs false
set_option maxRecDepth 100000
namespace Go.Proofs.YthncinngkfflgaaGreat
open Go.RowKit Go.Shelf
attribute [local go_sem ↓] Go.wp_at_zero Go.wp_at_succ

end Go.Proofs.YthncinngkfflgaaGreat

/- Rows of fractions: Same, Few; and rows that are not of one length. -/
set_option linter.unusedVariables false
set_option linter.unusedSimpArgs false
set_option maxRecDepth 100000
namespace Go.Proofs.YthncinngkfflgaaGreat
open Go.RowKit Go.Shelf
attribute [local go_sem ↓] Go.wp_at_zero Go.wp_at_succ

/-- a fraction as it may come in, of whatever size -/
def EAny : Elem := fun w v q => ∃ k, RawR w v q k
theorem EAny.later (w w' : World) (v : Value) (q : Rat) (h : EAny w v q) (hb : Later w w') : EAny w' v q := by
  obtain ⟨k, h⟩ := h; exact ⟨k, h.later hb⟩
theorem rawI_small {w : World} {s : Bool} {A : Option Addr} {n c k m : Nat} {z : Int} (h : RawI w (.agg #[.bool s, .slice A n c]) z k) (hn : n ≤ m) : RawI w (.agg #[.bool s, .slice A n c]) z m := by
  obtain ⟨neg, A3, n3, c3, l, e3, hu, hz, hl⟩ := h
  injection e3 with e3; injection e3 with e3; injection e3 with e4 e3; injection e3 with e5 e3
  obtain ⟨A4, c4, e6, -, -, -, -⟩ := hu.form
  rw [← e5] at e6
  injection e6 with _ e7 _
  exact ⟨neg, A3, n3, c3, l, by rw [e4, e5], hu, hz, by omega⟩
theorem rawR_small {w : World} {s s' : Bool} {A A' : Option Addr} {n c n' c' m : Nat} {q : Rat} (h : EAny w (.agg #[.bool s, .slice A n c, .bool s', .slice A' n' c']) q) (hn : n ≤ m) (hn' : n' ≤ m) : RawR w (.agg #[.bool s, .slice A n c, .bool s', .slice A' n' c']) q m := by
  obtain ⟨k, a, A1, n1, c1, b, A2, n2, c2, x, y, e, h1, h2, h3⟩ := h
  injection e with e; injection e with e; injection e with e1 e; injection e with e2 e; injection e with e3 e; injection e with e4 e
  injection e1 with e1; injection e2 with e5 e6 e7; injection e3 with e3; injection e4 with e8 e9 e10
  subst e1 e3 e5 e6 e7 e8 e9 e10
  exact ⟨_, _, _, _, _, _, _, _, x, y, rfl, rawI_small h1 hn, rawI_small h2 hn', h3⟩

end Go.Proofs.YthncinngkfflgaaGreat

/- Tables of fractions in memory. -/
set_option linter.unusedVariables false
set_option linter.unusedSimpArgs false
namespace Go.Proofs.YthncinngkfflgaaGreat
open Go.RowKit

/-- an element's fact that hangs on some blocks alone -/
def EOn (P : Nat → Prop) (E : Elem) : Elem := fun w v q => On w P (fun W => E W v q)
theorem EOn.later {P : Nat → Prop} {E : Elem} (w w' : World) (v : Value) (q : Rat) (h : EOn P E w v q) (hb : Later w w') : EOn P E w' v q := On.later h hb
/-- a slice that reads as a table -/
def Tab (E : Elem) (w : World) (v : Value) (t : List (List Rat)) : Prop :=
  ∃ A c, v = .slice A t.length c ∧ t.length ≤ c ∧ c ≤ maxLen ∧ ∀ i row, t[i]? = some row → ∃ b off A' n' c', A = some ⟨b, off, none⟩ ∧ w.cell? ⟨b, off + i, none⟩ = some (.slice A' n' c') ∧ Rats E w (.slice A' n' c') row
theorem Tab.later {E : Elem} (hE : ∀ w w' v q, E w v q → Later w w' → E w' v q) {w w' : World} {v : Value} {t : List (List Rat)} (h : Tab E w v t) (hb : Later w w') : Tab E w' v t := by
  obtain ⟨A, c, e, h1, h2, h3⟩ := h
  refine ⟨A, c, e, h1, h2, fun i row hi => ?_⟩
  obtain ⟨b, off, A', n', c', ha, x1, x2⟩ := h3 i row hi
  exact ⟨b, off, A', n', c', ha, Later.cell hb x1, x2.later hE hb⟩
theorem Tab.map {E E' : Elem} {w : World} {v : Value} {t : List (List Rat)} (h : Tab E w v t) (hE : ∀ row ∈ t, ∀ v q, q ∈ row → E w v q → E' w v q) : Tab E' w v t := by
  obtain ⟨A, c, e, h1, h2, h3⟩ := h
  refine ⟨A, c, e, h1, h2, fun i row hi => ?_⟩
  obtain ⟨b, off, A', n', c', ha, x1, x2⟩ := h3 i row hi
  exact ⟨b, off, A', n', c', ha, x1, x2.map (hE row (List.mem_of_getElem? hi))⟩
theorem Tab.form {E : Elem} {w : World} {v : Value} {t : List (List Rat)} (h : Tab E w v t) : ∃ A n c, v = .slice A n c ∧ n = t.length ∧ n ≤ c ∧ c ≤ maxLen ∧ Tab E w (.slice A n c) t := by
  obtain ⟨A, c, rfl, h1, h2, h3⟩ := id h
  exact ⟨A, _, c, rfl, rfl, h1, h2, h⟩
theorem Tab.at_ {E : Elem} {w : World} {A : Option Addr} {n c : Nat} {t : List (List Rat)} (h : Tab E w (.slice A n c) t) {i : Nat} {row : List Rat} (hi : t[i]? = some row) :
    ∃ b off A' n' c', A = some ⟨b, off, none⟩ ∧ w.cell? ⟨b, off + i, none⟩ = some (.slice A' n' c') ∧ Rats E w (.slice A' n' c') row := by
  obtain ⟨A', c', e, -, -, h3⟩ := h
  injection e with e1 e2 e3
  subst e1
  exact h3 i row hi

/-- a table of one's own that is being built -/
def OutTab (E : Elem) (w : World) (P : Nat → Prop) (lo : Nat) (v : Value) (t : List (List Rat)) : Prop :=
  ∃ es : List Value, es.length = t.length ∧ w.ownsRow lo 23 1 v t.length es ∧ (∀ e ∈ es, ∃ A n c, e = .slice A n c) ∧
    On w (fun b => P b ∧ some b ≠ v.ownBlock) (fun W => ∀ (i : Nat) (e : Value) (row : List Rat), es[i]? = some e → t[i]? = some row → Rats E W e row)
theorem OutTab.nil (E : Elem) (w : World) (P : Nat → Prop) (lo : Nat) : OutTab E w P lo (.slice none 0 0) [] :=
  ⟨[], rfl, World.ownsRow_nil w lo _ 1, by simp, On.pure fun W i e q hi => by simp at hi⟩
theorem OutTab.later {E : Elem} {w w' : World} {P : Nat → Prop} {lo : Nat} {v : Value} {t : List (List Rat)} (h : OutTab E w P lo v t) (hb : Later w w') : OutTab E w' P lo v t := by
  obtain ⟨es, h1, h2, h3, h4⟩ := h
  exact ⟨es, h1, ownsRow_later h2 hb, h3, h4.later hb⟩
theorem OutTab.mono {E : Elem} {w : World} {P P' : Nat → Prop} {lo : Nat} {v : Value} {t : List (List Rat)} (h : OutTab E w P lo v t) (hp : ∀ b, P b → b < w.heap.size → P' b) : OutTab E w P' lo v t := by
  obtain ⟨es, h1, h2, h3, h4⟩ := h
  exact ⟨es, h1, h2, h3, h4.mono fun b hb hlt => ⟨hp b hb.1 hlt, hb.2⟩⟩
theorem ownsRow_weaken {w : World} {B C size n : Nat} {e : TypeId} {v : Value} {xs : List Value} (h : w.ownsRow B e size v n xs) (hC : C ≤ B) : w.ownsRow C e size v n xs := by
  obtain ⟨h2, h3⟩ := h
  refine ⟨h2, ?_⟩
  rcases h3 with h3 | ⟨g, cap, cur, rfl, hb', hg, r⟩
  · exact .inl h3
  · exact .inr ⟨g, cap, cur, rfl, Nat.le_trans hC hb', hg, r⟩
theorem OutTab.weaken {E : Elem} {w : World} {P : Nat → Prop} {lo lo' : Nat} {v : Value} {t : List (List Rat)} (h : OutTab E w P lo v t) (hl : lo' ≤ lo) : OutTab E w P lo' v t := by
  obtain ⟨es, h1, h2, h3, h4⟩ := h
  exact ⟨es, h1, ownsRow_weaken h2 hl, h3, h4⟩
theorem OutTab.lt {E : Elem} {w : World} {P : Nat → Prop} {lo : Nat} {v : Value} {t : List (List Rat)} (h : OutTab E w P lo v t) : ∀ k, v.ownBlock = some k → lo ≤ k ∧ k < w.heap.size := by
  obtain ⟨es, h1, h2, -⟩ := h; exact World.ownsRow.lt h2
section
variable {w : World} {o : Oper} {a : Act} {K : Act → World → Prop} {Q : Exit → Act → World → Prop}
end
end Go.Proofs.YthncinngkfflgaaGreat

/- Tables: IndexFunc, ContainsFunc, Rect, is. -/
set_option linter.unusedVariables false
set_option linter.unusedSimpArgs false
set_option maxRecDepth 100000
namespace Go.Proofs.YthncinngkfflgaaGreat
open Go.RowKit Go.Shelf
attribute [local go_sem ↓] Go.wp_at_zero Go.wp_at_succ

/-- a number, and what is so of it -/
def RetZ (w : World) (P : Int → Prop) (e : Ending) (w' : World) : Prop := ∃ z : Int, e = .returned (.int .i64 z) ∧ P z ∧ Later w w'

end Go.Proofs.YthncinngkfflgaaGreat

/- Tables: Clone, scaled, the test of Solve. -/
set_option linter.unusedVariables false
set_option linter.unusedSimpArgs false
set_option maxRecDepth 100000
namespace Go.Proofs.YthncinngkfflgaaGreat
open Go.RowKit Go.Shelf
attribute [local go_sem ↓] Go.wp_at_zero Go.wp_at_succ

theorem On.list_ {α : Type} {w : World} {P : Nat → Prop} {T : Nat → α → World → Prop} (n : Nat) (f : Nat → Option α) (h : ∀ i x, i < n → f i = some x → On w P (T i x)) : On w P (fun W => ∀ i x, i < n → f i = some x → T i x W) := by
  induction n with
  | zero => exact On.pure fun W i x hi => by omega
  | succ n ih =>
    have h1 := ih fun i x hi hx => h i x (by omega) hx
    cases hf : f n with
    | none =>
      refine h1.map fun W hW i x hi hx => ?_
      by_cases e : i = n
      · subst e; rw [hf] at hx; cases hx
      · exact hW i x (by omega) hx
    | some y =>
      refine (h1.and (h n y (by omega) hf)).map fun W hWy i x hi hx => ?_
      by_cases e : i = n
      · subst e; rw [hf] at hx; injection hx with hx; rw [← hx]; exact hWy.2
      · exact hWy.1 i x (by omega) hx

end Go.Proofs.YthncinngkfflgaaGreat

/- Tables: Pivot. -/
set_option linter.unusedVariables false
set_option linter.unusedSimpArgs false
set_option maxRecDepth 100000
namespace Go.Proofs.YthncinngkfflgaaGreat
open Go.RowKit Go.Shelf
attribute [local go_sem ↓] Go.wp_at_zero Go.wp_at_succ

theorem Tab.sized {k : Nat} {w : World} {v : Value} {t : List (List Rat)} (h : Tab (ERaw k) w v t) : ∀ row ∈ t, ∀ q ∈ row, Sized q (k+1) := by
  intro row hr q hq
  obtain ⟨i, hi⟩ := List.getElem?_of_mem hr
  obtain ⟨A, c, e, -, -, h3⟩ := h
  obtain ⟨b, off, A', n', c', -, -, x⟩ := h3 i row hi
  exact Rats.sized x q hq
end Go.Proofs.YthncinngkfflgaaGreat

/- Tables of numbers: what a pivot does, and what the one solution is. No program is in sight here. -/
set_option linter.unusedVariables false
set_option linter.unusedSimpArgs false
namespace Go.Proofs.YthncinngkfflgaaGreat

/-- a table with 0 but at one row of a column -/
def piv (M : Nat → Nat → Rat) (r c : Nat) : Nat → Nat → Rat := fun i k => if i = r then M r k / M r c else M i k - M i c * (M r k / M r c)
/-- the first c columns have 1 at their row, and 0 else -/
structure UnitF (n c : Nat) (M : Nat → Nat → Rat) (u : Nat → Nat) : Prop where
  lt : ∀ k, k < c → u k < n
  inj : ∀ k j, k < c → j < c → u k = u j → k = j
  ent : ∀ k i, k < c → i < n → M i k = if i = u k then 1 else 0

theorem UnitF.zero (n : Nat) (M : Nat → Nat → Rat) (u : Nat → Nat) : UnitF n 0 M u := ⟨fun k h => by omega, fun k j h => by omega, fun k i h => by omega⟩
theorem UnitF.step {n c : Nat} {M : Nat → Nat → Rat} {u v : Nat → Nat} {r : Nat} (h : UnitF n c M u) (hr : r < n) (hu : ∀ k, k < c → u k ≠ r) (hp : M r c ≠ 0) (hv : ∀ k, k < c → v k = u k) (hc : v c = r) : UnitF n (c+1) (piv M r c) v := by
  refine ⟨fun k hk => ?_, fun k j hk hj e => ?_, fun k i hk hi => ?_⟩
  · by_cases e : k = c
    · subst e; omega
    · rw [hv k (by omega)]; exact h.lt k (by omega)
  · by_cases e1 : k = c
    · by_cases e2 : j = c
      · omega
      · subst e1; rw [hc, hv j (by omega)] at e; exact absurd e.symm (hu j (by omega))
    · by_cases e2 : j = c
      · subst e2; rw [hc, hv k (by omega)] at e; exact absurd e (hu k (by omega))
      · rw [hv k (by omega), hv j (by omega)] at e; exact h.inj k j (by omega) (by omega) e
  · by_cases e : k = c
    · subst e
      rw [hc]
      by_cases e2 : i = r
      · subst e2; simp only [piv, if_true]; grind
      · simp only [piv, if_neg e2]; grind
    · have h1 := h.ent k i (by omega) hi
      have h2 := h.ent k r (by omega) hr
      rw [if_neg (fun e => hu k (by omega) e.symm)] at h2
      rw [hv k (by omega)]
      by_cases e2 : i = r
      · subst e2; rw [if_neg (fun e => hu k (by omega) e.symm)]; simp only [piv, if_true]; rw [h2]; grind
      · simp only [piv, if_neg e2]; rw [h1, h2]; grind

end Go.Proofs.YthncinngkfflgaaGreat

/- What Solve does to a table, in plain Lean. No program is in sight here. -/
set_option linter.unusedVariables false
set_option linter.unusedSimpArgs false
namespace Go.Proofs.YthncinngkfflgaaGreat

/-- the number at a place -/
def ent (t : List (List Rat)) (i k : Nat) : Rat := (t.getD i []).getD k 0
end Go.Proofs.YthncinngkfflgaaGreat

/- Tables: swaps in memory. -/
set_option linter.unusedVariables false
set_option linter.unusedSimpArgs false
set_option maxRecDepth 100000
namespace Go.Proofs.YthncinngkfflgaaGreat
open Go.RowKit Go.Shelf
attribute [local go_sem ↓] Go.wp_at_zero Go.wp_at_succ

theorem OutTab.map {E E' : Elem} {w : World} {P : Nat → Prop} {lo : Nat} {v : Value} {t : List (List Rat)} (h : OutTab E w P lo v t) (hE : ∀ W v q, (∃ row ∈ t, q ∈ row) → E W v q → E' W v q) : OutTab E' w P lo v t := by
  obtain ⟨es, h1, h2, h3, h4⟩ := h
  exact ⟨es, h1, h2, h3, h4.map fun W hW i e row hi hr => (hW i e row hi hr).map fun v q hq he => hE W v q ⟨row, List.mem_of_getElem? hr, hq⟩ he⟩
theorem OutTab.open_ {E : Elem} {w : World} {P : Nat → Prop} {lo : Nat} {v : Value} {t : List (List Rat)} (h : OutTab E w P lo v t) (hi : 0 < t.length) :
    ∃ g cap cs, v = .slice (some ⟨g, 0, none⟩) t.length cap ∧ lo ≤ g ∧ t.length ≤ cap ∧ cap ≤ maxLen ∧ Row w g 23 cs ∧ ∀ j, j < t.length → ∃ A n c, cs[j]? = some (.slice A n c) := by
  obtain ⟨es, h1, ⟨h2, h2'⟩, h3, h4⟩ := h
  rcases h2' with ⟨rfl, h0⟩ | ⟨g, cap, cur, rfl, hb, hg, hn, hm, hs, ht⟩
  · omega
  · refine ⟨g, cap, cur.toList, rfl, hb, hn, hm, by unfold Row; simpa using hg, fun j hj => ?_⟩
    obtain ⟨e, hee⟩ : ∃ e, es[j]? = some e := ⟨es[j]'(by omega), List.getElem?_eq_getElem _⟩
    obtain ⟨A1, n1, c1, rfl⟩ := h3 e (List.mem_of_getElem? hee)
    refine ⟨A1, n1, c1, ?_⟩
    rw [← ht, List.getElem?_take] at hee
    split at hee
    · exact hee
    · cases hee
theorem Tab.drop {E : Elem} {w : World} {b off n cap c : Nat} {t : List (List Rat)} (h : Tab E w (.slice (some ⟨b, off, none⟩) n cap) t) (hc : c ≤ n) : Tab E w (.slice (some ⟨b, off + c, none⟩) (n - c) (cap - c)) (t.drop c) := by
  obtain ⟨A, cap', e, h1, h2, h3⟩ := h
  injection e with e1 e2 e3
  subst e1 e2 e3
  refine ⟨_, cap - c, by rw [List.length_drop], by rw [List.length_drop]; omega, by omega, fun i row hi => ?_⟩
  rw [List.getElem?_drop] at hi
  obtain ⟨b', off', A', n', c', ha, x1, x2⟩ := h3 (c + i) row hi
  injection ha with ha; injection ha with ha1 ha2
  subst ha1 ha2
  exact ⟨b, off + c, A', n', c', rfl, by rw [Nat.add_assoc]; exact x1, x2⟩

end Go.Proofs.YthncinngkfflgaaGreat

/- Tables: Solve. -/
set_option linter.unusedVariables false
set_option linter.unusedSimpArgs false
set_option maxRecDepth 100000
namespace Go.Proofs.YthncinngkfflgaaGreat
open Go.RowKit Go.Shelf
attribute [local go_sem ↓] Go.wp_at_zero Go.wp_at_succ

theorem OutRats.weaken {E : Elem} {w : World} {P : Nat → Prop} {lo lo' : Nat} {v : Value} {l : List Rat} (h : OutRats E w P lo v l) (hl : lo' ≤ lo) : OutRats E w P lo' v l := by
  obtain ⟨es, h1, h2, h3, h4⟩ := h
  exact ⟨es, h1, ownsRow_weaken h2 hl, h3, h4⟩
end Go.Proofs.YthncinngkfflgaaGreat

/- Tables: what the laws make of numbers; Tables. -/
set_option linter.unusedVariables false
set_option linter.unusedSimpArgs false
set_option maxRecDepth 100000
namespace Go.Proofs.YthncinngkfflgaaGreat
open Go.RowKit Go.Shelf
attribute [local go_sem ↓] Go.wp_at_zero Go.wp_at_succ

set_option maxHeartbeats 1000000 in
theorem lawof_calls (w : World) (n : Int) (h1 : -9223372036854775808 ≤ n) (h2 : n < 9223372036854775808) (q : Rat) (hq : Rat.divInt n 1 = q) :
    Calls Tryz.prog 54 #[.int .i64 n] w (Ret w fun w' v => OwnR w' w.heap.size v q) := by
  obtain ⟨W0, hW0⟩ : ∃ W0, W0 = w.alloc (Obj.cells #[Value.bool false, Value.slice none 0 0, Value.bool false, Value.slice none 0 0] 37) := ⟨_, rfl⟩
  obtain ⟨hb0, r1, hsz0⟩ := boxes1 w [.bool false, .slice none 0 0, .bool false, .slice none 0 0] 37 hW0
  have R1 := hide r1; have B0' := hide hb0; have HW0 := hide hW0
  clear r1 hb0 hW0
  go_enter Tryz.func54, Tryz.ntmps54
  go_wp2_with fail
  rw [← HW0.out]
  refine (qof_calls _ n 1 h1 h2 (by omega) (by omega) (by omega) q hq).mono ?_
  rintro e w1 ⟨v1, ok1, rfl, ⟨o1, rfl⟩, b1⟩
  obtain ⟨s1, P1, q1, e1, P1', q1', e1', rfl, o1⟩ := o1.open_; have O1 := hide o1; clear o1
  have hs1 := b1.size
  have hb2 := b1.alloc (Obj.cells #[Value.bool s1, Value.slice P1 q1 e1, Value.bool false, Value.slice P1' q1' e1'] 37)
  have HR := hide (R1.out.later hb2)
  have hL := hide (B0'.out.trans hb2)
  obtain ⟨d1, d2, d3, d4, d5, d6, d7, d8⟩ := row_cells4 HR.out
  go_wp2_with fail
  refine bodyPost_ret (results_rat rfl rfl (HR.out.four _ _ _ _)) rfl ?_
  have oo := Only.four w.heap.size (w1.alloc (Obj.cells #[Value.bool s1, Value.slice P1 q1 e1, Value.bool false, Value.slice P1' q1' e1'] 37)) (.bool s1) (.slice P1 q1 e1) (.bool false) (.slice P1' q1' e1')
  exact ⟨_, rfl, ((O1.out.later ((Later.refl _).alloc _)).only oo (by omega)).weaken (by omega), hL.out.only oo (Nat.le_refl _)⟩

end Go.Proofs.YthncinngkfflgaaGreat

/- The small numbers that awake asks about. No program is in sight here. -/
set_option linter.unusedVariables false
set_option linter.unusedSimpArgs false
namespace Go.Proofs.YthncinngkfflgaaGreat
theorem sized_small {q : Rat} (h1 : q.num.natAbs < 2 ^ 32) (h2 : q.den < 2 ^ 32) : Sized q 1 := ⟨length_limbs_le (by simpa using h1), length_limbs_le (by simpa using h2)⟩
theorem sized_0 : Sized 0 1 := sized_small (by decide) (by decide)
theorem sized_1 : Sized 1 1 := sized_small (by decide) (by decide)
theorem sized_2 : Sized 2 1 := sized_small (by decide) (by decide)
def bA : List Rat := [3, 2]
end Go.Proofs.YthncinngkfflgaaGreat
