/- Proofs of standard forms: what they tell, with no program in sight. -/
import Derived.Test.YtfokplidiboabaaGreatS16
import Derived.Test.YtfokplidiboabaaGreatS15
import Derived.Test.YtfokplidiboabaaGreatS17
import Derived.RangeFuncBox
import Derived.RangeFuncNested
import Derived.RangeFuncBound
import Derived.RangeFuncCalls
import Derived.RangeFuncLeaves
import Derived.Test.YtfokplidiboabaaGreatS1
set_option linter.unusedVariables false
set_option linter.unusedSimpArgs false
set_option maxRecDepth 100000
namespace Go.Proofs.YtfokplidiboabaaGreat
theorem axpy_cons (x y : Rat) (a b : List Rat) (q : Rat) : axpyL (x :: a) (y :: b) q = (x + q * y) :: axpyL a b q := rfl
section
variable {A : List (List Rat)} {B C y u z r : List Rat} {ok : Bool}
end
end Go.Proofs.YtfokplidiboabaaGreat
namespace Go.Proofs.YtfokplidiboabaaGreat
end Go.Proofs.YtfokplidiboabaaGreat
namespace Go.Proofs.YtfokplidiboabaaGreat
open Go.RowKit Go.Shelf
def Agree (w W : World) : Prop := ∀ b, b < w.heap.size -> W.heap[b]? = w.heap[b]?
theorem On.base {w : World} {T : World -> Prop} (h : ∀ W, Agree w W -> T W) : On w (fun b => b < w.heap.size) T := ⟨fun b => b < w.heap.size, fun b hb => ⟨hb, hb⟩, fun W hW => h W hW⟩
theorem OutRats.grown {E : Elem} {w w' : World} {P : Nat -> Prop} {lo : Nat} {v : Value} {l : List Rat} {r : Option Nat} (h : OutRats E w P lo v l) (hg : w.grownBy w' r) (hne : ∀ k, v.ownBlock = some k -> some k ≠ r) (hP : ∀ b, P b -> some b ≠ r) : OutRats E w' P lo v l := by
 obtain ⟨es, h1, h2, h3, h4⟩ := h
 exact ⟨es, h1, ownsRow_grown h2 hg hne, h3, h4.grown hg fun b hb _ => hP b hb.1⟩
theorem OutTab.grown {E : Elem} {w w' : World} {P : Nat -> Prop} {lo : Nat} {v : Value} {t : List (List Rat)} {r : Option Nat} (h : OutTab E w P lo v t) (hg : w.grownBy w' r) (hne : ∀ k, v.ownBlock = some k -> some k ≠ r) (hP : ∀ b, P b -> some b ≠ r) : OutTab E w' P lo v t := by
 obtain ⟨es, h1, h2, h3, h4⟩ := h
 exact ⟨es, h1, ownsRow_grown h2 hg hne, h3, h4.grown hg fun b hb _ => hP b hb.1⟩
section
variable {w w0 : World} {o : Oper} {a : Act} {K : Act -> World -> Prop} {Q : Exit -> Act -> World -> Prop}
end
def Apart (o1 o2 : Option Nat) : Prop := ∀ k, o1 = some k -> o2 ≠ some k
theorem Apart.symm {o1 o2 : Option Nat} (h : Apart o1 o2) : Apart o2 o1 := fun k h2 h1 => h k h1 h2
theorem apart_new {o : Option Nat} {n : Nat} (h : ∀ k, o = some k -> k < n) : Apart o (some n) := fun k hk e => by
 have := h k hk
 injection e with e
 omega
theorem Apart.step {o o' x : Option Nat} {n : Nat} (h : Apart o x) (hb : o' = o ∨ o' = some n) (hx : ∀ k, x = some k -> k < n) : Apart o' x := by
 rcases hb with rfl | rfl
 ·exact h
 ·exact (apart_new hx).symm
end Go.Proofs.YtfokplidiboabaaGreat
namespace Go.Proofs.YtfokplidiboabaaGreat
open Go.RowKit
def Sq {α : Type} (m : Nat) (enc : α -> List Value) (w : World) (v : Value) (l : List α) : Prop :=
 ∃ A c, v = .slice A l.length c /\ l.length <= c /\ c <= maxLen /\ ∀ (i : Nat) x, l[i]? = some x -> ∃ b off, A = some ⟨b, off, none⟩ /\ ∀ (j : Nat) u, (enc x)[j]? = some u -> w.cell? ⟨b, off + i * m + j, none⟩ = some u
section
variable {α : Type} {m : Nat} {enc : α -> List Value} {w w' : World} {v : Value} {l : List α}
theorem Sq.later (h : Sq m enc w v l) (hb : Later w w') : Sq m enc w' v l := by
 obtain ⟨A, c, e, h1, h2, h3⟩ := h
 refine ⟨A, c, e, h1, h2, fun i x hi => ?_⟩
 obtain ⟨b, off, ha, hx⟩ := h3 i x hi
 exact ⟨b, off, ha, fun j u hj => Later.cell hb (hx j u hj)⟩
theorem Sq.form (h : Sq m enc w v l) : ∃ A n c, v = .slice A n c /\ n = l.length /\ n <= c /\ c <= maxLen /\ Sq m enc w (.slice A n c) l := by
 obtain ⟨A, c, rfl, h1, h2, h3⟩ := id h
 exact ⟨A, _, c, rfl, rfl, h1, h2, h⟩
theorem Sq.at_ {A : Option Addr} {n c : Nat} (h : Sq m enc w (.slice A n c) l) {i : Nat} {x : α} (hi : l[i]? = some x) : ∃ b off, A = some ⟨b, off, none⟩ /\ ∀ (j : Nat) u, (enc x)[j]? = some u -> w.cell? ⟨b, off + i * m + j, none⟩ = some u := by
 obtain ⟨A', c', e, -, -, h3⟩ := h
 injection e with e1 e2 e3
 subst e1
 exact h3 i x hi
theorem Sq.nil (m : Nat) (enc : α -> List Value) (w : World) : Sq m enc w (.slice none 0 0) [] := ⟨none, 0, rfl, by simp, by decide, fun i x hi => by simp at hi⟩
theorem flatMap_get (enc : α -> List Value) (m : Nat) (hm : ∀ x, (enc x).length = m) (l : List α) (i j : Nat) (x : α) (hi : l[i]? = some x) (hj : j < m) : (l.flatMap enc)[i * m + j]? = (enc x)[j]? := by
 induction l generalizing i with
 | nil => simp at hi
 | cons a l ih =>
   rw [List.flatMap_cons]
   cases i with
   | zero =>
     simp at hi; subst hi
     rw [Nat.zero_mul, Nat.zero_add, List.getElem?_append_left (by rw [hm]; exact hj)]
   | succ i =>
     rw [List.getElem?_append_right (by rw [hm, Nat.succ_mul]; omega), hm, <- ih i (by simpa using hi)]
     congr 1; rw [Nat.succ_mul]; omega
theorem Sq.of_own {lo : Nat} {T : TypeId} (hm : ∀ x, (enc x).length = m) (h : w.ownsRow lo T m v l.length (l.flatMap enc)) : Sq m enc w v l := by
 obtain ⟨h2, h3⟩ := h
 rcases h3 with ⟨rfl, h0⟩ | ⟨g, cap, cur, rfl, hb, hg, hn, hmx, hs, ht⟩
 ·have : l = [] := List.eq_nil_of_length_eq_zero h0
  subst this
  exact Sq.nil _ _ _
 ·have hr : Row w g T cur.toList := by unfold Row; simpa using hg
  refine ⟨some ⟨g, 0, none⟩, cap, rfl, hn, hmx, fun i x hi => ⟨g, 0, rfl, fun j u hj => ?_⟩⟩
  rw [Nat.zero_add]
  refine hr.cell ?_
  have hjm : j < m := by rw [<- hm x]; exact (List.getElem?_eq_some_iff.1 hj).1
  rw [<- flatMap_get enc m hm l i j x hi hjm, <- ht, List.getElem?_take] at hj
  split at hj
  ·exact hj
  ·cases hj
theorem On.sq {lo : Nat} {T : TypeId} (hm : ∀ x, (enc x).length = m) (h : w.ownsRow lo T m v l.length (l.flatMap enc)) : On w (fun b => lo <= b) (fun W => Sq m enc W v l) := by
 rcases h with ⟨h2, h3⟩
 rcases h3 with ⟨rfl, h0⟩ | ⟨g, cap, cur, rfl, hb, hg, r⟩
 ·have : l = [] := List.eq_nil_of_length_eq_zero h0
  subst this
  exact On.pure fun W => Sq.nil _ _ _
 ·exact On.of_row (cs := cur.toList) (t := T) hg hb fun W hW => Sq.of_own (lo := lo) (T := T) hm ⟨h2, .inr ⟨g, cap, cur, rfl, hb, hW, r⟩⟩
end
structure PItem where
 s : Rat
 h : Rat
 b : Rat
 sf : Bool
 hf : Bool
 bf : Bool
structure POrd where
 id : Int
 item : Int
 due : Int
 qty : Int
structure PMk where
 item : Int
 period : Int
 qty : Int
structure PBook where
 items : List PItem
 hor : Int
 now : Int
 caps : List Int
 ords : List POrd
 mks : List PMk
def IFit (z : Int) : Prop := -9223372036854775808 <= z /\ z < 9223372036854775808
def iCells (z : Int) : List Value := [.int .i64 z]
def oCells (o : POrd) : List Value := [.int .i64 o.id, .int .i64 o.item, .int .i64 o.due, .int .i64 o.qty]
def mCells (x : PMk) : List Value := [.int .i64 x.item, .int .i64 x.period, .int .i64 x.qty]
def POrd.fit (o : POrd) : Prop := IFit o.id /\ IFit o.item /\ IFit o.due /\ IFit o.qty
def PMk.fit (x : PMk) : Prop := IFit x.item /\ IFit x.period /\ IFit x.qty
def ENum (k : Nat) (w : World) (v : Value) (q : Rat) (f : Bool) : Prop := RawR w v q k /\ EFlag w v (if f then 1 else 0)
theorem ENum.later {k : Nat} {w w' : World} {v : Value} {q : Rat} {f : Bool} (h : ENum k w v q f) (hb : Later w w') : ENum k w' v q f := ⟨RawR.later h.1 hb, EFlag.later _ _ _ _ h.2 hb⟩
structure ICells where
 a : Bool
 A : Option Addr
 n : Nat
 c : Nat
 a' : Bool
 A' : Option Addr
 n' : Nat
 c' : Nat
def ICells.cells (e : ICells) : List Value := [.bool e.a, .slice e.A e.n e.c, .bool e.a', .slice e.A' e.n' e.c']
def Its (k : Nat) (w : World) (v : Value) (l : List PItem) : Prop :=
 ∃ A c, v = .slice A l.length c /\ l.length <= c /\ c <= maxLen /\ ∀ (i : Nat) x, l[i]? = some x -> ∃ b off, A = some ⟨b, off, none⟩ /\ ∃ e1 e2 e3 : ICells, (∀ (j : Nat) u, (e1.cells ++ e2.cells ++ e3.cells)[j]? = some u -> w.cell? ⟨b, off + i * 12 + j, none⟩ = some u) /\
   ENum k w (.agg e1.cells.toArray) x.s x.sf /\ ENum k w (.agg e2.cells.toArray) x.h x.hf /\ ENum k w (.agg e3.cells.toArray) x.b x.bf
section
variable {k : Nat} {w w' : World} {v : Value} {l : List PItem}
theorem Its.later (h : Its k w v l) (hb : Later w w') : Its k w' v l := by
 obtain ⟨A, c, e, h1, h2, h3⟩ := h
 refine ⟨A, c, e, h1, h2, fun i x hi => ?_⟩
 obtain ⟨b, off, ha, e1, e2, e3, hx, n1, n2, n3⟩ := h3 i x hi
 exact ⟨b, off, ha, e1, e2, e3, fun j u hj => Later.cell hb (hx j u hj), n1.later hb, n2.later hb, n3.later hb⟩
theorem Its.form (h : Its k w v l) : ∃ A n c, v = .slice A n c /\ n = l.length /\ n <= c /\ c <= maxLen /\ Its k w (.slice A n c) l := by
 obtain ⟨A, c, rfl, h1, h2, h3⟩ := id h
 exact ⟨A, _, c, rfl, rfl, h1, h2, h⟩
theorem Its.at_ {A : Option Addr} {n c : Nat} (h : Its k w (.slice A n c) l) {i : Nat} {x : PItem} (hi : l[i]? = some x) : ∃ b off, A = some ⟨b, off, none⟩ /\ ∃ e1 e2 e3 : ICells, (∀ (j : Nat) u, (e1.cells ++ e2.cells ++ e3.cells)[j]? = some u -> w.cell? ⟨b, off + i * 12 + j, none⟩ = some u) /\
 ENum k w (.agg e1.cells.toArray) x.s x.sf /\ ENum k w (.agg e2.cells.toArray) x.h x.hf /\ ENum k w (.agg e3.cells.toArray) x.b x.bf := by
 obtain ⟨A', c', e, -, -, h3⟩ := h
 injection e with e1 e2 e3
 subst e1
 exact h3 i x hi
end
def Grid (w : World) (v : Value) (t : List (List Int)) : Prop :=
 ∃ A c, v = .slice A t.length c /\ t.length <= c /\ c <= maxLen /\ ∀ (i : Nat) row, t[i]? = some row -> ∃ b off A' n' c', A = some ⟨b, off, none⟩ /\ w.cell? ⟨b, off + i, none⟩ = some (.slice A' n' c') /\ Sq 1 iCells w (.slice A' n' c') row
section
variable {w w' : World} {v : Value} {t : List (List Int)}
theorem Grid.later (h : Grid w v t) (hb : Later w w') : Grid w' v t := by
 obtain ⟨A, c, e, h1, h2, h3⟩ := h
 refine ⟨A, c, e, h1, h2, fun i row hi => ?_⟩
 obtain ⟨b, off, A', n', c', ha, x1, x2⟩ := h3 i row hi
 exact ⟨b, off, A', n', c', ha, Later.cell hb x1, x2.later hb⟩
theorem Grid.form (h : Grid w v t) : ∃ A n c, v = .slice A n c /\ n = t.length /\ n <= c /\ c <= maxLen /\ Grid w (.slice A n c) t := by
 obtain ⟨A, c, rfl, h1, h2, h3⟩ := id h
 exact ⟨A, _, c, rfl, rfl, h1, h2, h⟩
theorem Grid.at_ {A : Option Addr} {n c : Nat} (h : Grid w (.slice A n c) t) {i : Nat} {row : List Int} (hi : t[i]? = some row) : ∃ b off A' n' c', A = some ⟨b, off, none⟩ /\ w.cell? ⟨b, off + i, none⟩ = some (.slice A' n' c') /\ Sq 1 iCells w (.slice A' n' c') row := by
 obtain ⟨A', c', e, -, -, h3⟩ := h
 injection e with e1 e2 e3
 subst e1
 exact h3 i row hi
end
structure BookIn (w : World) (vI vC vO vM : Value) (D : PBook) : Prop where
 its : Its 12 w vI D.items
 caps : Sq 1 iCells w vC D.caps
 ords : Sq 4 oCells w vO D.ords
 mks : Sq 3 mCells w vM D.mks
 il : D.items.length <= 1000
 cl : D.caps.length <= 1000
 ol : D.ords.length <= 1000
 ml : D.mks.length <= 1000
 hfit : IFit D.hor
 nfit : IFit D.now
 cfit : ∀ z ∈ D.caps, IFit z
 ofit : ∀ o ∈ D.ords, o.fit
 mfit : ∀ x ∈ D.mks, x.fit
theorem BookIn.later {w w' : World} {vI vC vO vM : Value} {D : PBook} (h : BookIn w vI vC vO vM D) (hb : Later w w') : BookIn w' vI vC vO vM D :=
 {h with its := h.its.later hb, caps := h.caps.later hb, ords := h.ords.later hb, mks := h.mks.later hb }
def PMk.key (x : PMk) : Int := 10 * x.period + x.item
end Go.Proofs.YtfokplidiboabaaGreat
namespace Go.Proofs.YtfokplidiboabaaGreat
open Go.RowKit Go.Shelf
attribute [local go_sem ↓] Go.wp_at_zero Go.wp_at_succ
def FirstX {α : Type} (p : α -> Bool) (t : List α) (z : Int) : Prop := (z = -1 /\ ∀ x ∈ t, p x = false) ∨ ∃ (i : Nat) (x : α), z = i /\ t[i]? = some x /\ p x = true /\ ∀ j r, j < i -> t[j]? = some r -> p r = false
theorem firstX_any {α : Type} {p : α -> Bool} {t : List α} {z : Int} (h : FirstX p t z) : decide (0 <= z) = t.any p := by
 rcases h with ⟨rfl, h⟩ | ⟨i, x, rfl, h1, h2, h3⟩
 ·have : t.any p = false := by
   rw [List.any_eq_false]; intro x hx; rw [h x hx]; simp
  rw [this]; simp
 ·have : t.any p = true := by
   rw [List.any_eq_true]; exact ⟨x, List.mem_of_getElem? h1, h2⟩
  rw [this]; simp
end Go.Proofs.YtfokplidiboabaaGreat
namespace Go.Proofs.YtfokplidiboabaaGreat
structure PRow where
 coef : List Rat
 sense : Int
 rhs : Rat
 f : Bool
structure PLp where
 cost : List Rat
 rows : List PRow
 lo : List Rat
 hi : List Rat
 opn : List Bool
 f : Bool
structure LpP (P : PLp) : Prop where
 n1 : 1 <= P.cost.length
 n24 : P.cost.length <= 24
 lo : P.lo.length = P.cost.length
 hi : P.hi.length = P.cost.length
 opn : P.opn.length = P.cost.length
 rl : P.rows.length <= 24
 f : P.f = true
 rows : ∀ r ∈ P.rows, r.coef.length = P.cost.length /\ (0 <= r.sense /\ r.sense <= 2) /\ r.f = true
 ends : ∀ j : Nat, j < P.cost.length -> P.opn.getD j true = false -> P.lo.getD j 0 <= P.hi.getD j 0
open Classical in
noncomputable def lpB (P : PLp) : Bool := decide (LpP P)
theorem lpB_iff {P : PLp} : lpB P = true ↔ LpP P := by unfold lpB; simp
theorem lpB_not {P : PLp} : lpB P = false ↔ ¬ LpP P := by unfold lpB; simp
def senX (s : Int) : List Rat := if s = 0 then [1] else if s = 2 then [-1] else []
def extraR : List PRow -> Nat -> List (Nat × Rat)
 | [], _ => []
 | r :: rs, i => (senX r.sense).map (fun x => (i, x)) ++ extraR rs (i+1)
def extraE : List Bool -> Nat -> List (Nat × Rat)
 | [], _ => []
 | o :: os, k => if o then extraE os k else (k, 1) :: extraE os (k+1)
def extraL (P : PLp) : List (Nat × Rat) := extraR P.rows 0 ++ extraE P.opn P.rows.length
def unitL (n j : Nat) : List Rat := (List.replicate n 0).set j 1
def endsFrom : List Bool -> Nat -> List Nat
 | [], _ => []
 | o :: os, j => if o then endsFrom os (j+1) else j :: endsFrom os (j+1)
def endsL (P : PLp) : List Nat := endsFrom P.opn 0
def baseA (P : PLp) : List (List Rat) := P.rows.map (·.coef) ++ (endsL P).map (unitL P.cost.length)
def baseB (P : PLp) : List Rat := P.rows.map (fun r => r.rhs - dotL r.coef P.lo) ++ (endsL P).map fun j => P.hi.getD j 0 - P.lo.getD j 0
def sgq (b : Rat) : Rat := if b < 0 then -1 else 1
def exRow (ex : List (Nat × Rat)) (i : Nat) (row : List Rat) : List Rat := row ++ ex.map fun p => if i = p.1 then p.2 else 0
def wideA (P : PLp) : List (List Rat) := (List.range (baseA P).length).map fun i => exRow (extraL P) i ((baseA P).getD i [])
def flipR (row : List Rat) (b : Rat) : List Rat := row.map (· * sgq b)
def stdA (P : PLp) : List (List Rat) := List.zipWith flipR (wideA P) (baseB P)
def stdB (P : PLp) : List Rat := (baseB P).map fun b => b * sgq b
def stdC (P : PLp) : List Rat := P.cost ++ List.replicate (extraL P).length 0
def restV (P : PLp) : Rat := dotL P.cost P.lo
def rowHolds (r : PRow) (x : List Rat) : Bool := (decide (dotL r.coef x <= r.rhs) || decide (r.sense = 2)) && (decide (r.rhs <= dotL r.coef x) || decide (r.sense = 0))
def inB (P : PLp) (x : List Rat) (j : Nat) : Bool := decide (P.lo.getD j 0 <= x.getD j 0) && (P.opn.getD j true || decide (x.getD j 0 <= P.hi.getD j 0))
noncomputable def fulfL (P : PLp) (x : List Rat) : Bool := lpB P && (decide (x.length = P.cost.length) && ((List.range P.cost.length).all (inB P x) && P.rows.all fun r => rowHolds r x))
def backL (P : PLp) (y : List Rat) : List Rat := axpyL P.lo (y.take P.lo.length) 1
theorem extraR_len_le (rs : List PRow) (i : Nat) : (extraR rs i).length <= rs.length := by
 induction rs generalizing i with
 | nil => exact Nat.le_refl _
 | cons r rs ih =>
   have := ih (i+1)
   unfold extraR senX
   rw [List.length_append, List.length_map, List.length_cons]
   split <;> (try split) <;> simp <;> omega
theorem extraE_len_le (os : List Bool) (k : Nat) : (extraE os k).length <= os.length := by
 induction os generalizing k with
 | nil => exact Nat.le_refl _
 | cons o os ih =>
   have h1 := ih k; have h2 := ih (k+1)
   unfold extraE
   split <;> simp <;> omega
theorem extraL_len_le {P : PLp} (h : LpP P) : (extraL P).length <= 48 := by
 unfold extraL; rw [List.length_append]
 have h1 := extraR_len_le P.rows 0; have h2 := extraE_len_le P.opn P.rows.length
 have := h.rl; have := h.opn; have := h.n24; omega
theorem endsFrom_len_le (os : List Bool) (j : Nat) : (endsFrom os j).length <= os.length := by
 induction os generalizing j with
 | nil => exact Nat.le_refl _
 | cons o os ih =>
   have h1 := ih (j+1)
   unfold endsFrom
   split <;> simp <;> omega
theorem endsL_len_le {P : PLp} (h : LpP P) : (endsL P).length <= 24 := by
 have := endsFrom_len_le P.opn 0
 have := h.n24; have := h.opn; unfold endsL; omega
theorem extraE_len (os : List Bool) (k j : Nat) : (extraE os k).length = (endsFrom os j).length := by
 induction os generalizing k j with
 | nil => rfl
 | cons o os ih =>
   unfold extraE endsFrom
   split
   ·exact ih _ _
   ·rw [List.length_cons, List.length_cons, ih (k+1) (j+1)]
theorem endsFrom_cons (o : Bool) (os : List Bool) (j : Nat) : endsFrom (o :: os) j = if o then endsFrom os (j+1) else j :: endsFrom os (j+1) := rfl
theorem extraR_cons (r : PRow) (rs : List PRow) (i : Nat) : extraR (r :: rs) i = (senX r.sense).map (fun x => (i, x)) ++ extraR rs (i+1) := rfl
theorem extraE_cons (o : Bool) (os : List Bool) (k : Nat) : extraE (o :: os) k = if o then extraE os k else (k, 1) :: extraE os (k+1) := rfl
theorem endsFrom_append (a b : List Bool) (j : Nat) : endsFrom (a ++ b) j = endsFrom a j ++ endsFrom b (j + a.length) := by
 induction a generalizing j with
 | nil => rfl
 | cons o a ih =>
   rw [List.cons_append, endsFrom_cons, endsFrom_cons, ih, List.length_cons, show j + 1 + a.length = j + (a.length + 1) by omega]
   split <;> rfl
theorem extraR_append (a b : List PRow) (i : Nat) : extraR (a ++ b) i = extraR a i ++ extraR b (i + a.length) := by
 induction a generalizing i with
 | nil => rfl
 | cons r a ih =>
   rw [List.cons_append, extraR_cons, extraR_cons, ih, List.length_cons, show i + 1 + a.length = i + (a.length + 1) by omega, List.append_assoc]
theorem extraE_append (a b : List Bool) (k : Nat) : extraE (a ++ b) k = extraE a k ++ extraE b (k + (endsFrom a 0).length) := by
 induction a generalizing k with
 | nil => rfl
 | cons o a ih =>
   have hl : ∀ j, (endsFrom a j).length = (endsFrom a 0).length := fun j => by rw [<- extraE_len a 0 j, <- extraE_len a 0 0]
   rw [List.cons_append, extraE_cons, extraE_cons, endsFrom_cons]
   split
   ·rw [ih, hl 1]
   ·rw [ih, List.length_cons, hl 1, show k + 1 + (endsFrom a 0).length = k + ((endsFrom a 0).length + 1) by omega]; rfl
theorem baseA_len (P : PLp) : (baseA P).length = P.rows.length + (endsL P).length := by unfold baseA; simp
theorem baseB_len (P : PLp) : (baseB P).length = P.rows.length + (endsL P).length := by unfold baseB; simp
theorem wideA_len (P : PLp) : (wideA P).length = P.rows.length + (endsL P).length := by unfold wideA; rw [List.length_map, List.length_range, baseA_len]
theorem stdA_len (P : PLp) : (stdA P).length = P.rows.length + (endsL P).length := by unfold stdA; rw [List.length_zipWith, wideA_len, baseB_len, Nat.min_self]
theorem stdB_len (P : PLp) : (stdB P).length = P.rows.length + (endsL P).length := by unfold stdB; rw [List.length_map, baseB_len]
theorem stdC_len (P : PLp) : (stdC P).length = P.cost.length + (extraL P).length := by unfold stdC; simp
theorem sgq_mul (b : Rat) : 0 <= b * sgq b := by unfold sgq; split <;> grind
end Go.Proofs.YtfokplidiboabaaGreat
namespace Go.Proofs.YtfokplidiboabaaGreat
theorem senX_cases (s : Int) : senX s = [1] ∨ senX s = [-1] ∨ senX s = [] := by unfold senX; split <;> (try split) <;> simp
theorem std_at {P : PLp} (i : Nat) (hi : i < (wideA P).length) : (stdA P).getD i [] = flipR ((wideA P).getD i []) ((baseB P).getD i 0) /\ (stdB P).getD i 0 = (baseB P).getD i 0 * sgq ((baseB P).getD i 0) := by
 have h2 : i < (baseB P).length := by rw [baseB_len, <- wideA_len]; exact hi
 constructor
 ·unfold stdA
  rw [List.getD_eq_getElem?_getD, List.getElem?_zipWith, List.getElem?_eq_getElem hi, List.getElem?_eq_getElem h2, List.getD_eq_getElem?_getD, List.getElem?_eq_getElem hi, List.getD_eq_getElem?_getD, List.getElem?_eq_getElem h2]; rfl
 ·unfold stdB
  rw [List.getD_eq_getElem?_getD, List.getElem?_map, List.getElem?_eq_getElem h2, List.getD_eq_getElem?_getD, List.getElem?_eq_getElem h2]; rfl
end Go.Proofs.YtfokplidiboabaaGreat
namespace Go.Proofs.YtfokplidiboabaaGreat
section
variable {P : PLp} {by_ : List Rat} (h : LpP P) (hb : by_.length = P.cost.length)
include h hb
end
theorem exRow_len (ex : List (Nat × Rat)) (i : Nat) (row : List Rat) : (exRow ex i row).length = row.length + ex.length := by unfold exRow; simp
theorem baseA_rows {P : PLp} (h : LpP P) : ∀ r ∈ baseA P, r.length = P.cost.length := by
 intro r hr
 unfold baseA at hr
 rcases List.mem_append.1 hr with hr | hr
 ·obtain ⟨x, hx, rfl⟩ := List.mem_map.1 hr; exact (h.rows x hx).1
 ·obtain ⟨j, hj, rfl⟩ := List.mem_map.1 hr; unfold unitL; simp
theorem wideA_rows {P : PLp} (h : LpP P) : ∀ r ∈ wideA P, r.length = P.cost.length + (extraL P).length := by
 intro r hr
 unfold wideA at hr
 obtain ⟨i, hi, rfl⟩ := List.mem_map.1 hr
 have hi := List.mem_range.1 hi
 rw [exRow_len, baseA_rows h _ (by rw [List.getD_eq_getElem?_getD, List.getElem?_eq_getElem hi]; exact List.getElem_mem hi)]
theorem stdA_rows {P : PLp} (h : LpP P) : ∀ r ∈ stdA P, r.length = P.cost.length + (extraL P).length := by
 intro r hr
 obtain ⟨i, hi⟩ := List.mem_iff_getElem?.1 hr
 unfold stdA at hi
 rw [List.getElem?_zipWith] at hi
 cases e1 : (wideA P)[i]? with
 | none => rw [e1] at hi; cases hi
 | some a =>
   cases e2 : (baseB P)[i]? with
   | none => rw [e1, e2] at hi; cases hi
   | some b =>
     rw [e1, e2] at hi; injection hi with hi; subst hi
     unfold flipR; rw [List.length_map]; exact wideA_rows h a (List.mem_of_getElem? e1)
theorem std_right {P : PLp} (h : LpP P) : rightB (stdA P) (stdB P) (stdC P) true = true := by
 have h1 := extraL_len_le h; have h2 := endsL_len_le h; have h3 := h.rl; have h4 := h.n24
 unfold rightB
 rw [stdA_len, stdB_len, stdC_len, decide_eq_true (by omega), decide_eq_true (by omega), decide_eq_true rfl]
 have e1 : rectB (stdA P) (P.cost.length + (extraL P).length) = true := by
  unfold rectB; rw [List.all_eq_true]; intro r hr; simpa using stdA_rows h r hr
 have e2 : (stdB P).any (fun x => decide (x < 0)) = false := by
  rw [List.any_eq_false]
  intro x hx
  unfold stdB at hx
  obtain ⟨b, -, rfl⟩ := List.mem_map.1 hx
  have := sgq_mul b
  simp only [decide_eq_true_eq]; grind
 rw [e1, e2]; rfl
end Go.Proofs.YtfokplidiboabaaGreat
namespace Go.Proofs.YtfokplidiboabaaGreat
open Go.RowKit
theorem list_of {α : Type} {Q : Nat -> α -> Prop} : ∀ (n : Nat), (∀ i, i < n -> ∃ x, Q i x) -> ∃ l : List α, l.length = n /\ ∀ (i : Nat) x, l[i]? = some x -> Q i x := by
 intro n
 induction n with
 | zero => intro _; exact ⟨[], rfl, fun i x h => by simp at h⟩
 | succ n ih =>
   intro h
   obtain ⟨l, h1, h2⟩ := ih fun i hi => h i (by omega)
   obtain ⟨x, hx⟩ := h n (by omega)
   refine ⟨l ++ [x], by simp [h1], fun i y hy => ?_⟩
   by_cases hi : i < l.length
   ·rw [List.getElem?_append_left hi] at hy; exact h2 i y hy
   ·rw [List.getElem?_append_right (by omega)] at hy
    have : i - l.length = 0 := by have := (List.getElem?_eq_some_iff.1 hy).1; simp at this; omega
    rw [this] at hy
    simp at hy; subst hy
    rwa [show i = n by omega]
def IFit_ (z : Int) : Prop := -9223372036854775808 <= z /\ z < 9223372036854775808
structure RCells where
 a : Bool
 A : Option Addr
 n : Nat
 c : Nat
 a' : Bool
 A' : Option Addr
 n' : Nat
 c' : Nat
def RCells.cells (e : RCells) : List Value := [.bool e.a, .slice e.A e.n e.c, .bool e.a', .slice e.A' e.n' e.c']
def RCells.val (e : RCells) : Value := .agg #[.bool e.a, .slice e.A e.n e.c, .bool e.a', .slice e.A' e.n' e.c']
structure WCells where
 A : Option Addr
 n : Nat
 c : Nat
 e : RCells
def WCells.coef (r : WCells) : Value := .slice r.A r.n r.c
def WCells.cells (r : WCells) (s : Int) : List Value := [.slice r.A r.n r.c, .int .i64 s, .bool r.e.a, .slice r.e.A r.e.n r.e.c, .bool r.e.a', .slice r.e.A' r.e.n' r.e.c']
abbrev RowE := World -> WCells -> PRow -> Prop
def LRows (E : RowE) (w : World) (v : Value) (l : List PRow) : Prop :=
 ∃ A c, v = .slice A l.length c /\ l.length <= c /\ c <= maxLen /\ ∀ (i : Nat) x, l[i]? = some x -> ∃ b off, A = some ⟨b, off, none⟩ /\ ∃ r : WCells, (∀ (j : Nat) u, (r.cells x.sense)[j]? = some u -> w.cell? ⟨b, off + i * 6 + j, none⟩ = some u) /\ E w r x
section
variable {E : RowE} {w w' : World} {v : Value} {l : List PRow}
theorem LRows.later (hE : ∀ w w' r x, E w r x -> Later w w' -> E w' r x) (h : LRows E w v l) (hb : Later w w') : LRows E w' v l := by
 obtain ⟨A, c, e, h1, h2, h3⟩ := h
 refine ⟨A, c, e, h1, h2, fun i x hi => ?_⟩
 obtain ⟨b, off, ha, r, hx, he⟩ := h3 i x hi
 exact ⟨b, off, ha, r, fun j u hj => Later.cell hb (hx j u hj), hE _ _ _ _ he hb⟩
theorem LRows.form (h : LRows E w v l) : ∃ A n c, v = .slice A n c /\ n = l.length /\ n <= c /\ c <= maxLen /\ LRows E w (.slice A n c) l := by
 obtain ⟨A, c, rfl, h1, h2, h3⟩ := id h
 exact ⟨A, _, c, rfl, rfl, h1, h2, h⟩
theorem LRows.len_ {A : Option Addr} {n c : Nat} (h : LRows E w (.slice A n c) l) : n = l.length := by
 obtain ⟨_, _, _, e, hn, -⟩ := h.form
 injection e with _ e _; omega
theorem LRows.at_ {A : Option Addr} {n c : Nat} (h : LRows E w (.slice A n c) l) {i : Nat} {x : PRow} (hi : l[i]? = some x) : ∃ b off, A = some ⟨b, off, none⟩ /\ ∃ r : WCells, (∀ (j : Nat) u, (r.cells x.sense)[j]? = some u -> w.cell? ⟨b, off + i * 6 + j, none⟩ = some u) /\ E w r x := by
 obtain ⟨A', c', e, -, -, h3⟩ := h
 injection e with e1 e2 e3
 subst e1
 exact h3 i x hi
theorem LRows.at6 {A : Option Addr} {n c : Nat} (h : LRows E w (.slice A n c) l) {i : Nat} {x : PRow} (hi : l[i]? = some x) : ∃ b off, A = some ⟨b, off, none⟩ /\ ∃ r : WCells,
 w.cell? ⟨b, off + i * 6, none⟩ = some (.slice r.A r.n r.c) /\ w.cell? ⟨b, off + i * 6 + 1, none⟩ = some (.int .i64 x.sense) /\ w.cell? ⟨b, off + i * 6 + 2, none⟩ = some (.bool r.e.a) /\ w.cell? ⟨b, off + i * 6 + 3, none⟩ = some (.slice r.e.A r.e.n r.e.c) /\ w.cell? ⟨b, off + i * 6 + 4, none⟩ = some (.bool r.e.a') /\ w.cell? ⟨b, off + i * 6 + 5, none⟩ = some (.slice r.e.A' r.e.n' r.e.c') /\ E w r x := by
 obtain ⟨b, off, ha, r, h1, h2⟩ := h.at_ hi
 exact ⟨b, off, ha, r, h1 0 _ rfl, h1 1 _ rfl, h1 2 _ rfl, h1 3 _ rfl, h1 4 _ rfl, h1 5 _ rfl, h2⟩
theorem LRows.nil (E : RowE) (w : World) : LRows E w (.slice none 0 0) [] := ⟨none, 0, rfl, by simp, by decide, fun i x hi => by simp at hi⟩
theorem LRows.map {E' : RowE} (h : LRows E w v l) (hE : ∀ r x, x ∈ l -> E w r x -> E' w r x) : LRows E' w v l := by
 obtain ⟨A, c, e, h1, h2, h3⟩ := h
 refine ⟨A, c, e, h1, h2, fun i x hi => ?_⟩
 obtain ⟨b, off, ha, r, hx, he⟩ := h3 i x hi
 exact ⟨b, off, ha, r, hx, hE r x (List.mem_of_getElem? hi) he⟩
end
structure ERowS (k : Nat) (w : World) (r : WCells) (x : PRow) : Prop where
 coef : Rats (ERaw k) w r.coef x.coef
 rhs : RawR w r.e.val x.rhs k
 cl : x.coef.length <= 1000
 sfit : IFit_ x.sense
 flags : ∃ fc fr, Rats EFlag w r.coef fc /\ EFlag w r.e.val fr /\ x.f = (allF fc && allF [fr])
def ERow (k : Nat) : RowE := fun w r x => ERowS k w r x
theorem ERow.later {k : Nat} (w w' : World) (r : WCells) (x : PRow) (h : ERow k w r x) (hb : Later w w') : ERow k w' r x := by
 obtain ⟨fc, fr, h1, h2, h3⟩ := h.flags
 exact { coef := h.coef.later ERaw.later hb, rhs := h.rhs.later hb, cl := h.cl, sfit := h.sfit, flags := ⟨fc, fr, h1.later EFlag.later hb, EFlag.later _ _ _ _ h2 hb, h3⟩ }
def Bools (w : World) (v : Value) (l : List Bool) : Prop :=
 ∃ A c, v = .slice A l.length c /\ l.length <= c /\ c <= maxLen /\ ∀ (i : Nat) x, l[i]? = some x -> ∃ b off, A = some ⟨b, off, none⟩ /\ w.cell? ⟨b, off + i, none⟩ = some (.bool x)
section
variable {w w' : World} {v : Value} {l : List Bool}
theorem Bools.later (h : Bools w v l) (hb : Later w w') : Bools w' v l := by
 obtain ⟨A, c, e, h1, h2, h3⟩ := h
 refine ⟨A, c, e, h1, h2, fun i x hi => ?_⟩
 obtain ⟨b, off, ha, hx⟩ := h3 i x hi
 exact ⟨b, off, ha, Later.cell hb hx⟩
theorem Bools.form (h : Bools w v l) : ∃ A n c, v = .slice A n c /\ n = l.length /\ n <= c /\ c <= maxLen /\ Bools w (.slice A n c) l := by
 obtain ⟨A, c, rfl, h1, h2, h3⟩ := id h
 exact ⟨A, _, c, rfl, rfl, h1, h2, h⟩
theorem Bools.len_ {A : Option Addr} {n c : Nat} (h : Bools w (.slice A n c) l) : n = l.length := by
 obtain ⟨_, _, _, e, hn, -⟩ := h.form
 injection e with _ e _; omega
theorem Bools.at_ {A : Option Addr} {n c : Nat} (h : Bools w (.slice A n c) l) {i : Nat} {x : Bool} (hi : l[i]? = some x) : ∃ b off, A = some ⟨b, off, none⟩ /\ w.cell? ⟨b, off + i, none⟩ = some (.bool x) := by
 obtain ⟨A', c', e, -, -, h3⟩ := h
 injection e with e1 e2 e3
 subst e1
 exact h3 i x hi
end
structure LpIn (w : World) (vC vR vL vH vO : Value) (k : Nat) (P : PLp) : Prop where
 cost : Rats (ERaw k) w vC P.cost
 rows : LRows (ERow k) w vR P.rows
 lo : Rats (ERaw k) w vL P.lo
 hi : Rats (ERaw k) w vH P.hi
 opn : Bools w vO P.opn
 flags : ∃ fC fL fH, Rats EFlag w vC fC /\ Rats EFlag w vL fL /\ Rats EFlag w vH fH /\ P.f = (allF fC && (allF fL && allF fH))
 kk : k <= 1000
 cl : P.cost.length <= 1000
 rl : P.rows.length <= 1000
 ll : P.lo.length <= 1000
 hl : P.hi.length <= 1000
 ol : P.opn.length <= 1000
theorem LpIn.later {w w' : World} {vC vR vL vH vO : Value} {k : Nat} {P : PLp} (h : LpIn w vC vR vL vH vO k P) (hb : Later w w') : LpIn w' vC vR vL vH vO k P := by
 obtain ⟨fC, fL, fH, h1, h2, h3, h4⟩ := h.flags
 exact { h with cost := h.cost.later ERaw.later hb, rows := h.rows.later ERow.later hb, lo := h.lo.later ERaw.later hb, hi := h.hi.later ERaw.later hb, opn := h.opn.later hb,
                flags := ⟨fC, fL, fH, h1.later EFlag.later hb, h2.later EFlag.later hb, h3.later EFlag.later hb, h4⟩ }
theorem LpIn.form {w : World} {vC vR vL vH vO : Value} {k : Nat} {P : PLp} (h : LpIn w vC vR vL vH vO k P) : ∃ A1 n1 c1 A2 n2 c2 A3 n3 c3 A4 n4 c4 A5 n5 c5, vC = .slice A1 n1 c1 /\ vR = .slice A2 n2 c2 /\ vL = .slice A3 n3 c3 /\ vH = .slice A4 n4 c4 /\ vO = .slice A5 n5 c5 /\
 n1 = P.cost.length /\ n2 = P.rows.length /\ n3 = P.lo.length /\ n4 = P.hi.length /\ n5 = P.opn.length := by
 obtain ⟨A1, n1, c1, rfl, e1, -⟩ := h.cost.form
 obtain ⟨A2, n2, c2, rfl, e2, -⟩ := h.rows.form
 obtain ⟨A3, n3, c3, rfl, e3, -⟩ := h.lo.form
 obtain ⟨A4, n4, c4, rfl, e4, -⟩ := h.hi.form
 obtain ⟨A5, n5, c5, rfl, e5, -⟩ := h.opn.form
 exact ⟨_, _, _, _, _, _, _, _, _, _, _, _, _, _, _, rfl, rfl, rfl, rfl, rfl, e1, e2, e3, e4, e5⟩
end Go.Proofs.YtfokplidiboabaaGreat
namespace Go.Proofs.YtfokplidiboabaaGreat
open Go.RowKit
section
variable {F : Fence} {n : Nat} {P : Program}
def goesOn {α : Type} (B : Nat) (Kp : World -> World -> Prop) (I : List α -> World -> Prop) (xs : List α) (W : World) : Exit -> Act -> World -> Prop
 | .normal, _, W' => KeepsFrom B W W' /\ Kp W W' /\ I xs W'
 | _, _, _ => False
def Hands {α : Type} (F : Fence) (n : Nat) (P : Program) (g : Nat) (lb : Array Value) (encs : α -> Array Value) (G : α -> World -> Prop) (Kp : World -> World -> Prop) (S : List α -> Prop) (N : Nat) (w : World) : Prop :=
 ∀ (l : Nat) (J : List α -> World -> Prop) (W : World), Below w.heap.size w W -> AbidesFrom W.heap.size J ->
   (∀ pre x W1, J pre W1 -> G x W1 -> pre.length < N -> YieldAt F (n - 1) P l (encs x) W1 fun e W' => e = .returned (.bool true) /\ J (pre ++ [x]) W' /\ Kp W1 W') -> J [] W ->
   CallsIn F n P g (#[.func (.yield l) #[] #[]] ++ lb) W fun e W' => (∃ v, e = .returned v) /\ ∃ xs, S xs /\ J xs W'
def Busy (B l : Nat) (W W2 : World) : Prop := B <= l /\ ∃ o o', W.heap[l]? = some o /\ o.isCells = false /\ o.isWalk = false /\ W2 = W.putObj l o'
theorem Busy.own {β : Type} {B l : Nat} {W W2 : World} {I : β -> World -> Prop} (h : Busy B l W W2) (hI : OwnFrom B I) {s : β} (hs : I s W) : I s W2 := by
 obtain ⟨hl, o, o', h1, h2, h3, rfl⟩ := h
 exact hI.putObj o' hs hl h1 h2
theorem Busy.row {B l : Nat} {W W2 : World} {g : Nat} {t : TypeId} {cs : List Value} (h : Busy B l W W2) (r : Row W g t cs) : Row W2 g t cs := by
 obtain ⟨hl, o, o', h1, h2, h3, rfl⟩ := h
 refine (World.putObj_heap_other (fun e => ?_)).trans r
 subst e
 rw [r] at h1; injection h1 with h1; subst h1; cases h2
theorem range_each {α : Type} {g : Operand} {ps : Array Tmp} {assign body : Code} {Q : Exit -> Act -> World -> Prop} {a : Act} {w : World}
 (hro : F.round = none) (h1 : 1 <= n) {gf : Nat} {lb : Array Value} (hg : a.eval g = .func (.func gf) #[] lb) (hFg : F.fn gf) (eg : ∀ args w, (callFunc gf args).run P w = .ok (.enter gf args) w)
 (encs : α -> Array Value) (G : α -> World -> Prop) (Kp : World -> World -> Prop) (S : List α -> Prop) (N : Nat) (hseq : Hands F (n - 1) P gf lb encs G Kp S N w)
 (hKt : ∀ {A B C : World}, Kp A B -> Kp B C -> Kp A C) (hKb : ∀ (W : World) (l : Nat) (o o' : Obj), w.heap.size <= l -> W.heap[l]? = some o -> o.isCells = false -> o.isWalk = false -> Kp W (W.putObj l o')) (hps : ∀ x, (encs x).size = ps.size)
 (I : List α -> World -> Prop) (hI : OwnFrom w.heap.size I) (h0 : I [] w)
 (hround : ∀ (l : Nat) (pre : List α) (x : α) (W : World), w.heap.size <= l -> I pre W -> G x W -> pre.length < N ->
  assign.wpIn (F.inRound l) (n - 1 - 1) P (Exit.then (fun a' W' => KeepsFrom w.heap.size W W' /\ Kp W W' /\ ∀ W2, Busy w.heap.size l W' W2 -> body.wpIn (F.inRound l) (n - 1 - 1) P (goesOn w.heap.size Kp I (pre ++ [x]) W2) a' W2) (fun _ _ _ => False)) { tmps := (ps.zip (encs x)).foldl (fun t (p, v) => t.setIfInBounds p v) a.tmps, defers := [] } W)
 (hdone : ∀ (D : Nat) (xs : List α) (W : World), w.heap.size <= D -> S xs -> I xs W -> W.heap[D]? = some (.deferred (some [])) -> Q .normal { a with defers := { target := .collected D, args := #[] } :: a.defers } W) :
 (Code.rangeFunc g ps assign body).wpIn F n P Q a w := by
 refine wpIn_rangeFunc fun fn hfn => ?_
 rw [hro]
 obtain ⟨rc, hrc⟩ : ∃ rc : LoopState -> Loop, rc = fun st => { state := st, pending := none, fn, tmps := a.tmps, params := ps, assign, body, defers := w.heap.size } := ⟨_, rfl⟩
 obtain ⟨V, hV⟩ : ∃ V, V = (w.alloc (.deferred (some []))).alloc (.loop (rc .ready)) := ⟨_, rfl⟩
 have vl : V.heap[w.heap.size + 1]? = some (.loop (rc .ready)) := by
  have := World.alloc_heap_new (w.alloc (.deferred (some []))) (.loop (rc .ready))
  rw [World.size_alloc] at this; rw [hV]; exact this
 have vd : V.heap[w.heap.size]? = some (.deferred (some [])) := by
  rw [hV]; exact (Below.heap_alloc _ _ _ (by simp)).trans (World.alloc_heap_new w _)
 have vI : I [] V := by rw [hV]; exact hI.alloc _ (hI.alloc _ h0)
 have vb : Below w.heap.size w V := by rw [hV]; exact ((Below.refl _ w).alloc (Nat.le_refl _) _).alloc (by simp) _
 have vs : w.heap.size <= V.heap.size := vb.size
 refine ⟨w.heap.size + 1, [{ target := .collected w.heap.size, args := #[] }], V, { target := .fn (.func gf) lb, args := #[.func (.yield (w.heap.size + 1)) #[] #[]] }, V, gf, #[.func (.yield (w.heap.size + 1)) #[] #[]] ++ lb, V, ?_, ?_, ?_, ?_, fun _ => h1, ?_⟩
 ·rw [hV, hrc]; exact run_enterLoop_outer _ _ _ _ _
 ·simp only [resolve, hg]; simp [go_sem]
 ·intro f' hf'; simp [Target.leads] at hf'; subst hf'; exact hFg
 ·simp [invoke, go_sem, eg]
 refine (hseq (w.heap.size + 1) (fun pre W => I pre W /\ W.heap[w.heap.size + 1]? = some (.loop (rc .ready)) /\ W.heap[w.heap.size]? = some (.deferred (some []))) V vb ?_ ?_ ⟨vI, vl, vd⟩).mono ?_
 ·intro s A B row hs hgr hr
  have hr2 : ∀ r, row = some r -> ∃ o : Obj, A.heap[r]? = some o /\ o.isWalk = true := fun r e => (hr r e).2
  refine ⟨hI s A B row hs.1 hgr fun r e => ?_, (grownBy_keeps hgr hr2 hs.2.1 rfl).trans hs.2.1, (grownBy_keeps hgr hr2 hs.2.2 rfl).trans hs.2.2⟩
  obtain ⟨hB, o, ho, hw⟩ := hr r e
  exact ⟨by omega, o, ho, Obj.not_cells_of_walk hw⟩
 ·rintro pre x W ⟨hi, hl, hd⟩ hx hlen
  have hy := run_yield (P := P) (args := encs x) hl (by rw [hrc]; exact hps x)
  rw [hrc] at hy
  refine ⟨fn, _, assign, body, hy, roundIn_of_wpIn hfn (wpIn_mono (hround _ pre x W (by omega) hi hx hlen) ?_)⟩
  intro e a1 W1 he
  cases e with
  | normal =>
    obtain ⟨kf1, kp1, m1⟩ := he
    have l1 := kf1.same _ _ (by omega) hl rfl
    have d1 := kf1.same _ _ (Nat.le_refl _) hd rfl
    have lt1 : w.heap.size + 1 < W1.heap.size := (Array.getElem?_eq_some_iff.1 l1).1
    refine ⟨_, run_beginRound l1 (by rw [hrc]), ?_⟩
    obtain ⟨W2, hW2⟩ : ∃ W2, W2 = W1.putObj (w.heap.size + 1) (.loop { rc .ready with state := .busy }) := ⟨_, rfl⟩
    have l2 : W2.heap[w.heap.size + 1]? = some (.loop { rc .ready with state := .busy }) := by rw [hW2]; exact World.putObj_heap_same lt1
    have d2 : W2.heap[w.heap.size]? = some (.deferred (some [])) := by rw [hW2]; exact (World.putObj_heap_other (by omega)).trans d1
    have k2 : Kp W1 W2 := by rw [hW2]; exact hKb _ _ _ _ (by omega) l1 rfl rfl
    have m2 := m1 W2 ⟨by omega, _, _, l1, rfl, rfl, hW2⟩
    rw [<- hW2]
    refine wpIn_mono m2 ?_
    intro e3 a3 W3 h3
    cases e3 with
    | normal =>
      obtain ⟨kf3, kp3, i3⟩ := h3
      have l3 := kf3.same _ _ (by omega) l2 rfl
      have d3 := kf3.same _ _ (Nat.le_refl _) d2 rfl
      have hr := run_endRound (P := P) none l3
      refine ⟨_, _, hr, rfl, ⟨hI.putObj _ i3 (by omega) l3 rfl, ?_, (World.putObj_heap_other (by omega)).trans d3⟩, hKt kp1 (hKt (hKt k2 kp3) (hKb _ _ _ _ (by omega) l3 rfl rfl))⟩
      rw [World.putObj_heap_same (Array.getElem?_eq_some_iff.1 l3).1, hrc]; rfl
    | ret => exact h3.elim
    | exit id => exact h3.elim
    | goto t => exact h3.elim
    | panic ch => exact h3.elim
    | outgrown => exact h3.elim
  | ret => exact he.elim
  | exit id => exact he.elim
  | goto t => exact he.elim
  | panic ch => exact he.elim
  | outgrown => exact he.elim
 ·rintro e W2 ⟨⟨v, rfl⟩, xs, hS, hi, hl, hd⟩
  have hr := run_endLoop (P := P) hl (by rw [hrc]; simp)
  refine ⟨none, _, by rw [hrc] at hr; exact hr, hdone w.heap.size xs _ (Nat.le_refl _) hS (hI.putObj _ hi (by omega) hl rfl) ((World.putObj_heap_other (by omega)).trans hd)⟩
end
end Go.Proofs.YtfokplidiboabaaGreat
namespace Go.Proofs.YtfokplidiboabaaGreat
open Go.RowKit Go.Shelf
theorem Row.newAt {w : World} {t : TypeId} {cs : List Value} {g : Nat} (hg : w.heap.size = g) : Row (w.alloc (.cells cs.toArray t)) g t cs := by subst hg; exact Row.new _ _ _
theorem ownsRow_apart {w w' : World} {B g : Nat} {e T : TypeId} {size n : Nat} {v : Value} {xs cs : List Value} (h : w.ownsRow B e size v n xs) (o : Only g w w') (r : Row w g T cs) (hT : T ≠ e) : w'.ownsRow B e size v n xs := by
 obtain ⟨h2, h3⟩ := h
 refine ⟨h2, ?_⟩
 rcases h3 with h3 | ⟨k, cap, cur, hv, hb, hg, rest⟩
 ·exact .inl h3
 ·refine .inr ⟨k, cap, cur, hv, hb, ?_, rest⟩
  refine (o.block k (fun ek => ?_)).trans hg
  subst ek
  rw [r] at hg
  injection hg with hg; injection hg with _ hg _
  exact hT hg
theorem OwnR.apart {w w' : World} {B g : Nat} {v : Value} {q : Rat} {cs : List Value} (h : OwnR w B v q) (o : Only g w w') (r : Row w g 36 cs) : OwnR w' B v q := by
 obtain ⟨A, n, c, A', n', c', e, h1, h2⟩ := h
 have hT : 36 ≠ 160 := by decide
 exact ⟨A, n, c, A', n', c', e, ⟨h1.1, ownsRow_apart h1.2 o r hT⟩, ⟨h2.1, ownsRow_apart h2.2 o r hT⟩⟩
def U32B (w : World) (b : Nat) : Prop := ∃ cs z, w.heap[b]? = some (.cells cs 160 z)
theorem U32B.lt {w : World} {b : Nat} (h : U32B w b) : b < w.heap.size := by
 obtain ⟨cs, z, h⟩ := h; exact (Array.getElem?_eq_some_iff.1 h).1
theorem U32B.of_eq {w w' : World} {b : Nat} (h : U32B w b) (e : w'.heap[b]? = w.heap[b]?) : U32B w' b := by
 obtain ⟨cs, z, h⟩ := h; exact ⟨cs, z, e.trans h⟩
theorem U32B.ne {w : World} {b g : Nat} {T : TypeId} {cs : List Value} (h : U32B w b) (r : Row w g T cs) (hT : T ≠ 160) : b ≠ g := by
 rintro rfl
 obtain ⟨cs', z, h⟩ := h
 rw [r] at h; injection h with h; injection h with _ h _; exact hT h
theorem U32B.ne_own {w : World} {b lo size n : Nat} {T : TypeId} {v : Value} {xs : List Value} (h : U32B w b) (k : w.ownsRow lo T size v n xs) (hT : T ≠ 160) : some b ≠ v.ownBlock := by
 obtain ⟨-, k2⟩ := k
 rcases k2 with ⟨rfl, -⟩ | ⟨g, c, cur, rfl, -, hg, -⟩
 ·intro e; cases e
 ·intro e; injection e with e; subst e
  exact h.ne (g := b) (T := T) (cs := cur.toList) hg hT rfl
theorem tRat_u32 : 36 ≠ 160 := by decide
def KeepU (w w' : World) : Prop := w.heap.size <= w'.heap.size /\ ∀ b, U32B w b -> w'.heap[b]? = w.heap[b]?
theorem KeepU.refl (w : World) : KeepU w w := ⟨Nat.le_refl _, fun _ _ => rfl⟩
theorem KeepU.trans {a b c : World} (h : KeepU a b) (k : KeepU b c) : KeepU a c := ⟨Nat.le_trans h.1 k.1, fun x hx => (k.2 x (hx.of_eq (h.2 x hx))).trans (h.2 x hx)⟩
theorem KeepU.later {w w' : World} (h : Later w w') : KeepU w w' := ⟨h.size, fun b hb => h.block b hb.lt⟩
theorem KeepU.only {w w' : World} {g : Nat} {T : TypeId} {cs : List Value} (o : Only g w w') (r : Row w g T cs) (hT : T ≠ 160) : KeepU w w' := ⟨by rw [o.size]; exact Nat.le_refl _, fun b hb => o.block b (hb.ne r hT)⟩
theorem KeepU.grown {w w' : World} {lo size n : Nat} {T : TypeId} {v : Value} {xs : List Value} (hg : w.grownBy w' v.ownBlock) (k : w.ownsRow lo T size v n xs) (hT : T ≠ 160) : KeepU w w' := ⟨hg.size, fun b hb => hg.block b hb.lt (hb.ne_own k hT)⟩
theorem Own32.onU {w : World} {B : Nat} {v : Value} {l : List Nat} (h : Own32 160 w B v l) : On w (U32B w) (fun W => Own32 160 W 0 v l) := by
 obtain ⟨h1, h2, h3⟩ := h
 rcases h3 with h3 | ⟨g, cap, cur, rfl, hb, hg, r⟩
 ·exact On.pure fun W => ⟨h1, h2, .inl h3⟩
 ·exact On.of_row (cs := cur.toList) (t := 160) hg ⟨_, _, hg⟩ fun W hW => ⟨h1, h2, .inr ⟨g, cap, cur, rfl, Nat.zero_le _, hW, r⟩⟩
theorem OwnR.onU {w : World} {B : Nat} {v : Value} {q : Rat} (h : OwnR w B v q) : On w (U32B w) (fun W => OwnR W 0 v q) := by
 obtain ⟨A, n, c, A', n', c', e, h1, h2⟩ := h
 exact (h1.onU.and h2.onU).map fun W h => ⟨A, n, c, A', n', c', e, h.1, h.2⟩
theorem On.keepU {w w' : World} {T : World -> Prop} (h : On w (U32B w) T) (k : KeepU w w') : On w' (U32B w') T := by
 obtain ⟨F, f1, f2⟩ := h
 exact ⟨F, fun b hb => ⟨(f1 b hb).1.of_eq (k.2 b (f1 b hb).1), Nat.lt_of_lt_of_le (f1 b hb).2 k.1⟩, fun W hW => f2 W fun b hb => (hW b hb).trans (k.2 b (f1 b hb).1)⟩
theorem OwnR.keepU {w w' : World} {B : Nat} {v : Value} {q : Rat} (h : OwnR w B v q) (k : KeepU w w') : OwnR w' 0 v q := (h.onU.keepU k).now
def RowU (w : World) (lo : Nat) (v : Value) (l : List Rat) : Prop := OutRats EOwn w (U32B w) lo v l
section
variable {w w' : World} {lo : Nat} {v : Value} {l : List Rat}
theorem RowU.nil (w : World) (lo : Nat) : RowU w lo (.slice none 0 0) [] := OutRats.nil _ _ _ _
theorem RowU.owns (h : RowU w lo v l) : ∃ xs, w.ownsRow lo 36 4 v l.length xs := by
 obtain ⟨es, h1, h2, -⟩ := h; exact ⟨_, h2⟩
theorem RowU.keep (h : RowU w lo v l) (k : KeepU w w') (hv : ∀ g, v.ownBlock = some g -> w'.heap[g]? = w.heap[g]?) : RowU w' lo v l := by
 obtain ⟨es, h1, h2, h3, h4⟩ := h
 refine ⟨es, h1, ?_, h3, ?_⟩
 ·obtain ⟨k1, k2⟩ := h2
  refine ⟨k1, ?_⟩
  rcases k2 with k2 | ⟨g, cap, cur, rfl, hb, hg, r⟩
  ·exact .inl k2
  ·exact .inr ⟨g, cap, cur, rfl, hb, (hv g rfl).trans hg, r⟩
 ·obtain ⟨F, f1, f2⟩ := h4
  exact ⟨F, fun b hb => ⟨⟨(f1 b hb).1.1.of_eq (k.2 b (f1 b hb).1.1), (f1 b hb).1.2⟩, Nat.lt_of_lt_of_le (f1 b hb).2 k.1⟩, fun W hW => f2 W fun b hb => (hW b hb).trans (k.2 b (f1 b hb).1.1)⟩
theorem RowU.later (h : RowU w lo v l) (hb : Later w w') : RowU w' lo v l := h.keep (KeepU.later hb) fun g hg => hb.block g (OutRats.lt h g hg).2
theorem RowU.only {g : Nat} {T : TypeId} {cs : List Value} (h : RowU w lo v l) (o : Only g w w') (r : Row w g T cs) (h1 : T ≠ 160) (h2 : T ≠ 36) : RowU w' lo v l := by
 refine h.keep (KeepU.only o r h1) fun k hk => o.block k ?_
 rintro rfl
 obtain ⟨xs, -, k2⟩ := h.owns
 rcases k2 with ⟨rfl, -⟩ | ⟨g', c, cur, rfl, -, hg, -⟩
 ·cases hk
 ·injection hk with hk; subst hk
  rw [r] at hg; injection hg with hg; injection hg with _ hg _; exact h2 hg
theorem RowU.weaken {lo' : Nat} (h : RowU w lo v l) (hl : lo' <= lo) : RowU w lo' v l := by
 obtain ⟨es, h1, ⟨k1, k2⟩, h3⟩ := h
 refine ⟨es, h1, ⟨k1, ?_⟩, h3⟩
 rcases k2 with k2 | ⟨g, cap, cur, rfl, hb, r⟩
 ·exact .inl k2
 ·exact .inr ⟨g, cap, cur, rfl, Nat.le_trans hl hb, r⟩
theorem RowU.rats (h : RowU w lo v l) : Rats EOwn w v l := (OutRats.rats h).now
theorem RowU.grew {v' : Value} {l' : List Rat} (h : RowU w lo v l) (k : OutRats EOwn w' (U32B w) lo v' l') (hg : w.grownBy w' v.ownBlock) : RowU w' lo v' l' := by
 obtain ⟨xs, hx⟩ := h.owns
 have hk := KeepU.grown hg hx tRat_u32
 exact OutRats.mono k fun b hb _ => hb.of_eq (hk.2 b hb)
theorem RowU.elem {B : Nat} {u : Value} {q : Rat} (h : RowU w lo v l) (o : OwnR w B u q) : On w (fun b => U32B w b /\ some b ≠ v.ownBlock) (fun W => EOwn W u q) := by
 obtain ⟨xs, hx⟩ := h.owns
 exact o.onU.mono fun b hb _ => ⟨hb, hb.ne_own hx tRat_u32⟩
end
structure TabU (w : World) (lo : Nat) (hs : List Value) (t : List (List Rat)) : Prop where
 len : hs.length = t.length
 row : ∀ (i : Nat) v l, hs[i]? = some v -> t[i]? = some l -> RowU w lo v l
 apart : ∀ (i j : Nat) v v', i ≠ j -> hs[i]? = some v -> hs[j]? = some v' -> ∀ k, v.ownBlock = some k -> v'.ownBlock ≠ some k
section
variable {w w' : World} {lo : Nat} {hs : List Value} {t : List (List Rat)}
theorem TabU.nil (w : World) (lo : Nat) : TabU w lo [] [] := ⟨rfl, fun i v l h => by simp at h, fun i j v v' _ h => by simp at h⟩
theorem TabU.later (h : TabU w lo hs t) (hb : Later w w') : TabU w' lo hs t := ⟨h.len, fun i v l h1 h2 => (h.row i v l h1 h2).later hb, h.apart⟩
theorem TabU.only {g : Nat} {T : TypeId} {cs : List Value} (h : TabU w lo hs t) (o : Only g w w') (r : Row w g T cs) (h1 : T ≠ 160) (h2 : T ≠ 36) : TabU w' lo hs t := ⟨h.len, fun i v l e1 e2 => (h.row i v l e1 e2).only o r h1 h2, h.apart⟩
theorem TabU.put {i : Nat} {v v' : Value} {l' : List Rat} (h : TabU w lo hs t) (hi : hs[i]? = some v) (hnew : RowU w' lo v' l') (hg : w.grownBy w' v.ownBlock) (hk : KeepU w w') (hv : v'.ownBlock = v.ownBlock ∨ ∀ k, v'.ownBlock = some k -> w.heap.size <= k) : TabU w' lo (hs.set i v') (t.set i l') := by
 have hil := (List.getElem?_eq_some_iff.1 hi).1
 have oth : ∀ (j : Nat) (u : Value) (k : Nat), j ≠ i -> hs[j]? = some u -> u.ownBlock = some k -> v.ownBlock ≠ some k /\ k < w.heap.size := fun j u k hj hu hk => by
  refine ⟨fun e => h.apart i j v u (Ne.symm hj) hi hu k e hk, ?_⟩
  have hjl := (List.getElem?_eq_some_iff.1 hu).1
  exact (OutRats.lt (h.row j u _ hu (List.getElem?_eq_getElem (by rw [<- h.len]; exact hjl))) k hk).2
 have oth2 : ∀ (j : Nat) (u : Value) (k : Nat), j ≠ i -> hs[j]? = some u -> u.ownBlock = some k -> v'.ownBlock ≠ some k := fun j u k hj hu hk e => by
  obtain ⟨o1, o2⟩ := oth j u k hj hu hk
  rcases hv with hv | hv
  ·rw [hv] at e; exact o1 e
  ·have := hv k e; omega
 refine ⟨by rw [List.length_set, List.length_set]; exact h.len, fun j u l e1 e2 => ?_, fun j m u u' hjm e1 e2 k hk1 => ?_⟩
 ·by_cases hj : j = i
  ·subst hj
   rw [List.getElem?_set_self hil] at e1
   rw [List.getElem?_set_self (by rw [<- h.len]; exact hil)] at e2
   injection e1 with e1; injection e2 with e2
   subst e1 e2; exact hnew
  ·rw [List.getElem?_set_ne (Ne.symm hj)] at e1 e2
   exact (h.row j u l e1 e2).keep hk fun k hk' => by
    obtain ⟨o1, o2⟩ := oth j u k hj e1 hk'
    exact hg.block k o2 (fun e => o1 e.symm)
 ·by_cases hj : j = i
  ·subst hj
   rw [List.getElem?_set_self hil] at e1
   rw [List.getElem?_set_ne hjm] at e2
   injection e1 with e1; subst e1
   intro e3; exact oth2 m u' k (Ne.symm hjm) e2 e3 hk1
  ·rw [List.getElem?_set_ne (Ne.symm hj)] at e1
   by_cases hm : m = i
   ·subst hm
    rw [List.getElem?_set_self hil] at e2
    injection e2 with e2; subst e2
    exact oth2 j u k hj e1 hk1
   ·rw [List.getElem?_set_ne (Ne.symm hm)] at e2
    exact h.apart j m u u' hjm e1 e2 k hk1
theorem TabU.snoc {v' : Value} {l' : List Rat} (h : TabU w lo hs t) (hb : Later w w') (hnew : RowU w' lo v' l') (hv : ∀ k, v'.ownBlock = some k -> w.heap.size <= k) : TabU w' lo (hs ++ [v']) (t ++ [l']) := by
 have hlen := h.len
 have key : ∀ (j : Nat) (u : Value), (hs ++ [v'])[j]? = some u -> (j < hs.length /\ hs[j]? = some u) ∨ (j = hs.length /\ u = v') := fun j u hu => by
  by_cases hj : j < hs.length
  ·rw [List.getElem?_append_left hj] at hu; exact .inl ⟨hj, hu⟩
  ·have hlt := (List.getElem?_eq_some_iff.1 hu).1
   have e : j = hs.length := by simp at hlt; omega
   subst e
   rw [List.getElem?_append_right (Nat.le_refl _), Nat.sub_self] at hu
   simp at hu; exact .inr ⟨rfl, hu.symm⟩
 have old : ∀ (j : Nat) (u : Value) (k : Nat), hs[j]? = some u -> u.ownBlock = some k -> k < w.heap.size := fun j u k hu hk => by
  have hjl := (List.getElem?_eq_some_iff.1 hu).1
  exact (OutRats.lt (h.row j u _ hu (List.getElem?_eq_getElem (by rw [<- h.len]; exact hjl))) k hk).2
 refine ⟨by simp [hlen], fun j u l e1 e2 => ?_, fun j m u u' hjm e1 e2 k hk1 hk2 => ?_⟩
 ·rcases key j u e1 with ⟨hj, hu⟩ | ⟨rfl, rfl⟩
  ·rw [List.getElem?_append_left (by omega)] at e2
   exact (h.row j u l hu e2).later hb
  ·rw [hlen, List.getElem?_append_right (Nat.le_refl _), Nat.sub_self] at e2
   simp at e2; subst e2; exact hnew
 ·rcases key j u e1 with ⟨hj, hu⟩ | ⟨rfl, rfl⟩
  ·rcases key m u' e2 with ⟨hm, hu'⟩ | ⟨rfl, rfl⟩
   ·exact h.apart j m u u' hjm hu hu' k hk1 hk2
   ·have := old j u k hu hk1; have := hv k hk2; omega
  ·rcases key m u' e2 with ⟨hm, hu'⟩ | ⟨rfl, rfl⟩
   ·have := old m u' k hu' hk2; have := hv k hk1; omega
   ·exact hjm rfl
end
end Go.Proofs.YtfokplidiboabaaGreat
namespace Go.Proofs.YtfokplidiboabaaGreat
open Go.RowKit Go.Shelf
theorem tRow_u32 : 22 ≠ 160 := by decide
theorem tRow_rat : 22 ≠ 36 := by decide
structure TabOut (w : World) (lo : Nat) (v : Value) (hs : List Value) (t : List (List Rat)) : Prop where
 own : w.ownsRow lo 22 1 v hs.length hs
 tab : TabU w lo hs t
 sl : ∀ u ∈ hs, ∃ A n c, u = .slice A n c
section
variable {w w' : World} {lo : Nat} {v : Value} {hs : List Value} {t : List (List Rat)}
theorem TabOut.nil (w : World) (lo : Nat) : TabOut w lo (.slice none 0 0) [] [] := ⟨World.ownsRow_nil w lo _ 1, TabU.nil w lo, fun u h => by cases h⟩
theorem TabOut.later (h : TabOut w lo v hs t) (hb : Later w w') : TabOut w' lo v hs t := ⟨ownsRow_later h.own hb, h.tab.later hb, h.sl⟩
theorem TabOut.only {g : Nat} {T : TypeId} {cs : List Value} (h : TabOut w lo v hs t) (o : Only g w w') (r : Row w g T cs) (h1 : T ≠ 160) (h2 : T ≠ 36) (h3 : T ≠ 22) : TabOut w' lo v hs t := by
 refine ⟨?_, h.tab.only o r h1 h2, h.sl⟩
 obtain ⟨k1, k2⟩ := h.own
 refine ⟨k1, ?_⟩
 rcases k2 with k2 | ⟨k, cap, cur, hv, hb, hg, rest⟩
 ·exact .inl k2
 ·refine .inr ⟨k, cap, cur, hv, hb, (o.block k ?_).trans hg, rest⟩
  rintro rfl
  rw [r] at hg; injection hg with hg; injection hg with _ hg _; exact h3 hg
theorem TabU.keep (h : TabU w lo hs t) (k : KeepU w w') (hv : ∀ u ∈ hs, ∀ g, u.ownBlock = some g -> w'.heap[g]? = w.heap[g]?) : TabU w' lo hs t :=
 ⟨h.len, fun i u l e1 e2 => (h.row i u l e1 e2).keep k (hv u (List.mem_of_getElem? e1)), h.apart⟩
theorem TabU.ratBlock (h : TabU w lo hs t) {u : Value} (hu : u ∈ hs) {g : Nat} (hg : u.ownBlock = some g) : ∃ cs, Row w g 36 cs := by
 obtain ⟨i, hi⟩ := List.mem_iff_getElem?.1 hu
 have hil := (List.getElem?_eq_some_iff.1 hi).1
 obtain ⟨xs, -, k2⟩ := (h.row i u _ hi (List.getElem?_eq_getElem (by rw [<- h.len]; exact hil))).owns
 rcases k2 with ⟨rfl, -⟩ | ⟨g', c, cur, rfl, -, hg', -⟩
 ·cases hg
 ·injection hg with hg; subst hg; exact ⟨cur.toList, hg'⟩
theorem TabOut.grew {v' : Value} {hs' : List Value} {t' : List (List Rat)} (h : TabOut w lo v hs t) (hg : w.grownBy w' v.ownBlock) : TabU w' lo hs t := by
 refine h.tab.keep (KeepU.grown hg h.own tRow_u32) fun u hu g hug => hg.block g ?_ ?_
 ·obtain ⟨cs, r⟩ := h.tab.ratBlock hu hug; exact r.lt
 ·obtain ⟨cs, r⟩ := h.tab.ratBlock hu hug
  obtain ⟨-, k2⟩ := h.own
  rcases k2 with ⟨rfl, -⟩ | ⟨g', c, cur, rfl, -, hg', -⟩
  ·intro e; cases e
  ·intro e; injection e with e; subst e
   rw [r] at hg'; injection hg' with hg'; injection hg' with _ hg' _; exact tRow_rat hg'.symm
theorem TabOut.block (h : TabOut w lo v hs t) (hl : 0 < hs.length) : ∃ g cap sp, v = .slice (some ⟨g, 0, none⟩) hs.length cap /\ lo <= g /\ Row w g 22 (hs ++ sp) /\ hs.length <= cap /\ cap <= maxLen := by
 obtain ⟨h2, h3⟩ := h.own
 rcases h3 with ⟨rfl, h0⟩ | ⟨g, cap, cur, rfl, hb, hg, hc, hmx, hs', ht⟩
 ·omega
 ·refine ⟨g, cap, cur.toList.drop (hs.length * 1), rfl, hb, ?_, hc, hmx⟩
  unfold Row
  have : hs ++ List.drop (hs.length * 1) cur.toList = cur.toList := by
   conv => lhs; lhs; rw [<- ht]
   exact List.take_append_drop _ _
  rw [this]; simpa using hg
theorem TabOut.reads (h : TabOut w lo v hs t) : Tab EOwn w v t := by
 have hlen := h.tab.len
 by_cases hl : 0 < hs.length
 ·obtain ⟨g, cap, sp, rfl, -, hr, hc, hm⟩ := h.block hl
  refine ⟨_, cap, by rw [hlen], by omega, hm, fun i row hi => ?_⟩
  have hil : i < hs.length := by rw [hlen]; exact (List.getElem?_eq_some_iff.1 hi).1
  obtain ⟨A, n, c, e⟩ := h.sl hs[i] (List.getElem_mem hil)
  have e1 : hs[i]? = some (.slice A n c) := by rw [List.getElem?_eq_getElem hil, e]
  exact ⟨g, 0, A, n, c, rfl, by rw [Nat.zero_add]; exact hr.cell (by rw [List.getElem?_append_left hil]; exact e1), (h.tab.row i _ row e1 hi).rats⟩
 ·have e1 : hs = [] := List.eq_nil_of_length_eq_zero (by omega)
  subst e1
  have e2 : t = [] := List.eq_nil_of_length_eq_zero hlen.symm
  subst e2
  obtain ⟨h2, h3⟩ := h.own
  rcases h3 with ⟨rfl, h0⟩ | ⟨g, cap, cur, rfl, hb, hg, hc, hmx, hs', ht⟩
  ·exact ⟨none, 0, rfl, by simp, by decide, fun i row hi => by simp at hi⟩
  ·exact ⟨_, cap, rfl, hc, hmx, fun i row hi => by simp at hi⟩
theorem TabOut.put {g n cap i : Nat} {u u' : Value} {l' : List Rat} {w1 : World} (h : TabOut w lo (.slice (some ⟨g, 0, none⟩) n cap) hs t) (hi : hs[i]? = some u) (hnew : RowU w1 lo u' l') (hg : w.grownBy w1 u.ownBlock) (hk : KeepU w w1) (hv : u'.ownBlock = u.ownBlock ∨ ∀ k, u'.ownBlock = some k -> w.heap.size <= k)
 (hu : ∃ A n c, u' = .slice A n c) : TabOut (w1.setCell ⟨g, i, none⟩ u') lo (.slice (some ⟨g, 0, none⟩) n cap) (hs.set i u') (t.set i l') := by
 have hil := (List.getElem?_eq_some_iff.1 hi).1
 have hn := h.own
 obtain ⟨k1, k2⟩ := hn
 rcases k2 with ⟨e, -⟩ | ⟨g', c', cur, e, hb, hg', hc, hmx, hs', ht⟩
 ·cases e
 injection e with e1 e2 e3
 injection e1 with e1; injection e1 with e1
 subst e1 e2 e3
 have hne : some g ≠ u.ownBlock := by
  intro e
  obtain ⟨cs, r⟩ := h.tab.ratBlock (List.mem_of_getElem? hi) e.symm
  rw [r] at hg'; injection hg' with hg'; injection hg' with _ hg' _; exact tRow_rat hg'.symm
 have r0 : Row w g 22 cur.toList := hg'
 have r1 := r0.grown hg hne
 have r2 := r1.set_ i u'
 have oo := Only.one g w1 i u'
 refine ⟨⟨?_, .inr ⟨g, cap, (cur.toList.set i u').toArray, by rw [List.length_set], hb, r2, by rw [List.length_set]; exact hc, hmx, ?_, ?_⟩⟩, (h.tab.put hi hnew hg hk hv).only oo r1 tRow_u32 tRow_rat, fun x hx => ?_⟩
 ·simp
 ·simpa using hs'
 ·rw [List.length_set] at *
  simp only [List.toList_toArray, List.take_set, ht]
 ·rcases List.mem_or_eq_of_mem_set hx with hx | rfl
  ·exact h.sl x hx
  ·exact hu
end
end Go.Proofs.YtfokplidiboabaaGreat
