/- Proofs of standard forms: what they tell, with no program in sight. -/
import Derived.Test.YtncbebfhakcgdaaGreatC10
import Derived.Test.YtncbebfhakcgdaaGreatC11
import Derived.Test.YtncbebfhakcgdaaGreatC7
set_option linter.unusedVariables false
set_option linter.unusedSimpArgs false
set_option maxRecDepth 100000
namespace Go.Proofs.YtncbebfhakcgdaaGreat
section
variable {A : List (List Rat)} {B C y u z r : List Rat} {ok : Bool}
end
end Go.Proofs.YtncbebfhakcgdaaGreat
namespace Go.Proofs.YtncbebfhakcgdaaGreat
end Go.Proofs.YtncbebfhakcgdaaGreat
namespace Go.Proofs.YtncbebfhakcgdaaGreat
open Go.RowKit Go.Shelf
def Agree (w W : World) : Prop := ∀ b, b < w.heap.size -> W.heap[b]? = w.heap[b]?
def EM (bm : Bool) : Elem := fun w v q => RawR w v q 1 /\ (bm = true -> EFlag w v 1)
theorem EM.agree (bm : Bool) (w W : World) (v : Value) (q : Rat) (h : EM bm w v q) (ha : Agree w W) : EM bm W v q := by
 refine ⟨rawR_agree h.1 ha, fun hb => ?_⟩
 obtain ⟨a, A, n, c, b, A', n', c', y, e, h1, h2⟩ := h.2 hb
 exact ⟨a, A, n, c, b, A', n', c', y, e, rawI_agree h1 ha, h2⟩
theorem On.base {w : World} {T : World -> Prop} (h : ∀ W, Agree w W -> T W) : On w (fun b => b < w.heap.size) T := ⟨fun b => b < w.heap.size, fun b hb => ⟨hb, hb⟩, fun W hW => h W hW⟩
theorem OutRats.grown {E : Elem} {w w' : World} {P : Nat -> Prop} {lo : Nat} {v : Value} {l : List Rat} {r : Option Nat} (h : OutRats E w P lo v l) (hg : w.grownBy w' r) (hne : ∀ k, v.ownBlock = some k -> some k ≠ r) (hP : ∀ b, P b -> some b ≠ r) : OutRats E w' P lo v l := by
 obtain ⟨es, h1, h2, h3, h4⟩ := h
 exact ⟨es, h1, ownsRow_grown h2 hg hne, h3, h4.grown hg fun b hb _ => hP b hb.1⟩
theorem OutTab.grown {E : Elem} {w w' : World} {P : Nat -> Prop} {lo : Nat} {v : Value} {t : List (List Rat)} {r : Option Nat} (h : OutTab E w P lo v t) (hg : w.grownBy w' r) (hne : ∀ k, v.ownBlock = some k -> some k ≠ r) (hP : ∀ b, P b -> some b ≠ r) : OutTab E w' P lo v t := by
 obtain ⟨es, h1, h2, h3, h4⟩ := h
 exact ⟨es, h1, ownsRow_grown h2 hg hne, h3, h4.grown hg fun b hb _ => hP b hb.1⟩
section
variable {w w0 : World} {o : Oper} {a : Act} {K : Act -> World -> Prop} {Q : Exit -> Act -> World -> Prop}
end
theorem Only.grownBy2 {g : Nat} {w w' : World} (o : Only g w w') : w.grownBy w' (some g) := ⟨o.os, o.tape, o.output, by rw [o.size]; exact Nat.le_refl _, fun b hb hne => o.block b (fun e => hne (by rw [e]))⟩
def Apart (o1 o2 : Option Nat) : Prop := ∀ k, o1 = some k -> o2 ≠ some k
theorem Apart.symm {o1 o2 : Option Nat} (h : Apart o1 o2) : Apart o2 o1 := fun k h2 h1 => h k h1 h2
theorem apart_new {o : Option Nat} {n : Nat} (h : ∀ k, o = some k -> k < n) : Apart o (some n) := fun k hk e => by
 have := h k hk
 injection e with e
 omega
theorem Apart.step {o o' x : Option Nat} {n : Nat} (h : Apart o x) (hb : o' = o ∨ o' = some n) (hx : ∀ k, x = some k -> k < n) : Apart o' x := by
 rcases hb with rfl | rfl
 ·exact h
 ·exact (apart_new hx).symm
end Go.Proofs.YtncbebfhakcgdaaGreat
namespace Go.Proofs.YtncbebfhakcgdaaGreat
open Go.RowKit
def Sq {α : Type} (m : Nat) (enc : α -> List Value) (w : World) (v : Value) (l : List α) : Prop :=
 ∃ A c, v = .slice A l.length c /\ l.length <= c /\ c <= maxLen /\ ∀ (i : Nat) x, l[i]? = some x -> ∃ b off, A = some ⟨b, off, none⟩ /\ ∀ (j : Nat) u, (enc x)[j]? = some u -> w.cell? ⟨b, off + i * m + j, none⟩ = some u
section
variable {α : Type} {m : Nat} {enc : α -> List Value} {w w' : World} {v : Value} {l : List α}
theorem Sq.later (h : Sq m enc w v l) (hb : Later w w') : Sq m enc w' v l := by
 obtain ⟨A, c, e, h1, h2, h3⟩ := h
 refine ⟨A, c, e, h1, h2, fun i x hi => ?_⟩
 obtain ⟨b, off, ha, hx⟩ := h3 i x hi
 exact ⟨b, off, ha, fun j u hj => Later.cell hb (hx j u hj)⟩
theorem Sq.form (h : Sq m enc w v l) : ∃ A n c, v = .slice A n c /\ n = l.length /\ n <= c /\ c <= maxLen /\ Sq m enc w (.slice A n c) l := by
 obtain ⟨A, c, rfl, h1, h2, h3⟩ := id h
 exact ⟨A, _, c, rfl, rfl, h1, h2, h⟩
theorem Sq.at_ {A : Option Addr} {n c : Nat} (h : Sq m enc w (.slice A n c) l) {i : Nat} {x : α} (hi : l[i]? = some x) : ∃ b off, A = some ⟨b, off, none⟩ /\ ∀ (j : Nat) u, (enc x)[j]? = some u -> w.cell? ⟨b, off + i * m + j, none⟩ = some u := by
 obtain ⟨A', c', e, -, -, h3⟩ := h
 injection e with e1 e2 e3
 subst e1
 exact h3 i x hi
theorem Sq.nil (m : Nat) (enc : α -> List Value) (w : World) : Sq m enc w (.slice none 0 0) [] := ⟨none, 0, rfl, by simp, by decide, fun i x hi => by simp at hi⟩
theorem Sq.agree (h : Sq m enc w v l) (ha : Agree w w') : Sq m enc w' v l := by
 obtain ⟨A, c, e, h1, h2, h3⟩ := h
 refine ⟨A, c, e, h1, h2, fun i x hi => ?_⟩
 obtain ⟨b, off, hA, hx⟩ := h3 i x hi
 refine ⟨b, off, hA, fun j u hj => ?_⟩
 have h5 := hx j u hj
 exact (World.cell?_of_block (a := ⟨b, off + i * m + j, none⟩) (ha b (World.block_lt_of_cell? w _ h5))).trans h5
theorem flatMap_get (enc : α -> List Value) (m : Nat) (hm : ∀ x, (enc x).length = m) (l : List α) (i j : Nat) (x : α) (hi : l[i]? = some x) (hj : j < m) : (l.flatMap enc)[i * m + j]? = (enc x)[j]? := by
 induction l generalizing i with
 | nil => simp at hi
 | cons a l ih =>
   rw [List.flatMap_cons]
   cases i with
   | zero =>
     simp at hi; subst hi
     rw [Nat.zero_mul, Nat.zero_add, List.getElem?_append_left (by rw [hm]; exact hj)]
   | succ i =>
     rw [List.getElem?_append_right (by rw [hm, Nat.succ_mul]; omega), hm, <- ih i (by simpa using hi)]
     congr 1; rw [Nat.succ_mul]; omega
theorem Sq.of_own {lo : Nat} {T : TypeId} (hm : ∀ x, (enc x).length = m) (h : w.ownsRow lo T m v l.length (l.flatMap enc)) : Sq m enc w v l := by
 obtain ⟨h2, h3⟩ := h
 rcases h3 with ⟨rfl, h0⟩ | ⟨g, cap, cur, rfl, hb, hg, hn, hmx, hs, ht⟩
 ·have : l = [] := List.eq_nil_of_length_eq_zero h0
  subst this
  exact Sq.nil _ _ _
 ·have hr : Row w g T cur.toList := by unfold Row; simpa using hg
  refine ⟨some ⟨g, 0, none⟩, cap, rfl, hn, hmx, fun i x hi => ⟨g, 0, rfl, fun j u hj => ?_⟩⟩
  rw [Nat.zero_add]
  refine hr.cell ?_
  have hjm : j < m := by rw [<- hm x]; exact (List.getElem?_eq_some_iff.1 hj).1
  rw [<- flatMap_get enc m hm l i j x hi hjm, <- ht, List.getElem?_take] at hj
  split at hj
  ·exact hj
  ·cases hj
end
structure PItem where
 s : Rat
 h : Rat
 b : Rat
 sf : Bool
 hf : Bool
 bf : Bool
structure POrd where
 id : Int
 item : Int
 due : Int
 qty : Int
structure PMk where
 item : Int
 period : Int
 qty : Int
structure PBook where
 items : List PItem
 hor : Int
 now : Int
 caps : List Int
 ords : List POrd
 mks : List PMk
def IFit (z : Int) : Prop := -9223372036854775808 <= z /\ z < 9223372036854775808
def iCells (z : Int) : List Value := [.int .i64 z]
def oCells (o : POrd) : List Value := [.int .i64 o.id, .int .i64 o.item, .int .i64 o.due, .int .i64 o.qty]
def mCells (x : PMk) : List Value := [.int .i64 x.item, .int .i64 x.period, .int .i64 x.qty]
def POrd.fit (o : POrd) : Prop := IFit o.id /\ IFit o.item /\ IFit o.due /\ IFit o.qty
def PMk.fit (x : PMk) : Prop := IFit x.item /\ IFit x.period /\ IFit x.qty
def ENum (k : Nat) (w : World) (v : Value) (q : Rat) (f : Bool) : Prop := RawR w v q k /\ EFlag w v (if f then 1 else 0)
theorem ENum.later {k : Nat} {w w' : World} {v : Value} {q : Rat} {f : Bool} (h : ENum k w v q f) (hb : Later w w') : ENum k w' v q f := ⟨RawR.later h.1 hb, EFlag.later _ _ _ _ h.2 hb⟩
structure ICells where
 a : Bool
 A : Option Addr
 n : Nat
 c : Nat
 a' : Bool
 A' : Option Addr
 n' : Nat
 c' : Nat
def ICells.cells (e : ICells) : List Value := [.bool e.a, .slice e.A e.n e.c, .bool e.a', .slice e.A' e.n' e.c']
def Its (k : Nat) (w : World) (v : Value) (l : List PItem) : Prop :=
 ∃ A c, v = .slice A l.length c /\ l.length <= c /\ c <= maxLen /\ ∀ (i : Nat) x, l[i]? = some x -> ∃ b off, A = some ⟨b, off, none⟩ /\ ∃ e1 e2 e3 : ICells, (∀ (j : Nat) u, (e1.cells ++ e2.cells ++ e3.cells)[j]? = some u -> w.cell? ⟨b, off + i * 12 + j, none⟩ = some u) /\
   ENum k w (.agg e1.cells.toArray) x.s x.sf /\ ENum k w (.agg e2.cells.toArray) x.h x.hf /\ ENum k w (.agg e3.cells.toArray) x.b x.bf
section
variable {k : Nat} {w w' : World} {v : Value} {l : List PItem}
theorem Its.later (h : Its k w v l) (hb : Later w w') : Its k w' v l := by
 obtain ⟨A, c, e, h1, h2, h3⟩ := h
 refine ⟨A, c, e, h1, h2, fun i x hi => ?_⟩
 obtain ⟨b, off, ha, e1, e2, e3, hx, n1, n2, n3⟩ := h3 i x hi
 exact ⟨b, off, ha, e1, e2, e3, fun j u hj => Later.cell hb (hx j u hj), n1.later hb, n2.later hb, n3.later hb⟩
theorem Its.form (h : Its k w v l) : ∃ A n c, v = .slice A n c /\ n = l.length /\ n <= c /\ c <= maxLen /\ Its k w (.slice A n c) l := by
 obtain ⟨A, c, rfl, h1, h2, h3⟩ := id h
 exact ⟨A, _, c, rfl, rfl, h1, h2, h⟩
theorem Its.at_ {A : Option Addr} {n c : Nat} (h : Its k w (.slice A n c) l) {i : Nat} {x : PItem} (hi : l[i]? = some x) : ∃ b off, A = some ⟨b, off, none⟩ /\ ∃ e1 e2 e3 : ICells, (∀ (j : Nat) u, (e1.cells ++ e2.cells ++ e3.cells)[j]? = some u -> w.cell? ⟨b, off + i * 12 + j, none⟩ = some u) /\
 ENum k w (.agg e1.cells.toArray) x.s x.sf /\ ENum k w (.agg e2.cells.toArray) x.h x.hf /\ ENum k w (.agg e3.cells.toArray) x.b x.bf := by
 obtain ⟨A', c', e, -, -, h3⟩ := h
 injection e with e1 e2 e3
 subst e1
 exact h3 i x hi
end
def Grid (w : World) (v : Value) (t : List (List Int)) : Prop :=
 ∃ A c, v = .slice A t.length c /\ t.length <= c /\ c <= maxLen /\ ∀ (i : Nat) row, t[i]? = some row -> ∃ b off A' n' c', A = some ⟨b, off, none⟩ /\ w.cell? ⟨b, off + i, none⟩ = some (.slice A' n' c') /\ Sq 1 iCells w (.slice A' n' c') row
section
variable {w w' : World} {v : Value} {t : List (List Int)}
theorem Grid.later (h : Grid w v t) (hb : Later w w') : Grid w' v t := by
 obtain ⟨A, c, e, h1, h2, h3⟩ := h
 refine ⟨A, c, e, h1, h2, fun i row hi => ?_⟩
 obtain ⟨b, off, A', n', c', ha, x1, x2⟩ := h3 i row hi
 exact ⟨b, off, A', n', c', ha, Later.cell hb x1, x2.later hb⟩
theorem Grid.form (h : Grid w v t) : ∃ A n c, v = .slice A n c /\ n = t.length /\ n <= c /\ c <= maxLen /\ Grid w (.slice A n c) t := by
 obtain ⟨A, c, rfl, h1, h2, h3⟩ := id h
 exact ⟨A, _, c, rfl, rfl, h1, h2, h⟩
theorem Grid.at_ {A : Option Addr} {n c : Nat} (h : Grid w (.slice A n c) t) {i : Nat} {row : List Int} (hi : t[i]? = some row) : ∃ b off A' n' c', A = some ⟨b, off, none⟩ /\ w.cell? ⟨b, off + i, none⟩ = some (.slice A' n' c') /\ Sq 1 iCells w (.slice A' n' c') row := by
 obtain ⟨A', c', e, -, -, h3⟩ := h
 injection e with e1 e2 e3
 subst e1
 exact h3 i row hi
end
structure BookIn (w : World) (vI vC vO vM : Value) (D : PBook) : Prop where
 its : Its 12 w vI D.items
 caps : Sq 1 iCells w vC D.caps
 ords : Sq 4 oCells w vO D.ords
 mks : Sq 3 mCells w vM D.mks
 il : D.items.length <= 1000
 cl : D.caps.length <= 1000
 ol : D.ords.length <= 1000
 ml : D.mks.length <= 1000
 hfit : IFit D.hor
 nfit : IFit D.now
 cfit : ∀ z ∈ D.caps, IFit z
 ofit : ∀ o ∈ D.ords, o.fit
 mfit : ∀ x ∈ D.mks, x.fit
theorem BookIn.later {w w' : World} {vI vC vO vM : Value} {D : PBook} (h : BookIn w vI vC vO vM D) (hb : Later w w') : BookIn w' vI vC vO vM D :=
 {h with its := h.its.later hb, caps := h.caps.later hb, ords := h.ords.later hb, mks := h.mks.later hb }
def costB (q : Rat) (f : Bool) : Bool := f && decide (0 <= q)
def PItem.okB (x : PItem) : Bool := costB x.s x.sf && (costB x.h x.hf && costB x.b x.bf)
structure HeadP (D : PBook) : Prop where
 items : ∀ x ∈ D.items, x.okB = true
 caps : ∀ c ∈ D.caps, 0 <= c /\ c <= 100
 n1 : 1 <= D.items.length
 n3 : D.items.length <= 3
 h1 : 1 <= D.hor
 h6 : D.hor * D.items.length <= 6
 t0 : 0 <= D.now
 t40 : D.now <= 40
 cl : D.caps.length <= 40
def POrd.okP (o : POrd) (n : Nat) : Prop := 1 <= o.id /\ o.id <= 1000000 /\ 0 <= o.item /\ o.item < n /\ 0 <= o.due /\ o.due <= 39 /\ 1 <= o.qty /\ o.qty <= 100
def PMk.okP (x : PMk) (n : Nat) : Prop := 0 <= x.item /\ x.item < n /\ 0 <= x.period /\ x.period <= 39 /\ 0 <= x.qty /\ x.qty <= 100
def PMk.key (x : PMk) : Int := 10 * x.period + x.item
structure MayP (D : PBook) : Prop where
 head : HeadP D
 ol : D.ords.length <= 30
 ml : D.mks.length <= 120
 ords : ∀ o ∈ D.ords, o.okP D.items.length
 mks : ∀ x ∈ D.mks, x.okP D.items.length
 oris : ∀ (i : Nat) a b, D.ords[i]? = some a -> D.ords[i+1]? = some b -> a.id < b.id
 mris : ∀ (i : Nat) a b, D.mks[i]? = some a -> D.mks[i+1]? = some b -> a.key < b.key
open Classical in
noncomputable def headB (D : PBook) : Bool := decide (HeadP D)
open Classical in
noncomputable def mayB (D : PBook) : Bool := decide (MayP D)
theorem mayB_iff {D : PBook} : mayB D = true ↔ MayP D := by unfold mayB; simp
theorem mayB_not {D : PBook} : mayB D = false ↔ ¬ MayP D := by unfold mayB; simp
theorem headB_iff {D : PBook} : headB D = true ↔ HeadP D := by unfold headB; simp
def sumI : List Int -> Int
 | [] => 0
 | x :: l => x + sumI l
theorem sumI_append (a b : List Int) : sumI (a ++ b) = sumI a + sumI b := by
 induction a with
 | nil => simp [sumI]
 | cons x a ih => simp [sumI, ih]; omega
noncomputable def capV (D : PBook) (p : Int) : Int := if mayB D = true /\ 0 <= p /\ p < D.caps.length then D.caps.getD p.toNat 0 else 0
end Go.Proofs.YtncbebfhakcgdaaGreat
namespace Go.Proofs.YtncbebfhakcgdaaGreat
open Go.RowKit Go.Shelf
attribute [local go_sem ↓] Go.wp_at_zero Go.wp_at_succ
theorem Sq.at1 {w : World} {A : Option Addr} {n c : Nat} {l : List Int} (h : Sq 1 iCells w (.slice A n c) l) {i : Nat} {x : Int} (hi : l[i]? = some x) : ∃ b off, A = some ⟨b, off, none⟩ /\ w.cell? ⟨b, off + i, none⟩ = some (.int .i64 x) := by
 obtain ⟨b, off, ha, hx⟩ := h.at_ hi
 have := hx 0 _ rfl
 rw [Nat.mul_one, Nat.add_zero] at this
 exact ⟨b, off, ha, this⟩
theorem Sq.at4 {w : World} {A : Option Addr} {n c : Nat} {l : List POrd} (h : Sq 4 oCells w (.slice A n c) l) {i : Nat} {x : POrd} (hi : l[i]? = some x) : ∃ b off, A = some ⟨b, off, none⟩ /\ w.cell? ⟨b, off + i * 4, none⟩ = some (.int .i64 x.id) /\ w.cell? ⟨b, off + i * 4 + 1, none⟩ = some (.int .i64 x.item) /\ w.cell? ⟨b, off + i * 4 + 2, none⟩ = some (.int .i64 x.due) /\ w.cell? ⟨b, off + i * 4 + 3, none⟩ = some (.int .i64 x.qty) := by
 obtain ⟨b, off, ha, hx⟩ := h.at_ hi
 exact ⟨b, off, ha, hx 0 _ rfl, hx 1 _ rfl, hx 2 _ rfl, hx 3 _ rfl⟩
theorem Sq.at3 {w : World} {A : Option Addr} {n c : Nat} {l : List PMk} (h : Sq 3 mCells w (.slice A n c) l) {i : Nat} {x : PMk} (hi : l[i]? = some x) : ∃ b off, A = some ⟨b, off, none⟩ /\ w.cell? ⟨b, off + i * 3, none⟩ = some (.int .i64 x.item) /\ w.cell? ⟨b, off + i * 3 + 1, none⟩ = some (.int .i64 x.period) /\ w.cell? ⟨b, off + i * 3 + 2, none⟩ = some (.int .i64 x.qty) := by
 obtain ⟨b, off, ha, hx⟩ := h.at_ hi
 exact ⟨b, off, ha, hx 0 _ rfl, hx 1 _ rfl, hx 2 _ rfl⟩
theorem Its.at12 {k : Nat} {w : World} {A : Option Addr} {n c : Nat} {l : List PItem} (h : Its k w (.slice A n c) l) {i : Nat} {x : PItem} (hi : l[i]? = some x) : ∃ b off, A = some ⟨b, off, none⟩ /\ ∃ e1 e2 e3 : ICells, w.cell? ⟨b, off + i * 12, none⟩ = some (.bool e1.a) /\ w.cell? ⟨b, off + i * 12 + 1, none⟩ = some (.slice e1.A e1.n e1.c) /\ w.cell? ⟨b, off + i * 12 + 2, none⟩ = some (.bool e1.a') /\ w.cell? ⟨b, off + i * 12 + 3, none⟩ = some (.slice e1.A' e1.n' e1.c') /\ w.cell? ⟨b, off + i * 12 + 4, none⟩ = some (.bool e2.a) /\ w.cell? ⟨b, off + i * 12 + 5, none⟩ = some (.slice e2.A e2.n e2.c) /\ w.cell? ⟨b, off + i * 12 + 6, none⟩ = some (.bool e2.a') /\ w.cell? ⟨b, off + i * 12 + 7, none⟩ = some (.slice e2.A' e2.n' e2.c') /\ w.cell? ⟨b, off + i * 12 + 8, none⟩ = some (.bool e3.a) /\ w.cell? ⟨b, off + i * 12 + 9, none⟩ = some (.slice e3.A e3.n e3.c) /\ w.cell? ⟨b, off + i * 12 + 10, none⟩ = some (.bool e3.a') /\ w.cell? ⟨b, off + i * 12 + 11, none⟩ = some (.slice e3.A' e3.n' e3.c') /\
 ENum k w (.agg #[.bool e1.a, .slice e1.A e1.n e1.c, .bool e1.a', .slice e1.A' e1.n' e1.c']) x.s x.sf /\ ENum k w (.agg #[.bool e2.a, .slice e2.A e2.n e2.c, .bool e2.a', .slice e2.A' e2.n' e2.c']) x.h x.hf /\ ENum k w (.agg #[.bool e3.a, .slice e3.A e3.n e3.c, .bool e3.a', .slice e3.A' e3.n' e3.c']) x.b x.bf := by
 obtain ⟨b, off, ha, e1, e2, e3, hx, n1, n2, n3⟩ := h.at_ hi
 exact ⟨b, off, ha, e1, e2, e3, hx 0 _ rfl, hx 1 _ rfl, hx 2 _ rfl, hx 3 _ rfl, hx 4 _ rfl, hx 5 _ rfl, hx 6 _ rfl, hx 7 _ rfl, hx 8 _ rfl, hx 9 _ rfl, hx 10 _ rfl, hx 11 _ rfl, n1, n2, n3⟩
def FirstX {α : Type} (p : α -> Bool) (t : List α) (z : Int) : Prop := (z = -1 /\ ∀ x ∈ t, p x = false) ∨ ∃ (i : Nat) (x : α), z = i /\ t[i]? = some x /\ p x = true /\ ∀ j r, j < i -> t[j]? = some r -> p r = false
theorem firstX_any {α : Type} {p : α -> Bool} {t : List α} {z : Int} (h : FirstX p t z) : decide (0 <= z) = t.any p := by
 rcases h with ⟨rfl, h⟩ | ⟨i, x, rfl, h1, h2, h3⟩
 ·have : t.any p = false := by
   rw [List.any_eq_false]; intro x hx; rw [h x hx]; simp
  rw [this]; simp
 ·have : t.any p = true := by
   rw [List.any_eq_true]; exact ⟨x, List.mem_of_getElem? h1, h2⟩
  rw [this]; simp
set_option maxHeartbeats 2000000 in
theorem pin_calls (w : World) (n lo hi : Int) (u : Bool) (hu : decide (lo <= n /\ n <= hi) = u) :
 Calls Tryz.prog 60 #[.int .i64 n, .int .i64 lo, .int .i64 hi] w (fun e w' => e = .returned (.bool u) /\ w = w') := by
 have HU := hide hu
 clear hu
 by_cases h1 : lo <= n
 ·have t1 : decide (lo <= n) = true := by simpa using h1
  have t2 : decide (n <= hi) = u := by rw [<- HU.out]; simp [h1]
  go_enter Tryz.func60, Tryz.ntmps60
  go_wp2_with fail
  go_ret
  exact ⟨by first | rw [t2] | simp [t2], rfl⟩
 ·have t1 : decide (lo <= n) = false := by simpa using h1
  have t2 : u = false := by rw [<- HU.out]; simp [h1]
  subst t2
  go_enter Tryz.func60, Tryz.ntmps60
  go_wp2_with fail
  go_ret
  exact ⟨rfl, rfl⟩
set_option maxHeartbeats 2000000 in
theorem isnan_calls (w : World) (n : Int) :
 Calls Tryz.prog 106 #[.int .i64 n] w (fun e w' => e = .returned (.bool false) /\ w = w') := by
 have t1 : (n != n) = false := by simp
 go_enter Tryz.func106, Tryz.ntmps106
 go_wp2_with fail
 go_ret
 exact ⟨by first | rfl | simp, rfl⟩
def cmpI (a b : Int) : Int := if a < b then -1 else if b < a then 1 else 0
set_option maxHeartbeats 2000000 in
theorem icompare_calls (w : World) (a b z : Int) (hz : cmpI a b = z) :
 Calls Tryz.prog 65 #[.int .i64 a, .int .i64 b] w (fun e w' => e = .returned (.int .i64 z) /\ w = w') := by
 have HZ := hide hz
 clear hz
 by_cases h1 : a < b
 ·have t1 : decide (a < b) = true := by simpa using h1
  have HE : Hid (-1 = z) := hide (by rw [<- HZ.out]; unfold cmpI; rw [if_pos h1])
  clear h1
  go_enter Tryz.func65, Tryz.ntmps65
  go_wp2_with ((with_reducible refine (isnan_calls w _).mono ?_); rintro e w1 ⟨rfl, rfl⟩)
  go_ret
  exact ⟨by rw [<- HE.out]; rfl, rfl⟩
 ·have t1 : decide (a < b) = false := by simpa using h1
  by_cases h2 : b < a
  ·have t2 : decide (b < a) = true := by simpa using h2
   have HE : Hid (1 = z) := hide (by rw [<- HZ.out]; unfold cmpI; rw [if_neg h1, if_pos h2])
   clear h1 h2
   go_enter Tryz.func65, Tryz.ntmps65
   go_wp2_with ((with_reducible refine (isnan_calls w _).mono ?_); rintro e w1 ⟨rfl, rfl⟩)
   go_ret
   exact ⟨by rw [<- HE.out]; rfl, rfl⟩
  ·have t2 : decide (b < a) = false := by simpa using h2
   have HE : Hid (0 = z) := hide (by rw [<- HZ.out]; unfold cmpI; rw [if_neg h1, if_neg h2])
   clear h1 h2
   go_enter Tryz.func65, Tryz.ntmps65
   go_wp2_with ((with_reducible refine (isnan_calls w _).mono ?_); rintro e w1 ⟨rfl, rfl⟩)
   go_ret
   exact ⟨by rw [<- HE.out]; rfl, rfl⟩
def orI : List Int -> Int
 | [] => 0
 | x :: l => if x = 0 then orI l else x
theorem orI_skip {l : List Int} {j : Nat} (h : ∀ (i : Nat) x, i < j -> l[i]? = some x -> x = 0) : orI l = orI (l.drop j) := by
 induction l generalizing j with
 | nil => simp
 | cons a l ih =>
   cases j with
   | zero => rfl
   | succ j =>
     have h0 := h 0 a (by omega) rfl
     rw [List.drop_succ_cons, <- ih (j := j) (fun i x hi hx => h (i+1) x (by omega) (by simpa using hx))]
     unfold orI; rw [if_pos h0]
     cases l <;> rfl
set_option maxHeartbeats 2000000 in
theorem cor_calls (w : World) (A : Option Addr) (n c : Nat) (l : List Int) (h : Sq 1 iCells w (.slice A n c) l) (hl : l.length <= 1000000000) (z : Int) (hz : orI l = z) :
 Calls Tryz.prog 68 #[.slice A n c] w (fun e w' => e = .returned (.int .i64 z) /\ w = w') := by
 have HZ := hide hz; have H := hide h
 obtain ⟨A0, n0, c0, e0, hn, -, -, -⟩ := h.form
 injection e0 with e1 e2 e3
 rw [<- e2] at hn
 have HN := hide hn
 have hn9 : n <= 1000000000 := by omega
 clear hz h e1 e2 e3 hn hl
 go_enter Tryz.func68, Tryz.ntmps68
 go_wp2_with fail
 go_loop [8] (fun i => ∃ j : Nat, j <= n /\ i = .int .i64 (j : Int) /\ Hid (∀ (i : Nat) x, i < j -> l[i]? = some x -> x = 0)) (fun i => (n - intOf i).toNat)
 case atStart => exact ⟨0, by omega, rfl, hide fun i q hi => by omega⟩
 case round =>
  obtain ⟨j, hj, rfl, hpre⟩ := hrel
  by_cases hjn : j < n
  ·obtain ⟨x, hx⟩ : ∃ x, l[j]? = some x := ⟨l[j]'(by have := HN.out; omega), List.getElem?_eq_getElem _⟩
   obtain ⟨b1, off1, rfl, x1⟩ := H.out.at1 hx
   have HX := hide hx
   have hj0 : (0 : Int) <= (j : Int) := by omega
   have hj1 : (j : Int) < n := by omega
   clear hx
   by_cases h0 : x = 0
   ·have t1 : (x != 0) = false := by simpa using h0
    have HP : Hid (∀ (i : Nat) x, i < j + 1 -> l[i]? = some x -> x = 0) := hide fun i y hi hy => by
     by_cases hij : i < j
     ·exact hpre.out i y hij hy
     ·obtain rfl : i = j := by omega
      rw [HX.out] at hy; injection hy with hy; rw [<- hy]; exact h0
    clear h0
    go_wp2_with fail
    exact ⟨⟨j+1, by omega, by go_num, HP⟩, by simp [intOf]; omega⟩
   ·have t1 : (x != 0) = true := by simpa using h0
    have HF : Hid (x = z) := hide (by
     rw [<- HZ.out, orI_skip hpre.out, List.drop_eq_getElem_cons (List.getElem?_eq_some_iff.1 HX.out).1, (List.getElem?_eq_some_iff.1 HX.out).2]
     unfold orI; rw [if_neg h0])
    clear h0
    go_wp2_with fail
    go_ret
    exact ⟨by rw [HF.out]; rfl, rfl⟩
  ·have HF : Hid ((0 : Int) = z) := hide (by
    rw [<- HZ.out, orI_skip hpre.out, List.drop_of_length_le (by have := HN.out; omega)]; rfl)
   go_wp2_with fail
   go_ret
   exact ⟨by rw [HF.out]; rfl, rfl⟩
set_option maxHeartbeats 2000000 in
theorem idxM1_calls (w : World) (v : Value) (l : List PMk) (h : Sq 3 mCells w v l) (hl : l.length <= 1000000000) (f : FuncId) (hf : Enters f) (G0 : Nat) (p : PMk -> Bool) (hp : ∀ W (x : PMk), Later w W -> x ∈ l -> Calls Tryz.prog f #[.agg #[.int .i64 x.item, .int .i64 x.period, .int .i64 x.qty], .pointer (some ⟨G0, 0, none⟩)] W (RetV W (.bool (p x)))) :
 Calls Tryz.prog 105 #[v, .func (.func f) #[] #[.pointer (some ⟨G0, 0, none⟩)]] w (RetZ w (FirstX p l)) := by
 have H := hide h; have HP := hide hp
 have hen := hf.out
 obtain ⟨A0, nt, ct, rfl, hnt, -, -, -⟩ := h.form
 have HNT := hide hnt
 have hn9 : nt <= 1000000000 := by omega
 clear h hp hnt hl
 go_enter Tryz.func105, Tryz.ntmps105
 go_wp2_with fail
 go_loopw [8] (fun i wr => ∃ j : Nat, j <= nt /\ i = .int .i64 (j : Int) /\ Hid (∀ (i : Nat) r, i < j -> l[i]? = some r -> p r = false) /\ Later w wr) (fun i _ => (nt - intOf i).toNat)
 case atStart => exact ⟨0, by omega, rfl, hide fun i r hi => by omega, Later.refl w⟩
 case round =>
  obtain ⟨j, hj, rfl, hpre, hL⟩ := hrel
  by_cases hjn : j < nt
  ·obtain ⟨x, hx⟩ : ∃ x, l[j]? = some x := ⟨l[j]'(by have := HNT.out; omega), List.getElem?_eq_getElem _⟩
   obtain ⟨b1, off1, rfl, x1, x2, x3⟩ := (H.out.later hL).at3 hx
   have HX := hide hx
   obtain ⟨u, hu⟩ : ∃ u, p x = u := ⟨_, rfl⟩
   have HU := hide hu
   have hj0 : (0 : Int) <= (j : Int) := by omega
   have hj1 : (j : Int) < nt := by omega
   clear hx hu
   go_wp2_with fail
   refine (HP.out _ _ hL (List.mem_of_getElem? HX.out)).mono ?_
   rintro e w8 ⟨rfl, b8⟩
   rw [HU.out]
   have hL8 := hL.trans b8
   cases u
   case false =>
    have HN : Hid (∀ (i : Nat) r, i < j + 1 -> l[i]? = some r -> p r = false) := hide fun i r hi hr => by
     by_cases hij : i < j
     ·exact hpre.out i r hij hr
     ·obtain rfl : i = j := by omega
      rw [HX.out] at hr; injection hr with hr; rw [<- hr, HU.out]
    go_wp2_with fail
    exact ⟨⟨j+1, by omega, by go_num, HN, hL8⟩, by simp [intOf]; omega⟩
   case true =>
    have HF : Hid (FirstX p l j) := hide (.inr ⟨j, x, rfl, HX.out, HU.out, hpre.out⟩)
    go_wp2_with fail
    go_ret
    exact ⟨_, rfl, HF.out, hL8⟩
  ·obtain rfl : j = nt := by omega
   have HF : Hid (FirstX p l (-1)) := hide (.inl ⟨rfl, fun x hr => by
    obtain ⟨i, hi⟩ := List.getElem?_of_mem hr
    exact hpre.out i x (by rw [HNT.out]; exact (List.getElem?_eq_some_iff.1 hi).1) hi⟩)
   go_wp2_with fail
   go_ret
   exact ⟨_, rfl, HF.out, hL⟩
set_option maxHeartbeats 1000000 in
theorem contM1_calls (w : World) (v : Value) (l : List PMk) (h : Sq 3 mCells w v l) (hl : l.length <= 1000000000) (f : FuncId) (hf : Enters f) (G0 : Nat) (p : PMk -> Bool) (hp : ∀ W (x : PMk), Later w W -> x ∈ l -> Calls Tryz.prog f #[.agg #[.int .i64 x.item, .int .i64 x.period, .int .i64 x.qty], .pointer (some ⟨G0, 0, none⟩)] W (RetV W (.bool (p x)))) (u : Bool) (hu : l.any p = u) :
 Calls Tryz.prog 61 #[v, .func (.func f) #[] #[.pointer (some ⟨G0, 0, none⟩)]] w (RetV w (.bool u)) := by
 have H := hide h; have HP := hide hp; have HU := hide hu
 obtain ⟨A0, nt, ct, rfl, hnt, -, -, -⟩ := h.form
 clear h hp hnt hu
 go_enter Tryz.func61, Tryz.ntmps61
 go_wp2_with fail
 refine (idxM1_calls _ _ l H.out hl f hf G0 p HP.out).mono ?_
 rintro e w1 ⟨z, rfl, hz, b1⟩
 have hd := firstX_any hz
 rw [HU.out] at hd
 have HD := hide hd
 clear hz hd
 go_wp2_with fail
 go_ret
 exact ⟨by simp [HD.out], b1⟩
set_option maxHeartbeats 2000000 in
theorem idxO1_calls (w : World) (v : Value) (l : List POrd) (h : Sq 4 oCells w v l) (hl : l.length <= 1000000000) (f : FuncId) (hf : Enters f) (G0 : Nat) (p : POrd -> Bool) (hp : ∀ W (x : POrd), Later w W -> x ∈ l -> Calls Tryz.prog f #[.agg #[.int .i64 x.id, .int .i64 x.item, .int .i64 x.due, .int .i64 x.qty], .pointer (some ⟨G0, 0, none⟩)] W (RetV W (.bool (p x)))) :
 Calls Tryz.prog 76 #[v, .func (.func f) #[] #[.pointer (some ⟨G0, 0, none⟩)]] w (RetZ w (FirstX p l)) := by
 have H := hide h; have HP := hide hp
 have hen := hf.out
 obtain ⟨A0, nt, ct, rfl, hnt, -, -, -⟩ := h.form
 have HNT := hide hnt
 have hn9 : nt <= 1000000000 := by omega
 clear h hp hnt hl
 go_enter Tryz.func76, Tryz.ntmps76
 go_wp2_with fail
 go_loopw [8] (fun i wr => ∃ j : Nat, j <= nt /\ i = .int .i64 (j : Int) /\ Hid (∀ (i : Nat) r, i < j -> l[i]? = some r -> p r = false) /\ Later w wr) (fun i _ => (nt - intOf i).toNat)
 case atStart => exact ⟨0, by omega, rfl, hide fun i r hi => by omega, Later.refl w⟩
 case round =>
  obtain ⟨j, hj, rfl, hpre, hL⟩ := hrel
  by_cases hjn : j < nt
  ·obtain ⟨x, hx⟩ : ∃ x, l[j]? = some x := ⟨l[j]'(by have := HNT.out; omega), List.getElem?_eq_getElem _⟩
   obtain ⟨b1, off1, rfl, x1, x2, x3, x4⟩ := (H.out.later hL).at4 hx
   have HX := hide hx
   obtain ⟨u, hu⟩ : ∃ u, p x = u := ⟨_, rfl⟩
   have HU := hide hu
   have hj0 : (0 : Int) <= (j : Int) := by omega
   have hj1 : (j : Int) < nt := by omega
   clear hx hu
   go_wp2_with fail
   refine (HP.out _ _ hL (List.mem_of_getElem? HX.out)).mono ?_
   rintro e w8 ⟨rfl, b8⟩
   rw [HU.out]
   have hL8 := hL.trans b8
   cases u
   case false =>
    have HN : Hid (∀ (i : Nat) r, i < j + 1 -> l[i]? = some r -> p r = false) := hide fun i r hi hr => by
     by_cases hij : i < j
     ·exact hpre.out i r hij hr
     ·obtain rfl : i = j := by omega
      rw [HX.out] at hr; injection hr with hr; rw [<- hr, HU.out]
    go_wp2_with fail
    exact ⟨⟨j+1, by omega, by go_num, HN, hL8⟩, by simp [intOf]; omega⟩
   case true =>
    have HF : Hid (FirstX p l j) := hide (.inr ⟨j, x, rfl, HX.out, HU.out, hpre.out⟩)
    go_wp2_with fail
    go_ret
    exact ⟨_, rfl, HF.out, hL8⟩
  ·obtain rfl : j = nt := by omega
   have HF : Hid (FirstX p l (-1)) := hide (.inl ⟨rfl, fun x hr => by
    obtain ⟨i, hi⟩ := List.getElem?_of_mem hr
    exact hpre.out i x (by rw [HNT.out]; exact (List.getElem?_eq_some_iff.1 hi).1) hi⟩)
   go_wp2_with fail
   go_ret
   exact ⟨_, rfl, HF.out, hL⟩
set_option maxHeartbeats 1000000 in
theorem contO1_calls (w : World) (v : Value) (l : List POrd) (h : Sq 4 oCells w v l) (hl : l.length <= 1000000000) (f : FuncId) (hf : Enters f) (G0 : Nat) (p : POrd -> Bool) (hp : ∀ W (x : POrd), Later w W -> x ∈ l -> Calls Tryz.prog f #[.agg #[.int .i64 x.id, .int .i64 x.item, .int .i64 x.due, .int .i64 x.qty], .pointer (some ⟨G0, 0, none⟩)] W (RetV W (.bool (p x)))) (u : Bool) (hu : l.any p = u) :
 Calls Tryz.prog 58 #[v, .func (.func f) #[] #[.pointer (some ⟨G0, 0, none⟩)]] w (RetV w (.bool u)) := by
 have H := hide h; have HP := hide hp; have HU := hide hu
 obtain ⟨A0, nt, ct, rfl, hnt, -, -, -⟩ := h.form
 clear h hp hnt hu
 go_enter Tryz.func58, Tryz.ntmps58
 go_wp2_with fail
 refine (idxO1_calls _ _ l H.out hl f hf G0 p HP.out).mono ?_
 rintro e w1 ⟨z, rfl, hz, b1⟩
 have hd := firstX_any hz
 rw [HU.out] at hd
 have HD := hide hd
 clear hz hd
 go_wp2_with fail
 go_ret
 exact ⟨by simp [HD.out], b1⟩
set_option maxHeartbeats 2000000 in
theorem idxI0_calls (w : World) (v : Value) (l : List Int) (h : Sq 1 iCells w v l) (hl : l.length <= 1000000000) (f : FuncId) (hf : Enters f) (p : Int -> Bool) (hp : ∀ W (x : Int), Later w W -> x ∈ l -> Calls Tryz.prog f #[.int .i64 x] W (RetV W (.bool (p x)))) :
 Calls Tryz.prog 87 #[v, .func (.func f) #[] #[]] w (RetZ w (FirstX p l)) := by
 have H := hide h; have HP := hide hp
 have hen := hf.out
 obtain ⟨A0, nt, ct, rfl, hnt, -, -, -⟩ := h.form
 have HNT := hide hnt
 have hn9 : nt <= 1000000000 := by omega
 clear h hp hnt hl
 go_enter Tryz.func87, Tryz.ntmps87
 go_wp2_with fail
 go_loopw [8] (fun i wr => ∃ j : Nat, j <= nt /\ i = .int .i64 (j : Int) /\ Hid (∀ (i : Nat) r, i < j -> l[i]? = some r -> p r = false) /\ Later w wr) (fun i _ => (nt - intOf i).toNat)
 case atStart => exact ⟨0, by omega, rfl, hide fun i r hi => by omega, Later.refl w⟩
 case round =>
  obtain ⟨j, hj, rfl, hpre, hL⟩ := hrel
  by_cases hjn : j < nt
  ·obtain ⟨x, hx⟩ : ∃ x, l[j]? = some x := ⟨l[j]'(by have := HNT.out; omega), List.getElem?_eq_getElem _⟩
   obtain ⟨b1, off1, rfl, x1⟩ := (H.out.later hL).at1 hx
   have HX := hide hx
   obtain ⟨u, hu⟩ : ∃ u, p x = u := ⟨_, rfl⟩
   have HU := hide hu
   have hj0 : (0 : Int) <= (j : Int) := by omega
   have hj1 : (j : Int) < nt := by omega
   clear hx hu
   go_wp2_with fail
   refine (HP.out _ _ hL (List.mem_of_getElem? HX.out)).mono ?_
   rintro e w8 ⟨rfl, b8⟩
   rw [HU.out]
   have hL8 := hL.trans b8
   cases u
   case false =>
    have HN : Hid (∀ (i : Nat) r, i < j + 1 -> l[i]? = some r -> p r = false) := hide fun i r hi hr => by
     by_cases hij : i < j
     ·exact hpre.out i r hij hr
     ·obtain rfl : i = j := by omega
      rw [HX.out] at hr; injection hr with hr; rw [<- hr, HU.out]
    go_wp2_with fail
    exact ⟨⟨j+1, by omega, by go_num, HN, hL8⟩, by simp [intOf]; omega⟩
   case true =>
    have HF : Hid (FirstX p l j) := hide (.inr ⟨j, x, rfl, HX.out, HU.out, hpre.out⟩)
    go_wp2_with fail
    go_ret
    exact ⟨_, rfl, HF.out, hL8⟩
  ·obtain rfl : j = nt := by omega
   have HF : Hid (FirstX p l (-1)) := hide (.inl ⟨rfl, fun x hr => by
    obtain ⟨i, hi⟩ := List.getElem?_of_mem hr
    exact hpre.out i x (by rw [HNT.out]; exact (List.getElem?_eq_some_iff.1 hi).1) hi⟩)
   go_wp2_with fail
   go_ret
   exact ⟨_, rfl, HF.out, hL⟩
set_option maxHeartbeats 1000000 in
theorem contI0_calls (w : World) (v : Value) (l : List Int) (h : Sq 1 iCells w v l) (hl : l.length <= 1000000000) (f : FuncId) (hf : Enters f) (p : Int -> Bool) (hp : ∀ W (x : Int), Later w W -> x ∈ l -> Calls Tryz.prog f #[.int .i64 x] W (RetV W (.bool (p x)))) (u : Bool) (hu : l.any p = u) :
 Calls Tryz.prog 46 #[v, .func (.func f) #[] #[]] w (RetV w (.bool u)) := by
 have H := hide h; have HP := hide hp; have HU := hide hu
 obtain ⟨A0, nt, ct, rfl, hnt, -, -, -⟩ := h.form
 clear h hp hnt hu
 go_enter Tryz.func46, Tryz.ntmps46
 go_wp2_with fail
 refine (idxI0_calls _ _ l H.out hl f hf  p HP.out).mono ?_
 rintro e w1 ⟨z, rfl, hz, b1⟩
 have hd := firstX_any hz
 rw [HU.out] at hd
 have HD := hide hd
 clear hz hd
 go_wp2_with fail
 go_ret
 exact ⟨by simp [HD.out], b1⟩
set_option maxHeartbeats 2000000 in
theorem idxT0_calls (w : World) (v : Value) (l : List PItem) (h : Its 12 w v l) (hl : l.length <= 1000000000) (f : FuncId) (hf : Enters f) (p : PItem -> Bool) (hp : ∀ W (e1 e2 e3 : ICells) (x : PItem), Later w W -> ENum 12 W (.agg #[.bool e1.a, .slice e1.A e1.n e1.c, .bool e1.a', .slice e1.A' e1.n' e1.c']) x.s x.sf -> ENum 12 W (.agg #[.bool e2.a, .slice e2.A e2.n e2.c, .bool e2.a', .slice e2.A' e2.n' e2.c']) x.h x.hf -> ENum 12 W (.agg #[.bool e3.a, .slice e3.A e3.n e3.c, .bool e3.a', .slice e3.A' e3.n' e3.c']) x.b x.bf -> x ∈ l -> Calls Tryz.prog f #[.agg #[.bool e1.a, .slice e1.A e1.n e1.c, .bool e1.a', .slice e1.A' e1.n' e1.c', .bool e2.a, .slice e2.A e2.n e2.c, .bool e2.a', .slice e2.A' e2.n' e2.c', .bool e3.a, .slice e3.A e3.n e3.c, .bool e3.a', .slice e3.A' e3.n' e3.c']] W (RetV W (.bool (p x)))) :
 Calls Tryz.prog 120 #[v, .func (.func f) #[] #[]] w (RetZ w (FirstX p l)) := by
 have H := hide h; have HP := hide hp
 have hen := hf.out
 obtain ⟨A0, nt, ct, rfl, hnt, -, -, -⟩ := h.form
 have HNT := hide hnt
 have hn9 : nt <= 1000000000 := by omega
 clear h hp hnt hl
 go_enter Tryz.func120, Tryz.ntmps120
 go_wp2_with fail
 go_loopw [8] (fun i wr => ∃ j : Nat, j <= nt /\ i = .int .i64 (j : Int) /\ Hid (∀ (i : Nat) r, i < j -> l[i]? = some r -> p r = false) /\ Later w wr) (fun i _ => (nt - intOf i).toNat)
 case atStart => exact ⟨0, by omega, rfl, hide fun i r hi => by omega, Later.refl w⟩
 case round =>
  obtain ⟨j, hj, rfl, hpre, hL⟩ := hrel
  by_cases hjn : j < nt
  ·obtain ⟨x, hx⟩ : ∃ x, l[j]? = some x := ⟨l[j]'(by have := HNT.out; omega), List.getElem?_eq_getElem _⟩
   obtain ⟨b1, off1, rfl, e1, e2, e3, x0, x1, x2, x3, x4, x5, x6, x7, x8, x9, x10, x11, m1, m2, m3⟩ := (H.out.later hL).at12 hx
   have HX := hide hx; have M1 := hide m1; have M2 := hide m2; have M3 := hide m3
   clear m1 m2 m3
   obtain ⟨u, hu⟩ : ∃ u, p x = u := ⟨_, rfl⟩
   have HU := hide hu
   have hj0 : (0 : Int) <= (j : Int) := by omega
   have hj1 : (j : Int) < nt := by omega
   clear hx hu
   go_wp2_with fail
   refine (HP.out _ _ _ _ _ hL M1.out M2.out M3.out (List.mem_of_getElem? HX.out)).mono ?_
   rintro e w8 ⟨rfl, b8⟩
   rw [HU.out]
   have hL8 := hL.trans b8
   cases u
   case false =>
    have HN : Hid (∀ (i : Nat) r, i < j + 1 -> l[i]? = some r -> p r = false) := hide fun i r hi hr => by
     by_cases hij : i < j
     ·exact hpre.out i r hij hr
     ·obtain rfl : i = j := by omega
      rw [HX.out] at hr; injection hr with hr; rw [<- hr, HU.out]
    go_wp2_with fail
    exact ⟨⟨j+1, by omega, by go_num, HN, hL8⟩, by simp [intOf]; omega⟩
   case true =>
    have HF : Hid (FirstX p l j) := hide (.inr ⟨j, x, rfl, HX.out, HU.out, hpre.out⟩)
    go_wp2_with fail
    go_ret
    exact ⟨_, rfl, HF.out, hL8⟩
  ·obtain rfl : j = nt := by omega
   have HF : Hid (FirstX p l (-1)) := hide (.inl ⟨rfl, fun x hr => by
    obtain ⟨i, hi⟩ := List.getElem?_of_mem hr
    exact hpre.out i x (by rw [HNT.out]; exact (List.getElem?_eq_some_iff.1 hi).1) hi⟩)
   go_wp2_with fail
   go_ret
   exact ⟨_, rfl, HF.out, hL⟩
set_option maxHeartbeats 1000000 in
theorem contT0_calls (w : World) (v : Value) (l : List PItem) (h : Its 12 w v l) (hl : l.length <= 1000000000) (f : FuncId) (hf : Enters f) (p : PItem -> Bool) (hp : ∀ W (e1 e2 e3 : ICells) (x : PItem), Later w W -> ENum 12 W (.agg #[.bool e1.a, .slice e1.A e1.n e1.c, .bool e1.a', .slice e1.A' e1.n' e1.c']) x.s x.sf -> ENum 12 W (.agg #[.bool e2.a, .slice e2.A e2.n e2.c, .bool e2.a', .slice e2.A' e2.n' e2.c']) x.h x.hf -> ENum 12 W (.agg #[.bool e3.a, .slice e3.A e3.n e3.c, .bool e3.a', .slice e3.A' e3.n' e3.c']) x.b x.bf -> x ∈ l -> Calls Tryz.prog f #[.agg #[.bool e1.a, .slice e1.A e1.n e1.c, .bool e1.a', .slice e1.A' e1.n' e1.c', .bool e2.a, .slice e2.A e2.n e2.c, .bool e2.a', .slice e2.A' e2.n' e2.c', .bool e3.a, .slice e3.A e3.n e3.c, .bool e3.a', .slice e3.A' e3.n' e3.c']] W (RetV W (.bool (p x)))) (u : Bool) (hu : l.any p = u) :
 Calls Tryz.prog 97 #[v, .func (.func f) #[] #[]] w (RetV w (.bool u)) := by
 have H := hide h; have HP := hide hp; have HU := hide hu
 obtain ⟨A0, nt, ct, rfl, hnt, -, -, -⟩ := h.form
 clear h hp hnt hu
 go_enter Tryz.func97, Tryz.ntmps97
 go_wp2_with fail
 refine (idxT0_calls _ _ l H.out hl f hf  p HP.out).mono ?_
 rintro e w1 ⟨z, rfl, hz, b1⟩
 have hd := firstX_any hz
 rw [HU.out] at hd
 have HD := hide hd
 clear hz hd
 go_wp2_with fail
 go_ret
 exact ⟨by simp [HD.out], b1⟩
end Go.Proofs.YtncbebfhakcgdaaGreat
namespace Go.Proofs.YtncbebfhakcgdaaGreat
open Go.RowKit Go.Shelf
attribute [local go_sem ↓] Go.wp_at_zero Go.wp_at_succ
theorem flag_ne (f : Bool) : decide ((if f then (1 : Rat) else 0) ≠ 0) = f := by cases f <;> simp
theorem cost_neg {q : Rat} {f : Bool} {c : Int} (hc : cmpQ q 0 = c) : (!f || decide (c < 0)) = !costB q f := by
 have : decide (c < 0) = !decide (0 <= q) := by
  rw [<- hc]; unfold cmpQ
  by_cases h : q < 0
  ·have h2 : ¬ 0 <= q := by grind
   simp [h, h2]
  ·have h2 : 0 <= q := by grind
   by_cases h3 : 0 < q <;> simp [h, h2, h3]
 rw [this]; unfold costB; cases f <;> simp
theorem rtmay_calls (w : World) (v : Value) (q : Rat) (h : EFlag w v q) : Calls Tryz.prog 101 #[v] w (RetV w (.bool (decide (q ≠ 0)))) := by
 obtain ⟨sx, A1, n1, c1, sx', A2, n2, c2, y, rfl, hy, hq⟩ := h
 refine (may_calls w sx _ undef A2 n2 c2 sx' y 1000 hy ⟨_, _, _, rfl⟩ (by omega)).mono ?_
 rintro e w1 ⟨rfl, b1⟩
 exact ⟨by rw [hq]; by_cases h : 0 < y <;> simp [h], b1⟩
set_option maxHeartbeats 1000000 in
theorem plzero_calls (w : World) : Calls Tryz.prog 103 #[] w (Ret w fun w' v => OwnR w' w.heap.size v 0) := by
 go_enter Tryz.func103, Tryz.ntmps103
 go_wp2_with fail
 refine (rplain_calls _ _ 0 0 (rawR_zero _ 0) (by omega)).mono ?_
 rintro e w1 ⟨v1, rfl, o1, b1⟩
 obtain ⟨s1, P1, q1, e1, P1', q1', e1', rfl, o1⟩ := o1.open_; have O1 := hide o1; clear o1
 have hL := ((Later.refl w).alloc (Obj.cells #[.bool false, .slice none 0 0, .bool false, .slice none 0 0] 67)).trans b1
 have hrow := ((Row.new w 67 [.bool false, .slice none 0 0, .bool false, .slice none 0 0]).later b1)
 obtain ⟨c0, c1, c2, c3, f0, f1, f2, f3⟩ := row_cells4 hrow
 have HR := hide hrow
 clear hrow
 go_wp2_with fail
 refine bodyPost_ret (results_rat rfl rfl (HR.out.four _ _ _ _)) rfl ?_
 have oo := Only.four w.heap.size w1 (.bool s1) (.slice P1 q1 e1) (.bool false) (.slice P1' q1' e1')
 exact ⟨_, rfl, (O1.out.only oo (by simp)).weaken (by simp), hL.only oo (Nat.le_refl _)⟩
set_option maxHeartbeats 2000000 in
theorem head11_calls (w : World) (v : Value) (q : Rat) (f : Bool) (h : ENum 12 w v q f) :
 Calls Tryz.prog 100 #[v] w (RetV w (.bool (!costB q f))) := by
 have H := hide h.1; have HF := hide h.2
 obtain ⟨sx, A1, n1, c1, sx', A2, n2, c2, rfl⟩ := h.1.open_
 obtain ⟨cz, hcz⟩ : ∃ cz, cmpQ q 0 = cz := ⟨_, rfl⟩
 have hc := cost_neg (f := f) hcz
 have HCZ := hide hcz
 clear h hcz
 obtain ⟨u9, t9⟩ : ∃ u9, decide (cz < 0) = u9 := ⟨_, rfl⟩
 have t8 : decide (0 <= cz) = !u9 := by
  rw [<- t9]
  rcases Int.lt_or_le cz 0 with h | h
  ·rw [decide_eq_true h, decide_eq_false (by omega)]; rfl
  ·rw [decide_eq_true h, decide_eq_false (by omega)]; rfl
 rw [t9] at hc
 have HC := hide hc
 clear hc
 obtain ⟨W0, hW0⟩ : ∃ W0, W0 = w.alloc (Obj.cells #[Value.bool sx, Value.slice A1 n1 c1, Value.bool sx', Value.slice A2 n2 c2] 67) := ⟨_, rfl⟩
 obtain ⟨hb0, r1, hsz0⟩ := boxes1 w [.bool sx, .slice A1 n1 c1, .bool sx', .slice A2 n2 c2] 67 hW0
 have B0 := hide hb0; have HW0 := hide hW0
 have hr1 := r1.drew
 have HT1 : Hid (∀ w', Later W0.drew w' -> w'.cell? ⟨w.heap.size, 0, none⟩ = some (.bool sx) /\ w'.cell? ⟨w.heap.size, 1, none⟩ = some (.slice A1 n1 c1) /\ w'.cell? ⟨w.heap.size, 2, none⟩ = some (.bool sx') /\ w'.cell? ⟨w.heap.size, 3, none⟩ = some (.slice A2 n2 c2)) :=
  hide fun w' hb => ⟨(hr1.later hb).cell rfl, (hr1.later hb).cell rfl, (hr1.later hb).cell rfl, (hr1.later hb).cell rfl⟩
 clear r1 hb0 hW0 hr1
 go_enter Tryz.func100, Tryz.ntmps100
 go_upto_region 1 with fail
 rw [<- HW0.out]
 have hmx : Tryz.prog.follows .mixedOrders = true := by kernel_rfl
 cases f with
 | false =>
   refine wp_region_N (fun w' => w'.cell? ⟨w.heap.size, 0, none⟩ = some (.bool sx) /\ w'.cell? ⟨w.heap.size, 1, none⟩ = some (.slice A1 n1 c1) /\ w'.cell? ⟨w.heap.size, 2, none⟩ = some (.bool sx') /\ w'.cell? ⟨w.heap.size, 3, none⟩ = some (.slice A2 n2 c2)) [] hmx (HT1.out _ (Later.refl _)) (fun hHeld => ?_)
   refine tkB 3 0 ?_
   refine wpAnyN_ready (rs := [1]) (by kernel_rfl) (by simp) ?_
   refine AllReadyN.held rfl (by rfl) (fun K hK => ?_) AllReadyN.nil
   go_simp
   refine (rtmay_calls _ _ _ (EFlag.later _ _ _ _ HF.out (B0.out.drew.trans (Later.refl W0.drew)))).mono ?_
   rintro e w1 ⟨rfl, b1⟩
   rw [flag_ne]
   refine hK.out _ _ ?_ (fun hHeld => ?_)
   ·exact HT1.out _ ((Later.refl W0.drew).trans b1)
   clear hK K
   try simp only [Act.put, s1_, s2_, s3_]
   refine tkB 5 2 ?_
   refine tkB 6 3 ?_
   refine tkU 7 4 ?_
   try simp only [Act.put, s1_, s2_, s3_]
   refine tkU 8 5 ?_
   try simp only [Act.put, s1_, s2_, s3_]
   refine tkU 9 6 ?_
   try simp only [Act.put, s1_, s2_, s3_]
   refine tkU 10 7 ?_
   try simp only [Act.put, s1_, s2_, s3_]
   refine tkB 11 8 ?_
   refine tkB 2 9 ?_
   refine wpAnyN_done (by kernel_rfl) ?_ _
   have HL := hide (B0.out.drew.trans ((Later.refl W0.drew).trans b1))
   clear hHeld
   go_wp2_with fail
   go_ret
   exact ⟨by rw [<- HC.out]; rfl, HL.out⟩
 | true =>
   refine wp_region_N (fun w' => w'.cell? ⟨w.heap.size, 0, none⟩ = some (.bool sx) /\ w'.cell? ⟨w.heap.size, 1, none⟩ = some (.slice A1 n1 c1) /\ w'.cell? ⟨w.heap.size, 2, none⟩ = some (.bool sx') /\ w'.cell? ⟨w.heap.size, 3, none⟩ = some (.slice A2 n2 c2)) [] hmx (HT1.out _ (Later.refl _)) (fun hHeld => ?_)
   refine tkB 3 0 ?_
   refine wpAnyN_ready (rs := [1]) (by kernel_rfl) (by simp) ?_
   refine AllReadyN.held rfl (by rfl) (fun K hK => ?_) AllReadyN.nil
   go_simp
   refine (rtmay_calls _ _ _ (EFlag.later _ _ _ _ HF.out (B0.out.drew.trans (Later.refl W0.drew)))).mono ?_
   rintro e w1 ⟨rfl, b1⟩
   rw [flag_ne]
   refine hK.out _ _ ?_ (fun hHeld => ?_)
   ·exact HT1.out _ ((Later.refl W0.drew).trans b1)
   clear hK K
   try simp only [Act.put, s1_, s2_, s3_]
   refine tkB 5 2 ?_
   refine tkB 6 3 ?_
   refine tkB 7 4 ?_
   refine wpAnyN_ready (rs := [5]) (by kernel_rfl) (by simp) ?_
   refine AllReadyN.held rfl (by rfl) (fun K hK => ?_) AllReadyN.nil
   go_simp
   refine (plzero_calls _).mono ?_
   rintro e w5 ⟨v5, rfl, o5, b5⟩
   obtain ⟨s5, P5, q5, e5, P5', q5', e5', rfl, o5⟩ := o5.open_; have O5 := hide o5; clear o5
   refine hK.out _ _ ?_ (fun hHeld => ?_)
   ·exact HT1.out _ (((Later.refl W0.drew).trans b1).trans b5)
   clear hK K
   try simp only [Act.put, s1_, s2_, s3_]
   refine wpAnyN_ready (rs := [6]) (by kernel_rfl) (by simp) ?_
   refine AllReadyN.held rfl (by rfl) (fun K hK => ?_) AllReadyN.nil
   go_simp
   refine (rcmp_calls _ _ _ q 0 12 1 (RawR.later H.out (B0.out.drew.trans (((Later.refl W0.drew).trans b1).trans b5))) (OwnR.raw O5.out sized_0) (by omega)).mono ?_
   rintro e w6 ⟨rfl, b6⟩
   rw [HCZ.out]
   refine hK.out _ _ ?_ (fun hHeld => ?_)
   ·exact HT1.out _ ((((Later.refl W0.drew).trans b1).trans b5).trans b6)
   clear hK K
   try simp only [Act.put, s1_, s2_, s3_]
   refine tkB 10 7 ?_
   refine tkB 11 8 ?_
   refine tkB 2 9 ?_
   refine wpAnyN_done (by kernel_rfl) ?_ _
   have HL := hide (B0.out.drew.trans ((((Later.refl W0.drew).trans b1).trans b5).trans b6))
   clear hHeld
   go_wp2_with fail
   go_ret
   exact ⟨by rw [<- HC.out]; rfl, HL.out⟩
theorem rats_three {E : Elem} {w : World} {g : Nat} {s1 s1' s2 s2' s3 s3' : Bool} {A1 A1' A2 A2' A3 A3' : Option Addr} {n1 c1 n1' c1' n2 c2 n2' c2' n3 c3 n3' c3' : Nat} {p q r : Rat} (hr : Row w g 67 [.bool s1, .slice A1 n1 c1, .bool s1', .slice A1' n1' c1', .bool s2, .slice A2 n2 c2, .bool s2', .slice A2' n2' c2', .bool s3, .slice A3 n3 c3, .bool s3', .slice A3' n3' c3'])
 (h : E w (.agg #[.bool s1, .slice A1 n1 c1, .bool s1', .slice A1' n1' c1']) p) (k : E w (.agg #[.bool s2, .slice A2 n2 c2, .bool s2', .slice A2' n2' c2']) q) (m : E w (.agg #[.bool s3, .slice A3 n3 c3, .bool s3', .slice A3' n3' c3']) r) :
 Rats E w (.slice (some ⟨g, 0, none⟩) 3 3) [p, q, r] := by
 refine ⟨_, 3, rfl, Nat.le_refl _, by decide, fun i q' hi => ?_⟩
 match i, hi with
 | 0, hi => simp at hi; subst hi; exact ⟨g, 0, s1, A1, n1, c1, s1', A1', n1', c1', rfl, hr.cell rfl, hr.cell rfl, hr.cell rfl, hr.cell rfl, h⟩
 | 1, hi => simp at hi; subst hi; exact ⟨g, 0, s2, A2, n2, c2, s2', A2', n2', c2', rfl, hr.cell rfl, hr.cell rfl, hr.cell rfl, hr.cell rfl, k⟩
 | 2, hi => simp at hi; subst hi; exact ⟨g, 0, s3, A3, n3, c3, s3', A3', n3', c3', rfl, hr.cell rfl, hr.cell rfl, hr.cell rfl, hr.cell rfl, m⟩
 | i+3, hi => simp at hi
def ECost : Elem := fun w v x => ∃ q f, ENum 12 w v q f /\ x = if costB q f then 1 else 0
theorem ECost.later (w w' : World) (v : Value) (q : Rat) (h : ECost w v q) (hb : Later w w') : ECost w' v q := by
 obtain ⟨x, f, h1, h2⟩ := h; exact ⟨x, f, h1.later hb, h2⟩
theorem head11c_calls (w : World) (v : Value) (x : Rat) (h : ECost w v x) : Calls Tryz.prog 100 #[v] w (RetV w (.bool (decide (x = 0)))) := by
 obtain ⟨q, f, h1, rfl⟩ := h
 refine (head11_calls w v q f h1).mono ?_
 rintro e w1 ⟨rfl, b1⟩
 exact ⟨by cases costB q f <;> simp, b1⟩
theorem okB_any (x : PItem) : [(if costB x.s x.sf then (1 : Rat) else 0), if costB x.h x.hf then 1 else 0, if costB x.b x.bf then 1 else 0].any (fun y => decide (y = 0)) = !x.okB := by
 unfold PItem.okB
 cases costB x.s x.sf <;> cases costB x.h x.hf <;> cases costB x.b x.bf <;> simp
set_option maxHeartbeats 2000000 in
theorem head1_calls (w : World) (e1 e2 e3 : ICells) (x : PItem) (h1 : ENum 12 w (.agg #[.bool e1.a, .slice e1.A e1.n e1.c, .bool e1.a', .slice e1.A' e1.n' e1.c']) x.s x.sf) (h2 : ENum 12 w (.agg #[.bool e2.a, .slice e2.A e2.n e2.c, .bool e2.a', .slice e2.A' e2.n' e2.c']) x.h x.hf) (h3 : ENum 12 w (.agg #[.bool e3.a, .slice e3.A e3.n e3.c, .bool e3.a', .slice e3.A' e3.n' e3.c']) x.b x.bf) :
 Calls Tryz.prog 98 #[.agg #[.bool e1.a, .slice e1.A e1.n e1.c, .bool e1.a', .slice e1.A' e1.n' e1.c', .bool e2.a, .slice e2.A e2.n e2.c, .bool e2.a', .slice e2.A' e2.n' e2.c', .bool e3.a, .slice e3.A e3.n e3.c, .bool e3.a', .slice e3.A' e3.n' e3.c']] w (RetV w (.bool (!x.okB))) := by
 have H1 := hide h1; have H2 := hide h2; have H3 := hide h3
 clear h1 h2 h3
 obtain ⟨W0, hW0⟩ : ∃ W0, W0 = (w.alloc (Obj.cells #[Value.bool e1.a, Value.slice e1.A e1.n e1.c, Value.bool e1.a', Value.slice e1.A' e1.n' e1.c', Value.bool e2.a, Value.slice e2.A e2.n e2.c, Value.bool e2.a', Value.slice e2.A' e2.n' e2.c', Value.bool e3.a, Value.slice e3.A e3.n e3.c, Value.bool e3.a', Value.slice e3.A' e3.n' e3.c'] 69)) := ⟨_, rfl⟩
 obtain ⟨hb0, r0, hsz0⟩ := boxes1 w [.bool e1.a, .slice e1.A e1.n e1.c, .bool e1.a', .slice e1.A' e1.n' e1.c', .bool e2.a, .slice e2.A e2.n e2.c, .bool e2.a', .slice e2.A' e2.n' e2.c', .bool e3.a, .slice e3.A e3.n e3.c, .bool e3.a', .slice e3.A' e3.n' e3.c'] 69 hW0
 have B0 := hide hb0; have HW0 := hide hW0
 have R0 := hide r0
 clear hb0 hW0 hsz0 r0
 go_enter Tryz.func98, Tryz.ntmps98
 go_upto_region 1 with fail
 rw [<- HW0.out]
 have r_d := R0.out.later (Later.refl W0)
 have d0 := r_d.cell (i := 0) rfl; have d1 := r_d.cell (i := 1) rfl; have d2 := r_d.cell (i := 2) rfl; have d3 := r_d.cell (i := 3) rfl; have d4 := r_d.cell (i := 4) rfl; have d5 := r_d.cell (i := 5) rfl; have d6 := r_d.cell (i := 6) rfl; have d7 := r_d.cell (i := 7) rfl; have d8 := r_d.cell (i := 8) rfl; have d9 := r_d.cell (i := 9) rfl; have d10 := r_d.cell (i := 10) rfl; have d11 := r_d.cell (i := 11) rfl
 clear r_d
 go_wp2_with fail
 have hL : Later W0 (W0.alloc (Obj.cells #[Value.bool e1.a, Value.slice e1.A e1.n e1.c, Value.bool e1.a', Value.slice e1.A' e1.n' e1.c', Value.bool e2.a, Value.slice e2.A e2.n e2.c, Value.bool e2.a', Value.slice e2.A' e2.n' e2.c', Value.bool e3.a, Value.slice e3.A e3.n e3.c, Value.bool e3.a', Value.slice e3.A' e3.n' e3.c'] 67)) := (Later.refl W0).alloc _
 have hrow := Row.new W0 67 [.bool e1.a, .slice e1.A e1.n e1.c, .bool e1.a', .slice e1.A' e1.n' e1.c', .bool e2.a, .slice e2.A e2.n e2.c, .bool e2.a', .slice e2.A' e2.n' e2.c', .bool e3.a, .slice e3.A e3.n e3.c, .bool e3.a', .slice e3.A' e3.n' e3.c']
 have HL := hide hL; have HR := hide hrow
 clear hL hrow d0 d1 d2 d3 d4 d5 d6 d7 d8 d9 d10 d11
 refine (contq_calls _ _ _ ECost ECost.later (rats_three HR.out ⟨_, _, H1.out.later (B0.out.trans HL.out), rfl⟩ ⟨_, _, H2.out.later (B0.out.trans HL.out), rfl⟩ ⟨_, _, H3.out.later (B0.out.trans HL.out), rfl⟩) (by simp) _ ⟨fun _ _ => by kernel_rfl⟩ (fun y => decide (y = 0)) (fun W xv y _ hy _ => head11c_calls W xv y hy) _ (okB_any x)).mono ?_
 rintro e w1 ⟨rfl, b1⟩
 have HB := hide (B0.out.trans (HL.out.trans b1))
 clear b1
 go_wp2_with fail
 go_ret
 exact ⟨rfl, HB.out⟩
set_option maxHeartbeats 2000000 in
theorem head2_calls (w : World) (x : Int) :
 Calls Tryz.prog 104 #[.int .i64 x] w (RetV w (.bool (!decide (0 <= x /\ x <= 100)))) := by
 obtain ⟨u, t1⟩ : ∃ u, decide (0 <= x /\ x <= 100) = u := ⟨_, rfl⟩
 rw [t1]
 go_enter Tryz.func104, Tryz.ntmps104
 go_wp2_with ((with_reducible refine (pin_calls _ _ _ _ u t1).mono ?_); rintro e w1 ⟨rfl, rfl⟩)
 go_ret
 exact ⟨rfl, Later.refl w⟩
theorem BookIn.lens {w : World} {A1 A2 A3 A4 : Option Addr} {n1 n2 n3 n4 c1 c2 c3 c4 : Nat} {D : PBook} (h : BookIn w (.slice A1 n1 c1) (.slice A2 n2 c2) (.slice A3 n3 c3) (.slice A4 n4 c4) D) :
 n1 = D.items.length /\ n2 = D.caps.length /\ n3 = D.ords.length /\ n4 = D.mks.length := by
 obtain ⟨_, _, _, e1, h1, -⟩ := h.its.form
 obtain ⟨_, _, _, e2, h2, -⟩ := h.caps.form
 obtain ⟨_, _, _, e3, h3, -⟩ := h.ords.form
 obtain ⟨_, _, _, e4, h4, -⟩ := h.mks.form
 injection e1 with _ e1 _; injection e2 with _ e2 _; injection e3 with _ e3 _; injection e4 with _ e4 _
 exact ⟨e1.trans h1, e2.trans h2, e3.trans h3, e4.trans h4⟩
theorem any_not_all {α : Type} {p : α -> Bool} {l : List α} {u : Bool} (h : l.any (fun x => !p x) = u) : u = false ↔ ∀ x ∈ l, p x = true := by
 rw [<- h, List.any_eq_false]
 constructor <;> intro h x hx <;> have := h x hx <;> simpa using this
end Go.Proofs.YtncbebfhakcgdaaGreat
