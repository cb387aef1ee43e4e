/- Plans: which books and plans are gone through. -/
import Derived.Test.YtncbebfhakcgdaaGreatC17
import Derived.Test.YtncbebfhakcgdaaGreatC10
import Derived.SizedLaws
import Derived.Test.YtncbebfhakcgdaaGreatC12
set_option linter.unusedVariables false
set_option linter.unusedSimpArgs false
set_option maxRecDepth 100000
namespace Go.Proofs.YtncbebfhakcgdaaGreat
open Go.RowKit Go.Shelf
attribute [local go_sem ↓] Go.wp_at_zero Go.wp_at_succ
instance : Inhabited PItem := ⟨item0⟩
def ItemAt (E : World -> Value -> Rat -> Bool -> Prop) (w : World) (A : Option Addr) (i : Nat) (x : PItem) : Prop :=
 ∃ b off, A = some ⟨b, off, none⟩ /\ ∃ e1 e2 e3 : ICells, w.cell? ⟨b, off + i * 12, none⟩ = some (.bool e1.a) /\ w.cell? ⟨b, off + i * 12 + 1, none⟩ = some (.slice e1.A e1.n e1.c) /\ w.cell? ⟨b, off + i * 12 + 2, none⟩ = some (.bool e1.a') /\ w.cell? ⟨b, off + i * 12 + 3, none⟩ = some (.slice e1.A' e1.n' e1.c') /\ w.cell? ⟨b, off + i * 12 + 4, none⟩ = some (.bool e2.a) /\ w.cell? ⟨b, off + i * 12 + 5, none⟩ = some (.slice e2.A e2.n e2.c) /\ w.cell? ⟨b, off + i * 12 + 6, none⟩ = some (.bool e2.a') /\ w.cell? ⟨b, off + i * 12 + 7, none⟩ = some (.slice e2.A' e2.n' e2.c') /\ w.cell? ⟨b, off + i * 12 + 8, none⟩ = some (.bool e3.a) /\ w.cell? ⟨b, off + i * 12 + 9, none⟩ = some (.slice e3.A e3.n e3.c) /\ w.cell? ⟨b, off + i * 12 + 10, none⟩ = some (.bool e3.a') /\ w.cell? ⟨b, off + i * 12 + 11, none⟩ = some (.slice e3.A' e3.n' e3.c') /\ E w (.agg #[.bool e1.a, .slice e1.A e1.n e1.c, .bool e1.a', .slice e1.A' e1.n' e1.c']) x.s x.sf /\ E w (.agg #[.bool e2.a, .slice e2.A e2.n e2.c, .bool e2.a', .slice e2.A' e2.n' e2.c']) x.h x.hf /\ E w (.agg #[.bool e3.a, .slice e3.A e3.n e3.c, .bool e3.a', .slice e3.A' e3.n' e3.c']) x.b x.bf
def EAnyF : World -> Value -> Rat -> Bool -> Prop := fun w v q _ => ∃ s A n c s' A' n' c', v = .agg #[.bool s, .slice A n c, .bool s', .slice A' n' c'] /\ EAny w v q /\ n <= 35184372088832 /\ n' <= 35184372088832
def ItsAny (w : World) (A : Option Addr) (n c : Nat) : Prop := n <= c /\ c <= maxLen /\ ∀ i < n, ∃ x, ItemAt EAnyF w A i x
end Go.Proofs.YtncbebfhakcgdaaGreat
namespace Go.Proofs.YtncbebfhakcgdaaGreat
open Go.RowKit Go.Shelf
attribute [local go_sem ↓] Go.wp_at_zero Go.wp_at_succ
def D0 : PBook := ⟨[⟨5, 1, 2, true, true, true⟩], 2, 0, [4, 4], [⟨1, 0, 1, 3⟩], []⟩
theorem enum_own {w : World} {v : Value} {q : Rat} {B : Nat} (h : OwnR w B v q) (hs : Sized q 1) : ENum 12 w v q true :=
 ⟨RawR.mono (OwnR.raw h hs) (by omega), by simpa using EFlag.of_own h (hs.mono (by omega))⟩
end Go.Proofs.YtncbebfhakcgdaaGreat
namespace Go.Proofs.YtncbebfhakcgdaaGreat
open Go.RowKit Go.Shelf
attribute [local go_sem ↓] Go.wp_at_zero Go.wp_at_succ
theorem EAnyF.later {w w' : World} {v : Value} {q : Rat} {f : Bool} (h : EAnyF w v q f) (hb : Later w w') : EAnyF w' v q f := by
 obtain ⟨s, A, n, c, s', A', n', c', e, h1, h2⟩ := h; exact ⟨s, A, n, c, s', A', n', c', e, EAny.later _ _ _ _ h1 hb, h2⟩
theorem ItsAny.later {w w' : World} {A : Option Addr} {n c : Nat} (h : ItsAny w A n c) (hb : Later w w') : ItsAny w' A n c := by
 refine ⟨h.1, h.2.1, fun i hi => ?_⟩
 obtain ⟨x, b, off, ha, e1, e2, e3, x0, x1, x2, x3, x4, x5, x6, x7, x8, x9, x10, x11, m1, m2, m3⟩ := h.2.2 i hi
 exact ⟨x, b, off, ha, e1, e2, e3, Later.cell hb x0, Later.cell hb x1, Later.cell hb x2, Later.cell hb x3, Later.cell hb x4, Later.cell hb x5, Later.cell hb x6, Later.cell hb x7, Later.cell hb x8, Later.cell hb x9, Later.cell hb x10, Later.cell hb x11, m1.later hb, m2.later hb, m3.later hb⟩
end Go.Proofs.YtncbebfhakcgdaaGreat
namespace Go.Proofs.YtncbebfhakcgdaaGreat
open Go.RowKit Go.Shelf Go.ChangeShapes Go.WideShapes Go.Deep
section
variable {H : Type} {enc : TypeId × Value -> H} {w : World} {base : Nat} {spare : Nat -> Bool} {held : Bool}
def Wt (P : Program) (t : TypeId) (d : DataW H) : Prop := ∀ n ∈ d.weights P t, n <= reachBytes
theorem Wt.all {P : Program} {e : TypeId} {l : List (DataW H)} (h : ∀ n ∈ DataW.weightsAll P e l, n <= reachBytes) {d : DataW H} (hd : d ∈ l) : Wt P e d := by
 induction l with
 | nil => cases hd
 | cons a l ih =>
   intro n hn
   rcases List.mem_cons.1 hd with rfl | hd
   ·exact h n (by simp only [DataW.weightsAll, List.mem_append]; exact .inl hn)
   ·exact ih (fun m hm => h m (by simp only [DataW.weightsAll, List.mem_append]; exact .inr hm)) hd n hn
theorem Wt.slice {P : Program} {t e : TypeId} {es sp : List (DataW H)} (hu : P.underlying t = some (.slice e)) (h : Wt P t (.slice es sp)) : (es.length + sp.length) * P.bytesOf e <= reachBytes /\ ∀ d ∈ es, Wt P e d := by
 unfold Wt at h
 simp only [DataW.weights, hu] at h
 refine ⟨h _ (List.mem_cons_self ..), fun d hd => Wt.all (fun n hn => h n (List.mem_cons_of_mem _ (List.mem_append.2 (.inl hn)))) hd⟩
theorem cellsOrder : Tryz.prog.cellsOf 29 = 4 := by kernel_rfl
theorem cellsII : Tryz.prog.cellsOf 3 = 1 := by kernel_rfl
theorem cellsIIs : Tryz.prog.cellsOf 23 = 1 := by kernel_rfl
theorem wf_fit {z : Int} (h : (Lit.int .i64 z).wf = true) : IFit z := by
 have h3 : -9223372036854775808 <= z /\ z <= 9223372036854775807 := by simpa [Lit.wf, IntKind.min, IntKind.max, IntKind.bits, IntKind.signed] using h
 unfold IFit; omega
theorem is_open {fuel : Nat} {cs : List Value} {y : DataW H × List MemPlace} (h : DataW.trod enc Tryz.prog w base spare held fuel 23 cs = some y) :
 ∃ A n c l, cs = [.slice A n c] /\ Sq 1 iCells w (.slice A n c) l /\ ∀ z ∈ l, IFit z := by
 rcases open_ints Tryz.underlying23 Tryz.underlying3 cellsII h with ⟨rfl, -⟩ | ⟨a, n, c, zs, rfl, -, hl, hm, hz, -, hcell, hwf⟩
 ·exact ⟨_, _, _, [], rfl, Sq.nil _ _ _, by simp⟩
 ·have hzl : n <= zs.length := by rw [hz]; split <;> omega
  refine ⟨_, _, _, zs.take n, rfl, ?_, fun z hz => wf_fit (hwf z (List.mem_of_mem_take hz))⟩
  refine ⟨some a, c, by simp [hzl], by simp; omega, hm, fun i x hi => ?_⟩
  have hin : i < n := by have := (List.getElem?_eq_some_iff.1 hi).1; simp at this; omega
  obtain ⟨b, off, spot⟩ := a
  have hs : spot = none := by simpa [Addr.add] using World.cell?_spot (hcell 0 (by omega))
  subst hs
  have h0 := hcell i (by omega)
  refine ⟨b, off, rfl, fun j u hj => ?_⟩
  have hj0 : j = 0 := by have := (List.getElem?_eq_some_iff.1 hj).1; simp [iCells] at this; omega
  subst hj0
  simp [iCells] at hj
  subst hj
  rw [add_plain] at h0
  rw [Nat.mul_one, Nat.add_zero, h0]
  rw [List.getElem?_take_of_lt hin] at hi
  rw [List.getD_eq_getElem?_getD, hi]; rfl
instance : Inhabited POrd := ⟨⟨0, 0, 0, 0⟩⟩
instance : Inhabited PMk := ⟨⟨0, 0, 0⟩⟩
theorem ord_open {fuel : Nat} {cs : List Value} {y : DataW H × List MemPlace} (h : DataW.trod enc Tryz.prog w base spare held fuel 29 cs = some y) : ∃ o, cs = oCells o /\ o.fit := by
 obtain ⟨xs, m, -, -, hlen, hxl, hx⟩ := DataW.trod_struct Tryz.underlying29 h
 have h0 := hx 0 _ rfl; have h1 := hx 1 _ rfl; have h2 := hx 2 _ rfl; have h3 := hx 3 _ rfl
 rw [cellsOrder] at hlen
 match cs, hlen, xs, hxl with
 | [c0, c1, c2, c3], _, [y0, y1, y2, y3], _ =>
   simp only [List.getElem_toArray, List.getElem_cons_zero, List.getElem_cons_succ, List.getElem?_cons_zero, List.getElem?_cons_succ, cellsII, List.drop_zero, List.drop_succ_cons, List.take_succ_cons, List.take_zero] at h0 h1 h2 h3
   obtain ⟨k0, e0, -, f0⟩ := DataW.trod_int Tryz.underlying3 h0
   obtain ⟨k1, e1, -, f1⟩ := DataW.trod_int Tryz.underlying3 h1
   obtain ⟨k2, e2, -, f2⟩ := DataW.trod_int Tryz.underlying3 h2
   obtain ⟨k3, e3, -, f3⟩ := DataW.trod_int Tryz.underlying3 h3
   simp at e0 e1 e2 e3
   subst e0 e1 e2 e3
   exact ⟨⟨k0, k1, k2, k3⟩, rfl, wf_fit f0, wf_fit f1, wf_fit f2, wf_fit f3⟩
end
end Go.Proofs.YtncbebfhakcgdaaGreat
namespace Go.Proofs.YtncbebfhakcgdaaGreat
open Go.RowKit
structure POp where
 kind : Int
 ord : POrd
 id : Int
 period : Int
 qty : Int
 qtys : List Int
def POrd.isZ (o : POrd) : Bool := decide (o.id = 0 /\ o.item = 0 /\ o.due = 0 /\ o.qty = 0)
def plainB (o : POp) : Bool :=
 decide (1 <= o.kind /\ o.kind <= 5) && (decide (o.kind = 1) || o.ord.isZ) && (decide (o.kind = 2) || decide (o.id = 0)) && (decide (o.kind = 3 ∨ o.kind = 5) || decide (o.period = 0)) && (decide (o.kind = 3) || decide (o.qty = 0)) && (decide (o.kind = 5) || decide (o.qtys.length = 0))
def perE (D : PBook) (p : Int) : Int := if p < 0 ∨ 39 < p then 1 else if p < D.now then 13 else if D.mks.any (fun x => decide (x.period = p)) then 9 else 0
def insO (l : List POrd) (o : POrd) : List POrd := l.filter (fun x => decide (x.id < o.id)) ++ o :: l.filter (fun x => decide (o.id < x.id))
instance instOkP (o : POrd) (n : Nat) : Decidable (o.okP n) := by unfold POrd.okP; infer_instance
def ordV (D : PBook) (o : POrd) : Except Int PBook :=
 if decide (o.okP D.items.length) = false then .error 1 else if D.ords.any (fun x => decide (x.id = o.id)) then .error 7 else if o.due < D.now then .error 13 else if 30 <= D.ords.length then .error 3 else .ok { D with ords := insO D.ords o }
def canV (D : PBook) (id : Int) : Except Int PBook :=
 if D.ords.any (fun x => decide (x.id = id)) = false then .error 8 else if D.ords.any (fun x => decide (x.id = id /\ x.due < D.now)) then .error 13 else .ok { D with ords := D.ords.filter fun x => decide (x.id ≠ id) }
def setC (l : List Int) (p : Nat) (q : Int) : List Int := (l ++ List.replicate (p + 1 - l.length) 0).set p q
def capS (D : PBook) (p q : Int) : Except Int PBook :=
 if q < 0 ∨ 100 < q then .error 1 else if perE D p ≠ 0 then .error (perE D p) else .ok { D with caps := setC D.caps p.toNat q }
def advV (D : PBook) : Except Int PBook := if 40 <= D.now then .error 3 else .ok { D with now := D.now + 1 }
def mksFrom (p : Int) : List Int -> Nat -> List PMk
 | [], _ => []
 | q :: qs, i => ⟨i, p, q⟩ :: mksFrom p qs (i+1)
def putM (l : List PMk) (p : Int) (qs : List Int) : List PMk := l.filter (fun x => decide (x.period < p)) ++ (mksFrom p qs 0 ++ l.filter (fun x => decide (p < x.period)))
def badQ (qs : List Int) : Bool := qs.any fun n => decide (n < 0 ∨ 100 < n)
noncomputable def comV (D : PBook) (p : Int) (qs : List Int) : Except Int PBook :=
 if qs.length ≠ D.items.length then .error 1 else if badQ qs then .error 1 else if perE D p ≠ 0 then .error (perE D p) else if capV D p < sumI qs then .error 10 else .ok { D with mks := putM D.mks p qs }
noncomputable def applyV (D : PBook) (o : POp) : Except Int PBook :=
 if mayB D = false ∨ plainB o = false then .error 1 else if o.kind = 1 then ordV D o.ord else if o.kind = 2 then canV D o.id else if o.kind = 3 then capS D o.period o.qty else if o.kind = 5 then comV D o.period o.qtys else advV D
theorem pw_of_rises {α : Type} {f : α -> Int} : ∀ {l : List α}, (∀ (i : Nat) a b, l[i]? = some a -> l[i+1]? = some b -> f a < f b) -> l.Pairwise (fun a b => f a < f b)
 | [], _ => List.Pairwise.nil
 | [x], _ => by simp
 | x :: y :: l, h => by
   have ih : (y :: l).Pairwise (fun a b => f a < f b) := pw_of_rises fun i a b h1 h2 => h (i+1) a b (by simpa using h1) (by simpa using h2)
   refine List.Pairwise.cons (fun z hz => ?_) ih
   have h0 := h 0 x y rfl rfl
   rcases List.mem_cons.1 hz with rfl | hz
   ·exact h0
   ·have := (List.pairwise_cons.1 ih).1 z hz; omega
theorem rises_of_pw {α : Type} {f : α -> Int} {l : List α} (h : l.Pairwise (fun a b => f a < f b)) (i : Nat) (a b : α) (h1 : l[i]? = some a) (h2 : l[i+1]? = some b) : f a < f b := by
 obtain ⟨k1, e1⟩ := List.getElem?_eq_some_iff.1 h1
 obtain ⟨k2, e2⟩ := List.getElem?_eq_some_iff.1 h2
 have := (List.pairwise_iff_getElem.1 h) i (i+1) k1 k2 (by omega)
 rw [e1, e2] at this; exact this
theorem pw_inj {α : Type} {f : α -> Int} {l : List α} (h : l.Pairwise (fun a b => f a < f b)) {a b : α} (ha : a ∈ l) (hb : b ∈ l) (e : f a = f b) : a = b := by
 induction l with
 | nil => cases ha
 | cons x l ih =>
   obtain ⟨h1, h2⟩ := List.pairwise_cons.1 h
   rcases List.mem_cons.1 ha with e1 | e1 <;> rcases List.mem_cons.1 hb with e2 | e2
   ·rw [e1, e2]
   ·have := h1 b e2; rw [e1] at e; omega
   ·have := h1 a e1; rw [e2] at e; omega
   ·exact ih h2 e1 e2
theorem pw_ext {α : Type} {f : α -> Int} : ∀ {l m : List α}, l.Pairwise (fun a b => f a < f b) -> m.Pairwise (fun a b => f a < f b) -> (∀ x, x ∈ l ↔ x ∈ m) -> l = m
 | [], [], _, _, _ => rfl
 | [], y :: m, _, _, h => by have := (h y).2 (by simp); simp at this
 | x :: l, [], _, _, h => by have := (h x).1 (by simp); simp at this
 | x :: l, y :: m, h1, h2, h => by
   obtain ⟨a1, a2⟩ := List.pairwise_cons.1 h1
   obtain ⟨b1, b2⟩ := List.pairwise_cons.1 h2
   have hxy : x = y := by
    rcases List.mem_cons.1 ((h x).1 (by simp)) with e | e
    ·exact e
    ·rcases List.mem_cons.1 ((h y).2 (by simp)) with e' | e'
     ·exact e'.symm
     ·have := b1 x e; have := a1 y e'; omega
   subst hxy
   rw [pw_ext a2 b2 fun z => ?_]
   constructor
   ·intro hz
    rcases List.mem_cons.1 ((h z).1 (List.mem_cons_of_mem _ hz)) with rfl | e
    ·have := a1 z hz; omega
    ·exact e
   ·intro hz
    rcases List.mem_cons.1 ((h z).2 (List.mem_cons_of_mem _ hz)) with rfl | e
    ·have := b1 z hz; omega
    ·exact e
theorem pw_len {l : List Int} (h : l.Pairwise (· < ·)) (a b : Int) (h1 : ∀ x ∈ l, a <= x /\ x < b) : (l.length : Int) <= b - a ∨ l = [] := by
 induction l generalizing a with
 | nil => exact .inr rfl
 | cons x l ih =>
   left
   obtain ⟨a1, a2⟩ := List.pairwise_cons.1 h
   have hx := h1 x (by simp)
   rcases ih a2 (x+1) (fun y hy => ⟨by have := a1 y hy; omega, (h1 y (by simp [hy])).2⟩) with h3 | h3
   ·rw [List.length_cons]; omega
   ·subst h3; simp; omega
theorem filter_two {α : Type} (p q : α -> Bool) (h : ∀ x, p x = true -> q x = false) (l : List α) : (l.filter p).length + (l.filter q).length <= l.length := by
 induction l with
 | nil => simp
 | cons x l ih =>
   rw [List.filter_cons, List.filter_cons]
   have := h x
   cases hp : p x <;> cases hq : q x <;> simp_all <;> omega
theorem filter_two_eq {α : Type} (p q : α -> Bool) (l : List α) (h : ∀ x ∈ l, p x = !q x) : (l.filter p).length + (l.filter q).length = l.length := by
 induction l with
 | nil => simp
 | cons x l ih =>
   rw [List.filter_cons, List.filter_cons]
   have h1 := h x (by simp)
   have := ih fun y hy => h y (by simp [hy])
   cases hq : q x <;> simp_all <;> omega
theorem MayP.oPw {D : PBook} (h : MayP D) : D.ords.Pairwise fun a b => a.id < b.id := pw_of_rises (f := POrd.id) h.oris
theorem MayP.mPw {D : PBook} (h : MayP D) : D.mks.Pairwise fun a b => a.key < b.key := pw_of_rises (f := PMk.key) h.mris
theorem mksFrom_mem {p : Int} : ∀ {qs : List Int} {i : Nat} {x : PMk}, x ∈ mksFrom p qs i -> x.period = p /\ (i : Int) <= x.item /\ x.item < i + qs.length /\ x.qty ∈ qs
 | [], _, _, h => by cases h
 | q :: qs, i, x, h => by
   rcases List.mem_cons.1 h with rfl | h
   ·refine ⟨rfl, ?_, ?_, by simp⟩ <;> simp <;> omega
   ·have := mksFrom_mem h
    refine ⟨this.1, by omega, ?_, List.mem_cons_of_mem _ this.2.2.2⟩
    rw [List.length_cons]; omega
theorem mksFrom_pw {p : Int} : ∀ (qs : List Int) (i : Nat), (mksFrom p qs i).Pairwise fun a b => a.key < b.key
 | [], _ => List.Pairwise.nil
 | q :: qs, i => List.Pairwise.cons (fun y hy => by have := mksFrom_mem hy; unfold PMk.key; dsimp only; omega) (mksFrom_pw qs (i+1))
theorem mksFrom_len {p : Int} : ∀ (qs : List Int) (i : Nat), (mksFrom p qs i).length = qs.length
 | [], _ => rfl
 | q :: qs, i => by unfold mksFrom; rw [List.length_cons, List.length_cons, mksFrom_len qs]
theorem mks_len {D : PBook} (n : Nat) (hn : n <= 3) (h1 : ∀ x ∈ D.mks, x.okP n) (h2 : D.mks.Pairwise fun a b => a.key < b.key) : D.mks.length <= 120 := by
 have h3 : (D.mks.map fun x => 3 * x.period + x.item).Pairwise (· < ·) := by
  rw [List.pairwise_map]
  refine List.Pairwise.imp_of_mem (fun {a b} ha hb hab => ?_) h2
  have e1 := h1 a ha; have e2 := h1 b hb
  unfold PMk.okP at e1 e2; unfold PMk.key at hab
  omega
 rcases pw_len h3 0 120 (fun x hx => by
  obtain ⟨y, hy, rfl⟩ := List.mem_map.1 hx
  have e1 := h1 y hy
  unfold PMk.okP at e1; omega) with h | h
 ·rw [List.length_map] at h; omega
 ·have := List.map_eq_nil_iff.1 h; rw [this]; simp
theorem setC_len {l : List Int} {p : Nat} {q : Int} : (setC l p q).length = max l.length (p+1) := by unfold setC; simp; omega
theorem setC_get {l : List Int} {p t : Nat} {q : Int} : (setC l p q).getD t 0 = if t = p then q else l.getD t 0 := by
 unfold setC
 rw [List.getD_eq_getElem?_getD, List.getD_eq_getElem?_getD, List.getElem?_set]
 by_cases h : p = t
 ·subst h
  have : p < (l ++ List.replicate (p + 1 - l.length) 0).length := by simp; omega
  rw [if_pos rfl, if_pos rfl, if_pos this]; rfl
 ·rw [if_neg h, if_neg (fun e => h e.symm)]
  by_cases h1 : t < l.length
  ·rw [List.getElem?_append_left h1]
  ·rw [List.getElem?_append_right (by omega), List.getElem?_eq_none (show l.length <= t by omega), List.getElem?_replicate]
   split <;> rfl
theorem setC_mem {l : List Int} {p : Nat} {q x : Int} (h : x ∈ setC l p q) : x ∈ l ∨ x = 0 ∨ x = q := by
 unfold setC at h
 rcases List.mem_or_eq_of_mem_set h with h | h
 ·rcases List.mem_append.1 h with h | h
  ·exact .inl h
  ·exact .inr (.inl (List.eq_of_mem_replicate h))
 ·exact .inr (.inr h)
theorem perE_ok {D : PBook} {p : Int} (h : perE D p = 0) : 0 <= p /\ p <= 39 /\ D.now <= p /\ ∀ x ∈ D.mks, x.period ≠ p := by
 unfold perE at h
 split at h
 ·cases h
 ·split at h
  ·cases h
  ·split at h
   ·cases h
   ·rename_i h1 h2 h3
    refine ⟨by omega, by omega, by omega, fun x hx e => h3 ?_⟩
    exact List.any_eq_true.2 ⟨x, hx, by simpa using e⟩
theorem head_of {D D' : PBook} (h : HeadP D) (h1 : D'.items = D.items) (h2 : D'.hor = D.hor) (h3 : 0 <= D'.now /\ D'.now <= 40) (h4 : D'.caps.length <= 40 /\ ∀ c ∈ D'.caps, 0 <= c /\ c <= 100) : HeadP D' :=
 ⟨by rw [h1]; exact h.items, h4.2, by rw [h1]; exact h.n1, by rw [h1]; exact h.n3, by rw [h2]; exact h.h1, by rw [h1, h2]; exact h.h6, h3.1, h3.2, h4.1⟩
theorem putM_mem {l : List PMk} {p : Int} {qs : List Int} {x : PMk} : x ∈ putM l p qs ↔ (x ∈ l /\ x.period ≠ p) ∨ x ∈ mksFrom p qs 0 := by
 unfold putM
 rw [List.mem_append, List.mem_append, List.mem_filter, List.mem_filter, decide_eq_true_iff, decide_eq_true_iff]
 constructor
 ·rintro (⟨h1, h2⟩ | h | ⟨h1, h2⟩)
  ·exact .inl ⟨h1, by omega⟩
  ·exact .inr h
  ·exact .inl ⟨h1, by omega⟩
 ·rintro (⟨h1, h2⟩ | h)
  ·by_cases h3 : x.period < p
   ·exact .inl ⟨h1, h3⟩
   ·exact .inr (.inr ⟨h1, by omega⟩)
  ·exact .inr (.inl h)
theorem apply_ok {D D' : PBook} {o : POp} (h : applyV D o = .ok D') : MayP D /\ plainB o = true /\
 ((o.kind = 1 /\ o.ord.okP D.items.length /\ (∀ x ∈ D.ords, x.id ≠ o.ord.id) /\ D.now <= o.ord.due /\ D.ords.length < 30 /\ D' = { D with ords := insO D.ords o.ord }) ∨
  (o.kind = 2 /\ (∃ x ∈ D.ords, x.id = o.id) /\ (∀ x ∈ D.ords, x.id = o.id -> D.now <= x.due) /\ D' = { D with ords := D.ords.filter fun x => decide (x.id ≠ o.id) }) ∨
  (o.kind = 3 /\ (0 <= o.qty /\ o.qty <= 100) /\ perE D o.period = 0 /\ D' = { D with caps := setC D.caps o.period.toNat o.qty }) ∨
  (o.kind = 5 /\ o.qtys.length = D.items.length /\ badQ o.qtys = false /\ perE D o.period = 0 /\ sumI o.qtys <= capV D o.period /\ D' = { D with mks := putM D.mks o.period o.qtys }) ∨
  (o.kind = 4 /\ D.now < 40 /\ D' = { D with now := D.now + 1 })) := by
 unfold applyV at h
 split at h
 ·cases h
 rename_i h0
 have hm : mayB D = true := by cases hm : mayB D <;> simp_all
 have hp : plainB o = true := by cases hm : plainB o <;> simp_all
 refine ⟨mayB_iff.1 hm, hp, ?_⟩
 have hk : 1 <= o.kind /\ o.kind <= 5 := by
  unfold plainB at hp
  simp only [Bool.and_eq_true, decide_eq_true_iff] at hp
  exact hp.1.1.1.1.1
 split at h
 ·rename_i k; left
  unfold ordV at h
  split at h
  ·cases h
  ·split at h
   ·cases h
   ·split at h
    ·cases h
    ·split at h
     ·cases h
     ·rename_i g1 g2 g3 g4
      injection h with h
      refine ⟨k, by simpa using g1, fun x hx e => g2 (List.any_eq_true.2 ⟨x, hx, by simpa using e⟩), by omega, by omega, h.symm⟩
 ·split at h
  ·rename_i k; right; left
   unfold canV at h
   split at h
   ·cases h
   ·split at h
    ·cases h
    ·rename_i g1 g2
     injection h with h
     have g1' : D.ords.any (fun x => decide (x.id = o.id)) = true := by simpa using g1
     obtain ⟨x, hx, e⟩ := List.any_eq_true.1 g1'
     refine ⟨k, ⟨x, hx, by simpa using e⟩, fun y hy e2 => ?_, h.symm⟩
     refine Int.not_lt.1 fun hl => g2 (List.any_eq_true.2 ⟨y, hy, by simp; exact ⟨e2, hl⟩⟩)
  ·split at h
   ·rename_i k; right; right; left
    unfold capS at h
    split at h
    ·cases h
    ·split at h
     ·cases h
     ·rename_i g1 g2
      injection h with h
      exact ⟨k, ⟨by omega, by omega⟩, by omega, h.symm⟩
   ·split at h
    ·rename_i k; right; right; right; left
     unfold comV at h
     split at h
     ·cases h
     ·split at h
      ·cases h
      ·split at h
       ·cases h
       ·split at h
        ·cases h
        ·rename_i g1 g2 g3 g4
         injection h with h
         exact ⟨k, by omega, by simpa using g2, by omega, by omega, h.symm⟩
    ·rename_i k1 k2 k3 k5; right; right; right; right
     unfold advV at h
     split at h
     ·cases h
     ·rename_i g
      injection h with h
      exact ⟨by omega, by omega, h.symm⟩
theorem apply_may {D D' : PBook} {o : POp} (h : applyV D o = .ok D') : MayP D' := by
 obtain ⟨hm, hp, h⟩ := apply_ok h
 have hd := hm.head
 rcases h with ⟨-, a1, a2, a3, a4, rfl⟩ | ⟨-, -, -, rfl⟩ | ⟨-, a1, a2, rfl⟩ | ⟨-, a1, a2, a3, a4, rfl⟩ | ⟨-, a1, rfl⟩
 ·have hpw : (insO D.ords o.ord).Pairwise fun a b => a.id < b.id := by
   unfold insO
   rw [List.pairwise_append]
   refine ⟨hm.oPw.filter _, List.Pairwise.cons (fun b hb => ?_) (hm.oPw.filter _), fun a ha b hb => ?_⟩
   ·simpa using (List.mem_filter.1 hb).2
   ·have h1 : a.id < o.ord.id := by simpa using (List.mem_filter.1 ha).2
    rcases List.mem_cons.1 hb with rfl | hb
    ·exact h1
    ·have h2 : o.ord.id < b.id := by simpa using (List.mem_filter.1 hb).2
     omega
  refine ⟨head_of hd rfl rfl ⟨hd.t0, hd.t40⟩ ⟨hd.cl, hd.caps⟩, ?_, hm.ml, fun x hx => ?_, hm.mks, rises_of_pw (f := POrd.id) hpw, hm.mris⟩
  ·have := filter_two (fun x : POrd => decide (x.id < o.ord.id)) (fun x => decide (o.ord.id < x.id)) (fun x h => by simp at h ⊢; omega) D.ords
   unfold insO; simp only [List.length_append, List.length_cons]; omega
  ·have hx' : x ∈ insO D.ords o.ord := hx
   unfold insO at hx'
   rcases List.mem_append.1 hx' with h1 | h1
   ·exact hm.ords x (List.mem_filter.1 h1).1
   ·rcases List.mem_cons.1 h1 with rfl | h1
    ·exact a1
    ·exact hm.ords x (List.mem_filter.1 h1).1
 ·refine ⟨head_of hd rfl rfl ⟨hd.t0, hd.t40⟩ ⟨hd.cl, hd.caps⟩, ?_, hm.ml, fun x hx => hm.ords x (List.mem_filter.1 hx).1, hm.mks, rises_of_pw (f := POrd.id) (hm.oPw.filter _), hm.mris⟩
  have := List.length_filter_le (fun x : POrd => decide (x.id ≠ o.id)) D.ords
  have := hm.ol
  dsimp only; omega
 ·obtain ⟨b1, b2, b3, b4⟩ := perE_ok a2
  refine ⟨head_of hd rfl rfl ⟨hd.t0, hd.t40⟩ ⟨?_, fun c hc => ?_⟩, hm.ol, hm.ml, hm.ords, hm.mks, hm.oris, hm.mris⟩
  ·have := hd.cl; dsimp only; rw [setC_len]; omega
  ·rcases setC_mem hc with h | h | h
   ·exact hd.caps c h
   ·omega
   ·omega
 ·obtain ⟨b1, b2, b3, b4⟩ := perE_ok a3
  have hq : ∀ q ∈ o.qtys, 0 <= q /\ q <= 100 := fun q hq => by
   have := List.any_eq_false.1 a2 q hq; simp at this; omega
  have hok : ∀ x ∈ putM D.mks o.period o.qtys, x.okP D.items.length := fun x hx => by
   rcases putM_mem.1 hx with ⟨h1, -⟩ | h1
   ·exact hm.mks x h1
   ·have h2 := mksFrom_mem h1
    have h3 := hq _ h2.2.2.2
    unfold PMk.okP; rw [<- a1]; omega
  have hpw : (putM D.mks o.period o.qtys).Pairwise fun a b => a.key < b.key := by
   have hi : ∀ x ∈ D.mks, 0 <= x.item /\ x.item < 3 := fun x hx => by have := hm.mks x hx; have := hd.n3; unfold PMk.okP at *; omega
   have hi2 : ∀ x ∈ mksFrom o.period o.qtys 0, 0 <= x.item /\ x.item < 3 /\ x.period = o.period := fun x hx => by have := mksFrom_mem hx; have := hd.n3; omega
   unfold putM
   rw [List.pairwise_append, List.pairwise_append]
   refine ⟨hm.mPw.filter _, ⟨mksFrom_pw _ _, hm.mPw.filter _, fun a ha b hb => ?_⟩, fun a ha b hb => ?_⟩
   ·have h1 := hi2 a ha
    have h2 := List.mem_filter.1 hb
    have h3 := hi b h2.1
    have h4 : o.period < b.period := by simpa using h2.2
    unfold PMk.key; omega
   ·have h1 := List.mem_filter.1 ha
    have h2 := hi a h1.1
    have h3 : a.period < o.period := by simpa using h1.2
    rcases List.mem_append.1 hb with hb | hb
    ·have h4 := hi2 b hb
     unfold PMk.key; omega
    ·have h5 := List.mem_filter.1 hb
     have h6 := hi b h5.1
     have h7 : o.period < b.period := by simpa using h5.2
     unfold PMk.key; omega
  exact ⟨head_of hd rfl rfl ⟨hd.t0, hd.t40⟩ ⟨hd.cl, hd.caps⟩, hm.ol, mks_len (D := { D with mks := putM D.mks o.period o.qtys }) _ hd.n3 hok hpw, hm.ords, hok, hm.oris, rises_of_pw (f := PMk.key) hpw⟩
 ·exact ⟨head_of hd rfl rfl ⟨by have := hd.t0; dsimp only; omega, by dsimp only; omega⟩ ⟨hd.cl, hd.caps⟩, hm.ol, hm.ml, hm.ords, hm.mks, hm.oris, hm.mris⟩
theorem apply_keeps {D D' : PBook} {o : POp} (h : applyV D o = .ok D') : ∀ x ∈ D.mks, x ∈ D'.mks := by
 obtain ⟨hm, hp, h⟩ := apply_ok h
 intro x hx
 rcases h with ⟨-, a1, a2, a3, a4, rfl⟩ | ⟨-, -, -, rfl⟩ | ⟨-, a1, a2, rfl⟩ | ⟨-, a1, a2, a3, a4, rfl⟩ | ⟨-, a1, rfl⟩
 ·exact hx
 ·exact hx
 ·exact hx
 ·exact putM_mem.2 (.inl ⟨hx, (perE_ok a3).2.2.2 x hx⟩)
 ·exact hx
theorem apply_items {D D' : PBook} {o : POp} (h : applyV D o = .ok D') : D'.items = D.items /\ D'.hor = D.hor := by
 obtain ⟨hm, hp, h⟩ := apply_ok h
 rcases h with ⟨-, a1, a2, a3, a4, rfl⟩ | ⟨-, -, -, rfl⟩ | ⟨-, a1, a2, rfl⟩ | ⟨-, a1, a2, a3, a4, rfl⟩ | ⟨-, a1, rfl⟩ <;> exact ⟨rfl, rfl⟩
theorem insO_len {l : List POrd} {o : POrd} (h : ∀ x ∈ l, x.id ≠ o.id) : (insO l o).length = l.length + 1 := by
 have := filter_two_eq (fun x : POrd => decide (x.id < o.id)) (fun x => decide (o.id < x.id)) l fun x hx => by
  have := h x hx
  by_cases h1 : x.id < o.id
  ·have : ¬ o.id < x.id := by omega
   simp [h1, this]
  ·have : o.id < x.id := by omega
   simp [h1, this]
 unfold insO; rw [List.length_append, List.length_cons]; omega
def mkOrd (o : POrd) : POp := ⟨1, o, 0, 0, 0, []⟩
def mkCan (id : Int) : POp := ⟨2, ⟨0, 0, 0, 0⟩, id, 0, 0, []⟩
def mkCap (p q : Int) : POp := ⟨3, ⟨0, 0, 0, 0⟩, 0, p, q, []⟩
def mkAdv : POp := ⟨4, ⟨0, 0, 0, 0⟩, 0, 0, 0, []⟩
def mkCom (p : Int) (qs : List Int) : POp := ⟨5, ⟨0, 0, 0, 0⟩, 0, p, 0, qs⟩
theorem mkOrd_plain (o : POrd) : plainB (mkOrd o) = true := by unfold plainB mkOrd; simp
theorem mkCan_plain (i : Int) : plainB (mkCan i) = true := by unfold plainB mkCan POrd.isZ; simp
theorem mkCap_plain (p q : Int) : plainB (mkCap p q) = true := by unfold plainB mkCap POrd.isZ; simp
theorem mkAdv_plain : plainB mkAdv = true := by unfold plainB mkAdv POrd.isZ; simp
theorem mkCom_plain (p : Int) (qs : List Int) : plainB (mkCom p qs) = true := by unfold plainB mkCom POrd.isZ; simp
theorem apply_ord {D : PBook} (h : MayP D) (o : POrd) : applyV D (mkOrd o) = ordV D o := by
 unfold applyV; rw [if_neg (by rw [mayB_iff.2 h, mkOrd_plain]; simp), if_pos (show (mkOrd o).kind = 1 from rfl)]; rfl
theorem apply_cap {D : PBook} (h : MayP D) (p q : Int) : applyV D (mkCap p q) = capS D p q := by
 unfold applyV; rw [if_neg (by rw [mayB_iff.2 h, mkCap_plain]; simp), if_neg (by unfold mkCap; simp), if_neg (by unfold mkCap; simp), if_pos (show (mkCap p q).kind = 3 from rfl)]; rfl
theorem apply_com {D : PBook} (h : MayP D) (p : Int) (qs : List Int) : applyV D (mkCom p qs) = comV D p qs := by
 unfold applyV; rw [if_neg (by rw [mayB_iff.2 h, mkCom_plain]; simp), if_neg (by unfold mkCom; simp), if_neg (by unfold mkCom; simp), if_neg (by unfold mkCom; simp), if_pos (show (mkCom p qs).kind = 5 from rfl)]; rfl
theorem apply_adv {D : PBook} (h : MayP D) : applyV D mkAdv = advV D := by
 unfold applyV; rw [if_neg (by rw [mayB_iff.2 h, mkAdv_plain]; simp), if_neg (by unfold mkAdv; simp), if_neg (by unfold mkAdv; simp), if_neg (by unfold mkAdv; simp), if_neg (by unfold mkAdv; simp)]
theorem capV_may {D : PBook} (h : MayP D) (p : Int) : capV D p = if 0 <= p then D.caps.getD p.toNat 0 else 0 := by
 unfold capV
 by_cases h0 : 0 <= p
 ·rw [if_pos h0]
  by_cases h1 : p < D.caps.length
  ·rw [if_pos ⟨mayB_iff.2 h, h0, h1⟩]
  ·rw [if_neg (fun h => h1 h.2.2), List.getD_eq_getElem?_getD, List.getElem?_eq_none (by omega)]; rfl
 ·rw [if_neg h0, if_neg (fun h => h0 h.2.1)]
structure FroP (D : PBook) : Prop where
 may : MayP D
 one : D.items.length = 1
 has : ∃ x ∈ D.mks, x.period = 39
theorem FroP.apply {D D' : PBook} {o : POp} (h : FroP D) (e : applyV D o = .ok D') : FroP D' := by
 obtain ⟨x, hx, h3⟩ := h.has
 exact ⟨apply_may e, by rw [(apply_items e).1]; exact h.one, x, apply_keeps e x hx, h3⟩
theorem FroP.per {D : PBook} (h : FroP D) : perE D 39 = if 39 < D.now then 13 else 9 := by
 obtain ⟨x, hx, h3⟩ := h.has
 unfold perE
 rw [if_neg (by omega)]
 split
 ·rfl
 ·rw [if_pos (List.any_eq_true.2 ⟨x, hx, by simpa using h3⟩)]
theorem FroP.com {D : PBook} (h : FroP D) : applyV D (mkCom 39 [0]) = .error (if 39 < D.now then 13 else 9) := by
 rw [apply_com h.may]
 unfold comV
 have e := h.per
 rw [if_neg (by rw [h.one]; simp), if_neg (by decide), if_pos (by rw [e]; split <;> simp), e]
theorem FroP.cap {D : PBook} (h : FroP D) : applyV D (mkCap 39 1) = .error (if 39 < D.now then 13 else 9) := by
 rw [apply_cap h.may]
 unfold capS
 have e := h.per
 rw [if_neg (by omega), if_pos (by rw [e]; split <;> simp), e]
def newD (items : List PItem) (hor : Int) : PBook := ⟨items, hor, 0, [], [], []⟩
theorem newD_may {items : List PItem} {hor : Int} (h : HeadP (newD items hor)) : MayP (newD items hor) := ⟨h, (by simp [newD]), (by simp [newD]), (fun _ h => by cases h), (fun _ h => by cases h), (fun i a b h => by simp [newD] at h), (fun i a b h => by simp [newD] at h)⟩
structure OrdsP (items : List PItem) (hor : Int) (l : List POrd) (D : PBook) : Prop where
 may : MayP D
 eq : D = { newD items hor with ords := D.ords }
 len : D.ords.length = l.length
 mem : ∀ x, x ∈ D.ords ↔ x ∈ l
theorem OrdsP.same {items : List PItem} {hor : Int} {l m : List POrd} {A B : PBook} (h : OrdsP items hor l A) (k : OrdsP items hor m B) (e : ∀ x, x ∈ l ↔ x ∈ m) : A = B := by
 rw [h.eq, k.eq, pw_ext (f := POrd.id) h.may.oPw k.may.oPw fun x => by rw [h.mem, k.mem, e]]
theorem insO_mem {l : List POrd} {o : POrd} (h : ∀ x ∈ l, x.id ≠ o.id) (x : POrd) : x ∈ insO l o ↔ x ∈ l ∨ x = o := by
 unfold insO
 rw [List.mem_append, List.mem_cons, List.mem_filter, List.mem_filter]
 simp only [decide_eq_true_iff]
 constructor
 ·rintro (h1 | h1 | h1)
  ·exact .inl h1.1
  ·exact .inr h1
  ·exact .inl h1.1
 ·rintro (h1 | h1)
  ·have := h x h1
   by_cases h2 : x.id < o.id
   ·exact .inl ⟨h1, h2⟩
   ·exact .inr (.inr ⟨h1, by omega⟩)
  ·exact .inr (.inl h1)
theorem OrdsP.step {items : List PItem} {hor : Int} {l : List POrd} {A C : PBook} {o : POrd} (h : OrdsP items hor l A) (e : applyV A (mkOrd o) = .ok C) : OrdsP items hor (l ++ [o]) C /\ o.okP items.length /\ ∀ x ∈ l, x.id ≠ o.id := by
 have hc := apply_may e
 obtain ⟨-, -, e⟩ := apply_ok e
 have hi : A.items = items := by rw [h.eq]; rfl
 rcases e with ⟨-, a1, a2, a3, a4, rfl⟩ | ⟨e, -⟩ | ⟨e, -⟩ | ⟨e, -⟩ | ⟨e, -⟩
 ·have a2' : ∀ x ∈ A.ords, x.id ≠ o.id := a2
  refine ⟨⟨hc, ?_, ?_, fun x => ?_⟩, by rw [<- hi]; exact a1, fun x hx => a2' x ((h.mem x).2 hx)⟩
  ·rw [h.eq]
  ·show (insO A.ords o).length = _; rw [insO_len a2', h.len]; simp
  ·show x ∈ insO A.ords o ↔ _; rw [insO_mem a2', h.mem, List.mem_append, List.mem_singleton]
 all_goals cases e
end Go.Proofs.YtncbebfhakcgdaaGreat
namespace Go.Proofs.YtncbebfhakcgdaaGreat
open Go.RowKit
def madeL (D : PBook) (p : Int) : List Int := (D.mks.filter fun x => decide (x.period = p)).map (·.qty)
def tellCaps : List Int -> Nat -> List POp
 | [], _ => []
 | c :: cs, i => mkCap i c :: tellCaps cs (i+1)
def tellC (D : PBook) (p : Nat) : List POp := if madeL D p = [] then [] else [mkCom p (madeL D p)]
def tellA (D : PBook) (p : Nat) : List POp := if (p : Int) < D.now then [mkAdv] else []
def tellP (D : PBook) (p : Nat) : List POp := tellC D p ++ tellA D p
def tellT (D : PBook) (n : Nat) : List POp := (List.range n).flatMap (tellP D)
def tellV (D : PBook) : List POp := tellCaps D.caps 0 ++ (D.ords.map mkOrd ++ tellT D 40)
noncomputable def runV : PBook -> List POp -> Except Int PBook
 | D, [] => .ok D
 | D, o :: os => match applyV D o with
   | .ok E => runV E os
   | .error c => .error c
theorem runV_cons {D E : PBook} {o : POp} {os : List POp} (h : applyV D o = .ok E) : runV D (o :: os) = runV E os := by
 show (match applyV D o with | .ok E => runV E os | .error c => .error c) = _; rw [h]
theorem runV_append {D E : PBook} : ∀ {a b : List POp}, runV D a = .ok E -> runV D (a ++ b) = runV E b := by
 intro a
 induction a generalizing D with
 | nil => intro b h; injection h with h; subst h; rfl
 | cons o a ih =>
   intro b h
   have h1 : (match applyV D o with | .ok E => runV E a | .error c => .error c) = .ok E := h
   cases e : applyV D o with
   | error c => rw [e] at h1; cases h1
   | ok F => rw [e] at h1; rw [List.cons_append, runV_cons e]; exact ih h1
structure StoB (D : PBook) : Prop where
 may : MayP D
 com : ∀ p : Nat, madeL D p = [] ∨ (D.mks.filter (fun x => decide (x.period = (p : Int))) = mksFrom p (madeL D p) 0 /\ (madeL D p).length = D.items.length /\ sumI (madeL D p) <= D.caps.getD p 0)
theorem whole_new {items : List PItem} {hor : Int} (h : HeadP (newD items hor)) : StoB (newD items hor) := ⟨newD_may h, fun p => .inl rfl⟩
theorem mksFrom_qty (p : Int) : ∀ (qs : List Int) (i : Nat), (mksFrom p qs i).map (·.qty) = qs
 | [], _ => rfl
 | q :: qs, i => by unfold mksFrom; rw [List.map_cons, mksFrom_qty p qs]
theorem filt_none {α : Type} {q : α -> Bool} {l : List α} (h : ∀ x ∈ l, q x = false) : l.filter q = [] := List.filter_eq_nil_iff.2 fun x hx => by rw [h x hx]; simp
theorem filt_all {α : Type} {q : α -> Bool} {l : List α} (h : ∀ x ∈ l, q x = true) : l.filter q = l := List.filter_eq_self.2 h
theorem putM_at {l : List PMk} {p : Int} {qs : List Int} (h : ∀ x ∈ l, x.period ≠ p) (t : Int) : (putM l p qs).filter (fun x => decide (x.period = t)) = if t = p then mksFrom p qs 0 else l.filter (fun x => decide (x.period = t)) := by
 have hmk : ∀ x ∈ mksFrom p qs 0, x.period = p := fun x hx => (mksFrom_mem hx).1
 have g1 : (l.filter fun a => decide (a.period = t) && decide (a.period < p)) = if t < p then l.filter (fun x => decide (x.period = t)) else [] := by
  split
  ·exact List.filter_congr fun x hx => by
    by_cases e3 : x.period = t
    ·have : x.period < p := by omega
     simp [e3]; omega
    ·simp [e3]
  ·exact filt_none fun x hx => by simp; omega
 have g2 : (l.filter fun a => decide (a.period = t) && decide (p < a.period)) = if p < t then l.filter (fun x => decide (x.period = t)) else [] := by
  split
  ·exact List.filter_congr fun x hx => by
    by_cases e3 : x.period = t
    ·simp [e3]; omega
    ·simp [e3]
  ·exact filt_none fun x hx => by simp; omega
 have g3 : ((mksFrom p qs 0).filter fun x => decide (x.period = t)) = if t = p then mksFrom p qs 0 else [] := by
  split
  ·exact filt_all fun x hx => by have := hmk x hx; simp; omega
  ·exact filt_none fun x hx => by have := hmk x hx; simp; omega
 unfold putM
 rw [List.filter_append, List.filter_append, List.filter_filter, List.filter_filter, g1, g2, g3]
 by_cases e : t = p
 ·rw [if_neg (by omega), if_pos e, if_neg (by omega), if_pos e]; simp
 ·rw [if_neg e, if_neg e]
  by_cases e2 : t < p
  ·rw [if_pos e2, if_neg (by omega)]; simp
  ·rw [if_neg e2, if_pos (by omega)]; simp
theorem StoB.apply {D D' : PBook} {o : POp} (h : StoB D) (e : applyV D o = .ok D') : StoB D' := by
 refine ⟨apply_may e, fun t => ?_⟩
 obtain ⟨hm, hp, e⟩ := apply_ok e
 have hc := h.com t
 rcases e with ⟨-, a1, a2, a3, a4, rfl⟩ | ⟨-, -, -, rfl⟩ | ⟨-, a1, a2, rfl⟩ | ⟨-, a1, a2, a3, a4, rfl⟩ | ⟨-, a1, rfl⟩
 ·exact hc
 ·exact hc
 ·obtain ⟨b1, b2, b3, b4⟩ := perE_ok a2
  rcases hc with hc | ⟨c1, c2, c3⟩
  ·exact .inl hc
  ·by_cases e : (t : Int) = o.period
   ·left
    show (D.mks.filter _).map _ = []
    rw [List.filter_eq_nil_iff.2, List.map_nil]
    intro x hx; have := b4 x hx; simp; omega
   ·refine .inr ⟨c1, c2, ?_⟩
    show _ <= (setC D.caps _ _).getD t 0
    rw [setC_get, if_neg (by omega)]; exact c3
 ·obtain ⟨b1, b2, b3, b4⟩ := perE_ok a3
  have hat := putM_at (qs := o.qtys) b4 (t : Int)
  have hml : madeL { D with mks := putM D.mks o.period o.qtys } t = ((putM D.mks o.period o.qtys).filter (fun x => decide (x.period = (t : Int)))).map (·.qty) := rfl
  by_cases e : (t : Int) = o.period
  ·rw [if_pos e] at hat
   have hml2 : madeL { D with mks := putM D.mks o.period o.qtys } t = o.qtys := by rw [hml, hat, mksFrom_qty]
   right
   rw [hml2]
   refine ⟨by rw [e]; rw [e] at hat; exact hat, a1, ?_⟩
   have := capV_may hm o.period
   rw [if_pos b1, <- e] at this
   rw [<- e] at a4; rw [this] at a4; exact a4
  ·rw [if_neg e] at hat
   have hml2 : madeL { D with mks := putM D.mks o.period o.qtys } t = madeL D t := by rw [hml, hat]; rfl
   rw [hml2]
   rcases hc with hc | ⟨c1, c2, c3⟩
   ·exact .inl hc
   ·exact .inr ⟨hat.trans c1, c2, c3⟩
 ·exact hc
theorem setC_end (l : List Int) (q : Int) : setC l l.length q = l ++ [q] := by
 unfold setC
 rw [show l.length + 1 - l.length = 1 by omega]
 simp
theorem run_caps {items : List PItem} {hor : Int} : ∀ (cs pre : List Int), MayP { newD items hor with caps := pre } -> (∀ c ∈ cs, 0 <= c /\ c <= 100) -> pre.length + cs.length <= 40 ->
 runV { newD items hor with caps := pre } (tellCaps cs pre.length) = .ok { newD items hor with caps := pre ++ cs }
 | [], pre, _, _, _ => by rw [List.append_nil]; rfl
 | c :: cs, pre, hm, hc, hl => by
   rw [List.length_cons] at hl
   have e : applyV { newD items hor with caps := pre } (mkCap pre.length c) = .ok { newD items hor with caps := pre ++ [c] } := by
    have hc0 := hc c (by simp)
    have h0 : perE { newD items hor with caps := pre } pre.length = 0 := by
     unfold perE
     rw [if_neg (by omega), if_neg (by show ¬ (pre.length : Int) < 0; omega), if_neg (by show ¬ ([] : List PMk).any _ = true; simp)]
    rw [apply_cap hm]
    unfold capS
    rw [if_neg (by omega), if_neg (by rw [h0]; simp)]
    show Except.ok { newD items hor with caps := setC pre ((pre.length : Int)).toNat c } = _
    rw [Int.toNat_natCast, setC_end]
   show runV _ (mkCap pre.length c :: tellCaps cs (pre.length + 1)) = _
   rw [runV_cons e]
   have := run_caps cs (pre ++ [c]) (apply_may e) (fun x hx => hc x (by simp [hx])) (by simp; omega)
   rw [List.length_append, List.length_singleton] at this
   rw [this, List.append_assoc]; rfl
theorem insO_end {l : List POrd} {o : POrd} (h : ∀ x ∈ l, x.id < o.id) : insO l o = l ++ [o] := by
 unfold insO
 rw [List.filter_eq_self.2 (fun x hx => by simpa using h x hx), List.filter_eq_nil_iff.2 (fun x hx => by have := h x hx; simp; omega)]
theorem run_ords {D0 : PBook} (h0 : D0.now = 0) : ∀ (os pre : List POrd), MayP { D0 with ords := pre } -> (∀ o ∈ os, o.okP D0.items.length) -> (pre ++ os).Pairwise (fun a b => a.id < b.id) -> (pre ++ os).length <= 30 ->
 runV { D0 with ords := pre } (os.map mkOrd) = .ok { D0 with ords := pre ++ os }
 | [], pre, _, _, _, _ => by rw [List.append_nil]; rfl
 | o :: os, pre, hm, ho, hp, hl => by
   have hlt : ∀ x ∈ pre, x.id < o.id := fun x hx => (List.pairwise_append.1 hp).2.2 x hx o (by simp)
   have ho0 := ho o (by simp)
   have e : applyV { D0 with ords := pre } (mkOrd o) = .ok { D0 with ords := pre ++ [o] } := by
    rw [apply_ord hm]
    unfold ordV
    rw [if_neg (by simpa using ho0), if_neg (by
        intro e
        obtain ⟨x, hx, e⟩ := List.any_eq_true.1 e
        have := hlt x hx
        simp only [decide_eq_true_iff] at e; omega), if_neg (by unfold POrd.okP at ho0; show ¬ o.due < D0.now; omega), if_neg (by show ¬ 30 <= pre.length; simp at hl; omega)]
    show Except.ok { D0 with ords := insO pre o } = _
    rw [insO_end hlt]
   rw [List.map_cons, runV_cons e]
   have := run_ords h0 os (pre ++ [o]) (apply_may e) (fun x hx => ho x (by simp [hx])) (by simpa using hp) (by simpa using hl)
   rw [this, List.append_assoc]; rfl
def stD (D : PBook) (n : Int) (p : Int) : PBook := { D with now := n, mks := D.mks.filter fun x => decide (x.period < p) }
theorem stD_may {D : PBook} (h : MayP D) {n : Int} (hn : 0 <= n /\ n <= 40) (p : Int) : MayP (stD D n p) :=
 ⟨head_of h.head rfl rfl hn ⟨h.head.cl, h.head.caps⟩, h.ol, Nat.le_trans (List.length_filter_le _ _) h.ml, h.ords, fun x hx => h.mks x (List.mem_filter.1 hx).1, h.oris, rises_of_pw (f := PMk.key) (h.mPw.filter _)⟩
theorem filter_next {l : List PMk} (h : l.Pairwise fun a b => a.key < b.key) (hi : ∀ x ∈ l, 0 <= x.item /\ x.item < 3) (p : Int) :
 l.filter (fun x => decide (x.period < p + 1)) = l.filter (fun x => decide (x.period < p)) ++ l.filter (fun x => decide (x.period = p)) := by
 refine pw_ext (f := PMk.key) (h.filter _) ?_ fun x => ?_
 ·rw [List.pairwise_append]
  refine ⟨h.filter _, h.filter _, fun a ha b hb => ?_⟩
  have h1 := List.mem_filter.1 ha; have h2 := List.mem_filter.1 hb
  have h3 := hi a h1.1; have h4 := hi b h2.1
  have h5 : a.period < p := by simpa using h1.2
  have h6 : b.period = p := by simpa using h2.2
  unfold PMk.key; omega
 ·rw [List.mem_append, List.mem_filter, List.mem_filter, List.mem_filter, decide_eq_true_iff, decide_eq_true_iff, decide_eq_true_iff]
  constructor
  ·rintro ⟨h1, h2⟩
   by_cases h3 : x.period < p
   ·exact .inl ⟨h1, h3⟩
   ·exact .inr ⟨h1, by omega⟩
  ·rintro (⟨h1, h2⟩ | ⟨h1, h2⟩)
   ·exact ⟨h1, by omega⟩
   ·exact ⟨h1, by omega⟩
theorem whole_items {D : PBook} (h : MayP D) : ∀ x ∈ D.mks, 0 <= x.item /\ x.item < 3 := fun x hx => by have := h.mks x hx; have := h.head.n3; unfold PMk.okP at *; omega
theorem madeL_bad {D : PBook} (h : MayP D) (p : Int) : badQ (madeL D p) = false := List.any_eq_false.2 fun n hn => by
 obtain ⟨x, hx, rfl⟩ := List.mem_map.1 hn
 have := h.mks x (List.mem_filter.1 hx).1
 unfold PMk.okP at this; simp; omega
theorem run_com {D : PBook} (h : StoB D) (p : Nat) (hp : p < 40) {n : Int} (hn : 0 <= n /\ n <= p) : runV (stD D n p) (tellC D p) = .ok (stD D n (p + 1)) := by
 have hm := h.may
 have hnext := filter_next hm.mPw (whole_items hm) p
 unfold tellC
 rcases h.com p with hc | ⟨c1, c2, c3⟩
 ·rw [if_pos hc]
  have : D.mks.filter (fun x => decide (x.period = (p : Int))) = [] := List.map_eq_nil_iff.1 hc
  rw [this, List.append_nil] at hnext
  show Except.ok (stD D n p) = _
  unfold stD
  rw [hnext]
 ·have hne : madeL D p ≠ [] := by
   intro e; rw [e] at c2; have := hm.head.n1; simp at c2; omega
  rw [if_neg hne]
  have hs := stD_may hm (n := n) ⟨hn.1, by omega⟩ p
  have h0 : perE (stD D n p) p = 0 := by
   unfold perE
   rw [if_neg (by omega), if_neg (by show ¬ (p : Int) < n; omega), if_neg]
   intro e
   obtain ⟨x, hx, e⟩ := List.any_eq_true.1 e
   have h1 := (List.mem_filter.1 hx).2
   simp only [decide_eq_true_iff] at h1 e; omega
  have e : applyV (stD D n p) (mkCom p (madeL D p)) = .ok (stD D n (p + 1)) := by
   rw [apply_com hs]
   unfold comV
   rw [if_neg (by show ¬ _ ≠ D.items.length; rw [c2]; simp), if_neg (by rw [madeL_bad hm]; simp), if_neg (by rw [h0]; simp), if_neg (by
    rw [capV_may hs, if_pos (by omega)]; show ¬ D.caps.getD ((p : Int)).toNat 0 < sumI (madeL D p); rw [Int.toNat_natCast]; omega)]
   have e1 : putM (D.mks.filter fun x => decide (x.period < (p : Int))) p (madeL D p) = D.mks.filter fun x => decide (x.period < (p : Int) + 1) := by
    rw [hnext, c1]
    have g1 : (D.mks.filter fun a => decide (a.period < (p : Int)) && decide (a.period < (p : Int))) = D.mks.filter fun x => decide (x.period < (p : Int)) := List.filter_congr fun x hx => by simp
    have g2 : (D.mks.filter fun a => decide ((p : Int) < a.period) && decide (a.period < (p : Int))) = [] := filt_none fun x hx => by simp; omega
    unfold putM
    rw [List.filter_filter, List.filter_filter, g1, g2, List.append_nil]
   show Except.ok ({ D with now := n, mks := putM (D.mks.filter fun x => decide (x.period < (p : Int))) p (madeL D p) } : PBook) = Except.ok (stD D n (p + 1))
   rw [e1]; rfl
  rw [runV_cons e]; rfl
theorem run_adv {D : PBook} (h : StoB D) (p : Nat) (hp : p < 40) : runV (stD D (min p D.now) (p + 1)) (tellA D p) = .ok (stD D (min (p + 1) D.now) (p + 1)) := by
 have hm := h.may
 unfold tellA
 have := hm.head.t0
 by_cases e : (p : Int) < D.now
 ·rw [if_pos e]
  have hs := stD_may hm (n := min (p : Int) D.now) ⟨by omega, by omega⟩ (p + 1)
  have e1 : applyV (stD D (min (p : Int) D.now) (p + 1)) mkAdv = .ok (stD D (min ((p : Int) + 1) D.now) (p + 1)) := by
   rw [apply_adv hs]
   unfold advV
   rw [if_neg (by show ¬ 40 <= min (p : Int) D.now; omega)]
   show Except.ok { D with now := min (p : Int) D.now + 1, mks := _ } = _
   rw [show min (p : Int) D.now + 1 = min ((p : Int) + 1) D.now by omega]; rfl
  rw [runV_cons e1]; rfl
 ·rw [if_neg e, show min ((p : Int) + 1) D.now = min (p : Int) D.now by omega]; rfl
theorem run_tellT {D : PBook} (h : StoB D) : ∀ n : Nat, n <= 40 -> runV (stD D 0 0) (tellT D n) = .ok (stD D (min n D.now) n)
 | 0, _ => by
   have := h.may.head.t0
   show Except.ok _ = _
   rw [show min ((0 : Nat) : Int) D.now = 0 by omega]; rfl
 | n + 1, hn => by
   have ih := run_tellT h n (by omega)
   have := h.may.head.t0
   have e : tellT D (n + 1) = tellT D n ++ tellP D n := by
    unfold tellT
    rw [List.range_succ, List.flatMap_append]; simp
   rw [e, runV_append (E := stD D (min n D.now) n) ih]
   unfold tellP
   rw [runV_append (run_com h n (by omega) (by omega)), run_adv h n (by omega), show ((n : Int) + 1) = ((n + 1 : Nat) : Int) by omega]
theorem tell_run {D : PBook} (h : StoB D) : runV (newD D.items D.hor) (tellV D) = .ok D := by
 have hm := h.may
 have hh : HeadP (newD D.items D.hor) := head_of hm.head rfl rfl (by show (0 : Int) <= 0 /\ (0 : Int) <= 40; omega) ⟨by simp [newD], fun c hc => by simp [newD] at hc⟩
 have h1 : runV (newD D.items D.hor) (tellCaps D.caps 0) = .ok (⟨D.items, D.hor, 0, D.caps, [], []⟩ : PBook) := run_caps (items := D.items) (hor := D.hor) D.caps [] (newD_may hh) hm.head.caps (by have := hm.head.cl; simpa using this)
 have hmc : MayP (⟨D.items, D.hor, 0, D.caps, [], []⟩ : PBook) := ⟨head_of hm.head rfl rfl (by show (0 : Int) <= 0 /\ (0 : Int) <= 40; omega) ⟨hm.head.cl, hm.head.caps⟩, (by simp), (by simp), (fun _ h => by cases h), (fun _ h => by cases h), (fun i a b h => by simp at h), (fun i a b h => by simp at h)⟩
 have h2 : runV (⟨D.items, D.hor, 0, D.caps, [], []⟩ : PBook) (D.ords.map mkOrd) = .ok (⟨D.items, D.hor, 0, D.caps, D.ords, []⟩ : PBook) := run_ords (D0 := ⟨D.items, D.hor, 0, D.caps, [], []⟩) rfl D.ords [] hmc hm.ords (by simpa using hm.oPw) (by simpa using hm.ol)
 have e0 : (⟨D.items, D.hor, 0, D.caps, D.ords, []⟩ : PBook) = stD D 0 0 := by
  unfold stD
  rw [List.filter_eq_nil_iff.2 fun x hx => by have := hm.mks x hx; unfold PMk.okP at this; simp; omega]
 have h3 := run_tellT h 40 (by omega)
 have e1 : stD D (min ((40 : Nat) : Int) D.now) (40 : Nat) = D := by
  have := hm.head.t40
  unfold stD
  rw [List.filter_eq_self.2 fun x hx => by have := hm.mks x hx; unfold PMk.okP at this; simp; omega, show min ((40 : Nat) : Int) D.now = D.now by omega]
 unfold tellV
 rw [runV_append h1, runV_append h2, e0, h3, e1]
theorem tellCaps_len : ∀ (cs : List Int) (i : Nat), (tellCaps cs i).length = cs.length
 | [], _ => rfl
 | c :: cs, i => by unfold tellCaps; rw [List.length_cons, List.length_cons, tellCaps_len]
theorem tellT_len (D : PBook) : ∀ n : Nat, (tellT D n).length <= 2 * n
 | 0 => by simp [tellT]
 | n + 1 => by
   have ih := tellT_len D n
   unfold tellT at ih ⊢
   rw [List.range_succ, List.flatMap_append, List.length_append]
   have : ([n].flatMap (tellP D)).length <= 2 := by
    show (tellP D n ++ []).length <= 2
    unfold tellP tellC tellA
    split <;> split <;> simp
   omega
end Go.Proofs.YtncbebfhakcgdaaGreat
