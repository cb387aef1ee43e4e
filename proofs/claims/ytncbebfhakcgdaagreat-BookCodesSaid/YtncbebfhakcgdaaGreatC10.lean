/- Tables whose rows, or columns, stand the other way round; a row so many times; sums of products. No program is in sight here. -/
import Derived.Test.YtncbebfhakcgdaaGreatC8
import Derived.ProofKit
import Derived.Deep.Slices
import Derived.Test.YtncbebfhakcgdaaGreatC9
set_option linter.unusedVariables false
set_option linter.unusedSimpArgs false
namespace Go.Proofs.YtncbebfhakcgdaaGreat
end Go.Proofs.YtncbebfhakcgdaaGreat
set_option maxRecDepth 100000
namespace Go.Proofs.YtncbebfhakcgdaaGreat
open Go.RowKit Go.Shelf Go.ChangeShapes Go.WideShapes Go.Deep
section
variable {H : Type} {enc : TypeId × Value -> H} {w : World} {base : Nat} {spare : Nat -> Bool} {held : Bool}
end
end Go.Proofs.YtncbebfhakcgdaaGreat
namespace Go.Proofs.YtncbebfhakcgdaaGreat
open Go.RowKit Go.Shelf
attribute [local go_sem ↓] Go.wp_at_zero Go.wp_at_succ
theorem ownsRow_grown {w w' : World} {B size n : Nat} {e : TypeId} {v : Value} {xs : List Value} {row : Option Nat} (h : w.ownsRow B e size v n xs) (hg : w.grownBy w' row) (hv : ∀ k, v.ownBlock = some k -> some k ≠ row) : w'.ownsRow B e size v n xs := by
 obtain ⟨h2, h3⟩ := h
 refine ⟨h2, ?_⟩
 rcases h3 with h3 | ⟨g, cap, cur, rfl, hb', hgg, r⟩
 ·exact .inl h3
 ·have hlt : g < w.heap.size := by
   rcases Nat.lt_or_ge g w.heap.size with h | h
   ·exact h
   ·rw [Array.getElem?_eq_none h] at hgg; cases hgg
  exact .inr ⟨g, cap, cur, rfl, hb', (hg.block g hlt (hv g rfl)).trans hgg, r⟩
section
variable {w : World} {o : Oper} {a : Act} {K : Act -> World -> Prop} {Q : Exit -> Act -> World -> Prop}
end
end Go.Proofs.YtncbebfhakcgdaaGreat
namespace Go.Proofs.YtncbebfhakcgdaaGreat
open Go.RowKit Go.Shelf
attribute [local go_sem ↓] Go.wp_at_zero Go.wp_at_succ
end Go.Proofs.YtncbebfhakcgdaaGreat
namespace Go.Proofs.YtncbebfhakcgdaaGreat
open Go.RowKit Go.Shelf
attribute [local go_sem ↓] Go.wp_at_zero Go.wp_at_succ
theorem OutRats.ratsOn2 {E : Elem} {w : World} {P : Nat -> Prop} {lo : Nat} {v : Value} {l : List Rat} (h : OutRats E w P lo v l) : Rats (EOn (fun b => P b /\ some b ≠ v.ownBlock) E) w v l := by
 have h' : OutRats (EOn (fun b => P b /\ some b ≠ v.ownBlock) E) w P lo v l := by
  obtain ⟨es, h1, h2, h3, h4⟩ := h
  refine ⟨es, h1, h2, h3, ?_⟩
  obtain ⟨F, f1, f2⟩ := h4
  exact ⟨F, f1, fun W hW i e q hi hq => ⟨F, fun b hb => ⟨(f1 b hb).1, by
   have h5 := hW b hb
   rw [Array.getElem?_eq_getElem (f1 b hb).2] at h5
   exact (Array.getElem?_eq_some_iff.1 h5).1⟩, fun W' hW' => f2 W' (fun b hb => (hW' b hb).trans (hW b hb)) i e q hi hq⟩⟩
 exact h'.rats.now
theorem OutRats.row {E : Elem} {w : World} {P : Nat -> Prop} {lo : Nat} {v : Value} {l : List Rat} (h : OutRats E w P lo v l) (hl : 0 < l.length) :
 ∃ g cap cs, v = .slice (some ⟨g, 0, none⟩) l.length cap /\ lo <= g /\ l.length <= cap /\ cap <= maxLen /\ Row w g 67 cs := by
 obtain ⟨es, h1, ⟨h2, h2'⟩, h3, h4⟩ := h
 rcases h2' with ⟨rfl, h0⟩ | ⟨g, cap, cur, rfl, hb, hg, hn, hm, hs, ht⟩
 ·omega
 ·exact ⟨g, cap, cur.toList, rfl, hb, hn, hm, by unfold Row; simpa using hg⟩
theorem OutRats.put {E : Elem} {w : World} {P : Nat -> Prop} {lo g cap n a i : Nat} {l : List Rat} {q : Rat} {s s' : Bool} {A A' : Option Addr} {m c m' c' : Nat} (h : OutRats E w P lo (.slice (some ⟨g, 0, none⟩) n cap) l) (hi : i < l.length) (ha : a = i * 4)
 (hq : On w (fun b => b ≠ g) (fun W => E W (.agg #[.bool s, .slice A m c, .bool s', .slice A' m' c']) q)) :
 Rats E ((((w.setCell ⟨g, a, none⟩ (.bool s)).setCell ⟨g, a + 1, none⟩ (.slice A m c)).setCell ⟨g, a + 2, none⟩ (.bool s')).setCell ⟨g, a + 3, none⟩ (.slice A' m' c')) (.slice (some ⟨g, 0, none⟩) n cap) (l.set i q) := by
 obtain ⟨g2, cap2, cs, e, hlo, hlc, hcm, hr⟩ := h.row (by omega)
 injection e with e1 e2 e3
 injection e1 with e1; injection e1 with e1
 subst e1 e2 e3
 have hall := h.ratsOn2
 have hr2 := (((hr.set_ a (.bool s)).set_ (a+1) (.slice A m c)).set_ (a+2) (.bool s')).set_ (a+3) (.slice A' m' c')
 have oo : Only g w ((((w.setCell ⟨g, a, none⟩ (.bool s)).setCell ⟨g, a + 1, none⟩ (.slice A m c)).setCell ⟨g, a + 2, none⟩ (.bool s')).setCell ⟨g, a + 3, none⟩ (.slice A' m' c')) := (((Only.one g w a _).set _ _).set _ _).set _ _
 have hcell : ∀ k u, w.cell? ⟨g, k, none⟩ = some u -> cs[k]? = some u := fun k u hk => by
  rw [cell_of_row w g k cs.toArray 67 (0, 0) hr] at hk; simpa using hk
 refine ⟨some ⟨g, 0, none⟩, cap, by rw [List.length_set], by rw [List.length_set]; exact hlc, hcm, fun j x hj => ?_⟩
 have hjl : j < l.length := by
  have := (List.getElem?_eq_some_iff.1 hj).1
  simpa using this
 obtain ⟨y, hy⟩ : ∃ y, l[j]? = some y := ⟨l[j], List.getElem?_eq_getElem hjl⟩
 obtain ⟨b, off, t, B, k, d, t', B', k', d', e0, x1, x2, x3, x4, hE⟩ := hall.at_ hy
 injection e0 with e0; injection e0 with e0 e0'
 subst e0 e0'
 rw [Nat.zero_add] at x1 x2 x3 x4
 by_cases e : j = i
 ·subst e
  rw [List.getElem?_set, if_pos rfl, if_pos hjl] at hj
  injection hj with hj
  subst hj
  have l1 := (List.getElem?_eq_some_iff.1 (hcell _ _ x1)).1; have l2 := (List.getElem?_eq_some_iff.1 (hcell _ _ x2)).1; have l3 := (List.getElem?_eq_some_iff.1 (hcell _ _ x3)).1; have l4 := (List.getElem?_eq_some_iff.1 (hcell _ _ x4)).1
  refine ⟨g, 0, s, A, m, c, s', A', m', c', rfl, hr2.cell ?_, hr2.cell ?_, hr2.cell ?_, hr2.cell ?_, ?_⟩
  ·subst ha; simp [List.getElem?_set, l1]
  ·subst ha; simp [List.getElem?_set, l2]
  ·subst ha; simp [List.getElem?_set, l3]
  ·subst ha; simp [List.getElem?_set, l4]
  ·exact (hq.only oo (fun h => h rfl)).now
 ·rw [List.getElem?_set, if_neg (fun e2 => e e2.symm), hy] at hj
  injection hj with hj
  subst hj
  have hne : ∀ r p, r < 4 -> p < 4 -> j * 4 + r ≠ i * 4 + p := fun r p hr hp => by omega
  refine ⟨g, 0, t, B, k, d, t', B', k', d', rfl, hr2.cell ?_, hr2.cell ?_, hr2.cell ?_, hr2.cell ?_, ?_⟩
  ·subst ha; rw [Nat.zero_add, List.getElem?_set_ne (by omega), List.getElem?_set_ne (by omega), List.getElem?_set_ne (by omega), List.getElem?_set_ne (by omega)]; exact hcell _ _ x1
  ·subst ha; rw [Nat.zero_add, List.getElem?_set_ne (by omega), List.getElem?_set_ne (by omega), List.getElem?_set_ne (by omega), List.getElem?_set_ne (by omega)]; exact hcell _ _ x2
  ·subst ha; rw [Nat.zero_add, List.getElem?_set_ne (by omega), List.getElem?_set_ne (by omega), List.getElem?_set_ne (by omega), List.getElem?_set_ne (by omega)]; exact hcell _ _ x3
  ·subst ha; rw [Nat.zero_add, List.getElem?_set_ne (by omega), List.getElem?_set_ne (by omega), List.getElem?_set_ne (by omega), List.getElem?_set_ne (by omega)]; exact hcell _ _ x4
  ·exact ((show On w _ (fun W => E W _ _) from hE).only oo (fun h => h.2 rfl)).now
theorem OutTab.put {E : Elem} {w : World} {P : Nat -> Prop} {lo g n cap i : Nat} {t : List (List Rat)} {row : List Rat} {A : Option Addr} {m c : Nat} (h : OutTab E w P lo (.slice (some ⟨g, 0, none⟩) n cap) t)
 (hi : i < t.length) (hx : On w (fun b => P b /\ b ≠ g) (fun W => Rats E W (.slice A m c) row)) :
 OutTab E (w.setCell ⟨g, i, none⟩ (.slice A m c)) P lo (.slice (some ⟨g, 0, none⟩) n cap) (t.set i row) := by
 obtain ⟨es, h1, ⟨h2, h2'⟩, h3, h4⟩ := h
 rcases h2' with ⟨e, h0⟩ | ⟨g', cap', cur, e, hb, hg, hn, hm, hs, ht⟩
 ·omega
 ·injection e with e1 e2 e3
  injection e1 with e1; injection e1 with e1
  subst e1 e2 e3
  have hr : Row w g 134 cur.toList := by unfold Row; simpa using hg
  have hr2 := hr.set_ i (.slice A m c)
  refine ⟨es.set i (.slice A m c), by simp [h1], ⟨?_, .inr ⟨g, cap, (cur.toList.set i (.slice A m c)).toArray, by rw [List.length_set], hb, hr2, by rw [List.length_set]; exact hn, hm, ?_, ?_⟩⟩, ?_, ?_⟩
  ·rw [List.length_set, List.length_set]; exact h2
  ·simp [hs]
  ·rw [List.length_set, <- ht, List.take_set]
  ·intro e he
   rcases List.mem_or_eq_of_mem_set he with he | he
   ·exact h3 _ he
   ·rw [he]; exact ⟨_, _, _, rfl⟩
  ·have oo : Only g w (w.setCell ⟨g, i, none⟩ (.slice A m c)) := Only.one g w i _
   have hx2 : On w (fun b => P b /\ some b ≠ (Value.slice (some ⟨g, 0, none⟩) t.length cap).ownBlock) (fun W => Rats E W (.slice A m c) row) := hx.mono fun b hb _ => ⟨hb.1, fun e => hb.2 (by have e2 : some b = some g := e; injection e2)⟩
   refine ((h4.and hx2).only oo (fun hh => hh.2 rfl)).map fun W hW a e r ha hrow => ?_
   rw [List.getElem?_set] at ha hrow
   by_cases e2 : i = a
   ·subst e2
    rw [if_pos rfl, if_pos (by omega)] at ha
    rw [if_pos rfl, if_pos hi] at hrow
    injection ha with ha; injection hrow with hrow
    rw [<- ha, <- hrow]; exact hW.2
   ·rw [if_neg e2] at ha hrow
    exact hW.1 a _ _ ha hrow
end Go.Proofs.YtncbebfhakcgdaaGreat
namespace Go.Proofs.YtncbebfhakcgdaaGreat
open Go.RowKit Go.Shelf
attribute [local go_sem ↓] Go.wp_at_zero Go.wp_at_succ
end Go.Proofs.YtncbebfhakcgdaaGreat
namespace Go.Proofs.YtncbebfhakcgdaaGreat
open Go.RowKit Go.Shelf
attribute [local go_sem ↓] Go.wp_at_zero Go.wp_at_succ
end Go.Proofs.YtncbebfhakcgdaaGreat
namespace Go.Proofs.YtncbebfhakcgdaaGreat
open Go.RowKit Go.Shelf
attribute [local go_sem ↓] Go.wp_at_zero Go.wp_at_succ
def FirstR (p : Rat -> Bool) (l : List Rat) (z : Int) : Prop := (z = -1 /\ ∀ x ∈ l, p x = false) ∨ ∃ (i : Nat) (x : Rat), z = i /\ l[i]? = some x /\ p x = true /\ ∀ j r, j < i -> l[j]? = some r -> p r = false
set_option maxHeartbeats 2000000 in
theorem idxq_calls (w : World) (v : Value) (l : List Rat) (E : Elem) (hE : ∀ w w' v q, E w v q -> Later w w' -> E w' v q) (h : Rats E w v l) (hl : l.length <= 1000000000) (f : FuncId) (hf : Enters f) (p : Rat -> Bool)
 (hp : ∀ W xv x, Later w W -> E W xv x -> x ∈ l -> Calls Tryz.prog f #[xv] W (RetV W (.bool (p x)))) :
 Calls Tryz.prog 121 #[v, .func (.func f) #[] #[]] w (RetZ w (FirstR p l)) := by
 have H := hide h; have HP := hide hp
 have hen := hf.out
 obtain ⟨A0, nt, ct, rfl, hnt, -⟩ := h.form
 have HNT := hide hnt
 have hn9 : nt <= 1000000000 := by omega
 clear h hp hnt hl
 go_enter Tryz.func121, Tryz.ntmps121
 go_wp2_with fail
 go_loopw [8] (fun i wr => ∃ j : Nat, j <= nt /\ i = .int .i64 (j : Int) /\ Hid (∀ i r, i < j -> l[i]? = some r -> p r = false) /\ Later w wr) (fun i _ => (nt - intOf i).toNat)
 case atStart => exact ⟨0, by omega, rfl, hide fun i r hi => by omega, Later.refl w⟩
 case round =>
  obtain ⟨j, hj, rfl, hpre, hL⟩ := hrel
  by_cases hjn : j < nt
  ·obtain ⟨x, hx⟩ : ∃ x, l[j]? = some x := ⟨l[j]'(by have := HNT.out; omega), List.getElem?_eq_getElem _⟩
   obtain ⟨b1, off1, sx, A1, n1, c1, sx', A2, n2, c2, rfl, x1, x2, x3, x4, hr⟩ := (H.out.later hE hL).at_ hx
   have HR := hide hr; have HX := hide hx
   obtain ⟨u, hu⟩ : ∃ u, p x = u := ⟨_, rfl⟩
   have HU := hide hu
   have hj0 : (0 : Int) <= (j : Int) := by omega
   have hj1 : (j : Int) < nt := by omega
   clear hr hx hu
   go_wp2_with fail
   refine (HP.out _ _ x hL HR.out (List.mem_of_getElem? HX.out)).mono ?_
   rintro e w8 ⟨rfl, b8⟩
   rw [HU.out]
   have hL8 := hL.trans b8
   cases u
   case false =>
    have HN : Hid (∀ i r, i < j + 1 -> l[i]? = some r -> p r = false) := hide fun i r hi hr => by
     by_cases hij : i < j
     ·exact hpre.out i r hij hr
     ·obtain rfl : i = j := by omega
      rw [HX.out] at hr; injection hr with hr; rw [<- hr, HU.out]
    go_wp2_with fail
    exact ⟨⟨j+1, by omega, by go_num, HN, hL8⟩, by simp [intOf]; omega⟩
   case true =>
    have HF : Hid (FirstR p l j) := hide (.inr ⟨j, x, rfl, HX.out, HU.out, hpre.out⟩)
    go_wp2_with fail
    go_ret
    exact ⟨_, rfl, HF.out, hL8⟩
  ·obtain rfl : j = nt := by omega
   have HF : Hid (FirstR p l (-1)) := hide (.inl ⟨rfl, fun x hx => by
    obtain ⟨i, hi⟩ := List.getElem?_of_mem hx
    exact hpre.out i x (by rw [HNT.out]; exact (List.getElem?_eq_some_iff.1 hi).1) hi⟩)
   go_wp2_with fail
   go_ret
   exact ⟨_, rfl, HF.out, hL⟩
theorem firstR_any {p : Rat -> Bool} {l : List Rat} {z : Int} (h : FirstR p l z) : decide (0 <= z) = l.any p := by
 rcases h with ⟨rfl, h⟩ | ⟨i, x, rfl, h1, h2, h3⟩
 ·have : l.any p = false := by
   rw [List.any_eq_false]; intro x hx; rw [h x hx]; simp
  rw [this]; simp
 ·have : l.any p = true := by
   rw [List.any_eq_true]; exact ⟨x, List.mem_of_getElem? h1, h2⟩
  rw [this]; simp
set_option maxHeartbeats 1000000 in
theorem contq_calls (w : World) (v : Value) (l : List Rat) (E : Elem) (hE : ∀ w w' v q, E w v q -> Later w w' -> E w' v q) (h : Rats E w v l) (hl : l.length <= 1000000000) (f : FuncId) (hf : Enters f) (p : Rat -> Bool)
 (hp : ∀ W xv x, Later w W -> E W xv x -> x ∈ l -> Calls Tryz.prog f #[xv] W (RetV W (.bool (p x)))) (u : Bool) (hu : l.any p = u) :
 Calls Tryz.prog 99 #[v, .func (.func f) #[] #[]] w (RetV w (.bool u)) := by
 have H := hide h; have HP := hide hp; have HU := hide hu
 obtain ⟨A0, nt, ct, rfl, hnt, -⟩ := h.form
 clear h hp hnt hu
 go_enter Tryz.func99, Tryz.ntmps99
 go_wp2_with fail
 refine (idxq_calls _ _ l E hE H.out hl f hf p HP.out).mono ?_
 rintro e w1 ⟨z, rfl, hz, b1⟩
 have hd := firstR_any hz
 rw [HU.out] at hd
 have HD := hide hd
 clear hz hd
 go_wp2_with fail
 go_ret
 exact ⟨by simp [HD.out], b1⟩
def EFlag : Elem := fun w v q => ∃ a A n c b A' n' c' y, v = .agg #[.bool a, .slice A n c, .bool b, .slice A' n' c'] /\ RawI w (.agg #[.bool b, .slice A' n' c']) y 1000 /\ q = if 0 < y then 1 else 0
theorem EFlag.later (w w' : World) (v : Value) (q : Rat) (h : EFlag w v q) (hb : Later w w') : EFlag w' v q := by
 obtain ⟨a, A, n, c, b, A', n', c', y, e, h1, h2⟩ := h; exact ⟨a, A, n, c, b, A', n', c', y, e, h1.later hb, h2⟩
theorem EFlag.of_own {w : World} {v : Value} {q : Rat} {B : Nat} (h : OwnR w B v q) (hs : Sized q 1000) : EFlag w v 1 := by
 obtain ⟨s, A, n, c, A', n', c', rfl, h⟩ := h.open_
 have hd := h.den
 refine ⟨_, _, _, _, _, _, _, _, (q.den : Int), rfl, ?_, ?_⟩
 ·exact OwnI.raw hd (by simpa using hs.2)
 ·rw [if_pos (by have := q.den_pos; omega)]
def allF (l : List Rat) : Bool := l.all fun x => decide (x ≠ 0)
def allFF (t : List (List Rat)) : Bool := t.all allF
end Go.Proofs.YtncbebfhakcgdaaGreat
namespace Go.Proofs.YtncbebfhakcgdaaGreat
open Go.RowKit Go.Shelf
attribute [local go_sem ↓] Go.wp_at_zero Go.wp_at_succ
def StdIn (w : World) (vA vB vC : Value) (k : Nat) (A : List (List Rat)) (B C : List Rat) (ok : Bool) : Prop :=
 ∃ fA fB fC, Tab (ERaw k) w vA A /\ Rats (ERaw k) w vB B /\ Rats (ERaw k) w vC C /\ Tab EFlag w vA fA /\ Rats EFlag w vB fB /\ Rats EFlag w vC fC /\ ok = (allFF fA && (allF fB && allF fC)) /\
   k <= 1000 /\ (∀ r ∈ A, r.length <= 1000) /\ (∀ r ∈ fA, r.length <= 1000) /\ A.length <= 1000 /\ B.length <= 1000 /\ C.length <= 1000
section
variable {w w' : World} {vA vB vC : Value} {k : Nat} {A : List (List Rat)} {B C : List Rat} {ok : Bool}
theorem StdIn.later (h : StdIn w vA vB vC k A B C ok) (hb : Later w w') : StdIn w' vA vB vC k A B C ok := by
 obtain ⟨fA, fB, fC, h1, h2, h3, h4, h5, h6, h7⟩ := h
 exact ⟨fA, fB, fC, h1.later ERaw.later hb, h2.later ERaw.later hb, h3.later ERaw.later hb, h4.later EFlag.later hb, h5.later EFlag.later hb, h6.later EFlag.later hb, h7⟩
theorem StdIn.form (h : StdIn w vA vB vC k A B C ok) : ∃ A1 n1 c1 A2 n2 c2 A3 n3 c3, vA = .slice A1 n1 c1 /\ vB = .slice A2 n2 c2 /\ vC = .slice A3 n3 c3 /\ n1 = A.length /\ n2 = B.length /\ n3 = C.length := by
 obtain ⟨fA, fB, fC, h1, h2, h3, -⟩ := h
 obtain ⟨A1, n1, c1, rfl, e1, -⟩ := h1.form
 obtain ⟨A2, n2, c2, rfl, e2, -⟩ := h2.form
 obtain ⟨A3, n3, c3, rfl, e3, -⟩ := h3.form
 exact ⟨_, _, _, _, _, _, _, _, _, rfl, rfl, rfl, e1, e2, e3⟩
theorem StdIn.b (h : StdIn w vA vB vC k A B C ok) : Rats (ERaw k) w vB B := by obtain ⟨fA, fB, fC, -, h1, -⟩ := h; exact h1
theorem StdIn.c (h : StdIn w vA vB vC k A B C ok) : Rats (ERaw k) w vC C := by obtain ⟨fA, fB, fC, -, -, h1, -⟩ := h; exact h1
end
end Go.Proofs.YtncbebfhakcgdaaGreat
namespace Go.Proofs.YtncbebfhakcgdaaGreat
open Go.RowKit Go.Shelf
attribute [local go_sem ↓] Go.wp_at_zero Go.wp_at_succ
end Go.Proofs.YtncbebfhakcgdaaGreat
namespace Go.Proofs.YtncbebfhakcgdaaGreat
open Go.RowKit Go.Shelf
attribute [local go_sem ↓] Go.wp_at_zero Go.wp_at_succ
end Go.Proofs.YtncbebfhakcgdaaGreat
namespace Go.Proofs.YtncbebfhakcgdaaGreat
open Go.RowKit Go.Shelf
attribute [local go_sem ↓] Go.wp_at_zero Go.wp_at_succ
def ZRow (w : World) (lo g n j : Nat) : Prop := ∃ cs, Row w g 67 cs /\ cs.length = n * 4 /\ lo <= g /\ ∀ i, i < j -> ∃ s A m c A' m' c', cs[i * 4]? = some (.bool s) /\ cs[i * 4 + 1]? = some (.slice A m c) /\ cs[i * 4 + 2]? = some (.bool false) /\ cs[i * 4 + 3]? = some (.slice A' m' c') /\ On w (fun b => lo <= b /\ b ≠ g) (fun W => OwnR W 0 (.agg #[.bool s, .slice A m c, .bool false, .slice A' m' c']) 0)
theorem ZRow.later {w w' : World} {lo g n j : Nat} (h : ZRow w lo g n j) (hb : Later w w') : ZRow w' lo g n j := by
 obtain ⟨cs, h1, h2, h3, h4⟩ := h
 refine ⟨cs, h1.later hb, h2, h3, fun i hi => ?_⟩
 obtain ⟨s, A, m, c, A', m', c', x1, x2, x3, x4, ho⟩ := h4 i hi
 exact ⟨s, A, m, c, A', m', c', x1, x2, x3, x4, ho.later hb⟩
theorem ZRow.put {w : World} {lo g n j a : Nat} {s : Bool} {A A' : Option Addr} {m c m' c' : Nat} (h : ZRow w lo g n j) (hj : j < n) (ha : a = j * 4) (ho : On w (fun b => lo <= b /\ b ≠ g) (fun W => OwnR W 0 (.agg #[.bool s, .slice A m c, .bool false, .slice A' m' c']) 0)) :
 ZRow ((((w.setCell ⟨g, a, none⟩ (.bool s)).setCell ⟨g, a + 1, none⟩ (.slice A m c)).setCell ⟨g, a + 2, none⟩ (.bool false)).setCell ⟨g, a + 3, none⟩ (.slice A' m' c')) lo g n (j + 1) := by
 obtain ⟨cs, h1, h2, h3, h4⟩ := h
 subst ha
 have oo : Only g w ((((w.setCell ⟨g, j * 4, none⟩ (.bool s)).setCell ⟨g, j * 4 + 1, none⟩ (.slice A m c)).setCell ⟨g, j * 4 + 2, none⟩ (.bool false)).setCell ⟨g, j * 4 + 3, none⟩ (.slice A' m' c')) := (((Only.one g w _ _).set _ _).set _ _).set _ _
 refine ⟨_, (((h1.set_ _ (.bool s)).set_ _ (.slice A m c)).set_ _ (.bool false)).set_ _ (.slice A' m' c'), by simp [h2], h3, fun i hi => ?_⟩
 by_cases hij : i = j
 ·subst hij
  refine ⟨s, A, m, c, A', m', c', ?_, ?_, ?_, ?_, ho.only oo (fun h => h.2 rfl)⟩
  ·rw [List.getElem?_set_ne (by omega), List.getElem?_set_ne (by omega), List.getElem?_set_ne (by omega), List.getElem?_set_self (by omega)]
  ·rw [List.getElem?_set_ne (by omega), List.getElem?_set_ne (by omega), List.getElem?_set_self (by simp; omega)]
  ·rw [List.getElem?_set_ne (by omega), List.getElem?_set_self (by simp; omega)]
  ·rw [List.getElem?_set_self (by simp; omega)]
 ·obtain ⟨t, B, k, d, B', k', d', x1, x2, x3, x4, hx⟩ := h4 i (by omega)
  refine ⟨t, B, k, d, B', k', d', ?_, ?_, ?_, ?_, hx.only oo (fun h => h.2 rfl)⟩
  ·rw [List.getElem?_set_ne (by omega), List.getElem?_set_ne (by omega), List.getElem?_set_ne (by omega), List.getElem?_set_ne (by omega)]; exact x1
  ·rw [List.getElem?_set_ne (by omega), List.getElem?_set_ne (by omega), List.getElem?_set_ne (by omega), List.getElem?_set_ne (by omega)]; exact x2
  ·rw [List.getElem?_set_ne (by omega), List.getElem?_set_ne (by omega), List.getElem?_set_ne (by omega), List.getElem?_set_ne (by omega)]; exact x3
  ·rw [List.getElem?_set_ne (by omega), List.getElem?_set_ne (by omega), List.getElem?_set_ne (by omega), List.getElem?_set_ne (by omega)]; exact x4
theorem ZRow.rats {w : World} {lo g n : Nat} (h : ZRow w lo g n n) (hm : n <= maxLen) : OwnRats w lo (.slice (some ⟨g, 0, none⟩) n n) (List.replicate n 0) := by
 obtain ⟨cs, h1, h2, h3, h4⟩ := h
 have key : ∀ i : Nat, ∃ d : Bool × (Option Addr × Nat × Nat) × (Option Addr × Nat × Nat), i < n -> cs[i * 4]? = some (.bool d.1) /\ cs[i * 4 + 1]? = some (.slice d.2.1.1 d.2.1.2.1 d.2.1.2.2) /\ cs[i * 4 + 2]? = some (.bool false) /\ cs[i * 4 + 3]? = some (.slice d.2.2.1 d.2.2.2.1 d.2.2.2.2) /\
  On w (fun b => lo <= b /\ b ≠ g) (fun W => OwnR W 0 (.agg #[.bool d.1, .slice d.2.1.1 d.2.1.2.1 d.2.1.2.2, .bool false, .slice d.2.2.1 d.2.2.2.1 d.2.2.2.2]) 0) := fun i => by
  by_cases hi : i < n
  ·obtain ⟨s, A, m, c, A', m', c', x1, x2, x3, x4, ho⟩ := h4 i hi
   exact ⟨(s, (A, m, c), (A', m', c')), fun _ => ⟨x1, x2, x3, x4, ho⟩⟩
  ·exact ⟨(false, (none, 0, 0), (none, 0, 0)), fun h => absurd h hi⟩
 obtain ⟨d, hd⟩ := Classical.axiomOfChoice key
 have hl : On w (fun b => lo <= b) (fun W => ∀ i x, i < n -> some (d i) = some x -> OwnR W 0 (.agg #[.bool x.1, .slice x.2.1.1 x.2.1.2.1 x.2.1.2.2, .bool false, .slice x.2.2.1 x.2.2.2.1 x.2.2.2.2]) 0) :=
  On.list_ (T := fun i x W => OwnR W 0 (.agg #[.bool x.1, .slice x.2.1.1 x.2.1.2.1 x.2.1.2.2, .bool false, .slice x.2.2.1 x.2.2.2.1 x.2.2.2.2]) 0) n (fun i => some (d i)) (fun i x hi hx => by
   injection hx with hx; subst hx
   exact (hd i hi).2.2.2.2.mono (fun b hb _ => hb.1))
 have hr : On w (fun b => lo <= b) (fun W => Row W g 67 cs) := On.of_row h1 h3 (fun _ h => h)
 refine (hr.and hl).map fun W hW => ?_
 obtain ⟨hr, ho⟩ := hW
 refine ⟨some ⟨g, 0, none⟩, n, by simp, by simp, hm, fun i q hi => ?_⟩
 rw [List.getElem?_replicate] at hi
 split at hi
 ·rename_i hin
  injection hi with hi; subst hi
  obtain ⟨x1, x2, x3, x4, -⟩ := hd i hin
  exact ⟨g, 0, (d i).1, _, _, _, false, _, _, _, rfl, hr.cell (by simpa using x1), hr.cell (by simpa using x2), hr.cell (by simpa using x3), hr.cell (by simpa using x4), ho i (d i) hin rfl⟩
 ·cases hi
end Go.Proofs.YtncbebfhakcgdaaGreat
namespace Go.Proofs.YtncbebfhakcgdaaGreat
open Go.RowKit Go.Shelf
attribute [local go_sem ↓] Go.wp_at_zero Go.wp_at_succ
end Go.Proofs.YtncbebfhakcgdaaGreat
namespace Go.Proofs.YtncbebfhakcgdaaGreat
open Go.RowKit Go.Shelf
attribute [local go_sem ↓] Go.wp_at_zero Go.wp_at_succ
end Go.Proofs.YtncbebfhakcgdaaGreat
namespace Go.Proofs.YtncbebfhakcgdaaGreat
open Go.RowKit Go.Shelf
attribute [local go_sem ↓] Go.wp_at_zero Go.wp_at_succ
end Go.Proofs.YtncbebfhakcgdaaGreat
namespace Go.Proofs.YtncbebfhakcgdaaGreat
open Go.RowKit Go.Shelf
attribute [local go_sem ↓] Go.wp_at_zero Go.wp_at_succ
end Go.Proofs.YtncbebfhakcgdaaGreat
namespace Go.Proofs.YtncbebfhakcgdaaGreat
open Go.RowKit Go.Shelf
attribute [local go_sem ↓] Go.wp_at_zero Go.wp_at_succ
end Go.Proofs.YtncbebfhakcgdaaGreat
namespace Go.Proofs.YtncbebfhakcgdaaGreat
open Go.RowKit Go.Shelf
attribute [local go_sem ↓] Go.wp_at_zero Go.wp_at_succ
end Go.Proofs.YtncbebfhakcgdaaGreat
namespace Go.Proofs.YtncbebfhakcgdaaGreat
open Go.RowKit Go.Shelf
attribute [local go_sem ↓] Go.wp_at_zero Go.wp_at_succ
end Go.Proofs.YtncbebfhakcgdaaGreat
