/- Rows of fractions: Same, Few; and rows that are not of one length. -/
import Derived.Test.YtncbebfhakcgdaaGreatA8
set_option linter.unusedVariables false
set_option linter.unusedSimpArgs false
set_option maxRecDepth 100000
namespace Go.Proofs.YtncbebfhakcgdaaGreat
open Go.RowKit Go.Shelf
attribute [local go_sem ↓] Go.wp_at_zero Go.wp_at_succ
def EAny : Elem := fun w v q => ∃ k, RawR w v q k
theorem EAny.later (w w' : World) (v : Value) (q : Rat) (h : EAny w v q) (hb : Later w w') : EAny w' v q := by
 obtain ⟨k, h⟩ := h; exact ⟨k, h.later hb⟩
theorem rawI_small {w : World} {s : Bool} {A : Option Addr} {n c k m : Nat} {z : Int} (h : RawI w (.agg #[.bool s, .slice A n c]) z k) (hn : n <= m) : RawI w (.agg #[.bool s, .slice A n c]) z m := by
 obtain ⟨neg, A3, n3, c3, l, e3, hu, hz, hl⟩ := h
 injection e3 with e3; injection e3 with e3; injection e3 with e4 e3; injection e3 with e5 e3
 obtain ⟨A4, c4, e6, -, -, -, -⟩ := hu.form
 rw [<- e5] at e6
 injection e6 with _ e7 _
 exact ⟨neg, A3, n3, c3, l, by rw [e4, e5], hu, hz, by omega⟩
theorem rawR_small {w : World} {s s' : Bool} {A A' : Option Addr} {n c n' c' m : Nat} {q : Rat} (h : EAny w (.agg #[.bool s, .slice A n c, .bool s', .slice A' n' c']) q) (hn : n <= m) (hn' : n' <= m) : RawR w (.agg #[.bool s, .slice A n c, .bool s', .slice A' n' c']) q m := by
 obtain ⟨k, a, A1, n1, c1, b, A2, n2, c2, x, y, e, h1, h2, h3⟩ := h
 injection e with e; injection e with e; injection e with e1 e; injection e with e2 e; injection e with e3 e; injection e with e4 e
 injection e1 with e1; injection e2 with e5 e6 e7; injection e3 with e3; injection e4 with e8 e9 e10
 subst e1 e3 e5 e6 e7 e8 e9 e10
 exact ⟨_, _, _, _, _, _, _, _, x, y, rfl, rawI_small h1 hn, rawI_small h2 hn', h3⟩
end Go.Proofs.YtncbebfhakcgdaaGreat
namespace Go.Proofs.YtncbebfhakcgdaaGreat
open Go.RowKit
def EOn (P : Nat -> Prop) (E : Elem) : Elem := fun w v q => On w P (fun W => E W v q)
theorem EOn.later {P : Nat -> Prop} {E : Elem} (w w' : World) (v : Value) (q : Rat) (h : EOn P E w v q) (hb : Later w w') : EOn P E w' v q := On.later h hb
def Tab (E : Elem) (w : World) (v : Value) (t : List (List Rat)) : Prop :=
 ∃ A c, v = .slice A t.length c /\ t.length <= c /\ c <= maxLen /\ ∀ i row, t[i]? = some row -> ∃ b off A' n' c', A = some ⟨b, off, none⟩ /\ w.cell? ⟨b, off + i, none⟩ = some (.slice A' n' c') /\ Rats E w (.slice A' n' c') row
theorem Tab.later {E : Elem} (hE : ∀ w w' v q, E w v q -> Later w w' -> E w' v q) {w w' : World} {v : Value} {t : List (List Rat)} (h : Tab E w v t) (hb : Later w w') : Tab E w' v t := by
 obtain ⟨A, c, e, h1, h2, h3⟩ := h
 refine ⟨A, c, e, h1, h2, fun i row hi => ?_⟩
 obtain ⟨b, off, A', n', c', ha, x1, x2⟩ := h3 i row hi
 exact ⟨b, off, A', n', c', ha, Later.cell hb x1, x2.later hE hb⟩
theorem Tab.map {E E' : Elem} {w : World} {v : Value} {t : List (List Rat)} (h : Tab E w v t) (hE : ∀ row ∈ t, ∀ v q, q ∈ row -> E w v q -> E' w v q) : Tab E' w v t := by
 obtain ⟨A, c, e, h1, h2, h3⟩ := h
 refine ⟨A, c, e, h1, h2, fun i row hi => ?_⟩
 obtain ⟨b, off, A', n', c', ha, x1, x2⟩ := h3 i row hi
 exact ⟨b, off, A', n', c', ha, x1, x2.map (hE row (List.mem_of_getElem? hi))⟩
theorem Tab.form {E : Elem} {w : World} {v : Value} {t : List (List Rat)} (h : Tab E w v t) : ∃ A n c, v = .slice A n c /\ n = t.length /\ n <= c /\ c <= maxLen /\ Tab E w (.slice A n c) t := by
 obtain ⟨A, c, rfl, h1, h2, h3⟩ := id h
 exact ⟨A, _, c, rfl, rfl, h1, h2, h⟩
theorem Tab.at_ {E : Elem} {w : World} {A : Option Addr} {n c : Nat} {t : List (List Rat)} (h : Tab E w (.slice A n c) t) {i : Nat} {row : List Rat} (hi : t[i]? = some row) :
 ∃ b off A' n' c', A = some ⟨b, off, none⟩ /\ w.cell? ⟨b, off + i, none⟩ = some (.slice A' n' c') /\ Rats E w (.slice A' n' c') row := by
 obtain ⟨A', c', e, -, -, h3⟩ := h
 injection e with e1 e2 e3
 subst e1
 exact h3 i row hi
def OutTab (E : Elem) (w : World) (P : Nat -> Prop) (lo : Nat) (v : Value) (t : List (List Rat)) : Prop :=
 ∃ es : List Value, es.length = t.length /\ w.ownsRow lo 134 1 v t.length es /\ (∀ e ∈ es, ∃ A n c, e = .slice A n c) /\
   On w (fun b => P b /\ some b ≠ v.ownBlock) (fun W => ∀ (i : Nat) (e : Value) (row : List Rat), es[i]? = some e -> t[i]? = some row -> Rats E W e row)
theorem OutTab.nil (E : Elem) (w : World) (P : Nat -> Prop) (lo : Nat) : OutTab E w P lo (.slice none 0 0) [] :=
 ⟨[], rfl, World.ownsRow_nil w lo _ 1, by simp, On.pure fun W i e q hi => by simp at hi⟩
theorem OutTab.later {E : Elem} {w w' : World} {P : Nat -> Prop} {lo : Nat} {v : Value} {t : List (List Rat)} (h : OutTab E w P lo v t) (hb : Later w w') : OutTab E w' P lo v t := by
 obtain ⟨es, h1, h2, h3, h4⟩ := h
 exact ⟨es, h1, ownsRow_later h2 hb, h3, h4.later hb⟩
theorem OutTab.mono {E : Elem} {w : World} {P P' : Nat -> Prop} {lo : Nat} {v : Value} {t : List (List Rat)} (h : OutTab E w P lo v t) (hp : ∀ b, P b -> b < w.heap.size -> P' b) : OutTab E w P' lo v t := by
 obtain ⟨es, h1, h2, h3, h4⟩ := h
 exact ⟨es, h1, h2, h3, h4.mono fun b hb hlt => ⟨hp b hb.1 hlt, hb.2⟩⟩
theorem ownsRow_weaken {w : World} {B C size n : Nat} {e : TypeId} {v : Value} {xs : List Value} (h : w.ownsRow B e size v n xs) (hC : C <= B) : w.ownsRow C e size v n xs := by
 obtain ⟨h2, h3⟩ := h
 refine ⟨h2, ?_⟩
 rcases h3 with h3 | ⟨g, cap, cur, rfl, hb', hg, r⟩
 ·exact .inl h3
 ·exact .inr ⟨g, cap, cur, rfl, Nat.le_trans hC hb', hg, r⟩
theorem OutTab.weaken {E : Elem} {w : World} {P : Nat -> Prop} {lo lo' : Nat} {v : Value} {t : List (List Rat)} (h : OutTab E w P lo v t) (hl : lo' <= lo) : OutTab E w P lo' v t := by
 obtain ⟨es, h1, h2, h3, h4⟩ := h
 exact ⟨es, h1, ownsRow_weaken h2 hl, h3, h4⟩
theorem OutTab.lt {E : Elem} {w : World} {P : Nat -> Prop} {lo : Nat} {v : Value} {t : List (List Rat)} (h : OutTab E w P lo v t) : ∀ k, v.ownBlock = some k -> lo <= k /\ k < w.heap.size := by
 obtain ⟨es, h1, h2, -⟩ := h; exact World.ownsRow.lt h2
theorem OutTab.snoc {E : Elem} {w W : World} {P : Nat -> Prop} {lo : Nat} {v v' : Value} {t : List (List Rat)} {row : List Rat} {A : Option Addr} {n c : Nat}
 (es : List Value) (h1 : es.length = t.length) (h3 : ∀ e ∈ es, ∃ A n c, e = .slice A n c)
 (h4 : On w (fun b => P b /\ some b ≠ v.ownBlock) (fun W => ∀ (i : Nat) (e : Value) (row : List Rat), es[i]? = some e -> t[i]? = some row -> Rats E W e row))
 (hown : W.ownsRow lo 134 1 v' (t.length + 1) (es ++ [.slice A n c])) (hg : w.grownBy W v.ownBlock) (hblk : v'.ownBlock = v.ownBlock ∨ v'.ownBlock = some w.heap.size)
 (hx : On w (fun b => P b /\ some b ≠ v.ownBlock) (fun W => Rats E W (.slice A n c) row)) : OutTab E W P lo v' (t ++ [row]) := by
 refine ⟨es ++ [.slice A n c], by simp [h1], by rw [List.length_append]; exact hown, ?_, ?_⟩
 ·intro e he
  rcases List.mem_append.1 he with he | he
  ·exact h3 e he
  ·simp at he; subst he; exact ⟨_, _, _, rfl⟩
 ·have h6 : On W (fun b => P b /\ some b ≠ v'.ownBlock) _ := (by
   obtain ⟨F, f1, f2⟩ := h4.and hx
   refine ⟨F, fun b hb => ⟨⟨(f1 b hb).1.1, ?_⟩, Nat.lt_of_lt_of_le (f1 b hb).2 hg.size⟩, fun W' hW' => f2 W' fun b hb => (hW' b hb).trans (hg.block b (f1 b hb).2 (f1 b hb).1.2)⟩
   rcases hblk with e | e
   ·rw [e]; exact (f1 b hb).1.2
   ·rw [e]; intro e2; injection e2 with e2; have := (f1 b hb).2; omega)
  refine h6.map fun W' ⟨k1, k2⟩ i e q' hi hq => ?_
  by_cases hlt : i < es.length
  ·rw [List.getElem?_append_left hlt] at hi
   rw [List.getElem?_append_left (by omega)] at hq
   exact k1 i e q' hi hq
  ·by_cases he : i = es.length
   ·subst he
    rw [List.getElem?_append_right (Nat.le_refl _), Nat.sub_self] at hi
    rw [h1, List.getElem?_append_right (Nat.le_refl _), Nat.sub_self] at hq
    simp at hi hq
    subst hi hq
    exact k2
   ·rw [List.getElem?_eq_none (by simp; omega)] at hi; cases hi
section
variable {w : World} {o : Oper} {a : Act} {K : Act -> World -> Prop} {Q : Exit -> Act -> World -> Prop}
end
end Go.Proofs.YtncbebfhakcgdaaGreat
namespace Go.Proofs.YtncbebfhakcgdaaGreat
open Go.RowKit Go.Shelf
attribute [local go_sem ↓] Go.wp_at_zero Go.wp_at_succ
def RetZ (w : World) (P : Int -> Prop) (e : Ending) (w' : World) : Prop := ∃ z : Int, e = .returned (.int .i64 z) /\ P z /\ Later w w'
end Go.Proofs.YtncbebfhakcgdaaGreat
namespace Go.Proofs.YtncbebfhakcgdaaGreat
open Go.RowKit Go.Shelf
attribute [local go_sem ↓] Go.wp_at_zero Go.wp_at_succ
theorem own_empty (w : World) (e : TypeId) (size : Nat) : (w.alloc (Obj.cells #[] e)).ownsRow w.heap.size e size (.slice (some ⟨w.heap.size, 0, none⟩) 0 0) 0 [] :=
 ⟨by simp, .inr ⟨w.heap.size, 0, #[], rfl, Nat.le_refl _, Row.new w e [], Nat.le_refl _, Nat.zero_le _, by simp, by simp⟩⟩
theorem On.list_ {α : Type} {w : World} {P : Nat -> Prop} {T : Nat -> α -> World -> Prop} (n : Nat) (f : Nat -> Option α) (h : ∀ i x, i < n -> f i = some x -> On w P (T i x)) : On w P (fun W => ∀ i x, i < n -> f i = some x -> T i x W) := by
 induction n with
 | zero => exact On.pure fun W i x hi => by omega
 | succ n ih =>
   have h1 := ih fun i x hi hx => h i x (by omega) hx
   cases hf : f n with
   | none =>
     refine h1.map fun W hW i x hi hx => ?_
     by_cases e : i = n
     ·subst e; rw [hf] at hx; cases hx
     ·exact hW i x (by omega) hx
   | some y =>
     refine (h1.and (h n y (by omega) hf)).map fun W hWy i x hi hx => ?_
     by_cases e : i = n
     ·subst e; rw [hf] at hx; injection hx with hx; rw [<- hx]; exact hWy.2
     ·exact hWy.1 i x (by omega) hx
end Go.Proofs.YtncbebfhakcgdaaGreat
namespace Go.Proofs.YtncbebfhakcgdaaGreat
open Go.RowKit Go.Shelf
attribute [local go_sem ↓] Go.wp_at_zero Go.wp_at_succ
theorem Tab.sized {k : Nat} {w : World} {v : Value} {t : List (List Rat)} (h : Tab (ERaw k) w v t) : ∀ row ∈ t, ∀ q ∈ row, Sized q (k+1) := by
 intro row hr q hq
 obtain ⟨i, hi⟩ := List.getElem?_of_mem hr
 obtain ⟨A, c, e, -, -, h3⟩ := h
 obtain ⟨b, off, A', n', c', -, -, x⟩ := h3 i row hi
 exact Rats.sized x q hq
end Go.Proofs.YtncbebfhakcgdaaGreat
namespace Go.Proofs.YtncbebfhakcgdaaGreat
def piv (M : Nat -> Nat -> Rat) (r c : Nat) : Nat -> Nat -> Rat := fun i k => if i = r then M r k / M r c else M i k - M i c * (M r k / M r c)
structure UnitF (n c : Nat) (M : Nat -> Nat -> Rat) (u : Nat -> Nat) : Prop where
 lt : ∀ k, k < c -> u k < n
 inj : ∀ k j, k < c -> j < c -> u k = u j -> k = j
 ent : ∀ k i, k < c -> i < n -> M i k = if i = u k then 1 else 0
theorem UnitF.zero (n : Nat) (M : Nat -> Nat -> Rat) (u : Nat -> Nat) : UnitF n 0 M u := ⟨fun k h => by omega, fun k j h => by omega, fun k i h => by omega⟩
theorem UnitF.step {n c : Nat} {M : Nat -> Nat -> Rat} {u v : Nat -> Nat} {r : Nat} (h : UnitF n c M u) (hr : r < n) (hu : ∀ k, k < c -> u k ≠ r) (hp : M r c ≠ 0) (hv : ∀ k, k < c -> v k = u k) (hc : v c = r) : UnitF n (c+1) (piv M r c) v := by
 refine ⟨fun k hk => ?_, fun k j hk hj e => ?_, fun k i hk hi => ?_⟩
 ·by_cases e : k = c
  ·subst e; omega
  ·rw [hv k (by omega)]; exact h.lt k (by omega)
 ·by_cases e1 : k = c
  ·by_cases e2 : j = c
   ·omega
   ·subst e1; rw [hc, hv j (by omega)] at e; exact absurd e.symm (hu j (by omega))
  ·by_cases e2 : j = c
   ·subst e2; rw [hc, hv k (by omega)] at e; exact absurd e (hu k (by omega))
   ·rw [hv k (by omega), hv j (by omega)] at e; exact h.inj k j (by omega) (by omega) e
 ·by_cases e : k = c
  ·subst e
   rw [hc]
   by_cases e2 : i = r
   ·subst e2; simp only [piv, if_true]; grind
   ·simp only [piv, if_neg e2]; grind
  ·have h1 := h.ent k i (by omega) hi
   have h2 := h.ent k r (by omega) hr
   rw [if_neg (fun e => hu k (by omega) e.symm)] at h2
   rw [hv k (by omega)]
   by_cases e2 : i = r
   ·subst e2; rw [if_neg (fun e => hu k (by omega) e.symm)]; simp only [piv, if_true]; rw [h2]; grind
   ·simp only [piv, if_neg e2]; rw [h1, h2]; grind
end Go.Proofs.YtncbebfhakcgdaaGreat
namespace Go.Proofs.YtncbebfhakcgdaaGreat
def ent (t : List (List Rat)) (i k : Nat) : Rat := (t.getD i []).getD k 0
def grow (k : Nat) : Nat -> Nat
 | 0 => k
 | c+1 => 4 * grow k c + 9
end Go.Proofs.YtncbebfhakcgdaaGreat
namespace Go.Proofs.YtncbebfhakcgdaaGreat
open Go.RowKit Go.Shelf
attribute [local go_sem ↓] Go.wp_at_zero Go.wp_at_succ
theorem OutTab.map {E E' : Elem} {w : World} {P : Nat -> Prop} {lo : Nat} {v : Value} {t : List (List Rat)} (h : OutTab E w P lo v t) (hE : ∀ W v q, (∃ row ∈ t, q ∈ row) -> E W v q -> E' W v q) : OutTab E' w P lo v t := by
 obtain ⟨es, h1, h2, h3, h4⟩ := h
 exact ⟨es, h1, h2, h3, h4.map fun W hW i e row hi hr => (hW i e row hi hr).map fun v q hq he => hE W v q ⟨row, List.mem_of_getElem? hr, hq⟩ he⟩
theorem OutTab.open_ {E : Elem} {w : World} {P : Nat -> Prop} {lo : Nat} {v : Value} {t : List (List Rat)} (h : OutTab E w P lo v t) (hi : 0 < t.length) :
 ∃ g cap cs, v = .slice (some ⟨g, 0, none⟩) t.length cap /\ lo <= g /\ t.length <= cap /\ cap <= maxLen /\ Row w g 134 cs /\ ∀ j, j < t.length -> ∃ A n c, cs[j]? = some (.slice A n c) := by
 obtain ⟨es, h1, ⟨h2, h2'⟩, h3, h4⟩ := h
 rcases h2' with ⟨rfl, h0⟩ | ⟨g, cap, cur, rfl, hb, hg, hn, hm, hs, ht⟩
 ·omega
 ·refine ⟨g, cap, cur.toList, rfl, hb, hn, hm, by unfold Row; simpa using hg, fun j hj => ?_⟩
  obtain ⟨e, hee⟩ : ∃ e, es[j]? = some e := ⟨es[j]'(by omega), List.getElem?_eq_getElem _⟩
  obtain ⟨A1, n1, c1, rfl⟩ := h3 e (List.mem_of_getElem? hee)
  refine ⟨A1, n1, c1, ?_⟩
  rw [<- ht, List.getElem?_take] at hee
  split at hee
  ·exact hee
  ·cases hee
theorem Tab.drop {E : Elem} {w : World} {b off n cap c : Nat} {t : List (List Rat)} (h : Tab E w (.slice (some ⟨b, off, none⟩) n cap) t) (hc : c <= n) : Tab E w (.slice (some ⟨b, off + c, none⟩) (n - c) (cap - c)) (t.drop c) := by
 obtain ⟨A, cap', e, h1, h2, h3⟩ := h
 injection e with e1 e2 e3
 subst e1 e2 e3
 refine ⟨_, cap - c, by rw [List.length_drop], by rw [List.length_drop]; omega, by omega, fun i row hi => ?_⟩
 rw [List.getElem?_drop] at hi
 obtain ⟨b', off', A', n', c', ha, x1, x2⟩ := h3 (c + i) row hi
 injection ha with ha; injection ha with ha1 ha2
 subst ha1 ha2
 exact ⟨b, off + c, A', n', c', rfl, by rw [Nat.add_assoc]; exact x1, x2⟩
end Go.Proofs.YtncbebfhakcgdaaGreat
namespace Go.Proofs.YtncbebfhakcgdaaGreat
open Go.RowKit Go.Shelf
attribute [local go_sem ↓] Go.wp_at_zero Go.wp_at_succ
theorem OutRats.weaken {E : Elem} {w : World} {P : Nat -> Prop} {lo lo' : Nat} {v : Value} {l : List Rat} (h : OutRats E w P lo v l) (hl : lo' <= lo) : OutRats E w P lo' v l := by
 obtain ⟨es, h1, h2, h3, h4⟩ := h
 exact ⟨es, h1, ownsRow_weaken h2 hl, h3, h4⟩
end Go.Proofs.YtncbebfhakcgdaaGreat
namespace Go.Proofs.YtncbebfhakcgdaaGreat
open Go.RowKit Go.Shelf
attribute [local go_sem ↓] Go.wp_at_zero Go.wp_at_succ
set_option maxHeartbeats 1000000 in
theorem lawof_calls (w : World) (n : Int) (h1 : -9223372036854775808 <= n) (h2 : n < 9223372036854775808) (q : Rat) (hq : Rat.divInt n 1 = q) :
 Calls Tryz.prog 53 #[.int .i64 n] w (Ret w fun w' v => OwnR w' w.heap.size v q) := by
 obtain ⟨W0, hW0⟩ : ∃ W0, W0 = w.alloc (Obj.cells #[Value.bool false, Value.slice none 0 0, Value.bool false, Value.slice none 0 0] 67) := ⟨_, rfl⟩
 obtain ⟨hb0, r1, hsz0⟩ := boxes1 w [.bool false, .slice none 0 0, .bool false, .slice none 0 0] 67 hW0
 have R1 := hide r1; have B0' := hide hb0; have HW0 := hide hW0
 clear r1 hb0 hW0
 go_enter Tryz.func53, Tryz.ntmps53
 go_wp2_with fail
 rw [<- HW0.out]
 refine (qof_calls _ n 1 h1 h2 (by omega) (by omega) (by omega) q hq).mono ?_
 rintro e w1 ⟨v1, ok1, rfl, ⟨o1, rfl⟩, b1⟩
 obtain ⟨s1, P1, q1, e1, P1', q1', e1', rfl, o1⟩ := o1.open_; have O1 := hide o1; clear o1
 have hs1 := b1.size
 have hb2 := b1.alloc (Obj.cells #[Value.bool s1, Value.slice P1 q1 e1, Value.bool false, Value.slice P1' q1' e1'] 67)
 have HR := hide (R1.out.later hb2)
 have hL := hide (B0'.out.trans hb2)
 obtain ⟨d1, d2, d3, d4, d5, d6, d7, d8⟩ := row_cells4 HR.out
 go_wp2_with fail
 refine bodyPost_ret (results_rat rfl rfl (HR.out.four _ _ _ _)) rfl ?_
 have oo := Only.four w.heap.size (w1.alloc (Obj.cells #[Value.bool s1, Value.slice P1 q1 e1, Value.bool false, Value.slice P1' q1' e1'] 67)) (.bool s1) (.slice P1 q1 e1) (.bool false) (.slice P1' q1' e1')
 exact ⟨_, rfl, ((O1.out.later ((Later.refl _).alloc _)).only oo (by omega)).weaken (by omega), hL.out.only oo (Nat.le_refl _)⟩
end Go.Proofs.YtncbebfhakcgdaaGreat
namespace Go.Proofs.YtncbebfhakcgdaaGreat
theorem sized_small {q : Rat} (h1 : q.num.natAbs < 2 ^ 32) (h2 : q.den < 2 ^ 32) : Sized q 1 := ⟨length_limbs_le (by simpa using h1), length_limbs_le (by simpa using h2)⟩
theorem sized_0 : Sized 0 1 := sized_small (by decide) (by decide)
theorem sized_1 : Sized 1 1 := sized_small (by decide) (by decide)
theorem sized_2 : Sized 2 1 := sized_small (by decide) (by decide)
theorem sized_3 : Sized 3 1 := sized_small (by decide) (by decide)
end Go.Proofs.YtncbebfhakcgdaaGreat
