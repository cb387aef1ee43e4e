/- Facts that hang on some blocks alone; lists of fractions in memory. -/
import Derived.Test.YtfokplidiboabaaGreatS4
import Derived.Test.YtfokplidiboabaaGreatS6
import Derived.Test.YtfokplidiboabaaGreatS8
set_option linter.unusedVariables false
set_option linter.unusedSimpArgs false
namespace Go.Proofs.YtfokplidiboabaaGreat
open Go.RowKit
def On (w : World) (P : Nat -> Prop) (T : World -> Prop) : Prop := ∃ F : Nat -> Prop, (∀ b, F b -> P b /\ b < w.heap.size) /\ ∀ W : World, (∀ b, F b -> W.heap[b]? = w.heap[b]?) -> T W
section
variable {w w' : World} {P P' : Nat -> Prop} {T T' : World -> Prop}
theorem On.now (h : On w P T) : T w := by obtain ⟨F, h1, h2⟩ := h; exact h2 w fun _ _ => rfl
theorem On.mono (h : On w P T) (hp : ∀ b, P b -> b < w.heap.size -> P' b) : On w P' T := by
 obtain ⟨F, h1, h2⟩ := h; exact ⟨F, fun b hb => ⟨hp b (h1 b hb).1 (h1 b hb).2, (h1 b hb).2⟩, h2⟩
theorem On.map (h : On w P T) (ht : ∀ W, T W -> T' W) : On w P T' := by
 obtain ⟨F, h1, h2⟩ := h; exact ⟨F, h1, fun W hW => ht W (h2 W hW)⟩
theorem On.and (h : On w P T) (k : On w P T') : On w P (fun W => T W /\ T' W) := by
 obtain ⟨F, h1, h2⟩ := h
 obtain ⟨G, k1, k2⟩ := k
 exact ⟨fun b => F b ∨ G b, fun b hb => hb.elim (h1 b) (k1 b), fun W hW => ⟨h2 W fun b hb => hW b (.inl hb), k2 W fun b hb => hW b (.inr hb)⟩⟩
theorem On.keep (h : On w P T) (hs : w.heap.size <= w'.heap.size) (hk : ∀ b, P b -> b < w.heap.size -> w'.heap[b]? = w.heap[b]?) : On w' P T := by
 obtain ⟨F, h1, h2⟩ := h
 exact ⟨F, fun b hb => ⟨(h1 b hb).1, Nat.lt_of_lt_of_le (h1 b hb).2 hs⟩, fun W hW => h2 W fun b hb => (hW b hb).trans (hk b (h1 b hb).1 (h1 b hb).2)⟩
theorem On.later (h : On w P T) (hb : Later w w') : On w' P T := h.keep hb.size fun b _ hlt => hb.block b hlt
theorem On.only {g : Nat} (h : On w P T) (o : Only g w w') (hg : ¬ P g) : On w' P T := h.keep (by rw [o.size]; exact Nat.le_refl _) fun b hb _ => o.block b (fun e => hg (e ▸ hb))
theorem On.grown {row : Option Nat} (h : On w P T) (hg : w.grownBy w' row) (hr : ∀ b, P b -> b < w.heap.size -> some b ≠ row) : On w' P T := h.keep hg.size fun b hb hlt => hg.block b hlt (hr b hb hlt)
theorem On.pure (h : ∀ W, T W) : On w P T := ⟨fun _ => False, fun _ hb => hb.elim, fun W _ => h W⟩
theorem On.all {α : Type} {T : α -> World -> Prop} (l : List α) (h : ∀ x ∈ l, On w P (T x)) : On w P (fun W => ∀ x ∈ l, T x W) := by
 induction l with
 | nil => exact On.pure fun W x hx => by cases hx
 | cons a l ih =>
   refine (On.and (h a (List.mem_cons_self ..)) (ih fun x hx => h x (List.mem_cons_of_mem _ hx))).map fun W ⟨h1, h2⟩ x hx => ?_
   rcases List.mem_cons.1 hx with rfl | hx
   ·exact h1
   ·exact h2 x hx
theorem On.of_row {g : Nat} {t : TypeId} {cs : List Value} (h : Row w g t cs) (hP : P g) (ht : ∀ W, Row W g t cs -> T W) : On w P T :=
 ⟨fun b => b = g, fun b hb => by subst hb; exact ⟨hP, h.lt⟩, fun W hW => ht W ((hW g rfl).trans h)⟩
end
theorem On.own32 {T : TypeId} {w : World} {B : Nat} {v : Value} {l : List Nat} (h : Own32 T w B v l) : On w (fun b => B <= b) (fun W => Own32 T W B v l) := by
 obtain ⟨h1, h2, h3⟩ := h
 rcases h3 with h3 | ⟨g, cap, cur, rfl, hb, hg, r⟩
 ·exact On.pure fun W => ⟨h1, h2, .inl h3⟩
 ·exact On.of_row (cs := cur.toList) (t := T) hg hb fun W hW => ⟨h1, h2, .inr ⟨g, cap, cur, rfl, hb, hW, r⟩⟩
theorem On.ownR {w : World} {B : Nat} {v : Value} {q : Rat} (h : OwnR w B v q) : On w (fun b => B <= b) (fun W => OwnR W 0 v q) := by
 obtain ⟨A, n, c, A', n', c', e, h1, h2⟩ := h
 exact ((On.own32 h1).and (On.own32 h2)).map fun W h => ⟨A, n, c, A', n', c', e, h.1.weaken (Nat.zero_le _), h.2.weaken (Nat.zero_le _)⟩
theorem cells_agree {w W : World} {A : Option Addr} {xs : List Value} (h : Cells w A xs) (ha : ∀ b, b < w.heap.size -> W.heap[b]? = w.heap[b]?) : Cells W A xs := by
 rcases h with rfl | ⟨b, off, rfl, h⟩
 ·exact .inl rfl
 ·refine .inr ⟨b, off, rfl, fun j u hj => ?_⟩
  have h1 := h j u hj
  have hlt := World.block_lt_of_cell? w _ h1
  exact (World.cell?_of_block (a := ⟨b, off + j, none⟩) (ha b hlt)).trans h1
theorem u32s_agree {w W : World} {v : Value} {l : List Nat} (h : U32s w v l) (ha : ∀ b, b < w.heap.size -> W.heap[b]? = w.heap[b]?) : U32s W v l := by
 obtain ⟨h1, A, cap, h2, h3, h4, h5, h6⟩ := h
 exact ⟨h1, A, cap, h2, h3, h4, h5, cells_agree h6 ha⟩
theorem rawI_agree {w W : World} {v : Value} {z : Int} {k : Nat} (h : RawI w v z k) (ha : ∀ b, b < w.heap.size -> W.heap[b]? = w.heap[b]?) : RawI W v z k := by
 obtain ⟨n, A, m, c, l, e, h, e', hk⟩ := h; exact ⟨n, A, m, c, l, e, u32s_agree h ha, e', hk⟩
theorem rawR_agree {w W : World} {v : Value} {q : Rat} {k : Nat} (h : RawR w v q k) (ha : ∀ b, b < w.heap.size -> W.heap[b]? = w.heap[b]?) : RawR W v q k := by
 obtain ⟨a, A, n, c, b, A', n', c', x, y, e, h1, h2, h3⟩ := h; exact ⟨a, A, n, c, b, A', n', c', x, y, e, rawI_agree h1 ha, rawI_agree h2 ha, h3⟩
abbrev Elem := World -> Value -> Rat -> Prop
def ERaw (k : Nat) : Elem := fun w v q => RawR w v q k
def EOwn : Elem := fun w v q => OwnR w 0 v q
def Rats (E : Elem) (w : World) (v : Value) (l : List Rat) : Prop :=
 ∃ A c, v = .slice A l.length c /\ l.length <= c /\ c <= maxLen /\ ∀ i q, l[i]? = some q -> ∃ b off s A1 n1 c1 s' A2 n2 c2, A = some ⟨b, off, none⟩ /\ w.cell? ⟨b, off + i * 4, none⟩ = some (.bool s) /\ w.cell? ⟨b, off + i * 4 + 1, none⟩ = some (.slice A1 n1 c1) /\
   w.cell? ⟨b, off + i * 4 + 2, none⟩ = some (.bool s') /\ w.cell? ⟨b, off + i * 4 + 3, none⟩ = some (.slice A2 n2 c2) /\ E w (.agg #[.bool s, .slice A1 n1 c1, .bool s', .slice A2 n2 c2]) q
theorem Rats.later {E : Elem} (hE : ∀ w w' v q, E w v q -> Later w w' -> E w' v q) {w w' : World} {v : Value} {l : List Rat} (h : Rats E w v l) (hb : Later w w') : Rats E w' v l := by
 obtain ⟨A, c, e, h1, h2, h3⟩ := h
 refine ⟨A, c, e, h1, h2, fun i q hi => ?_⟩
 obtain ⟨b, off, s, A1, n1, c1, s', A2, n2, c2, ha, x1, x2, x3, x4, hE'⟩ := h3 i q hi
 exact ⟨b, off, s, A1, n1, c1, s', A2, n2, c2, ha, Later.cell hb x1, Later.cell hb x2, Later.cell hb x3, Later.cell hb x4, hE _ _ _ _ hE' hb⟩
theorem ERaw.later {k : Nat} (w w' : World) (v : Value) (q : Rat) (h : ERaw k w v q) (hb : Later w w') : ERaw k w' v q := RawR.later h hb
theorem EOwn.later (w w' : World) (v : Value) (q : Rat) (h : EOwn w v q) (hb : Later w w') : EOwn w' v q := OwnR.later h hb
theorem Rats.map {E E' : Elem} {w : World} {v : Value} {l : List Rat} (h : Rats E w v l) (hE : ∀ v q, q ∈ l -> E w v q -> E' w v q) : Rats E' w v l := by
 obtain ⟨A, c, e, h1, h2, h3⟩ := h
 refine ⟨A, c, e, h1, h2, fun i q hi => ?_⟩
 obtain ⟨b, off, s, A1, n1, c1, s', A2, n2, c2, ha, x1, x2, x3, x4, hE'⟩ := h3 i q hi
 exact ⟨b, off, s, A1, n1, c1, s', A2, n2, c2, ha, x1, x2, x3, x4, hE _ _ (List.mem_of_getElem? hi) hE'⟩
def OutRats (E : Elem) (w : World) (P : Nat -> Prop) (lo : Nat) (v : Value) (l : List Rat) : Prop :=
 ∃ es : List (Bool × Value × Bool × Value), es.length = l.length /\ w.ownsRow lo 36 4 v l.length (es.flatMap fun (e : Bool × Value × Bool × Value) => [.bool e.1, e.2.1, .bool e.2.2.1, e.2.2.2]) /\
   (∀ e ∈ es, (∃ A n c, e.2.1 = .slice A n c) /\ (∃ A n c, e.2.2.2 = .slice A n c)) /\
   On w (fun b => P b /\ some b ≠ v.ownBlock) (fun W => ∀ (i : Nat) (e : Bool × Value × Bool × Value) (q : Rat), es[i]? = some e -> l[i]? = some q -> E W (.agg #[.bool e.1, e.2.1, .bool e.2.2.1, e.2.2.2]) q)
theorem OutRats.nil (E : Elem) (w : World) (P : Nat -> Prop) (lo : Nat) : OutRats E w P lo (.slice none 0 0) [] :=
 ⟨[], rfl, World.ownsRow_nil w lo _ 4, by simp, On.pure fun W i e q hi => by simp at hi⟩
theorem OutRats.mono {E : Elem} {w : World} {P P' : Nat -> Prop} {lo : Nat} {v : Value} {l : List Rat} (h : OutRats E w P lo v l) (hp : ∀ b, P b -> b < w.heap.size -> P' b) : OutRats E w P' lo v l := by
 obtain ⟨es, h1, h2, h3, h4⟩ := h
 exact ⟨es, h1, h2, h3, h4.mono fun b hb hlt => ⟨hp b hb.1 hlt, hb.2⟩⟩
theorem ownsRow_later {w w' : World} {B size n : Nat} {e : TypeId} {v : Value} {xs : List Value} (h : w.ownsRow B e size v n xs) (hb : Later w w') : w'.ownsRow B e size v n xs := by
 obtain ⟨h2, h3⟩ := h
 refine ⟨h2, ?_⟩
 rcases h3 with h3 | ⟨g, cap, cur, rfl, hb', hg, r⟩
 ·exact .inl h3
 ·exact .inr ⟨g, cap, cur, rfl, hb', Row.later (cs := cur.toList) hg hb, r⟩
theorem OutRats.later {E : Elem} {w w' : World} {P : Nat -> Prop} {lo : Nat} {v : Value} {l : List Rat} (h : OutRats E w P lo v l) (hb : Later w w') : OutRats E w' P lo v l := by
 obtain ⟨es, h1, h2, h3, h4⟩ := h
 exact ⟨es, h1, ownsRow_later h2 hb, h3, h4.later hb⟩
theorem OutRats.only {E : Elem} {w w' : World} {P : Nat -> Prop} {lo g : Nat} {v : Value} {l : List Rat} (h : OutRats E w P lo v l) (o : Only g w w') (hg : g < lo) (hP : ¬ P g) : OutRats E w' P lo v l := by
 obtain ⟨es, h1, h2, h3, h4⟩ := h
 exact ⟨es, h1, ownsRow_only h2 o hg, h3, h4.only o fun h => hP h.1⟩
theorem OutRats.snoc {E : Elem} {w W : World} {P : Nat -> Prop} {lo : Nat} {v v' : Value} {l : List Rat} {q : Rat} {s s' : Bool} {A A' : Option Addr} {n c n' c' : Nat}
 (es : List (Bool × Value × Bool × Value)) (h1 : es.length = l.length) (h3 : ∀ e ∈ es, (∃ A n c, e.2.1 = .slice A n c) /\ (∃ A n c, e.2.2.2 = .slice A n c))
 (h4 : On w (fun b => P b /\ some b ≠ v.ownBlock) (fun W => ∀ (i : Nat) (e : Bool × Value × Bool × Value) (q : Rat), es[i]? = some e -> l[i]? = some q -> E W (.agg #[.bool e.1, e.2.1, .bool e.2.2.1, e.2.2.2]) q))
 (hown : W.ownsRow lo 36 4 v' (l.length + 1) ((es.flatMap fun (e : Bool × Value × Bool × Value) => [.bool e.1, e.2.1, .bool e.2.2.1, e.2.2.2]) ++ [.bool s, .slice A n c, .bool s', .slice A' n' c']))
 (hg : w.grownBy W v.ownBlock) (hblk : v'.ownBlock = v.ownBlock ∨ v'.ownBlock = some w.heap.size)
 (hx : On w (fun b => P b /\ some b ≠ v.ownBlock) (fun W => E W (.agg #[.bool s, .slice A n c, .bool s', .slice A' n' c']) q)) : OutRats E W P lo v' (l ++ [q]) := by
 refine ⟨es ++ [(s, .slice A n c, s', .slice A' n' c')], by simp [h1], by rw [List.length_append, List.flatMap_append]; exact hown, ?_, ?_⟩
 ·intro e he
  rcases List.mem_append.1 he with he | he
  ·exact h3 e he
  ·simp at he; subst he; exact ⟨⟨_, _, _, rfl⟩, ⟨_, _, _, rfl⟩⟩
 ·have h5 := (h4.and hx).grown hg (fun b hb _ => hb.2)
  have h6 : On W (fun b => P b /\ some b ≠ v'.ownBlock) _ := (by
   obtain ⟨F, f1, f2⟩ := h4.and hx
   refine ⟨F, fun b hb => ⟨⟨(f1 b hb).1.1, ?_⟩, Nat.lt_of_lt_of_le (f1 b hb).2 hg.size⟩, fun W' hW' => f2 W' fun b hb => (hW' b hb).trans (hg.block b (f1 b hb).2 (f1 b hb).1.2)⟩
   rcases hblk with e | e
   ·rw [e]; exact (f1 b hb).1.2
   ·rw [e]; intro e2; injection e2 with e2; have := (f1 b hb).2; omega)
  refine h6.map fun W' ⟨k1, k2⟩ i e q' hi hq => ?_
  by_cases hlt : i < es.length
  ·rw [List.getElem?_append_left hlt] at hi
   rw [List.getElem?_append_left (by omega)] at hq
   exact k1 i e q' hi hq
  ·by_cases he : i = es.length
   ·subst he
    rw [List.getElem?_append_right (Nat.le_refl _), Nat.sub_self] at hi
    rw [h1, List.getElem?_append_right (Nat.le_refl _), Nat.sub_self] at hq
    simp at hi hq
    subst hi hq
    exact k2
   ·rw [List.getElem?_eq_none (by simp; omega)] at hi; cases hi
theorem flat4_get (es : List (Bool × Value × Bool × Value)) (i j : Nat) (hj : j < 4) (e : Bool × Value × Bool × Value) (hi : es[i]? = some e) :
 (es.flatMap fun e => [Value.bool e.1, e.2.1, Value.bool e.2.2.1, e.2.2.2])[i * 4 + j]? = [Value.bool e.1, e.2.1, Value.bool e.2.2.1, e.2.2.2][j]? := by
 induction es generalizing i with
 | nil => simp at hi
 | cons a es ih =>
   rw [List.flatMap_cons]
   cases i with
   | zero =>
     simp at hi; subst hi
     rw [Nat.zero_mul, Nat.zero_add, List.getElem?_append_left (by simpa using hj)]
   | succ i =>
     have h1 := ih i (by simpa using hi)
     rw [List.getElem?_append_right (by simp; omega)]
     rw [<- h1]; congr 1; simp; omega
theorem OutRats.rats {E : Elem} {w : World} {P : Nat -> Prop} {lo : Nat} {v : Value} {l : List Rat} (h : OutRats E w P lo v l) : On w (fun b => P b ∨ lo <= b) (fun W => Rats E W v l) := by
 obtain ⟨es, h1, ⟨h2, h2'⟩, h3, h4⟩ := h
 rcases h2' with ⟨rfl, h0⟩ | ⟨g, cap, cur, rfl, hb, hg, hn, hm, hs, ht⟩
 ·have : l = [] := List.eq_nil_of_length_eq_zero h0
  subst this
  exact On.pure fun W => ⟨none, 0, rfl, by simp, by simp, fun i q hi => by simp at hi⟩
 ·have hrow : Row w g 36 cur.toList := by unfold Row; simpa using hg
  have h5 : On w (fun b => P b ∨ lo <= b) (fun W => Row W g 36 cur.toList) := On.of_row hrow (.inr hb) fun W hW => hW
  refine (h5.and (h4.mono fun b hb _ => .inl hb.1)).map fun W ⟨hr, he⟩ => ?_
  refine ⟨some ⟨g, 0, none⟩, cap, rfl, hn, hm, fun i q hi => ?_⟩
  have hil : i < es.length := by rw [h1]; exact (List.getElem?_eq_some_iff.1 hi).1
  obtain ⟨e, hee⟩ : ∃ e, es[i]? = some e := ⟨es[i], List.getElem?_eq_getElem hil⟩
  obtain ⟨⟨A1, n1, c1, e1⟩, ⟨A2, n2, c2, e2⟩⟩ := h3 e (List.mem_of_getElem? hee)
  have hcell : ∀ j, j < 4 -> ∀ u, [Value.bool e.1, e.2.1, Value.bool e.2.2.1, e.2.2.2][j]? = some u -> W.cell? ⟨g, 0 + i * 4 + j, none⟩ = some u := fun j hj u hu => by
   rw [Nat.zero_add]
   refine hr.cell ?_
   rw [<- flat4_get es i j hj e hee, <- ht, List.getElem?_take] at hu
   split at hu
   ·exact hu
   ·cases hu
  refine ⟨g, 0, e.1, A1, n1, c1, e.2.2.1, A2, n2, c2, rfl, hcell 0 (by omega) _ rfl, hcell 1 (by omega) _ (by simp [e1]), hcell 2 (by omega) _ rfl, hcell 3 (by omega) _ (by simp [e2]), ?_⟩
  have := he i e q hee hi
  rw [e1, e2] at this; exact this
def OwnRats (w : World) (B : Nat) (v : Value) (l : List Rat) : Prop := On w (fun b => B <= b) (fun W => Rats EOwn W v l)
theorem OwnRats.later {w w' : World} {B : Nat} {v : Value} {l : List Rat} (h : OwnRats w B v l) (hb : Later w w') : OwnRats w' B v l := On.later h hb
theorem OwnRats.weaken {w : World} {B C : Nat} {v : Value} {l : List Rat} (h : OwnRats w B v l) (hC : C <= B) : OwnRats w C v l := On.mono h fun b hb _ => Nat.le_trans hC hb
theorem OwnRats.only {w w' : World} {B g : Nat} {v : Value} {l : List Rat} (h : OwnRats w B v l) (o : Only g w w') (hg : g < B) : OwnRats w' B v l := On.only h o (by omega)
end Go.Proofs.YtfokplidiboabaaGreat
namespace Go.Proofs.YtfokplidiboabaaGreat
open Go.RowKit
theorem info_rat : (Tryz.prog.info? 36).map (fun i => (i.zero, i.size, i.bytes)) = some (some (.agg #[.bool false, .slice none 0 0, .bool false, .slice none 0 0]), 4, 64) := by kernel_rfl
theorem Later.grownBy {w w' : World} (h : Later w w') (row : Option Nat) : w.grownBy w' row := ⟨h.os, h.tape, h.output, h.size, fun b hb _ => h.block b hb⟩
theorem OutRats.lt {E : Elem} {w : World} {P : Nat -> Prop} {lo : Nat} {v : Value} {l : List Rat} (h : OutRats E w P lo v l) : ∀ k, v.ownBlock = some k -> lo <= k /\ k < w.heap.size := by
 obtain ⟨es, h1, h2, -⟩ := h; exact World.ownsRow.lt h2
section
variable {w : World} {o : Oper} {a : Act} {K : Act -> World -> Prop} {Q : Exit -> Act -> World -> Prop}
theorem wp_append_own_ {P : Program} (s x : Operand) (t : TypeId)
 (ho : o.op = .call { callee := .builtin .append, args := #[s, x], argTypes := #[t, t] })
 (base : Nat) (e : TypeId) (z : Value) (size bytes : Nat) (ht : P.underlying t = some (.slice e)) (hinfo : (P.info? e).map (fun i => (i.zero, i.size, i.bytes)) = some (some z, size, bytes))
 (hzs : z.cells.size = size) (hsz : 0 < size) (hby : bytes <= 1024)
 (v : Value) (n : Nat) (xs : List Value) (hs : a.eval s = v) (hown : w.ownsRow base e size v n xs)
 (ad : Addr) (m c : Nat) (news : List Value) (hx : a.eval x = .slice (some ad) m c) (hl : news.length = m * size) (hnews : ∀ j u, news[j]? = some u -> w.cell? (ad.add j) = some u) (h1 : ∀ u ∈ news, u.oneCell' = true)
 (hnm : n + m <= 4000000000) (hbase : base <= w.heap.size)
 (h : ∀ v' w', w'.ownsRow base e size v' (n + m) (xs ++ news) -> w.grownBy w' v.ownBlock -> (v'.ownBlock = v.ownBlock ∨ v'.ownBlock = some w.heap.size) -> K (a.put o.dst v') w') : o.wp P a w K Q := by
 obtain ⟨i, hi, hz0, hz1, hz2⟩ := info_parts hinfo
 have h5 : (n + m) * bytes <= 4000000000 * 1024 := Nat.mul_le_mul hnm hby
 obtain ⟨v', w', hr, h2, h3, h4, h5⟩ := run_append_own_at (P := P) w base t o.type e i z size bytes ht hi hz0 hz1 hz2 hzs hsz v n xs hown ad m c news hl hnews h1 (by unfold maxLen; omega) (by omega) hbase
 unfold Oper.wp execOp
 simp only [ho, resolve, invoke, builtin, Sem.run_bind, Sem.run_pure, Result.andThen_ok, List.map_toArray, List.map_cons, List.map_nil, hs, hx, hr]
 exact h v' w' h2 h3 h5
theorem wp_append_rat (s x : Operand) (ho : o.op = .call { callee := .builtin .append, args := #[s, x], argTypes := #[22, 22] })
 {E : Elem} {P : Nat -> Prop} {lo : Nat} {v : Value} {l : List Rat} {g : Nat} {q : Rat} {t t' : Bool} {A A' : Option Addr} {n c n' c' : Nat} (hs : a.eval s = v) (hown : OutRats E w P lo v l)
 (hx : a.eval x = .slice (some ⟨g, 0, none⟩) 1 1) (hrow : Row w g 36 [.bool t, .slice A n c, .bool t', .slice A' n' c'])
 (hel : On w (fun b => P b /\ some b ≠ v.ownBlock) (fun W => E W (.agg #[.bool t, .slice A n c, .bool t', .slice A' n' c']) q)) (hlen : l.length <= 3000000000) (hbase : lo <= w.heap.size)
 (h : ∀ v' w', OutRats E w' P lo v' (l ++ [q]) -> w.grownBy w' v.ownBlock -> K (a.put o.dst v') w') : o.wp Tryz.prog a w K Q := by
 obtain ⟨es, h1, h2, h3, h4⟩ := hown
 refine wp_append_own_ s x _ ho lo 36 _ 4 64 Tryz.underlying22 info_rat rfl (by omega) (by omega) v l.length _ hs h2 ⟨g, 0, none⟩ 1 1 [.bool t, .slice A n c, .bool t', .slice A' n' c'] hx rfl (fun j u hj => by rw [Go.WideShapes.add_plain, Nat.zero_add]; exact hrow.cell hj) (by simp [Value.oneCell']) (by omega) hbase ?_
 intro v' w' k1 k2 k3
 exact h v' w' (OutRats.snoc es h1 h3 h4 k1 k2 k3 hel) k2
end
theorem On.made {W : World} {lo B : Nat} {v : Value} {T : World -> Prop} (h : On W (fun b => B <= b) T) (hlo : lo <= B) (hv : ∀ k, v.ownBlock = some k -> k < B) : On W (fun b => lo <= b /\ some b ≠ v.ownBlock) T :=
 h.mono fun b hb _ => ⟨Nat.le_trans hlo hb, fun e => by have := hv b e.symm; omega⟩
theorem Rats.at_ {E : Elem} {w : World} {A : Option Addr} {n c : Nat} {l : List Rat} (h : Rats E w (.slice A n c) l) {i : Nat} {q : Rat} (hi : l[i]? = some q) :
 ∃ b off s A1 n1 c1 s' A2 n2 c2, A = some ⟨b, off, none⟩ /\ w.cell? ⟨b, off + i * 4, none⟩ = some (.bool s) /\ w.cell? ⟨b, off + i * 4 + 1, none⟩ = some (.slice A1 n1 c1) /\
 w.cell? ⟨b, off + i * 4 + 2, none⟩ = some (.bool s') /\ w.cell? ⟨b, off + i * 4 + 3, none⟩ = some (.slice A2 n2 c2) /\ E w (.agg #[.bool s, .slice A1 n1 c1, .bool s', .slice A2 n2 c2]) q := by
 obtain ⟨A', c', e, -, -, h3⟩ := h
 injection e with e1 e2 e3
 subst e1
 exact h3 i q hi
theorem Rats.form {E : Elem} {w : World} {v : Value} {l : List Rat} (h : Rats E w v l) : ∃ A n c, v = .slice A n c /\ n = l.length /\ n <= c /\ c <= maxLen /\ Rats E w (.slice A n c) l := by
 obtain ⟨A, c, rfl, h1, h2, h3⟩ := id h
 exact ⟨A, _, c, rfl, rfl, h1, h2, h⟩
end Go.Proofs.YtfokplidiboabaaGreat
set_option maxRecDepth 100000
namespace Go.Proofs.YtfokplidiboabaaGreat
open Go.RowKit Go.Shelf
attribute [local go_sem ↓] Go.wp_at_zero Go.wp_at_succ
theorem zipWith_take_ {α β γ : Type} (f : α -> β -> γ) (a : List α) (b : List β) : List.zipWith f a (b.take a.length) = List.zipWith f a b := by
 induction a generalizing b with
 | nil => simp
 | cons x a ih => cases b with
   | nil => simp
   | cons y b => simp [ih]
theorem rawR_zero (w : World) (k : Nat) : RawR w (.agg #[.bool false, .slice none 0 0, .bool false, .slice none 0 0]) 0 k :=
 ⟨_, _, _, _, _, _, _, _, 0, 0, rfl, rawI_zero w k, rawI_zero w k, by rw [ratOf_not (by omega)]⟩
set_option maxHeartbeats 1000000 in
theorem lzero_calls (w : World) : Calls Tryz.prog 142 #[] w (Ret w fun w' v => OwnR w' w.heap.size v 0) := by
 go_enter Tryz.func142, Tryz.ntmps142
 go_wp2_with fail
 refine (rplain_calls _ _ 0 0 (rawR_zero _ 0) (by omega)).mono ?_
 rintro e w1 ⟨v1, rfl, o1, b1⟩
 obtain ⟨s1, P1, q1, e1, P1', q1', e1', rfl, o1⟩ := o1.open_; have O1 := hide o1; clear o1
 have hL := ((Later.refl w).alloc (Obj.cells #[.bool false, .slice none 0 0, .bool false, .slice none 0 0] 36)).trans b1
 have hrow := ((Row.new w 36 [.bool false, .slice none 0 0, .bool false, .slice none 0 0]).later b1)
 obtain ⟨c0, c1, c2, c3, f0, f1, f2, f3⟩ := row_cells4 hrow
 have HR := hide hrow
 clear hrow
 go_wp2_with fail
 refine bodyPost_ret (results_rat rfl rfl (HR.out.four _ _ _ _)) rfl ?_
 have oo := Only.four w.heap.size w1 (.bool s1) (.slice P1 q1 e1) (.bool false) (.slice P1' q1' e1')
 exact ⟨_, rfl, (O1.out.only oo (by simp)).weaken (by simp), hL.only oo (Nat.le_refl _)⟩
set_option maxHeartbeats 4000000 in
theorem pairs0_own (w : World) (va vb : Value) (la lb : List Rat) (E1 E2 : Elem) (h1 : ∀ w w' v q, E1 w v q -> Later w w' -> E1 w' v q) (h2 : ∀ w w' v q, E2 w v q -> Later w w' -> E2 w' v q)
 (ha : Rats E1 w va la) (hb : Rats E2 w vb lb) (hlen : la.length <= lb.length) (hl9 : la.length <= 1000000000) (f : FuncId) (hf : Enters f) (op : Rat -> Rat -> Rat)
 (hop : ∀ W vx vy x y, Later w W -> E1 W vx x -> E2 W vy y -> x ∈ la -> y ∈ lb -> Calls Tryz.prog f #[vx, vy] W (Ret W fun w' v => OwnR w' W.heap.size v (op x y))) :
 Calls Tryz.prog 138 #[va, vb, .func (.func f) #[] #[]] w (Ret w fun w' v => OutRats EOwn w' (fun b => w.heap.size <= b) w.heap.size v (List.zipWith op la lb)) := by
 have HA := hide ha; have HB := hide hb; have HOP := hide hop
 have hen := hf.out
 obtain ⟨A0, na, ca, rfl, hna, -, -, ha'⟩ := ha.form
 obtain ⟨B0, nb, cb, rfl, hnb, -, -, hb'⟩ := hb.form
 have HNA := hide hna; have HNB := hide hnb
 have hlen2 : na <= nb := by omega
 have hl92 : na <= 1000000000 := by omega
 clear ha hb hop hna hnb ha' hb' hlen hl9
 go_enter Tryz.func138, Tryz.ntmps138
 go_wp2_with fail
 go_loopw [7, 12] (fun out i wr => ∃ k : Nat, k <= na /\ i = .int .i64 (k : Int) /\ OutRats EOwn wr (fun b => w.heap.size <= b) w.heap.size out (List.zipWith op (la.take k) (lb.take k)) /\ Later w wr) (fun _ i _ => (na - intOf i).toNat)
 case atStart => exact ⟨0, by omega, rfl, OutRats.nil _ _ _ _, Later.refl w⟩
 case round =>
  obtain ⟨k, hk, rfl, hout, hL⟩ := hrel
  by_cases hkn : k < na
  ·obtain ⟨x, hx⟩ : ∃ x, la[k]? = some x := ⟨la[k]'(by have := HNA.out; omega), List.getElem?_eq_getElem _⟩
   obtain ⟨y, hy⟩ : ∃ y, lb[k]? = some y := ⟨lb[k]'(by have := HNB.out; omega), List.getElem?_eq_getElem _⟩
   have HXM := hide (List.mem_of_getElem? hx); have HYM := hide (List.mem_of_getElem? hy)
   have HZ : Hid (List.zipWith op (la.take (k+1)) (lb.take (k+1)) = List.zipWith op (la.take k) (lb.take k) ++ [op x y]) := hide (by
    have e1 : la.take (k+1) = la.take k ++ [x] := by rw [List.take_add_one, hx]; rfl
    have e2 : lb.take (k+1) = lb.take k ++ [y] := by rw [List.take_add_one, hy]; rfl
    rw [e1, e2, List.zipWith_append (by rw [List.length_take, List.length_take]; have := HNA.out; have := HNB.out; omega)]; rfl)
   obtain ⟨b1, off1, sx, A1, n1, c1, sx', A2, n2, c2, rfl, x1, x2, x3, x4, ex⟩ := HA.out.at_ hx
   obtain ⟨b2, off2, sy, A3, n3, c3, sy', A4, n4, c4, rfl, y1, y2, y3, y4, ey⟩ := HB.out.at_ hy
   have hb2 := World.block_lt_of_cell? w ⟨b2, off2 + k * 4, none⟩ y1
   have hb2 : b2 < w.heap.size := hb2
   have x1 := Later.cell hL x1; have x2 := Later.cell hL x2; have x3 := Later.cell hL x3; have x4 := Later.cell hL x4
   have y1 := Later.cell hL y1; have y2 := Later.cell hL y2; have y3 := Later.cell hL y3; have y4 := Later.cell hL y4
   have ex := h1 _ _ _ _ ex hL; have ey := h2 _ _ _ _ ey hL
   have hk0 : (0 : Int) <= (k : Int) := by omega
   have hk1 : (k : Int) < na := by omega
   have hk2 : (k : Int) < nb := by omega
   have HOUT := hide hout
   have hblt := hout.lt
   have hwsz := hL.size
   clear hx hy hout
   go_upto_region 5 with fail
   obtain ⟨wb0, hwb⟩ : ∃ wb0, wb0 = wr.alloc (Obj.cells #[Value.bool sx, Value.slice A1 n1 c1, Value.bool sx', Value.slice A2 n2 c2] 36) := ⟨_, rfl⟩
   have kb : Later wr wb0.drew := by rw [hwb]; exact ((Later.refl wr).alloc _).drew
   have hrow : Row wb0.drew wr.heap.size 36 [.bool sx, .slice A1 n1 c1, .bool sx', .slice A2 n2 c2] := by rw [hwb]; exact (Row.new wr 36 [.bool sx, .slice A1 n1 c1, .bool sx', .slice A2 n2 c2]).drew
   have hbsz : wb0.drew.heap.size = wr.heap.size + 1 := by rw [hwb]; simp
   have hS : ∀ w', wb0.drew.grownBy w' u7.ownBlock -> w'.cell? ⟨wr.heap.size, 0, none⟩ = some (.bool sx) /\ w'.cell? ⟨wr.heap.size, 1, none⟩ = some (.slice A1 n1 c1) /\ w'.cell? ⟨wr.heap.size, 2, none⟩ = some (.bool sx') /\ w'.cell? ⟨wr.heap.size, 3, none⟩ = some (.slice A2 n2 c2) /\ w'.cell? ⟨b2, off2 + k * 4, none⟩ = some (.bool sy) /\ w'.cell? ⟨b2, off2 + k * 4 + 1, none⟩ = some (.slice A3 n3 c3) /\ w'.cell? ⟨b2, off2 + k * 4 + 2, none⟩ = some (.bool sy') /\ w'.cell? ⟨b2, off2 + k * 4 + 3, none⟩ = some (.slice A4 n4 c4) := by
    intro w' hg
    have hne : ∀ u, some wr.heap.size ≠ u7.ownBlock ∨ u := fun u => .inl (fun e => by have := hblt _ e.symm; omega)
    have hr : Row w' wr.heap.size 36 [.bool sx, .slice A1 n1 c1, .bool sx', .slice A2 n2 c2] := hrow.grown hg (fun e => by have := hblt _ e.symm; omega)
    have hbk : some b2 ≠ u7.ownBlock := fun e => by
     have h5 := (hblt _ e.symm).1
     omega
    exact ⟨hr.cell rfl, hr.cell rfl, hr.cell rfl, hr.cell rfl, hg.cell (Later.cell kb y1) hbk, hg.cell (Later.cell kb y2) hbk, hg.cell (Later.cell kb y3) hbk, hg.cell (Later.cell kb y4) hbk⟩
   have HS := hide hS
   have EX := hide (h1 _ _ _ _ ex kb); have EY := hide (h2 _ _ _ _ ey kb)
   have KB := hide (hL.trans kb)
   have HOUT7 : Hid (∀ W, Later wb0.drew W -> ∀ {o}, OutRats EOwn (W.alloc o) (fun b => w.heap.size <= b) w.heap.size u7 (List.zipWith op (la.take k) (lb.take k))) := hide fun W hW o => HOUT.out.later ((kb.trans hW).alloc _)
   have HEL7 : Hid (∀ W v o, Later wb0.drew W -> OwnR W wb0.drew.heap.size v (op x y) -> On (W.alloc o) (fun b => w.heap.size <= b /\ some b ≠ u7.ownBlock) (fun W => EOwn W v (op x y))) := hide fun W v o hW ho =>
    (On.made (On.ownR ho) (by omega) (fun k hk => by have := hblt k hk; omega)).later ((Later.refl W).alloc _)
   have HLG : Hid (∀ w', wb0.drew.grownBy w' u7.ownBlock -> Later w w') := hide fun w' hg => (hL.trans kb).grown hg fun k hk => (hblt k hk).1
   rw [<- hwb]
   have hmx : Tryz.prog.follows .mixedOrders = true := by kernel_rfl
   clear hrow hS x1 x2 x3 x4 y1 y2 y3 y4 ex ey hwb
   refine wp_region_N (fun w' => w'.cell? ⟨wr.heap.size, 0, none⟩ = some (.bool sx) /\ w'.cell? ⟨wr.heap.size, 1, none⟩ = some (.slice A1 n1 c1) /\ w'.cell? ⟨wr.heap.size, 2, none⟩ = some (.bool sx') /\ w'.cell? ⟨wr.heap.size, 3, none⟩ = some (.slice A2 n2 c2) /\ w'.cell? ⟨b2, off2 + k * 4, none⟩ = some (.bool sy) /\ w'.cell? ⟨b2, off2 + k * 4 + 1, none⟩ = some (.slice A3 n3 c3) /\ w'.cell? ⟨b2, off2 + k * 4 + 2, none⟩ = some (.bool sy') /\ w'.cell? ⟨b2, off2 + k * 4 + 3, none⟩ = some (.slice A4 n4 c4)) [] hmx (HS.out _ (World.grownBy.refl _ _)) (fun hHeld => ?_)
   refine wpAnyN_take (i := 0) (oi := _) (v := ?_) rfl (by kernel_rfl) (by kernel_rfl) (by kernel_rfl) (by kernel_rfl) (fun _ _ _ h => h) (Or.inl ⟨by rfl, ?_⟩) (by assumption) ?_
   rotate_left
   ·intro w hSw; (try dsimp only at hSw); go_simp
    first | done | with_reducible rfl
   try simp only [Act.put, s1_, s2_, s3_]
   refine wpAnyN_take (i := 1) (oi := _) (v := ?_) rfl (by kernel_rfl) (by kernel_rfl) (by kernel_rfl) (by kernel_rfl) (fun _ _ _ h => h) (Or.inl ⟨by rfl, ?_⟩) (by assumption) ?_
   rotate_left
   ·intro w hSw; (try dsimp only at hSw); go_simp
    first | done | with_reducible rfl
   try simp only [Act.put, s1_, s2_, s3_]
   refine wpAnyN_take (i := 2) (oi := _) (v := ?_) rfl (by kernel_rfl) (by kernel_rfl) (by kernel_rfl) (by kernel_rfl) (fun _ _ _ h => h) (Or.inl ⟨by rfl, ?_⟩) (by assumption) ?_
   rotate_left
   ·intro w hSw; (try dsimp only at hSw); go_simp
    first | done | with_reducible rfl
   try simp only [Act.put, s1_, s2_, s3_]
   refine wpAnyN_take (i := 3) (oi := _) (v := ?_) rfl (by kernel_rfl) (by kernel_rfl) (by kernel_rfl) (by kernel_rfl) (fun _ _ _ h => h) (Or.inl ⟨by rfl, ?_⟩) (by assumption) ?_
   rotate_left
   ·intro w hSw; (try dsimp only at hSw); go_simp
    first | done | with_reducible rfl
   try simp only [Act.put, s1_, s2_, s3_]
   refine wpAnyN_take (i := 4) (oi := _) (v := ?_) rfl (by kernel_rfl) (by kernel_rfl) (by kernel_rfl) (by kernel_rfl) (fun _ _ _ h => h) (Or.inl ⟨by rfl, ?_⟩) (by assumption) ?_
   rotate_left
   ·intro w hSw; (try dsimp only at hSw); go_simp
    first | done | with_reducible rfl
   try simp only [Act.put, s1_, s2_, s3_]
   refine wpAnyN_take (i := 5) (oi := _) (v := ?_) rfl (by kernel_rfl) (by kernel_rfl) (by kernel_rfl) (by kernel_rfl) (fun _ _ _ h => h) (Or.inl ⟨by rfl, ?_⟩) (by assumption) ?_
   rotate_left
   ·intro w hSw; (try dsimp only at hSw); go_simp
    first | done | with_reducible rfl
   try simp only [Act.put, s1_, s2_, s3_]
   refine wpAnyN_take (i := 6) (oi := _) (v := ?_) rfl (by kernel_rfl) (by kernel_rfl) (by kernel_rfl) (by kernel_rfl) (fun _ _ _ h => h) (Or.inl ⟨by rfl, ?_⟩) (by assumption) ?_
   rotate_left
   ·intro w hSw; (try dsimp only at hSw); go_simp
    first | done | with_reducible rfl
   try simp only [Act.put, s1_, s2_, s3_]
   refine wpAnyN_ready (rs := [7]) (by kernel_rfl) (by simp) ?_
   refine AllReadyN.held rfl (by rfl) (fun K hK => ?_) AllReadyN.nil
   go_simp
   (with_reducible refine (HOP.out _ _ _ x y KB.out EX.out EY.out HXM.out HYM.out).mono ?_)
   rintro e w7 ⟨v7, rfl, o7, b7⟩
   obtain ⟨s7, P7, q7, e7, P7', q7', e7', rfl, o7⟩ := o7.open_; have O7 := hide o7; clear o7
   have hs7 := b7.size
   refine hK.out _ _ ?_ (fun hHeld => ?_)
   ·exact HS.out _ ((World.grownBy.refl wb0.drew _).trans (Later.grownBy b7 _))
   clear hK K
   try simp only [Act.put, s1_, s2_, s3_]
   refine wpAnyN_ready (rs := [8]) (by kernel_rfl) (by simp) ?_
   refine AllReadyN.held rfl (by rfl) (fun K hK => ?_) AllReadyN.nil
   go_simp
   refine hK.out _ _ ?_ (fun hHeld => ?_)
   ·exact HS.out _ (((World.grownBy.refl wb0.drew _).trans (Later.grownBy b7 _)).trans (World.grownBy_alloc _ _ _))
   clear hK K
   try simp only [Act.put, s1_, s2_, s3_]
   refine wpAnyN_ready (rs := [9]) (by kernel_rfl) (by simp) ?_
   refine AllReadyN.held rfl (by rfl) (fun K hK => ?_) AllReadyN.nil
   refine wp_append_rat _ _ rfl (by rfl) (HOUT7.out _ b7) (by rfl) (Row.new w7 36 [.bool s7, .slice P7 q7 e7, .bool false, .slice P7' q7' e7']) (HEL7.out _ _ _ b7 O7.out) (by rw [List.length_zipWith, List.length_take]; omega) (by rw [World.size_alloc]; omega) ?_
   intro v9 w9 hout9 hg9
   have HOUT9 := hide hout9
   have HG9 := hide hg9
   clear hout9
   refine hK.out _ _ ?_ (fun hHeld => ?_)
   ·exact HS.out _ ((((World.grownBy.refl wb0.drew _).trans (Later.grownBy b7 _)).trans (World.grownBy_alloc _ _ _)).trans hg9)
   clear hK K
   try simp only [Act.put, s1_, s2_, s3_]
   refine wpAnyN_take (i := 10) (oi := _) (v := ?_) rfl (by kernel_rfl) (by kernel_rfl) (by kernel_rfl) (by kernel_rfl) (fun _ _ _ h => h) (Or.inl ⟨by rfl, ?_⟩) (by assumption) ?_
   rotate_left
   ·intro w hSw; (try dsimp only at hSw); go_simp
    first | done | with_reducible rfl
   try simp only [Act.put, s1_, s2_, s3_]
   refine wpAnyN_done (by kernel_rfl) ?_ _
   have hwr : Later w w9 := HLG.out _ (by exact ((Later.grownBy b7 _).trans (World.grownBy_alloc _ _ _)).trans HG9.out)
   have HO : OutRats EOwn w9 (fun b => w.heap.size <= b) w.heap.size v9 (List.zipWith op (la.take (k+1)) (lb.take (k+1))) := by
    rw [HZ.out]; exact HOUT9.out
   have HO2 := hide HO
   clear HO hHeld
   go_wp2_with fail
   refine ⟨⟨k+1, by omega, by go_num, HO2.out, hwr⟩, by simp [intOf]; omega⟩
  ·obtain rfl : k = na := by omega
   rw [List.take_of_length_le (by rw [<- HNA.out]; exact Nat.le_refl _), show List.zipWith op la (lb.take k) = List.zipWith op la lb by rw [HNA.out]; exact zipWith_take_ op la lb] at hout
   have HO := hide hout
   clear hout
   go_wp2_with fail
   go_ret
   exact ⟨_, rfl, HO.out, hL⟩
theorem pairs0_calls (w : World) (va vb : Value) (la lb : List Rat) (E1 E2 : Elem) (h1 : ∀ w w' v q, E1 w v q -> Later w w' -> E1 w' v q) (h2 : ∀ w w' v q, E2 w v q -> Later w w' -> E2 w' v q)
 (ha : Rats E1 w va la) (hb : Rats E2 w vb lb) (hlen : la.length <= lb.length) (hl9 : la.length <= 1000000000) (f : FuncId) (hf : Enters f) (op : Rat -> Rat -> Rat)
 (hop : ∀ W vx vy x y, Later w W -> E1 W vx x -> E2 W vy y -> x ∈ la -> y ∈ lb -> Calls Tryz.prog f #[vx, vy] W (Ret W fun w' v => OwnR w' W.heap.size v (op x y))) :
 Calls Tryz.prog 138 #[va, vb, .func (.func f) #[] #[]] w (Ret w fun w' v => OwnRats w' w.heap.size v (List.zipWith op la lb)) := by
 refine (pairs0_own w va vb la lb E1 E2 h1 h2 ha hb hlen hl9 f hf op hop).mono ?_
 rintro e w' ⟨v, rfl, h, hL⟩
 exact ⟨v, rfl, h.rats.mono (fun b hb _ => by rcases hb with h | h <;> exact h), hL⟩
set_option maxHeartbeats 4000000 in
theorem pairs1_own (w : World) (va vb : Value) (la lb : List Rat) (E1 E2 : Elem) (h1 : ∀ w w' v q, E1 w v q -> Later w w' -> E1 w' v q) (h2 : ∀ w w' v q, E2 w v q -> Later w w' -> E2 w' v q)
 (ha : Rats E1 w va la) (hb : Rats E2 w vb lb) (hlen : la.length <= lb.length) (hl9 : la.length <= 1000000000) (f : FuncId) (hf : Enters f) (G : Nat) (op : Rat -> Rat -> Rat)
 (hop : ∀ W vx vy x y, Later w W -> E1 W vx x -> E2 W vy y -> x ∈ la -> y ∈ lb -> Calls Tryz.prog f #[vx, vy, .pointer (some ⟨G, 0, none⟩)] W (Ret W fun w' v => OwnR w' W.heap.size v (op x y))) :
 Calls Tryz.prog 138 #[va, vb, .func (.func f) #[] #[.pointer (some ⟨G, 0, none⟩)]] w (Ret w fun w' v => OutRats EOwn w' (fun b => w.heap.size <= b) w.heap.size v (List.zipWith op la lb)) := by
 have HA := hide ha; have HB := hide hb; have HOP := hide hop
 have hen := hf.out
 obtain ⟨A0, na, ca, rfl, hna, -, -, ha'⟩ := ha.form
 obtain ⟨B0, nb, cb, rfl, hnb, -, -, hb'⟩ := hb.form
 have HNA := hide hna; have HNB := hide hnb
 have hlen2 : na <= nb := by omega
 have hl92 : na <= 1000000000 := by omega
 clear ha hb hop hna hnb ha' hb' hlen hl9
 go_enter Tryz.func138, Tryz.ntmps138
 go_wp2_with fail
 go_loopw [7, 12] (fun out i wr => ∃ k : Nat, k <= na /\ i = .int .i64 (k : Int) /\ OutRats EOwn wr (fun b => w.heap.size <= b) w.heap.size out (List.zipWith op (la.take k) (lb.take k)) /\ Later w wr) (fun _ i _ => (na - intOf i).toNat)
 case atStart => exact ⟨0, by omega, rfl, OutRats.nil _ _ _ _, Later.refl w⟩
 case round =>
  obtain ⟨k, hk, rfl, hout, hL⟩ := hrel
  by_cases hkn : k < na
  ·obtain ⟨x, hx⟩ : ∃ x, la[k]? = some x := ⟨la[k]'(by have := HNA.out; omega), List.getElem?_eq_getElem _⟩
   obtain ⟨y, hy⟩ : ∃ y, lb[k]? = some y := ⟨lb[k]'(by have := HNB.out; omega), List.getElem?_eq_getElem _⟩
   have HXM := hide (List.mem_of_getElem? hx); have HYM := hide (List.mem_of_getElem? hy)
   have HZ : Hid (List.zipWith op (la.take (k+1)) (lb.take (k+1)) = List.zipWith op (la.take k) (lb.take k) ++ [op x y]) := hide (by
    have e1 : la.take (k+1) = la.take k ++ [x] := by rw [List.take_add_one, hx]; rfl
    have e2 : lb.take (k+1) = lb.take k ++ [y] := by rw [List.take_add_one, hy]; rfl
    rw [e1, e2, List.zipWith_append (by rw [List.length_take, List.length_take]; have := HNA.out; have := HNB.out; omega)]; rfl)
   obtain ⟨b1, off1, sx, A1, n1, c1, sx', A2, n2, c2, rfl, x1, x2, x3, x4, ex⟩ := HA.out.at_ hx
   obtain ⟨b2, off2, sy, A3, n3, c3, sy', A4, n4, c4, rfl, y1, y2, y3, y4, ey⟩ := HB.out.at_ hy
   have hb2 := World.block_lt_of_cell? w ⟨b2, off2 + k * 4, none⟩ y1
   have hb2 : b2 < w.heap.size := hb2
   have x1 := Later.cell hL x1; have x2 := Later.cell hL x2; have x3 := Later.cell hL x3; have x4 := Later.cell hL x4
   have y1 := Later.cell hL y1; have y2 := Later.cell hL y2; have y3 := Later.cell hL y3; have y4 := Later.cell hL y4
   have ex := h1 _ _ _ _ ex hL; have ey := h2 _ _ _ _ ey hL
   have hk0 : (0 : Int) <= (k : Int) := by omega
   have hk1 : (k : Int) < na := by omega
   have hk2 : (k : Int) < nb := by omega
   have HOUT := hide hout
   have hblt := hout.lt
   have hwsz := hL.size
   clear hx hy hout
   go_upto_region 5 with fail
   obtain ⟨wb0, hwb⟩ : ∃ wb0, wb0 = wr.alloc (Obj.cells #[Value.bool sx, Value.slice A1 n1 c1, Value.bool sx', Value.slice A2 n2 c2] 36) := ⟨_, rfl⟩
   have kb : Later wr wb0.drew := by rw [hwb]; exact ((Later.refl wr).alloc _).drew
   have hrow : Row wb0.drew wr.heap.size 36 [.bool sx, .slice A1 n1 c1, .bool sx', .slice A2 n2 c2] := by rw [hwb]; exact (Row.new wr 36 [.bool sx, .slice A1 n1 c1, .bool sx', .slice A2 n2 c2]).drew
   have hbsz : wb0.drew.heap.size = wr.heap.size + 1 := by rw [hwb]; simp
   have hS : ∀ w', wb0.drew.grownBy w' u7.ownBlock -> w'.cell? ⟨wr.heap.size, 0, none⟩ = some (.bool sx) /\ w'.cell? ⟨wr.heap.size, 1, none⟩ = some (.slice A1 n1 c1) /\ w'.cell? ⟨wr.heap.size, 2, none⟩ = some (.bool sx') /\ w'.cell? ⟨wr.heap.size, 3, none⟩ = some (.slice A2 n2 c2) /\ w'.cell? ⟨b2, off2 + k * 4, none⟩ = some (.bool sy) /\ w'.cell? ⟨b2, off2 + k * 4 + 1, none⟩ = some (.slice A3 n3 c3) /\ w'.cell? ⟨b2, off2 + k * 4 + 2, none⟩ = some (.bool sy') /\ w'.cell? ⟨b2, off2 + k * 4 + 3, none⟩ = some (.slice A4 n4 c4) := by
    intro w' hg
    have hne : ∀ u, some wr.heap.size ≠ u7.ownBlock ∨ u := fun u => .inl (fun e => by have := hblt _ e.symm; omega)
    have hr : Row w' wr.heap.size 36 [.bool sx, .slice A1 n1 c1, .bool sx', .slice A2 n2 c2] := hrow.grown hg (fun e => by have := hblt _ e.symm; omega)
    have hbk : some b2 ≠ u7.ownBlock := fun e => by
     have h5 := (hblt _ e.symm).1
     omega
    exact ⟨hr.cell rfl, hr.cell rfl, hr.cell rfl, hr.cell rfl, hg.cell (Later.cell kb y1) hbk, hg.cell (Later.cell kb y2) hbk, hg.cell (Later.cell kb y3) hbk, hg.cell (Later.cell kb y4) hbk⟩
   have HS := hide hS
   have EX := hide (h1 _ _ _ _ ex kb); have EY := hide (h2 _ _ _ _ ey kb)
   have KB := hide (hL.trans kb)
   have HOUT7 : Hid (∀ W, Later wb0.drew W -> ∀ {o}, OutRats EOwn (W.alloc o) (fun b => w.heap.size <= b) w.heap.size u7 (List.zipWith op (la.take k) (lb.take k))) := hide fun W hW o => HOUT.out.later ((kb.trans hW).alloc _)
   have HEL7 : Hid (∀ W v o, Later wb0.drew W -> OwnR W wb0.drew.heap.size v (op x y) -> On (W.alloc o) (fun b => w.heap.size <= b /\ some b ≠ u7.ownBlock) (fun W => EOwn W v (op x y))) := hide fun W v o hW ho =>
    (On.made (On.ownR ho) (by omega) (fun k hk => by have := hblt k hk; omega)).later ((Later.refl W).alloc _)
   have HLG : Hid (∀ w', wb0.drew.grownBy w' u7.ownBlock -> Later w w') := hide fun w' hg => (hL.trans kb).grown hg fun k hk => (hblt k hk).1
   rw [<- hwb]
   have hmx : Tryz.prog.follows .mixedOrders = true := by kernel_rfl
   clear hrow hS x1 x2 x3 x4 y1 y2 y3 y4 ex ey hwb
   refine wp_region_N (fun w' => w'.cell? ⟨wr.heap.size, 0, none⟩ = some (.bool sx) /\ w'.cell? ⟨wr.heap.size, 1, none⟩ = some (.slice A1 n1 c1) /\ w'.cell? ⟨wr.heap.size, 2, none⟩ = some (.bool sx') /\ w'.cell? ⟨wr.heap.size, 3, none⟩ = some (.slice A2 n2 c2) /\ w'.cell? ⟨b2, off2 + k * 4, none⟩ = some (.bool sy) /\ w'.cell? ⟨b2, off2 + k * 4 + 1, none⟩ = some (.slice A3 n3 c3) /\ w'.cell? ⟨b2, off2 + k * 4 + 2, none⟩ = some (.bool sy') /\ w'.cell? ⟨b2, off2 + k * 4 + 3, none⟩ = some (.slice A4 n4 c4)) [] hmx (HS.out _ (World.grownBy.refl _ _)) (fun hHeld => ?_)
   refine wpAnyN_take (i := 0) (oi := _) (v := ?_) rfl (by kernel_rfl) (by kernel_rfl) (by kernel_rfl) (by kernel_rfl) (fun _ _ _ h => h) (Or.inl ⟨by rfl, ?_⟩) (by assumption) ?_
   rotate_left
   ·intro w hSw; (try dsimp only at hSw); go_simp
    first | done | with_reducible rfl
   try simp only [Act.put, s1_, s2_, s3_]
   refine wpAnyN_take (i := 1) (oi := _) (v := ?_) rfl (by kernel_rfl) (by kernel_rfl) (by kernel_rfl) (by kernel_rfl) (fun _ _ _ h => h) (Or.inl ⟨by rfl, ?_⟩) (by assumption) ?_
   rotate_left
   ·intro w hSw; (try dsimp only at hSw); go_simp
    first | done | with_reducible rfl
   try simp only [Act.put, s1_, s2_, s3_]
   refine wpAnyN_take (i := 2) (oi := _) (v := ?_) rfl (by kernel_rfl) (by kernel_rfl) (by kernel_rfl) (by kernel_rfl) (fun _ _ _ h => h) (Or.inl ⟨by rfl, ?_⟩) (by assumption) ?_
   rotate_left
   ·intro w hSw; (try dsimp only at hSw); go_simp
    first | done | with_reducible rfl
   try simp only [Act.put, s1_, s2_, s3_]
   refine wpAnyN_take (i := 3) (oi := _) (v := ?_) rfl (by kernel_rfl) (by kernel_rfl) (by kernel_rfl) (by kernel_rfl) (fun _ _ _ h => h) (Or.inl ⟨by rfl, ?_⟩) (by assumption) ?_
   rotate_left
   ·intro w hSw; (try dsimp only at hSw); go_simp
    first | done | with_reducible rfl
   try simp only [Act.put, s1_, s2_, s3_]
   refine wpAnyN_take (i := 4) (oi := _) (v := ?_) rfl (by kernel_rfl) (by kernel_rfl) (by kernel_rfl) (by kernel_rfl) (fun _ _ _ h => h) (Or.inl ⟨by rfl, ?_⟩) (by assumption) ?_
   rotate_left
   ·intro w hSw; (try dsimp only at hSw); go_simp
    first | done | with_reducible rfl
   try simp only [Act.put, s1_, s2_, s3_]
   refine wpAnyN_take (i := 5) (oi := _) (v := ?_) rfl (by kernel_rfl) (by kernel_rfl) (by kernel_rfl) (by kernel_rfl) (fun _ _ _ h => h) (Or.inl ⟨by rfl, ?_⟩) (by assumption) ?_
   rotate_left
   ·intro w hSw; (try dsimp only at hSw); go_simp
    first | done | with_reducible rfl
   try simp only [Act.put, s1_, s2_, s3_]
   refine wpAnyN_take (i := 6) (oi := _) (v := ?_) rfl (by kernel_rfl) (by kernel_rfl) (by kernel_rfl) (by kernel_rfl) (fun _ _ _ h => h) (Or.inl ⟨by rfl, ?_⟩) (by assumption) ?_
   rotate_left
   ·intro w hSw; (try dsimp only at hSw); go_simp
    first | done | with_reducible rfl
   try simp only [Act.put, s1_, s2_, s3_]
   refine wpAnyN_ready (rs := [7]) (by kernel_rfl) (by simp) ?_
   refine AllReadyN.held rfl (by rfl) (fun K hK => ?_) AllReadyN.nil
   go_simp
   (with_reducible refine (HOP.out _ _ _ x y KB.out EX.out EY.out HXM.out HYM.out).mono ?_)
   rintro e w7 ⟨v7, rfl, o7, b7⟩
   obtain ⟨s7, P7, q7, e7, P7', q7', e7', rfl, o7⟩ := o7.open_; have O7 := hide o7; clear o7
   have hs7 := b7.size
   refine hK.out _ _ ?_ (fun hHeld => ?_)
   ·exact HS.out _ ((World.grownBy.refl wb0.drew _).trans (Later.grownBy b7 _))
   clear hK K
   try simp only [Act.put, s1_, s2_, s3_]
   refine wpAnyN_ready (rs := [8]) (by kernel_rfl) (by simp) ?_
   refine AllReadyN.held rfl (by rfl) (fun K hK => ?_) AllReadyN.nil
   go_simp
   refine hK.out _ _ ?_ (fun hHeld => ?_)
   ·exact HS.out _ (((World.grownBy.refl wb0.drew _).trans (Later.grownBy b7 _)).trans (World.grownBy_alloc _ _ _))
   clear hK K
   try simp only [Act.put, s1_, s2_, s3_]
   refine wpAnyN_ready (rs := [9]) (by kernel_rfl) (by simp) ?_
   refine AllReadyN.held rfl (by rfl) (fun K hK => ?_) AllReadyN.nil
   refine wp_append_rat _ _ rfl (by rfl) (HOUT7.out _ b7) (by rfl) (Row.new w7 36 [.bool s7, .slice P7 q7 e7, .bool false, .slice P7' q7' e7']) (HEL7.out _ _ _ b7 O7.out) (by rw [List.length_zipWith, List.length_take]; omega) (by rw [World.size_alloc]; omega) ?_
   intro v9 w9 hout9 hg9
   have HOUT9 := hide hout9
   have HG9 := hide hg9
   clear hout9
   refine hK.out _ _ ?_ (fun hHeld => ?_)
   ·exact HS.out _ ((((World.grownBy.refl wb0.drew _).trans (Later.grownBy b7 _)).trans (World.grownBy_alloc _ _ _)).trans hg9)
   clear hK K
   try simp only [Act.put, s1_, s2_, s3_]
   refine wpAnyN_take (i := 10) (oi := _) (v := ?_) rfl (by kernel_rfl) (by kernel_rfl) (by kernel_rfl) (by kernel_rfl) (fun _ _ _ h => h) (Or.inl ⟨by rfl, ?_⟩) (by assumption) ?_
   rotate_left
   ·intro w hSw; (try dsimp only at hSw); go_simp
    first | done | with_reducible rfl
   try simp only [Act.put, s1_, s2_, s3_]
   refine wpAnyN_done (by kernel_rfl) ?_ _
   have hwr : Later w w9 := HLG.out _ (by exact ((Later.grownBy b7 _).trans (World.grownBy_alloc _ _ _)).trans HG9.out)
   have HO : OutRats EOwn w9 (fun b => w.heap.size <= b) w.heap.size v9 (List.zipWith op (la.take (k+1)) (lb.take (k+1))) := by
    rw [HZ.out]; exact HOUT9.out
   have HO2 := hide HO
   clear HO hHeld
   go_wp2_with fail
   refine ⟨⟨k+1, by omega, by go_num, HO2.out, hwr⟩, by simp [intOf]; omega⟩
  ·obtain rfl : k = na := by omega
   rw [List.take_of_length_le (by rw [<- HNA.out]; exact Nat.le_refl _), show List.zipWith op la (lb.take k) = List.zipWith op la lb by rw [HNA.out]; exact zipWith_take_ op la lb] at hout
   have HO := hide hout
   clear hout
   go_wp2_with fail
   go_ret
   exact ⟨_, rfl, HO.out, hL⟩
end Go.Proofs.YtfokplidiboabaaGreat
namespace Go.Proofs.YtfokplidiboabaaGreat
open Go.RowKit Go.Shelf
attribute [local go_sem ↓] Go.wp_at_zero Go.wp_at_succ
theorem rawR_len {w : World} {s s' : Bool} {A A' : Option Addr} {n c n' c' k : Nat} {q : Rat} (h : RawR w (.agg #[.bool s, .slice A n c, .bool s', .slice A' n' c']) q k) (h0 : n = 0) : q = 0 := by
 subst h0
 obtain ⟨a, A1, n1, c1, b, A2, n2, c2, x, y, e, h1, h2, rfl⟩ := h
 injection e with e; injection e with e; injection e with e1 e; injection e with e2 e
 obtain ⟨neg, A3, n3, c3, l, e3, hu, hz, hl⟩ := h1
 injection e3 with e3; injection e3 with e3; injection e3 with e4 e3; injection e3 with e5 e3
 obtain ⟨A4, c4, e6, -, -, -, -⟩ := hu.form
 rw [<- e5, <- e2] at e6
 injection e6 with _ e7 _
 have hl0 : l = [] := List.eq_nil_of_length_eq_zero e7.symm
 subst hl0
 have hx0 : x = 0 := by rw [hz]; cases neg <;> rfl
 rw [hx0]
 by_cases hy : 0 < y
 ·rw [ratOf_pos hy, Rat.divInt_eq_div]; simp [Rat.div_def]
 ·exact ratOf_not hy
set_option maxHeartbeats 4000000 in
theorem at1_calls (w : World) (va vb : Value) (a b q : Rat) (k m p : Nat) (ha : RawR w va a k) (hb : RawR w vb b m) (G : Nat) (sk sk' : Bool) (A3 A3' : Option Addr) (n3 c3 n3' c3' : Nat)
 (hrow : Row w G 36 [.bool sk, .slice A3 n3 c3, .bool sk', .slice A3' n3' c3']) (hq : RawR w (.agg #[.bool sk, .slice A3 n3 c3, .bool sk', .slice A3' n3' c3']) q p) (hkm : k + m + p <= 100000000) :
 Calls Tryz.prog 139 #[va, vb, .pointer (some ⟨G, 0, none⟩)] w (Ret w fun w' v => OwnR w' w.heap.size v (a + q * b)) := by
 have HA := hide ha; have HB := hide hb; have HQ := hide hq
 obtain ⟨sx, A1, n1, c1, sx', A1', n1', c1', rfl⟩ := ha.open_
 obtain ⟨sy, A2, n2, c2, sy', A2', n2', c2', rfl⟩ := hb.open_
 obtain ⟨z, hz⟩ : ∃ z, z = a + q * b := ⟨_, rfl⟩
 rw [<- hz]
 have hgl := hrow.lt
 obtain ⟨W0, hW0⟩ : ∃ W0, W0 = (((w.alloc (Obj.cells #[Value.bool sx, Value.slice A1 n1 c1, Value.bool sx', Value.slice A1' n1' c1'] 36)).alloc (Obj.cells #[Value.bool sy, Value.slice A2 n2 c2, Value.bool sy', Value.slice A2' n2' c2'] 36)).alloc (Obj.cells #[Value.bool false, Value.slice none 0 0, Value.bool false, Value.slice none 0 0] 36)) := ⟨_, rfl⟩
 obtain ⟨hb0, r1, r2, r3, hsz⟩ := boxes3 w [.bool sx, .slice A1 n1 c1, .bool sx', .slice A1' n1' c1'] [.bool sy, .slice A2 n2 c2, .bool sy', .slice A2' n2' c2'] [.bool false, .slice none 0 0, .bool false, .slice none 0 0] 36 36 36 hW0
 have r0 := hrow.later hb0
 obtain ⟨d1, d2, d3, d4, d5, d6, d7, d8⟩ := row_cells4 r0
 obtain ⟨f1, f2, f3, f4, f5, f6, f7, f8⟩ := row_cells4 r2
 rw [hW0] at d1 d2 d3 d4 d5 d6 d7 d8 f1 f2 f3 f4 f5 f6 f7 f8
 have HW0 := hide hW0; have B0 := hide hb0; have R0 := hide r0; have R1 := hide r1; have R2 := hide r2; have R3 := hide r3
 by_cases hz0 : n3 = 0 ∨ n2 = 0
 ·have hza : z = a := by
   rcases hz0 with h0 | h0
   ·rw [hz, rawR_len hq h0]; grind
   ·rw [hz, rawR_len hb h0]; grind
  subst hza
  have hcase : (n3 = 0) ∨ (((n3 : Int) == 0) = false /\ n2 = 0) := by
   rcases hz0 with h0 | h0
   ·exact .inl h0
   ·by_cases h3 : n3 = 0
    ·exact .inl h3
    ·exact .inr ⟨by simp; omega, h0⟩
  clear hz0 hz ha hb hq hrow r0 r1 r2 r3 hb0 hW0
  rcases hcase with h0 | ⟨h0, h1⟩
  ·have h00 := hide h0
   subst h0
   go_enter Tryz.func139, Tryz.ntmps139
   go_upto_region 2 with fail
   rw [<- HW0.out]
   clear d1 d2 d3 d4 d5 d6 d7 d8 f1 f2 f3 f4 f5 f6 f7 f8
   obtain ⟨d1, d2, d3, d4, d5, d6, d7, d8⟩ := row_cells4 R1.out
   go_wp2_with fail
   refine (rplain_calls _ _ z k (HA.out.later B0.out) (by omega)).mono ?_
   rintro e w1 ⟨v1, rfl, o1, b1⟩
   obtain ⟨s1, P1, q1, e1, P1', q1', e1', rfl, o1⟩ := o1.open_; have O1 := hide o1; clear o1
   have HR := hide (R3.out.later b1)
   have hs1 := b1.size
   have hL := B0.out.trans b1
   clear d1 d2 d3 d4 d5 d6 d7 d8
   obtain ⟨d1, d2, d3, d4, d5, d6, d7, d8⟩ := row_cells4 HR.out
   go_wp2_with fail
   refine bodyPost_ret (results_rat rfl rfl (HR.out.four _ _ _ _)) rfl ?_
   have oo := Only.four (w.heap.size + 2) w1 (.bool s1) (.slice P1 q1 e1) (.bool false) (.slice P1' q1' e1')
   exact ⟨_, rfl, (O1.out.only oo (by omega)).weaken (by omega), hL.only oo (by omega)⟩
  ·have h00 := hide h1
   subst h1
   go_enter Tryz.func139, Tryz.ntmps139
   go_upto_region 2 with fail
   rw [<- HW0.out]
   clear d1 d2 d3 d4 d5 d6 d7 d8 f1 f2 f3 f4 f5 f6 f7 f8
   obtain ⟨d1, d2, d3, d4, d5, d6, d7, d8⟩ := row_cells4 R1.out
   go_wp2_with fail
   refine (rplain_calls _ _ z k (HA.out.later B0.out) (by omega)).mono ?_
   rintro e w1 ⟨v1, rfl, o1, b1⟩
   obtain ⟨s1, P1, q1, e1, P1', q1', e1', rfl, o1⟩ := o1.open_; have O1 := hide o1; clear o1
   have HR := hide (R3.out.later b1)
   have hs1 := b1.size
   have hL := B0.out.trans b1
   clear d1 d2 d3 d4 d5 d6 d7 d8
   obtain ⟨d1, d2, d3, d4, d5, d6, d7, d8⟩ := row_cells4 HR.out
   go_wp2_with fail
   refine bodyPost_ret (results_rat rfl rfl (HR.out.four _ _ _ _)) rfl ?_
   have oo := Only.four (w.heap.size + 2) w1 (.bool s1) (.slice P1 q1 e1) (.bool false) (.slice P1' q1' e1')
   exact ⟨_, rfl, (O1.out.only oo (by omega)).weaken (by omega), hL.only oo (by omega)⟩
 ·have t1 : ((n3 : Int) == 0) = false := by simp; omega
  have t2 : ((n2 : Int) == 0) = false := by simp; omega
  have HZ := hide hz
  have SQ := hq.sized; have SB := hb.sized
  have SM := hide ((SQ.mul SB).mono (by omega : p + 1 + (m + 1) <= p + m + 2))
  have D0 : Hid (Later W0 W0.drew) := hide (Later.refl W0).drew
  have r1 := r1.drew; have r2 := r2.drew; have r0 := r0.drew
  have HT1 : Hid (∀ w', Later W0.drew w' -> w'.cell? ⟨w.heap.size, 0, none⟩ = some (.bool sx) /\ w'.cell? ⟨w.heap.size, 1, none⟩ = some (.slice A1 n1 c1) /\ w'.cell? ⟨w.heap.size, 2, none⟩ = some (.bool sx') /\ w'.cell? ⟨w.heap.size, 3, none⟩ = some (.slice A1' n1' c1') /\ w'.cell? ⟨w.heap.size + 1, 0, none⟩ = some (.bool sy) /\ w'.cell? ⟨w.heap.size + 1, 1, none⟩ = some (.slice A2 n2 c2) /\ w'.cell? ⟨w.heap.size + 1, 2, none⟩ = some (.bool sy') /\ w'.cell? ⟨w.heap.size + 1, 3, none⟩ = some (.slice A2' n2' c2') /\ w'.cell? ⟨G, 0, none⟩ = some (.bool sk) /\ w'.cell? ⟨G, 1, none⟩ = some (.slice A3 n3 c3) /\ w'.cell? ⟨G, 2, none⟩ = some (.bool sk') /\ w'.cell? ⟨G, 3, none⟩ = some (.slice A3' n3' c3')) :=
   hide fun w' hb => ⟨(r1.later hb).cell rfl, (r1.later hb).cell rfl, (r1.later hb).cell rfl, (r1.later hb).cell rfl, (r2.later hb).cell rfl, (r2.later hb).cell rfl, (r2.later hb).cell rfl, (r2.later hb).cell rfl, (r0.later hb).cell rfl, (r0.later hb).cell rfl, (r0.later hb).cell rfl, (r0.later hb).cell rfl⟩
  have HT2 : Hid (∀ w' a_ b_ c_ d_, Later W0.drew w' -> ((((w'.setCell ⟨w.heap.size + 2, 0, none⟩ a_).setCell ⟨w.heap.size + 2, 1, none⟩ b_).setCell ⟨w.heap.size + 2, 2, none⟩ c_).setCell ⟨w.heap.size + 2, 3, none⟩ d_).cell? ⟨w.heap.size, 0, none⟩ = some (.bool sx) /\ ((((w'.setCell ⟨w.heap.size + 2, 0, none⟩ a_).setCell ⟨w.heap.size + 2, 1, none⟩ b_).setCell ⟨w.heap.size + 2, 2, none⟩ c_).setCell ⟨w.heap.size + 2, 3, none⟩ d_).cell? ⟨w.heap.size, 1, none⟩ = some (.slice A1 n1 c1) /\ ((((w'.setCell ⟨w.heap.size + 2, 0, none⟩ a_).setCell ⟨w.heap.size + 2, 1, none⟩ b_).setCell ⟨w.heap.size + 2, 2, none⟩ c_).setCell ⟨w.heap.size + 2, 3, none⟩ d_).cell? ⟨w.heap.size, 2, none⟩ = some (.bool sx') /\ ((((w'.setCell ⟨w.heap.size + 2, 0, none⟩ a_).setCell ⟨w.heap.size + 2, 1, none⟩ b_).setCell ⟨w.heap.size + 2, 2, none⟩ c_).setCell ⟨w.heap.size + 2, 3, none⟩ d_).cell? ⟨w.heap.size, 3, none⟩ = some (.slice A1' n1' c1') /\ ((((w'.setCell ⟨w.heap.size + 2, 0, none⟩ a_).setCell ⟨w.heap.size + 2, 1, none⟩ b_).setCell ⟨w.heap.size + 2, 2, none⟩ c_).setCell ⟨w.heap.size + 2, 3, none⟩ d_).cell? ⟨w.heap.size + 1, 0, none⟩ = some (.bool sy) /\ ((((w'.setCell ⟨w.heap.size + 2, 0, none⟩ a_).setCell ⟨w.heap.size + 2, 1, none⟩ b_).setCell ⟨w.heap.size + 2, 2, none⟩ c_).setCell ⟨w.heap.size + 2, 3, none⟩ d_).cell? ⟨w.heap.size + 1, 1, none⟩ = some (.slice A2 n2 c2) /\ ((((w'.setCell ⟨w.heap.size + 2, 0, none⟩ a_).setCell ⟨w.heap.size + 2, 1, none⟩ b_).setCell ⟨w.heap.size + 2, 2, none⟩ c_).setCell ⟨w.heap.size + 2, 3, none⟩ d_).cell? ⟨w.heap.size + 1, 2, none⟩ = some (.bool sy') /\ ((((w'.setCell ⟨w.heap.size + 2, 0, none⟩ a_).setCell ⟨w.heap.size + 2, 1, none⟩ b_).setCell ⟨w.heap.size + 2, 2, none⟩ c_).setCell ⟨w.heap.size + 2, 3, none⟩ d_).cell? ⟨w.heap.size + 1, 3, none⟩ = some (.slice A2' n2' c2') /\ ((((w'.setCell ⟨w.heap.size + 2, 0, none⟩ a_).setCell ⟨w.heap.size + 2, 1, none⟩ b_).setCell ⟨w.heap.size + 2, 2, none⟩ c_).setCell ⟨w.heap.size + 2, 3, none⟩ d_).cell? ⟨G, 0, none⟩ = some (.bool sk) /\ ((((w'.setCell ⟨w.heap.size + 2, 0, none⟩ a_).setCell ⟨w.heap.size + 2, 1, none⟩ b_).setCell ⟨w.heap.size + 2, 2, none⟩ c_).setCell ⟨w.heap.size + 2, 3, none⟩ d_).cell? ⟨G, 1, none⟩ = some (.slice A3 n3 c3) /\ ((((w'.setCell ⟨w.heap.size + 2, 0, none⟩ a_).setCell ⟨w.heap.size + 2, 1, none⟩ b_).setCell ⟨w.heap.size + 2, 2, none⟩ c_).setCell ⟨w.heap.size + 2, 3, none⟩ d_).cell? ⟨G, 2, none⟩ = some (.bool sk') /\ ((((w'.setCell ⟨w.heap.size + 2, 0, none⟩ a_).setCell ⟨w.heap.size + 2, 1, none⟩ b_).setCell ⟨w.heap.size + 2, 2, none⟩ c_).setCell ⟨w.heap.size + 2, 3, none⟩ d_).cell? ⟨G, 3, none⟩ = some (.slice A3' n3' c3')) :=
   hide fun w' a_ b_ c_ d_ hb => ⟨((r1.later hb).far4 (by omega) a_ b_ c_ d_).cell rfl, ((r1.later hb).far4 (by omega) a_ b_ c_ d_).cell rfl, ((r1.later hb).far4 (by omega) a_ b_ c_ d_).cell rfl, ((r1.later hb).far4 (by omega) a_ b_ c_ d_).cell rfl, ((r2.later hb).far4 (by omega) a_ b_ c_ d_).cell rfl, ((r2.later hb).far4 (by omega) a_ b_ c_ d_).cell rfl, ((r2.later hb).far4 (by omega) a_ b_ c_ d_).cell rfl, ((r2.later hb).far4 (by omega) a_ b_ c_ d_).cell rfl, ((r0.later hb).far4 (by omega) a_ b_ c_ d_).cell rfl, ((r0.later hb).far4 (by omega) a_ b_ c_ d_).cell rfl, ((r0.later hb).far4 (by omega) a_ b_ c_ d_).cell rfl, ((r0.later hb).far4 (by omega) a_ b_ c_ d_).cell rfl⟩
  have hszd : W0.drew.heap.size = w.heap.size + 3 := hsz
  clear hz0 hz ha hb hq hrow r0 r1 r2 r3 hb0 hW0 SQ SB
  go_enter Tryz.func139, Tryz.ntmps139
  go_upto_region 3 with fail
  rw [<- HW0.out]
  clear d1 d2 d3 d4 d5 d6 d7 d8 f1 f2 f3 f4 f5 f6 f7 f8
  have B1 := hide (B0.out.trans D0.out)
  have R3d := hide (R3.out.later D0.out)
  go_region_held3 (fun w' => w'.cell? ⟨w.heap.size, 0, none⟩ = some (.bool sx) /\ w'.cell? ⟨w.heap.size, 1, none⟩ = some (.slice A1 n1 c1) /\ w'.cell? ⟨w.heap.size, 2, none⟩ = some (.bool sx') /\ w'.cell? ⟨w.heap.size, 3, none⟩ = some (.slice A1' n1' c1') /\ w'.cell? ⟨w.heap.size + 1, 0, none⟩ = some (.bool sy) /\ w'.cell? ⟨w.heap.size + 1, 1, none⟩ = some (.slice A2 n2 c2) /\ w'.cell? ⟨w.heap.size + 1, 2, none⟩ = some (.bool sy') /\ w'.cell? ⟨w.heap.size + 1, 3, none⟩ = some (.slice A2' n2' c2') /\ w'.cell? ⟨G, 0, none⟩ = some (.bool sk) /\ w'.cell? ⟨G, 1, none⟩ = some (.slice A3 n3 c3) /\ w'.cell? ⟨G, 2, none⟩ = some (.bool sk') /\ w'.cell? ⟨G, 3, none⟩ = some (.slice A3' n3' c3'))
   (first | exact HT1.out _ (Later.refl _) | exact HT1.out _ b1 | exact HT1.out _ (b1.trans b2) | exact HT2.out _ _ _ _ _ (b1.trans b2))
   (first
    | ((with_reducible refine (rmul_calls _ _ _ q b p m (HQ.out.later B1.out) (HB.out.later B1.out) (by omega)).mono ?_); rintro e w1 ⟨v1, rfl, o1, b1⟩; obtain ⟨s1, P1, q1, e1, P1', q1', e1', rfl, o1⟩ := o1.open_; have O1 := hide o1; clear o1)
    | ((with_reducible refine (radd_calls _ _ _ a (q * b) k (p + m + 2) (HA.out.later (B1.out.trans b1)) (O1.out.raw SM.out) (by omega)).mono ?_); rintro e w2 ⟨v2, rfl, o2, b2⟩; obtain ⟨s2, P2, q2, e2, P2', q2', e2', rfl, o2⟩ := o2.open_; have O2 := hide o2; clear o2; obtain ⟨f1, f2, f3, f4, f5, f6, f7, f8⟩ := row_cells4 (R3d.out.later (b1.trans b2))))
  have hL := B1.out.trans (b1.trans b2)
  have HR := hide (R3d.out.later (b1.trans b2))
  have hs1 := b1.size; have hs2 := b2.size
  clear f1 f2 f3 f4 f5 f6 f7 f8
  go_wp2_with fail
  refine bodyPost_ret (results_rat rfl rfl (HR.out.four _ _ _ _)) rfl ?_
  have oo := Only.four (w.heap.size + 2) w2 (.bool s2) (.slice P2 q2 e2) (.bool false) (.slice P2' q2' e2')
  exact ⟨_, rfl, by rw [HZ.out]; exact (O2.out.only oo (by omega)).weaken (by omega), hL.only oo (by omega)⟩
def axpyL (a b : List Rat) (q : Rat) : List Rat := List.zipWith (fun x y => x + q * y) a b
theorem ownsRow_lower {w : World} {lo lo' size n : Nat} {T : TypeId} {v : Value} {xs : List Value} (h : w.ownsRow lo T size v n xs) (hl : lo' <= lo) : w.ownsRow lo' T size v n xs := by
 obtain ⟨h2, h3⟩ := h
 refine ⟨h2, ?_⟩
 rcases h3 with h3 | ⟨k, cap, cur, hv, hb, r⟩
 ·exact .inl h3
 ·exact .inr ⟨k, cap, cur, hv, Nat.le_trans hl hb, r⟩
theorem OutRats.lower {w : World} {lo lo' : Nat} {v : Value} {l : List Rat} (h : OutRats EOwn w (fun b => lo <= b) lo v l) (hl : lo' <= lo) : OutRats EOwn w (fun b => lo' <= b) lo' v l := by
 obtain ⟨es, h1, h2, h3, h4⟩ := h
 exact ⟨es, h1, ownsRow_lower h2 hl, h3, h4.mono fun b hb _ => ⟨Nat.le_trans hl hb.1, hb.2⟩⟩
set_option maxHeartbeats 2000000 in
theorem addtimes_own (w : World) (va vb vk : Value) (a b : List Rat) (q : Rat) (k m p : Nat) (ha : Rats (ERaw k) w va a) (hb : Rats (ERaw m) w vb b) (hq : RawR w vk q p) (hlen : a.length = b.length) (hl9 : a.length <= 1000000000) (hkm : k + m + p <= 100000000) :
 Calls Tryz.prog 69 #[va, vb, vk] w (Ret2 w fun w' v o => OutRats EOwn w' (fun b => w.heap.size <= b) w.heap.size v (axpyL a b q) /\ o = .bool true) := by
 have HA := hide ha; have HB := hide hb; have HQ := hide hq; have HLEN := hide hlen
 obtain ⟨A0, na, ca, rfl, hna, -⟩ := ha.form
 obtain ⟨B0, nb, cb, rfl, hnb, -⟩ := hb.form
 obtain ⟨sk, A3, n3, c3, sk', A3', n3', c3', rfl⟩ := hq.open_
 have hnn : na = nb := by omega
 subst hnn
 have t1 : ((na : Int) != na) = false := by simp
 clear ha hb hq hlen hna hnb
 go_enter Tryz.func69, Tryz.ntmps69
 go_wp2_with fail
 have hL : Later w (w.alloc (Obj.cells #[Value.bool sk, Value.slice A3 n3 c3, Value.bool sk', Value.slice A3' n3' c3'] 36)) := (Later.refl w).alloc _
 have hrow := Row.new w 36 [.bool sk, .slice A3 n3 c3, .bool sk', .slice A3' n3' c3']
 have HR := hide hrow; have HL := hide hL
 clear hrow hL
 refine (pairs1_own _ _ _ a b (ERaw k) (ERaw m) ERaw.later ERaw.later (HA.out.later ERaw.later HL.out) (HB.out.later ERaw.later HL.out) (by rw [HLEN.out]; exact Nat.le_refl _) hl9 _ ⟨fun _ _ => by kernel_rfl⟩ w.heap.size (fun x y => x + q * y)
  (fun W vx vy x y hW hx hy _ _ => at1_calls W vx vy x y q k m p hx hy w.heap.size sk sk' A3 A3' n3 c3 n3' c3' (HR.out.later hW) (HQ.out.later (HL.out.trans hW)) hkm)).mono ?_
 rintro e w1 ⟨v1, rfl, o1, b1⟩
 have O1 := hide (OutRats.lower o1 HL.out.size); clear o1
 have hLL := HL.out.trans b1
 go_wp2_with fail
 go_ret2
 exact ⟨_, _, rfl, ⟨O1.out, rfl⟩, hLL⟩
theorem addtimes_calls (w : World) (va vb vk : Value) (a b : List Rat) (q : Rat) (k m p : Nat) (ha : Rats (ERaw k) w va a) (hb : Rats (ERaw m) w vb b) (hq : RawR w vk q p) (hlen : a.length = b.length) (hl9 : a.length <= 1000000000) (hkm : k + m + p <= 100000000) :
 Calls Tryz.prog 69 #[va, vb, vk] w (Ret2 w fun w' v o => OwnRats w' w.heap.size v (axpyL a b q) /\ o = .bool true) := by
 refine (addtimes_own w va vb vk a b q k m p ha hb hq hlen hl9 hkm).mono ?_
 rintro e w' ⟨v, o, rfl, ⟨h, h2⟩, hL⟩
 exact ⟨v, o, rfl, ⟨h.rats.mono (fun b hb _ => by rcases hb with h | h <;> exact h), h2⟩, hL⟩
end Go.Proofs.YtfokplidiboabaaGreat
