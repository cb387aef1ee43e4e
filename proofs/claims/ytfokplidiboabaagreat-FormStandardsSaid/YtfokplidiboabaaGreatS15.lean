/- Tables whose rows, or columns, stand the other way round; a row so many times; sums of products. No program is in sight here. -/
import Derived.Test.YtfokplidiboabaaGreatS12
import Derived.Test.YtfokplidiboabaaGreatS11
import Derived.Test.YtfokplidiboabaaGreatS13
import Derived.ProofKit
import Derived.Deep.Slices
import Derived.Test.YtfokplidiboabaaGreatS14
set_option linter.unusedVariables false
set_option linter.unusedSimpArgs false
namespace Go.Proofs.YtfokplidiboabaaGreat
end Go.Proofs.YtfokplidiboabaaGreat
set_option maxRecDepth 100000
namespace Go.Proofs.YtfokplidiboabaaGreat
open Go.RowKit Go.Shelf Go.ChangeShapes Go.WideShapes Go.Deep
section
variable {H : Type} {enc : TypeId × Value -> H} {w : World} {base : Nat} {spare : Nat -> Bool} {held : Bool}
theorem cellsRat : Tryz.prog.cellsOf 36 = 4 := by kernel_rfl
theorem cellsInt : Tryz.prog.cellsOf 34 = 2 := by kernel_rfl
theorem cellsBool : Tryz.prog.cellsOf 4 = 1 := by kernel_rfl
theorem cellsU32s : Tryz.prog.cellsOf 32 = 1 := by kernel_rfl
theorem cellsU32 : Tryz.prog.cellsOf 160 = 1 := by kernel_rfl
theorem cellsRats : Tryz.prog.cellsOf 22 = 1 := by kernel_rfl
theorem u32s_open {fuel : Nat} {cs : List Value} {y : DataW H × List MemPlace} (h : DataW.trod enc Tryz.prog w base spare held fuel 32 cs = some y) :
 ∃ A n c l, cs = [.slice A n c] /\ U32s w (.slice A n c) l := by
 rcases open_ints Tryz.underlying32 Tryz.underlying160 cellsU32 h with ⟨rfl, -⟩ | ⟨a, n, c, zs, rfl, -, hl, hm, hz, -, hcell, hwf⟩
 ·exact ⟨_, _, _, [], rfl, U32s.nil w⟩
 ·have hzl : n <= zs.length := by rw [hz]; split <;> omega
  have hb : ∀ i, i < n -> 0 <= zs.getD i 0 /\ zs.getD i 0 < 4294967296 := fun i hi => by
   have h1 : zs.getD i 0 ∈ zs := by
    rw [List.getD_eq_getElem?_getD, List.getElem?_eq_getElem (by omega)]; exact List.getElem_mem _
   have h2 := hwf _ h1
   have h3 : 0 <= zs.getD i 0 /\ zs.getD i 0 <= 4294967295 := by simpa [Lit.wf, IntKind.min, IntKind.max, IntKind.bits, IntKind.signed] using h2
   omega
  refine ⟨_, _, _, (List.range n).map fun i => (zs.getD i 0).toNat, rfl, ?_, some a, c, by simp, by simpa using hl, hm, by simp [nums], ?_⟩
  ·intro x hx
   obtain ⟨i, hi, rfl⟩ := List.mem_map.1 hx
   have := hb i (List.mem_range.1 hi)
   omega
  ·by_cases hn : n = 0
   ·subst hn; left; rfl
   ·right
    obtain ⟨b, off, spot⟩ := a
    have h0 := hcell 0 (by omega)
    have hs : spot = none := by simpa [Addr.add] using World.cell?_spot h0
    subst hs
    refine ⟨b, off, rfl, fun j u hj => ?_⟩
    have hjn : j < n := by
     have := (List.getElem?_eq_some_iff.1 hj).1
     simpa [nums] using this
    have h1 := hcell j (by omega)
    rw [add_plain] at h1
    rw [h1]
    have h2 := hb j hjn
    have hj2 : u = .int .u32 (((zs.getD j 0).toNat : Nat) : Int) := by
     unfold nums at hj
     rw [List.getElem?_map, List.getElem?_map, List.getElem?_range hjn] at hj
     simpa using hj.symm
    rw [hj2, Int.toNat_of_nonneg h2.1]
theorem int_open {fuel : Nat} {cs : List Value} {y : DataW H × List MemPlace} (h : DataW.trod enc Tryz.prog w base spare held fuel 34 cs = some y) :
 ∃ s A n c z k, cs = [.bool s, .slice A n c] /\ RawI w (.agg #[.bool s, .slice A n c]) z k := by
 obtain ⟨y0, y1, m, -, hlen, h0, h1⟩ := trod_struct2 Tryz.underlying34 h
 rw [cellsInt] at hlen
 match cs, hlen with
 | [c0, c1], _ =>
   simp only [cellsBool, cellsU32s, List.drop_zero, List.drop_succ_cons, List.take_succ_cons, List.take_zero] at h0 h1
   obtain ⟨s, e0, -⟩ := DataW.trod_bool Tryz.underlying4 h0
   obtain ⟨A, n, c, l, e1, hu⟩ := u32s_open h1
   simp at e0 e1
   subst e0 e1
   exact ⟨s, A, n, c, _, _, rfl, s, A, n, c, l, rfl, hu, rfl, Nat.le_refl _⟩
theorem RawI.mono' {w : World} {v : Value} {z : Int} {k m : Nat} (h : RawI w v z k) (hm : k <= m) : RawI w v z m := by
 obtain ⟨a, A, n, c, l, e, hu, hz, hl⟩ := h; exact ⟨a, A, n, c, l, e, hu, hz, by omega⟩
theorem rat_open {fuel : Nat} {cs : List Value} {y : DataW H × List MemPlace} (h : DataW.trod enc Tryz.prog w base spare held fuel 36 cs = some y) :
 ∃ s A n c s' A' n' c' q, cs = [.bool s, .slice A n c, .bool s', .slice A' n' c'] /\ EAny w (.agg #[.bool s, .slice A n c, .bool s', .slice A' n' c']) q := by
 obtain ⟨y0, y1, m, -, hlen, h0, h1⟩ := trod_struct2 Tryz.underlying36 h
 rw [cellsRat] at hlen
 match cs, hlen with
 | [c0, c1, c2, c3], _ =>
   simp only [cellsInt, List.drop_zero, List.drop_succ_cons, List.take_succ_cons, List.take_zero] at h0 h1
   obtain ⟨s, A, n, c, z, k, e0, hz⟩ := int_open h0
   obtain ⟨s', A', n', c', z', k', e1, hz'⟩ := int_open h1
   simp at e0 e1
   obtain ⟨rfl, rfl⟩ := e0
   obtain ⟨rfl, rfl⟩ := e1
   exact ⟨s, A, n, c, s', A', n', c', _, rfl, k + k', s, A, n, c, s', A', n', c', z, z', rfl, hz.mono' (by omega), hz'.mono' (by omega), rfl⟩
theorem rats_open {fuel : Nat} {cs : List Value} {y : DataW H × List MemPlace} (h : DataW.trod enc Tryz.prog w base spare held fuel 22 cs = some y) :
 ∃ A n c l, cs = [.slice A n c] /\ Rats EAny w (.slice A n c) l := by
 rcases open_slice Tryz.underlying22 h with ⟨rfl, -⟩ | ⟨a, n, c, m, f, D, Pl, rfl, -, hl, hm, hmm, -, hx⟩
 ·exact ⟨_, _, _, [], rfl, none, 0, rfl, by simp, by decide, fun i q hi => by simp at hi⟩
 ·have hnm : n <= m := by rw [hmm]; split <;> omega
  rcases Nat.eq_zero_or_pos n with rfl | hpos
  ·exact ⟨_, _, _, [], rfl, some a, c, rfl, by simp, hm, fun i q hi => by simp at hi⟩
  obtain ⟨b0, off0, spot⟩ := a
  obtain rfl : spot = none := by
   obtain ⟨cs, h1, h2⟩ := hx 0 (by omega)
   obtain ⟨s, A, n', c', s', A', n'', c'', q, rfl, hq⟩ := rat_open h2
   rw [cellsRat] at h1
   obtain ⟨-, -, h3⟩ := World.cells?_some h1
   have := World.cell?_spot (h3 0 (by omega))
   simpa [Addr.add] using this
  have key : ∀ i, i < n -> ∃ q : Rat, ∃ b off s A1 n1 c1 s' A2 n2 c2, (⟨b0, off0, none⟩ : Addr) = ⟨b, off, none⟩ /\ w.cell? ⟨b, off + i * 4, none⟩ = some (.bool s) /\ w.cell? ⟨b, off + i * 4 + 1, none⟩ = some (.slice A1 n1 c1) /\
   w.cell? ⟨b, off + i * 4 + 2, none⟩ = some (.bool s') /\ w.cell? ⟨b, off + i * 4 + 3, none⟩ = some (.slice A2 n2 c2) /\ EAny w (.agg #[.bool s, .slice A1 n1 c1, .bool s', .slice A2 n2 c2]) q := fun i hi => by
   obtain ⟨cs, h1, h2⟩ := hx i (by omega)
   obtain ⟨s, A, n', c', s', A', n'', c'', q, rfl, hq⟩ := rat_open h2
   rw [cellsRat] at h1
   obtain ⟨-, -, h3⟩ := World.cells?_some h1
   have h4 := h3 0 (by omega); have h5 := h3 1 (by omega); have h6 := h3 2 (by omega); have h7 := h3 3 (by omega)
   simp only [add_plain, Nat.add_zero] at h4 h5 h6 h7
   exact ⟨q, b0, off0, s, A, n', c', s', A', n'', c'', rfl, h4, h5, h6, h7, hq⟩
  obtain ⟨Q, hQ⟩ := choose_lt (α := Rat) key
  refine ⟨_, _, _, (List.range n).map Q, rfl, some ⟨b0, off0, none⟩, c, by simp, by simpa using hl, hm, fun i q hi => ?_⟩
  have hin : i < n := by
   have := (List.getElem?_eq_some_iff.1 hi).1
   simpa using this
  obtain ⟨b, off, s, A1, n1, c1, s', A2, n2, c2, e0, x⟩ := hQ i hin
  simp [hin] at hi
  subst hi
  exact ⟨b, off, s, A1, n1, c1, s', A2, n2, c2, by rw [e0], x⟩
end
end Go.Proofs.YtfokplidiboabaaGreat
namespace Go.Proofs.YtfokplidiboabaaGreat
open Go.RowKit Go.Shelf
attribute [local go_sem ↓] Go.wp_at_zero Go.wp_at_succ
theorem ownsRow_grown {w w' : World} {B size n : Nat} {e : TypeId} {v : Value} {xs : List Value} {row : Option Nat} (h : w.ownsRow B e size v n xs) (hg : w.grownBy w' row) (hv : ∀ k, v.ownBlock = some k -> some k ≠ row) : w'.ownsRow B e size v n xs := by
 obtain ⟨h2, h3⟩ := h
 refine ⟨h2, ?_⟩
 rcases h3 with h3 | ⟨g, cap, cur, rfl, hb', hgg, r⟩
 ·exact .inl h3
 ·have hlt : g < w.heap.size := by
   rcases Nat.lt_or_ge g w.heap.size with h | h
   ·exact h
   ·rw [Array.getElem?_eq_none h] at hgg; cases hgg
  exact .inr ⟨g, cap, cur, rfl, hb', (hg.block g hlt (hv g rfl)).trans hgg, r⟩
theorem On.beside {w w' : World} {P P' : Nat -> Prop} {T : World -> Prop} {row : Option Nat} (h : On w P T) (hg : w.grownBy w' row) (h1 : ∀ b, P b -> b < w.heap.size -> some b ≠ row /\ P' b) : On w' P' T := by
 obtain ⟨F, f1, f2⟩ := h
 exact ⟨F, fun b hb => ⟨(h1 b (f1 b hb).1 (f1 b hb).2).2, Nat.lt_of_lt_of_le (f1 b hb).2 hg.size⟩, fun W hW => f2 W fun b hb => (hW b hb).trans (hg.block b (f1 b hb).2 (h1 b (f1 b hb).1 (f1 b hb).2).1)⟩
theorem rats_agree {w W : World} {k : Nat} {v : Value} {l : List Rat} (h : Rats (ERaw k) w v l) (ha : ∀ b, b < w.heap.size -> W.heap[b]? = w.heap[b]?) : Rats (ERaw k) W v l := by
 have hc : ∀ (p : Addr) (u : Value), w.cell? p = some u -> W.cell? p = some u := fun p u h => (World.cell?_of_block (a := p) (ha p.block (World.block_lt_of_cell? w _ h))).trans h
 obtain ⟨A, c, e, h1, h2, h3⟩ := h
 refine ⟨A, c, e, h1, h2, fun i q hi => ?_⟩
 obtain ⟨b, off, s, A1, n1, c1, s', A2, n2, c2, hA, x1, x2, x3, x4, hE'⟩ := h3 i q hi
 exact ⟨b, off, s, A1, n1, c1, s', A2, n2, c2, hA, hc _ _ x1, hc _ _ x2, hc _ _ x3, hc _ _ x4, rawR_agree hE' ha⟩
theorem On.ratsRaw {w : World} {v : Value} {l : List Rat} {k : Nat} (h : Rats (ERaw k) w v l) : On w (fun b => b < w.heap.size) (fun W => Rats (ERaw k) W v l) :=
 ⟨fun b => b < w.heap.size, fun b hb => ⟨hb, hb⟩, fun W hW => rats_agree h hW⟩
theorem OutRats.beside {E : Elem} {w w' : World} {P P' : Nat -> Prop} {lo : Nat} {v : Value} {l : List Rat} {row : Option Nat} (h : OutRats E w P lo v l) (hg : w.grownBy w' row)
 (hv : ∀ k, v.ownBlock = some k -> some k ≠ row) (hP : ∀ b, P b -> b < w.heap.size -> some b ≠ row /\ P' b) : OutRats E w' P' lo v l := by
 obtain ⟨es, h1, h2, h3, h4⟩ := h
 exact ⟨es, h1, ownsRow_grown h2 hg hv, h3, h4.beside hg fun b hb hlt => ⟨(hP b hb.1 hlt).1, (hP b hb.1 hlt).2, hb.2⟩⟩
theorem OutTab.beside {E : Elem} {w w' : World} {P P' : Nat -> Prop} {lo : Nat} {v : Value} {t : List (List Rat)} {row : Option Nat} (h : OutTab E w P lo v t) (hg : w.grownBy w' row)
 (hv : ∀ k, v.ownBlock = some k -> some k ≠ row) (hP : ∀ b, P b -> b < w.heap.size -> some b ≠ row /\ P' b) : OutTab E w' P' lo v t := by
 obtain ⟨es, h1, h2, h3, h4⟩ := h
 exact ⟨es, h1, ownsRow_grown h2 hg hv, h3, h4.beside hg fun b hb hlt => ⟨(hP b hb.1 hlt).1, (hP b hb.1 hlt).2, hb.2⟩⟩
theorem rats_tab_apart {E E' : Elem} {w : World} {P P' : Nat -> Prop} {lo lo' : Nat} {v u : Value} {l : List Rat} {t : List (List Rat)} (h : OutRats E w P lo v l) (k : OutTab E' w P' lo' u t) : ∀ g, v.ownBlock = some g -> some g ≠ u.ownBlock := by
 obtain ⟨es, h1, ⟨-, h2⟩, -⟩ := h
 obtain ⟨fs, k1, ⟨-, k2⟩, -⟩ := k
 intro g hg he
 rcases h2 with ⟨rfl, -⟩ | ⟨g1, c1, cur1, rfl, -, hg1, -⟩
 ·cases hg
 rcases k2 with ⟨rfl, -⟩ | ⟨g2, c2, cur2, rfl, -, hg2, -⟩
 ·cases he
 injection hg with hg; injection he with he
 subst hg
 subst he
 rw [hg1] at hg2
 injection hg2 with hg2
 injection hg2 with _ hg2 _
 exact absurd hg2 (by decide)
section
variable {w : World} {o : Oper} {a : Act} {K : Act -> World -> Prop} {Q : Exit -> Act -> World -> Prop}
theorem wp_append_rat3 (s x : Operand) (ho : o.op = .call { callee := .builtin .append, args := #[s, x], argTypes := #[22, 22] })
 {E : Elem} {P : Nat -> Prop} {lo : Nat} {v : Value} {l : List Rat} {g : Nat} {q : Rat} {t t' : Bool} {A A' : Option Addr} {n c n' c' : Nat} (hs : a.eval s = v) (hown : OutRats E w P lo v l)
 (hx : a.eval x = .slice (some ⟨g, 0, none⟩) 1 1) (hrow : Row w g 36 [.bool t, .slice A n c, .bool t', .slice A' n' c'])
 (hel : On w (fun b => P b /\ some b ≠ v.ownBlock) (fun W => E W (.agg #[.bool t, .slice A n c, .bool t', .slice A' n' c']) q)) (hlen : l.length <= 3000000000) (hbase : lo <= w.heap.size)
 (h : ∀ v' w', OutRats E w' P lo v' (l ++ [q]) -> w.grownBy w' v.ownBlock -> (v'.ownBlock = v.ownBlock ∨ v'.ownBlock = some w.heap.size) -> K (a.put o.dst v') w') : o.wp Tryz.prog a w K Q := by
 obtain ⟨es, h1, h2, h3, h4⟩ := hown
 refine wp_append_own_ s x _ ho lo 36 _ 4 64 Tryz.underlying22 info_rat rfl (by omega) (by omega) v l.length _ hs h2 ⟨g, 0, none⟩ 1 1 [.bool t, .slice A n c, .bool t', .slice A' n' c'] hx rfl (fun j u hj => by rw [Go.WideShapes.add_plain, Nat.zero_add]; exact hrow.cell hj) (by simp [Value.oneCell']) (by omega) hbase ?_
 intro v' w' k1 k2 k3
 exact h v' w' (OutRats.snoc es h1 h3 h4 k1 k2 k3 hel) k2 k3
theorem wp_append_row3 (s x : Operand) (ho : o.op = .call { callee := .builtin .append, args := #[s, x], argTypes := #[29, 29] })
 {E : Elem} {P : Nat -> Prop} {lo : Nat} {v : Value} {t : List (List Rat)} {g : Nat} {row : List Rat} {A : Option Addr} {n c : Nat} (hs : a.eval s = v) (hown : OutTab E w P lo v t)
 (hx : a.eval x = .slice (some ⟨g, 0, none⟩) 1 1) (hrow : Row w g 22 [.slice A n c])
 (hel : On w (fun b => P b /\ some b ≠ v.ownBlock) (fun W => Rats E W (.slice A n c) row)) (hlen : t.length <= 3000000000) (hbase : lo <= w.heap.size)
 (h : ∀ v' w', OutTab E w' P lo v' (t ++ [row]) -> w.grownBy w' v.ownBlock -> (v'.ownBlock = v.ownBlock ∨ v'.ownBlock = some w.heap.size) -> K (a.put o.dst v') w') : o.wp Tryz.prog a w K Q := by
 obtain ⟨es, h1, h2, h3, h4⟩ := hown
 refine wp_append_own_ s x _ ho lo 22 _ 1 24 Tryz.underlying29 info_row rfl (by omega) (by omega) v t.length _ hs h2 ⟨g, 0, none⟩ 1 1 [.slice A n c] hx rfl (fun j u hj => by rw [Go.WideShapes.add_plain, Nat.zero_add]; exact hrow.cell hj) (by simp [Value.oneCell']) (by omega) hbase ?_
 intro v' w' k1 k2 k3
 exact h v' w' (OutTab.snoc es h1 h3 h4 k1 k2 k3 hel) k2 k3
end
theorem wpList_append_rat3 {w : World} {ops : Array Oper} {rest : List Oper} {o : Oper} {a : Act} {Q : Exit -> Act -> World -> Prop} (hgd : o.guard = none) (s x : Operand) (ho : o.op = .call { callee := .builtin .append, args := #[s, x], argTypes := #[22, 22] })
 {E : Elem} {P : Nat -> Prop} {lo : Nat} {v : Value} {l : List Rat} {g : Nat} {q : Rat} {t t' : Bool} {A A' : Option Addr} {n c n' c' : Nat} (hs : a.eval s = v) (hown : OutRats E w P lo v l)
 (hx : a.eval x = .slice (some ⟨g, 0, none⟩) 1 1) (hrow : Row w g 36 [.bool t, .slice A n c, .bool t', .slice A' n' c'])
 (hel : On w (fun b => P b /\ some b ≠ v.ownBlock) (fun W => E W (.agg #[.bool t, .slice A n c, .bool t', .slice A' n' c']) q)) (hlen : l.length <= 3000000000) (hbase : lo <= w.heap.size)
 (h : ∀ v' w', OutRats E w' P lo v' (l ++ [q]) -> w.grownBy w' v.ownBlock -> (v'.ownBlock = v.ownBlock ∨ v'.ownBlock = some w.heap.size) -> wpList Tryz.prog ops Q rest (a.put o.dst v') w') : wpList Tryz.prog ops Q (o :: rest) a w :=
 wpList_plain hgd fun K hK => wp_append_rat3 s x ho hs hown hx hrow hel hlen hbase fun v' w' h1 h2 h3 => hK _ _ (h v' w' h1 h2 h3)
theorem wpList_append_row3 {w : World} {ops : Array Oper} {rest : List Oper} {o : Oper} {a : Act} {Q : Exit -> Act -> World -> Prop} (hgd : o.guard = none) (s x : Operand) (ho : o.op = .call { callee := .builtin .append, args := #[s, x], argTypes := #[29, 29] })
 {E : Elem} {P : Nat -> Prop} {lo : Nat} {v : Value} {t : List (List Rat)} {g : Nat} {row : List Rat} {A : Option Addr} {n c : Nat} (hs : a.eval s = v) (hown : OutTab E w P lo v t)
 (hx : a.eval x = .slice (some ⟨g, 0, none⟩) 1 1) (hrow : Row w g 22 [.slice A n c])
 (hel : On w (fun b => P b /\ some b ≠ v.ownBlock) (fun W => Rats E W (.slice A n c) row)) (hlen : t.length <= 3000000000) (hbase : lo <= w.heap.size)
 (h : ∀ v' w', OutTab E w' P lo v' (t ++ [row]) -> w.grownBy w' v.ownBlock -> (v'.ownBlock = v.ownBlock ∨ v'.ownBlock = some w.heap.size) -> wpList Tryz.prog ops Q rest (a.put o.dst v') w') : wpList Tryz.prog ops Q (o :: rest) a w :=
 wpList_plain hgd fun K hK => wp_append_row3 s x ho hs hown hx hrow hel hlen hbase fun v' w' h1 h2 h3 => hK _ _ (h v' w' h1 h2 h3)
end Go.Proofs.YtfokplidiboabaaGreat
namespace Go.Proofs.YtfokplidiboabaaGreat
open Go.RowKit Go.Shelf
attribute [local go_sem ↓] Go.wp_at_zero Go.wp_at_succ
end Go.Proofs.YtfokplidiboabaaGreat
namespace Go.Proofs.YtfokplidiboabaaGreat
open Go.RowKit Go.Shelf
attribute [local go_sem ↓] Go.wp_at_zero Go.wp_at_succ
theorem OutRats.ratsOn2 {E : Elem} {w : World} {P : Nat -> Prop} {lo : Nat} {v : Value} {l : List Rat} (h : OutRats E w P lo v l) : Rats (EOn (fun b => P b /\ some b ≠ v.ownBlock) E) w v l := by
 have h' : OutRats (EOn (fun b => P b /\ some b ≠ v.ownBlock) E) w P lo v l := by
  obtain ⟨es, h1, h2, h3, h4⟩ := h
  refine ⟨es, h1, h2, h3, ?_⟩
  obtain ⟨F, f1, f2⟩ := h4
  exact ⟨F, f1, fun W hW i e q hi hq => ⟨F, fun b hb => ⟨(f1 b hb).1, by
   have h5 := hW b hb
   rw [Array.getElem?_eq_getElem (f1 b hb).2] at h5
   exact (Array.getElem?_eq_some_iff.1 h5).1⟩, fun W' hW' => f2 W' (fun b hb => (hW' b hb).trans (hW b hb)) i e q hi hq⟩⟩
 exact h'.rats.now
theorem OutRats.row {E : Elem} {w : World} {P : Nat -> Prop} {lo : Nat} {v : Value} {l : List Rat} (h : OutRats E w P lo v l) (hl : 0 < l.length) :
 ∃ g cap cs, v = .slice (some ⟨g, 0, none⟩) l.length cap /\ lo <= g /\ l.length <= cap /\ cap <= maxLen /\ Row w g 36 cs := by
 obtain ⟨es, h1, ⟨h2, h2'⟩, h3, h4⟩ := h
 rcases h2' with ⟨rfl, h0⟩ | ⟨g, cap, cur, rfl, hb, hg, hn, hm, hs, ht⟩
 ·omega
 ·exact ⟨g, cap, cur.toList, rfl, hb, hn, hm, by unfold Row; simpa using hg⟩
theorem OutRats.put {E : Elem} {w : World} {P : Nat -> Prop} {lo g cap n a i : Nat} {l : List Rat} {q : Rat} {s s' : Bool} {A A' : Option Addr} {m c m' c' : Nat} (h : OutRats E w P lo (.slice (some ⟨g, 0, none⟩) n cap) l) (hi : i < l.length) (ha : a = i * 4)
 (hq : On w (fun b => b ≠ g) (fun W => E W (.agg #[.bool s, .slice A m c, .bool s', .slice A' m' c']) q)) :
 Rats E ((((w.setCell ⟨g, a, none⟩ (.bool s)).setCell ⟨g, a + 1, none⟩ (.slice A m c)).setCell ⟨g, a + 2, none⟩ (.bool s')).setCell ⟨g, a + 3, none⟩ (.slice A' m' c')) (.slice (some ⟨g, 0, none⟩) n cap) (l.set i q) := by
 obtain ⟨g2, cap2, cs, e, hlo, hlc, hcm, hr⟩ := h.row (by omega)
 injection e with e1 e2 e3
 injection e1 with e1; injection e1 with e1
 subst e1 e2 e3
 have hall := h.ratsOn2
 have hr2 := (((hr.set_ a (.bool s)).set_ (a+1) (.slice A m c)).set_ (a+2) (.bool s')).set_ (a+3) (.slice A' m' c')
 have oo : Only g w ((((w.setCell ⟨g, a, none⟩ (.bool s)).setCell ⟨g, a + 1, none⟩ (.slice A m c)).setCell ⟨g, a + 2, none⟩ (.bool s')).setCell ⟨g, a + 3, none⟩ (.slice A' m' c')) := (((Only.one g w a _).set _ _).set _ _).set _ _
 have hcell : ∀ k u, w.cell? ⟨g, k, none⟩ = some u -> cs[k]? = some u := fun k u hk => by
  rw [cell_of_row w g k cs.toArray 36 (0, 0) hr] at hk; simpa using hk
 refine ⟨some ⟨g, 0, none⟩, cap, by rw [List.length_set], by rw [List.length_set]; exact hlc, hcm, fun j x hj => ?_⟩
 have hjl : j < l.length := by
  have := (List.getElem?_eq_some_iff.1 hj).1
  simpa using this
 obtain ⟨y, hy⟩ : ∃ y, l[j]? = some y := ⟨l[j], List.getElem?_eq_getElem hjl⟩
 obtain ⟨b, off, t, B, k, d, t', B', k', d', e0, x1, x2, x3, x4, hE⟩ := hall.at_ hy
 injection e0 with e0; injection e0 with e0 e0'
 subst e0 e0'
 rw [Nat.zero_add] at x1 x2 x3 x4
 by_cases e : j = i
 ·subst e
  rw [List.getElem?_set, if_pos rfl, if_pos hjl] at hj
  injection hj with hj
  subst hj
  have l1 := (List.getElem?_eq_some_iff.1 (hcell _ _ x1)).1; have l2 := (List.getElem?_eq_some_iff.1 (hcell _ _ x2)).1; have l3 := (List.getElem?_eq_some_iff.1 (hcell _ _ x3)).1; have l4 := (List.getElem?_eq_some_iff.1 (hcell _ _ x4)).1
  refine ⟨g, 0, s, A, m, c, s', A', m', c', rfl, hr2.cell ?_, hr2.cell ?_, hr2.cell ?_, hr2.cell ?_, ?_⟩
  ·subst ha; simp [List.getElem?_set, l1]
  ·subst ha; simp [List.getElem?_set, l2]
  ·subst ha; simp [List.getElem?_set, l3]
  ·subst ha; simp [List.getElem?_set, l4]
  ·exact (hq.only oo (fun h => h rfl)).now
 ·rw [List.getElem?_set, if_neg (fun e2 => e e2.symm), hy] at hj
  injection hj with hj
  subst hj
  have hne : ∀ r p, r < 4 -> p < 4 -> j * 4 + r ≠ i * 4 + p := fun r p hr hp => by omega
  refine ⟨g, 0, t, B, k, d, t', B', k', d', rfl, hr2.cell ?_, hr2.cell ?_, hr2.cell ?_, hr2.cell ?_, ?_⟩
  ·subst ha; rw [Nat.zero_add, List.getElem?_set_ne (by omega), List.getElem?_set_ne (by omega), List.getElem?_set_ne (by omega), List.getElem?_set_ne (by omega)]; exact hcell _ _ x1
  ·subst ha; rw [Nat.zero_add, List.getElem?_set_ne (by omega), List.getElem?_set_ne (by omega), List.getElem?_set_ne (by omega), List.getElem?_set_ne (by omega)]; exact hcell _ _ x2
  ·subst ha; rw [Nat.zero_add, List.getElem?_set_ne (by omega), List.getElem?_set_ne (by omega), List.getElem?_set_ne (by omega), List.getElem?_set_ne (by omega)]; exact hcell _ _ x3
  ·subst ha; rw [Nat.zero_add, List.getElem?_set_ne (by omega), List.getElem?_set_ne (by omega), List.getElem?_set_ne (by omega), List.getElem?_set_ne (by omega)]; exact hcell _ _ x4
  ·exact ((show On w _ (fun W => E W _ _) from hE).only oo (fun h => h.2 rfl)).now
theorem OutTab.put {E : Elem} {w : World} {P : Nat -> Prop} {lo g n cap i : Nat} {t : List (List Rat)} {row : List Rat} {A : Option Addr} {m c : Nat} (h : OutTab E w P lo (.slice (some ⟨g, 0, none⟩) n cap) t)
 (hi : i < t.length) (hx : On w (fun b => P b /\ b ≠ g) (fun W => Rats E W (.slice A m c) row)) :
 OutTab E (w.setCell ⟨g, i, none⟩ (.slice A m c)) P lo (.slice (some ⟨g, 0, none⟩) n cap) (t.set i row) := by
 obtain ⟨es, h1, ⟨h2, h2'⟩, h3, h4⟩ := h
 rcases h2' with ⟨e, h0⟩ | ⟨g', cap', cur, e, hb, hg, hn, hm, hs, ht⟩
 ·omega
 ·injection e with e1 e2 e3
  injection e1 with e1; injection e1 with e1
  subst e1 e2 e3
  have hr : Row w g 22 cur.toList := by unfold Row; simpa using hg
  have hr2 := hr.set_ i (.slice A m c)
  refine ⟨es.set i (.slice A m c), by simp [h1], ⟨?_, .inr ⟨g, cap, (cur.toList.set i (.slice A m c)).toArray, by rw [List.length_set], hb, hr2, by rw [List.length_set]; exact hn, hm, ?_, ?_⟩⟩, ?_, ?_⟩
  ·rw [List.length_set, List.length_set]; exact h2
  ·simp [hs]
  ·rw [List.length_set, <- ht, List.take_set]
  ·intro e he
   rcases List.mem_or_eq_of_mem_set he with he | he
   ·exact h3 _ he
   ·rw [he]; exact ⟨_, _, _, rfl⟩
  ·have oo : Only g w (w.setCell ⟨g, i, none⟩ (.slice A m c)) := Only.one g w i _
   have hx2 : On w (fun b => P b /\ some b ≠ (Value.slice (some ⟨g, 0, none⟩) t.length cap).ownBlock) (fun W => Rats E W (.slice A m c) row) := hx.mono fun b hb _ => ⟨hb.1, fun e => hb.2 (by have e2 : some b = some g := e; injection e2)⟩
   refine ((h4.and hx2).only oo (fun hh => hh.2 rfl)).map fun W hW a e r ha hrow => ?_
   rw [List.getElem?_set] at ha hrow
   by_cases e2 : i = a
   ·subst e2
    rw [if_pos rfl, if_pos (by omega)] at ha
    rw [if_pos rfl, if_pos hi] at hrow
    injection ha with ha; injection hrow with hrow
    rw [<- ha, <- hrow]; exact hW.2
   ·rw [if_neg e2] at ha hrow
    exact hW.1 a _ _ ha hrow
end Go.Proofs.YtfokplidiboabaaGreat
namespace Go.Proofs.YtfokplidiboabaaGreat
open Go.RowKit Go.Shelf
attribute [local go_sem ↓] Go.wp_at_zero Go.wp_at_succ
theorem rats_one_inv {E : Elem} {w : World} {g : Nat} {s s' : Bool} {A A' : Option Addr} {n c n' c' : Nat} {p : Rat} (hr : Row w g 36 [.bool s, .slice A n c, .bool s', .slice A' n' c']) (h : Rats E w (.slice (some ⟨g, 0, none⟩) 1 1) [p]) :
 E w (.agg #[.bool s, .slice A n c, .bool s', .slice A' n' c']) p := by
 obtain ⟨b, off, t, B, m, d, t', B', m', d', e, x1, x2, x3, x4, hE⟩ := h.at_ (i := 0) rfl
 injection e with e; injection e with e1 e2
 subst e1 e2
 rw [show ((0 : Nat) + 0 * 4) = 0 from rfl] at x1 x2 x3 x4
 rw [hr.cell (i := 0) rfl] at x1
 rw [hr.cell (i := 1) rfl] at x2
 rw [hr.cell (i := 2) rfl] at x3
 rw [hr.cell (i := 3) rfl] at x4
 injection x1 with x1; injection x2 with x2; injection x3 with x3; injection x4 with x4
 rw [x1, x2, x3, x4]; exact hE
end Go.Proofs.YtfokplidiboabaaGreat
namespace Go.Proofs.YtfokplidiboabaaGreat
open Go.RowKit Go.Shelf
attribute [local go_sem ↓] Go.wp_at_zero Go.wp_at_succ
theorem made_flat (n : Nat) : (madeCells (#[.bool false, .slice none 0 0, .bool false, .slice none 0 0] : Array Value) (n * 4)).toList = (List.replicate n ((false, .slice none 0 0, false, .slice none 0 0) : Bool × Value × Bool × Value)).flatMap fun (e : Bool × Value × Bool × Value) => [.bool e.1, e.2.1, .bool e.2.2.1, e.2.2.2] := by
 induction n with
 | zero => simp [madeCells]
 | succ n ih =>
   rw [List.replicate_succ', List.flatMap_append, <- ih]
   apply List.ext_getElem
   ·simp [madeCells]; omega
   ·intro k h1 h2
    by_cases hk : k < n * 4
    ·rw [List.getElem_append_left (by simpa [madeCells] using hk)]
     simp [madeCells]
    ·have h3 : k < (n + 1) * 4 := by simpa [madeCells] using h1
     rw [List.getElem_append_right (by simpa [madeCells] using hk)]
     obtain ⟨j, hj, rfl⟩ : ∃ j, j < 4 /\ k = n * 4 + j := ⟨k - n * 4, by omega, by omega⟩
     simp only [madeCells, Array.toList_map, Array.toList_range, List.getElem_map, List.getElem_range, List.length_map, List.length_range]
     match j, hj with
     | 0, _ => simp
     | 1, _ => simp
     | 2, _ => simp
     | 3, _ => simp
theorem raw_zero (W : World) : RawR W (.agg #[.bool false, .slice none 0 0, .bool false, .slice none 0 0]) 0 1 := by
 refine ⟨false, none, 0, 0, false, none, 0, 0, 0, 0, rfl, ?_, ?_, rfl⟩
 ·exact ⟨false, none, 0, 0, [], rfl, U32s.nil W, rfl, by simp⟩
 ·exact ⟨false, none, 0, 0, [], rfl, U32s.nil W, rfl, by simp⟩
theorem wpList_make_rats {w : World} {ops : Array Oper} {rest : List Oper} {o : Oper} {a : Act} {Q : Exit -> Act -> World -> Prop}
 (hg : o.guard = none) (l : Operand) (hop : o.op = Op.makeSlice 22 l l) (L : Int) (n : Nat) (hl : a.eval l = .int .i64 L) (hL : L = (n : Int)) (b2 : n <= 1000000000)
 (hK : ∀ g w', w.heap.size <= g -> OutRats (ERaw 1) w' (fun _ => False) w.heap.size (.slice (some ⟨g, 0, none⟩) n n) (List.replicate n 0) -> Later w w' -> wpList Tryz.prog ops Q rest (a.put o.dst (.slice (some ⟨g, 0, none⟩) n n)) w') :
 wpList Tryz.prog ops Q (o :: rest) a w := by
 obtain ⟨i, hi, hz, hs, hb⟩ := info_parts info_rat
 refine wpList_make_full w hg l l 22 hop w.heap.size 36 i (.agg #[.bool false, .slice none 0 0, .bool false, .slice none 0 0]) 4 Tryz.underlying22 hi hz hs .i64 .i64 L L n hl hl hL hL (by rw [hb]; omega) (by unfold maxLen; omega) (Nat.le_refl _) ?_
 intro w' hown hgr
 refine hK _ w' (Nat.le_refl _) ?_ (Later.grown (Later.refl w) hgr (fun k hk => by cases hk))
 refine ⟨List.replicate n (false, .slice none 0 0, false, .slice none 0 0), by simp, ?_, ?_, ?_⟩
 ·rw [List.length_replicate, <- made_flat]; exact hown
 ·intro e he
  rw [List.mem_replicate] at he
  obtain ⟨-, rfl⟩ := he
  exact ⟨⟨_, _, _, rfl⟩, ⟨_, _, _, rfl⟩⟩
 ·refine On.pure fun W i e q he hq => ?_
  rw [List.getElem?_replicate] at he hq
  split at he
  ·rename_i hin
   rw [if_pos hin] at hq
   injection he with he; injection hq with hq
   subst he hq
   exact raw_zero W
  ·cases he
end Go.Proofs.YtfokplidiboabaaGreat
namespace Go.Proofs.YtfokplidiboabaaGreat
open Go.RowKit Go.Shelf
attribute [local go_sem ↓] Go.wp_at_zero Go.wp_at_succ
theorem Rats.len_ {E : Elem} {w : World} {A : Option Addr} {n c : Nat} {l : List Rat} (h : Rats E w (.slice A n c) l) : n = l.length := by
 obtain ⟨_, _, _, e0, e1, -⟩ := h.form
 injection e0 with _ e0 _
 rw [e0, e1]
def FirstR (p : Rat -> Bool) (l : List Rat) (z : Int) : Prop := (z = -1 /\ ∀ x ∈ l, p x = false) ∨ ∃ (i : Nat) (x : Rat), z = i /\ l[i]? = some x /\ p x = true /\ ∀ j r, j < i -> l[j]? = some r -> p r = false
set_option maxHeartbeats 2000000 in
theorem idxq_calls (w : World) (v : Value) (l : List Rat) (E : Elem) (hE : ∀ w w' v q, E w v q -> Later w w' -> E w' v q) (h : Rats E w v l) (hl : l.length <= 1000000000) (f : FuncId) (hf : Enters f) (p : Rat -> Bool)
 (hp : ∀ W xv x, Later w W -> E W xv x -> x ∈ l -> Calls Tryz.prog f #[xv] W (RetV W (.bool (p x)))) :
 Calls Tryz.prog 153 #[v, .func (.func f) #[] #[]] w (RetZ w (FirstR p l)) := by
 have H := hide h; have HP := hide hp
 have hen := hf.out
 obtain ⟨A0, nt, ct, rfl, hnt, -⟩ := h.form
 have HNT := hide hnt
 have hn9 : nt <= 1000000000 := by omega
 clear h hp hnt hl
 go_enter Tryz.func153, Tryz.ntmps153
 go_wp2_with fail
 go_loopw [8] (fun i wr => ∃ j : Nat, j <= nt /\ i = .int .i64 (j : Int) /\ Hid (∀ i r, i < j -> l[i]? = some r -> p r = false) /\ Later w wr) (fun i _ => (nt - intOf i).toNat)
 case atStart => exact ⟨0, by omega, rfl, hide fun i r hi => by omega, Later.refl w⟩
 case round =>
  obtain ⟨j, hj, rfl, hpre, hL⟩ := hrel
  by_cases hjn : j < nt
  ·obtain ⟨x, hx⟩ : ∃ x, l[j]? = some x := ⟨l[j]'(by have := HNT.out; omega), List.getElem?_eq_getElem _⟩
   obtain ⟨b1, off1, sx, A1, n1, c1, sx', A2, n2, c2, rfl, x1, x2, x3, x4, hr⟩ := (H.out.later hE hL).at_ hx
   have HR := hide hr; have HX := hide hx
   obtain ⟨u, hu⟩ : ∃ u, p x = u := ⟨_, rfl⟩
   have HU := hide hu
   have hj0 : (0 : Int) <= (j : Int) := by omega
   have hj1 : (j : Int) < nt := by omega
   clear hr hx hu
   go_wp2_with fail
   refine (HP.out _ _ x hL HR.out (List.mem_of_getElem? HX.out)).mono ?_
   rintro e w8 ⟨rfl, b8⟩
   rw [HU.out]
   have hL8 := hL.trans b8
   cases u
   case false =>
    have HN : Hid (∀ i r, i < j + 1 -> l[i]? = some r -> p r = false) := hide fun i r hi hr => by
     by_cases hij : i < j
     ·exact hpre.out i r hij hr
     ·obtain rfl : i = j := by omega
      rw [HX.out] at hr; injection hr with hr; rw [<- hr, HU.out]
    go_wp2_with fail
    exact ⟨⟨j+1, by omega, by go_num, HN, hL8⟩, by simp [intOf]; omega⟩
   case true =>
    have HF : Hid (FirstR p l j) := hide (.inr ⟨j, x, rfl, HX.out, HU.out, hpre.out⟩)
    go_wp2_with fail
    go_ret
    exact ⟨_, rfl, HF.out, hL8⟩
  ·obtain rfl : j = nt := by omega
   have HF : Hid (FirstR p l (-1)) := hide (.inl ⟨rfl, fun x hx => by
    obtain ⟨i, hi⟩ := List.getElem?_of_mem hx
    exact hpre.out i x (by rw [HNT.out]; exact (List.getElem?_eq_some_iff.1 hi).1) hi⟩)
   go_wp2_with fail
   go_ret
   exact ⟨_, rfl, HF.out, hL⟩
theorem firstR_any {p : Rat -> Bool} {l : List Rat} {z : Int} (h : FirstR p l z) : decide (0 <= z) = l.any p := by
 rcases h with ⟨rfl, h⟩ | ⟨i, x, rfl, h1, h2, h3⟩
 ·have : l.any p = false := by
   rw [List.any_eq_false]; intro x hx; rw [h x hx]; simp
  rw [this]; simp
 ·have : l.any p = true := by
   rw [List.any_eq_true]; exact ⟨x, List.mem_of_getElem? h1, h2⟩
  rw [this]; simp
set_option maxHeartbeats 1000000 in
theorem contq_calls (w : World) (v : Value) (l : List Rat) (E : Elem) (hE : ∀ w w' v q, E w v q -> Later w w' -> E w' v q) (h : Rats E w v l) (hl : l.length <= 1000000000) (f : FuncId) (hf : Enters f) (p : Rat -> Bool)
 (hp : ∀ W xv x, Later w W -> E W xv x -> x ∈ l -> Calls Tryz.prog f #[xv] W (RetV W (.bool (p x)))) (u : Bool) (hu : l.any p = u) :
 Calls Tryz.prog 83 #[v, .func (.func f) #[] #[]] w (RetV w (.bool u)) := by
 have H := hide h; have HP := hide hp; have HU := hide hu
 obtain ⟨A0, nt, ct, rfl, hnt, -⟩ := h.form
 clear h hp hnt hu
 go_enter Tryz.func83, Tryz.ntmps83
 go_wp2_with fail
 refine (idxq_calls _ _ l E hE H.out hl f hf p HP.out).mono ?_
 rintro e w1 ⟨z, rfl, hz, b1⟩
 have hd := firstR_any hz
 rw [HU.out] at hd
 have HD := hide hd
 clear hz hd
 go_wp2_with fail
 go_ret
 exact ⟨by simp [HD.out], b1⟩
def EFlag : Elem := fun w v q => ∃ a A n c b A' n' c' y, v = .agg #[.bool a, .slice A n c, .bool b, .slice A' n' c'] /\ RawI w (.agg #[.bool b, .slice A' n' c']) y 1000 /\ q = if 0 < y then 1 else 0
theorem EFlag.later (w w' : World) (v : Value) (q : Rat) (h : EFlag w v q) (hb : Later w w') : EFlag w' v q := by
 obtain ⟨a, A, n, c, b, A', n', c', y, e, h1, h2⟩ := h; exact ⟨a, A, n, c, b, A', n', c', y, e, h1.later hb, h2⟩
theorem EFlag.of_raw {w : World} {v : Value} {q : Rat} {k : Nat} (h : RawR w v q k) (hk : k <= 1000) : ∃ m, EFlag w v m := by
 obtain ⟨a, A, n, c, b, A', n', c', x, y, e, h1, h2, h3⟩ := h
 exact ⟨_, a, A, n, c, b, A', n', c', y, e, RawI.mono h2 hk, rfl⟩
theorem EFlag.of_own {w : World} {v : Value} {q : Rat} {B : Nat} (h : OwnR w B v q) (hs : Sized q 1000) : EFlag w v 1 := by
 obtain ⟨s, A, n, c, A', n', c', rfl, h⟩ := h.open_
 have hd := h.den
 refine ⟨_, _, _, _, _, _, _, _, (q.den : Int), rfl, ?_, ?_⟩
 ·exact OwnI.raw hd (by simpa using hs.2)
 ·rw [if_pos (by have := q.den_pos; omega)]
def allF (l : List Rat) : Bool := l.all fun x => decide (x ≠ 0)
theorem allF_any (l : List Rat) : allF l = !l.any fun x => decide (x = 0) := by
 unfold allF
 induction l with
 | nil => rfl
 | cons x l ih => rw [List.all_cons, List.any_cons, ih]; simp
def allFF (t : List (List Rat)) : Bool := t.all allF
theorem rats_flags {w : World} {v : Value} {l : List Rat} {k : Nat} (h : Rats (ERaw k) w v l) (hk : k <= 1000) : ∃ fl, fl.length = l.length /\ Rats EFlag w v fl := by
 obtain ⟨A, c, e, h1, h2, h3⟩ := h
 have key : ∀ i, i < l.length -> ∃ m : Rat, ∃ b off s A1 n1 c1 s' A2 n2 c2, A = some ⟨b, off, none⟩ /\ w.cell? ⟨b, off + i * 4, none⟩ = some (.bool s) /\ w.cell? ⟨b, off + i * 4 + 1, none⟩ = some (.slice A1 n1 c1) /\
  w.cell? ⟨b, off + i * 4 + 2, none⟩ = some (.bool s') /\ w.cell? ⟨b, off + i * 4 + 3, none⟩ = some (.slice A2 n2 c2) /\ EFlag w (.agg #[.bool s, .slice A1 n1 c1, .bool s', .slice A2 n2 c2]) m := fun i hi => by
  obtain ⟨b, off, s, A1, n1, c1, s', A2, n2, c2, hA, x1, x2, x3, x4, hE⟩ := h3 i _ (List.getElem?_eq_getElem hi)
  obtain ⟨m, hm⟩ := EFlag.of_raw hE hk
  exact ⟨m, b, off, s, A1, n1, c1, s', A2, n2, c2, hA, x1, x2, x3, x4, hm⟩
 obtain ⟨Q, hQ⟩ := Go.Deep.choose_lt (α := Rat) key
 refine ⟨(List.range l.length).map Q, by simp, A, c, by rw [e]; simp, by simpa using h1, h2, fun i q hi => ?_⟩
 have hin : i < l.length := by
  have := (List.getElem?_eq_some_iff.1 hi).1
  simpa using this
 have hq := hQ i hin
 simp [hin] at hi
 subst hi
 exact hq
theorem rats_own_flags {w : World} {v : Value} {l : List Rat} (h : Rats EOwn w v l) (hs : ∀ q ∈ l, Sized q 1000) : Rats EFlag w v (List.replicate l.length 1) := by
 obtain ⟨A, c, e, h1, h2, h3⟩ := h
 refine ⟨A, c, by simpa using e, by simpa using h1, h2, fun i q hi => ?_⟩
 rw [List.getElem?_replicate] at hi
 split at hi
 ·rename_i hin
  injection hi with hi; subst hi
  obtain ⟨b, off, s, A1, n1, c1, s', A2, n2, c2, hA, x1, x2, x3, x4, hE⟩ := h3 i _ (List.getElem?_eq_getElem hin)
  exact ⟨b, off, s, A1, n1, c1, s', A2, n2, c2, hA, x1, x2, x3, x4, EFlag.of_own hE (hs _ (List.getElem_mem _))⟩
 ·cases hi
set_option maxHeartbeats 1000000 in
theorem pall1_calls (w : World) (v : Value) (q : Rat) (h : EFlag w v q) : Calls Tryz.prog 148 #[v] w (RetV w (.bool (decide (q = 0)))) := by
 obtain ⟨sx, A1, n1, c1, sx', A2, n2, c2, y, rfl, hy, hq⟩ := h
 have HY := hide hy
 obtain ⟨u, hu⟩ : ∃ u, decide (0 < y) = u := ⟨_, rfl⟩
 have HQ : Hid (decide (q = 0) = !u) := hide (by rw [hq, <- hu]; by_cases h : 0 < y <;> simp [h])
 have HU := hide hu
 clear hy hq hu
 obtain ⟨W0, hW0⟩ : ∃ W0, W0 = w.alloc (Obj.cells #[Value.bool sx, Value.slice A1 n1 c1, Value.bool sx', Value.slice A2 n2 c2] 36) := ⟨_, rfl⟩
 obtain ⟨hb0, r1, hsz0⟩ := boxes1 w [.bool sx, .slice A1 n1 c1, .bool sx', .slice A2 n2 c2] 36 hW0
 have B0 := hide hb0; have HW0 := hide hW0
 obtain ⟨d1, d2, d3, d4, d5, d6, d7, d8⟩ := row_cells4 r1
 clear r1 hb0 hW0
 go_enter Tryz.func148, Tryz.ntmps148
 go_upto_region 1 with fail
 rw [<- HW0.out]
 go_wp2_with fail
 ((with_reducible refine (may_calls W0 sx _ undef A2 n2 c2 sx' y 1000 (HY.out.later B0.out) ⟨_, _, _, rfl⟩ (by omega)).mono ?_); rintro e w1 ⟨rfl, b1⟩; rw [HU.out])
 have HL := hide (B0.out.trans b1)
 clear b1
 go_wp2_with fail
 go_ret
 exact ⟨by rw [HQ.out]; rfl, HL.out⟩
set_option maxHeartbeats 2000000 in
theorem pall_calls (w : World) (v : Value) (t : List (List Rat)) (h : Tab EFlag w v t) (hl : t.length <= 1000000000) (hl2 : ∀ r ∈ t, r.length <= 1000000000) (u : Bool) (hu : allFF t = u) :
 Calls Tryz.prog 79 #[v] w (RetV w (.bool u)) := by
 have H := hide h; have HU := hide hu; have HL2 := hide hl2
 obtain ⟨A0, nt, ct, rfl, hnt, -, -, -⟩ := h.form
 have HNT := hide hnt
 have hn9 : nt <= 1000000000 := by omega
 clear h hnt hl hu hl2
 go_enter Tryz.func79, Tryz.ntmps79
 go_wp2_with fail
 go_loopw [7] (fun i wr => ∃ j : Nat, j <= nt /\ i = .int .i64 (j : Int) /\ Hid (∀ r ∈ t.take j, allF r = true) /\ Later w wr) (fun i _ => (nt - intOf i).toNat)
 case atStart => exact ⟨0, by omega, rfl, hide fun r hr => by simp at hr, Later.refl w⟩
 case round =>
  obtain ⟨j, hj, rfl, hpre, hL⟩ := hrel
  by_cases hjn : j < nt
  ·obtain ⟨row, hrow⟩ : ∃ row, t[j]? = some row := ⟨t[j]'(by have := HNT.out; omega), List.getElem?_eq_getElem _⟩
   obtain ⟨b1, off1, A1, n1, c1, rfl, x1, hr⟩ := (H.out.later EFlag.later hL).at_ hrow
   have HR := hide hr; have HROW := hide hrow
   obtain ⟨u1, hu1⟩ : ∃ u, row.any (fun x => decide (x = 0)) = u := ⟨_, rfl⟩
   have HU1 : Hid (allF row = !u1) := hide (by rw [<- hu1]; exact allF_any row)
   have HU2 := hide hu1
   have hj0 : (0 : Int) <= (j : Int) := by omega
   have hj1 : (j : Int) < nt := by omega
   clear hr hrow hu1
   go_wp2_with fail
   refine (contq_calls _ _ row EFlag EFlag.later HR.out (HL2.out row (List.mem_of_getElem? HROW.out)) _ ⟨fun _ _ => by kernel_rfl⟩ (fun x => decide (x = 0)) (fun W xv x _ hx _ => pall1_calls W xv x hx) u1 HU2.out).mono ?_
   rintro e w8 ⟨rfl, b8⟩
   have hL8 := hL.trans b8
   cases u1
   case false =>
    have HN : Hid (∀ r ∈ t.take (j + 1), allF r = true) := hide fun r hr => by
     rw [List.take_add_one, HROW.out] at hr
     rcases List.mem_append.1 hr with h | h
     ·exact hpre.out r h
     ·simp at h; rw [h, HU1.out]; rfl
    go_wp2_with fail
    exact ⟨⟨j+1, by omega, by go_num, HN, hL8⟩, by simp [intOf]; omega⟩
   case true =>
    have HF : Hid (u = false) := hide (by
     rw [<- HU.out]; unfold allFF; rw [List.all_eq_false]
     exact ⟨row, List.mem_of_getElem? HROW.out, by rw [HU1.out]; simp⟩)
    go_wp2_with fail
    go_ret
    exact ⟨by rw [HF.out]; rfl, hL8⟩
  ·obtain rfl : j = nt := by omega
   have HF : Hid (u = true) := hide (by
    rw [<- HU.out]; unfold allFF; rw [List.all_eq_true]
    intro r hr
    exact hpre.out r (by rw [HNT.out, List.take_length]; exact hr))
   go_wp2_with fail
   go_ret
   exact ⟨by rw [HF.out]; rfl, hL⟩
set_option maxHeartbeats 1000000 in
theorem pzero_calls (w : World) : Calls Tryz.prog 62 #[] w (Ret w fun w' v => OwnR w' w.heap.size v 0) := by
 go_enter Tryz.func62, Tryz.ntmps62
 go_wp2_with fail
 refine (rplain_calls _ _ 0 0 (rawR_zero _ 0) (by omega)).mono ?_
 rintro e w1 ⟨v1, rfl, o1, b1⟩
 obtain ⟨s1, P1, q1, e1, P1', q1', e1', rfl, o1⟩ := o1.open_; have O1 := hide o1; clear o1
 have hL := ((Later.refl w).alloc (Obj.cells #[.bool false, .slice none 0 0, .bool false, .slice none 0 0] 36)).trans b1
 have hrow := ((Row.new w 36 [.bool false, .slice none 0 0, .bool false, .slice none 0 0]).later b1)
 obtain ⟨c0, c1, c2, c3, f0, f1, f2, f3⟩ := row_cells4 hrow
 have HR := hide hrow
 clear hrow
 go_wp2_with fail
 refine bodyPost_ret (results_rat rfl rfl (HR.out.four _ _ _ _)) rfl ?_
 have oo := Only.four w.heap.size w1 (.bool s1) (.slice P1 q1 e1) (.bool false) (.slice P1' q1' e1')
 exact ⟨_, rfl, (O1.out.only oo (by simp)).weaken (by simp), hL.only oo (Nat.le_refl _)⟩
set_option maxHeartbeats 1000000 in
theorem pneg_calls (w : World) (v : Value) (q : Rat) (k : Nat) (h : RawR w v q k) (hk : k <= 1000000) : Calls Tryz.prog 84 #[v] w (RetV w (.bool (decide (q < 0)))) := by
 obtain ⟨sx, A1, n1, c1, sx', A2, n2, c2, rfl⟩ := h.open_
 have H := hide h
 obtain ⟨cz, hcz⟩ : ∃ cz, cmpQ q 0 = cz := ⟨_, rfl⟩
 have HD : Hid (decide (cz < 0) = decide (q < 0)) := hide (by rw [<- hcz]; unfold cmpQ; by_cases h : q < 0 <;> simp [h]; split <;> simp)
 have HCZ := hide hcz
 clear h hcz
 obtain ⟨W0, hW0⟩ : ∃ W0, W0 = w.alloc (Obj.cells #[Value.bool sx, Value.slice A1 n1 c1, Value.bool sx', Value.slice A2 n2 c2] 36) := ⟨_, rfl⟩
 obtain ⟨hb0, r1, hsz0⟩ := boxes1 w [.bool sx, .slice A1 n1 c1, .bool sx', .slice A2 n2 c2] 36 hW0
 have B0 := hide hb0; have HW0 := hide hW0
 have hr1 := r1.drew
 have HT1 : Hid (∀ w', Later W0.drew w' -> w'.cell? ⟨w.heap.size, 0, none⟩ = some (.bool sx) /\ w'.cell? ⟨w.heap.size, 1, none⟩ = some (.slice A1 n1 c1) /\ w'.cell? ⟨w.heap.size, 2, none⟩ = some (.bool sx') /\ w'.cell? ⟨w.heap.size, 3, none⟩ = some (.slice A2 n2 c2)) :=
  hide fun w' hb => ⟨(hr1.later hb).cell rfl, (hr1.later hb).cell rfl, (hr1.later hb).cell rfl, (hr1.later hb).cell rfl⟩
 clear r1 hb0 hW0 hr1
 go_enter Tryz.func84, Tryz.ntmps84
 go_upto_region 1 with fail
 rw [<- HW0.out]
 go_region_held3 (fun w' => w'.cell? ⟨w.heap.size, 0, none⟩ = some (.bool sx) /\ w'.cell? ⟨w.heap.size, 1, none⟩ = some (.slice A1 n1 c1) /\ w'.cell? ⟨w.heap.size, 2, none⟩ = some (.bool sx') /\ w'.cell? ⟨w.heap.size, 3, none⟩ = some (.slice A2 n2 c2))
  (first | exact HT1.out _ (Later.refl _) | exact HT1.out _ b1 | exact HT1.out _ (b1.trans b2))
  (first
   | ((with_reducible refine (pzero_calls _).mono ?_); rintro e w1 ⟨v1, rfl, o1, b1⟩; obtain ⟨s1, P1, q1, e1, P1', q1', e1', rfl, o1⟩ := o1.open_; have O1 := hide o1; clear o1)
   | ((with_reducible refine (rcmp_calls _ _ _ q 0 k 1 (RawR.later H.out (B0.out.drew.trans b1)) (OwnR.raw O1.out sized_0) (by omega)).mono ?_); rintro e w2 ⟨rfl, b2⟩; rw [HCZ.out]))
 all_goals
  have HL := hide (B0.out.drew.trans (b1.trans b2))
  clear b1 b2
  go_wp2_with fail
  go_ret
  exact ⟨by simp [HD.out], HL.out⟩
def rightB (A : List (List Rat)) (B C : List Rat) (ok : Bool) : Bool :=
 decide (A.length <= 64) && (decide (C.length <= 80) && (decide (B.length = A.length) && (rectB A C.length && (ok && !B.any (fun x => decide (x < 0))))))
set_option maxHeartbeats 4000000 in
theorem right_calls (w : World) (vA vB vC : Value) (A fA : List (List Rat)) (B C fB fC : List Rat) (k : Nat) (ha : Tab (ERaw k) w vA A) (hb : Rats (ERaw k) w vB B) (hc : Rats (ERaw k) w vC C)
 (ga : Tab EFlag w vA fA) (gb : Rats EFlag w vB fB) (gc : Rats EFlag w vC fC) (hk : k <= 1000000) (hl : ∀ r ∈ A, r.length <= 1000000000) (hl2 : ∀ r ∈ fA, r.length <= 1000000000) (hA9 : A.length <= 1000000000) (hB9 : B.length <= 1000000000) (hC9 : C.length <= 1000000000) :
 Calls Tryz.prog 23 #[.agg #[vA, vB, vC]] w (RetV w (.bool (rightB A B C (allFF fA && (allF fB && allF fC))))) := by
 have HA := hide ha; have HB := hide hb; have HC := hide hc; have GA := hide ga; have GB := hide gb; have GC := hide gc; have HL := hide hl; have HL2 := hide hl2
 obtain ⟨A1, n1, c1, rfl, hn1, -, -, -⟩ := ha.form
 obtain ⟨A2, n2, c2, rfl, hn2, -⟩ := hb.form
 obtain ⟨A3, n3, c3, rfl, hn3, -⟩ := hc.form
 have hf1 : n1 = fA.length := by obtain ⟨_, _, _, e, e2, -, -, -⟩ := ga.form; injection e with _ e _; rw [e, e2]
 have hf2 : n2 = fB.length := gb.len_
 have hf3 : n3 = fC.length := gc.len_
 have HN1 := hide hn1; have HN2 := hide hn2; have HN3 := hide hn3; have HF1 := hide hf1; have HF2 := hide hf2; have HF3 := hide hf3
 have k1 : n1 <= 1000000000 := by omega
 have k2 : n2 <= 1000000000 := by omega
 have k3 : n3 <= 1000000000 := by omega
 clear ha hb hc ga gb gc hl hl2 hn1 hn2 hn3 hf1 hf2 hf3 hA9 hB9 hC9
 obtain ⟨W0, hW0⟩ : ∃ W0, W0 = w.alloc (Obj.cells #[Value.slice A1 n1 c1, Value.slice A2 n2 c2, Value.slice A3 n3 c3] 31) := ⟨_, rfl⟩
 obtain ⟨hb0, r1, hsz0⟩ := boxes1 w [.slice A1 n1 c1, .slice A2 n2 c2, .slice A3 n3 c3] 31 hW0
 have B0 := hide hb0; have HW0 := hide hW0; have R1 := hide r1
 have d1 := r1.cell (i := 0) rfl; have d2 := r1.cell (i := 1) rfl; have d3 := r1.cell (i := 2) rfl
 clear r1 hb0 hW0 hsz0
 go_enter Tryz.func23, Tryz.ntmps23
 go_upto_region 1 with fail
 rw [<- HW0.out]
 by_cases h1 : 64 < n1
 ·have t1 : decide ((64 : Int) < (n1 : Int)) = true := by simp; omega
  have HF : Hid (rightB A B C (allFF fA && (allF fB && allF fC)) = false) := hide (by unfold rightB; rw [<- HN1.out]; simp [h1]; intro h; omega)
  go_wp2_with fail
  go_ret
  exact ⟨by rw [HF.out]; rfl, B0.out⟩
 have t1 : decide ((64 : Int) < (n1 : Int)) = false := by simp; omega
 by_cases h2 : 80 < n3
 ·have t2 : decide ((80 : Int) < (n3 : Int)) = true := by simp; omega
  have HF : Hid (rightB A B C (allFF fA && (allF fB && allF fC)) = false) := hide (by unfold rightB; rw [<- HN3.out, show decide (n3 <= 80) = false by simp; omega]; simp)
  go_wp2_with fail
  go_ret
  exact ⟨by rw [HF.out]; rfl, B0.out⟩
 have t2 : decide ((80 : Int) < (n3 : Int)) = false := by simp; omega
 by_cases h3 : n2 = n1
 rotate_left
 ·have t3 : ((n2 : Int) != (n1 : Int)) = true := by rw [bne_iff_ne]; omega
  have HF : Hid (rightB A B C (allFF fA && (allF fB && allF fC)) = false) := hide (by unfold rightB; rw [<- HN1.out, <- HN2.out]; simp [h3])
  go_wp2_with fail
  go_ret
  exact ⟨by rw [HF.out]; rfl, B0.out⟩
 have t3 : ((n2 : Int) != (n1 : Int)) = false := by rw [h3]; simp
 have HR0 : Hid (rightB A B C (allFF fA && (allF fB && allF fC)) = (rectB A n3 && (allFF fA && (allF fB && allF fC) && !B.any (fun x => decide (x < 0))))) := hide (by
  unfold rightB
  rw [<- HN1.out, <- HN2.out, <- HN3.out, show decide (n1 <= 64) = true by simp; omega, show decide (n3 <= 80) = true by simp; omega, show decide (n2 = n1) = true by simp [h3]]
  rfl)
 have H3 := hide h3
 clear h1 h2 h3
 go_wp2_with fail
 obtain ⟨u1, hu1⟩ : ∃ u, rectB A n3 = u := ⟨_, rfl⟩
 have HU1 := hide hu1
 clear hu1
 ((with_reducible refine (rect_calls W0 _ A (ERaw k) ERaw.later (HA.out.later ERaw.later B0.out) n3 (by rw [<- HN1.out]; omega) HL.out u1 HU1.out).mono ?_); rintro e w1 ⟨rfl, b1⟩)
 have hr1 := R1.out.later b1
 have d1 := hr1.cell (i := 0) rfl; have d2 := hr1.cell (i := 1) rfl; have d3 := hr1.cell (i := 2) rfl
 have HL1 := hide (B0.out.trans b1); have R11 := hide hr1
 clear b1 hr1
 cases u1 with
 | false =>
   go_wp2_with fail
   go_ret
   exact ⟨by rw [HR0.out, HU1.out]; rfl, HL1.out⟩
 | true =>
 go_wp2_with fail
 obtain ⟨u2, hu2⟩ : ∃ u, allFF fA = u := ⟨_, rfl⟩
 have HU2 := hide hu2
 clear hu2
 ((with_reducible refine (pall_calls w1 _ fA (GA.out.later EFlag.later HL1.out) (by rw [<- HF1.out]; omega) HL2.out u2 HU2.out).mono ?_); rintro e w2 ⟨rfl, b2⟩)
 have hr1 := R11.out.later b2
 have d1 := hr1.cell (i := 0) rfl; have d2 := hr1.cell (i := 1) rfl; have d3 := hr1.cell (i := 2) rfl
 have HL2' := hide (HL1.out.trans b2); have R12 := hide hr1
 clear b2 hr1
 cases u2 with
 | false =>
   go_wp2_with fail
   go_ret
   exact ⟨by rw [HR0.out, HU1.out, HU2.out]; rfl, HL2'.out⟩
 | true =>
 go_wp2_with fail
 obtain ⟨W3, hW3⟩ : ∃ W3, W3 = w2.alloc (Obj.cells #[Value.slice A2 n2 c2, Value.slice A3 n3 c3] 22) := ⟨_, rfl⟩
 have hb3 : Later w2 W3 := by rw [hW3]; exact (Later.refl _).alloc _
 have hr3 : Row W3 w2.heap.size 22 [.slice A2 n2 c2, .slice A3 n3 c3] := by rw [hW3]; exact Row.new _ _ _
 rw [<- hW3]
 have HL3 := hide (HL2'.out.trans hb3)
 have HT3 : Hid (Tab EFlag W3 (.slice (some ⟨w2.heap.size, 0, none⟩) 2 2) [fB, fC]) := hide (tab_two hr3 (GB.out.later EFlag.later HL3.out) (GC.out.later EFlag.later HL3.out))
 have R13 := hide (R12.out.later hb3)
 clear hW3 hb3 hr3 d1 d2 d3
 obtain ⟨u3, hu3⟩ : ∃ u, allFF [fB, fC] = u := ⟨_, rfl⟩
 have HU3 : Hid ((allF fB && allF fC) = u3) := hide (by rw [<- hu3]; simp [allFF])
 have HU3' := hide hu3
 clear hu3
 ((with_reducible refine (pall_calls W3 _ [fB, fC] HT3.out (by simp) (fun r hr => by simp at hr; rcases hr with rfl | rfl <;> first | (rw [<- HF2.out]; omega) | (rw [<- HF3.out]; omega)) u3 HU3'.out).mono ?_); rintro e w4 ⟨rfl, b4⟩)
 have hr1 := R13.out.later b4
 have d1 := hr1.cell (i := 0) rfl; have d2 := hr1.cell (i := 1) rfl; have d3 := hr1.cell (i := 2) rfl
 have HL4 := hide (HL3.out.trans b4); have R14 := hide hr1
 clear b4 hr1
 cases u3 with
 | false =>
   go_wp2_with fail
   go_ret
   exact ⟨by rw [HR0.out, HU1.out, HU2.out, HU3.out]; rfl, HL4.out⟩
 | true =>
 go_wp2_with fail
 obtain ⟨u4, hu4⟩ : ∃ u, B.any (fun x => decide (x < 0)) = u := ⟨_, rfl⟩
 have HU4 := hide hu4
 clear hu4
 refine (contq_calls _ _ B (ERaw k) ERaw.later (HB.out.later ERaw.later HL4.out) (by rw [<- HN2.out]; omega) _ ⟨fun _ _ => by kernel_rfl⟩ (fun x => decide (x < 0)) (fun W xv x _ hx _ => pneg_calls W xv x k hx hk) u4 HU4.out).mono ?_
 rintro e w5 ⟨rfl, b5⟩
 have HL5 := hide (HL4.out.trans b5)
 clear b5
 go_wp2_with fail
 go_ret
 exact ⟨by rw [HR0.out, HU1.out, HU2.out, HU3.out, HU4.out]; rfl, HL5.out⟩
end Go.Proofs.YtfokplidiboabaaGreat
namespace Go.Proofs.YtfokplidiboabaaGreat
open Go.RowKit Go.Shelf
attribute [local go_sem ↓] Go.wp_at_zero Go.wp_at_succ
theorem cmp0_lt {q : Rat} {cz : Int} (h : cmpQ q 0 = cz) : decide (cz < 0) = decide (q < 0) := by
 subst h; unfold cmpQ
 by_cases h : q < 0
 ·simp [h]
 ·rw [if_neg h]; split <;> simp [h]
set_option maxHeartbeats 2000000 in
theorem rof1_calls (w : World) (n : Int) (h1 : -9223372036854775808 <= n) (h2 : n < 9223372036854775808) (q : Rat) (hq : Rat.divInt n 1 = q) :
 Calls Tryz.prog 137 #[.int .i64 n, .int .i64 1] w (Ret2 w fun w' v o => OwnR w' w.heap.size v q /\ o = .bool true) := by
 have HQ := hide hq
 clear hq
 go_enter Tryz.func137, Tryz.ntmps137
 go_upto_region 1 with fail
 obtain ⟨W0, hW0⟩ : ∃ W0, W0 = w.alloc (Obj.cells #[Value.bool false, Value.slice none 0 0, Value.bool false, Value.slice none 0 0] 36) := ⟨_, rfl⟩
 obtain ⟨hb0, r1, hsz0⟩ := boxes1 w [.bool false, .slice none 0 0, .bool false, .slice none 0 0] 36 hW0
 have R1 := hide r1; have B0' := hide hb0; have HW0 := hide hW0
 clear r1 hb0 hW0
 rw [<- HW0.out]
 go_wp2_with fail
 ((with_reducible refine (wof_calls W0 n h1 h2).mono ?_); rintro e w1 ⟨v1, rfl, o1, b1⟩)
 obtain ⟨s1, P1, q1, e1, rfl, o1⟩ := o1.open_; have O1 := hide o1; clear o1
 have HB1 := hide b1
 clear b1
 go_wp2_with fail
 ((with_reducible refine (wof_calls w1 1 (by omega) (by omega)).mono ?_); rintro e w2 ⟨v2, rfl, o2, b2⟩)
 obtain ⟨s2, P2, q2, e2, rfl, o2⟩ := o2.open_; have O2 := hide o2; clear o2
 have HB2 := hide b2
 clear b2
 have hk1 : (limbs n.natAbs).length <= 3 := length_limbs_le (by omega)
 have hk2 : (limbs (1 : Int).natAbs).length <= 3 := length_limbs_le (by omega)
 have K1 := hide hk1; have K2 := hide hk2
 clear hk1 hk2
 go_wp2_with fail
 ((with_reducible refine (by_calls w2 _ _ n 1 3 (RawI.later (OwnI.raw O1.out K1.out) HB2.out) (OwnI.raw O2.out K2.out) (by omega) (by omega) q HQ.out.symm).mono ?_); rintro e w3 ⟨v3, rfl, o3, b3⟩)
 obtain ⟨s3, P3, q3, e3, P3', q3', e3', rfl, o3⟩ := o3.open_; have O3 := hide o3; clear o3
 have hL := HB1.out.trans (HB2.out.trans b3)
 have hrow := R1.out.later hL
 have hsz := hL.size
 obtain ⟨d1, d2, d3, d4, d5, d6, d7, d8⟩ := row_cells4 hrow
 have HR := hide hrow; have HL := hide (B0'.out.trans hL)
 have hs : w.heap.size < W0.heap.size := R1.out.lt
 have hs2 := HB1.out.size; have hs3 := HB2.out.size
 clear hrow b3 hL
 go_wp2_with fail
 refine bodyPost_ret (results_rat_bool rfl rfl rfl (HR.out.four _ _ _ _)) rfl ?_
 have oo := Only.four w.heap.size w3 (.bool s3) (.slice P3 q3 e3) (.bool false) (.slice P3' q3' e3')
 exact ⟨_, _, rfl, ⟨(O3.out.only oo (by omega)).weaken (by omega), rfl⟩, HL.out.only oo (Nat.le_refl _)⟩
def StdIn (w : World) (vA vB vC : Value) (k : Nat) (A : List (List Rat)) (B C : List Rat) (ok : Bool) : Prop :=
 ∃ fA fB fC, Tab (ERaw k) w vA A /\ Rats (ERaw k) w vB B /\ Rats (ERaw k) w vC C /\ Tab EFlag w vA fA /\ Rats EFlag w vB fB /\ Rats EFlag w vC fC /\ ok = (allFF fA && (allF fB && allF fC)) /\
   k <= 1000 /\ (∀ r ∈ A, r.length <= 1000) /\ (∀ r ∈ fA, r.length <= 1000) /\ A.length <= 1000 /\ B.length <= 1000 /\ C.length <= 1000
section
variable {w w' : World} {vA vB vC : Value} {k : Nat} {A : List (List Rat)} {B C : List Rat} {ok : Bool}
theorem StdIn.later (h : StdIn w vA vB vC k A B C ok) (hb : Later w w') : StdIn w' vA vB vC k A B C ok := by
 obtain ⟨fA, fB, fC, h1, h2, h3, h4, h5, h6, h7⟩ := h
 exact ⟨fA, fB, fC, h1.later ERaw.later hb, h2.later ERaw.later hb, h3.later ERaw.later hb, h4.later EFlag.later hb, h5.later EFlag.later hb, h6.later EFlag.later hb, h7⟩
theorem StdIn.form (h : StdIn w vA vB vC k A B C ok) : ∃ A1 n1 c1 A2 n2 c2 A3 n3 c3, vA = .slice A1 n1 c1 /\ vB = .slice A2 n2 c2 /\ vC = .slice A3 n3 c3 /\ n1 = A.length /\ n2 = B.length /\ n3 = C.length := by
 obtain ⟨fA, fB, fC, h1, h2, h3, -⟩ := h
 obtain ⟨A1, n1, c1, rfl, e1, -⟩ := h1.form
 obtain ⟨A2, n2, c2, rfl, e2, -⟩ := h2.form
 obtain ⟨A3, n3, c3, rfl, e3, -⟩ := h3.form
 exact ⟨_, _, _, _, _, _, _, _, _, rfl, rfl, rfl, e1, e2, e3⟩
theorem StdIn.tab (h : StdIn w vA vB vC k A B C ok) : Tab (ERaw k) w vA A := by obtain ⟨fA, fB, fC, h1, -⟩ := h; exact h1
theorem StdIn.b (h : StdIn w vA vB vC k A B C ok) : Rats (ERaw k) w vB B := by obtain ⟨fA, fB, fC, -, h1, -⟩ := h; exact h1
theorem StdIn.c (h : StdIn w vA vB vC k A B C ok) : Rats (ERaw k) w vC C := by obtain ⟨fA, fB, fC, -, -, h1, -⟩ := h; exact h1
theorem right_std (h : StdIn w vA vB vC k A B C ok) : Calls Tryz.prog 23 #[.agg #[vA, vB, vC]] w (RetV w (.bool (rightB A B C ok))) := by
 obtain ⟨fA, fB, fC, h1, h2, h3, h4, h5, h6, rfl, h7, h8, h9, h10, h11, h12⟩ := h
 exact right_calls w vA vB vC A fA B C fB fC k h1 h2 h3 h4 h5 h6 (by omega) (fun r hr => by have := h8 r hr; omega) (fun r hr => by have := h9 r hr; omega) (by omega) (by omega) (by omega)
theorem rightB_facts (h : rightB A B C ok = true) : A.length <= 64 /\ C.length <= 80 /\ B.length = A.length /\ (∀ r ∈ A, r.length = C.length) /\ ok = true /\ ∀ x ∈ B, ¬ x < 0 := by
 unfold rightB rectB at h
 simp only [Bool.and_eq_true, decide_eq_true_eq, List.all_eq_true, Bool.not_eq_true', List.any_eq_false] at h
 obtain ⟨h1, h2, h3, h4, h5, h6⟩ := h
 exact ⟨h1, h2, h3, h4, h5, fun x hx => by simpa using h6 x hx⟩
end
end Go.Proofs.YtfokplidiboabaaGreat
namespace Go.Proofs.YtfokplidiboabaaGreat
open Go.RowKit Go.Shelf
attribute [local go_sem ↓] Go.wp_at_zero Go.wp_at_succ
theorem sized_dotL {a b : List Rat} {k m : Nat} (ha : ∀ q ∈ a, Sized q k) (hb : ∀ q ∈ b, Sized q m) : Sized (dotL a b) (a.length * (k + m + 1) + 1) := by
 refine (sized_sumR (sized_zip ha hb)).mono ?_
 rw [List.length_zipWith]
 exact Nat.add_le_add_right (Nat.mul_le_mul_right _ (Nat.min_le_left _ _)) _
end Go.Proofs.YtfokplidiboabaaGreat
namespace Go.Proofs.YtfokplidiboabaaGreat
open Go.RowKit Go.Shelf
attribute [local go_sem ↓] Go.wp_at_zero Go.wp_at_succ
theorem tab_one {E : Elem} {w : World} {g : Nat} {A : Option Addr} {n c : Nat} {p : List Rat} (hr : Row w g 22 [.slice A n c]) (h : Rats E w (.slice A n c) p) : Tab E w (.slice (some ⟨g, 0, none⟩) 1 1) [p] := by
 refine ⟨_, 1, rfl, Nat.le_refl _, by decide, fun i row hi => ?_⟩
 match i, hi with
 | 0, hi =>
   simp at hi; subst hi
   exact ⟨g, 0, A, n, c, rfl, hr.cell rfl, h⟩
 | i + 1, hi => simp at hi
end Go.Proofs.YtfokplidiboabaaGreat
namespace Go.Proofs.YtfokplidiboabaaGreat
open Go.RowKit Go.Shelf
attribute [local go_sem ↓] Go.wp_at_zero Go.wp_at_succ
def ZRow (w : World) (lo g n j : Nat) : Prop := ∃ cs, Row w g 36 cs /\ cs.length = n * 4 /\ lo <= g /\ ∀ i, i < j -> ∃ s A m c A' m' c', cs[i * 4]? = some (.bool s) /\ cs[i * 4 + 1]? = some (.slice A m c) /\ cs[i * 4 + 2]? = some (.bool false) /\ cs[i * 4 + 3]? = some (.slice A' m' c') /\ On w (fun b => lo <= b /\ b ≠ g) (fun W => OwnR W 0 (.agg #[.bool s, .slice A m c, .bool false, .slice A' m' c']) 0)
theorem ZRow.later {w w' : World} {lo g n j : Nat} (h : ZRow w lo g n j) (hb : Later w w') : ZRow w' lo g n j := by
 obtain ⟨cs, h1, h2, h3, h4⟩ := h
 refine ⟨cs, h1.later hb, h2, h3, fun i hi => ?_⟩
 obtain ⟨s, A, m, c, A', m', c', x1, x2, x3, x4, ho⟩ := h4 i hi
 exact ⟨s, A, m, c, A', m', c', x1, x2, x3, x4, ho.later hb⟩
theorem ZRow.put {w : World} {lo g n j a : Nat} {s : Bool} {A A' : Option Addr} {m c m' c' : Nat} (h : ZRow w lo g n j) (hj : j < n) (ha : a = j * 4) (ho : On w (fun b => lo <= b /\ b ≠ g) (fun W => OwnR W 0 (.agg #[.bool s, .slice A m c, .bool false, .slice A' m' c']) 0)) :
 ZRow ((((w.setCell ⟨g, a, none⟩ (.bool s)).setCell ⟨g, a + 1, none⟩ (.slice A m c)).setCell ⟨g, a + 2, none⟩ (.bool false)).setCell ⟨g, a + 3, none⟩ (.slice A' m' c')) lo g n (j + 1) := by
 obtain ⟨cs, h1, h2, h3, h4⟩ := h
 subst ha
 have oo : Only g w ((((w.setCell ⟨g, j * 4, none⟩ (.bool s)).setCell ⟨g, j * 4 + 1, none⟩ (.slice A m c)).setCell ⟨g, j * 4 + 2, none⟩ (.bool false)).setCell ⟨g, j * 4 + 3, none⟩ (.slice A' m' c')) := (((Only.one g w _ _).set _ _).set _ _).set _ _
 refine ⟨_, (((h1.set_ _ (.bool s)).set_ _ (.slice A m c)).set_ _ (.bool false)).set_ _ (.slice A' m' c'), by simp [h2], h3, fun i hi => ?_⟩
 by_cases hij : i = j
 ·subst hij
  refine ⟨s, A, m, c, A', m', c', ?_, ?_, ?_, ?_, ho.only oo (fun h => h.2 rfl)⟩
  ·rw [List.getElem?_set_ne (by omega), List.getElem?_set_ne (by omega), List.getElem?_set_ne (by omega), List.getElem?_set_self (by omega)]
  ·rw [List.getElem?_set_ne (by omega), List.getElem?_set_ne (by omega), List.getElem?_set_self (by simp; omega)]
  ·rw [List.getElem?_set_ne (by omega), List.getElem?_set_self (by simp; omega)]
  ·rw [List.getElem?_set_self (by simp; omega)]
 ·obtain ⟨t, B, k, d, B', k', d', x1, x2, x3, x4, hx⟩ := h4 i (by omega)
  refine ⟨t, B, k, d, B', k', d', ?_, ?_, ?_, ?_, hx.only oo (fun h => h.2 rfl)⟩
  ·rw [List.getElem?_set_ne (by omega), List.getElem?_set_ne (by omega), List.getElem?_set_ne (by omega), List.getElem?_set_ne (by omega)]; exact x1
  ·rw [List.getElem?_set_ne (by omega), List.getElem?_set_ne (by omega), List.getElem?_set_ne (by omega), List.getElem?_set_ne (by omega)]; exact x2
  ·rw [List.getElem?_set_ne (by omega), List.getElem?_set_ne (by omega), List.getElem?_set_ne (by omega), List.getElem?_set_ne (by omega)]; exact x3
  ·rw [List.getElem?_set_ne (by omega), List.getElem?_set_ne (by omega), List.getElem?_set_ne (by omega), List.getElem?_set_ne (by omega)]; exact x4
theorem ZRow.rats {w : World} {lo g n : Nat} (h : ZRow w lo g n n) (hm : n <= maxLen) : OwnRats w lo (.slice (some ⟨g, 0, none⟩) n n) (List.replicate n 0) := by
 obtain ⟨cs, h1, h2, h3, h4⟩ := h
 have key : ∀ i : Nat, ∃ d : Bool × (Option Addr × Nat × Nat) × (Option Addr × Nat × Nat), i < n -> cs[i * 4]? = some (.bool d.1) /\ cs[i * 4 + 1]? = some (.slice d.2.1.1 d.2.1.2.1 d.2.1.2.2) /\ cs[i * 4 + 2]? = some (.bool false) /\ cs[i * 4 + 3]? = some (.slice d.2.2.1 d.2.2.2.1 d.2.2.2.2) /\
  On w (fun b => lo <= b /\ b ≠ g) (fun W => OwnR W 0 (.agg #[.bool d.1, .slice d.2.1.1 d.2.1.2.1 d.2.1.2.2, .bool false, .slice d.2.2.1 d.2.2.2.1 d.2.2.2.2]) 0) := fun i => by
  by_cases hi : i < n
  ·obtain ⟨s, A, m, c, A', m', c', x1, x2, x3, x4, ho⟩ := h4 i hi
   exact ⟨(s, (A, m, c), (A', m', c')), fun _ => ⟨x1, x2, x3, x4, ho⟩⟩
  ·exact ⟨(false, (none, 0, 0), (none, 0, 0)), fun h => absurd h hi⟩
 obtain ⟨d, hd⟩ := Classical.axiomOfChoice key
 have hl : On w (fun b => lo <= b) (fun W => ∀ i x, i < n -> some (d i) = some x -> OwnR W 0 (.agg #[.bool x.1, .slice x.2.1.1 x.2.1.2.1 x.2.1.2.2, .bool false, .slice x.2.2.1 x.2.2.2.1 x.2.2.2.2]) 0) :=
  On.list_ (T := fun i x W => OwnR W 0 (.agg #[.bool x.1, .slice x.2.1.1 x.2.1.2.1 x.2.1.2.2, .bool false, .slice x.2.2.1 x.2.2.2.1 x.2.2.2.2]) 0) n (fun i => some (d i)) (fun i x hi hx => by
   injection hx with hx; subst hx
   exact (hd i hi).2.2.2.2.mono (fun b hb _ => hb.1))
 have hr : On w (fun b => lo <= b) (fun W => Row W g 36 cs) := On.of_row h1 h3 (fun _ h => h)
 refine (hr.and hl).map fun W hW => ?_
 obtain ⟨hr, ho⟩ := hW
 refine ⟨some ⟨g, 0, none⟩, n, by simp, by simp, hm, fun i q hi => ?_⟩
 rw [List.getElem?_replicate] at hi
 split at hi
 ·rename_i hin
  injection hi with hi; subst hi
  obtain ⟨x1, x2, x3, x4, -⟩ := hd i hin
  exact ⟨g, 0, (d i).1, _, _, _, false, _, _, _, rfl, hr.cell (by simpa using x1), hr.cell (by simpa using x2), hr.cell (by simpa using x3), hr.cell (by simpa using x4), ho i (d i) hin rfl⟩
 ·cases hi
end Go.Proofs.YtfokplidiboabaaGreat
namespace Go.Proofs.YtfokplidiboabaaGreat
open Go.RowKit Go.Shelf
attribute [local go_sem ↓] Go.wp_at_zero Go.wp_at_succ
theorem wp_make_rats_ {w : World} {o : Oper} {a : Act} {K : Act -> World -> Prop} {Q : Exit -> Act -> World -> Prop}
 (l : Operand) (hop : o.op = Op.makeSlice 22 l l) (L : Int) (n : Nat) (hl : a.eval l = .int .i64 L) (hL : L = (n : Int)) (b2 : n <= 1000000000)
 (h : ∀ w', Rats (ERaw 1) w' (.slice (some ⟨w.heap.size, 0, none⟩) n n) (List.replicate n 0) -> Later w w' -> K (a.put o.dst (.slice (some ⟨w.heap.size, 0, none⟩) n n)) w') : o.wp Tryz.prog a w K Q := by
 obtain ⟨i, hi, hz, hs, hb⟩ := info_parts info_rat
 obtain ⟨w', hrun, r1, r2⟩ := run_make_full (P := Tryz.prog) w w.heap.size 22 36 i (.agg #[.bool false, .slice none 0 0, .bool false, .slice none 0 0]) 4 Tryz.underlying22 hi hz hs .i64 .i64 n (by rw [hb]; omega) (by unfold maxLen; omega) (Nat.le_refl _)
 subst hL
 unfold Oper.wp
 simp [execOp, hop, hl, hrun, Result.andThen]
 refine h w' ?_ (Later.grown (Later.refl w) r2 (fun k hk => by cases hk))
 have hout : OutRats (ERaw 1) w' (fun _ => False) w.heap.size (.slice (some ⟨w.heap.size, 0, none⟩) n n) (List.replicate n 0) := by
  refine ⟨List.replicate n (false, .slice none 0 0, false, .slice none 0 0), by simp, ?_, ?_, ?_⟩
  ·rw [List.length_replicate, <- made_flat]; exact r1
  ·intro e he
   rw [List.mem_replicate] at he
   obtain ⟨-, rfl⟩ := he
   exact ⟨⟨_, _, _, rfl⟩, ⟨_, _, _, rfl⟩⟩
  ·refine On.pure fun W i e q he hq => ?_
   rw [List.getElem?_replicate] at he hq
   split at he
   ·rename_i hin
    rw [if_pos hin] at hq
    injection he with he; injection hq with hq
    subst he hq
    exact raw_zero W
   ·cases he
 exact hout.rats.now
theorem dot_bound {n k m : Nat} (hn : n <= 1000) (hk : k <= 1000) (hm : m <= 1000) : (n + 1) * (k + m + 4) <= 50000000 := by
 have h4 : (n + 1) * (k + m + 4) <= 1001 * 2004 := Nat.mul_le_mul (by omega) (by omega)
 omega
theorem dot_bound2 {n k m : Nat} (hn : n <= 1000) (hk : k <= 1000) (hm : m <= 1000) : n * (k + 1 + (m + 1) + 1) + 1 <= 3100000 := by
 have h4 : n * (k + 1 + (m + 1) + 1) <= 1000 * 2003 := Nat.mul_le_mul (by omega) (by omega)
 omega
end Go.Proofs.YtfokplidiboabaaGreat
namespace Go.Proofs.YtfokplidiboabaaGreat
open Go.RowKit Go.Shelf
attribute [local go_sem ↓] Go.wp_at_zero Go.wp_at_succ
def dotD (a b : List Rat) : Rat := if a.length = b.length then dotL a b else 0
theorem dotd_calls (w : World) (va vb : Value) (a b : List Rat) (k m : Nat) (ha : Rats (ERaw k) w va a) (hb : Rats (ERaw m) w vb b) (hsz : (a.length + 1) * (k + m + 4) <= 50000000) :
 Calls Tryz.prog 71 #[va, vb] w (Ret2 w fun w' v o => OwnR w' w.heap.size v (dotD a b) /\ o = .bool (decide (a.length = b.length))) := by
 by_cases h : a.length = b.length
 ·unfold dotD; rw [if_pos h, show decide (a.length = b.length) = true by simpa using h]
  exact dot_calls w va vb a b k m ha hb h hsz
 ·unfold dotD; rw [if_neg h, show decide (a.length = b.length) = false by simpa using h]
  exact dot_ne w va vb a b (ERaw k) (ERaw m) ha hb h
end Go.Proofs.YtfokplidiboabaaGreat
