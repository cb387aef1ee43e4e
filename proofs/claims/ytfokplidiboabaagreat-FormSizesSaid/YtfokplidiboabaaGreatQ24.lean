/- Problems: of, Same, Few (the laws, the reference). -/
import Derived.Test.YtfokplidiboabaaGreatQ22
import Derived.Test.YtfokplidiboabaaGreatQ23
import Derived.Test.YtfokplidiboabaaGreatQ16
import Derived.Test.YtfokplidiboabaaGreatQ14
import Derived.Test.YtfokplidiboabaaGreatQ13
set_option linter.unusedVariables false
set_option linter.unusedSimpArgs false
set_option maxRecDepth 100000
namespace Go.Proofs.YtfokplidiboabaaGreat
open Go.RowKit Go.Shelf
attribute [local go_sem ↓] Go.wp_at_zero Go.wp_at_succ

set_option maxHeartbeats 1000000 in
theorem of11_calls (w : World) (n : Int) (h1 : -9223372036854775808 ≤ n) (h2 : n < 9223372036854775808) (q : Rat) (hq : Rat.divInt n 1 = q) :
    Calls Tryz.prog 35 #[.int .i64 n] w (Ret w fun w' v => OwnR w' w.heap.size v q) := by
  obtain ⟨W0, hW0⟩ : ∃ W0, W0 = w.alloc (Obj.cells #[Value.bool false, Value.slice none 0 0, Value.bool false, Value.slice none 0 0] 36) := ⟨_, rfl⟩
  obtain ⟨hb0, r1, hsz0⟩ := boxes1 w [.bool false, .slice none 0 0, .bool false, .slice none 0 0] 36 hW0
  have R1 := hide r1; have B0' := hide hb0; have HW0 := hide hW0
  clear r1 hb0 hW0
  go_enter Tryz.func35, Tryz.ntmps35
  go_wp2_with fail
  rw [← HW0.out]
  refine (lawof_calls _ n h1 h2 q hq).mono ?_
  rintro e w1 ⟨v1, rfl, o1, b1⟩
  obtain ⟨s1, P1, q1, e1, P1', q1', e1', rfl, o1⟩ := o1.open_; have O1 := hide o1; clear o1
  have HR := hide (R1.out.later b1)
  have hL := hide (B0'.out.trans b1)
  have hs1 := b1.size
  have hs : w.heap.size < W0.heap.size := R1.out.lt
  obtain ⟨d1, d2, d3, d4, d5, d6, d7, d8⟩ := row_cells4 HR.out
  go_wp2_with fail
  refine bodyPost_ret (results_rat rfl rfl (HR.out.four _ _ _ _)) rfl ?_
  have oo := Only.four w.heap.size w1 (.bool s1) (.slice P1 q1 e1) (.bool false) (.slice P1' q1' e1')
  exact ⟨_, rfl, (O1.out.only oo (by omega)).weaken (by omega), hL.out.only oo (Nat.le_refl _)⟩

theorem tab_own_flags2 {w : World} {v : Value} {t : List (List Rat)} (h : Tab EOwn w v t) (hs : ∀ r ∈ t, ∀ q ∈ r, Sized q 1000) : Tab EFlag w v (t.map fun r => List.replicate r.length 1) := tab_own_flags h hs
/-- numbers of one's own read as a standard form -/
theorem std_ownk {w : World} {vA vB vC : Value} {A : List (List Rat)} {B C : List Rat} {k : Nat} (hk : k ≤ 1000) (ha : Tab EOwn w vA A) (hb : Rats EOwn w vB B) (hc : Rats EOwn w vC C)
    (s1 : ∀ r ∈ A, ∀ q ∈ r, Sized q k) (s2 : ∀ q ∈ B, Sized q k) (s3 : ∀ q ∈ C, Sized q k) (l1 : A.length ≤ 1000) (l2 : ∀ r ∈ A, r.length ≤ 1000) (l3 : B.length ≤ 1000) (l4 : C.length ≤ 1000) : StdIn w vA vB vC k A B C true := by
  refine ⟨_, _, _, ha.map (fun row hr v q hq he => OwnR.raw (B := 0) he (s1 row hr q hq)), hb.map (fun v q hq he => OwnR.raw (B := 0) he (s2 q hq)), hc.map (fun v q hq he => OwnR.raw (B := 0) he (s3 q hq)), tab_own_flags ha (fun r hr q hq => (s1 r hr q hq).mono (by omega)), rats_own_flags hb (fun q hq => (s2 q hq).mono (by omega)), rats_own_flags hc (fun q hq => (s3 q hq).mono (by omega)), ?_, by omega, l2, ?_, l1, l3, l4⟩
  · rw [allF_ones, allF_ones]
    have : allFF (A.map fun r => List.replicate r.length 1) = true := by
      unfold allFF
      rw [List.all_eq_true]
      intro r hr
      obtain ⟨q, -, rfl⟩ := List.mem_map.1 hr
      exact allF_ones _
    rw [this]; rfl
  · intro r hr
    obtain ⟨q, hq, rfl⟩ := List.mem_map.1 hr
    rw [List.length_replicate]; exact l2 q hq

/-- a standard form of one's own, its sizes -/
structure StdS (w : World) (vA vB vC : Value) (A : List (List Rat)) (B C : List Rat) : Prop where
  a : Tab EOwn w vA A
  b : Rats EOwn w vB B
  c : Rats EOwn w vC C
  sa : ∀ r ∈ A, ∀ q ∈ r, Sized q 1000000
  sb : ∀ q ∈ B, Sized q 1000000
  sc : ∀ q ∈ C, Sized q 1000000
  la : A.length ≤ 1000
  lr : ∀ r ∈ A, r.length ≤ 1000
  lb : B.length ≤ 1000
  lc : C.length ≤ 1000
theorem StdS.later {w w' : World} {vA vB vC : Value} {A : List (List Rat)} {B C : List Rat} (h : StdS w vA vB vC A B C) (hb : Later w w') : StdS w' vA vB vC A B C := { h with a := h.a.later EOwn.later hb, b := h.b.later EOwn.later hb, c := h.c.later EOwn.later hb }
set_option maxHeartbeats 4000000 in
theorem ssame_calls (w : World) (vA vB vC uA uB uC : Value) (A A' : List (List Rat)) (B C B' C' : List Rat) (h : StdS w vA vB vC A B C) (h' : StdS w uA uB uC A' B' C') (t : Bool) (ht : (decide (A = A') && (decide (B = B') && decide (C = C'))) = t) :
    Calls Tryz.prog 19 #[.agg #[vA, vB, vC], .agg #[uA, uB, uC]] w (RetV w (.bool t)) := by
  have H := hide h; have H' := hide h'; have HT := hide ht
  obtain ⟨A1, n1, c1, rfl, -⟩ := h.a.form
  obtain ⟨A2, n2, c2, rfl, -⟩ := h.b.form
  obtain ⟨A3, n3, c3, rfl, -⟩ := h.c.form
  obtain ⟨A4, n4, c4, rfl, -⟩ := h'.a.form
  obtain ⟨A5, n5, c5, rfl, -⟩ := h'.b.form
  obtain ⟨A6, n6, c6, rfl, -⟩ := h'.c.form
  clear h h' ht
  obtain ⟨W0, hW0⟩ : ∃ W0, W0 = ((w.alloc (Obj.cells #[Value.slice A1 n1 c1, Value.slice A2 n2 c2, Value.slice A3 n3 c3] 31)).alloc (Obj.cells #[Value.slice A4 n4 c4, Value.slice A5 n5 c5, Value.slice A6 n6 c6] 31)) := ⟨_, rfl⟩
  obtain ⟨hb0, r0, r1, hsz0⟩ := boxes2 w [.slice A1 n1 c1, .slice A2 n2 c2, .slice A3 n3 c3] [.slice A4 n4 c4, .slice A5 n5 c5, .slice A6 n6 c6] 31 31 hW0
  have B0 := hide hb0; have HW0 := hide hW0; have HSZ0 := hide hsz0
  have R0 := hide r0; have R1 := hide r1
  clear hb0 hW0 hsz0 r0 r1
  go_enter Tryz.func19, Tryz.ntmps19
  go_upto_region 1 with fail
  rw [← HW0.out]
  have r_d := R0.out.later (Later.refl W0)
  have d0 := r_d.cell (i := 0) rfl; have d1 := r_d.cell (i := 1) rfl; have d2 := r_d.cell (i := 2) rfl
  clear r_d
  have r_f := R1.out.later (Later.refl W0)
  have f0 := r_f.cell (i := 0) rfl; have f1 := r_f.cell (i := 1) rfl; have f2 := r_f.cell (i := 2) rfl
  clear r_f
  go_wp2_with fail
  obtain ⟨t1, ht1⟩ : ∃ t, decide (A = A') = t := ⟨_, rfl⟩
  obtain ⟨t2, ht2⟩ : ∃ t, decide (B = B') = t := ⟨_, rfl⟩
  obtain ⟨t3, ht3⟩ : ∃ t, decide (C = C') = t := ⟨_, rfl⟩
  have HT1 := hide ht1; have HT2 := hide ht2; have HT3 := hide ht3
  have HT : Hid ((t1 && (t2 && t3)) = t) := hide (by rw [← ht1, ← ht2, ← ht3]; exact HT.out)
  clear ht1 ht2 ht3
  have G := hide (H.out.later B0.out); have G' := hide (H'.out.later B0.out)
  refine (tsame_calls _ _ _ A A' 1000000 1000000 G.out.a G'.out.a G.out.sa G'.out.sa (by omega) (by omega) (by have := G.out.la; omega) (fun r hr => by have := G.out.lr r hr; omega) t1 HT1.out).mono ?_
  rintro e w1 ⟨rfl, b1⟩
  have HL1 := hide b1
  clear b1 d0 d1 d2 f0 f1 f2
  have r_d := R0.out.later HL1.out
  have d0 := r_d.cell (i := 0) rfl; have d1 := r_d.cell (i := 1) rfl; have d2 := r_d.cell (i := 2) rfl
  clear r_d
  have r_f := R1.out.later HL1.out
  have f0 := r_f.cell (i := 0) rfl; have f1 := r_f.cell (i := 1) rfl; have f2 := r_f.cell (i := 2) rfl
  clear r_f
  cases t1 with
  | false =>
    go_wp2_with fail
    go_ret
    exact ⟨by rw [← HT.out]; rfl, B0.out.trans HL1.out⟩
  | true =>
    go_wp2_with fail
    refine (lsame_calls _ _ _ B B' 1000000 1000000 (G.out.later HL1.out).b (G'.out.later HL1.out).b G.out.sb G'.out.sb (by omega) (by omega) (by have := G.out.lb; omega) t2 HT2.out).mono ?_
    rintro e w2 ⟨rfl, b2⟩
    have HL2 := hide (HL1.out.trans b2)
    clear b2 d0 d1 d2 f0 f1 f2
    have r_d := R0.out.later HL2.out
    have d0 := r_d.cell (i := 0) rfl; have d1 := r_d.cell (i := 1) rfl; have d2 := r_d.cell (i := 2) rfl
    clear r_d
    have r_f := R1.out.later HL2.out
    have f0 := r_f.cell (i := 0) rfl; have f1 := r_f.cell (i := 1) rfl; have f2 := r_f.cell (i := 2) rfl
    clear r_f
    cases t2 with
    | false =>
      go_wp2_with fail
      go_ret
      exact ⟨by rw [← HT.out]; rfl, B0.out.trans HL2.out⟩
    | true =>
      go_wp2_with fail
      refine (lsame_calls _ _ _ C C' 1000000 1000000 (G.out.later HL2.out).c (G'.out.later HL2.out).c G.out.sc G'.out.sc (by omega) (by omega) (by have := G.out.lc; omega) t3 HT3.out).mono ?_
      rintro e w3 ⟨rfl, b3⟩
      have HL3 := hide (HL2.out.trans b3)
      clear b3 d0 d1 d2 f0 f1 f2
      go_wp2_with fail
      go_ret
      exact ⟨by rw [← HT.out]; rfl, B0.out.trans HL3.out⟩

/-! ### few -/
def RowSmall (most : Nat) : RowE := fun w r x => x.coef.length ≤ most ∧ Rats (ERaw 1) w r.coef x.coef ∧ RawR w r.e.val x.rhs 1 ∧ IFit_ x.sense
theorem RowSmall.later {most : Nat} (w w' : World) (r : WCells) (x : PRow) (h : RowSmall most w r x) (hb : Later w w') : RowSmall most w' r x := ⟨h.1, h.2.1.later ERaw.later hb, RawR.later h.2.2.1 hb, h.2.2.2⟩
theorem LRows.snoc_read {E : RowE} {w : World} {A : Option Addr} {n c j b off : Nat} {l : List PRow} {x : PRow} {r : WCells} (h : LRows E w (.slice A j c) (l.take j)) (hx : l[j]? = some x) (hn : l.length = n) (hc : n ≤ c) (hA : A = some ⟨b, off, none⟩)
    (h1 : ∀ (i : Nat) u, (r.cells x.sense)[i]? = some u → w.cell? ⟨b, off + j * 6 + i, none⟩ = some u) (h2 : E w r x) : LRows E w (.slice A (j+1) c) (l.take (j+1)) := by
  obtain ⟨A', c', e, k1, k2, k3⟩ := h
  injection e with e1 e2 e3
  subst e1 e3
  have hjl := (List.getElem?_eq_some_iff.1 hx).1
  refine ⟨A, c, by rw [List.length_take]; congr 1; omega, by rw [List.length_take]; omega, k2, fun i y hi => ?_⟩
  have hil := (List.getElem?_eq_some_iff.1 hi).1
  rw [List.length_take] at hil
  rw [List.getElem?_take_of_lt (by omega)] at hi
  by_cases hij : i < j
  · exact k3 i y (by rw [List.getElem?_take_of_lt hij]; exact hi)
  · obtain rfl : i = j := by omega
    rw [hx] at hi; injection hi with hi; subst hi
    exact ⟨b, off, hA, r, h1, h2⟩
theorem lrows_flags {most : Nat} {w : World} {v : Value} {l : List PRow} (h : LRows (RowSmall most) w v l) (hm : most ≤ 1000) : ∃ l', l'.length = l.length ∧ LRows (ERow 1) w v l' ∧ ∀ r ∈ l', r.coef.length ≤ most := by
  obtain ⟨A, c, rfl, h1, h2, h3⟩ := h
  obtain ⟨l', hl, hq⟩ := list_of (Q := fun i (x : PRow) => (∃ b off, A = some ⟨b, off, none⟩ ∧ ∃ r : WCells, (∀ (j : Nat) u, (r.cells x.sense)[j]? = some u → w.cell? ⟨b, off + i * 6 + j, none⟩ = some u) ∧ ERow 1 w r x) ∧ x.coef.length ≤ most) l.length (fun i hi => by
    obtain ⟨b, off, ha, r, hx, g1, g2, g3, g4⟩ := h3 i l[i] (List.getElem?_eq_getElem hi)
    obtain ⟨fc, hfl, k1⟩ := rats_flags g2 (by omega)
    obtain ⟨fr, k2⟩ := EFlag.of_raw g3 (by omega)
    exact ⟨⟨l[i].coef, l[i].sense, l[i].rhs, allF fc && allF [fr]⟩, ⟨b, off, ha, r, hx, { coef := g2, rhs := g3, cl := by show l[i].coef.length ≤ 1000; omega, sfit := g4, flags := ⟨fc, fr, k1, k2, rfl⟩ }⟩, g1⟩)
  refine ⟨l', hl, ⟨A, c, by rw [hl], by rw [hl]; exact h1, h2, fun i x hi => (hq i x hi).1⟩, fun r hr => ?_⟩
  obtain ⟨i, hi⟩ := List.mem_iff_getElem?.1 hr
  exact (hq i r hi).2
/-- what is told of a small problem -/
def FewLp (w : World) (vC vR vL vH vO : Value) (most : Nat) (e : Ending) (w' : World) : Prop :=
  ∃ t, e = .returned (.bool t) ∧ (t = true → ∃ P, LpIn w' vC vR vL vH vO 1 P ∧ P.cost.length ≤ most ∧ P.lo.length ≤ most ∧ P.hi.length ≤ most ∧ P.rows.length ≤ most ∧ ∀ r ∈ P.rows, r.coef.length ≤ most) ∧ Later w w'
set_option maxHeartbeats 4000000 in
theorem fewlp_calls (w : World) (A1 A2 A3 A4 A5 : Option Addr) (n1 n2 n3 n4 n5 c1 c2 c3 c4 c5 : Nat) (cost : List Rat) (rows : List PRow) (lo hi : List Rat) (opn : List Bool) (most : Nat) (hm : most ≤ 1000)
    (h1 : Rats EAny w (.slice A1 n1 c1) cost) (h2 : LRows EAnyRow w (.slice A2 n2 c2) rows) (h3 : Rats EAny w (.slice A3 n3 c3) lo) (h4 : Rats EAny w (.slice A4 n4 c4) hi) (h5 : Bools w (.slice A5 n5 c5) opn) :
    Calls Tryz.prog 16 #[.agg #[.slice A1 n1 c1, .slice A2 n2 c2, .slice A3 n3 c3, .slice A4 n4 c4, .slice A5 n5 c5], .int .i64 (most : Int)] w (FewLp w (.slice A1 n1 c1) (.slice A2 n2 c2) (.slice A3 n3 c3) (.slice A4 n4 c4) (.slice A5 n5 c5) most) := by
  have H1 := hide h1; have H2 := hide h2; have H3 := hide h3; have H4 := hide h4; have H5 := hide h5
  have L2 := hide h2.len_; have L5 := hide h5.len_
  have hc2 : n2 ≤ c2 := by
    obtain ⟨_, _, _, e, -, k, -⟩ := h2.form
    injection e with e1 e2 e3; omega
  clear h1 h2 h3 h4 h5
  obtain ⟨W0, hW0⟩ : ∃ W0, W0 = (w.alloc (Obj.cells #[Value.slice A1 n1 c1, Value.slice A2 n2 c2, Value.slice A3 n3 c3, Value.slice A4 n4 c4, Value.slice A5 n5 c5] 26)) := ⟨_, rfl⟩
  obtain ⟨hb0, r0, hsz0⟩ := boxes1 w [.slice A1 n1 c1, .slice A2 n2 c2, .slice A3 n3 c3, .slice A4 n4 c4, .slice A5 n5 c5] 26 hW0
  have B0 := hide hb0; have HW0 := hide hW0; have HSZ0 := hide hsz0
  have R0 := hide r0
  clear hb0 hW0 hsz0 r0
  go_enter Tryz.func16, Tryz.ntmps16
  go_upto_region 1 with fail
  rw [← HW0.out]
  have r_d := R0.out.later (Later.refl W0)
  have d0 := r_d.cell (i := 0) rfl; have d1 := r_d.cell (i := 1) rfl; have d2 := r_d.cell (i := 2) rfl; have d3 := r_d.cell (i := 3) rfl; have d4 := r_d.cell (i := 4) rfl
  clear r_d
  go_wp2_with fail
  refine (few_calls _ _ cost most (H1.out.later EAny.later B0.out) (by omega)).mono ?_
  rintro e w1 ⟨u1, rfl, hf1, rfl⟩
  have HF1 := hide hf1
  clear hf1
  cases u1 with
  | false =>
    go_wp2_with fail
    go_ret
    exact ⟨false, rfl, (fun h => by cases h), B0.out⟩
  | true =>
  go_wp2_with fail
  refine (few_calls _ _ lo most (H3.out.later EAny.later B0.out) (by omega)).mono ?_
  rintro e w3 ⟨u3, rfl, hf3, rfl⟩
  have HF3 := hide hf3
  clear hf3
  cases u3 with
  | false =>
    go_wp2_with fail
    go_ret
    exact ⟨false, rfl, (fun h => by cases h), B0.out⟩
  | true =>
  go_wp2_with fail
  refine (few_calls _ _ hi most (H4.out.later EAny.later B0.out) (by omega)).mono ?_
  rintro e w4 ⟨u4, rfl, hf4, rfl⟩
  have HF4 := hide hf4
  clear hf4
  cases u4 with
  | false =>
    go_wp2_with fail
    go_ret
    exact ⟨false, rfl, (fun h => by cases h), B0.out⟩
  | true =>
  by_cases g5 : 100 < n5
  · have t1 : (100 : Int) < n5 := by omega
    go_wp2_with fail
    go_ret
    exact ⟨false, rfl, (fun h => by cases h), B0.out⟩
  have t1 : ¬ (100 : Int) < n5 := by omega
  by_cases g2 : most < n2
  · have t2 : (most : Int) < n2 := by omega
    go_wp2_with fail
    go_ret
    exact ⟨false, rfl, (fun h => by cases h), B0.out⟩
  have t2 : ¬ (most : Int) < n2 := by omega
  go_wp2_with fail
  clear d0 d1 d2 d3 d4
  go_loopw [5] (fun i wr => ∃ j : Nat, j ≤ n2 ∧ i = .int .i64 (j : Int) ∧ LRows (RowSmall most) wr (.slice A2 j c2) (rows.take j) ∧ Later W0 wr) (fun i _ => (n2 - intOf i).toNat)
  case atStart => exact ⟨0, by omega, rfl, ⟨A2, c2, rfl, Nat.zero_le _, (by obtain ⟨_, _, _, e, -, -, k, -⟩ := H2.out.form; injection e with e1 e2 e3; rw [e3]; exact k), fun i x hi => by simp at hi⟩, Later.refl _⟩
  case round =>
    obtain ⟨j, hj, rfl, hpre, hL⟩ := hrel
    have HL := hide hL; have HPRE := hide hpre
    clear hL hpre
    have r_d := R0.out.later HL.out
    have d0 := r_d.cell (i := 0) rfl; have d1 := r_d.cell (i := 1) rfl; have d2 := r_d.cell (i := 2) rfl; have d3 := r_d.cell (i := 3) rfl; have d4 := r_d.cell (i := 4) rfl
    clear r_d
    by_cases hjn : j < n2
    · obtain ⟨x, hx⟩ : ∃ x, rows[j]? = some x := ⟨rows[j]'(by have := L2.out; omega), List.getElem?_eq_getElem _⟩
      obtain ⟨b2, off2, rfl, r, hcs, he⟩ := (H2.out.later EAnyRow.later (B0.out.trans HL.out)).at_ hx
      have x0 := hcs 0 _ rfl; have x2 := hcs 2 _ rfl; have x3 := hcs 3 _ rfl; have x4 := hcs 4 _ rfl; have x5 := hcs 5 _ rfl
      rw [Nat.add_zero] at x0
      have HCS := hide hcs; have HE := hide he; have HX := hide hx
      have HE1 : Hid (Rats EAny wr (.slice r.A r.n r.c) x.coef) := hide he.1
      have HE2 : Hid (EAny wr (.agg #[.bool r.e.a, .slice r.e.A r.e.n r.e.c, .bool r.e.a', .slice r.e.A' r.e.n' r.e.c']) x.rhs) := hide he.2.1
      have hj0 : (0 : Int) ≤ (j : Int) := by omega
      have hj1 : (j : Int) < n2 := by omega
      have hj2 : ((j : Int)).toNat = j := by omega
      clear hcs he hx
      go_wp2_with fail
      refine (few_calls _ _ x.coef most HE1.out (by omega)).mono ?_
      rintro e w7 ⟨u1, rfl, hf1, rfl⟩
      have HF1 := hide hf1
      clear hf1
      cases u1 with
      | false =>
        go_wp2_with fail
        go_ret
        exact ⟨false, rfl, (fun h => by cases h), B0.out.trans HL.out⟩
      | true =>
        go_wp2_with fail
        have HN := hide (Row.new wr 36 [.bool r.e.a, .slice r.e.A r.e.n r.e.c, .bool r.e.a', .slice r.e.A' r.e.n' r.e.c'])
        have HLA := hide ((Later.refl wr).alloc (Obj.cells #[Value.bool r.e.a, Value.slice r.e.A r.e.n r.e.c, Value.bool r.e.a', Value.slice r.e.A' r.e.n' r.e.c'] 36))
        refine (few_calls _ _ [x.rhs] 1 (rats_one HN.out (EAny.later _ _ _ _ HE2.out HLA.out)) (by omega)).mono ?_
        rintro e w8 ⟨u2, rfl, hf2, rfl⟩
        have HLB := hide (HL.out.trans HLA.out)
        have HF2 := hide hf2
        clear hf2
        cases u2 with
        | false =>
          go_wp2_with fail
          go_ret
          exact ⟨false, rfl, (fun h => by cases h), B0.out.trans HLB.out⟩
        | true =>
          have HNX := hide (LRows.snoc_read (r := r) (HPRE.out.later RowSmall.later HLA.out) HX.out L2.out.symm hc2 rfl (fun i u hi => Later.cell HLA.out (HCS.out i u hi)) (show RowSmall most _ r x from ⟨(HF1.out trivial).1, (HF1.out trivial).2.later ERaw.later HLA.out, rats_one_inv HN.out (HF2.out rfl).2, HE.out.2.2⟩))
          go_wp2_with fail
          exact ⟨⟨j+1, by omega, by go_num, HNX.out, HLB.out⟩, by simp [intOf]; omega⟩
    · have hj1 : ¬ (j : Int) < n2 := by omega
      have HF : Hid (LRows (RowSmall most) wr (.slice A2 n2 c2) rows) := hide (by
        have h1 := HPRE.out
        have e1 : j = n2 := by omega
        rw [e1, List.take_of_length_le (by rw [L2.out]; exact Nat.le_refl _)] at h1
        exact h1)
      clear HPRE
      go_wp2_with fail
      go_ret
      refine ⟨true, rfl, fun _ => ?_, B0.out.trans HL.out⟩
      obtain ⟨rows', hl', k2, k3⟩ := lrows_flags HF.out hm
      have a1 := (HF1.out trivial); have a3 := (HF3.out trivial); have a4 := (HF4.out trivial)
      obtain ⟨f1, -, g1⟩ := rats_flags a1.2 (by omega)
      obtain ⟨f3, -, g3⟩ := rats_flags a3.2 (by omega)
      obtain ⟨f4, -, g4⟩ := rats_flags a4.2 (by omega)
      have hl2 := L2.out; have hl5 := L5.out
      refine ⟨⟨cost, rows', lo, hi, opn, allF f1 && (allF f3 && allF f4)⟩, ?_, a1.1, a3.1, a4.1, by show rows'.length ≤ most; omega, k3⟩
      exact { cost := a1.2.later ERaw.later HL.out, rows := k2, lo := a3.2.later ERaw.later HL.out, hi := a4.2.later ERaw.later HL.out, opn := H5.out.later (B0.out.trans HL.out), flags := ⟨f1, f3, f4, g1.later EFlag.later HL.out, g3.later EFlag.later HL.out, g4.later EFlag.later HL.out, rfl⟩, kk := by omega, cl := by have := a1.1; show cost.length ≤ 1000; omega, rl := by show rows'.length ≤ 1000; omega, ll := by have := a3.1; show lo.length ≤ 1000; omega, hl := by have := a4.1; show hi.length ≤ 1000; omega, ol := by show opn.length ≤ 1000; omega }
end Go.Proofs.YtfokplidiboabaaGreat

/- Problems: awake (the laws). -/
set_option linter.unusedVariables false
set_option linter.unusedSimpArgs false
set_option maxRecDepth 100000
namespace Go.Proofs.YtfokplidiboabaaGreat
open Go.RowKit Go.Shelf
attribute [local go_sem ↓] Go.wp_at_zero Go.wp_at_succ

/-- awake's problem -/
def awP : PLp := ⟨[1], [⟨[1], 2, 2, true⟩], [0], [0], [true], true⟩
def noP : PLp := ⟨[], [], [], [], [], true⟩
theorem awP_may : lpB awP = true := lpB_iff.2
  { n1 := by decide, n24 := by decide, lo := rfl, hi := rfl, opn := rfl, rl := by decide, f := rfl
    rows := fun r hr => by
      have : r = ⟨[1], 2, 2, true⟩ := by simpa [awP] using hr
      subst this; exact ⟨rfl, by decide, rfl⟩
    ends := fun j hj ho => by
      have : j = 0 := by have : j < 1 := hj; omega
      subst this; simp [awP] at ho }
theorem noP_may : lpB noP = false := lpB_not.2 fun h => absurd h.n1 (by decide)
theorem awP_A : stdA awP = [[1, -1]] := by decide +kernel
theorem awP_B : stdB awP = [2] := by decide +kernel
theorem awP_C : stdC awP = [1, 0] := by decide +kernel
theorem awP_rest : restV awP = 0 := by decide +kernel
theorem awP_back : backL awP [3, 1] = [3] := by decide +kernel
theorem awP_backB : backB awP [3, 1] = true := by unfold backB; rw [awP_may]; decide +kernel
theorem awP_cost : lpCost awP [3] = 3 := by unfold lpCost; rw [if_pos awP_may]; decide +kernel
theorem awP_costB : (lpB awP && decide (([3] : List Rat).length = awP.cost.length)) = true := by rw [awP_may]; rfl
theorem awP_ful : fulfL awP [3] = true := by unfold fulfL; rw [awP_may]; decide +kernel
theorem awP_nful : fulfL awP [1] = false := by unfold fulfL; rw [awP_may]; decide +kernel
theorem awP_right : rightB [[1, -1]] [2] [1, 0] true = true := by decide +kernel
theorem lrows_one {E : RowE} {w : World} {g : Nat} {x : PRow} {r : WCells} (hr : Row w g 60 (r.cells x.sense)) (h : E w r x) : LRows E w (.slice (some ⟨g, 0, none⟩) 1 1) [x] := by
  refine ⟨_, 1, rfl, Nat.le_refl _, by decide, fun i y hi => ?_⟩
  match i, hi with
  | 0, hi =>
    have : x = y := by simpa using hi
    subst this
    exact ⟨g, 0, rfl, r, fun j u hj => by simpa using hr.cell hj, h⟩
theorem bools_one {w : World} {g : Nat} {b : Bool} (hr : Row w g 4 [.bool b]) : Bools w (.slice (some ⟨g, 0, none⟩) 1 1) [b] := by
  refine ⟨_, 1, rfl, Nat.le_refl _, by decide, fun i y hi => ?_⟩
  match i, hi with
  | 0, hi =>
    have : b = y := by simpa using hi
    subst this
    exact ⟨g, 0, rfl, hr.cell rfl⟩
theorem rats1_flags {w : World} {v : Value} {l : List Rat} (h : Rats EOwn w v l) (hs : ∀ q ∈ l, Sized q 1) : Rats EFlag w v (List.replicate l.length 1) := rats_own_flags h fun q hq => (hs q hq).mono (by omega)
theorem rowS_own {w : World} {r : WCells} {coef : List Rat} {s : Int} {rhs : Rat} (h1 : Rats EOwn w r.coef coef) (h2 : EOwn w r.e.val rhs) (s1 : ∀ q ∈ coef, Sized q 1) (s2 : Sized rhs 1) (hl : coef.length ≤ 1000) (hs : IFit_ s) : ERowS 1 w r ⟨coef, s, rhs, true⟩ :=
  { coef := Own.raw1 h1 s1, rhs := OwnR.raw (B := 0) h2 s2, cl := hl, sfit := hs, flags := ⟨_, _, rats1_flags h1 s1, EFlag.of_own (B := 0) h2 (s2.mono (by omega)), by rw [allF_ones]; rfl⟩ }
theorem lp_own {w : World} {vC vR vL vH vO : Value} {cost lo hi : List Rat} {rows : List PRow} {opn : List Bool} (h1 : Rats EOwn w vC cost) (h2 : LRows (ERow 1) w vR rows) (h3 : Rats EOwn w vL lo) (h4 : Rats EOwn w vH hi) (h5 : Bools w vO opn)
    (s1 : ∀ q ∈ cost, Sized q 1) (s3 : ∀ q ∈ lo, Sized q 1) (s4 : ∀ q ∈ hi, Sized q 1) (l1 : cost.length ≤ 1000) (l2 : rows.length ≤ 1000) (l3 : lo.length ≤ 1000) (l4 : hi.length ≤ 1000) (l5 : opn.length ≤ 1000) : LpIn w vC vR vL vH vO 1 ⟨cost, rows, lo, hi, opn, true⟩ :=
  { cost := Own.raw1 h1 s1, rows := h2, lo := Own.raw1 h3 s3, hi := Own.raw1 h4 s4, opn := h5, flags := ⟨_, _, _, rats1_flags h1 s1, rats1_flags h3 s3, rats1_flags h4 s4, by rw [allF_ones, allF_ones, allF_ones]; rfl⟩, kk := by omega, cl := l1, rl := l2, ll := l3, hl := l4, ol := l5 }
theorem lp_none (w : World) : LpIn w (.slice none 0 0) (.slice none 0 0) (.slice none 0 0) (.slice none 0 0) (.slice none 0 0) 1 noP :=
  lp_own (rats_nil _ _) (LRows.nil _ _) (rats_nil _ _) (rats_nil _ _) ⟨none, 0, rfl, Nat.le_refl _, by decide, fun i x h => by simp at h⟩ (by simp) (by simp) (by simp) (by simp) (by simp) (by simp) (by simp) (by simp)

set_option maxHeartbeats 32000000 in
theorem awake11_tail (w0 wr : World) (A1 A2 A3 A4 A5 : Option Addr) (n1 n2 n3 n4 n5 c1 c2 c3 c4 c5 : Nat) (gp gs gr gc : Nat) (AA AB AC A8 : Option Addr) (nA nB nC n8 cA cB cC c8 : Nat) (sr sr' sk sk' : Bool) (Pr Pr' Pk Pk' : Option Addr) (qr er qr' er' qk ek qk' ek' : Nat)
    (hi : LpIn wr (.slice A1 n1 c1) (.slice A2 n2 c2) (.slice A3 n3 c3) (.slice A4 n4 c4) (.slice A5 n5 c5) 1 awP) (hs : StdV wr awP (.slice AA nA cA) (.slice AB nB cB) (.slice AC nC cC) (.agg #[.bool sr, .slice Pr qr er, .bool sr', .slice Pr' qr' er'])) (hx : Rats EOwn wr (.slice A8 n8 c8) [3]) (hc : OwnR wr 0 (.agg #[.bool sk, .slice Pk qk ek, .bool sk', .slice Pk' qk' ek']) 3) (hb : Boxes wr [(gp, 26, [.slice A1 n1 c1, .slice A2 n2 c2, .slice A3 n3 c3, .slice A4 n4 c4, .slice A5 n5 c5]), (gs, 31, [.slice AA nA cA, .slice AB nB cB, .slice AC nC cC]), (gr, 36, [.bool sr, .slice Pr qr er, .bool sr', .slice Pr' qr' er']), (gc, 36, [.bool sk, .slice Pk qk ek, .bool sk', .slice Pk' qk' ek'])]) (hL : Later w0 wr)
    (v5 v6 v12 v13 v14 v15 v16 v17 v18 v19 v20 v21 v22 v23 v24 v25 v26 v27 v28 v29 v30 v31 v32 v33 v34 v35 v36 v37 v38 v39 v40 v41 v42 v43 v44 v45 v46 v47 v48 v49 v50 v51 v52 v53 v54 v55 v56 v57 v58 v59 v60 v61 v62 v63 v64 v65 v66 v67 v68 v69 v70 v71 v72 v73 v74 v75 v76 v77 v78 v79 v80 v81 v82 v83 v84 v85 v86 v87 v88 v89 v90 v91 v92 v93 v94 v95 v96 v97 v98 v99 v100 v101 v102 v103 v104 v105 v106 v107 v108 v109 v110 v111 v112 v113 v114 v115 v116 : Value) (R : Act → World → Prop) (hQ : ∀ (a' : Act) (w' : World), a'.defers = [] → a'.tmps[0]?.getD undef = .bool true → Later w0 w' → R a' w') :
    Code.wp Tryz.prog (sSnd (sSnd (sSnd (sSnd (sSnd (sSnd (Tryz.f15.body.getD .skip))))))) (retOnly R) { tmps := #[.bool false, .pointer (some ⟨gp, 0, none⟩), .pointer (some ⟨gs, 0, none⟩), .pointer (some ⟨gr, 0, none⟩), .int .i64 0, v5, v6, .int .i64 1, .slice A8 n8 c8, .int .i64 0, .pointer (some ⟨gc, 0, none⟩), .bool true, v12, v13, v14, v15, v16, v17, v18, v19, v20, v21, v22, v23, v24, v25, v26, v27, v28, v29, v30, v31, v32, v33, v34, v35, v36, v37, v38, v39, v40, v41, v42, v43, v44, v45, v46, v47, v48, v49, v50, v51, v52, v53, v54, v55, v56, v57, v58, v59, v60, v61, v62, v63, v64, v65, v66, v67, v68, v69, v70, v71, v72, v73, v74, v75, v76, v77, v78, v79, v80, v81, v82, v83, v84, v85, v86, v87, v88, v89, v90, v91, v92, v93, v94, v95, v96, v97, v98, v99, v100, v101, v102, v103, v104, v105, v106, v107, v108, v109, v110, v111, v112, v113, v114, v115, v116], defers := [] } wr := by
  obtain ⟨CT, hCT⟩ : ∃ C, C = (sSnd (sSnd (sSnd (sSnd (sSnd (sSnd (Tryz.f15.body.getD .skip))))))) := ⟨_, rfl⟩
  rw [← hCT]
  conv at hCT => rhs; whnf
  subst hCT
  have HI0 := hide hi; have HX0 := hide hx; have HC0 := hide hc; have HB0 := hide hb; have HL := hide hL; have HQ := hide hQ
  have HS0 : Hid (StdS wr (.slice AA nA cA) (.slice AB nB cB) (.slice AC nC cC) [[1, -1]] [2] [1, 0]) := hide (by
    have h1 := hs.a; have h2 := hs.b; have h3 := hs.c
    rw [awP_A] at h1; rw [awP_B] at h2; rw [awP_C] at h3
    exact ⟨h1, h2, h3, fun r hr q hq => (sized_list1 (l := r) (by simp at hr; subst hr; simp) q hq).mono (by omega), fun q hq => (sized_list1 (by simp) q hq).mono (by omega), fun q hq => (sized_list1 (by simp) q hq).mono (by omega), by simp, by simp, by simp, by simp⟩)
  have HR0 : Hid (OwnR wr 0 (.agg #[.bool sr, .slice Pr qr er, .bool sr', .slice Pr' qr' er']) 0) := hide (by have h1 := hs.r; rw [awP_rest] at h1; exact h1)
  clear hi hs hx hc hb hL hQ
  go_wp2_with fail
  refine (of11_calls _ 1 (by omega) (by omega) 1 div_1).mono ?_
  rintro e w21 ⟨v21, rfl, o21, b21⟩
  obtain ⟨s21, P21, q21, e21, P21', q21', e21', rfl, o21⟩ := o21.open_; have O21 := hide o21; clear o21
  go_wp2_with fail
  refine (of11_calls _ (-1) (by omega) (by omega) (-1) div_m1).mono ?_
  rintro e w22 ⟨v22, rfl, o22, b22⟩
  obtain ⟨s22, P22, q22, e22, P22', q22', e22', rfl, o22⟩ := o22.open_; have O22 := hide o22; clear o22
  go_wp2_with fail
  refine (of11_calls _ 2 (by omega) (by omega) 2 div_2).mono ?_
  rintro e w23 ⟨v23, rfl, o23, b23⟩
  obtain ⟨s23, P23, q23, e23, P23', q23', e23', rfl, o23⟩ := o23.open_; have O23 := hide o23; clear o23
  go_wp2_with fail
  refine (of11_calls _ 1 (by omega) (by omega) 1 div_1).mono ?_
  rintro e w24 ⟨v24, rfl, o24, b24⟩
  obtain ⟨s24, P24, q24, e24, P24', q24', e24', rfl, o24⟩ := o24.open_; have O24 := hide o24; clear o24
  go_wp2_with fail
  refine (of11_calls _ 0 (by omega) (by omega) 0 div_0).mono ?_
  rintro e w25 ⟨v25, rfl, o25, b25⟩
  obtain ⟨s25, P25, q25, e25, P25', q25', e25', rfl, o25⟩ := o25.open_; have O25 := hide o25; clear o25
  go_upto_region 7 with fail
  obtain ⟨wx, hwx⟩ : ∃ wx, wx = (w25.alloc (Obj.cells #[Value.bool s24, Value.slice P24 q24 e24, Value.bool false, Value.slice P24' q24' e24', Value.bool s25, Value.slice P25 q25 e25, Value.bool false, Value.slice P25' q25' e25'] 36)).alloc (Obj.cells #[Value.slice (some ⟨w22.heap.size + 1, 0, none⟩) 1 1, Value.slice (some ⟨w23.heap.size, 0, none⟩) 1 1, Value.slice (some ⟨w25.heap.size, 0, none⟩) 2 2] 31) := ⟨_, rfl⟩
  have k5 : Later w25 wx := by rw [hwx]; exact ((Later.refl _).alloc _).alloc _
  have k24 : Later w24 wx := b25.trans k5
  have k4 := b24.trans k24
  have k23 : Later w23 wx := (((Later.refl _).alloc _)).trans k4
  have k3 := b23.trans k23
  have k22 : Later w22 wx := (((Later.refl _).alloc _).alloc _).trans k3
  have k21 : Later w21 wx := b22.trans k22
  have kx : Later wr wx := b21.trans k21
  have r1 : Row wx w22.heap.size 36 [.bool s21, .slice P21 q21 e21, .bool false, .slice P21' q21' e21', .bool s22, .slice P22 q22 e22, .bool false, .slice P22' q22' e22'] := ((Row.new w22 _ _).alloc _).later k3
  have r2 : Row wx (w22.heap.size + 1) 22 [.slice (some ⟨w22.heap.size, 0, none⟩) 2 2] := (row_new1 w22 _ _ _).later k3
  have r3 : Row wx w23.heap.size 36 [.bool s23, .slice P23 q23 e23, .bool false, .slice P23' q23' e23'] := (Row.new _ _ _).later k4
  have r4 : Row wx w25.heap.size 36 [.bool s24, .slice P24 q24 e24, .bool false, .slice P24' q24' e24', .bool s25, .slice P25 q25 e25, .bool false, .slice P25' q25' e25'] := by rw [hwx]; exact (Row.new _ _ _).alloc _
  have r5 : Row wx (w25.heap.size + 1) 31 [.slice (some ⟨w22.heap.size + 1, 0, none⟩) 1 1, .slice (some ⟨w23.heap.size, 0, none⟩) 1 1, .slice (some ⟨w25.heap.size, 0, none⟩) 2 2] := by rw [hwx]; exact row_new1 _ _ _ _
  have hw : StdS wx (.slice (some ⟨w22.heap.size + 1, 0, none⟩) 1 1) (.slice (some ⟨w23.heap.size, 0, none⟩) 1 1) (.slice (some ⟨w25.heap.size, 0, none⟩) 2 2) [[1, -1]] [2] [1, 0] :=
    ⟨tab_one r2 (rats_two (E := EOwn) r1 (OwnR.weaken (OwnR.later O21.out k21) (Nat.zero_le _)) (OwnR.weaken (OwnR.later O22.out k22) (Nat.zero_le _))), rats_one (E := EOwn) r3 (OwnR.weaken (OwnR.later O23.out k23) (Nat.zero_le _)), rats_two (E := EOwn) r4 (OwnR.weaken (OwnR.later O24.out k24) (Nat.zero_le _)) (OwnR.weaken (OwnR.later O25.out k5) (Nat.zero_le _)), fun r hr q hq => (sized_list1 (l := r) (by simp at hr; subst hr; simp) q hq).mono (by omega), fun q hq => (sized_list1 (by simp) q hq).mono (by omega), fun q hq => (sized_list1 (by simp) q hq).mono (by omega), by simp, by simp, by simp, by simp⟩
  rw [← hwx]
  obtain ⟨gw, hgw⟩ : ∃ g, g = w25.heap.size + 1 := ⟨_, rfl⟩
  obtain ⟨ga, hga⟩ : ∃ g, g = w22.heap.size + 1 := ⟨_, rfl⟩
  obtain ⟨gb, hgb⟩ : ∃ g, g = w23.heap.size := ⟨_, rfl⟩
  obtain ⟨gcc, hgcc⟩ : ∃ g, g = w25.heap.size := ⟨_, rfl⟩
  rw [← hgw] at r5 ⊢
  rw [← hga, ← hgb, ← hgcc] at hw r5
  have HW := hide hw; have RW := hide r5; have HLx := hide kx
  have HI := hide (HI0.out.later kx); have HS := hide (HS0.out.later kx); have HX := hide (HX0.out.later EOwn.later kx); have HC := hide (OwnR.later HC0.out kx); have HR := hide (OwnR.later HR0.out kx); have HB := hide (HB0.out.later kx)
  have HSI : Hid (StdIn wx (.slice AA nA cA) (.slice AB nB cB) (.slice AC nC cC) 1 [[1, -1]] [2] [1, 0] true) := hide (std_own HS.out.a HS.out.b HS.out.c (fun r hr => sized_list1 (l := r) (by simp at hr; subst hr; simp)) (sized_list1 (by simp)) (sized_list1 (by simp)) (by simp) (by simp) (by simp) (by simp))
  clear b21 b22 b23 b24 b25 O21 O22 O23 O24 O25 r1 r2 r3 r4 r5 k5 k24 k4 k23 k3 k22 k21 kx hw hwx hgw hga hgb hgcc HI0 HS0 HX0 HC0 HR0 HB0
  have HT7 : Hid (∀ w', Later wx w' → w'.cell? ⟨gp, 0, none⟩ = some (.slice A1 n1 c1) ∧ w'.cell? ⟨gp, 1, none⟩ = some (.slice A2 n2 c2) ∧ w'.cell? ⟨gp, 2, none⟩ = some (.slice A3 n3 c3) ∧ w'.cell? ⟨gp, 3, none⟩ = some (.slice A4 n4 c4) ∧ w'.cell? ⟨gp, 4, none⟩ = some (.slice A5 n5 c5) ∧ w'.cell? ⟨gs, 0, none⟩ = some (.slice AA nA cA) ∧ w'.cell? ⟨gs, 1, none⟩ = some (.slice AB nB cB) ∧ w'.cell? ⟨gs, 2, none⟩ = some (.slice AC nC cC) ∧ w'.cell? ⟨gw, 0, none⟩ = some (.slice (some ⟨ga, 0, none⟩) 1 1) ∧ w'.cell? ⟨gw, 1, none⟩ = some (.slice (some ⟨gb, 0, none⟩) 1 1) ∧ w'.cell? ⟨gw, 2, none⟩ = some (.slice (some ⟨gcc, 0, none⟩) 2 2) ∧ w'.cell? ⟨gr, 0, none⟩ = some (.bool sr) ∧ w'.cell? ⟨gr, 1, none⟩ = some (.slice Pr qr er) ∧ w'.cell? ⟨gr, 2, none⟩ = some (.bool sr') ∧ w'.cell? ⟨gr, 3, none⟩ = some (.slice Pr' qr' er') ∧ w'.cell? ⟨gc, 0, none⟩ = some (.bool sk) ∧ w'.cell? ⟨gc, 1, none⟩ = some (.slice Pk qk ek) ∧ w'.cell? ⟨gc, 2, none⟩ = some (.bool sk') ∧ w'.cell? ⟨gc, 3, none⟩ = some (.slice Pk' qk' ek')) := hide fun W hW => by
    have h1 : Row W gp 26 [.slice A1 n1 c1, .slice A2 n2 c2, .slice A3 n3 c3, .slice A4 n4 c4, .slice A5 n5 c5] := HB.out.later hW _ (List.mem_cons_self ..)
    have h2 : Row W gs 31 [.slice AA nA cA, .slice AB nB cB, .slice AC nC cC] := HB.out.later hW _ (List.mem_cons_of_mem _ (List.mem_cons_self ..))
    have h3 : Row W gr 36 [.bool sr, .slice Pr qr er, .bool sr', .slice Pr' qr' er'] := HB.out.later hW _ (List.mem_cons_of_mem _ (List.mem_cons_of_mem _ (List.mem_cons_self ..)))
    have h4 : Row W gc 36 [.bool sk, .slice Pk qk ek, .bool sk', .slice Pk' qk' ek'] := HB.out.later hW _ (List.mem_cons_of_mem _ (List.mem_cons_of_mem _ (List.mem_cons_of_mem _ (List.mem_cons_self ..))))
    have h5 := RW.out.later hW
    exact ⟨h1.cell (i := 0) rfl, h1.cell (i := 1) rfl, h1.cell (i := 2) rfl, h1.cell (i := 3) rfl, h1.cell (i := 4) rfl, h2.cell (i := 0) rfl, h2.cell (i := 1) rfl, h2.cell (i := 2) rfl, h5.cell (i := 0) rfl, h5.cell (i := 1) rfl, h5.cell (i := 2) rfl, h3.cell (i := 0) rfl, h3.cell (i := 1) rfl, h3.cell (i := 2) rfl, h3.cell (i := 3) rfl, h4.cell (i := 0) rfl, h4.cell (i := 1) rfl, h4.cell (i := 2) rfl, h4.cell (i := 3) rfl⟩
  have hmx : Tryz.prog.follows .mixedOrders = true := by kernel_rfl
  refine wp_region_N (fun w' => w'.cell? ⟨gp, 0, none⟩ = some (.slice A1 n1 c1) ∧ w'.cell? ⟨gp, 1, none⟩ = some (.slice A2 n2 c2) ∧ w'.cell? ⟨gp, 2, none⟩ = some (.slice A3 n3 c3) ∧ w'.cell? ⟨gp, 3, none⟩ = some (.slice A4 n4 c4) ∧ w'.cell? ⟨gp, 4, none⟩ = some (.slice A5 n5 c5) ∧ w'.cell? ⟨gs, 0, none⟩ = some (.slice AA nA cA) ∧ w'.cell? ⟨gs, 1, none⟩ = some (.slice AB nB cB) ∧ w'.cell? ⟨gs, 2, none⟩ = some (.slice AC nC cC) ∧ w'.cell? ⟨gw, 0, none⟩ = some (.slice (some ⟨ga, 0, none⟩) 1 1) ∧ w'.cell? ⟨gw, 1, none⟩ = some (.slice (some ⟨gb, 0, none⟩) 1 1) ∧ w'.cell? ⟨gw, 2, none⟩ = some (.slice (some ⟨gcc, 0, none⟩) 2 2) ∧ w'.cell? ⟨gr, 0, none⟩ = some (.bool sr) ∧ w'.cell? ⟨gr, 1, none⟩ = some (.slice Pr qr er) ∧ w'.cell? ⟨gr, 2, none⟩ = some (.bool sr') ∧ w'.cell? ⟨gr, 3, none⟩ = some (.slice Pr' qr' er') ∧ w'.cell? ⟨gc, 0, none⟩ = some (.bool sk) ∧ w'.cell? ⟨gc, 1, none⟩ = some (.slice Pk qk ek) ∧ w'.cell? ⟨gc, 2, none⟩ = some (.bool sk') ∧ w'.cell? ⟨gc, 3, none⟩ = some (.slice Pk' qk' ek')) [] hmx (HT7.out _ (by first | assumption | (repeat (first | assumption | exact Later.refl _ | apply Later.drew | refine Later.alloc ?_ _)))) (fun hHeld => ?_)
  refine wpAnyN_takeD (some 63) (by rfl) (i := 0) (oi := _) (v := ?_) rfl (by kernel_rfl) (by kernel_rfl) (by kernel_rfl) (by kernel_rfl) (fun _ _ _ h => h) (Or.inl ⟨by rfl, ?_⟩) (by assumption) ?_
  rotate_left
  · intro w hSw; (try dsimp only at hSw); go_simp
    first | done | with_reducible rfl
  try simp only [Act.put, List.setIfInBounds_toArray, List.set_cons_zero, List.set_cons_succ]
  refine wpAnyN_takeD (some 64) (by rfl) (i := 1) (oi := _) (v := ?_) rfl (by kernel_rfl) (by kernel_rfl) (by kernel_rfl) (by kernel_rfl) (fun _ _ _ h => h) (Or.inl ⟨by rfl, ?_⟩) (by assumption) ?_
  rotate_left
  · intro w hSw; (try dsimp only at hSw); go_simp
    first | done | with_reducible rfl
  try simp only [Act.put, List.setIfInBounds_toArray, List.set_cons_zero, List.set_cons_succ]
  refine wpAnyN_takeD (some 65) (by rfl) (i := 2) (oi := _) (v := ?_) rfl (by kernel_rfl) (by kernel_rfl) (by kernel_rfl) (by kernel_rfl) (fun _ _ _ h => h) (Or.inl ⟨by rfl, ?_⟩) (by assumption) ?_
  rotate_left
  · intro w hSw; (try dsimp only at hSw); go_simp
    first | done | with_reducible rfl
  try simp only [Act.put, List.setIfInBounds_toArray, List.set_cons_zero, List.set_cons_succ]
  refine wpAnyN_takeD (some 66) (by rfl) (i := 3) (oi := _) (v := ?_) rfl (by kernel_rfl) (by kernel_rfl) (by kernel_rfl) (by kernel_rfl) (fun _ _ _ h => h) (Or.inl ⟨by rfl, ?_⟩) (by assumption) ?_
  rotate_left
  · intro w hSw; (try dsimp only at hSw); go_simp
    first | done | with_reducible rfl
  try simp only [Act.put, List.setIfInBounds_toArray, List.set_cons_zero, List.set_cons_succ]
  refine wpAnyN_takeD (some 67) (by rfl) (i := 4) (oi := _) (v := ?_) rfl (by kernel_rfl) (by kernel_rfl) (by kernel_rfl) (by kernel_rfl) (fun _ _ _ h => h) (Or.inl ⟨by rfl, ?_⟩) (by assumption) ?_
  rotate_left
  · intro w hSw; (try dsimp only at hSw); go_simp
    first | done | with_reducible rfl
  try simp only [Act.put, List.setIfInBounds_toArray, List.set_cons_zero, List.set_cons_succ]
  refine wpAnyN_ready (rs := [5]) (by kernel_rfl) (by simp) ?_
  refine AllReadyN.held rfl (by rfl) (fun K hK => ?_) AllReadyN.nil
  go_simp
  refine (ssame_calls _ _ _ _ _ _ _ [[1, -1]] [[1, -1]] [2] [1, 0] [2] [1, 0] (HS.out.later (by first | assumption | (repeat (first | assumption | exact Later.refl _ | apply Later.drew | refine Later.alloc ?_ _)))) (HW.out.later (by first | assumption | (repeat (first | assumption | exact Later.refl _ | apply Later.drew | refine Later.alloc ?_ _)))) true (by decide +kernel)).mono ?_
  rintro e w105 ⟨rfl, b105⟩

  have l5 : Later wx w105 := Later.trans (by first | assumption | (repeat (first | assumption | exact Later.refl _ | apply Later.drew | refine Later.alloc ?_ _))) b105
  refine hK.out _ _ ?_ (fun hHeld => ?_)
  · exact HT7.out _ (by first | assumption | (repeat (first | assumption | exact Later.refl _ | apply Later.drew | refine Later.alloc ?_ _)))
  clear hK K
  try simp only [Act.put, List.setIfInBounds_toArray, List.set_cons_zero, List.set_cons_succ]
  refine wpAnyN_takeD (some 69) (by rfl) (i := 6) (oi := _) (v := ?_) rfl (by kernel_rfl) (by kernel_rfl) (by kernel_rfl) (by kernel_rfl) (fun _ _ _ h => h) (Or.inl ⟨by rfl, ?_⟩) (by assumption) ?_
  rotate_left
  · intro w hSw; (try dsimp only at hSw); go_simp
    first | done | with_reducible rfl
  try simp only [Act.put, List.setIfInBounds_toArray, List.set_cons_zero, List.set_cons_succ]
  refine wpAnyN_takeD (some 70) (by rfl) (i := 7) (oi := _) (v := ?_) rfl (by kernel_rfl) (by kernel_rfl) (by kernel_rfl) (by kernel_rfl) (fun _ _ _ h => h) (Or.inl ⟨by rfl, ?_⟩) (by assumption) ?_
  rotate_left
  · intro w hSw; (try dsimp only at hSw); go_simp
    first | done | with_reducible rfl
  try simp only [Act.put, List.setIfInBounds_toArray, List.set_cons_zero, List.set_cons_succ]
  refine wpAnyN_takeD (some 71) (by rfl) (i := 8) (oi := _) (v := ?_) rfl (by kernel_rfl) (by kernel_rfl) (by kernel_rfl) (by kernel_rfl) (fun _ _ _ h => h) (Or.inl ⟨by rfl, ?_⟩) (by assumption) ?_
  rotate_left
  · intro w hSw; (try dsimp only at hSw); go_simp
    first | done | with_reducible rfl
  try simp only [Act.put, List.setIfInBounds_toArray, List.set_cons_zero, List.set_cons_succ]
  refine wpAnyN_ready (rs := [9]) (by kernel_rfl) (by simp) ?_
  refine AllReadyN.held rfl (by rfl) (fun K hK => ?_) AllReadyN.nil
  go_simp
  refine (of11_calls _ 0 (by omega) (by omega) 0 div_0).mono ?_
  rintro e w109 ⟨v109, rfl, o109, b109⟩
  obtain ⟨s109, P109, q109, e109, P109', q109', e109', rfl, o109⟩ := o109.open_; have O109 := hide o109; clear o109
  have l9 : Later wx w109 := Later.trans (by first | assumption | (repeat (first | assumption | exact Later.refl _ | apply Later.drew | refine Later.alloc ?_ _))) b109
  refine hK.out _ _ ?_ (fun hHeld => ?_)
  · exact HT7.out _ (by first | assumption | (repeat (first | assumption | exact Later.refl _ | apply Later.drew | refine Later.alloc ?_ _)))
  clear hK K
  try simp only [Act.put, List.setIfInBounds_toArray, List.set_cons_zero, List.set_cons_succ]
  refine wpAnyN_ready (rs := [10]) (by kernel_rfl) (by simp) ?_
  refine AllReadyN.held rfl (by rfl) (fun K hK => ?_) AllReadyN.nil
  go_simp
  refine (qsame_calls _ _ _ 0 0 0 0 1 1 (OwnR.later HR.out (by first | assumption | (repeat (first | assumption | exact Later.refl _ | apply Later.drew | refine Later.alloc ?_ _)))) ((OwnR.later O109.out (by first | assumption | (repeat (first | assumption | exact Later.refl _ | apply Later.drew | refine Later.alloc ?_ _)))).weaken (Nat.zero_le _)) sized_0 sized_0 (by omega) (by omega) true (by decide)).mono ?_
  rintro e w110 ⟨rfl, b110⟩

  have l10 : Later wx w110 := Later.trans (by first | assumption | (repeat (first | assumption | exact Later.refl _ | apply Later.drew | refine Later.alloc ?_ _))) b110
  refine hK.out _ _ ?_ (fun hHeld => ?_)
  · exact HT7.out _ (by first | assumption | (repeat (first | assumption | exact Later.refl _ | apply Later.drew | refine Later.alloc ?_ _)))
  clear hK K
  try simp only [Act.put, List.setIfInBounds_toArray, List.set_cons_zero, List.set_cons_succ]
  refine wpAnyN_takeD (some 74) (by rfl) (i := 11) (oi := _) (v := ?_) rfl (by kernel_rfl) (by kernel_rfl) (by kernel_rfl) (by kernel_rfl) (fun _ _ _ h => h) (Or.inl ⟨by rfl, ?_⟩) (by assumption) ?_
  rotate_left
  · intro w hSw; (try dsimp only at hSw); go_simp
    first | done | with_reducible rfl
  try simp only [Act.put, List.setIfInBounds_toArray, List.set_cons_zero, List.set_cons_succ]
  refine wpAnyN_takeD (some 75) (by rfl) (i := 12) (oi := _) (v := ?_) rfl (by kernel_rfl) (by kernel_rfl) (by kernel_rfl) (by kernel_rfl) (fun _ _ _ h => h) (Or.inl ⟨by rfl, ?_⟩) (by assumption) ?_
  rotate_left
  · intro w hSw; (try dsimp only at hSw); go_simp
    first | done | with_reducible rfl
  try simp only [Act.put, List.setIfInBounds_toArray, List.set_cons_zero, List.set_cons_succ]
  refine wpAnyN_takeD (some 76) (by rfl) (i := 13) (oi := _) (v := ?_) rfl (by kernel_rfl) (by kernel_rfl) (by kernel_rfl) (by kernel_rfl) (fun _ _ _ h => h) (Or.inl ⟨by rfl, ?_⟩) (by assumption) ?_
  rotate_left
  · intro w hSw; (try dsimp only at hSw); go_simp
    first | done | with_reducible rfl
  try simp only [Act.put, List.setIfInBounds_toArray, List.set_cons_zero, List.set_cons_succ]
  refine wpAnyN_takeD (some 77) (by rfl) (i := 14) (oi := _) (v := ?_) rfl (by kernel_rfl) (by kernel_rfl) (by kernel_rfl) (by kernel_rfl) (fun _ _ _ h => h) (Or.inl ⟨by rfl, ?_⟩) (by assumption) ?_
  rotate_left
  · intro w hSw; (try dsimp only at hSw); go_simp
    first | done | with_reducible rfl
  try simp only [Act.put, List.setIfInBounds_toArray, List.set_cons_zero, List.set_cons_succ]
  refine wpAnyN_takeD (some 78) (by rfl) (i := 15) (oi := _) (v := ?_) rfl (by kernel_rfl) (by kernel_rfl) (by kernel_rfl) (by kernel_rfl) (fun _ _ _ h => h) (Or.inl ⟨by rfl, ?_⟩) (by assumption) ?_
  rotate_left
  · intro w hSw; (try dsimp only at hSw); go_simp
    first | done | with_reducible rfl
  try simp only [Act.put, List.setIfInBounds_toArray, List.set_cons_zero, List.set_cons_succ]
  refine wpAnyN_takeD (some 79) (by rfl) (i := 16) (oi := _) (v := ?_) rfl (by kernel_rfl) (by kernel_rfl) (by kernel_rfl) (by kernel_rfl) (fun _ _ _ h => h) (Or.inl ⟨by rfl, ?_⟩) (by assumption) ?_
  rotate_left
  · intro w hSw; (try dsimp only at hSw); go_simp
    first | done | with_reducible rfl
  try simp only [Act.put, List.setIfInBounds_toArray, List.set_cons_zero, List.set_cons_succ]
  refine wpAnyN_takeD (some 80) (by rfl) (i := 17) (oi := _) (v := ?_) rfl (by kernel_rfl) (by kernel_rfl) (by kernel_rfl) (by kernel_rfl) (fun _ _ _ h => h) (Or.inl ⟨by rfl, ?_⟩) (by assumption) ?_
  rotate_left
  · intro w hSw; (try dsimp only at hSw); go_simp
    first | done | with_reducible rfl
  try simp only [Act.put, List.setIfInBounds_toArray, List.set_cons_zero, List.set_cons_succ]
  refine wpAnyN_takeD (some 81) (by rfl) (i := 18) (oi := _) (v := ?_) rfl (by kernel_rfl) (by kernel_rfl) (by kernel_rfl) (by kernel_rfl) (fun _ _ _ h => h) (Or.inl ⟨by rfl, ?_⟩) (by assumption) ?_
  rotate_left
  · intro w hSw; (try dsimp only at hSw); go_simp
    first | done | with_reducible rfl
  try simp only [Act.put, List.setIfInBounds_toArray, List.set_cons_zero, List.set_cons_succ]
  refine wpAnyN_takeD (some 82) (by rfl) (i := 19) (oi := _) (v := ?_) rfl (by kernel_rfl) (by kernel_rfl) (by kernel_rfl) (by kernel_rfl) (fun _ _ _ h => h) (Or.inl ⟨by rfl, ?_⟩) (by assumption) ?_
  rotate_left
  · intro w hSw; (try dsimp only at hSw); go_simp
    first | done | with_reducible rfl
  try simp only [Act.put, List.setIfInBounds_toArray, List.set_cons_zero, List.set_cons_succ]
  refine wpAnyN_takeD (some 83) (by rfl) (i := 20) (oi := _) (v := ?_) rfl (by kernel_rfl) (by kernel_rfl) (by kernel_rfl) (by kernel_rfl) (fun _ _ _ h => h) (Or.inl ⟨by rfl, ?_⟩) (by assumption) ?_
  rotate_left
  · intro w hSw; (try dsimp only at hSw); go_simp
    first | done | with_reducible rfl
  try simp only [Act.put, List.setIfInBounds_toArray, List.set_cons_zero, List.set_cons_succ]
  refine wpAnyN_takeD (some 84) (by rfl) (i := 21) (oi := _) (v := ?_) rfl (by kernel_rfl) (by kernel_rfl) (by kernel_rfl) (by kernel_rfl) (fun _ _ _ h => h) (Or.inl ⟨by rfl, ?_⟩) (by assumption) ?_
  rotate_left
  · intro w hSw; (try dsimp only at hSw); go_simp
    first | done | with_reducible rfl
  try simp only [Act.put, List.setIfInBounds_toArray, List.set_cons_zero, List.set_cons_succ]
  refine wpAnyN_ready (rs := [22]) (by kernel_rfl) (by simp) ?_
  refine AllReadyN.held rfl (by rfl) (fun K hK => ?_) AllReadyN.nil
  go_simp
  refine (of11_calls _ 3 (by omega) (by omega) 3 div_3).mono ?_
  rintro e w122 ⟨v122, rfl, o122, b122⟩
  obtain ⟨s122, P122, q122, e122, P122', q122', e122', rfl, o122⟩ := o122.open_; have O122 := hide o122; clear o122
  have l22 : Later wx w122 := Later.trans (by first | assumption | (repeat (first | assumption | exact Later.refl _ | apply Later.drew | refine Later.alloc ?_ _))) b122
  refine hK.out _ _ ?_ (fun hHeld => ?_)
  · exact HT7.out _ (by first | assumption | (repeat (first | assumption | exact Later.refl _ | apply Later.drew | refine Later.alloc ?_ _)))
  clear hK K
  try simp only [Act.put, List.setIfInBounds_toArray, List.set_cons_zero, List.set_cons_succ]
  refine wpAnyN_ready (rs := [23]) (by kernel_rfl) (by simp) ?_
  refine AllReadyN.held rfl (by rfl) (fun K hK => ?_) AllReadyN.nil
  go_simp
  refine hK.out _ _ ?_ (fun hHeld => ?_)
  · exact HT7.out _ (by first | assumption | (repeat (first | assumption | exact Later.refl _ | apply Later.drew | refine Later.alloc ?_ _)))
  clear hK K
  try simp only [Act.put, List.setIfInBounds_toArray, List.set_cons_zero, List.set_cons_succ]
  refine wpAnyN_ready (rs := [24]) (by kernel_rfl) (by simp) ?_
  refine AllReadyN.held rfl (by rfl) (fun K hK => ?_) AllReadyN.nil
  go_simp
  refine (lsame_calls _ _ _ [3] [3] 1 1 (HX.out.later EOwn.later (by first | assumption | (repeat (first | assumption | exact Later.refl _ | apply Later.drew | refine Later.alloc ?_ _)))) (rats_one (E := EOwn) (Row.new w122 _ _) ((OwnR.later O122.out (by first | assumption | (repeat (first | assumption | exact Later.refl _ | apply Later.drew | refine Later.alloc ?_ _)))).weaken (Nat.zero_le _))) (sized_list1 (by simp)) (sized_list1 (by simp)) (by omega) (by omega) (by simp) true (by simp)).mono ?_
  rintro e w124 ⟨rfl, b124⟩

  have l24 : Later wx w124 := Later.trans (by first | assumption | (repeat (first | assumption | exact Later.refl _ | apply Later.drew | refine Later.alloc ?_ _))) b124
  refine hK.out _ _ ?_ (fun hHeld => ?_)
  · exact HT7.out _ (by first | assumption | (repeat (first | assumption | exact Later.refl _ | apply Later.drew | refine Later.alloc ?_ _)))
  clear hK K
  try simp only [Act.put, List.setIfInBounds_toArray, List.set_cons_zero, List.set_cons_succ]
  refine wpAnyN_takeD (some 88) (by rfl) (i := 25) (oi := _) (v := ?_) rfl (by kernel_rfl) (by kernel_rfl) (by kernel_rfl) (by kernel_rfl) (fun _ _ _ h => h) (Or.inl ⟨by rfl, ?_⟩) (by assumption) ?_
  rotate_left
  · intro w hSw; (try dsimp only at hSw); go_simp
    first | done | with_reducible rfl
  try simp only [Act.put, List.setIfInBounds_toArray, List.set_cons_zero, List.set_cons_succ]
  refine wpAnyN_takeD (some 89) (by rfl) (i := 26) (oi := _) (v := ?_) rfl (by kernel_rfl) (by kernel_rfl) (by kernel_rfl) (by kernel_rfl) (fun _ _ _ h => h) (Or.inl ⟨by rfl, ?_⟩) (by assumption) ?_
  rotate_left
  · intro w hSw; (try dsimp only at hSw); go_simp
    first | done | with_reducible rfl
  try simp only [Act.put, List.setIfInBounds_toArray, List.set_cons_zero, List.set_cons_succ]
  refine wpAnyN_takeD (some 90) (by rfl) (i := 27) (oi := _) (v := ?_) rfl (by kernel_rfl) (by kernel_rfl) (by kernel_rfl) (by kernel_rfl) (fun _ _ _ h => h) (Or.inl ⟨by rfl, ?_⟩) (by assumption) ?_
  rotate_left
  · intro w hSw; (try dsimp only at hSw); go_simp
    first | done | with_reducible rfl
  try simp only [Act.put, List.setIfInBounds_toArray, List.set_cons_zero, List.set_cons_succ]
  refine wpAnyN_ready (rs := [28]) (by kernel_rfl) (by simp) ?_
  refine AllReadyN.held rfl (by rfl) (fun K hK => ?_) AllReadyN.nil
  go_simp
  refine (pmay_calls _ _ _ _ _ _ _ _ _ _ _ _ _ _ _ _ 1 awP (HI.out.later (by first | assumption | (repeat (first | assumption | exact Later.refl _ | apply Later.drew | refine Later.alloc ?_ _))))).mono ?_
  rintro e w128 ⟨rfl, b128⟩
  rw [awP_may]
  have l28 : Later wx w128 := Later.trans (by first | assumption | (repeat (first | assumption | exact Later.refl _ | apply Later.drew | refine Later.alloc ?_ _))) b128
  refine hK.out _ _ ?_ (fun hHeld => ?_)
  · exact HT7.out _ (by first | assumption | (repeat (first | assumption | exact Later.refl _ | apply Later.drew | refine Later.alloc ?_ _)))
  clear hK K
  try simp only [Act.put, List.setIfInBounds_toArray, List.set_cons_zero, List.set_cons_succ]
  refine wpAnyN_takeD (some 92) (by rfl) (i := 29) (oi := _) (v := ?_) rfl (by kernel_rfl) (by kernel_rfl) (by kernel_rfl) (by kernel_rfl) (fun _ _ _ h => h) (Or.inl ⟨by rfl, ?_⟩) (by assumption) ?_
  rotate_left
  · intro w hSw; (try dsimp only at hSw); go_simp
    first | done | with_reducible rfl
  try simp only [Act.put, List.setIfInBounds_toArray, List.set_cons_zero, List.set_cons_succ]
  refine wpAnyN_takeD (some 93) (by rfl) (i := 30) (oi := _) (v := ?_) rfl (by kernel_rfl) (by kernel_rfl) (by kernel_rfl) (by kernel_rfl) (fun _ _ _ h => h) (Or.inl ⟨by rfl, ?_⟩) (by assumption) ?_
  rotate_left
  · intro w hSw; (try dsimp only at hSw); go_simp
    first | done | with_reducible rfl
  try simp only [Act.put, List.setIfInBounds_toArray, List.set_cons_zero, List.set_cons_succ]
  refine wpAnyN_takeD (some 94) (by rfl) (i := 31) (oi := _) (v := ?_) rfl (by kernel_rfl) (by kernel_rfl) (by kernel_rfl) (by kernel_rfl) (fun _ _ _ h => h) (Or.inl ⟨by rfl, ?_⟩) (by assumption) ?_
  rotate_left
  · intro w hSw; (try dsimp only at hSw); go_simp
    first | done | with_reducible rfl
  try simp only [Act.put, List.setIfInBounds_toArray, List.set_cons_zero, List.set_cons_succ]
  refine wpAnyN_ready (rs := [32]) (by kernel_rfl) (by simp) ?_
  refine AllReadyN.held rfl (by rfl) (fun K hK => ?_) AllReadyN.nil
  go_simp
  refine (right_std (HSI.out.later (by first | assumption | (repeat (first | assumption | exact Later.refl _ | apply Later.drew | refine Later.alloc ?_ _))))).mono ?_
  rintro e w132 ⟨rfl, b132⟩
  rw [awP_right]
  have l32 : Later wx w132 := Later.trans (by first | assumption | (repeat (first | assumption | exact Later.refl _ | apply Later.drew | refine Later.alloc ?_ _))) b132
  refine hK.out _ _ ?_ (fun hHeld => ?_)
  · exact HT7.out _ (by first | assumption | (repeat (first | assumption | exact Later.refl _ | apply Later.drew | refine Later.alloc ?_ _)))
  clear hK K
  try simp only [Act.put, List.setIfInBounds_toArray, List.set_cons_zero, List.set_cons_succ]
  refine wpAnyN_takeD (some 96) (by rfl) (i := 33) (oi := _) (v := ?_) rfl (by kernel_rfl) (by kernel_rfl) (by kernel_rfl) (by kernel_rfl) (fun _ _ _ h => h) (Or.inl ⟨by rfl, ?_⟩) (by assumption) ?_
  rotate_left
  · intro w hSw; (try dsimp only at hSw); go_simp
    first | done | with_reducible rfl
  try simp only [Act.put, List.setIfInBounds_toArray, List.set_cons_zero, List.set_cons_succ]
  refine wpAnyN_takeD (some 97) (by rfl) (i := 34) (oi := _) (v := ?_) rfl (by kernel_rfl) (by kernel_rfl) (by kernel_rfl) (by kernel_rfl) (fun _ _ _ h => h) (Or.inl ⟨by rfl, ?_⟩) (by assumption) ?_
  rotate_left
  · intro w hSw; (try dsimp only at hSw); go_simp
    first | done | with_reducible rfl
  try simp only [Act.put, List.setIfInBounds_toArray, List.set_cons_zero, List.set_cons_succ]
  refine wpAnyN_takeD (some 98) (by rfl) (i := 35) (oi := _) (v := ?_) rfl (by kernel_rfl) (by kernel_rfl) (by kernel_rfl) (by kernel_rfl) (fun _ _ _ h => h) (Or.inl ⟨by rfl, ?_⟩) (by assumption) ?_
  rotate_left
  · intro w hSw; (try dsimp only at hSw); go_simp
    first | done | with_reducible rfl
  try simp only [Act.put, List.setIfInBounds_toArray, List.set_cons_zero, List.set_cons_succ]
  refine wpAnyN_takeD (some 99) (by rfl) (i := 36) (oi := _) (v := ?_) rfl (by kernel_rfl) (by kernel_rfl) (by kernel_rfl) (by kernel_rfl) (fun _ _ _ h => h) (Or.inl ⟨by rfl, ?_⟩) (by assumption) ?_
  rotate_left
  · intro w hSw; (try dsimp only at hSw); go_simp
    first | done | with_reducible rfl
  try simp only [Act.put, List.setIfInBounds_toArray, List.set_cons_zero, List.set_cons_succ]
  refine wpAnyN_ready (rs := [37]) (by kernel_rfl) (by simp) ?_
  refine AllReadyN.held rfl (by rfl) (fun K hK => ?_) AllReadyN.nil
  go_simp
  refine (pfulfils_calls _ _ _ _ _ _ _ _ _ _ _ _ _ _ _ _ 1 awP (HI.out.later (by first | assumption | (repeat (first | assumption | exact Later.refl _ | apply Later.drew | refine Later.alloc ?_ _)))) _ [3] 1 (Own.raw1 (HX.out.later EOwn.later (by first | assumption | (repeat (first | assumption | exact Later.refl _ | apply Later.drew | refine Later.alloc ?_ _)))) (sized_list1 (by simp))) (by omega)).mono ?_
  rintro e w137 ⟨rfl, b137⟩
  rw [awP_ful]
  have l37 : Later wx w137 := Later.trans (by first | assumption | (repeat (first | assumption | exact Later.refl _ | apply Later.drew | refine Later.alloc ?_ _))) b137
  refine hK.out _ _ ?_ (fun hHeld => ?_)
  · exact HT7.out _ (by first | assumption | (repeat (first | assumption | exact Later.refl _ | apply Later.drew | refine Later.alloc ?_ _)))
  clear hK K
  try simp only [Act.put, List.setIfInBounds_toArray, List.set_cons_zero, List.set_cons_succ]
  refine wpAnyN_takeD (some 101) (by rfl) (i := 38) (oi := _) (v := ?_) rfl (by kernel_rfl) (by kernel_rfl) (by kernel_rfl) (by kernel_rfl) (fun _ _ _ h => h) (Or.inl ⟨by rfl, ?_⟩) (by assumption) ?_
  rotate_left
  · intro w hSw; (try dsimp only at hSw); go_simp
    first | done | with_reducible rfl
  try simp only [Act.put, List.setIfInBounds_toArray, List.set_cons_zero, List.set_cons_succ]
  refine wpAnyN_takeD (some 102) (by rfl) (i := 39) (oi := _) (v := ?_) rfl (by kernel_rfl) (by kernel_rfl) (by kernel_rfl) (by kernel_rfl) (fun _ _ _ h => h) (Or.inl ⟨by rfl, ?_⟩) (by assumption) ?_
  rotate_left
  · intro w hSw; (try dsimp only at hSw); go_simp
    first | done | with_reducible rfl
  try simp only [Act.put, List.setIfInBounds_toArray, List.set_cons_zero, List.set_cons_succ]
  refine wpAnyN_takeD (some 103) (by rfl) (i := 40) (oi := _) (v := ?_) rfl (by kernel_rfl) (by kernel_rfl) (by kernel_rfl) (by kernel_rfl) (fun _ _ _ h => h) (Or.inl ⟨by rfl, ?_⟩) (by assumption) ?_
  rotate_left
  · intro w hSw; (try dsimp only at hSw); go_simp
    first | done | with_reducible rfl
  try simp only [Act.put, List.setIfInBounds_toArray, List.set_cons_zero, List.set_cons_succ]
  refine wpAnyN_ready (rs := [41]) (by kernel_rfl) (by simp) ?_
  refine AllReadyN.held rfl (by rfl) (fun K hK => ?_) AllReadyN.nil
  go_simp
  refine (of11_calls _ 1 (by omega) (by omega) 1 div_1).mono ?_
  rintro e w141 ⟨v141, rfl, o141, b141⟩
  obtain ⟨s141, P141, q141, e141, P141', q141', e141', rfl, o141⟩ := o141.open_; have O141 := hide o141; clear o141
  have l41 : Later wx w141 := Later.trans (by first | assumption | (repeat (first | assumption | exact Later.refl _ | apply Later.drew | refine Later.alloc ?_ _))) b141
  refine hK.out _ _ ?_ (fun hHeld => ?_)
  · exact HT7.out _ (by first | assumption | (repeat (first | assumption | exact Later.refl _ | apply Later.drew | refine Later.alloc ?_ _)))
  clear hK K
  try simp only [Act.put, List.setIfInBounds_toArray, List.set_cons_zero, List.set_cons_succ]
  refine wpAnyN_ready (rs := [42]) (by kernel_rfl) (by simp) ?_
  refine AllReadyN.held rfl (by rfl) (fun K hK => ?_) AllReadyN.nil
  go_simp
  refine hK.out _ _ ?_ (fun hHeld => ?_)
  · exact HT7.out _ (by first | assumption | (repeat (first | assumption | exact Later.refl _ | apply Later.drew | refine Later.alloc ?_ _)))
  clear hK K
  try simp only [Act.put, List.setIfInBounds_toArray, List.set_cons_zero, List.set_cons_succ]
  refine wpAnyN_ready (rs := [43]) (by kernel_rfl) (by simp) ?_
  refine AllReadyN.held rfl (by rfl) (fun K hK => ?_) AllReadyN.nil
  go_simp
  refine (pfulfils_calls _ _ _ _ _ _ _ _ _ _ _ _ _ _ _ _ 1 awP (HI.out.later (by first | assumption | (repeat (first | assumption | exact Later.refl _ | apply Later.drew | refine Later.alloc ?_ _)))) _ [1] 1 (Own.raw1 (rats_one (E := EOwn) (Row.new w141 _ _) ((OwnR.later O141.out (by first | assumption | (repeat (first | assumption | exact Later.refl _ | apply Later.drew | refine Later.alloc ?_ _)))).weaken (Nat.zero_le _))) (sized_list1 (by simp))) (by omega)).mono ?_
  rintro e w143 ⟨rfl, b143⟩
  rw [awP_nful]
  have l43 : Later wx w143 := Later.trans (by first | assumption | (repeat (first | assumption | exact Later.refl _ | apply Later.drew | refine Later.alloc ?_ _))) b143
  refine hK.out _ _ ?_ (fun hHeld => ?_)
  · exact HT7.out _ (by first | assumption | (repeat (first | assumption | exact Later.refl _ | apply Later.drew | refine Later.alloc ?_ _)))
  clear hK K
  try simp only [Act.put, List.setIfInBounds_toArray, List.set_cons_zero, List.set_cons_succ]
  refine wpAnyN_takeD (some 107) (by rfl) (i := 44) (oi := _) (v := ?_) rfl (by kernel_rfl) (by kernel_rfl) (by kernel_rfl) (by kernel_rfl) (fun _ _ _ h => h) (Or.inl ⟨by rfl, ?_⟩) (by assumption) ?_
  rotate_left
  · intro w hSw; (try dsimp only at hSw); go_simp
    first | done | with_reducible rfl
  try simp only [Act.put, List.setIfInBounds_toArray, List.set_cons_zero, List.set_cons_succ]
  refine wpAnyN_takeD (some 108) (by rfl) (i := 45) (oi := _) (v := ?_) rfl (by kernel_rfl) (by kernel_rfl) (by kernel_rfl) (by kernel_rfl) (fun _ _ _ h => h) (Or.inl ⟨by rfl, ?_⟩) (by assumption) ?_
  rotate_left
  · intro w hSw; (try dsimp only at hSw); go_simp
    first | done | with_reducible rfl
  try simp only [Act.put, List.setIfInBounds_toArray, List.set_cons_zero, List.set_cons_succ]
  refine wpAnyN_takeD (some 109) (by rfl) (i := 46) (oi := _) (v := ?_) rfl (by kernel_rfl) (by kernel_rfl) (by kernel_rfl) (by kernel_rfl) (fun _ _ _ h => h) (Or.inl ⟨by rfl, ?_⟩) (by assumption) ?_
  rotate_left
  · intro w hSw; (try dsimp only at hSw); go_simp
    first | done | with_reducible rfl
  try simp only [Act.put, List.setIfInBounds_toArray, List.set_cons_zero, List.set_cons_succ]
  refine wpAnyN_takeD (some 110) (by rfl) (i := 47) (oi := _) (v := ?_) rfl (by kernel_rfl) (by kernel_rfl) (by kernel_rfl) (by kernel_rfl) (fun _ _ _ h => h) (Or.inl ⟨by rfl, ?_⟩) (by assumption) ?_
  rotate_left
  · intro w hSw; (try dsimp only at hSw); go_simp
    first | done | with_reducible rfl
  try simp only [Act.put, List.setIfInBounds_toArray, List.set_cons_zero, List.set_cons_succ]
  refine wpAnyN_takeD (some 111) (by rfl) (i := 48) (oi := _) (v := ?_) rfl (by kernel_rfl) (by kernel_rfl) (by kernel_rfl) (by kernel_rfl) (fun _ _ _ h => h) (Or.inl ⟨by rfl, ?_⟩) (by assumption) ?_
  rotate_left
  · intro w hSw; (try dsimp only at hSw); go_simp
    first | done | with_reducible rfl
  try simp only [Act.put, List.setIfInBounds_toArray, List.set_cons_zero, List.set_cons_succ]
  refine wpAnyN_takeD (some 112) (by rfl) (i := 49) (oi := _) (v := ?_) rfl (by kernel_rfl) (by kernel_rfl) (by kernel_rfl) (by kernel_rfl) (fun _ _ _ h => h) (Or.inl ⟨by rfl, ?_⟩) (by assumption) ?_
  rotate_left
  · intro w hSw; (try dsimp only at hSw); go_simp
    first | done | with_reducible rfl
  try simp only [Act.put, List.setIfInBounds_toArray, List.set_cons_zero, List.set_cons_succ]
  refine wpAnyN_takeD (some 113) (by rfl) (i := 50) (oi := _) (v := ?_) rfl (by kernel_rfl) (by kernel_rfl) (by kernel_rfl) (by kernel_rfl) (fun _ _ _ h => h) (Or.inl ⟨by rfl, ?_⟩) (by assumption) ?_
  rotate_left
  · intro w hSw; (try dsimp only at hSw); go_simp
    first | done | with_reducible rfl
  try simp only [Act.put, List.setIfInBounds_toArray, List.set_cons_zero, List.set_cons_succ]
  refine wpAnyN_ready (rs := [51]) (by kernel_rfl) (by simp) ?_
  refine AllReadyN.held rfl (by rfl) (fun K hK => ?_) AllReadyN.nil
  go_simp
  refine (of11_calls _ 3 (by omega) (by omega) 3 div_3).mono ?_
  rintro e w151 ⟨v151, rfl, o151, b151⟩
  obtain ⟨s151, P151, q151, e151, P151', q151', e151', rfl, o151⟩ := o151.open_; have O151 := hide o151; clear o151
  have l51 : Later wx w151 := Later.trans (by first | assumption | (repeat (first | assumption | exact Later.refl _ | apply Later.drew | refine Later.alloc ?_ _))) b151
  refine hK.out _ _ ?_ (fun hHeld => ?_)
  · exact HT7.out _ (by first | assumption | (repeat (first | assumption | exact Later.refl _ | apply Later.drew | refine Later.alloc ?_ _)))
  clear hK K
  try simp only [Act.put, List.setIfInBounds_toArray, List.set_cons_zero, List.set_cons_succ]
  refine wpAnyN_ready (rs := [52]) (by kernel_rfl) (by simp) ?_
  refine AllReadyN.held rfl (by rfl) (fun K hK => ?_) AllReadyN.nil
  go_simp
  refine (qsame_calls _ _ _ 3 3 0 0 1 1 (OwnR.later HC.out (by first | assumption | (repeat (first | assumption | exact Later.refl _ | apply Later.drew | refine Later.alloc ?_ _)))) ((OwnR.later O151.out (by first | assumption | (repeat (first | assumption | exact Later.refl _ | apply Later.drew | refine Later.alloc ?_ _)))).weaken (Nat.zero_le _)) sized_3 sized_3 (by omega) (by omega) true (by decide)).mono ?_
  rintro e w152 ⟨rfl, b152⟩

  have l52 : Later wx w152 := Later.trans (by first | assumption | (repeat (first | assumption | exact Later.refl _ | apply Later.drew | refine Later.alloc ?_ _))) b152
  refine hK.out _ _ ?_ (fun hHeld => ?_)
  · exact HT7.out _ (by first | assumption | (repeat (first | assumption | exact Later.refl _ | apply Later.drew | refine Later.alloc ?_ _)))
  clear hK K
  try simp only [Act.put, List.setIfInBounds_toArray, List.set_cons_zero, List.set_cons_succ]
  refine wpAnyN_takeD (some 116) (by rfl) (i := 53) (oi := _) (v := ?_) rfl (by kernel_rfl) (by kernel_rfl) (by kernel_rfl) (by kernel_rfl) (fun _ _ _ h => h) (Or.inl ⟨by rfl, ?_⟩) (by assumption) ?_
  rotate_left
  · intro w hSw; (try dsimp only at hSw); go_simp
    first | done | with_reducible rfl
  try simp only [Act.put, List.setIfInBounds_toArray, List.set_cons_zero, List.set_cons_succ]
  refine wpAnyN_takeD (some 0) (by rfl) (i := 54) (oi := _) (v := ?_) rfl (by kernel_rfl) (by kernel_rfl) (by kernel_rfl) (by kernel_rfl) (fun _ _ _ h => h) (Or.inl ⟨by rfl, ?_⟩) (by assumption) ?_
  rotate_left
  · intro w hSw; (try dsimp only at hSw); go_simp
    first | done | with_reducible rfl
  try simp only [Act.put, List.setIfInBounds_toArray, List.set_cons_zero, List.set_cons_succ]
  refine wpAnyN_done (by kernel_rfl) ?_ _
  have LE := hide (HL.out.trans (HLx.out.trans l52))
  clear hHeld
  go_wp2_with fail
  exact HQ.out _ _ rfl rfl LE.out
end Go.Proofs.YtfokplidiboabaaGreat
