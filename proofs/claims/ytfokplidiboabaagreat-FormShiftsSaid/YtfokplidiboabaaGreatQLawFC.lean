import Derived.Test.YtfokplidiboabaaGreatRows
import Derived.Test.YtfokplidiboabaaGreatQ26

set_option linter.unusedVariables false
set_option linter.unusedSimpArgs false
set_option maxRecDepth 100000
namespace Go.Proofs.YtfokplidiboabaaGreat
open Go.RowKit Go.Shelf
attribute [local go_sem ↓] Go.wp_at_zero Go.wp_at_succ

theorem sized_axpy {a b : List Rat} {q : Rat} {k m p : Nat} (ha : ∀ x ∈ a, Sized x k) (hb : ∀ x ∈ b, Sized x m) (hq : Sized q p) : ∀ x ∈ axpyL a b q, Sized x (k + (p + m) + 1) := by
  unfold axpyL
  induction a generalizing b with
  | nil => simp
  | cons x a ih => cases b with
    | nil => simp
    | cons y b =>
      intro z hz
      rw [List.zipWith_cons_cons] at hz
      rcases List.mem_cons.1 hz with rfl | hz
      · exact (ha x (List.mem_cons_self ..)).add (hq.mul (hb y (List.mem_cons_self ..)))
      · exact ih (fun q h => ha q (List.mem_cons_of_mem _ h)) (fun q h => hb q (List.mem_cons_of_mem _ h)) z hz
end Go.Proofs.YtfokplidiboabaaGreat


set_option linter.unusedVariables false
set_option linter.unusedSimpArgs false
namespace Go.Proofs.YtfokplidiboabaaGreat

theorem foldl_add (l : List Rat) (x : Rat) : l.foldl (· + ·) x = x + l.foldl (· + ·) 0 := by
  induction l generalizing x with
  | nil => simp only [List.foldl_nil]; grind
  | cons y l ih => simp only [List.foldl_cons]; rw [ih (x + y), ih (0 + y)]; grind
theorem sumR_cons (x : Rat) (l : List Rat) : sumR (x :: l) = x + sumR l := by
  unfold sumR; rw [List.foldl_cons, foldl_add]; grind
theorem dotL_comm (a b : List Rat) : dotL a b = dotL b a := by
  unfold dotL
  rw [List.zipWith_comm]
  congr 2
  funext x y; grind
end Go.Proofs.YtfokplidiboabaaGreat


set_option linter.unusedVariables false
set_option linter.unusedSimpArgs false
set_option maxRecDepth 100000
namespace Go.Proofs.YtfokplidiboabaaGreat
open Go.RowKit Go.Shelf
attribute [local go_sem ↓] Go.wp_at_zero Go.wp_at_succ

theorem axpy_get {a b : List Rat} {q : Rat} {j : Nat} (h1 : j < a.length) (h2 : j < b.length) : (axpyL a b q).getD j 0 = a.getD j 0 + q * b.getD j 0 := by
  unfold axpyL
  simp only [List.getD_eq_getElem?_getD, List.getElem?_zipWith, List.getElem?_eq_getElem h1, List.getElem?_eq_getElem h2, Option.getD_some]
end Go.Proofs.YtfokplidiboabaaGreat


set_option linter.unusedVariables false
set_option linter.unusedSimpArgs false
set_option maxRecDepth 100000
namespace Go.Proofs.YtfokplidiboabaaGreat

theorem dotL_nil (z : List Rat) : dotL [] z = 0 := by unfold dotL; rw [List.zipWith_nil_left]; rfl
theorem dotL_cons (x y : Rat) (a b : List Rat) : dotL (x :: a) (y :: b) = x * y + dotL a b := by
  unfold dotL; rw [List.zipWith_cons_cons, sumR_cons]
theorem dotL_add : ∀ (a b z : List Rat) (q : Rat), a.length = b.length → dotL (axpyL a b q) z = dotL a z + q * dotL b z := by
  intro a
  induction a with
  | nil =>
    intro b z q h
    cases b with
    | nil => rw [show axpyL [] [] q = [] from rfl, dotL_nil]; grind
    | cons y b => simp at h
  | cons x a ih =>
    intro b z q h
    cases b with
    | nil => simp at h
    | cons y b =>
      have hl : a.length = b.length := by simpa using h
      cases z with
      | nil => rw [dotL_comm _ [], dotL_comm _ [], dotL_comm _ [], dotL_nil, dotL_nil, dotL_nil]; grind
      | cons z zs => rw [axpy_cons, dotL_cons, dotL_cons, dotL_cons, ih b zs q hl]; grind
section
variable {A : List (List Rat)} {B C y u z r : List Rat} {ok : Bool}
end
end Go.Proofs.YtfokplidiboabaaGreat


set_option linter.unusedVariables false
set_option linter.unusedSimpArgs false
set_option maxRecDepth 100000
namespace Go.Proofs.YtfokplidiboabaaGreat

theorem axpy_getD_ {a b : List Rat} {q : Rat} {j : Nat} (h : a.length = b.length) : (axpyL a b q).getD j 0 = a.getD j 0 + q * b.getD j 0 := by
  by_cases hj : j < a.length
  · exact axpy_get hj (by omega)
  · rw [List.getD_eq_getElem?_getD, List.getElem?_eq_none (by rw [axpy_len_ h]; omega), List.getD_eq_getElem?_getD, List.getElem?_eq_none (by omega), List.getD_eq_getElem?_getD, List.getElem?_eq_none (by omega)]
    show (0 : Rat) = 0 + q * 0; grind
def shiftR (by_ : List Rat) (r : PRow) : PRow := { r with rhs := r.rhs + dotL r.coef by_ }
def shiftP (P : PLp) (by_ : List Rat) : PLp := { P with lo := axpyL P.lo by_ 1, hi := axpyL P.hi by_ 1, rows := P.rows.map (shiftR by_) }
section
variable {P : PLp} {by_ : List Rat} (h : LpP P) (hb : by_.length = P.cost.length)
include h hb
theorem shift_may : LpP (shiftP P by_) := by
  have hl : (axpyL P.lo by_ 1).length = P.cost.length := by rw [axpy_len_ (by rw [h.lo, hb]), h.lo]
  have hh : (axpyL P.hi by_ 1).length = P.cost.length := by rw [axpy_len_ (by rw [h.hi, hb]), h.hi]
  refine ⟨h.n1, h.n24, hl, hh, h.opn, by show (P.rows.map _).length ≤ 24; rw [List.length_map]; exact h.rl, h.f, fun r hr => ?_, fun j hj ho => ?_⟩
  · obtain ⟨r0, hr0, rfl⟩ := List.mem_map.1 hr
    exact h.rows r0 hr0
  · show (axpyL P.lo by_ 1).getD j 0 ≤ (axpyL P.hi by_ 1).getD j 0
    rw [axpy_getD_ (by rw [h.lo, hb]), axpy_getD_ (by rw [h.hi, hb])]
    have := h.ends j hj ho; grind
omit h hb in
theorem shift_extra (by_ : List Rat) (P : PLp) : extraL (shiftP P by_) = extraL P := by
  have : ∀ (rs : List PRow) i, extraR (rs.map (shiftR by_)) i = extraR rs i := by
    intro rs
    induction rs with
    | nil => intro i; rfl
    | cons r rs ih => intro i; rw [List.map_cons, extraR_cons, extraR_cons, ih]; rfl
  show extraR (P.rows.map _) 0 ++ extraE P.opn (P.rows.map _).length = _
  rw [this, List.length_map]; rfl
theorem shift_dot (c : List Rat) : dotL c (axpyL P.lo by_ 1) = dotL c P.lo + dotL c by_ := by
  rw [dotL_comm, dotL_add P.lo by_ c 1 (by rw [h.lo, hb]), dotL_comm P.lo, dotL_comm by_]; grind
theorem shift_B : baseB (shiftP P by_) = baseB P := by
  unfold baseB
  congr 1
  · show (P.rows.map (shiftR by_)).map _ = _
    rw [List.map_map]
    refine List.map_congr_left fun r _ => ?_
    show (r.rhs + dotL r.coef by_) - dotL r.coef (axpyL P.lo by_ 1) = _
    rw [shift_dot h hb]; grind
  · refine List.map_congr_left fun j _ => ?_
    show (axpyL P.hi by_ 1).getD j 0 - (axpyL P.lo by_ 1).getD j 0 = _
    rw [axpy_getD_ (show P.hi.length = by_.length by rw [h.hi, hb]), axpy_getD_ (show P.lo.length = by_.length by rw [h.lo, hb])]; grind
omit h hb in
theorem shift_A (by_ : List Rat) (P : PLp) : baseA (shiftP P by_) = baseA P := by
  unfold baseA
  congr 1
  show (P.rows.map (shiftR by_)).map _ = _
  rw [List.map_map]; rfl
theorem shift_std : stdA (shiftP P by_) = stdA P ∧ stdB (shiftP P by_) = stdB P ∧ stdC (shiftP P by_) = stdC P := by
  refine ⟨?_, ?_, ?_⟩
  · unfold stdA wideA; rw [shift_B h hb, shift_A, shift_extra]
  · unfold stdB; rw [shift_B h hb]
  · unfold stdC; rw [shift_extra]; rfl
theorem shift_rest : restV (shiftP P by_) = restV P + dotL P.cost by_ := shift_dot h hb P.cost
end
end Go.Proofs.YtfokplidiboabaaGreat

/- Problems: rows of a problem of one's own: what they come to is one's own, coefficients are somebody else's. -/
set_option linter.unusedVariables false
set_option linter.unusedSimpArgs false
set_option maxRecDepth 100000
namespace Go.Proofs.YtfokplidiboabaaGreat
open Go.RowKit Go.Shelf
attribute [local go_sem ↓] Go.wp_at_zero Go.wp_at_succ

section
variable {w : World} {o : Oper} {a : Act} {K : Act → World → Prop} {Q : Exit → Act → World → Prop}
theorem wp_append_ownF {P : Program} (s x : Operand) (t : TypeId)
    (ho : o.op = .call { callee := .builtin .append, args := #[s, x], argTypes := #[t, t] })
    (base : Nat) (e : TypeId) (z : Value) (size bytes : Nat) (ht : P.underlying t = some (.slice e)) (hinfo : (P.info? e).map (fun i => (i.zero, i.size, i.bytes)) = some (some z, size, bytes))
    (hzs : z.cells.size = size) (hsz : 0 < size) (hby : bytes ≤ 1024)
    (v : Value) (n : Nat) (xs : List Value) (hs : a.eval s = v) (hown : w.ownsRow base e size v n xs)
    (ad : Addr) (m c : Nat) (news : List Value) (hx : a.eval x = .slice (some ad) m c) (hl : news.length = m * size) (hnews : ∀ j u, news[j]? = some u → w.cell? (ad.add j) = some u) (h1 : ∀ u ∈ news, u.oneCell' = true)
    (hnm : n + m ≤ 4000000000) (hbase : base ≤ w.heap.size)
    (h : ∀ v' w', w'.ownsRow base e size v' (n + m) (xs ++ news) → w.grownBy w' v.ownBlock → (v'.ownBlock = v.ownBlock ∨ v'.ownBlock = some w.heap.size) → K (a.put o.dst v') w') : o.wp P a w K Q := by
  obtain ⟨i, hi, hz0, hz1, hz2⟩ := info_parts hinfo
  have h5 : (n + m) * bytes ≤ 4000000000 * 1024 := Nat.mul_le_mul hnm hby
  obtain ⟨v', w', hr, h2, h3, h4, h5⟩ := run_append_own_at (P := P) w base t o.type e i z size bytes ht hi hz0 hz1 hz2 hzs hsz v n xs hown ad m c news hl hnews h1 (by unfold maxLen; omega) (by omega) hbase
  unfold Oper.wp execOp
  simp only [ho, resolve, invoke, builtin, Sem.run_bind, Sem.run_pure, Result.andThen_ok, List.map_toArray, List.map_cons, List.map_nil, hs, hx, hr]
  exact h v' w' h2 h3 h5
end
theorem info_lrow : (Tryz.prog.info? 60).map (fun i => (i.zero, i.size, i.bytes)) = some (some (.agg #[.slice none 0 0, .int .i64 0, .bool false, .slice none 0 0, .bool false, .slice none 0 0]), 6, 96) := by kernel_rfl
theorem tLrow_u32 : 60 ≠ 160 := by decide
def cells6 (e : WCells × Int) : List Value := e.1.cells e.2
/-- a row of one's own: its coefficients are at W0 -/
structure RowQ (w0 : World) (e : WCells × Int) (x : PRow) : Prop where
  sense : e.2 = x.sense
  coef : Rats (ERaw 1) w0 e.1.coef x.coef
  fl : ∃ fc, Rats EFlag w0 e.1.coef fc ∧ allF fc = true
  f : x.f = true
  cl : x.coef.length ≤ 1000
  sfit : IFit_ x.sense
  sz : Sized x.rhs 100
/-- rows that are being built -/
def OutRw (w0 w : World) (lo : Nat) (v : Value) (l : List PRow) : Prop :=
  ∃ es : List (WCells × Int), es.length = l.length ∧ w.ownsRow lo 60 6 v l.length (es.flatMap cells6) ∧ ∀ (i : Nat) e x, es[i]? = some e → l[i]? = some x → RowQ w0 e x ∧ OwnR w 0 e.1.e.val x.rhs
theorem OutRw.nil (w0 w : World) (lo : Nat) : OutRw w0 w lo (.slice none 0 0) [] := ⟨[], rfl, World.ownsRow_nil w lo _ 6, fun i e x hi => by simp at hi⟩
theorem OutRw.keep {w0 w w' : World} {lo : Nat} {v : Value} {l : List PRow} (h : OutRw w0 w lo v l) (k : KeepU w w') (hv : ∀ g, v.ownBlock = some g → w'.heap[g]? = w.heap[g]?) : OutRw w0 w' lo v l := by
  obtain ⟨es, h1, ⟨k1, k2⟩, h3⟩ := h
  refine ⟨es, h1, ⟨k1, ?_⟩, fun i e x e1 e2 => ⟨(h3 i e x e1 e2).1, (h3 i e x e1 e2).2.keepU k⟩⟩
  rcases k2 with k2 | ⟨g, cap, cur, rfl, hb, hg, r⟩
  · exact .inl k2
  · exact .inr ⟨g, cap, cur, rfl, hb, (hv g rfl).trans hg, r⟩
theorem OutRw.lt {w0 w : World} {lo : Nat} {v : Value} {l : List PRow} (h : OutRw w0 w lo v l) : ∀ k, v.ownBlock = some k → lo ≤ k ∧ k < w.heap.size := by
  obtain ⟨es, h1, h2, -⟩ := h; exact World.ownsRow.lt h2
theorem OutRw.later {w0 w w' : World} {lo : Nat} {v : Value} {l : List PRow} (h : OutRw w0 w lo v l) (hb : Later w w') : OutRw w0 w' lo v l := h.keep (KeepU.later hb) fun g hg => hb.block g (h.lt g hg).2
theorem OutRw.form {w0 w : World} {lo : Nat} {v : Value} {l : List PRow} (h : OutRw w0 w lo v l) : ∃ A n c, v = .slice A n c := by
  obtain ⟨es, h1, k, -⟩ := h
  rcases k.2 with ⟨e, -⟩ | ⟨g, cap, cur, e, -⟩
  · exact ⟨_, _, _, e⟩
  · exact ⟨_, _, _, e⟩
theorem OutRw.only {w0 w w' : World} {lo g : Nat} {T : TypeId} {cs : List Value} {v : Value} {l : List PRow} (h : OutRw w0 w lo v l) (o : Only g w w') (r : Row w g T cs) (hT : T ≠ 160) (hg : v.ownBlock ≠ some g) : OutRw w0 w' lo v l :=
  h.keep (KeepU.only o r hT) fun k hk => o.block k fun e => hg (by rw [hk, e])
theorem wp_append_lrw {w : World} {o : Oper} {a : Act} {K : Act → World → Prop} {Q : Exit → Act → World → Prop} (s x : Operand) (ho : o.op = .call { callee := .builtin .append, args := #[s, x], argTypes := #[23, 23] })
    {w0 : World} {lo : Nat} {v : Value} {l : List PRow} {g : Nat} (e : WCells × Int) (y : PRow) (hs : a.eval s = v) (hown : OutRw w0 w lo v l) (hx : a.eval x = .slice (some ⟨g, 0, none⟩) 1 1) (hrow : Row w g 60 (cells6 e))
    (hq : RowQ w0 e y) (ho2 : OwnR w 0 e.1.e.val y.rhs) (hlen : l.length ≤ 3000000) (hbase : lo ≤ w.heap.size)
    (h : ∀ v' w', OutRw w0 w' lo v' (l ++ [y]) → w.grownBy w' v.ownBlock → (∃ A n c, v' = .slice A n c) → K (a.put o.dst v') w') : o.wp Tryz.prog a w K Q := by
  obtain ⟨es, h1, h2, h4⟩ := hown
  refine wp_append_ownF s x _ ho lo 60 _ 6 96 Tryz.underlying23 info_lrow rfl (by omega) (by omega) v l.length _ hs h2 ⟨g, 0, none⟩ 1 1 (cells6 e) hx rfl (fun j u hj => by rw [Go.WideShapes.add_plain, Nat.zero_add]; exact hrow.cell hj) (fun u hu => ?_) (by omega) hbase ?_
  · simp [cells6, WCells.cells] at hu
    rcases hu with rfl | rfl | rfl | rfl | rfl | rfl <;> rfl
  · intro v' w' k1 k2 k3
    have hk := KeepU.grown k2 h2 tLrow_u32
    have hout : OutRw w0 w' lo v' (l ++ [y]) := by
      refine ⟨es ++ [e], by simp [h1], by rw [List.length_append, List.flatMap_append, List.flatMap_cons, List.flatMap_nil, List.append_nil]; exact k1, fun i e' x' hi hq' => ?_⟩
      by_cases hlt : i < es.length
      · rw [List.getElem?_append_left hlt] at hi
        rw [List.getElem?_append_left (by omega)] at hq'
        exact ⟨(h4 i e' x' hi hq').1, (h4 i e' x' hi hq').2.keepU hk⟩
      · by_cases he : i = es.length
        · subst he
          rw [List.getElem?_append_right (Nat.le_refl _), Nat.sub_self] at hi
          rw [h1, List.getElem?_append_right (Nat.le_refl _), Nat.sub_self] at hq'
          simp at hi hq'
          subst hi hq'
          exact ⟨hq, ho2.keepU hk⟩
        · rw [List.getElem?_eq_none (by simp; omega)] at hi; cases hi
    exact h v' w' hout k2 hout.form
theorem wpList_append_lrw {w : World} {ops : Array Oper} {rest : List Oper} {o : Oper} {a : Act} {Q : Exit → Act → World → Prop} (hgd : o.guard = none) (s x : Operand) (ho : o.op = .call { callee := .builtin .append, args := #[s, x], argTypes := #[23, 23] })
    {w0 : World} {lo : Nat} {v : Value} {l : List PRow} {g : Nat} (e : WCells × Int) (y : PRow) (hs : a.eval s = v) (hown : OutRw w0 w lo v l) (hx : a.eval x = .slice (some ⟨g, 0, none⟩) 1 1) (hrow : Row w g 60 (cells6 e))
    (hq : RowQ w0 e y) (ho2 : OwnR w 0 e.1.e.val y.rhs) (hlen : l.length ≤ 3000000) (hbase : lo ≤ w.heap.size)
    (h : ∀ v' w', OutRw w0 w' lo v' (l ++ [y]) → w.grownBy w' v.ownBlock → (∃ A n c, v' = .slice A n c) → wpList Tryz.prog ops Q rest (a.put o.dst v') w') : wpList Tryz.prog ops Q (o :: rest) a w :=
  wpList_plain hgd fun K hK => wp_append_lrw s x ho e y hs hown hx hrow hq ho2 hlen hbase fun v' w' h1 h2 h3 => hK _ _ (h v' w' h1 h2 h3)
theorem OutRw.lrows {w0 w : World} {lo : Nat} {v : Value} {l : List PRow} (h : OutRw w0 w lo v l) (hb : Later w0 w) : LRows (ERow 100) w v l := by
  obtain ⟨es, h1, h2, h4⟩ := h
  obtain ⟨A, c, e, k1, k2, k3⟩ := Sq.of_own (enc := cells6) (m := 6) (fun _ => rfl) (l := es) (by rw [h1]; exact h2)
  refine ⟨A, c, by rw [e, h1], by omega, k2, fun i x hx => ?_⟩
  have hil : i < es.length := by rw [h1]; exact (List.getElem?_eq_some_iff.1 hx).1
  obtain ⟨b, off, ha, hc⟩ := k3 i es[i] (List.getElem?_eq_getElem hil)
  obtain ⟨q, ho⟩ := h4 i es[i] x (List.getElem?_eq_getElem hil) hx
  refine ⟨b, off, ha, es[i].1, fun j u hj => hc j u (by unfold cells6; rw [q.sense]; exact hj), ?_⟩
  obtain ⟨fc, hfc, hall⟩ := q.fl
  exact { coef := (q.coef.later ERaw.later hb).map fun v q _ h => RawR.mono h (by omega)
          rhs := OwnR.raw ho q.sz, cl := q.cl, sfit := q.sfit
          flags := ⟨fc, 1, hfc.later EFlag.later hb, EFlag.of_own ho (q.sz.mono (by omega)), by rw [q.f, hall]; rfl⟩ }
/-- flags of a problem that may be -/
theorem LpIn.fcost {w : World} {vC vR vL vH vO : Value} {k : Nat} {P : PLp} (h : LpIn w vC vR vL vH vO k P) (hP : P.f = true) : ∃ fC, Rats EFlag w vC fC ∧ allF fC = true := by
  obtain ⟨fC, fL, fH, h1, h2, h3, h4⟩ := h.flags
  rw [hP] at h4
  refine ⟨fC, h1, ?_⟩
  cases h5 : allF fC
  · rw [h5] at h4; cases h4
  · rfl
theorem ERowS.fcoef {w : World} {r : WCells} {x : PRow} {k : Nat} (h : ERowS k w r x) (hx : x.f = true) : ∃ fc, Rats EFlag w r.coef fc ∧ allF fc = true := by
  obtain ⟨fc, fr, h1, h2, h3⟩ := h.flags
  rw [hx] at h3
  refine ⟨fc, h1, ?_⟩
  cases h5 : allF fc
  · rw [h5] at h3; cases h3
  · rfl
/-- a problem with bounds and rows of one's own -/
theorem lp_ownq {w : World} {vC vR vL vH vO : Value} {cost lo hi : List Rat} {rows : List PRow} {opn : List Bool}
    (hc : Rats (ERaw 100) w vC cost) (hr : LRows (ERow 100) w vR rows) (hl : Rats EOwn w vL lo) (hh : Rats EOwn w vH hi) (ho : Bools w vO opn) (hf : ∃ fC, Rats EFlag w vC fC ∧ allF fC = true)
    (sl : ∀ q ∈ lo, Sized q 100) (sh : ∀ q ∈ hi, Sized q 100) (l1 : cost.length ≤ 1000) (l2 : rows.length ≤ 1000) (l3 : lo.length ≤ 1000) (l4 : hi.length ≤ 1000) (l5 : opn.length ≤ 1000) :
    LpIn w vC vR vL vH vO 100 ⟨cost, rows, lo, hi, opn, true⟩ := by
  obtain ⟨fC, h1, h2⟩ := hf
  exact { cost := hc, rows := hr, lo := hl.map fun v q hq he => OwnR.raw (B := 0) he (sl q hq), hi := hh.map fun v q hq he => OwnR.raw (B := 0) he (sh q hq), opn := ho,
          flags := ⟨fC, _, _, h1, rats_own_flags hl (fun q hq => (sl q hq).mono (by omega)), rats_own_flags hh (fun q hq => (sh q hq).mono (by omega)), by rw [h2, allF_ones, allF_ones]; rfl⟩,
          kk := by omega, cl := l1, rl := l2, ll := l3, hl := l4, ol := l5 }
end Go.Proofs.YtfokplidiboabaaGreat

/- FormShifts, walk. -/
set_option linter.unusedVariables false
set_option linter.unusedSimpArgs false
set_option maxRecDepth 100000
namespace Go.Proofs.YtfokplidiboabaaGreat
open Go.RowKit Go.Shelf
attribute [local go_sem ↓] Go.wp_at_zero Go.wp_at_succ

theorem shift_all (P : PLp) (by_ : List Rat) (h : P.f = true) : shiftP P by_ = ⟨P.cost, P.rows.map (shiftR by_), axpyL P.lo by_ 1, axpyL P.hi by_ 1, P.opn, true⟩ := by
  unfold shiftP; rw [h]

set_option maxHeartbeats 16000000 in
theorem formshifts_walk (w : World) (v vb : Value) (by_ : List Rat) (h : ArgLp w v) (hx : Rats EAny w vb by_) : Calls Tryz.prog 8 #[v, vb] w (RetV w (.bool true)) := by
  obtain ⟨A1, n1, c1, A2, n2, c2, A3, n3, c3, A4, n4, c4, A5, n5, c5, cost, rows, lo, hi, opn, rfl, h1, h2, h3, h4, h5⟩ := h
  obtain ⟨Ax, nx, cx, rfl, hnx, -⟩ := hx.form
  have H1 := hide h1; have H2 := hide h2; have H3 := hide h3; have H4 := hide h4; have H5 := hide h5; have HX0 := hide hx; have HNX := hide hnx
  clear h1 h2 h3 h4 h5 hx hnx
  obtain ⟨W0, hW0⟩ : ∃ W0, W0 = (w.alloc (Obj.cells #[Value.slice A1 n1 c1, Value.slice A2 n2 c2, Value.slice A3 n3 c3, Value.slice A4 n4 c4, Value.slice A5 n5 c5] 26)) := ⟨_, rfl⟩
  obtain ⟨hb0, r0, hsz0⟩ := boxes1 w [.slice A1 n1 c1, .slice A2 n2 c2, .slice A3 n3 c3, .slice A4 n4 c4, .slice A5 n5 c5] 26 hW0
  have B0 := hide hb0; have HW0 := hide hW0; have HSZ0 := hide hsz0
  have R0 := hide r0
  clear hb0 hW0 hsz0 r0
  go_enter Tryz.func8, Tryz.ntmps8
  go_upto_region 1 with fail
  rw [← HW0.out]
  go_wp2_with fail
  refine (awake11_calls _).mono ?_
  rintro e w1 ⟨rfl, b1⟩
  have HL1 := hide b1
  clear b1
  have r_d := R0.out.later HL1.out
  have d0 := r_d.cell (i := 0) rfl; have d1 := r_d.cell (i := 1) rfl; have d2 := r_d.cell (i := 2) rfl; have d3 := r_d.cell (i := 3) rfl; have d4 := r_d.cell (i := 4) rfl
  clear r_d
  go_wp2_with fail
  have hl1 := hide (B0.out.trans HL1.out)
  refine (fewlp_calls _ _ _ _ _ _ _ _ _ _ _ _ _ _ _ _ cost rows lo hi opn 4 (by omega) (H1.out.later EAny.later hl1.out) (H2.out.later EAnyRow.later hl1.out) (H3.out.later EAny.later hl1.out) (H4.out.later EAny.later hl1.out) (H5.out.later hl1.out)).mono ?_
  rintro e w2 ⟨t, rfl, hP, b2⟩
  have HL2 := hide (HL1.out.trans b2)
  clear b2 hl1 d0 d1 d2 d3 d4 H1 H2 H3 H4 H5
  have r_d := R0.out.later HL2.out
  have d0 := r_d.cell (i := 0) rfl; have d1 := r_d.cell (i := 1) rfl; have d2 := r_d.cell (i := 2) rfl; have d3 := r_d.cell (i := 3) rfl; have d4 := r_d.cell (i := 4) rfl
  clear r_d
  cases t with
  | false =>
    go_wp2_with fail
    go_ret
    exact ⟨rfl, B0.out.trans HL2.out⟩
  | true =>
    obtain ⟨P, hI, hc4, hlo4, hhi4, hr4, hrc4⟩ := hP rfl
    have HI2 := hide hI
    clear hP hI
    go_wp2_with fail
    refine (few_calls _ _ by_ 4 (HX0.out.later EAny.later (B0.out.trans HL2.out)) (by omega)).mono ?_
    rintro e w2' ⟨t, rfl, hX, rfl⟩
    cases t with
    | false =>
      go_wp2_with fail
      go_ret
      exact ⟨rfl, B0.out.trans HL2.out⟩
    | true =>
      have HX2 := hide (hX rfl)
      clear hX
      obtain ⟨u, hu⟩ : ∃ u, lpB P = u := ⟨_, rfl⟩
      have HU := hide hu
      clear hu
      go_wp2_with fail
      refine (rmay11_calls _ _ _ _ _ _ _ _ _ _ _ _ _ _ _ _ 1 P HI2.out).mono ?_
      rintro e w3 ⟨rfl, b3⟩
      rw [HU.out]
      have HL3 := hide (HL2.out.trans b3)
      have HI3 := hide (HI2.out.later b3); have HX3 := hide (HX2.out.2.later ERaw.later b3); have hx4 := HX2.out.1
      clear b3 d0 d1 d2 d3 d4 HI2 HX2
      have r_d := R0.out.later HL3.out
      have d0 := r_d.cell (i := 0) rfl; have d1 := r_d.cell (i := 1) rfl; have d2 := r_d.cell (i := 2) rfl; have d3 := r_d.cell (i := 3) rfl; have d4 := r_d.cell (i := 4) rfl
      clear r_d
      cases u with
      | false =>
          go_wp2_with fail
          go_ret
          exact ⟨rfl, B0.out.trans HL3.out⟩
      | true =>
        have HP := hide (lpB_iff.1 HU.out)
        have L1 := hide HI3.out.cost.len_; have L2 := hide HI3.out.rows.len_
        by_cases hlen : nx = n1
        rotate_left
        · have t1 : ((nx : Int) != (n1 : Int)) = true := by rw [bne_iff_ne]; omega
          go_wp2_with fail
          go_ret
          exact ⟨rfl, B0.out.trans HL3.out⟩
        have t1 : ((nx : Int) != (n1 : Int)) = false := by rw [hlen]; simp
        have HLEN : Hid (by_.length = P.cost.length) := hide (by rw [← HNX.out, ← L1.out]; exact hlen)
        have HLNlo : Hid (P.lo.length = by_.length) := hide (by rw [HLEN.out, HP.out.lo])
        have HLNhi : Hid (P.hi.length = by_.length) := hide (by rw [HLEN.out, HP.out.hi])
        clear hlen
        go_upto_region 6 with fail
        obtain ⟨w4, hw4⟩ : ∃ w4, w4 = w3.alloc (Obj.cells #[Value.slice A1 n1 c1, Value.slice A2 n2 c2, Value.slice A3 n3 c3, Value.slice A4 n4 c4, Value.slice A5 n5 c5] 26) := ⟨_, rfl⟩
        obtain ⟨G, hG⟩ : ∃ G, G = w3.heap.size := ⟨_, rfl⟩
        have bw4 : Later w3 w4 := by rw [hw4]; exact (Later.refl _).alloc _
        have rG : Row w4 G 26 [.slice A1 n1 c1, .slice A2 n2 c2, .slice A3 n3 c3, .slice A4 n4 c4, .slice A5 n5 c5] := by rw [hw4, hG]; exact Row.new _ _ _
        rw [← hw4, ← hG]
        have HW := hide bw4; have RG := hide rG
        have HL := hide (HL3.out.trans bw4); have HI := hide (HI3.out.later bw4); have HX := hide (HX3.out.later ERaw.later bw4)
        have HG : Hid (w3.heap.size ≤ G) := hide (by rw [hG]; exact Nat.le_refl _)
        have HG4 : Hid (w4.heap.size = G + 1) := hide (by rw [hw4, World.size_alloc, hG])
        clear hw4 bw4 hG rG d0 d1 d2 d3 d4 t1
        have HT1 : Hid (∀ w', Later w4 w' → w'.cell? ⟨w.heap.size, 0, none⟩ = some (.slice A1 n1 c1) ∧ w'.cell? ⟨w.heap.size, 1, none⟩ = some (.slice A2 n2 c2) ∧ w'.cell? ⟨w.heap.size, 2, none⟩ = some (.slice A3 n3 c3) ∧ w'.cell? ⟨w.heap.size, 3, none⟩ = some (.slice A4 n4 c4) ∧ w'.cell? ⟨w.heap.size, 4, none⟩ = some (.slice A5 n5 c5)) := hide fun W hW => by
          have h1 := R0.out.later (HL.out.trans hW)
          exact ⟨h1.cell (i := 0) rfl, h1.cell (i := 1) rfl, h1.cell (i := 2) rfl, h1.cell (i := 3) rfl, h1.cell (i := 4) rfl⟩
        have hmx : Tryz.prog.follows .mixedOrders = true := by kernel_rfl
        refine wp_region_M (fun w' => w'.cell? ⟨w.heap.size, 0, none⟩ = some (.slice A1 n1 c1) ∧ w'.cell? ⟨w.heap.size, 1, none⟩ = some (.slice A2 n2 c2) ∧ w'.cell? ⟨w.heap.size, 2, none⟩ = some (.slice A3 n3 c3) ∧ w'.cell? ⟨w.heap.size, 3, none⟩ = some (.slice A4 n4 c4) ∧ w'.cell? ⟨w.heap.size, 4, none⟩ = some (.slice A5 n5 c5)) [9] hmx (HT1.out _ lt_) (fun hHeld => ?_)
        refine wpAnyM_takeD (some 43) (by rfl) (i := 0) (oi := _) (v := ?_) rfl (by kernel_rfl) (by kernel_rfl) (by kernel_rfl) (by kernel_rfl) (fun _ _ _ h => h) (Or.inl ⟨by rfl, ?_⟩) (by assumption) ?_
        rotate_left
        · intro w hSw; (try dsimp only at hSw); go_simp
          first | done | with_reducible rfl
        try simp only [Act.put, List.setIfInBounds_toArray, List.set_cons_zero, List.set_cons_succ]
        refine wpAnyM_takeD (some 44) (by rfl) (i := 1) (oi := _) (v := ?_) rfl (by kernel_rfl) (by kernel_rfl) (by kernel_rfl) (by kernel_rfl) (fun _ _ _ h => h) (Or.inl ⟨by rfl, ?_⟩) (by assumption) ?_
        rotate_left
        · intro w hSw; (try dsimp only at hSw); go_simp
          first | done | with_reducible rfl
        try simp only [Act.put, List.setIfInBounds_toArray, List.set_cons_zero, List.set_cons_succ]
        refine wpAnyM_takeD (some 45) (by rfl) (i := 2) (oi := _) (v := ?_) rfl (by kernel_rfl) (by kernel_rfl) (by kernel_rfl) (by kernel_rfl) (fun _ _ _ h => h) (Or.inl ⟨by rfl, ?_⟩) (by assumption) ?_
        rotate_left
        · intro w hSw; (try dsimp only at hSw); go_simp
          first | done | with_reducible rfl
        try simp only [Act.put, List.setIfInBounds_toArray, List.set_cons_zero, List.set_cons_succ]
        refine wpAnyM_ready (rs := [3]) (by kernel_rfl) (by simp) ?_
        refine AllReadyM.held rfl (by rfl) (fun K hK => ?_) AllReadyM.nil
        go_simp
        refine (of11_calls _ 1 (by omega) (by omega) 1 div_1).mono ?_
        rintro e w5 ⟨v5, rfl, o5, b5⟩
        obtain ⟨s5, P5, q5, e5, P5', q5', e5', rfl, o5⟩ := o5.open_; have O5 := hide o5; clear o5
        have l5 : Later w4 w5 := Later.trans lt_ b5
        refine hK.out _ _ ?_ (fun hHeld => ?_)
        · exact HT1.out _ lt_
        clear hK K
        try simp only [Act.put, List.setIfInBounds_toArray, List.set_cons_zero, List.set_cons_succ]
        refine wpAnyM_ready (rs := [4]) (by kernel_rfl) (by simp) ?_
        refine AllReadyM.held rfl (by rfl) (fun K hK => ?_) AllReadyM.nil
        go_simp
        refine (qaddtimes_calls _ _ _ _ P.lo by_ 1 1 1 1 (HI.out.lo.later ERaw.later lt_) (HX.out.later ERaw.later lt_) (OwnR.raw O5.out sized_1) HLNlo.out (by omega) (by omega)).mono ?_
        rintro e w6 ⟨v6, ok6, rfl, ⟨o6, rfl⟩, b6⟩
        have l6 : Later w4 w6 := Later.trans lt_ b6
        have hr6 := o6.now
        obtain ⟨A6, n6, c6, rfl, -⟩ := hr6.form
        have HO6 := hide o6
        have HB5 : Hid (Later w4 w5) := hide l5
        have r6 := RG.out.later l6
        have f2 := r6.cell (i := 2) rfl
        have z2 := r6.frozen 2
        have R6 := hide r6
        clear o6 hr6 r6
        refine hK.out _ _ ?_ (fun hHeld => ?_)
        · exact HT1.out _ lt_
        clear hK K
        try simp only [Act.put, List.setIfInBounds_toArray, List.set_cons_zero, List.set_cons_succ]
        refine wpAnyM_takeD (some 42) (by rfl) (i := 5) (oi := _) (v := ?_) rfl (by kernel_rfl) (by kernel_rfl) (by kernel_rfl) (by kernel_rfl) (fun _ _ _ h => h) (Or.inl ⟨by rfl, ?_⟩) (by assumption) ?_
        rotate_left
        · intro w hSw; (try dsimp only at hSw); go_simp
          first | done | with_reducible rfl
        try simp only [Act.put, List.setIfInBounds_toArray, List.set_cons_zero, List.set_cons_succ]
        refine wpAnyM_takeD (some 48) (by rfl) (i := 6) (oi := _) (v := ?_) rfl (by kernel_rfl) (by kernel_rfl) (by kernel_rfl) (by kernel_rfl) (fun _ _ _ h => h) (Or.inl ⟨by rfl, ?_⟩) (by assumption) ?_
        rotate_left
        · intro w hSw; (try dsimp only at hSw); go_simp
          first | done | with_reducible rfl
        try simp only [Act.put, List.setIfInBounds_toArray, List.set_cons_zero, List.set_cons_succ]
        refine wpAnyM_takeP (some 49) (by rfl) (i := 7) (oi := _) (v := ?_) rfl (by kernel_rfl) (by kernel_rfl) (by kernel_rfl) (fun _ _ _ h => h) (Or.inl ⟨by rfl, ?_⟩) ?_
        rotate_left
        · intro w hSw; clear hSw; go_simp
          first | done | with_reducible rfl
        try simp only [Act.put, List.setIfInBounds_toArray, List.set_cons_zero, List.set_cons_succ]
        refine wpAnyM_takeD (some 50) (by rfl) (i := 8) (oi := _) (v := ?_) rfl (by kernel_rfl) (by kernel_rfl) (by kernel_rfl) (by kernel_rfl) (fun _ _ _ h => h) (Or.inl ⟨by rfl, ?_⟩) (by assumption) ?_
        rotate_left
        · intro w hSw; (try dsimp only at hSw); go_simp
          first | done | with_reducible rfl
        try simp only [Act.put, List.setIfInBounds_toArray, List.set_cons_zero, List.set_cons_succ]
        refine wpAnyM_ready (rs := [9]) (by kernel_rfl) (by simp) ?_
        refine AllReadyM.free rfl (by rfl) (by kernel_rfl) (fun K hK => ?_) AllReadyM.nil
        go_simp
        refine hK.out _ _ ?_
        clear hK K
        try simp only [Act.put, List.setIfInBounds_toArray, List.set_cons_zero, List.set_cons_succ]
        refine wpAnyM_done (by kernel_rfl) ?_ _
        obtain ⟨w7, hw7⟩ : ∃ W, W = w6.setCell ⟨G, 2, none⟩ (.slice A6 n6 c6) := ⟨_, rfl⟩
        rw [← hw7]
        have oo : Only G w6 w7 := by rw [hw7]; exact Only.one G w6 2 _
        have r7 : Row w7 G 26 [.slice A1 n1 c1, .slice A2 n2 c2, .slice A6 n6 c6, .slice A4 n4 c4, .slice A5 n5 c5] := by rw [hw7]; exact R6.out.set_ 2 _
        have hs5 := HB5.out.size; have hs6 := l6.size; have hG4 := HG4.out; have hb6 := b6.size
        have HO7 := hide (HO6.out.only oo (by omega))
        have HW7 := hide ((HW.out.trans l6).only oo HG.out)
        have HS7 : Hid (G < w5.heap.size ∧ w5.heap.size ≤ w7.heap.size) := hide ⟨by omega, by rw [oo.size]; omega⟩
        have RG7 := hide r7
        clear hw7 oo r7 hs5 hs6 hb6 hG4 HT1 hHeld R6 HO6 RG HB5 l5 f2 z2 O5 l6 b5 b6 HI HX HL
        have HL7 := hide (HL3.out.trans HW7.out)
        have HI7 := hide (HI3.out.later HW7.out); have HX7 := hide (HX3.out.later ERaw.later HW7.out)
        have r_d := R0.out.later HL7.out
        have d0 := r_d.cell (i := 0) rfl; have d1 := r_d.cell (i := 1) rfl; have d2 := r_d.cell (i := 2) rfl; have d3 := r_d.cell (i := 3) rfl; have d4 := r_d.cell (i := 4) rfl
        clear r_d
        go_upto_region 7 with fail
        clear d0 d1 d2 d3 d4
        have HT1 : Hid (∀ w', Later w7 w' → w'.cell? ⟨w.heap.size, 0, none⟩ = some (.slice A1 n1 c1) ∧ w'.cell? ⟨w.heap.size, 1, none⟩ = some (.slice A2 n2 c2) ∧ w'.cell? ⟨w.heap.size, 2, none⟩ = some (.slice A3 n3 c3) ∧ w'.cell? ⟨w.heap.size, 3, none⟩ = some (.slice A4 n4 c4) ∧ w'.cell? ⟨w.heap.size, 4, none⟩ = some (.slice A5 n5 c5)) := hide fun W hW => by
          have h1 := R0.out.later (HL7.out.trans hW)
          exact ⟨h1.cell (i := 0) rfl, h1.cell (i := 1) rfl, h1.cell (i := 2) rfl, h1.cell (i := 3) rfl, h1.cell (i := 4) rfl⟩
        have hmx : Tryz.prog.follows .mixedOrders = true := by kernel_rfl
        refine wp_region_M (fun w' => w'.cell? ⟨w.heap.size, 0, none⟩ = some (.slice A1 n1 c1) ∧ w'.cell? ⟨w.heap.size, 1, none⟩ = some (.slice A2 n2 c2) ∧ w'.cell? ⟨w.heap.size, 2, none⟩ = some (.slice A3 n3 c3) ∧ w'.cell? ⟨w.heap.size, 3, none⟩ = some (.slice A4 n4 c4) ∧ w'.cell? ⟨w.heap.size, 4, none⟩ = some (.slice A5 n5 c5)) [9] hmx (HT1.out _ lt_) (fun hHeld => ?_)
        refine wpAnyM_takeD (some 52) (by rfl) (i := 0) (oi := _) (v := ?_) rfl (by kernel_rfl) (by kernel_rfl) (by kernel_rfl) (by kernel_rfl) (fun _ _ _ h => h) (Or.inl ⟨by rfl, ?_⟩) (by assumption) ?_
        rotate_left
        · intro w hSw; (try dsimp only at hSw); go_simp
          first | done | with_reducible rfl
        try simp only [Act.put, List.setIfInBounds_toArray, List.set_cons_zero, List.set_cons_succ]
        refine wpAnyM_takeD (some 53) (by rfl) (i := 1) (oi := _) (v := ?_) rfl (by kernel_rfl) (by kernel_rfl) (by kernel_rfl) (by kernel_rfl) (fun _ _ _ h => h) (Or.inl ⟨by rfl, ?_⟩) (by assumption) ?_
        rotate_left
        · intro w hSw; (try dsimp only at hSw); go_simp
          first | done | with_reducible rfl
        try simp only [Act.put, List.setIfInBounds_toArray, List.set_cons_zero, List.set_cons_succ]
        refine wpAnyM_takeD (some 54) (by rfl) (i := 2) (oi := _) (v := ?_) rfl (by kernel_rfl) (by kernel_rfl) (by kernel_rfl) (by kernel_rfl) (fun _ _ _ h => h) (Or.inl ⟨by rfl, ?_⟩) (by assumption) ?_
        rotate_left
        · intro w hSw; (try dsimp only at hSw); go_simp
          first | done | with_reducible rfl
        try simp only [Act.put, List.setIfInBounds_toArray, List.set_cons_zero, List.set_cons_succ]
        refine wpAnyM_ready (rs := [3]) (by kernel_rfl) (by simp) ?_
        refine AllReadyM.held rfl (by rfl) (fun K hK => ?_) AllReadyM.nil
        go_simp
        refine (of11_calls _ 1 (by omega) (by omega) 1 div_1).mono ?_
        rintro e w8 ⟨v8, rfl, o8, b8⟩
        obtain ⟨s8, P8, q8, e8, P8', q8', e8', rfl, o8⟩ := o8.open_; have O8 := hide o8; clear o8
        have l8 : Later w7 w8 := Later.trans lt_ b8
        refine hK.out _ _ ?_ (fun hHeld => ?_)
        · exact HT1.out _ lt_
        clear hK K
        try simp only [Act.put, List.setIfInBounds_toArray, List.set_cons_zero, List.set_cons_succ]
        refine wpAnyM_ready (rs := [4]) (by kernel_rfl) (by simp) ?_
        refine AllReadyM.held rfl (by rfl) (fun K hK => ?_) AllReadyM.nil
        go_simp
        refine (qaddtimes_calls _ _ _ _ P.hi by_ 1 1 1 1 (HI7.out.hi.later ERaw.later lt_) (HX7.out.later ERaw.later lt_) (OwnR.raw O8.out sized_1) HLNhi.out (by omega) (by omega)).mono ?_
        rintro e w9 ⟨v9, ok9, rfl, ⟨o9, rfl⟩, b9⟩
        have l9 : Later w7 w9 := Later.trans lt_ b9
        have hr9 := o9.now
        obtain ⟨A9, n9, c9, rfl, -⟩ := hr9.form
        have HO9 := hide o9
        have HB8 : Hid (Later w7 w8) := hide l8
        have r9 := RG7.out.later l9
        have f3 := r9.cell (i := 3) rfl
        have z3 := r9.frozen 3
        have R9 := hide r9
        clear o9 hr9 r9
        refine hK.out _ _ ?_ (fun hHeld => ?_)
        · exact HT1.out _ lt_
        clear hK K
        try simp only [Act.put, List.setIfInBounds_toArray, List.set_cons_zero, List.set_cons_succ]
        refine wpAnyM_takeD (some 51) (by rfl) (i := 5) (oi := _) (v := ?_) rfl (by kernel_rfl) (by kernel_rfl) (by kernel_rfl) (by kernel_rfl) (fun _ _ _ h => h) (Or.inl ⟨by rfl, ?_⟩) (by assumption) ?_
        rotate_left
        · intro w hSw; (try dsimp only at hSw); go_simp
          first | done | with_reducible rfl
        try simp only [Act.put, List.setIfInBounds_toArray, List.set_cons_zero, List.set_cons_succ]
        refine wpAnyM_takeD (some 57) (by rfl) (i := 6) (oi := _) (v := ?_) rfl (by kernel_rfl) (by kernel_rfl) (by kernel_rfl) (by kernel_rfl) (fun _ _ _ h => h) (Or.inl ⟨by rfl, ?_⟩) (by assumption) ?_
        rotate_left
        · intro w hSw; (try dsimp only at hSw); go_simp
          first | done | with_reducible rfl
        try simp only [Act.put, List.setIfInBounds_toArray, List.set_cons_zero, List.set_cons_succ]
        refine wpAnyM_takeP (some 58) (by rfl) (i := 7) (oi := _) (v := ?_) rfl (by kernel_rfl) (by kernel_rfl) (by kernel_rfl) (fun _ _ _ h => h) (Or.inl ⟨by rfl, ?_⟩) ?_
        rotate_left
        · intro w hSw; clear hSw; go_simp
          first | done | with_reducible rfl
        try simp only [Act.put, List.setIfInBounds_toArray, List.set_cons_zero, List.set_cons_succ]
        refine wpAnyM_takeD (some 59) (by rfl) (i := 8) (oi := _) (v := ?_) rfl (by kernel_rfl) (by kernel_rfl) (by kernel_rfl) (by kernel_rfl) (fun _ _ _ h => h) (Or.inl ⟨by rfl, ?_⟩) (by assumption) ?_
        rotate_left
        · intro w hSw; (try dsimp only at hSw); go_simp
          first | done | with_reducible rfl
        try simp only [Act.put, List.setIfInBounds_toArray, List.set_cons_zero, List.set_cons_succ]
        refine wpAnyM_ready (rs := [9]) (by kernel_rfl) (by simp) ?_
        refine AllReadyM.free rfl (by rfl) (by kernel_rfl) (fun K hK => ?_) AllReadyM.nil
        go_simp
        refine hK.out _ _ ?_
        clear hK K
        try simp only [Act.put, List.setIfInBounds_toArray, List.set_cons_zero, List.set_cons_succ]
        refine wpAnyM_done (by kernel_rfl) ?_ _
        obtain ⟨w10, hw10⟩ : ∃ W, W = w9.setCell ⟨G, 3, none⟩ (.slice A9 n9 c9) := ⟨_, rfl⟩
        rw [← hw10]
        have oo : Only G w9 w10 := by rw [hw10]; exact Only.one G w9 3 _
        have r10 : Row w10 G 26 [.slice A1 n1 c1, .slice A2 n2 c2, .slice A6 n6 c6, .slice A9 n9 c9, .slice A5 n5 c5] := by rw [hw10]; exact R9.out.set_ 3 _
        have hs7 := HS7.out; have hs9 := l9.size; have hs8 := HB8.out.size; have hb9 := b9.size
        have HO10 := hide (HO9.out.only oo (by omega))
        have HO710 := hide ((HO7.out.later l9).only oo (by omega))
        have HW10 := hide ((HW7.out.trans l9).only oo HG.out)
        have HS10 : Hid (G < w5.heap.size ∧ w5.heap.size ≤ w8.heap.size ∧ w8.heap.size ≤ w10.heap.size) := hide ⟨by omega, by omega, by rw [oo.size]; omega⟩
        have z1 := r10.frozen 1
        have f1 := r10.cell (i := 1) rfl
        have RG10 := hide r10
        clear hw10 oo r10 hs7 hs8 hs9 hb9 HT1 hHeld R9 HO9 HO7 RG7 HB8 l8 f3 z3 O8 l9 b8 b9 HI7 HX7 HL7 HW7
        go_upto_region 9 with fail
        obtain ⟨w11, hw11⟩ : ∃ W, W = w10.setCell ⟨G, 1, none⟩ (.slice none 0 0) := ⟨_, rfl⟩
        rw [← hw11]
        have oo : Only G w10 w11 := by rw [hw11]; exact Only.one G w10 1 _
        have r11 : Row w11 G 26 [.slice A1 n1 c1, .slice none 0 0, .slice A6 n6 c6, .slice A9 n9 c9, .slice A5 n5 c5] := by rw [hw11]; exact RG10.out.set_ 1 _
        have hs10 := HS10.out
        have HS11 : Hid (G < w11.heap.size) := hide (by rw [oo.size]; omega)
        have HON : Hid (On w11 (fun b => G < b ∧ b < w11.heap.size) (fun W => Rats EOwn W (.slice A6 n6 c6) (axpyL P.lo by_ 1) ∧ Rats EOwn W (.slice A9 n9 c9) (axpyL P.hi by_ 1))) := hide (by
          have q1 := HO710.out.only oo (by omega); have q2 := HO10.out.only oo (by omega)
          exact (On.mono q1 (fun b hb hlt => (⟨by omega, hlt⟩ : G < b ∧ b < w11.heap.size))).and (On.mono q2 (fun b hb hlt => (⟨by omega, hlt⟩ : G < b ∧ b < w11.heap.size))))
        have HLC := hide (HW10.out.only oo HG.out)
        have RC := hide r11
        clear hw11 oo r11 hs10 HO710 HO10 HW10 HS10 z1 f1 RG10 HS7
        have hn24 : n2 ≤ 4 := by have := L2.out; omega
        go_wp2_with fail
        go_loopw [6] (fun i wr => ∃ j : Nat, j ≤ n2 ∧ i = .int .i64 (j : Int) ∧ (∃ Av nv cv, Row wr G 26 [.slice A1 n1 c1, .slice Av nv cv, .slice A6 n6 c6, .slice A9 n9 c9, .slice A5 n5 c5] ∧ OutRw w3 wr w11.heap.size (.slice Av nv cv) ((P.rows.take j).map (shiftR by_))) ∧ Later w3 wr ∧ w11.heap.size ≤ wr.heap.size ∧ On wr (fun b => G < b ∧ b < w11.heap.size) (fun W => Rats EOwn W (.slice A6 n6 c6) (axpyL P.lo by_ 1) ∧ Rats EOwn W (.slice A9 n9 c9) (axpyL P.hi by_ 1))) (fun i _ => (n2 - intOf i).toNat)
        case atStart => exact ⟨0, by omega, rfl, ⟨_, _, _, RC.out, OutRw.nil _ _ _⟩, HLC.out, Nat.le_refl _, HON.out⟩
        case round =>
          obtain ⟨j, hj, rfl, ⟨Av, nv, cv, hR, hout⟩, hL, hsz, hon⟩ := hrel
          have HL := hide hL; have RG := hide hR; have HOUT := hide hout; have HSZ := hide hsz; have HON2 := hide hon
          clear hL hR hout hsz hon
          have r_d := R0.out.later (HL3.out.trans HL.out)
          have d0 := r_d.cell (i := 0) rfl; have d1 := r_d.cell (i := 1) rfl; have d2 := r_d.cell (i := 2) rfl; have d3 := r_d.cell (i := 3) rfl; have d4 := r_d.cell (i := 4) rfl
          clear r_d
          by_cases hjn : j < n2
          · obtain ⟨x, hx⟩ : ∃ x, P.rows[j]? = some x := ⟨P.rows[j]'(by have := L2.out; omega), List.getElem?_eq_getElem _⟩
            obtain ⟨b1, off1, rfl, r, x0, x1, x2, x3, x4, x5, hE⟩ := HI3.out.rows.at6 hx
            have HE := hide hE
            have hxr := HP.out.rows x (List.mem_of_getElem? hx)
            have HXR := hide hxr
            have hj0 : (0 : Int) ≤ (j : Int) := by omega
            have hj1 : (j : Int) < n2 := by omega
            have htm : (P.rows.take (j+1)).map (shiftR by_) = (P.rows.take j).map (shiftR by_) ++ [shiftR by_ x] := by rw [List.take_add_one, hx, List.map_append]; rfl
            have hlm : ((P.rows.take j).map (shiftR by_)).length ≤ 1000 := by rw [List.length_map, List.length_take]; have := HI3.out.rl; omega
            have hsd : Sized (dotL x.coef by_) 50 := (sized_dotL (Rats.sized hE.coef) (Rats.sized HX3.out)).mono (by
              have : x.coef.length * (1 + 1 + (1 + 1) + 1) ≤ 4 * 5 := Nat.mul_le_mul (by rw [hxr.1]; omega) (by omega)
              omega)
            have HTM := hide htm; have HLM := hide hlm; have HSD := hide hsd
            have y0 := Later.cell HL.out x0; have y1 := Later.cell HL.out x1; have y2 := Later.cell HL.out x2; have y3 := Later.cell HL.out x3; have y4 := Later.cell HL.out x4; have y5 := Later.cell HL.out x5
            clear hx htm hlm hE hxr hsd x0 x1 x2 x3 x4 x5
            go_upto_region 13 with fail
            obtain ⟨wA, hwA⟩ : ∃ wA, wA = wr.alloc (Obj.cells #[Value.slice r.A r.n r.c, Value.int .i64 x.sense, Value.bool r.e.a, Value.slice r.e.A r.e.n r.e.c, Value.bool r.e.a', Value.slice r.e.A' r.e.n' r.e.c'] 60) := ⟨_, rfl⟩
            obtain ⟨gA, hgA⟩ : ∃ gA, gA = wr.heap.size := ⟨_, rfl⟩
            have bwA : Later wr wA := by rw [hwA]; exact (Later.refl _).alloc _
            have rgA : Row wA gA 60 [.slice r.A r.n r.c, .int .i64 x.sense, .bool r.e.a, .slice r.e.A r.e.n r.e.c, .bool r.e.a', .slice r.e.A' r.e.n' r.e.c'] := by rw [hwA, hgA]; exact Row.new _ _ _
            rw [← hwA, ← hgA]
            have HA := hide bwA; have RA := hide rgA
            have HGA : Hid (gA = wr.heap.size ∧ wA.heap.size = gA + 1) := hide ⟨hgA, by rw [hwA, World.size_alloc, hgA]⟩
            have RGA := hide (RG.out.later bwA)
            clear hwA hgA bwA rgA y0 y1 y2 y3 y4 y5 d0 d1 d2 d3 d4
            have k0 := RA.out.cell (i := 0) rfl; have k1 := RA.out.cell (i := 1) rfl; have k2 := RA.out.cell (i := 2) rfl; have k3 := RA.out.cell (i := 3) rfl; have k4 := RA.out.cell (i := 4) rfl; have k5 := RA.out.cell (i := 5) rfl
            go_wp2_with fail
            refine (qdot_calls _ _ _ x.coef by_ 1 1 (HE.out.coef.later ERaw.later (HL.out.trans HA.out)) (HX3.out.later ERaw.later (HL.out.trans HA.out)) (by rw [HXR.out.1, HLEN.out]) (by have := Nat.mul_le_mul (show x.coef.length + 1 ≤ 5 by rw [HXR.out.1]; omega) (Nat.le_refl (1 + 1 + 4)); omega)).mono ?_
            rintro e w12 ⟨v12, ok12, rfl, ⟨o12, rfl⟩, b12⟩
            obtain ⟨s12, P12, q12, e12, P12', q12', e12', rfl, o12⟩ := o12.open_; have O12 := hide o12; clear o12
            clear k0 k1 k2 k3 k4 k5
            go_upto_region 14 with fail
            obtain ⟨wd, hwd⟩ : ∃ wd, wd = w12.alloc (Obj.cells #[Value.bool s12, Value.slice P12 q12 e12, Value.bool false, Value.slice P12' q12' e12'] 36) := ⟨_, rfl⟩
            obtain ⟨gd, hgd⟩ : ∃ gd, gd = w12.heap.size := ⟨_, rfl⟩
            have bwd : Later w12 wd := by rw [hwd]; exact (Later.refl _).alloc _
            have rgd : Row wd gd 36 [.bool s12, .slice P12 q12 e12, .bool false, .slice P12' q12' e12'] := by rw [hwd, hgd]; exact Row.new _ _ _
            rw [← hwd, ← hgd]
            have HD := hide (b12.trans bwd); have OD := hide (OwnR.later O12.out bwd)
            have hrA := RA.out.later (b12.trans bwd)
            clear hwd hgd bwd b12 O12
            have k0 := hrA.cell (i := 0) rfl; have k1 := hrA.cell (i := 1) rfl; have k2 := hrA.cell (i := 2) rfl; have k3 := hrA.cell (i := 3) rfl; have k4 := hrA.cell (i := 4) rfl; have k5 := hrA.cell (i := 5) rfl
            have e0 := rgd.cell (i := 0) rfl; have e1 := rgd.cell (i := 1) rfl; have e2 := rgd.cell (i := 2) rfl; have e3 := rgd.cell (i := 3) rfl
            go_wp2_with fail
            refine (qadd_calls _ _ _ x.rhs (dotL x.coef by_) 1 50 (HE.out.rhs.later (HL.out.trans (HA.out.trans HD.out))) (OwnR.raw OD.out HSD.out) (by omega)).mono ?_
            rintro e w13 ⟨v13, rfl, o13, b13⟩
            obtain ⟨s13, P13, q13, e13, P13', q13', e13', rfl, o13⟩ := o13.open_; have O13 := hide o13; clear o13
            have HAS := hide (HD.out.trans b13)
            clear k0 k1 k2 k3 k4 k5 e0 e1 e2 e3 hrA rgd HD OD
            have hrB := RA.out.later HAS.out
            clear b13
            have k0 := hrB.cell (i := 0) rfl; have k1 := hrB.cell (i := 1) rfl; have k2 := hrB.cell (i := 2) rfl; have k3 := hrB.cell (i := 3) rfl; have k4 := hrB.cell (i := 4) rfl; have k5 := hrB.cell (i := 5) rfl
            have z0 := hrB.frozen 0; have z1 := hrB.frozen 1; have z2 := hrB.frozen 2; have z3 := hrB.frozen 3; have z4 := hrB.frozen 4; have z5 := hrB.frozen 5
            go_upto_region 15 with fail
            obtain ⟨wS, hwS⟩ : ∃ W, W = ((((w13.setCell ⟨gA, 2, none⟩ (.bool s13)).setCell ⟨gA, 3, none⟩ (.slice P13 q13 e13)).setCell ⟨gA, 4, none⟩ (.bool false)).setCell ⟨gA, 5, none⟩ (.slice P13' q13' e13')) := ⟨_, rfl⟩
            rw [← hwS]
            have oo : Only gA w13 wS := by rw [hwS]; exact (((Only.one gA w13 2 _).set 3 _).set 4 _).set 5 _
            have rS : Row wS gA 60 [.slice r.A r.n r.c, .int .i64 x.sense, .bool s13, .slice P13 q13 e13, .bool false, .slice P13' q13' e13'] := by rw [hwS]; exact (((hrB.set_ 2 (.bool s13)).set_ 3 (.slice P13 q13 e13)).set_ 4 (.bool false)).set_ 5 (.slice P13' q13' e13')
            have hga := HGA.out; have hwr := (HL.out).size; have hsz := HSZ.out; have has := HAS.out.size; have hg11 := HS11.out
            have hblt := HOUT.out.lt
            have RGS := hide ((RGA.out.later HAS.out).only oo (by have := RG.out.lt; omega))
            have HOS := hide (((HOUT.out.later HA.out).later HAS.out).only oo hrB (by decide) (fun e => by have := (hblt gA e).2; omega))
            have HLS := hide ((HL.out.trans (HA.out.trans HAS.out)).only oo (by omega))
            have HNS := hide (((HON2.out.later HA.out).later HAS.out).only oo (by omega))
            have OS := hide (OwnR.keepU O13.out (KeepU.only oo hrB (by decide)))
            have HSS : Hid (gA < wS.heap.size ∧ w11.heap.size ≤ wS.heap.size ∧ wS.heap.size = w13.heap.size) := hide ⟨by rw [oo.size]; omega, by rw [oo.size]; omega, oo.size⟩
            have HQ : Hid (RowQ w3 (⟨r.A, r.n, r.c, ⟨s13, P13, q13, e13, false, P13', q13', e13'⟩⟩, x.sense) (shiftR by_ x)) := hide
              { sense := rfl, coef := HE.out.coef, fl := HE.out.fcoef HXR.out.2.2, f := HXR.out.2.2, cl := HE.out.cl, sfit := HE.out.sfit
                sz := (((HE.out.rhs.sized).add HSD.out).mono (by omega)) }
            have RS := hide rS
            clear hwS oo hrB hblt k0 k1 k2 k3 k4 k5 z0 z1 z2 z3 z4 z5 O13 HA RA RGA HAS hga hwr hsz has hg11 rS
            have k0 := RS.out.cell (i := 0) rfl; have k1 := RS.out.cell (i := 1) rfl; have k2 := RS.out.cell (i := 2) rfl; have k3 := RS.out.cell (i := 3) rfl; have k4 := RS.out.cell (i := 4) rfl; have k5 := RS.out.cell (i := 5) rfl
            have f0 := RGS.out.cell (i := 0) rfl; have f1 := RGS.out.cell (i := 1) rfl; have f2 := RGS.out.cell (i := 2) rfl; have f3 := RGS.out.cell (i := 3) rfl; have f4 := RGS.out.cell (i := 4) rfl
            have z1 := RGS.out.frozen 1
            go_wp2_with (at_builtin; refine wpList_append_lrw rfl _ _ rfl (⟨r.A, r.n, r.c, ⟨s13, P13, q13, e13, false, P13', q13', e13'⟩⟩, x.sense) (shiftR by_ x) rfl (HOS.out.later ((Later.refl _).alloc _)) rfl (Row.new wS 60 [.slice r.A r.n r.c, .int .i64 x.sense, .bool s13, .slice P13 q13 e13, .bool false, .slice P13' q13' e13']) HQ.out (OwnR.later OS.out ((Later.refl _).alloc _)) (by have := HLM.out; omega) (by have := HSS.out; rw [World.size_alloc]; omega) ?_; intro v8 w8b k1b k2b k3b; obtain ⟨A8, n8, c8, rfl⟩ := k3b; have hbl := HOS.out.lt; have hG5 := HS11.out; have hr8 := (RGS.out.later ((Later.refl wS).alloc _)).grown k2b (fun e => by have := (hbl G e.symm).1; omega); have f1b := hr8.cell (i := 1) rfl; have z1b := hr8.frozen 1; have HR8 := hide hr8; have HK1 := hide k1b; have HK2 := hide k2b; clear hr8 k1b k2b hbl hG5)
            have oo := Only.one G w8b 1 (.slice A8 n8 c8)
            have hbl := HOS.out.lt
            have hG5 := HS11.out; have hss := HSS.out; have hG3 := HG.out
            refine ⟨⟨j+1, by omega, by go_num, ⟨_, _, _, HR8.out.set_ 1 _, ?_⟩, ?_, ?_, ?_⟩, by simp [intOf]; omega⟩
            · rw [HTM.out]; exact HK1.out.only oo HR8.out (by decide) (fun e => by have := (HK1.out.lt G e).1; omega)
            · refine (((HLS.out.alloc _).grown HK2.out (fun k hk => ?_)).only oo HG.out)
              have := (hbl k hk).1; have := HLC.out.size; omega
            · rw [oo.size]; have := HK2.out.size; rw [World.size_alloc] at this; omega
            · refine (((HNS.out.later ((Later.refl _).alloc _)).grown HK2.out (fun b hb hlt e => ?_)).only oo (fun hb => ?_))
              · have := (hbl b e.symm).1; omega
              · omega
          · have hj1 : ¬ (j : Int) < n2 := by omega
            have hr100 := HOUT.out
            rw [List.take_of_length_le (by have := L2.out; omega)] at hr100
            have hrw := hr100.lrows HL.out
            obtain ⟨hlo9, hhi9⟩ := HON2.out.now
            have HQ : Hid (LpIn wr (.slice A1 n1 c1) (.slice Av nv cv) (.slice A6 n6 c6) (.slice A9 n9 c9) (.slice A5 n5 c5) 100 (shiftP P by_)) := hide (by
              rw [shift_all P by_ HP.out.f]
              have hI := HI3.out.later HL.out
              refine lp_ownq (hI.cost.map fun v q _ h => RawR.mono h (by omega)) hrw hlo9 hhi9 hI.opn (hI.fcost HP.out.f) (fun q hq => (sized_axpy (Rats.sized HI3.out.lo) (Rats.sized HX3.out) sized_1 q hq).mono (by omega)) (fun q hq => (sized_axpy (Rats.sized HI3.out.hi) (Rats.sized HX3.out) sized_1 q hq).mono (by omega)) hI.cl (by rw [List.length_map]; exact hI.rl) (by rw [axpy_len_ HLNlo.out]; exact hI.ll) (by rw [axpy_len_ HLNhi.out]; exact hI.hl) hI.ol)
            have HQB : Hid (lpB (shiftP P by_) = true) := hide (lpB_iff.2 (shift_may HP.out HLEN.out))
            have HPR := hide (HI3.out.later HL.out)
            have hc5 : P.cost.length ≤ 5 := by omega
            clear hr100 hrw hlo9 hhi9 HON2 HOUT
            go_wp2_with fail
            refine (pstd_calls _ _ _ _ _ _ _ _ _ _ _ _ _ _ _ _ 1 P HPR.out).mono ?_
            rintro e w20 ⟨vA, vB, vC, vr, rfl, hv, hn, b20⟩
            have hv := hv HU.out
            obtain ⟨A20, n20, c20, rfl, -⟩ := hv.a.form
            obtain ⟨A21, n21, c21, rfl, -⟩ := hv.b.form
            obtain ⟨A22, n22, c22, rfl, -⟩ := hv.c.form
            obtain ⟨s20, P20, q20, e20, P20', q20', e20', rfl, o20⟩ := hv.r.open_
            have hcode : (if lpB (P) then (0 : Int) else 1) = 0 := by rw [HU.out]; rfl
            rw [hcode]
            have HV20 := hide hv; have HB20 := hide b20
            clear hv hn o20 b20 hcode
            go_upto_region 17 with fail
            obtain ⟨wm, hwm⟩ : ∃ W, W = (w20.alloc (Obj.cells #[Value.slice A20 n20 c20, Value.slice A21 n21 c21, Value.slice A22 n22 c22] 31)).alloc (Obj.cells #[Value.bool s20, Value.slice P20 q20 e20, Value.bool false, Value.slice P20' q20' e20'] 36) := ⟨_, rfl⟩
            obtain ⟨gs, hgs⟩ : ∃ g, g = w20.heap.size := ⟨_, rfl⟩
            have bwm : Later w20 wm := by rw [hwm]; exact ((Later.refl _).alloc _).alloc _
            have rgs : Row wm gs 31 [.slice A20 n20 c20, .slice A21 n21 c21, .slice A22 n22 c22] := by rw [hwm, hgs]; exact (Row.new _ _ _).alloc _
            have rga : Row wm (gs + 1) 36 [.bool s20, .slice P20 q20 e20, .bool false, .slice P20' q20' e20'] := by rw [hwm, hgs]; have h9 := Row.new (w20.alloc (Obj.cells #[Value.slice A20 n20 c20, Value.slice A21 n21 c21, Value.slice A22 n22 c22] 31)) 36 [.bool s20, .slice P20 q20 e20, .bool false, .slice P20' q20' e20']; rw [World.size_alloc] at h9; exact h9
            rw [← hwm, ← hgs]
            have HL20 := hide (HB20.out.trans bwm); have HVV20 := hide (HV20.out.later bwm); have RS20 := hide rgs; have RA20 := hide rga
            clear hwm hgs bwm rgs rga HV20 HB20
            have RGm := hide (RG.out.later HL20.out)
            clear d0 d1 d2 d3 d4
            have f0 := RGm.out.cell (i := 0) rfl; have f1 := RGm.out.cell (i := 1) rfl; have f2 := RGm.out.cell (i := 2) rfl; have f3 := RGm.out.cell (i := 3) rfl; have f4 := RGm.out.cell (i := 4) rfl
            go_wp2_with fail
            refine (pstd_calls _ _ _ _ _ _ _ _ _ _ _ _ _ _ _ _ 100 (shiftP P by_) (HQ.out.later HL20.out)).mono ?_
            rintro e w30 ⟨vA, vB, vC, vr, rfl, hv, hn, b30⟩
            have hv := hv HQB.out
            obtain ⟨A30, n30, c30, rfl, -⟩ := hv.a.form
            obtain ⟨A31, n31, c31, rfl, -⟩ := hv.b.form
            obtain ⟨A32, n32, c32, rfl, -⟩ := hv.c.form
            obtain ⟨s30, P30, q30, e30, P30', q30', e30', rfl, o30⟩ := hv.r.open_
            have hcode : (if lpB ((shiftP P by_)) then (0 : Int) else 1) = 0 := by rw [HQB.out]; rfl
            rw [hcode]
            have HV30 := hide hv; have HB30 := hide b30
            clear hv hn o30 b30 hcode
            go_upto_region 18 with fail
            obtain ⟨wn, hwn⟩ : ∃ W, W = (w30.alloc (Obj.cells #[Value.slice A30 n30 c30, Value.slice A31 n31 c31, Value.slice A32 n32 c32] 31)).alloc (Obj.cells #[Value.bool s30, Value.slice P30 q30 e30, Value.bool false, Value.slice P30' q30' e30'] 36) := ⟨_, rfl⟩
            obtain ⟨gt, hgt⟩ : ∃ g, g = w30.heap.size := ⟨_, rfl⟩
            have bwn : Later w30 wn := by rw [hwn]; exact ((Later.refl _).alloc _).alloc _
            have rgt : Row wn gt 31 [.slice A30 n30 c30, .slice A31 n31 c31, .slice A32 n32 c32] := by rw [hwn, hgt]; exact (Row.new _ _ _).alloc _
            have rgu : Row wn (gt + 1) 36 [.bool s30, .slice P30 q30 e30, .bool false, .slice P30' q30' e30'] := by rw [hwn, hgt]; have h9 := Row.new (w30.alloc (Obj.cells #[Value.slice A30 n30 c30, Value.slice A31 n31 c31, Value.slice A32 n32 c32] 31)) 36 [.bool s30, .slice P30 q30 e30, .bool false, .slice P30' q30' e30']; rw [World.size_alloc] at h9; exact h9
            rw [← hwn, ← hgt]
            have HL30 := hide (HB30.out.trans bwn); have HVV30 := hide (HV30.out.later bwn); have RS30 := hide rgt; have RA30 := hide rgu
            clear hwn hgt bwn rgt rgu HV30 HB30
            have HLn := hide (HL.out.trans (HL20.out.trans HL30.out))
            clear f0 f1 f2 f3 f4
            have r_d := R0.out.later (HL3.out.trans HLn.out)
            have d0 := r_d.cell (i := 0) rfl; have d1 := r_d.cell (i := 1) rfl; have d2 := r_d.cell (i := 2) rfl; have d3 := r_d.cell (i := 3) rfl; have d4 := r_d.cell (i := 4) rfl
            clear r_d
            go_wp2_with fail
            refine (qdot_calls _ _ _ P.cost by_ 1 1 (HI3.out.cost.later ERaw.later HLn.out) (HX3.out.later ERaw.later HLn.out) HLEN.out.symm (by have := Nat.mul_le_mul (show P.cost.length + 1 ≤ 5 by omega) (Nat.le_refl (1 + 1 + 4)); omega)).mono ?_
            rintro e w40 ⟨v40, ok40, rfl, ⟨o40, rfl⟩, b40⟩
            obtain ⟨s40, P40, q40, e40, P40', q40', e40', rfl, o40⟩ := o40.open_; have O40 := hide o40; clear o40
            go_upto_region 19 with fail
            obtain ⟨wx, hwx⟩ : ∃ wx, wx = w40.alloc (Obj.cells #[Value.bool s40, Value.slice P40 q40 e40, Value.bool false, Value.slice P40' q40' e40'] 36) := ⟨_, rfl⟩
            obtain ⟨gc, hgc⟩ : ∃ gc, gc = w40.heap.size := ⟨_, rfl⟩
            have bwx : Later w40 wx := by rw [hwx]; exact (Later.refl _).alloc _
            have rgc : Row wx gc 36 [.bool s40, .slice P40 q40 e40, .bool false, .slice P40' q40' e40'] := by rw [hwx, hgc]; exact Row.new _ _ _
            rw [← hwx, ← hgc]
            have hLx := b40.trans bwx
            have HLZ := hide (HL3.out.trans (HLn.out.trans hLx)); have ORC := hide (OwnR.later O40.out bwx); have RC := hide rgc
            have hsh := shift_std HP.out HLEN.out
            have hs30 := HVV30.out.later hLx
            have hs20 := HVV20.out.later (HL30.out.trans hLx)
            obtain ⟨a1, a2, a3, a4⟩ := std_small HI3.out HP.out hc5
            obtain ⟨e1, e2, e3, e4⟩ := std_lens HP.out
            have SSP : Hid (StdS wx (.slice A20 n20 c20) (.slice A21 n21 c21) (.slice A22 n22 c22) (stdA P) (stdB P) (stdC P)) := hide (std_ss11 HI3.out HP.out hc5 hs20)
            have SSQ : Hid (StdS wx (.slice A30 n30 c30) (.slice A31 n31 c31) (.slice A32 n32 c32) (stdA P) (stdB P) (stdC P)) := hide ⟨by rw [← hsh.1]; exact hs30.a, by rw [← hsh.2.1]; exact hs30.b, by rw [← hsh.2.2]; exact hs30.c, SSP.out.sa, SSP.out.sb, SSP.out.sc, SSP.out.la, SSP.out.lr, SSP.out.lb, SSP.out.lc⟩
            have ORP := hide hs20.r; have ORQ := hide hs30.r
            have HSR := hide a4
            have hsc : Sized (dotL P.cost by_) 50 := (sized_dotL (Rats.sized HI3.out.cost) (Rats.sized HX3.out)).mono (by
              have : P.cost.length * (1 + 1 + (1 + 1) + 1) ≤ 4 * 5 := Nat.mul_le_mul (by omega) (by omega)
              omega)
            have HSC := hide hsc
            have hrest := shift_rest HP.out HLEN.out
            have HSA : Hid (Sized (restV P + dotL P.cost by_) 200) := hide ((a4.add hsc).mono (by omega))
            have HSQ : Hid (Sized (restV (shiftP P by_)) 200) := hide (by rw [hrest]; exact HSA.out)
            have HCMP : Hid (cmpQ (restV (shiftP P by_)) (restV P + dotL P.cost by_) = 0) := hide (by rw [hrest]; unfold cmpQ; simp)
            have RS20x := hide (RS20.out.later (HL30.out.trans hLx)); have RA20x := hide (RA20.out.later (HL30.out.trans hLx)); have RS30x := hide (RS30.out.later hLx); have RA30x := hide (RA30.out.later hLx)
            clear hwx hgc bwx rgc b40 hLx hsh hs30 hs20 a1 a2 a3 a4 e1 e2 e3 e4 hsc hrest d0 d1 d2 d3 d4 RS20 RA20 RS30 RA30 HVV20 HVV30 O40
            have HT1 : Hid (∀ w', Later wx w' → w'.cell? ⟨gs, 0, none⟩ = some (.slice A20 n20 c20) ∧ w'.cell? ⟨gs, 1, none⟩ = some (.slice A21 n21 c21) ∧ w'.cell? ⟨gs, 2, none⟩ = some (.slice A22 n22 c22) ∧ w'.cell? ⟨gs + 1, 0, none⟩ = some (.bool s20) ∧ w'.cell? ⟨gs + 1, 1, none⟩ = some (.slice P20 q20 e20) ∧ w'.cell? ⟨gs + 1, 2, none⟩ = some (.bool false) ∧ w'.cell? ⟨gs + 1, 3, none⟩ = some (.slice P20' q20' e20') ∧ w'.cell? ⟨gt, 0, none⟩ = some (.slice A30 n30 c30) ∧ w'.cell? ⟨gt, 1, none⟩ = some (.slice A31 n31 c31) ∧ w'.cell? ⟨gt, 2, none⟩ = some (.slice A32 n32 c32) ∧ w'.cell? ⟨gt + 1, 0, none⟩ = some (.bool s30) ∧ w'.cell? ⟨gt + 1, 1, none⟩ = some (.slice P30 q30 e30) ∧ w'.cell? ⟨gt + 1, 2, none⟩ = some (.bool false) ∧ w'.cell? ⟨gt + 1, 3, none⟩ = some (.slice P30' q30' e30') ∧ w'.cell? ⟨gc, 0, none⟩ = some (.bool s40) ∧ w'.cell? ⟨gc, 1, none⟩ = some (.slice P40 q40 e40) ∧ w'.cell? ⟨gc, 2, none⟩ = some (.bool false) ∧ w'.cell? ⟨gc, 3, none⟩ = some (.slice P40' q40' e40')) := hide fun W hW => by
              have h1 := RS20x.out.later hW; have h2 := RA20x.out.later hW; have h3 := RS30x.out.later hW; have h4 := RA30x.out.later hW; have h5 := RC.out.later hW
              exact ⟨h1.cell (i := 0) rfl, h1.cell (i := 1) rfl, h1.cell (i := 2) rfl, h2.cell (i := 0) rfl, h2.cell (i := 1) rfl, h2.cell (i := 2) rfl, h2.cell (i := 3) rfl, h3.cell (i := 0) rfl, h3.cell (i := 1) rfl, h3.cell (i := 2) rfl, h4.cell (i := 0) rfl, h4.cell (i := 1) rfl, h4.cell (i := 2) rfl, h4.cell (i := 3) rfl, h5.cell (i := 0) rfl, h5.cell (i := 1) rfl, h5.cell (i := 2) rfl, h5.cell (i := 3) rfl⟩
            have hmx : Tryz.prog.follows .mixedOrders = true := by kernel_rfl
            refine wp_region_N (fun w' => w'.cell? ⟨gs, 0, none⟩ = some (.slice A20 n20 c20) ∧ w'.cell? ⟨gs, 1, none⟩ = some (.slice A21 n21 c21) ∧ w'.cell? ⟨gs, 2, none⟩ = some (.slice A22 n22 c22) ∧ w'.cell? ⟨gs + 1, 0, none⟩ = some (.bool s20) ∧ w'.cell? ⟨gs + 1, 1, none⟩ = some (.slice P20 q20 e20) ∧ w'.cell? ⟨gs + 1, 2, none⟩ = some (.bool false) ∧ w'.cell? ⟨gs + 1, 3, none⟩ = some (.slice P20' q20' e20') ∧ w'.cell? ⟨gt, 0, none⟩ = some (.slice A30 n30 c30) ∧ w'.cell? ⟨gt, 1, none⟩ = some (.slice A31 n31 c31) ∧ w'.cell? ⟨gt, 2, none⟩ = some (.slice A32 n32 c32) ∧ w'.cell? ⟨gt + 1, 0, none⟩ = some (.bool s30) ∧ w'.cell? ⟨gt + 1, 1, none⟩ = some (.slice P30 q30 e30) ∧ w'.cell? ⟨gt + 1, 2, none⟩ = some (.bool false) ∧ w'.cell? ⟨gt + 1, 3, none⟩ = some (.slice P30' q30' e30') ∧ w'.cell? ⟨gc, 0, none⟩ = some (.bool s40) ∧ w'.cell? ⟨gc, 1, none⟩ = some (.slice P40 q40 e40) ∧ w'.cell? ⟨gc, 2, none⟩ = some (.bool false) ∧ w'.cell? ⟨gc, 3, none⟩ = some (.slice P40' q40' e40')) [] hmx (HT1.out _ lt_) (fun hHeld => ?_)
            refine tkA 110 0 ?_
            try simp only [Act.put, List.setIfInBounds_toArray, List.set_cons_zero, List.set_cons_succ]
            refine tkA 111 1 ?_
            try simp only [Act.put, List.setIfInBounds_toArray, List.set_cons_zero, List.set_cons_succ]
            refine tkA 112 2 ?_
            try simp only [Act.put, List.setIfInBounds_toArray, List.set_cons_zero, List.set_cons_succ]
            refine tkA 113 3 ?_
            try simp only [Act.put, List.setIfInBounds_toArray, List.set_cons_zero, List.set_cons_succ]
            refine tkA 114 4 ?_
            try simp only [Act.put, List.setIfInBounds_toArray, List.set_cons_zero, List.set_cons_succ]
            refine tkA 115 5 ?_
            try simp only [Act.put, List.setIfInBounds_toArray, List.set_cons_zero, List.set_cons_succ]
            refine tkA 116 6 ?_
            try simp only [Act.put, List.setIfInBounds_toArray, List.set_cons_zero, List.set_cons_succ]
            refine tkA 117 7 ?_
            try simp only [Act.put, List.setIfInBounds_toArray, List.set_cons_zero, List.set_cons_succ]
            refine tkA 118 8 ?_
            try simp only [Act.put, List.setIfInBounds_toArray, List.set_cons_zero, List.set_cons_succ]
            refine wpAnyN_ready (rs := [9]) (by kernel_rfl) (by simp) ?_
            refine AllReadyN.held rfl (by rfl) (fun K hK => ?_) AllReadyN.nil
            go_simp
            refine (ssame_calls _ _ _ _ _ _ _ _ _ _ _ _ _ (SSP.out.later lt_) (SSQ.out.later lt_) true (by simp)).mono ?_
            rintro e w51 ⟨rfl, b51⟩
            have l51 : Later wx w51 := Later.trans lt_ b51
            refine hK.out _ _ ?_ (fun hHeld => ?_)
            · exact HT1.out _ lt_
            clear hK K
            try simp only [Act.put, List.setIfInBounds_toArray, List.set_cons_zero, List.set_cons_succ]
            refine tkA 120 10 ?_
            try simp only [Act.put, List.setIfInBounds_toArray, List.set_cons_zero, List.set_cons_succ]
            refine tkA 121 11 ?_
            try simp only [Act.put, List.setIfInBounds_toArray, List.set_cons_zero, List.set_cons_succ]
            refine tkA 122 12 ?_
            try simp only [Act.put, List.setIfInBounds_toArray, List.set_cons_zero, List.set_cons_succ]
            refine tkA 123 13 ?_
            try simp only [Act.put, List.setIfInBounds_toArray, List.set_cons_zero, List.set_cons_succ]
            refine tkA 124 14 ?_
            try simp only [Act.put, List.setIfInBounds_toArray, List.set_cons_zero, List.set_cons_succ]
            refine wpAnyN_ready (rs := [15]) (by kernel_rfl) (by simp) ?_
            refine AllReadyN.held rfl (by rfl) (fun K hK => ?_) AllReadyN.nil
            go_simp
            refine (qadd_calls _ _ _ (restV P) (dotL P.cost by_) 100 50 (OwnR.raw (OwnR.later ORP.out lt_) HSR.out) (OwnR.raw (OwnR.later ORC.out lt_) HSC.out) (by omega)).mono ?_
            rintro e w52 ⟨v52, rfl, o52, b52⟩
            obtain ⟨s52, P52, q52, e52, P52', q52', e52', rfl, o52⟩ := o52.open_; have O52 := hide o52; clear o52
            have l52 : Later wx w52 := Later.trans lt_ b52
            refine hK.out _ _ ?_ (fun hHeld => ?_)
            · exact HT1.out _ lt_
            clear hK K
            try simp only [Act.put, List.setIfInBounds_toArray, List.set_cons_zero, List.set_cons_succ]
            refine wpAnyN_ready (rs := [16]) (by kernel_rfl) (by simp) ?_
            refine AllReadyN.held rfl (by rfl) (fun K hK => ?_) AllReadyN.nil
            go_simp
            refine (qcmp_calls _ _ _ (restV (shiftP P by_)) (restV P + dotL P.cost by_) 200 200 (OwnR.raw (OwnR.later ORQ.out lt_) HSQ.out) (OwnR.raw (OwnR.later O52.out lt_) HSA.out) (by omega)).mono ?_
            rintro e w53 ⟨rfl, b53⟩
            rw [HCMP.out]
            have l53 : Later wx w53 := Later.trans lt_ b53
            refine hK.out _ _ ?_ (fun hHeld => ?_)
            · exact HT1.out _ lt_
            clear hK K
            try simp only [Act.put, List.setIfInBounds_toArray, List.set_cons_zero, List.set_cons_succ]
            refine tkA 127 17 ?_
            try simp only [Act.put, List.setIfInBounds_toArray, List.set_cons_zero, List.set_cons_succ]
            refine tkA 128 18 ?_
            try simp only [Act.put, List.setIfInBounds_toArray, List.set_cons_zero, List.set_cons_succ]
            refine tkA 4 19 ?_
            try simp only [Act.put, List.setIfInBounds_toArray, List.set_cons_zero, List.set_cons_succ]
            refine wpAnyN_done (by kernel_rfl) ?_ _
            have LE := hide (HLZ.out.trans (show Later wx w53 from lt_))
            clear hHeld
            go_wp2_with fail
            go_ret
            exact ⟨rfl, B0.out.trans LE.out⟩
end Go.Proofs.YtfokplidiboabaaGreat

