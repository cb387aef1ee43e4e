/- PlanTurned: two items changed about; the plain law and the walk. -/
import Derived.Test.YthncinngkfflgaaGreatQ24
set_option linter.unusedVariables false
set_option linter.unusedSimpArgs false
set_option maxRecDepth 100000
namespace Go.Proofs.YthncinngkfflgaaGreat
open Go.RowKit Go.Shelf
attribute [local go_sem ↓] Go.wp_at_zero Go.wp_at_succ

/-- two items in a row of one's own -/
theorem its_two {k : Nat} {w : World} {g : Nat} {T : TypeId} {x y : PItem} {a1 a2 a3 b1 b2 b3 : ICells} (hr : Row w g T ((a1.cells ++ a2.cells ++ a3.cells) ++ (b1.cells ++ b2.cells ++ b3.cells)))
    (hx : ENum k w (.agg a1.cells.toArray) x.s x.sf ∧ ENum k w (.agg a2.cells.toArray) x.h x.hf ∧ ENum k w (.agg a3.cells.toArray) x.b x.bf)
    (hy : ENum k w (.agg b1.cells.toArray) y.s y.sf ∧ ENum k w (.agg b2.cells.toArray) y.h y.hf ∧ ENum k w (.agg b3.cells.toArray) y.b y.bf) : Its k w (.slice (some ⟨g, 0, none⟩) 2 2) [x, y] := by
  refine ⟨some ⟨g, 0, none⟩, 2, rfl, Nat.le_refl _, by decide, fun i z hi => ?_⟩
  rcases (by omega : i = 0 ∨ i = 1 ∨ 2 ≤ i) with e | e | e
  · subst e; injection hi with hi; subst hi
    refine ⟨g, 0, rfl, a1, a2, a3, fun j u hj => ?_, hx.1, hx.2.1, hx.2.2⟩
    rw [Nat.zero_mul, Nat.zero_add]
    exact hr.cell (by rw [List.getElem?_append_left (List.getElem?_eq_some_iff.1 hj).1]; exact hj)
  · subst e; injection hi with hi; subst hi
    refine ⟨g, 0, rfl, b1, b2, b3, fun j u hj => ?_, hy.1, hy.2.1, hy.2.2⟩
    have hl : (a1.cells ++ a2.cells ++ a3.cells).length = 12 := rfl
    rw [Nat.zero_add, Nat.one_mul]
    exact hr.cell (by rw [List.getElem?_append_right (by omega), hl, Nat.add_sub_cancel_left]; exact hj)
  · rw [List.getElem?_eq_none (by show 2 ≤ i; exact e)] at hi; cases hi

/-! ### the plain law -/
def toO (o : POrd) : POrd := { o with item := 1 - o.item }
noncomputable def madeN (D : PBook) : Nat → List PMk
  | 0 => []
  | m + 1 => madeN D m ++ (match fixedV D (1 - ((m % 2 : Nat) : Int)) ((m / 2 : Nat) : Int) with | some q => [⟨((m % 2 : Nat) : Int), ((m / 2 : Nat) : Int), q⟩] | none => [])
noncomputable def toD (D : PBook) : PBook := { D with items := D.items.reverse, ords := D.ords.map toO, mks := madeN D 80 }
theorem madeN_mem {D : PBook} (m : Nat) : ∀ x ∈ madeN D m, ∃ k < m, x.item = ((k % 2 : Nat) : Int) ∧ x.period = ((k / 2 : Nat) : Int) ∧ 0 ≤ x.qty ∧ x.qty ≤ 100 := by
  induction m with
  | zero => intro x hx; cases hx
  | succ m ih =>
    intro x hx
    unfold madeN at hx
    rcases List.mem_append.1 hx with hx | hx
    · obtain ⟨k, hk, h⟩ := ih x hx; exact ⟨k, by omega, h⟩
    · have hb := fixedV_bound D (1 - ((m % 2 : Nat) : Int)) ((m / 2 : Nat) : Int)
      split at hx
      · rename_i q hq
        rw [hq] at hb
        simp at hx; subst hx
        exact ⟨m, by omega, rfl, rfl, by simpa using hb.1, by simpa using hb.2⟩
      · cases hx
theorem madeN_len {D : PBook} (m : Nat) : (madeN D m).length ≤ m := by
  induction m with
  | zero => exact Nat.le_refl _
  | succ m ih =>
    unfold madeN
    rw [List.length_append]
    split <;> simp <;> omega
theorem rises_snoc {l : List PMk} {z : PMk} (h : ∀ (i : Nat) a b, l[i]? = some a → l[i+1]? = some b → a.key < b.key) (hz : ∀ x ∈ l, x.key < z.key) : ∀ (i : Nat) a b, (l ++ [z])[i]? = some a → (l ++ [z])[i+1]? = some b → a.key < b.key := by
  intro i a b ha hb
  by_cases h1 : i + 1 < l.length
  · rw [List.getElem?_append_left (by omega)] at ha
    rw [List.getElem?_append_left h1] at hb
    exact h i a b ha hb
  · by_cases h2 : i + 1 = l.length
    · rw [List.getElem?_append_left (by omega)] at ha
      rw [h2, List.getElem?_append_right (Nat.le_refl _), Nat.sub_self] at hb
      simp at hb; subst hb
      exact hz a (List.mem_of_getElem? ha)
    · rw [List.getElem?_eq_none (by simp; omega)] at hb; cases hb
theorem madeN_rises {D : PBook} (m : Nat) : ∀ (i : Nat) a b, (madeN D m)[i]? = some a → (madeN D m)[i+1]? = some b → a.key < b.key := by
  induction m with
  | zero => intro i a b ha; simp [madeN] at ha
  | succ m ih =>
    unfold madeN
    split
    · refine rises_snoc ih fun x hx => ?_
      obtain ⟨k, hk, h1, h2, -⟩ := madeN_mem m x hx
      unfold PMk.key; rw [h1, h2]; dsimp only; omega
    · rw [List.append_nil]; exact ih
theorem madeN_find {D : PBook} (i p : Nat) (hi : i < 2) (m : Nat) : ((madeN D m).find? fun x => decide (x.item = (i : Int) ∧ x.period = (p : Int))).map (·.qty) = if 2 * p + i < m then fixedV D (1 - (i : Int)) p else none := by
  induction m with
  | zero => simp [madeN]
  | succ m ih =>
    unfold madeN
    rw [List.find?_append]
    by_cases h1 : 2 * p + i < m
    · rw [if_pos h1] at ih
      rw [if_pos (by omega)]
      cases hf : (madeN D m).find? fun x => decide (x.item = (i : Int) ∧ x.period = (p : Int)) with
      | some y => rw [hf] at ih; simpa using ih
      | none =>
        rw [hf] at ih
        rw [← ih]
        split
        · rw [List.find?_eq_none.2 (fun y hy => by rw [List.mem_singleton.1 hy]; simp only [decide_eq_true_eq]; omega)]; rfl
        · rfl
    · rw [if_neg h1] at ih
      have hn : (madeN D m).find? (fun x => decide (x.item = (i : Int) ∧ x.period = (p : Int))) = none := by simpa using ih
      rw [hn]
      by_cases h2 : 2 * p + i = m
      · rw [if_pos (by omega)]
        have e1 : m % 2 = i := by omega
        have e2 : m / 2 = p := by omega
        rw [e1, e2]
        cases hf : fixedV D (1 - (i : Int)) p with
        | none => rfl
        | some q => simp [List.find?]
      · rw [if_neg (by omega)]
        split
        · rw [List.find?_eq_none.2 (fun y hy => by rw [List.mem_singleton.1 hy]; simp only [decide_eq_true_eq]; omega)]; rfl
        · rfl
theorem madeN_step (D : PBook) (p i : Nat) (hi : i < 2) : madeN D (2 * p + (i + 1)) = madeN D (2 * p + i) ++ ((fixedV D (1 - (i : Int)) (p : Int)).map fun q => (⟨(i : Int), (p : Int), q⟩ : PMk)).toList := by
  have h1 : (2 * p + i) % 2 = i := by omega
  have h2 : (2 * p + i) / 2 = p := by omega
  show madeN D ((2 * p + i) + 1) = _
  simp only [madeN, h1, h2]
  cases fixedV D (1 - (i : Int)) (p : Int) <;> rfl
section
variable {D : PBook} (h : mayB D = true) (h2 : D.items.length = 2)
include h h2
theorem to_may : mayB (toD D) = true := by
  have hm := mayB_iff.1 h
  have hl : (toD D).items.length = D.items.length := by show (D.items.reverse).length = _; rw [List.length_reverse]
  refine mayB_iff.2 ⟨⟨?_, hm.head.caps, by rw [hl]; exact hm.head.n1, by rw [hl]; exact hm.head.n3, hm.head.h1, by rw [hl]; exact hm.head.h6, hm.head.t0, hm.head.t40, hm.head.cl⟩, ?_, ?_, ?_, ?_, ?_, madeN_rises 80⟩
  · intro x hx; exact hm.head.items x (List.mem_reverse.1 hx)
  · show (D.ords.map toO).length ≤ 30; rw [List.length_map]; exact hm.ol
  · exact Nat.le_trans (madeN_len 80) (by omega)
  · intro o ho
    obtain ⟨x, hx, rfl⟩ := List.mem_map.1 ho
    have := hm.ords x hx
    rw [hl, h2]; rw [h2] at this
    unfold POrd.okP at this ⊢; unfold toO; dsimp only; omega
  · intro x hx
    obtain ⟨k, hk, a, b, c, d⟩ := madeN_mem 80 x hx
    rw [hl, h2]
    unfold PMk.okP; rw [a, b]; omega
  · intro i a b ha hb
    have ha' : (D.ords.map toO)[i]? = some a := ha
    have hb' : (D.ords.map toO)[i+1]? = some b := hb
    rw [List.getElem?_map] at ha' hb'
    cases h5 : D.ords[i]? with
    | none => rw [h5] at ha'; cases ha'
    | some a0 =>
      cases h6 : D.ords[i+1]? with
      | none => rw [h6] at hb'; cases hb'
      | some b0 =>
        rw [h5] at ha'; rw [h6] at hb'
        injection ha' with ha'; injection hb' with hb'
        subst ha' hb'
        exact hm.oris i a0 b0 h5 h6
theorem to_fixed (i : Nat) (hi : i < 2) (p : Int) : fixedV (toD D) (i : Int) p = fixedV D (1 - (i : Int)) p := by
  have h' := to_may h h2
  have hm := mayB_iff.1 h
  by_cases hp : 0 ≤ p ∧ p ≤ 39
  · obtain ⟨k, rfl⟩ := Int.eq_ofNat_of_zero_le hp.1
    have := madeN_find (D := D) i k hi 80
    rw [if_pos (by omega)] at this
    rw [← this]
    unfold fixedV; rw [if_pos h']; rfl
  · have e1 : fixedV (toD D) (i : Int) p = none := by
      unfold fixedV; rw [if_pos h']
      rw [List.find?_eq_none.2 fun x hx => ?_]; rfl
      obtain ⟨k, hk, a, b, -⟩ := madeN_mem 80 x hx
      simp only [decide_eq_true_eq]
      rintro ⟨-, h9⟩; omega
    have e2 : fixedV D (1 - (i : Int)) p = none := by
      unfold fixedV; rw [if_pos h]
      rw [List.find?_eq_none.2 fun x hx => ?_]; rfl
      have := hm.mks x hx; unfold PMk.okP at this
      simp only [decide_eq_true_eq]
      rintro ⟨-, h9⟩; omega
    rw [e1, e2]
theorem to_due (i p : Int) : dueV (toD D) i p = dueV D (1 - i) p := by
  unfold dueV; rw [if_pos h, if_pos (to_may h h2)]
  show dueOf i p (D.ords.map toO) = _
  unfold dueOf; rw [List.map_map]
  refine sumI_congr fun o _ => ?_
  show (if 1 - o.item = i ∧ o.due = p then o.qty else 0) = _
  by_cases g : o.item = 1 - i ∧ o.due = p
  · rw [if_pos g, if_pos ⟨by omega, g.2⟩]
  · rw [if_neg g, if_neg (fun h => g ⟨by omega, h.2⟩)]
theorem to_thereR (i : Nat) (hi : i < 2) (k : Nat) : thereR (toD D) (i : Int) k = thereR D (1 - (i : Int)) k := by
  induction k with
  | zero => rfl
  | succ k ih =>
    show thereR (toD D) (i : Int) k + (fixedV (toD D) (i : Int) k).getD 0 - dueV (toD D) (i : Int) k = thereR D (1 - (i : Int)) k + (fixedV D (1 - (i : Int)) k).getD 0 - dueV D (1 - (i : Int)) k
    rw [ih, to_fixed h h2 i hi, to_due h h2]
theorem to_lev (r : List Int) (i : Nat) (hi : i < 2) (k : Nat) : lev (toD D) r (i : Int) k = lev D r (1 - (i : Int)) k := by
  induction k with
  | zero =>
    show thereV (toD D) (i : Int) = thereV D (1 - (i : Int))
    rw [thereV_R, thereV_R]; exact to_thereR h h2 i hi _
  | succ k ih =>
    show lev (toD D) r (i : Int) k + (r.getD k 0 - dueV (toD D) (i : Int) (D.now + k)) = lev D r (1 - (i : Int)) k + (r.getD k 0 - dueV D (1 - (i : Int)) (D.now + k))
    rw [ih, to_due h h2]
theorem to_shape (r0 r1 : List Int) : shapeB (toD D) [r1, r0] = shapeB D [r0, r1] := by
  unfold shapeB; rw [h, to_may h h2]
  show (_ && (decide ([r1, r0].length = (D.items.reverse).length) && _)) = _
  rw [List.length_reverse]
  show (_ && (_ && (rowOk D.hor r1 && (rowOk D.hor r0 && true)))) = (_ && (_ && (rowOk D.hor r0 && (rowOk D.hor r1 && true))))
  cases rowOk D.hor r0 <;> cases rowOk D.hor r1 <;> rfl
theorem to_costRow (x : PItem) (r : List Int) (i : Nat) (hi : i < 2) (k : Nat) : costRow (toD D) x r i k = costRow D x r (1 - i) k := by
  have e : (1 - (i : Int)) = ((1 - i : Nat) : Int) := by omega
  induction k with
  | zero => rfl
  | succ k ih =>
    show costRow (toD D) x r i k + termC x (r.getD k 0) (lev (toD D) r (i : Int) (k+1)) = costRow D x r (1 - i) k + termC x (r.getD k 0) (lev D r ((1 - i : Nat) : Int) (k+1))
    rw [ih, to_lev h h2 r i hi, e]
theorem to_cost (r0 r1 : List Int) : costV (toD D) [r1, r0] = costV D [r0, r1] := by
  unfold costV; rw [to_shape h h2]
  split
  · obtain ⟨x0, x1, e⟩ : ∃ x0 x1, D.items = [x0, x1] := by
      match hh : D.items, h2 with
      | [a, b], _ => exact ⟨a, b, rfl⟩
    have e' : (toD D).items = [x1, x0] := by show D.items.reverse = _; rw [e]; rfl
    show (0 + costRow (toD D) ((toD D).items.getD 0 item0) r1 0 D.hor.toNat) + costRow (toD D) ((toD D).items.getD 1 item0) r0 1 D.hor.toNat = (0 + costRow D (D.items.getD 0 item0) r0 0 D.hor.toNat) + costRow D (D.items.getD 1 item0) r1 1 D.hor.toNat
    rw [e, e', to_costRow h h2 _ _ 0 (by omega), to_costRow h h2 _ _ 1 (by omega)]
    show (0 + costRow D x1 r1 1 D.hor.toNat) + costRow D x0 r0 0 D.hor.toNat = (0 + costRow D x0 r0 0 D.hor.toNat) + costRow D x1 r1 1 D.hor.toNat
    grind
  · rfl
set_option maxHeartbeats 1000000 in
theorem to_allowed (r0 r1 : List Int) : allowedB (toD D) [r1, r0] = allowedB D [r0, r1] := by
  have h' := to_may h h2
  have hc : ∀ p, capV (toD D) p = capV D p := fun p => by unfold capV; rw [h, h']; rfl
  have f0 : ∀ p, fixedV (toD D) ((0 : Nat) : Int) p = fixedV D ((1 : Nat) : Int) p := fun p => by rw [to_fixed h h2 0 (by omega)]; rfl
  have f1 : ∀ p, fixedV (toD D) ((1 : Nat) : Int) p = fixedV D ((0 : Nat) : Int) p := fun p => by rw [to_fixed h h2 1 (by omega)]; rfl
  have l0 : ∀ r k, lev (toD D) r ((0 : Nat) : Int) k = lev D r ((1 : Nat) : Int) k := fun r k => by rw [to_lev h h2 r 0 (by omega)]; rfl
  have l1 : ∀ r k, lev (toD D) r ((1 : Nat) : Int) k = lev D r ((0 : Nat) : Int) k := fun r k => by rw [to_lev h h2 r 1 (by omega)]; rfl
  have hfr : ∀ k, freeB (toD D) k 2 = freeB D k 2 := by
    intro k
    show ((false || (fixedV (toD D) ((0 : Nat) : Int) (D.now + k)).isNone) || (fixedV (toD D) ((1 : Nat) : Int) (D.now + k)).isNone) = ((false || (fixedV D ((0 : Nat) : Int) (D.now + k)).isNone) || (fixedV D ((1 : Nat) : Int) (D.now + k)).isNone)
    rw [f0, f1, Bool.false_or, Bool.false_or, Bool.or_comm]
  have hcs : ∀ k, colSum [r1, r0] k 2 = colSum [r0, r1] k 2 := by
    intro k
    show (0 + r1.getD k 0) + r0.getD k 0 = (0 + r0.getD k 0) + r1.getD k 0
    omega
  have hp : ∀ k, periodP (toD D) [r1, r0] k ↔ periodP D [r0, r1] k := by
    intro k
    have e1 : (toD D).now + (k : Int) = D.now + k := rfl
    unfold periodP fixOk
    rw [e1]
    show ((∀ i : Nat, i < 2 → ∀ n, fixedV (toD D) (i : Int) (D.now + k) = some n → n = qAt [r1, r0] i k) ∧ (freeB (toD D) k 2 = true → colSum [r1, r0] k 2 ≤ capV (toD D) (D.now + k))) ↔ ((∀ i : Nat, i < 2 → ∀ n, fixedV D (i : Int) (D.now + k) = some n → n = qAt [r0, r1] i k) ∧ (freeB D k 2 = true → colSum [r0, r1] k 2 ≤ capV D (D.now + k)))
    rw [hfr, hcs, hc]
    have q0 : qAt [r1, r0] 1 k = qAt [r0, r1] 0 k := rfl
    have q1 : qAt [r1, r0] 0 k = qAt [r0, r1] 1 k := rfl
    refine and_congr_left fun _ => ?_
    constructor
    · intro hh i hi n hn
      rcases (by omega : i = 0 ∨ i = 1) with e | e
      · subst e; have := hh 1 (by omega) n (by rw [f1]; exact hn); rw [q0] at this; exact this
      · subst e; have := hh 0 (by omega) n (by rw [f0]; exact hn); rw [q1] at this; exact this
    · intro hh i hi n hn
      rcases (by omega : i = 0 ∨ i = 1) with e | e
      · subst e; have := hh 1 (by omega) n (by rw [← f0]; exact hn); rw [← q1] at this; exact this
      · subst e; have := hh 0 (by omega) n (by rw [← f1]; exact hn); rw [← q0] at this; exact this
  have e : AllowedP (toD D) [r1, r0] ↔ AllowedP D [r0, r1] := by
    constructor
    · rintro ⟨a, b, c⟩
      refine ⟨shapeB_iff.1 (by rw [← to_shape h h2]; exact shapeB_iff.2 a), fun k hk => (hp k).1 (b k hk), fun i r hr => ?_⟩
      rcases (by omega : i = 0 ∨ i = 1 ∨ 2 ≤ i) with e | e | e
      · subst e; injection hr with hr; subst hr; have := c 1 _ rfl; rw [l1] at this; exact this
      · subst e; injection hr with hr; subst hr; have := c 0 _ rfl; rw [l0] at this; exact this
      · rw [List.getElem?_eq_none (by show 2 ≤ i; exact e)] at hr; cases hr
    · rintro ⟨a, b, c⟩
      refine ⟨shapeB_iff.1 (by rw [to_shape h h2]; exact shapeB_iff.2 a), fun k hk => (hp k).2 (b k hk), fun i r hr => ?_⟩
      rcases (by omega : i = 0 ∨ i = 1 ∨ 2 ≤ i) with e | e | e
      · subst e; injection hr with hr; subst hr; rw [l0]; exact c 1 _ rfl
      · subst e; injection hr with hr; subst hr; rw [l1]; exact c 0 _ rfl
      · rw [List.getElem?_eq_none (by show 2 ≤ i; exact e)] at hr; cases hr
  exact Bool.eq_iff_iff.2 (by rw [allowedB_iff, allowedB_iff]; exact e)
end

set_option maxHeartbeats 16000000 in
theorem planturned_walk (w : World) (v0 v1 : Value) (h0 : ArgBook w v0) (h1 : ArgGrid w v1) :
    Calls Tryz.prog 8 #[v0, v1] w (RetV w (.bool true)) := by
  obtain ⟨A1, A2, A3, A4, n1, n2, n3, n4, c1, c2, c3, c4, hor, now, caps, ords, mks, rfl, hi, hcp, hor', hmk, hft⟩ := h0
  have HI := hide hi; have HCP := hide hcp; have HOR := hide hor'; have HMK := hide hmk; have HFT := hide hft
  clear hi hcp hor' hmk hft
  obtain ⟨Aq, nq, cq, t, rfl, hg, hgf, hgl⟩ := h1
  have HG := hide hg; have HGF := hide hgf; have HGL := hide hgl
  clear hg hgf hgl
  obtain ⟨W0, hW0⟩ : ∃ W0, W0 = (w.alloc (Obj.cells #[Value.slice A1 n1 c1, Value.int .i64 hor, Value.int .i64 now, Value.slice A2 n2 c2, Value.slice A3 n3 c3, Value.slice A4 n4 c4] 47)) := ⟨_, rfl⟩
  obtain ⟨hb0, r0, hsz0⟩ := boxes1 w [.slice A1 n1 c1, .int .i64 hor, .int .i64 now, .slice A2 n2 c2, .slice A3 n3 c3, .slice A4 n4 c4] 47 hW0
  have B0 := hide hb0; have HW0 := hide hW0
  have R0 := hide r0
  clear hb0 hW0 hsz0 r0
  go_enter Tryz.func8, Tryz.ntmps8
  go_upto_region 1 with fail
  rw [← HW0.out]
  go_wp2_with fail
  ((with_reducible refine (awake17_calls W0).mono ?_); rintro e w1 ⟨rfl, b1⟩)
  have HL1 := hide b1
  clear b1
  have r_d := R0.out.later HL1.out
  have d0 := r_d.cell (i := 0) rfl; have d1 := r_d.cell (i := 1) rfl; have d2 := r_d.cell (i := 2) rfl; have d3 := r_d.cell (i := 3) rfl; have d4 := r_d.cell (i := 4) rfl; have d5 := r_d.cell (i := 5) rfl
  clear r_d
  go_wp2_with fail
  ((with_reducible refine (few17_calls w1 _ _ _ _ _ _ _ _ _ _ _ _ hor now caps ords mks (HI.out.later (B0.out.trans HL1.out)) (HCP.out.later (B0.out.trans HL1.out)) (HOR.out.later (B0.out.trans HL1.out)) (HMK.out.later (B0.out.trans HL1.out)) HFT.out.1 HFT.out.2.1 HFT.out.2.2.1 HFT.out.2.2.2.1 HFT.out.2.2.2.2).mono ?_); rintro e w2 ⟨uf, rfl, b2, hf⟩)
  have HF := hide hf; have HL2 := hide (HL1.out.trans b2)
  have HLB := hide b2
  clear b2 hf d0 d1 d2 d3 d4 d5
  have r_d := R0.out.later HL2.out
  have d0 := r_d.cell (i := 0) rfl; have d1 := r_d.cell (i := 1) rfl; have d2 := r_d.cell (i := 2) rfl; have d3 := r_d.cell (i := 3) rfl; have d4 := r_d.cell (i := 4) rfl; have d5 := r_d.cell (i := 5) rfl
  clear r_d
  cases uf with
  | false =>
    go_wp2_with fail
    go_ret
    exact ⟨rfl, B0.out.trans HL2.out⟩
  | true =>
  obtain ⟨D, rfl, rfl, rfl, rfl, rfl, hbk⟩ := HF.out (by first | rfl | trivial)
  have H := hide (hbk.later HLB.out)
  clear hbk HF HI HCP HOR HMK HFT HLB
  go_wp2_with fail
  ((with_reducible refine (fewplan_calls w2 _ _ _ t (HG.out.later (B0.out.trans HL2.out)) HGF.out HGL.out).mono ?_); rintro e w3 ⟨uf, rfl, b3, hf⟩)
  have HF := hide hf; have HL3 := hide (HL2.out.trans b3)
  have HK3 := hide b3
  clear b3 hf d0 d1 d2 d3 d4 d5
  have r_d := R0.out.later HL3.out
  have d0 := r_d.cell (i := 0) rfl; have d1 := r_d.cell (i := 1) rfl; have d2 := r_d.cell (i := 2) rfl; have d3 := r_d.cell (i := 3) rfl; have d4 := r_d.cell (i := 4) rfl; have d5 := r_d.cell (i := 5) rfl
  clear r_d
  cases uf with
  | false =>
    go_wp2_with fail
    go_ret
    exact ⟨rfl, B0.out.trans HL3.out⟩
  | true =>
  have HQ := hide ((HF.out (by first | rfl | trivial)).later HK3.out)
  have H3 := hide (H.out.later HK3.out)
  clear H HF HG HGF HGL
  have H := H3
  clear H3
  obtain ⟨u0, hu0⟩ : ∃ u, mayB D = u := ⟨_, rfl⟩
  have HU0 := hide hu0
  have L1 := hide H.out.lens.1; have L3 := hide H.out.lens.2.2.1; have LQ := hide HQ.out.lenq
  have hn3 : n3 ≤ 1000 := by have := H.out.ol; have := L3.out; omega
  clear hu0
  go_wp2_with fail
  ((with_reducible refine (rmay_calls _ _ _ _ _ _ _ _ _ _ _ _ _ D H.out u0 HU0.out).mono ?_); rintro e w4 ⟨rfl, b4⟩)
  have HL4 := hide (HL3.out.trans b4); have HL34 := hide b4
  clear b4 d0 d1 d2 d3 d4 d5
  have r_d := R0.out.later HL4.out
  have d0 := r_d.cell (i := 0) rfl; have d1 := r_d.cell (i := 1) rfl; have d2 := r_d.cell (i := 2) rfl; have d3 := r_d.cell (i := 3) rfl; have d4 := r_d.cell (i := 4) rfl; have d5 := r_d.cell (i := 5) rfl
  clear r_d
  cases u0 with
  | false =>
    go_wp2_with fail
    go_ret
    exact ⟨rfl, B0.out.trans HL4.out⟩
  | true =>
  by_cases g1 : n1 = 2
  rotate_left
  · have t1 : ((n1 : Int) != 2) = true := by rw [bne_iff_ne]; omega
    go_wp2_with fail
    go_ret
    exact ⟨rfl, B0.out.trans HL4.out⟩
  by_cases g2 : nq = 2
  rotate_left
  · subst g1
    have t1 : ((nq : Int) != 2) = true := by rw [bne_iff_ne]; omega
    go_wp2_with fail
    go_ret
    exact ⟨rfl, B0.out.trans HL4.out⟩
  subst g1 g2
  have HMAY := hide (mayB_iff.1 HU0.out)
  obtain ⟨i0, i1, hii⟩ : ∃ x y, D.items = [x, y] := by
    have := L1.out
    match hh : D.items, this with
    | [a, b], _ => exact ⟨a, b, rfl⟩
  obtain ⟨r0, r1, rfl⟩ : ∃ x y, t = [x, y] := by
    have := LQ.out
    match t, this with
    | [a, b], _ => exact ⟨a, b, rfl⟩
  obtain ⟨b1, off1, rfl, e1, e2, e3, x0, x1, x2, x3, x4, x5, x6, x7, x8, x9, x10, x11, m1, m2, m3⟩ := (H.out.later HL34.out).its.at12 (i := 0) (x := i0) (by rw [hii]; rfl)
  obtain ⟨b1', off1', hbb, k1, k2, k3, y0, y1, y2, y3, y4, y5, y6, y7, y8, y9, y10, y11, p1, p2, p3⟩ := (H.out.later HL34.out).its.at12 (i := 1) (x := i1) (by rw [hii]; rfl)
  injection hbb with hbb; injection hbb with hb1 hb2
  subst hb1 hb2
  have HII := hide hii
  have hxy : w4.cell? ⟨b1, off1 + 0 * 12, none⟩ = some (.bool e1.a) ∧ w4.cell? ⟨b1, off1 + 0 * 12 + 1, none⟩ = some (.slice e1.A e1.n e1.c) ∧ w4.cell? ⟨b1, off1 + 0 * 12 + 2, none⟩ = some (.bool e1.a') ∧ w4.cell? ⟨b1, off1 + 0 * 12 + 3, none⟩ = some (.slice e1.A' e1.n' e1.c') ∧ w4.cell? ⟨b1, off1 + 0 * 12 + 4, none⟩ = some (.bool e2.a) ∧ w4.cell? ⟨b1, off1 + 0 * 12 + 5, none⟩ = some (.slice e2.A e2.n e2.c) ∧ w4.cell? ⟨b1, off1 + 0 * 12 + 6, none⟩ = some (.bool e2.a') ∧ w4.cell? ⟨b1, off1 + 0 * 12 + 7, none⟩ = some (.slice e2.A' e2.n' e2.c') ∧ w4.cell? ⟨b1, off1 + 0 * 12 + 8, none⟩ = some (.bool e3.a) ∧ w4.cell? ⟨b1, off1 + 0 * 12 + 9, none⟩ = some (.slice e3.A e3.n e3.c) ∧ w4.cell? ⟨b1, off1 + 0 * 12 + 10, none⟩ = some (.bool e3.a') ∧ w4.cell? ⟨b1, off1 + 0 * 12 + 11, none⟩ = some (.slice e3.A' e3.n' e3.c') ∧ w4.cell? ⟨b1, off1 + 1 * 12, none⟩ = some (.bool k1.a) ∧ w4.cell? ⟨b1, off1 + 1 * 12 + 1, none⟩ = some (.slice k1.A k1.n k1.c) ∧ w4.cell? ⟨b1, off1 + 1 * 12 + 2, none⟩ = some (.bool k1.a') ∧ w4.cell? ⟨b1, off1 + 1 * 12 + 3, none⟩ = some (.slice k1.A' k1.n' k1.c') ∧ w4.cell? ⟨b1, off1 + 1 * 12 + 4, none⟩ = some (.bool k2.a) ∧ w4.cell? ⟨b1, off1 + 1 * 12 + 5, none⟩ = some (.slice k2.A k2.n k2.c) ∧ w4.cell? ⟨b1, off1 + 1 * 12 + 6, none⟩ = some (.bool k2.a') ∧ w4.cell? ⟨b1, off1 + 1 * 12 + 7, none⟩ = some (.slice k2.A' k2.n' k2.c') ∧ w4.cell? ⟨b1, off1 + 1 * 12 + 8, none⟩ = some (.bool k3.a) ∧ w4.cell? ⟨b1, off1 + 1 * 12 + 9, none⟩ = some (.slice k3.A k3.n k3.c) ∧ w4.cell? ⟨b1, off1 + 1 * 12 + 10, none⟩ = some (.bool k3.a') ∧ w4.cell? ⟨b1, off1 + 1 * 12 + 11, none⟩ = some (.slice k3.A' k3.n' k3.c') := ⟨x0, x1, x2, x3, x4, x5, x6, x7, x8, x9, x10, x11, y0, y1, y2, y3, y4, y5, y6, y7, y8, y9, y10, y11⟩
  have HXY := hide hxy
  have HM1 := hide (And.intro m1 (And.intro m2 m3)); have HM2 := hide (And.intro p1 (And.intro p2 p3))
  clear hii hxy m1 m2 m3 p1 p2 p3 x0 x1 x2 x3 x4 x5 x6 x7 x8 x9 x10 x11 y0 y1 y2 y3 y4 y5 y6 y7 y8 y9 y10 y11
  go_upto_region 6 with fail
  obtain ⟨w5, hw5⟩ : ∃ w5, w5 = w4.alloc (Obj.cells #[Value.slice (some ⟨b1, off1, none⟩) 2 c1, Value.int .i64 D.hor, Value.int .i64 D.now, Value.slice A2 n2 c2, Value.slice A3 n3 c3, Value.slice A4 n4 c4] 47) := ⟨_, rfl⟩
  obtain ⟨G, hG⟩ : ∃ G, G = w4.heap.size := ⟨_, rfl⟩
  have bw5 : Later w4 w5 := by rw [hw5]; exact (Later.refl _).alloc _
  have rG : Row w5 G 47 [.slice (some ⟨b1, off1, none⟩) 2 c1, .int .i64 D.hor, .int .i64 D.now, .slice A2 n2 c2, .slice A3 n3 c3, .slice A4 n4 c4] := by rw [hw5, hG]; exact Row.new _ _ _
  rw [← hw5, ← hG]
  have HG : Hid (w4.heap.size ≤ G) := hide (by rw [hG]; exact Nat.le_refl _)
  have HW5 : Hid (w5.heap.size = G + 1) := hide (by rw [hw5, World.size_alloc, hG])
  have RG5 := hide rG; have HL4a := hide bw5
  clear hw5 hG rG bw5 d0 d1 d2 d3 d4 d5
  have hrx := R0.out.later HL4.out
  obtain ⟨x0, x1, x2, x3, x4, x5, x6, x7, x8, x9, x10, x11, y0, y1, y2, y3, y4, y5, y6, y7, y8, y9, y10, y11⟩ := HXY.out
  have HT1 : Hid (∀ w', Later w4 w' → w'.cell? ⟨w.heap.size, 0, none⟩ = some (.slice (some ⟨b1, off1, none⟩) 2 c1) ∧ w'.cell? ⟨w.heap.size, 1, none⟩ = some (.int .i64 D.hor) ∧ w'.cell? ⟨w.heap.size, 2, none⟩ = some (.int .i64 D.now) ∧ w'.cell? ⟨w.heap.size, 3, none⟩ = some (.slice A2 n2 c2) ∧ w'.cell? ⟨w.heap.size, 4, none⟩ = some (.slice A3 n3 c3) ∧ w'.cell? ⟨w.heap.size, 5, none⟩ = some (.slice A4 n4 c4) ∧ w'.cell? ⟨b1, off1, none⟩ = some (.bool e1.a) ∧ w'.cell? ⟨b1, off1 + 1, none⟩ = some (.slice e1.A e1.n e1.c) ∧ w'.cell? ⟨b1, off1 + 2, none⟩ = some (.bool e1.a') ∧ w'.cell? ⟨b1, off1 + 3, none⟩ = some (.slice e1.A' e1.n' e1.c') ∧ w'.cell? ⟨b1, off1 + 4, none⟩ = some (.bool e2.a) ∧ w'.cell? ⟨b1, off1 + 5, none⟩ = some (.slice e2.A e2.n e2.c) ∧ w'.cell? ⟨b1, off1 + 6, none⟩ = some (.bool e2.a') ∧ w'.cell? ⟨b1, off1 + 7, none⟩ = some (.slice e2.A' e2.n' e2.c') ∧ w'.cell? ⟨b1, off1 + 8, none⟩ = some (.bool e3.a) ∧ w'.cell? ⟨b1, off1 + 9, none⟩ = some (.slice e3.A e3.n e3.c) ∧ w'.cell? ⟨b1, off1 + 10, none⟩ = some (.bool e3.a') ∧ w'.cell? ⟨b1, off1 + 11, none⟩ = some (.slice e3.A' e3.n' e3.c') ∧ w'.cell? ⟨b1, off1 + 12, none⟩ = some (.bool k1.a) ∧ w'.cell? ⟨b1, off1 + 13, none⟩ = some (.slice k1.A k1.n k1.c) ∧ w'.cell? ⟨b1, off1 + 14, none⟩ = some (.bool k1.a') ∧ w'.cell? ⟨b1, off1 + 15, none⟩ = some (.slice k1.A' k1.n' k1.c') ∧ w'.cell? ⟨b1, off1 + 16, none⟩ = some (.bool k2.a) ∧ w'.cell? ⟨b1, off1 + 17, none⟩ = some (.slice k2.A k2.n k2.c) ∧ w'.cell? ⟨b1, off1 + 18, none⟩ = some (.bool k2.a') ∧ w'.cell? ⟨b1, off1 + 19, none⟩ = some (.slice k2.A' k2.n' k2.c') ∧ w'.cell? ⟨b1, off1 + 20, none⟩ = some (.bool k3.a) ∧ w'.cell? ⟨b1, off1 + 21, none⟩ = some (.slice k3.A k3.n k3.c) ∧ w'.cell? ⟨b1, off1 + 22, none⟩ = some (.bool k3.a') ∧ w'.cell? ⟨b1, off1 + 23, none⟩ = some (.slice k3.A' k3.n' k3.c')) := hide fun w' hb => ⟨(hrx.later hb).cell rfl, (hrx.later hb).cell rfl, (hrx.later hb).cell rfl, (hrx.later hb).cell rfl, (hrx.later hb).cell rfl, (hrx.later hb).cell rfl, Later.cell hb (by simpa using x0), Later.cell hb (by simpa using x1), Later.cell hb (by simpa using x2), Later.cell hb (by simpa using x3), Later.cell hb (by simpa using x4), Later.cell hb (by simpa using x5), Later.cell hb (by simpa using x6), Later.cell hb (by simpa using x7), Later.cell hb (by simpa using x8), Later.cell hb (by simpa using x9), Later.cell hb (by simpa using x10), Later.cell hb (by simpa using x11), Later.cell hb (by simpa [Nat.add_assoc] using y0), Later.cell hb (by simpa [Nat.add_assoc] using y1), Later.cell hb (by simpa [Nat.add_assoc] using y2), Later.cell hb (by simpa [Nat.add_assoc] using y3), Later.cell hb (by simpa [Nat.add_assoc] using y4), Later.cell hb (by simpa [Nat.add_assoc] using y5), Later.cell hb (by simpa [Nat.add_assoc] using y6), Later.cell hb (by simpa [Nat.add_assoc] using y7), Later.cell hb (by simpa [Nat.add_assoc] using y8), Later.cell hb (by simpa [Nat.add_assoc] using y9), Later.cell hb (by simpa [Nat.add_assoc] using y10), Later.cell hb (by simpa [Nat.add_assoc] using y11)⟩
  clear hrx x0 x1 x2 x3 x4 x5 x6 x7 x8 x9 x10 x11 y0 y1 y2 y3 y4 y5 y6 y7 y8 y9 y10 y11
  have hmx : Tryz.prog.follows .mixedOrders = true := by kernel_rfl
  refine wp_region_N (fun w' => w'.cell? ⟨w.heap.size, 0, none⟩ = some (.slice (some ⟨b1, off1, none⟩) 2 c1) ∧ w'.cell? ⟨w.heap.size, 1, none⟩ = some (.int .i64 D.hor) ∧ w'.cell? ⟨w.heap.size, 2, none⟩ = some (.int .i64 D.now) ∧ w'.cell? ⟨w.heap.size, 3, none⟩ = some (.slice A2 n2 c2) ∧ w'.cell? ⟨w.heap.size, 4, none⟩ = some (.slice A3 n3 c3) ∧ w'.cell? ⟨w.heap.size, 5, none⟩ = some (.slice A4 n4 c4) ∧ w'.cell? ⟨b1, off1, none⟩ = some (.bool e1.a) ∧ w'.cell? ⟨b1, off1 + 1, none⟩ = some (.slice e1.A e1.n e1.c) ∧ w'.cell? ⟨b1, off1 + 2, none⟩ = some (.bool e1.a') ∧ w'.cell? ⟨b1, off1 + 3, none⟩ = some (.slice e1.A' e1.n' e1.c') ∧ w'.cell? ⟨b1, off1 + 4, none⟩ = some (.bool e2.a) ∧ w'.cell? ⟨b1, off1 + 5, none⟩ = some (.slice e2.A e2.n e2.c) ∧ w'.cell? ⟨b1, off1 + 6, none⟩ = some (.bool e2.a') ∧ w'.cell? ⟨b1, off1 + 7, none⟩ = some (.slice e2.A' e2.n' e2.c') ∧ w'.cell? ⟨b1, off1 + 8, none⟩ = some (.bool e3.a) ∧ w'.cell? ⟨b1, off1 + 9, none⟩ = some (.slice e3.A e3.n e3.c) ∧ w'.cell? ⟨b1, off1 + 10, none⟩ = some (.bool e3.a') ∧ w'.cell? ⟨b1, off1 + 11, none⟩ = some (.slice e3.A' e3.n' e3.c') ∧ w'.cell? ⟨b1, off1 + 12, none⟩ = some (.bool k1.a) ∧ w'.cell? ⟨b1, off1 + 13, none⟩ = some (.slice k1.A k1.n k1.c) ∧ w'.cell? ⟨b1, off1 + 14, none⟩ = some (.bool k1.a') ∧ w'.cell? ⟨b1, off1 + 15, none⟩ = some (.slice k1.A' k1.n' k1.c') ∧ w'.cell? ⟨b1, off1 + 16, none⟩ = some (.bool k2.a) ∧ w'.cell? ⟨b1, off1 + 17, none⟩ = some (.slice k2.A k2.n k2.c) ∧ w'.cell? ⟨b1, off1 + 18, none⟩ = some (.bool k2.a') ∧ w'.cell? ⟨b1, off1 + 19, none⟩ = some (.slice k2.A' k2.n' k2.c') ∧ w'.cell? ⟨b1, off1 + 20, none⟩ = some (.bool k3.a) ∧ w'.cell? ⟨b1, off1 + 21, none⟩ = some (.slice k3.A k3.n k3.c) ∧ w'.cell? ⟨b1, off1 + 22, none⟩ = some (.bool k3.a') ∧ w'.cell? ⟨b1, off1 + 23, none⟩ = some (.slice k3.A' k3.n' k3.c')) [10] hmx (HT1.out _ HL4a.out.drew) (fun hHeld => ?_)
  refine wpAnyN_takeD (some 43) (by rfl) (i := 0) (oi := _) (v := ?_) rfl (by kernel_rfl) (by kernel_rfl) (by kernel_rfl) (by kernel_rfl) (fun _ _ _ h => h) (Or.inl ⟨by rfl, ?_⟩) (by assumption) ?_
  rotate_left
  · intro w hSw; (try dsimp only at hSw); go_simp
    first | done | with_reducible rfl
  try simp only [Act.put, List.setIfInBounds_toArray, List.set_cons_zero, List.set_cons_succ]
  refine wpAnyN_takeD (some 44) (by rfl) (i := 1) (oi := _) (v := ?_) rfl (by kernel_rfl) (by kernel_rfl) (by kernel_rfl) (by kernel_rfl) (fun _ _ _ h => h) (Or.inl ⟨by rfl, ?_⟩) (by assumption) ?_
  rotate_left
  · intro w hSw; (try dsimp only at hSw); go_simp
    first | done | with_reducible rfl
  try simp only [Act.put, List.setIfInBounds_toArray, List.set_cons_zero, List.set_cons_succ]
  refine wpAnyN_takeD (some 45) (by rfl) (i := 2) (oi := _) (v := ?_) rfl (by kernel_rfl) (by kernel_rfl) (by kernel_rfl) (by kernel_rfl) (fun _ _ _ h => h) (Or.inl ⟨by rfl, ?_⟩) (by assumption) ?_
  rotate_left
  · intro w hSw; (try dsimp only at hSw); go_simp
    first | done | with_reducible rfl
  try simp only [Act.put, List.setIfInBounds_toArray, List.set_cons_zero, List.set_cons_succ]
  refine wpAnyN_takeD (some 46) (by rfl) (i := 3) (oi := _) (v := ?_) rfl (by kernel_rfl) (by kernel_rfl) (by kernel_rfl) (by kernel_rfl) (fun _ _ _ h => h) (Or.inl ⟨by rfl, ?_⟩) (by assumption) ?_
  rotate_left
  · intro w hSw; (try dsimp only at hSw); go_simp
    first | done | with_reducible rfl
  try simp only [Act.put, List.setIfInBounds_toArray, List.set_cons_zero, List.set_cons_succ]
  refine wpAnyN_takeD (some 47) (by rfl) (i := 4) (oi := _) (v := ?_) rfl (by kernel_rfl) (by kernel_rfl) (by kernel_rfl) (by kernel_rfl) (fun _ _ _ h => h) (Or.inl ⟨by rfl, ?_⟩) (by assumption) ?_
  rotate_left
  · intro w hSw; (try dsimp only at hSw); go_simp
    first | done | with_reducible rfl
  try simp only [Act.put, List.setIfInBounds_toArray, List.set_cons_zero, List.set_cons_succ]
  refine wpAnyN_takeD (some 48) (by rfl) (i := 5) (oi := _) (v := ?_) rfl (by kernel_rfl) (by kernel_rfl) (by kernel_rfl) (by kernel_rfl) (fun _ _ _ h => h) (Or.inl ⟨by rfl, ?_⟩) (by assumption) ?_
  rotate_left
  · intro w hSw; (try dsimp only at hSw); go_simp
    first | done | with_reducible rfl
  try simp only [Act.put, List.setIfInBounds_toArray, List.set_cons_zero, List.set_cons_succ]
  refine wpAnyN_takeD (some 49) (by rfl) (i := 6) (oi := _) (v := ?_) rfl (by kernel_rfl) (by kernel_rfl) (by kernel_rfl) (by kernel_rfl) (fun _ _ _ h => h) (Or.inl ⟨by rfl, ?_⟩) (by assumption) ?_
  rotate_left
  · intro w hSw; (try dsimp only at hSw); go_simp
    first | done | with_reducible rfl
  try simp only [Act.put, List.setIfInBounds_toArray, List.set_cons_zero, List.set_cons_succ]
  refine wpAnyN_takeD (some 50) (by rfl) (i := 7) (oi := _) (v := ?_) rfl (by kernel_rfl) (by kernel_rfl) (by kernel_rfl) (by kernel_rfl) (fun _ _ _ h => h) (Or.inl ⟨by rfl, ?_⟩) (by assumption) ?_
  rotate_left
  · intro w hSw; (try dsimp only at hSw); go_simp
    first | done | with_reducible rfl
  try simp only [Act.put, List.setIfInBounds_toArray, List.set_cons_zero, List.set_cons_succ]
  refine wpAnyN_ready (rs := [8]) (by kernel_rfl) (by simp) ?_
  refine AllReadyN.held rfl (by rfl) (fun K hK => ?_) AllReadyN.nil
  go_simp
  have hg8 := RG5.out.later (((Later.refl w5).alloc (Obj.cells #[Value.bool k1.a, Value.slice k1.A k1.n k1.c, Value.bool k1.a', Value.slice k1.A' k1.n' k1.c', Value.bool k2.a, Value.slice k2.A k2.n k2.c, Value.bool k2.a', Value.slice k2.A' k2.n' k2.c', Value.bool k3.a, Value.slice k3.A k3.n k3.c, Value.bool k3.a', Value.slice k3.A' k3.n' k3.c', Value.bool e1.a, Value.slice e1.A e1.n e1.c, Value.bool e1.a', Value.slice e1.A' e1.n' e1.c', Value.bool e2.a, Value.slice e2.A e2.n e2.c, Value.bool e2.a', Value.slice e2.A' e2.n' e2.c', Value.bool e3.a, Value.slice e3.A e3.n e3.c, Value.bool e3.a', Value.slice e3.A' e3.n' e3.c'] 62)).drew)
  have f0 := hg8.cell (i := 0) rfl; have f1 := hg8.cell (i := 1) rfl; have f2 := hg8.cell (i := 2) rfl; have f3 := hg8.cell (i := 3) rfl; have f4 := hg8.cell (i := 4) rfl; have f5 := hg8.cell (i := 5) rfl; have z0 := hg8.frozen 0
  refine hK.out _ _ ?_ (fun hHeld => ?_)
  · exact HT1.out _ (HL4a.out.alloc _).drew
  clear hK K
  try simp only [Act.put, List.setIfInBounds_toArray, List.set_cons_zero, List.set_cons_succ]
  refine wpAnyN_takeD (some 52) (by rfl) (i := 9) (oi := _) (v := ?_) rfl (by kernel_rfl) (by kernel_rfl) (by kernel_rfl) (by kernel_rfl) (fun _ _ _ h => h) (Or.inl ⟨by rfl, ?_⟩) (by assumption) ?_
  rotate_left
  · intro w hSw; (try dsimp only at hSw); go_simp
    first | done | with_reducible rfl
  try simp only [Act.put, List.setIfInBounds_toArray, List.set_cons_zero, List.set_cons_succ]
  refine wpAnyN_ready (rs := [10]) (by kernel_rfl) (by simp) ?_
  refine AllReadyN.free rfl (by rfl) (by kernel_rfl) (fun K hK => ?_) AllReadyN.nil
  go_simp
  refine hK.out _ _ ?_
  clear hK K
  try simp only [Act.put, List.setIfInBounds_toArray, List.set_cons_zero, List.set_cons_succ]
  refine wpAnyN_done (by kernel_rfl) ?_ _
  clear hHeld f0 f1 f2 f3 f4 f5 z0
  clear hg8
  obtain ⟨gI, hgI⟩ : ∃ g, g = w5.heap.size := ⟨_, rfl⟩
  obtain ⟨cI, hcI⟩ : ∃ l : List Value, l = [.bool k1.a, .slice k1.A k1.n k1.c, .bool k1.a', .slice k1.A' k1.n' k1.c', .bool k2.a, .slice k2.A k2.n k2.c, .bool k2.a', .slice k2.A' k2.n' k2.c', .bool k3.a, .slice k3.A k3.n k3.c, .bool k3.a', .slice k3.A' k3.n' k3.c', .bool e1.a, .slice e1.A e1.n e1.c, .bool e1.a', .slice e1.A' e1.n' e1.c', .bool e2.a, .slice e2.A e2.n e2.c, .bool e2.a', .slice e2.A' e2.n' e2.c', .bool e3.a, .slice e3.A e3.n e3.c, .bool e3.a', .slice e3.A' e3.n' e3.c'] := ⟨_, rfl⟩
  obtain ⟨w6, hw6⟩ : ∃ w6, w6 = ((w5.alloc (Obj.cells #[Value.bool k1.a, Value.slice k1.A k1.n k1.c, Value.bool k1.a', Value.slice k1.A' k1.n' k1.c', Value.bool k2.a, Value.slice k2.A k2.n k2.c, Value.bool k2.a', Value.slice k2.A' k2.n' k2.c', Value.bool k3.a, Value.slice k3.A k3.n k3.c, Value.bool k3.a', Value.slice k3.A' k3.n' k3.c', Value.bool e1.a, Value.slice e1.A e1.n e1.c, Value.bool e1.a', Value.slice e1.A' e1.n' e1.c', Value.bool e2.a, Value.slice e2.A e2.n e2.c, Value.bool e2.a', Value.slice e2.A' e2.n' e2.c', Value.bool e3.a, Value.slice e3.A e3.n e3.c, Value.bool e3.a', Value.slice e3.A' e3.n' e3.c'] 62)).setCell ⟨G, 0, none⟩ (.slice (some ⟨w5.heap.size, 0, none⟩) 2 2)).drew := ⟨_, rfl⟩
  rw [← hw6, ← hgI]
  have hlA : Later w5 (w5.alloc (Obj.cells #[Value.bool k1.a, Value.slice k1.A k1.n k1.c, Value.bool k1.a', Value.slice k1.A' k1.n' k1.c', Value.bool k2.a, Value.slice k2.A k2.n k2.c, Value.bool k2.a', Value.slice k2.A' k2.n' k2.c', Value.bool k3.a, Value.slice k3.A k3.n k3.c, Value.bool k3.a', Value.slice k3.A' k3.n' k3.c', Value.bool e1.a, Value.slice e1.A e1.n e1.c, Value.bool e1.a', Value.slice e1.A' e1.n' e1.c', Value.bool e2.a, Value.slice e2.A e2.n e2.c, Value.bool e2.a', Value.slice e2.A' e2.n' e2.c', Value.bool e3.a, Value.slice e3.A e3.n e3.c, Value.bool e3.a', Value.slice e3.A' e3.n' e3.c'] 62)) := (Later.refl w5).alloc _
  have hG5 := RG5.out.lt
  have oo := Only.one G (w5.alloc (Obj.cells #[Value.bool k1.a, Value.slice k1.A k1.n k1.c, Value.bool k1.a', Value.slice k1.A' k1.n' k1.c', Value.bool k2.a, Value.slice k2.A k2.n k2.c, Value.bool k2.a', Value.slice k2.A' k2.n' k2.c', Value.bool k3.a, Value.slice k3.A k3.n k3.c, Value.bool k3.a', Value.slice k3.A' k3.n' k3.c', Value.bool e1.a, Value.slice e1.A e1.n e1.c, Value.bool e1.a', Value.slice e1.A' e1.n' e1.c', Value.bool e2.a, Value.slice e2.A e2.n e2.c, Value.bool e2.a', Value.slice e2.A' e2.n' e2.c', Value.bool e3.a, Value.slice e3.A e3.n e3.c, Value.bool e3.a', Value.slice e3.A' e3.n' e3.c'] 62)) 0 (.slice (some ⟨gI, 0, none⟩) 2 2)
  rw [hgI] at oo
  have r6 : Row w6 G 47 [.slice (some ⟨gI, 0, none⟩) 2 2, .int .i64 D.hor, .int .i64 D.now, .slice A2 n2 c2, .slice A3 n3 c3, .slice A4 n4 c4] := by rw [hw6, hgI]; exact ((RG5.out.later hlA).set_ 0 _).later (Later.refl _).drew
  have rI : Row w6 gI 62 cI := by rw [hw6, hcI, hgI]; exact ((Row.new w5 62 [.bool k1.a, .slice k1.A k1.n k1.c, .bool k1.a', .slice k1.A' k1.n' k1.c', .bool k2.a, .slice k2.A k2.n k2.c, .bool k2.a', .slice k2.A' k2.n' k2.c', .bool k3.a, .slice k3.A k3.n k3.c, .bool k3.a', .slice k3.A' k3.n' k3.c', .bool e1.a, .slice e1.A e1.n e1.c, .bool e1.a', .slice e1.A' e1.n' e1.c', .bool e2.a, .slice e2.A e2.n e2.c, .bool e2.a', .slice e2.A' e2.n' e2.c', .bool e3.a, .slice e3.A e3.n e3.c, .bool e3.a', .slice e3.A' e3.n' e3.c']).only oo (by omega)).later (Later.refl _).drew
  have HL6 : Hid (Later w4 w6) := hide (by rw [hw6]; exact ((HL4a.out.trans hlA).only oo HG.out).drew)
  have hs6 : w6.heap.size = w5.heap.size + 1 := by
    rw [hw6]
    show ((w5.alloc (Obj.cells #[Value.bool k1.a, Value.slice k1.A k1.n k1.c, Value.bool k1.a', Value.slice k1.A' k1.n' k1.c', Value.bool k2.a, Value.slice k2.A k2.n k2.c, Value.bool k2.a', Value.slice k2.A' k2.n' k2.c', Value.bool k3.a, Value.slice k3.A k3.n k3.c, Value.bool k3.a', Value.slice k3.A' k3.n' k3.c', Value.bool e1.a, Value.slice e1.A e1.n e1.c, Value.bool e1.a', Value.slice e1.A' e1.n' e1.c', Value.bool e2.a, Value.slice e2.A e2.n e2.c, Value.bool e2.a', Value.slice e2.A' e2.n' e2.c', Value.bool e3.a, Value.slice e3.A e3.n e3.c, Value.bool e3.a', Value.slice e3.A' e3.n' e3.c'] 62)).setCell _ _).heap.size = _
    rw [oo.size, World.size_alloc]
  have HS6 := hide hs6; have HGI := hide hgI; have HCI := hide hcI
  have R6 := hide r6; have RI := hide rI
  clear hw6 oo hlA r6 rI hs6 hgI hcI hG5
  have f0 := R6.out.cell (i := 0) rfl; have f1 := R6.out.cell (i := 1) rfl; have f2 := R6.out.cell (i := 2) rfl; have f3 := R6.out.cell (i := 3) rfl; have f4 := R6.out.cell (i := 4) rfl; have f5 := R6.out.cell (i := 5) rfl; have z4 := R6.out.frozen 4
  go_upto_region 8 with fail
  obtain ⟨w7, hw7⟩ : ∃ w7, w7 = w6.setCell ⟨G, 4, none⟩ (.slice none 0 0) := ⟨_, rfl⟩
  have r7 : Row w7 G 47 [.slice (some ⟨gI, 0, none⟩) 2 2, .int .i64 D.hor, .int .i64 D.now, .slice A2 n2 c2, .slice none 0 0, .slice A4 n4 c4] := by rw [hw7]; exact R6.out.set_ 4 _
  have oo7 : Only G w6 w7 := by rw [hw7]; exact Only.one G w6 4 _
  rw [← hw7]
  have hG5 := RG5.out.lt
  have RC := hide r7; have HLC := hide (HL6.out.only oo7 HG.out)
  have HW75 : Hid (w5.heap.size ≤ w7.heap.size) := hide (by rw [oo7.size, HS6.out]; omega)
  have HON : Hid (On w7 (fun b => w5.heap.size ≤ b ∧ b < w7.heap.size) (fun W => Row W gI 62 cI)) := hide
    (On.of_row (RI.out.only oo7 (by have := HGI.out; omega)) ⟨by rw [HGI.out]; exact Nat.le_refl _, by rw [oo7.size, HS6.out, HGI.out]; omega⟩ (fun W hW => hW))
  clear hw7 r7 oo7 hG5 f0 f1 f2 f3 f4 f5 z4
  go_wp2_with fail
  go_loopw [6] (fun i wr => ∃ j : Nat, j ≤ n3 ∧ i = .int .i64 (j : Int) ∧ (∃ Av nv cv, Row wr G 47 [.slice (some ⟨gI, 0, none⟩) 2 2, .int .i64 D.hor, .int .i64 D.now, .slice A2 n2 c2, .slice Av nv cv, .slice A4 n4 c4] ∧ wr.ownsRow w7.heap.size 65 4 (.slice Av nv cv) ((D.ords.take j).map toO).length (((D.ords.take j).map toO).flatMap oCells)) ∧ Later w4 wr ∧ w7.heap.size ≤ wr.heap.size ∧ On wr (fun b => w5.heap.size ≤ b ∧ b < w7.heap.size) (fun W => Row W gI 62 cI)) (fun i _ => (n3 - intOf i).toNat)
  case atStart => exact ⟨0, by omega, rfl, ⟨_, _, _, RC.out, World.ownsRow_nil _ _ _ 4⟩, HLC.out, Nat.le_refl _, HON.out⟩
  case round =>
    obtain ⟨j, hj, rfl, ⟨Av, nv, cv, hR, hown⟩, hL, hsz, hon⟩ := hrel
    have HL := hide hL; have RG := hide hR; have HOWN := hide hown; have HSZ := hide hsz; have HON2 := hide hon
    clear hL hR hown hsz hon
    have r_d := R0.out.later (HL4.out.trans HL.out)
    have d0 := r_d.cell (i := 0) rfl; have d1 := r_d.cell (i := 1) rfl; have d2 := r_d.cell (i := 2) rfl; have d3 := r_d.cell (i := 3) rfl; have d4 := r_d.cell (i := 4) rfl; have d5 := r_d.cell (i := 5) rfl
    clear r_d
    by_cases hjn : j < n3
    · obtain ⟨x, hx⟩ : ∃ x, D.ords[j]? = some x := ⟨D.ords[j]'(by have := L3.out; omega), List.getElem?_eq_getElem _⟩
      obtain ⟨b1, off1, rfl, x0, x1, x2, x3⟩ := (H.out.later (HL34.out.trans HL.out)).ords.at4 hx
      have hj0 : (0 : Int) ≤ (j : Int) := by omega
      have hj1 : (j : Int) < n3 := by omega
      have htk : D.ords.take (j+1) = D.ords.take j ++ [x] := by rw [List.take_add_one, hx]; rfl
      have htm : (D.ords.take (j+1)).map toO = (D.ords.take j).map toO ++ [toO x] := by rw [htk, List.map_append]; rfl
      have hlm : ((D.ords.take j).map toO).length ≤ 1000 := by rw [List.length_map, List.length_take]; omega
      have hok := by have := HMAY.out.ords x (List.mem_of_getElem? hx); unfold POrd.okP at this; exact this
      have hw1 : IntKind.i64.wrap (1 - x.item) = 1 - x.item := IntWalk.i64_in _ (by have := H.out.il; omega)
      have HTM := hide htm; have HLM := hide hlm
      clear hx htk htm hlm hok
      go_upto_region 13 with fail
      obtain ⟨wA, hwA⟩ : ∃ wA, wA = wr.alloc (Obj.cells #[Value.int .i64 x.id, Value.int .i64 (1 - x.item), Value.int .i64 x.due, Value.int .i64 x.qty] 65) := ⟨_, rfl⟩
      obtain ⟨gA, hgA⟩ : ∃ gA, gA = wr.heap.size := ⟨_, rfl⟩
      have bA : Later wr wA := by rw [hwA]; exact (Later.refl _).alloc _
      have rA : Row wA gA 65 [.int .i64 x.id, .int .i64 (1 - x.item), .int .i64 x.due, .int .i64 x.qty] := by rw [hwA, hgA]; exact Row.new _ _ _
      rw [← hwA, ← hgA]
      have HA := hide bA
      have RGA := hide (RG.out.later bA)
      have HSA : Hid (w7.heap.size ≤ wA.heap.size) := hide (Nat.le_trans HSZ.out bA.size)
      clear hwA hgA bA x0  x1  x2  x3 d0 d1 d2 d3 d4 d5
      have f0 := RGA.out.cell (i := 0) rfl; have f1 := RGA.out.cell (i := 1) rfl; have f2 := RGA.out.cell (i := 2) rfl; have f3 := RGA.out.cell (i := 3) rfl; have f4 := RGA.out.cell (i := 4) rfl; have f5 := RGA.out.cell (i := 5) rfl; have z4 := RGA.out.frozen 4
      have y0 := rA.cell (i := 0) rfl; have y1 := rA.cell (i := 1) rfl; have y2 := rA.cell (i := 2) rfl; have y3 := rA.cell (i := 3) rfl
      clear rA
      go_wp2_with (at_builtin; refine wpList_append_po rfl _ _ rfl (toO x) rfl (ownsRow_later HOWN.out (HA.out.alloc _)) rfl (Row.new wA 65 [.int .i64 x.id, .int .i64 (1 - x.item), .int .i64 x.due, .int .i64 x.qty]) (by have := HLM.out; omega) (by have := HSA.out; rw [World.size_alloc]; omega) ?_; intro v8 w8 k1 k2 k3; obtain ⟨A8, n8, c8, rfl, -, -, -, -⟩ := (Sq.of_own oCells_len k1).form; have hbl := World.ownsRow.lt HOWN.out; have hGL := RG5.out.lt; have hG5 := HW5.out; have hlo := HW75.out; have hr8 := (RGA.out.later ((Later.refl wA).alloc _)).grown k2 (fun e => by have := (hbl G e.symm).1; omega); have f4b := hr8.cell (i := 4) rfl; have z4b := hr8.frozen 4; have HR8 := hide hr8; have HK1 := hide k1; have HK2 := hide k2; clear hr8 k1 k2 k3 hbl hGL hG5 hlo)
      have oo := Only.one G w8 4 (.slice A8 n8 c8)
      have hbl := World.ownsRow.lt HOWN.out
      have hGL := RG5.out.lt; have hG5 := HW5.out; have hlo := HW75.out
      refine ⟨⟨j+1, by omega, by go_num, ⟨_, _, _, HR8.out.set_ 4 _, ?_⟩, ?_, ?_, ?_⟩, by simp [intOf]; omega⟩
      · rw [HTM.out]; exact ownsRow_only HK1.out oo (by omega)
      · refine ((((HL.out.trans HA.out).alloc _).grown HK2.out (fun k hk => ?_)).only oo HG.out)
        have := (hbl k hk).1; have := HLC.out.size; omega
      · rw [oo.size]; have := HK2.out.size; rw [World.size_alloc] at this; have := HSA.out; omega
      · refine (((HON2.out.later (HA.out.alloc _)).grown HK2.out (fun b hb hlt e => ?_)).only oo (fun hb => ?_))
        · have := (hbl b e.symm).1; omega
        · omega
    · have hj1 : ¬ (j : Int) < n3 := by omega
      have HOS := hide ((HON2.out.mono (fun b hb hlt => (⟨hb.1, hlt⟩ : w5.heap.size ≤ b ∧ b < wr.heap.size))).and ((On.sq oCells_len HOWN.out).mono (fun b hb hlt => (⟨by have h1 := HW75.out; omega, hlt⟩ : w5.heap.size ≤ b ∧ b < wr.heap.size))))
      have f0 := RG.out.cell (i := 0) rfl; have f1 := RG.out.cell (i := 1) rfl; have f2 := RG.out.cell (i := 2) rfl; have f3 := RG.out.cell (i := 3) rfl; have f4 := RG.out.cell (i := 4) rfl; have f5 := RG.out.cell (i := 5) rfl; have z5 := RG.out.frozen 5
      go_upto_region 15 with fail
      obtain ⟨w8, hw8⟩ : ∃ w8, w8 = wr.setCell ⟨G, 5, none⟩ (.slice none 0 0) := ⟨_, rfl⟩
      have r8 : Row w8 G 47 [.slice (some ⟨gI, 0, none⟩) 2 2, .int .i64 D.hor, .int .i64 D.now, .slice A2 n2 c2, .slice Av nv cv, .slice none 0 0] := by rw [hw8]; exact RG.out.set_ 5 _
      have oo8 : Only G wr w8 := by rw [hw8]; exact Only.one G wr 5 _
      rw [← hw8]
      have hG5 := RG5.out.lt
      have RC8 := hide r8; have HL8 := hide (HL.out.only oo8 HG.out)
      have HW85 : Hid (w5.heap.size ≤ w8.heap.size) := hide (by rw [oo8.size]; have h1 := HW75.out; have h2 := HSZ.out; omega)
      have HON8 : Hid (On w8 (fun b => w5.heap.size ≤ b ∧ b < w8.heap.size) (fun W => Row W gI 62 cI ∧ Sq 4 oCells W (.slice Av nv cv) (D.ords.map toO))) := hide (by
        have h1 := HOS.out
        rw [List.take_of_length_le (by have := L3.out; omega)] at h1
        exact (h1.only oo8 (by omega)).mono (fun b hb hlt => ⟨hb.1, hlt⟩))
      clear hw8 r8 oo8 hG5 HOS HON2 HOWN HSZ RG HL f0 f1 f2 f3 f4 f5 z5 hj hjn hj1 d0 d1 d2 d3 d4 d5
      go_wp2_with fail
      go_loopw [8] (fun pv wr => ∃ p : Nat, p ≤ 40 ∧ pv = .int .i64 (p : Int) ∧ (∃ Aw nw cw, Row wr G 47 [.slice (some ⟨gI, 0, none⟩) 2 2, .int .i64 D.hor, .int .i64 D.now, .slice A2 n2 c2, .slice Av nv cv, .slice Aw nw cw] ∧ wr.ownsRow w8.heap.size 67 3 (.slice Aw nw cw) (madeN D (2 * p)).length ((madeN D (2 * p)).flatMap mCells)) ∧ Later w4 wr ∧ w8.heap.size ≤ wr.heap.size ∧ On wr (fun b => w5.heap.size ≤ b ∧ b < w8.heap.size) (fun W => Row W gI 62 cI ∧ Sq 4 oCells W (.slice Av nv cv) (D.ords.map toO))) (fun pv _ => (40 - intOf pv).toNat)
      case atStart => exact ⟨0, by omega, rfl, ⟨_, _, _, RC8.out, World.ownsRow_nil _ _ _ 3⟩, HL8.out, Nat.le_refl _, HON8.out⟩
      case round =>
        obtain ⟨p, hj, rfl, ⟨Aw, nw, cw, hR, hown⟩, hL, hsz, hon⟩ := hrel
        have HL := hide hL; have RG := hide hR; have HOWN := hide hown; have HSZ := hide hsz; have HON2 := hide hon
        clear hL hR hown hsz hon
        by_cases hpn : p < 40
        · have hp0 : (0 : Int) ≤ (p : Int) := by omega
          have hp1 : (p : Int) < 40 := by omega
          obtain ⟨wp, hwp⟩ : ∃ wp, wp = wr := ⟨_, rfl⟩
          subst hwp
          go_wp2_with fail
          go_loopw [9] (fun iv wr => ∃ i : Nat, i ≤ 2 ∧ iv = .int .i64 (i : Int) ∧ (∃ Aw nw cw, Row wr G 47 [.slice (some ⟨gI, 0, none⟩) 2 2, .int .i64 D.hor, .int .i64 D.now, .slice A2 n2 c2, .slice Av nv cv, .slice Aw nw cw] ∧ wr.ownsRow w8.heap.size 67 3 (.slice Aw nw cw) (madeN D (2 * p + i)).length ((madeN D (2 * p + i)).flatMap mCells)) ∧ Later w4 wr ∧ w8.heap.size ≤ wr.heap.size ∧ On wr (fun b => w5.heap.size ≤ b ∧ b < w8.heap.size) (fun W => Row W gI 62 cI ∧ Sq 4 oCells W (.slice Av nv cv) (D.ords.map toO))) (fun iv _ => (2 - intOf iv).toNat)
          case atStart => exact ⟨0, by omega, rfl, ⟨_, _, _, RG.out, HOWN.out⟩, HL.out, HSZ.out, HON2.out⟩
          case round =>
            obtain ⟨i, hj, rfl, ⟨Aw, nw, cw, hR, hown⟩, hL, hsz, hon⟩ := hrel
            have HL := hide hL; have RG := hide hR; have HOWN := hide hown; have HSZ := hide hsz; have HON2 := hide hon
            clear hL hR hown hsz hon
            have r_d := R0.out.later (HL4.out.trans HL.out)
            have d0 := r_d.cell (i := 0) rfl; have d1 := r_d.cell (i := 1) rfl; have d2 := r_d.cell (i := 2) rfl; have d3 := r_d.cell (i := 3) rfl; have d4 := r_d.cell (i := 4) rfl; have d5 := r_d.cell (i := 5) rfl
            clear r_d
            by_cases hin : i < 2
            · have hi0 : (0 : Int) ≤ (i : Int) := by omega
              have hi1 : (i : Int) < 2 := by omega
              have hw1 : IntKind.i64.wrap (1 - (i : Int)) = 1 - (i : Int) := IntWalk.i64_in _ (by omega)
              have hm1 : (2 * p + i) % 2 = i := by omega
              have hm2 : (2 * p + i) / 2 = p := by omega
              obtain ⟨fo, hfo⟩ : ∃ f, fixedV D (1 - (i : Int)) (p : Int) = f := ⟨_, rfl⟩
              have hst := madeN_step D p i hin
              rw [hfo] at hst
              have HFO := hide hfo; have HST := hide hst
              have HLM : Hid ((madeN D (2 * p + i)).length ≤ 1000) := hide (Nat.le_trans (madeN_len _) (by omega))
              clear hfo hst hm1 hm2
              go_wp2_with fail
              ((with_reducible refine (rfixed_calls _ _ _ _ _ _ _ _ _ _ _ _ _ D (H.out.later (HL34.out.trans HL.out)) (1 - (i : Int)) (p : Int)).mono ?_); rintro e w9 ⟨rfl, b9⟩)
              rw [HFO.out]
              have HL9 := hide (HL.out.trans b9); have HB9 := hide b9
              have RG9 := hide (RG.out.later b9)
              have HSA : Hid (w8.heap.size ≤ w9.heap.size) := hide (Nat.le_trans HSZ.out b9.size)
              clear b9 d0 d1 d2 d3 d4 d5
              cases fo with
              | none =>
                go_wp2_with fail
                exact ⟨⟨i+1, by omega, by go_num, ⟨_, _, _, RG9.out, by rw [show madeN D (2 * p + (i + 1)) = madeN D (2 * p + i) by rw [HST.out]; simp]; exact ownsRow_later HOWN.out HB9.out⟩, HL9.out, HSA.out, HON2.out.later HB9.out⟩, by simp [intOf]; omega⟩
              | some q =>
                have f0 := RG9.out.cell (i := 0) rfl; have f1 := RG9.out.cell (i := 1) rfl; have f2 := RG9.out.cell (i := 2) rfl; have f3 := RG9.out.cell (i := 3) rfl; have f4 := RG9.out.cell (i := 4) rfl; have f5 := RG9.out.cell (i := 5) rfl; have z5 := RG9.out.frozen 5
                go_wp2_with (at_builtin; refine wpList_append_pm rfl _ _ rfl (⟨(i : Int), (p : Int), q⟩ : PMk) rfl (ownsRow_later HOWN.out (HB9.out.alloc _)) rfl (Row.new w9 67 [.int .i64 (i : Int), .int .i64 (p : Int), .int .i64 q]) (by have := HLM.out; omega) (by have := HSA.out; rw [World.size_alloc]; omega) ?_; intro v8 w10 k1 k2 k3; obtain ⟨A8, n8, c8, rfl, -, -, -, -⟩ := (Sq.of_own mCells_len k1).form; have hbl := World.ownsRow.lt HOWN.out; have hGL := RG5.out.lt; have hlo := HW85.out; have hr8 := (RG9.out.later ((Later.refl w9).alloc _)).grown k2 (fun e => by have := (hbl G e.symm).1; omega); have f5b := hr8.cell (i := 5) rfl; have z5b := hr8.frozen 5; have HR8 := hide hr8; have HK1 := hide k1; have HK2 := hide k2; clear hr8 k1 k2 k3 hbl hGL hlo)
                have oo := Only.one G w10 5 (.slice A8 n8 c8)
                have hbl := World.ownsRow.lt HOWN.out
                have hGL := RG5.out.lt; have hlo := HW85.out
                refine ⟨⟨i+1, by omega, by go_num, ⟨_, _, _, HR8.out.set_ 5 _, ?_⟩, ?_, ?_, ?_⟩, by simp [intOf]; omega⟩
                · rw [show madeN D (2 * p + (i + 1)) = madeN D (2 * p + i) ++ [⟨(i : Int), (p : Int), q⟩] by rw [HST.out]; rfl]; exact ownsRow_only HK1.out oo (by omega)
                · refine (((HL9.out.alloc _).grown HK2.out (fun k hk => ?_)).only oo HG.out)
                  have := (hbl k hk).1; have := HL8.out.size; omega
                · rw [oo.size]; have := HK2.out.size; rw [World.size_alloc] at this; have := HSA.out; omega
                · refine (((HON2.out.later (HB9.out.alloc _)).grown HK2.out (fun b hb hlt e => ?_)).only oo (fun hb => ?_))
                  · have := (hbl b e.symm).1; omega
                  · omega
            · have hi1 : ¬ (i : Int) < 2 := by omega
              have hpi : 2 * p + i = 2 * (p + 1) := by omega
              have HPI := hide hpi
              clear hpi d0 d1 d2 d3 d4 d5
              go_wp2_with fail
              exact ⟨⟨p+1, by omega, by go_num, ⟨_, _, _, RG.out, by rw [← HPI.out]; exact HOWN.out⟩, HL.out, HSZ.out, HON2.out⟩, by simp [intOf]; omega⟩
        · have hp1 : ¬ (p : Int) < 40 := by omega
          have hp40 : 2 * p = 80 := by omega
          have hne := HON2.out.now
          have hmk := Sq.of_own mCells_len HOWN.out
          rw [hp40] at hmk
          have hmm := mayB_iff.1 (to_may HU0.out L1.out.symm)
          have hits : Its 12 wr (.slice (some ⟨gI, 0, none⟩) 2 2) (toD D).items := by
            show Its 12 wr _ D.items.reverse
            rw [HII.out]
            have h1 := hne.1
            rw [HCI.out] at h1
            exact its_two h1 ⟨HM2.out.1.later HL.out, HM2.out.2.1.later HL.out, HM2.out.2.2.later HL.out⟩ ⟨HM1.out.1.later HL.out, HM1.out.2.1.later HL.out, HM1.out.2.2.later HL.out⟩
          have HB : Hid (BookIn wr (.slice (some ⟨gI, 0, none⟩) 2 2) (.slice A2 n2 c2) (.slice Av nv cv) (.slice Aw nw cw) (toD D)) := hide
            { its := hits, caps := (H.out.later (HL34.out.trans HL.out)).caps, ords := hne.2, mks := hmk, il := by have := hmm.head.n3; omega, cl := H.out.cl, ol := by have := hmm.ol; omega, ml := by have := hmm.ml; omega,
              hfit := H.out.hfit, nfit := H.out.nfit, cfit := H.out.cfit,
              ofit := fun o ho => by
                have h1 := hmm.ords o ho; have h3 := hmm.head.n3
                unfold POrd.okP at h1; unfold POrd.fit IFit; omega,
              mfit := fun o ho => by
                have h1 := hmm.mks o ho; have h3 := hmm.head.n3
                unfold PMk.okP at h1; unfold PMk.fit IFit; omega }
          clear hne hmk hmm hits hp40
          obtain ⟨us, hus⟩ : ∃ u, shapeB D [r0, r1] = u := ⟨_, rfl⟩
          obtain ⟨ua, hua⟩ : ∃ u, allowedB D [r0, r1] = u := ⟨_, rfl⟩
          obtain ⟨zc, hzc⟩ : ∃ z, costV D [r0, r1] = z := ⟨_, rfl⟩
          have HUS2 : Hid (shapeB (toD D) [r1, r0] = us) := hide (by rw [to_shape HU0.out L1.out.symm]; exact hus)
          have HUA2 : Hid (allowedB (toD D) [r1, r0] = ua) := hide (by rw [to_allowed HU0.out L1.out.symm]; exact hua)
          have HZC2 : Hid (costV (toD D) [r1, r0] = zc) := hide (by rw [to_cost HU0.out L1.out.symm]; exact hzc)
          have HUS := hide hus; have HUA := hide hua; have HZC := hide hzc
          clear hus hua hzc
          have r_d := R0.out.later (HL4.out.trans HL.out)
          have d0 := r_d.cell (i := 0) rfl; have d1 := r_d.cell (i := 1) rfl; have d2 := r_d.cell (i := 2) rfl; have d3 := r_d.cell (i := 3) rfl; have d4 := r_d.cell (i := 4) rfl; have d5 := r_d.cell (i := 5) rfl
          clear r_d
          go_wp2_with fail
          ((refine (plcost_calls _ _ _ _ _ _ _ _ _ _ _ _ _ D (H.out.later (HL34.out.trans HL.out)) _ _ _ [r0, r1] (HQ.out.later (HL34.out.trans HL.out))).mono ?_); rintro e w9 ⟨v12, rfl, o12, hs12, b9⟩)
          rw [HUS.out]
          rw [HZC.out] at o12 hs12
          obtain ⟨s12, P12, q12, e12, P12', q12', e12', rfl, o12⟩ := o12.open_; have O12 := hide o12; clear o12
          have HS := hide hs12
          have HL9 := hide (HL.out.trans b9); have HB9 := hide b9
          have RG9 := hide (RG.out.later b9)
          clear b9 hs12 d0 d1 d2 d3 d4 d5
          go_upto_region 25 with fail
          obtain ⟨wX, hwX⟩ : ∃ wX, wX = w9.alloc (Obj.cells #[Value.bool s12, Value.slice P12 q12 e12, Value.bool false, Value.slice P12' q12' e12'] 37) := ⟨_, rfl⟩
          obtain ⟨gX, hgX⟩ : ∃ gX, gX = w9.heap.size := ⟨_, rfl⟩
          have bwX : Later w9 wX := by rw [hwX]; exact (Later.refl _).alloc _
          have rgX : Row wX gX 37 [.bool s12, .slice P12 q12 e12, .bool false, .slice P12' q12' e12'] := by rw [hwX, hgX]; exact Row.new _ _ _
          rw [← hwX, ← hgX]
          have HLX := hide (HL9.out.trans bwX); have HBX := hide (HB9.out.trans bwX)
          have RGX := hide (RG9.out.later bwX); have RX := hide rgX; have O12b := hide (OwnR.later O12.out bwX)
          have hgq := HQ.out.later (HL34.out.trans HLX.out)
          obtain ⟨bq, offq, A1q, m1, k1, eq1, xq1, yq1⟩ := hgq.grid.at_ (i := 1) (row := r1) rfl
          obtain ⟨bq', offq', A0q, m0, k0, eq0, xq0, yq0⟩ := hgq.grid.at_ (i := 0) (row := r0) rfl
          have eqq := eq1.symm.trans eq0
          injection eqq with eqq; injection eqq with eqa eqb
          subst eqa eqb
          subst eq1
          have HY1 := hide yq1; have HY0 := hide yq0
          have HXQ := hide (And.intro (show wX.cell? ⟨bq, offq, none⟩ = some (.slice A0q m0 k0) from by simpa using xq0) xq1)
          have HLEN : Hid (r0.length ≤ 1000 ∧ r1.length ≤ 1000) := hide ⟨hgq.lens r0 (by simp), hgq.lens r1 (by simp)⟩
          have HFIT : Hid ((∀ z ∈ r0, -9223372036854775808 ≤ z ∧ z < 9223372036854775808) ∧ (∀ z ∈ r1, -9223372036854775808 ≤ z ∧ z < 9223372036854775808)) := hide ⟨hgq.fit r0 (by simp), hgq.fit r1 (by simp)⟩
          clear hgq eq0 xq1 yq1 xq0 yq0 O12 hwX hgX rgX bwX
          have HT1 : Hid (∀ w', Later wX w' → w'.cell? ⟨G, 0, none⟩ = some (.slice (some ⟨gI, 0, none⟩) 2 2) ∧ w'.cell? ⟨G, 1, none⟩ = some (.int .i64 D.hor) ∧ w'.cell? ⟨G, 2, none⟩ = some (.int .i64 D.now) ∧ w'.cell? ⟨G, 3, none⟩ = some (.slice A2 n2 c2) ∧ w'.cell? ⟨G, 4, none⟩ = some (.slice Av nv cv) ∧ w'.cell? ⟨G, 5, none⟩ = some (.slice Aw nw cw) ∧ w'.cell? ⟨bq, offq, none⟩ = some (.slice A0q m0 k0) ∧ w'.cell? ⟨bq, offq + 1, none⟩ = some (.slice A1q m1 k1)) := hide fun w' hb => by
            have h2 := RGX.out.later hb
            exact ⟨h2.cell rfl, h2.cell rfl, h2.cell rfl, h2.cell rfl, h2.cell rfl, h2.cell rfl, Later.cell hb HXQ.out.1, Later.cell hb HXQ.out.2⟩
          have hmx : Tryz.prog.follows .mixedOrders = true := by kernel_rfl
          refine wp_region_N (fun w' => w'.cell? ⟨G, 0, none⟩ = some (.slice (some ⟨gI, 0, none⟩) 2 2) ∧ w'.cell? ⟨G, 1, none⟩ = some (.int .i64 D.hor) ∧ w'.cell? ⟨G, 2, none⟩ = some (.int .i64 D.now) ∧ w'.cell? ⟨G, 3, none⟩ = some (.slice A2 n2 c2) ∧ w'.cell? ⟨G, 4, none⟩ = some (.slice Av nv cv) ∧ w'.cell? ⟨G, 5, none⟩ = some (.slice Aw nw cw) ∧ w'.cell? ⟨bq, offq, none⟩ = some (.slice A0q m0 k0) ∧ w'.cell? ⟨bq, offq + 1, none⟩ = some (.slice A1q m1 k1)) [] hmx (HT1.out _ (by first | assumption | (repeat (first | assumption | exact Later.refl _ | apply Later.drew | refine Later.alloc ?_ _)))) (fun hHeld => ?_)
          refine wpAnyN_takeD (some 110) (by rfl) (i := 0) (oi := _) (v := ?_) rfl (by kernel_rfl) (by kernel_rfl) (by kernel_rfl) (by kernel_rfl) (fun _ _ _ h => h) (Or.inl ⟨by rfl, ?_⟩) (by assumption) ?_
          rotate_left
          · intro w hSw; (try dsimp only at hSw); go_simp
            first | done | with_reducible rfl
          try simp only [Act.put, List.setIfInBounds_toArray, List.set_cons_zero, List.set_cons_succ]
          refine wpAnyN_takeD (some 111) (by rfl) (i := 1) (oi := _) (v := ?_) rfl (by kernel_rfl) (by kernel_rfl) (by kernel_rfl) (by kernel_rfl) (fun _ _ _ h => h) (Or.inl ⟨by rfl, ?_⟩) (by assumption) ?_
          rotate_left
          · intro w hSw; (try dsimp only at hSw); go_simp
            first | done | with_reducible rfl
          try simp only [Act.put, List.setIfInBounds_toArray, List.set_cons_zero, List.set_cons_succ]
          refine wpAnyN_takeD (some 112) (by rfl) (i := 2) (oi := _) (v := ?_) rfl (by kernel_rfl) (by kernel_rfl) (by kernel_rfl) (by kernel_rfl) (fun _ _ _ h => h) (Or.inl ⟨by rfl, ?_⟩) (by assumption) ?_
          rotate_left
          · intro w hSw; (try dsimp only at hSw); go_simp
            first | done | with_reducible rfl
          try simp only [Act.put, List.setIfInBounds_toArray, List.set_cons_zero, List.set_cons_succ]
          refine wpAnyN_takeD (some 113) (by rfl) (i := 3) (oi := _) (v := ?_) rfl (by kernel_rfl) (by kernel_rfl) (by kernel_rfl) (by kernel_rfl) (fun _ _ _ h => h) (Or.inl ⟨by rfl, ?_⟩) (by assumption) ?_
          rotate_left
          · intro w hSw; (try dsimp only at hSw); go_simp
            first | done | with_reducible rfl
          try simp only [Act.put, List.setIfInBounds_toArray, List.set_cons_zero, List.set_cons_succ]
          refine wpAnyN_takeD (some 114) (by rfl) (i := 4) (oi := _) (v := ?_) rfl (by kernel_rfl) (by kernel_rfl) (by kernel_rfl) (by kernel_rfl) (fun _ _ _ h => h) (Or.inl ⟨by rfl, ?_⟩) (by assumption) ?_
          rotate_left
          · intro w hSw; (try dsimp only at hSw); go_simp
            first | done | with_reducible rfl
          try simp only [Act.put, List.setIfInBounds_toArray, List.set_cons_zero, List.set_cons_succ]
          refine wpAnyN_takeD (some 115) (by rfl) (i := 5) (oi := _) (v := ?_) rfl (by kernel_rfl) (by kernel_rfl) (by kernel_rfl) (by kernel_rfl) (fun _ _ _ h => h) (Or.inl ⟨by rfl, ?_⟩) (by assumption) ?_
          rotate_left
          · intro w hSw; (try dsimp only at hSw); go_simp
            first | done | with_reducible rfl
          try simp only [Act.put, List.setIfInBounds_toArray, List.set_cons_zero, List.set_cons_succ]
          refine wpAnyN_takeD (some 116) (by rfl) (i := 6) (oi := _) (v := ?_) rfl (by kernel_rfl) (by kernel_rfl) (by kernel_rfl) (by kernel_rfl) (fun _ _ _ h => h) (Or.inl ⟨by rfl, ?_⟩) (by assumption) ?_
          rotate_left
          · intro w hSw; (try dsimp only at hSw); go_simp
            first | done | with_reducible rfl
          try simp only [Act.put, List.setIfInBounds_toArray, List.set_cons_zero, List.set_cons_succ]
          refine wpAnyN_ready (rs := [7, 12]) (by kernel_rfl) (by simp) ?_
          refine AllReadyN.held rfl (by rfl) (fun K hK => ?_) ?_
          · go_simp
            refine hK.out _ _ ?_ (fun hHeld => ?_)
            · exact HT1.out _ (by first | assumption | (repeat (first | assumption | exact Later.refl _ | apply Later.drew | refine Later.alloc ?_ _ | refine Later.setCell ?_ (by dsimp only; omega) _)))
            clear hK K
            try simp only [Act.put, List.setIfInBounds_toArray, List.set_cons_zero, List.set_cons_succ]
            refine wpAnyN_ready (rs := [8, 12]) (by kernel_rfl) (by simp) ?_
            refine AllReadyN.held rfl (by rfl) (fun K hK => ?_) ?_
            · go_simp
              have hgm : GridIn (wX.alloc (Obj.cells #[Value.slice A1q m1 k1, Value.slice A0q m0 k0] 43)).drew (.slice (some ⟨wX.heap.size, 0, none⟩) 2 2) [r1, r0] := grid_two (show Row (wX.alloc (Obj.cells #[Value.slice A1q m1 k1, Value.slice A0q m0 k0] 43)) _ 43 _ from (Row.new_ rfl)) (HY1.out.later (by first | assumption | (repeat (first | assumption | exact Later.refl _ | apply Later.drew | refine Later.alloc ?_ _)))) (HY0.out.later (by first | assumption | (repeat (first | assumption | exact Later.refl _ | apply Later.drew | refine Later.alloc ?_ _)))) HLEN.out.2 HLEN.out.1 HFIT.out.2 HFIT.out.1
              refine (plcost_calls _ _ _ _ _ _ _ _ _ _ _ _ _ (toD D) (HB.out.later (HBX.out.trans (by first | assumption | (repeat (first | assumption | exact Later.refl _ | apply Later.drew | refine Later.alloc ?_ _))))) _ _ _ [r1, r0] hgm).mono ?_
              clear hgm
              rintro e w10 ⟨v13, rfl, o13, hs13, b10⟩
              rw [HUS2.out]
              rw [HZC2.out] at o13 hs13
              have l8 : Later wX w10 := Later.trans (by first | assumption | (repeat (first | assumption | exact Later.refl _ | apply Later.drew | refine Later.alloc ?_ _))) b10
              obtain ⟨s13, P13, q13, e13, P13', q13', e13', rfl, o13⟩ := o13.open_; have O13 := hide o13; clear o13
              have HS13 := hide hs13
              clear hs13
              clear b10
              refine hK.out _ _ ?_ (fun hHeld => ?_)
              · exact HT1.out _ (by first | assumption | (repeat (first | assumption | exact Later.refl _ | apply Later.drew | refine Later.alloc ?_ _ | refine Later.setCell ?_ (by dsimp only; omega) _)))
              clear hK K
              try simp only [Act.put, List.setIfInBounds_toArray, List.set_cons_zero, List.set_cons_succ]
              refine wpAnyN_takeD (some 109) (by rfl) (i := 9) (oi := _) (v := ?_) rfl (by kernel_rfl) (by kernel_rfl) (by kernel_rfl) (by kernel_rfl) (fun _ _ _ h => h) (Or.inl ⟨by rfl, ?_⟩) (by assumption) ?_
              rotate_left
              · intro w hSw; (try dsimp only at hSw); go_simp
                first | done | with_reducible rfl
              try simp only [Act.put, List.setIfInBounds_toArray, List.set_cons_zero, List.set_cons_succ]
              refine wpAnyN_takeD (some 119) (by rfl) (i := 10) (oi := _) (v := ?_) rfl (by kernel_rfl) (by kernel_rfl) (by kernel_rfl) (by kernel_rfl) (fun _ _ _ h => h) (Or.inl ⟨by rfl, ?_⟩) (by assumption) ?_
              rotate_left
              · intro w hSw; (try dsimp only at hSw); go_simp
                first | done | with_reducible rfl
              try simp only [Act.put, List.setIfInBounds_toArray, List.set_cons_zero, List.set_cons_succ]
              refine wpAnyN_takeD (some 120) (by rfl) (i := 11) (oi := _) (v := ?_) rfl (by kernel_rfl) (by kernel_rfl) (by kernel_rfl) (by kernel_rfl) (fun _ _ _ h => h) (Or.inl ⟨by rfl, ?_⟩) (by assumption) ?_
              rotate_left
              · intro w hSw; (try dsimp only at hSw); go_simp
                first | done | with_reducible rfl
              try simp only [Act.put, List.setIfInBounds_toArray, List.set_cons_zero, List.set_cons_succ]
              refine wpAnyN_ready (rs := [12]) (by kernel_rfl) (by simp) ?_
              refine AllReadyN.held rfl (by rfl) (fun K hK => ?_) AllReadyN.nil
              go_simp
              have lY : Later wX (w10.alloc (Obj.cells #[Value.bool false, Value.slice none 0 0, Value.bool false, Value.slice none 0 0] 37)) := (by first | assumption | (repeat (first | assumption | exact Later.refl _ | apply Later.drew | refine Later.alloc ?_ _)))
              have rY : Row (w10.alloc (Obj.cells #[Value.bool false, Value.slice none 0 0, Value.bool false, Value.slice none 0 0] 37)) (w10.heap.size) 37 [.bool false, .slice none 0 0, .bool false, .slice none 0 0] := Row.new_ (by rfl)
              have y0 := rY.cell (i := 0) rfl; have y1 := rY.cell (i := 1) rfl; have y2 := rY.cell (i := 2) rfl; have y3 := rY.cell (i := 3) rfl; have z0 := rY.frozen 0
              have yz1 := rY.frozen 1; have yz2 := rY.frozen 2; have yz3 := rY.frozen 3
              refine hK.out _ _ ?_ (fun hHeld => ?_)
              · exact HT1.out _ (by first | assumption | (repeat (first | assumption | exact Later.refl _ | apply Later.drew | refine Later.alloc ?_ _ | refine Later.setCell ?_ (by dsimp only; omega) _)))
              clear hK K
              try simp only [Act.put, List.setIfInBounds_toArray, List.set_cons_zero, List.set_cons_succ]
              refine wpAnyN_ready (rs := [13]) (by kernel_rfl) (by simp) ?_
              refine AllReadyN.held rfl (by rfl) (fun K hK => ?_) AllReadyN.nil
              go_simp
              refine hK.out _ _ ?_ (fun hHeld => ?_)
              · exact HT1.out _ (by first | assumption | (repeat (first | assumption | exact Later.refl _ | apply Later.drew | refine Later.alloc ?_ _ | refine Later.setCell ?_ (by dsimp only; omega) _)))
              clear hK K
              try simp only [Act.put, List.setIfInBounds_toArray, List.set_cons_zero, List.set_cons_succ]
              refine wpAnyN_takeD (some 15) (by rfl) (i := 14) (oi := _) (v := ?_) rfl (by kernel_rfl) (by kernel_rfl) (by kernel_rfl) (by kernel_rfl) (fun _ _ _ h => h) (Or.inl ⟨by rfl, ?_⟩) (by assumption) ?_
              rotate_left
              · intro w hSw; (try dsimp only at hSw); go_simp
                first | done | with_reducible rfl
              try simp only [Act.put, List.setIfInBounds_toArray, List.set_cons_zero, List.set_cons_succ]
              refine wpAnyN_done (by kernel_rfl) ?_ _
              clear hHeld y0 y1 y2 y3 z0 yz1 yz2 yz3
              obtain ⟨gY, hgY⟩ : ∃ g, g = w10.heap.size := ⟨_, rfl⟩
              obtain ⟨wZ, hwZ⟩ : ∃ W, W = w10.alloc (Obj.cells #[Value.bool s13, Value.slice P13 q13 e13, Value.bool false, Value.slice P13' q13' e13'] 37) := ⟨_, rfl⟩
              rw [← hwZ, ← hgY]
              have rZ : Row wZ gY 37 [.bool s13, .slice P13 q13 e13, .bool false, .slice P13' q13' e13'] := by rw [hwZ, hgY]; exact Row.new _ _ _
              have lZ : Later w10 wZ := by rw [hwZ]; exact (Later.refl _).alloc _
              have LXZ : Hid (Later wX wZ) := hide (l8.trans lZ)
              have O13z : Hid (OwnR wZ 0 (.agg #[.bool s13, .slice P13 q13 e13, .bool false, .slice P13' q13' e13']) zc) := hide (OwnR.later O13.out lZ)
              have RZ := hide rZ
              clear hwZ hgY rZ rY l8 lZ  O13 lY
              go_upto_region 26 with fail
              have HT2 : Hid (∀ w', Later wZ w' → w'.cell? ⟨w.heap.size, 0, none⟩ = some (.slice (some ⟨b1, off1, none⟩) 2 c1) ∧ w'.cell? ⟨w.heap.size, 1, none⟩ = some (.int .i64 D.hor) ∧ w'.cell? ⟨w.heap.size, 2, none⟩ = some (.int .i64 D.now) ∧ w'.cell? ⟨w.heap.size, 3, none⟩ = some (.slice A2 n2 c2) ∧ w'.cell? ⟨w.heap.size, 4, none⟩ = some (.slice A3 n3 c3) ∧ w'.cell? ⟨w.heap.size, 5, none⟩ = some (.slice A4 n4 c4) ∧ w'.cell? ⟨G, 0, none⟩ = some (.slice (some ⟨gI, 0, none⟩) 2 2) ∧ w'.cell? ⟨G, 1, none⟩ = some (.int .i64 D.hor) ∧ w'.cell? ⟨G, 2, none⟩ = some (.int .i64 D.now) ∧ w'.cell? ⟨G, 3, none⟩ = some (.slice A2 n2 c2) ∧ w'.cell? ⟨G, 4, none⟩ = some (.slice Av nv cv) ∧ w'.cell? ⟨G, 5, none⟩ = some (.slice Aw nw cw) ∧ w'.cell? ⟨gX, 0, none⟩ = some (.bool s12) ∧ w'.cell? ⟨gX, 1, none⟩ = some (.slice P12 q12 e12) ∧ w'.cell? ⟨gX, 2, none⟩ = some (.bool false) ∧ w'.cell? ⟨gX, 3, none⟩ = some (.slice P12' q12' e12') ∧ w'.cell? ⟨gY, 0, none⟩ = some (.bool s13) ∧ w'.cell? ⟨gY, 1, none⟩ = some (.slice P13 q13 e13) ∧ w'.cell? ⟨gY, 2, none⟩ = some (.bool false) ∧ w'.cell? ⟨gY, 3, none⟩ = some (.slice P13' q13' e13') ∧ w'.cell? ⟨bq, offq, none⟩ = some (.slice A0q m0 k0) ∧ w'.cell? ⟨bq, offq + 1, none⟩ = some (.slice A1q m1 k1)) := hide fun w' hb => by
                have h1 := (R0.out.later (HL4.out.trans (HLX.out.trans (LXZ.out.trans hb)))); have h2 := RGX.out.later (LXZ.out.trans hb); have h3 := RX.out.later (LXZ.out.trans hb); have h4 := RZ.out.later hb
                exact ⟨h1.cell rfl, h1.cell rfl, h1.cell rfl, h1.cell rfl, h1.cell rfl, h1.cell rfl, h2.cell rfl, h2.cell rfl, h2.cell rfl, h2.cell rfl, h2.cell rfl, h2.cell rfl, h3.cell rfl, h3.cell rfl, h3.cell rfl, h3.cell rfl, h4.cell rfl, h4.cell rfl, h4.cell rfl, h4.cell rfl, Later.cell (LXZ.out.trans hb) HXQ.out.1, Later.cell (LXZ.out.trans hb) HXQ.out.2⟩
              have hmx : Tryz.prog.follows .mixedOrders = true := by kernel_rfl
              refine wp_region_N (fun w' => w'.cell? ⟨w.heap.size, 0, none⟩ = some (.slice (some ⟨b1, off1, none⟩) 2 c1) ∧ w'.cell? ⟨w.heap.size, 1, none⟩ = some (.int .i64 D.hor) ∧ w'.cell? ⟨w.heap.size, 2, none⟩ = some (.int .i64 D.now) ∧ w'.cell? ⟨w.heap.size, 3, none⟩ = some (.slice A2 n2 c2) ∧ w'.cell? ⟨w.heap.size, 4, none⟩ = some (.slice A3 n3 c3) ∧ w'.cell? ⟨w.heap.size, 5, none⟩ = some (.slice A4 n4 c4) ∧ w'.cell? ⟨G, 0, none⟩ = some (.slice (some ⟨gI, 0, none⟩) 2 2) ∧ w'.cell? ⟨G, 1, none⟩ = some (.int .i64 D.hor) ∧ w'.cell? ⟨G, 2, none⟩ = some (.int .i64 D.now) ∧ w'.cell? ⟨G, 3, none⟩ = some (.slice A2 n2 c2) ∧ w'.cell? ⟨G, 4, none⟩ = some (.slice Av nv cv) ∧ w'.cell? ⟨G, 5, none⟩ = some (.slice Aw nw cw) ∧ w'.cell? ⟨gX, 0, none⟩ = some (.bool s12) ∧ w'.cell? ⟨gX, 1, none⟩ = some (.slice P12 q12 e12) ∧ w'.cell? ⟨gX, 2, none⟩ = some (.bool false) ∧ w'.cell? ⟨gX, 3, none⟩ = some (.slice P12' q12' e12') ∧ w'.cell? ⟨gY, 0, none⟩ = some (.bool s13) ∧ w'.cell? ⟨gY, 1, none⟩ = some (.slice P13 q13 e13) ∧ w'.cell? ⟨gY, 2, none⟩ = some (.bool false) ∧ w'.cell? ⟨gY, 3, none⟩ = some (.slice P13' q13' e13') ∧ w'.cell? ⟨bq, offq, none⟩ = some (.slice A0q m0 k0) ∧ w'.cell? ⟨bq, offq + 1, none⟩ = some (.slice A1q m1 k1)) [] hmx (HT2.out _ (by first | assumption | (repeat (first | assumption | exact Later.refl _ | apply Later.drew | refine Later.alloc ?_ _)))) (fun hHeld => ?_)
              refine wpAnyN_takeD (some 121) (by rfl) (i := 0) (oi := _) (v := ?_) rfl (by kernel_rfl) (by kernel_rfl) (by kernel_rfl) (by kernel_rfl) (fun _ _ _ h => h) (Or.inl ⟨by rfl, ?_⟩) (by assumption) ?_
              rotate_left
              · intro w hSw; (try dsimp only at hSw); go_simp
                first | done | with_reducible rfl
              try simp only [Act.put, List.setIfInBounds_toArray, List.set_cons_zero, List.set_cons_succ]
              refine wpAnyN_takeD (some 122) (by rfl) (i := 1) (oi := _) (v := ?_) rfl (by kernel_rfl) (by kernel_rfl) (by kernel_rfl) (by kernel_rfl) (fun _ _ _ h => h) (Or.inl ⟨by rfl, ?_⟩) (by assumption) ?_
              rotate_left
              · intro w hSw; (try dsimp only at hSw); go_simp
                first | done | with_reducible rfl
              try simp only [Act.put, List.setIfInBounds_toArray, List.set_cons_zero, List.set_cons_succ]
              refine wpAnyN_takeD (some 123) (by rfl) (i := 2) (oi := _) (v := ?_) rfl (by kernel_rfl) (by kernel_rfl) (by kernel_rfl) (by kernel_rfl) (fun _ _ _ h => h) (Or.inl ⟨by rfl, ?_⟩) (by assumption) ?_
              rotate_left
              · intro w hSw; (try dsimp only at hSw); go_simp
                first | done | with_reducible rfl
              try simp only [Act.put, List.setIfInBounds_toArray, List.set_cons_zero, List.set_cons_succ]
              refine wpAnyN_takeD (some 124) (by rfl) (i := 3) (oi := _) (v := ?_) rfl (by kernel_rfl) (by kernel_rfl) (by kernel_rfl) (by kernel_rfl) (fun _ _ _ h => h) (Or.inl ⟨by rfl, ?_⟩) (by assumption) ?_
              rotate_left
              · intro w hSw; (try dsimp only at hSw); go_simp
                first | done | with_reducible rfl
              try simp only [Act.put, List.setIfInBounds_toArray, List.set_cons_zero, List.set_cons_succ]
              refine wpAnyN_takeD (some 125) (by rfl) (i := 4) (oi := _) (v := ?_) rfl (by kernel_rfl) (by kernel_rfl) (by kernel_rfl) (by kernel_rfl) (fun _ _ _ h => h) (Or.inl ⟨by rfl, ?_⟩) (by assumption) ?_
              rotate_left
              · intro w hSw; (try dsimp only at hSw); go_simp
                first | done | with_reducible rfl
              try simp only [Act.put, List.setIfInBounds_toArray, List.set_cons_zero, List.set_cons_succ]
              refine wpAnyN_takeD (some 126) (by rfl) (i := 5) (oi := _) (v := ?_) rfl (by kernel_rfl) (by kernel_rfl) (by kernel_rfl) (by kernel_rfl) (fun _ _ _ h => h) (Or.inl ⟨by rfl, ?_⟩) (by assumption) ?_
              rotate_left
              · intro w hSw; (try dsimp only at hSw); go_simp
                first | done | with_reducible rfl
              try simp only [Act.put, List.setIfInBounds_toArray, List.set_cons_zero, List.set_cons_succ]
              refine wpAnyN_ready (rs := [6]) (by kernel_rfl) (by simp) ?_
              refine AllReadyN.held rfl (by rfl) (fun K hK => ?_) AllReadyN.nil
              go_simp
              refine (qsame_calls _ _ _ zc zc _ _ 1000 1000 (OwnR.later O12b.out (LXZ.out.trans (by first | assumption | (repeat (first | assumption | exact Later.refl _ | apply Later.drew | refine Later.alloc ?_ _))))) (OwnR.later O13z.out (by first | assumption | (repeat (first | assumption | exact Later.refl _ | apply Later.drew | refine Later.alloc ?_ _)))) HS.out HS13.out (by omega) (by omega) true (by simp)).mono ?_
              rintro e w106 ⟨rfl, b6⟩
              have l6 : Later wZ w106 := Later.trans (by first | assumption | (repeat (first | assumption | exact Later.refl _ | apply Later.drew | refine Later.alloc ?_ _))) b6
              clear b6
              refine hK.out _ _ ?_ (fun hHeld => ?_)
              · exact HT2.out _ (by first | assumption | (repeat (first | assumption | exact Later.refl _ | apply Later.drew | refine Later.alloc ?_ _)))
              clear hK K
              try simp only [Act.put, List.setIfInBounds_toArray, List.set_cons_zero, List.set_cons_succ]
              refine wpAnyN_takeD (some 128) (by rfl) (i := 7) (oi := _) (v := ?_) rfl (by kernel_rfl) (by kernel_rfl) (by kernel_rfl) (by kernel_rfl) (fun _ _ _ h => h) (Or.inl ⟨by rfl, ?_⟩) (by assumption) ?_
              rotate_left
              · intro w hSw; (try dsimp only at hSw); go_simp
                first | done | with_reducible rfl
              try simp only [Act.put, List.setIfInBounds_toArray, List.set_cons_zero, List.set_cons_succ]
              refine wpAnyN_takeD (some 129) (by rfl) (i := 8) (oi := _) (v := ?_) rfl (by kernel_rfl) (by kernel_rfl) (by kernel_rfl) (by kernel_rfl) (fun _ _ _ h => h) (Or.inl ⟨by rfl, ?_⟩) (by assumption) ?_
              rotate_left
              · intro w hSw; (try dsimp only at hSw); go_simp
                first | done | with_reducible rfl
              try simp only [Act.put, List.setIfInBounds_toArray, List.set_cons_zero, List.set_cons_succ]
              refine wpAnyN_takeD (some 130) (by rfl) (i := 9) (oi := _) (v := ?_) rfl (by kernel_rfl) (by kernel_rfl) (by kernel_rfl) (by kernel_rfl) (fun _ _ _ h => h) (Or.inl ⟨by rfl, ?_⟩) (by assumption) ?_
              rotate_left
              · intro w hSw; (try dsimp only at hSw); go_simp
                first | done | with_reducible rfl
              try simp only [Act.put, List.setIfInBounds_toArray, List.set_cons_zero, List.set_cons_succ]
              refine wpAnyN_takeD (some 131) (by rfl) (i := 10) (oi := _) (v := ?_) rfl (by kernel_rfl) (by kernel_rfl) (by kernel_rfl) (by kernel_rfl) (fun _ _ _ h => h) (Or.inl ⟨by rfl, ?_⟩) (by assumption) ?_
              rotate_left
              · intro w hSw; (try dsimp only at hSw); go_simp
                first | done | with_reducible rfl
              try simp only [Act.put, List.setIfInBounds_toArray, List.set_cons_zero, List.set_cons_succ]
              refine wpAnyN_takeD (some 133) (by rfl) (i := 12) (oi := _) (v := ?_) rfl (by kernel_rfl) (by kernel_rfl) (by kernel_rfl) (by kernel_rfl) (fun _ _ _ h => h) (Or.inl ⟨by rfl, ?_⟩) (by assumption) ?_
              rotate_left
              · intro w hSw; (try dsimp only at hSw); go_simp
                first | done | with_reducible rfl
              try simp only [Act.put, List.setIfInBounds_toArray, List.set_cons_zero, List.set_cons_succ]
              refine wpAnyN_takeD (some 134) (by rfl) (i := 13) (oi := _) (v := ?_) rfl (by kernel_rfl) (by kernel_rfl) (by kernel_rfl) (by kernel_rfl) (fun _ _ _ h => h) (Or.inl ⟨by rfl, ?_⟩) (by assumption) ?_
              rotate_left
              · intro w hSw; (try dsimp only at hSw); go_simp
                first | done | with_reducible rfl
              try simp only [Act.put, List.setIfInBounds_toArray, List.set_cons_zero, List.set_cons_succ]
              refine wpAnyN_takeD (some 135) (by rfl) (i := 14) (oi := _) (v := ?_) rfl (by kernel_rfl) (by kernel_rfl) (by kernel_rfl) (by kernel_rfl) (fun _ _ _ h => h) (Or.inl ⟨by rfl, ?_⟩) (by assumption) ?_
              rotate_left
              · intro w hSw; (try dsimp only at hSw); go_simp
                first | done | with_reducible rfl
              try simp only [Act.put, List.setIfInBounds_toArray, List.set_cons_zero, List.set_cons_succ]
              refine wpAnyN_takeD (some 136) (by rfl) (i := 15) (oi := _) (v := ?_) rfl (by kernel_rfl) (by kernel_rfl) (by kernel_rfl) (by kernel_rfl) (fun _ _ _ h => h) (Or.inl ⟨by rfl, ?_⟩) (by assumption) ?_
              rotate_left
              · intro w hSw; (try dsimp only at hSw); go_simp
                first | done | with_reducible rfl
              try simp only [Act.put, List.setIfInBounds_toArray, List.set_cons_zero, List.set_cons_succ]
              refine wpAnyN_takeD (some 137) (by rfl) (i := 16) (oi := _) (v := ?_) rfl (by kernel_rfl) (by kernel_rfl) (by kernel_rfl) (by kernel_rfl) (fun _ _ _ h => h) (Or.inl ⟨by rfl, ?_⟩) (by assumption) ?_
              rotate_left
              · intro w hSw; (try dsimp only at hSw); go_simp
                first | done | with_reducible rfl
              try simp only [Act.put, List.setIfInBounds_toArray, List.set_cons_zero, List.set_cons_succ]
              refine wpAnyN_takeD (some 138) (by rfl) (i := 17) (oi := _) (v := ?_) rfl (by kernel_rfl) (by kernel_rfl) (by kernel_rfl) (by kernel_rfl) (fun _ _ _ h => h) (Or.inl ⟨by rfl, ?_⟩) (by assumption) ?_
              rotate_left
              · intro w hSw; (try dsimp only at hSw); go_simp
                first | done | with_reducible rfl
              try simp only [Act.put, List.setIfInBounds_toArray, List.set_cons_zero, List.set_cons_succ]
              refine wpAnyN_takeD (some 139) (by rfl) (i := 18) (oi := _) (v := ?_) rfl (by kernel_rfl) (by kernel_rfl) (by kernel_rfl) (by kernel_rfl) (fun _ _ _ h => h) (Or.inl ⟨by rfl, ?_⟩) (by assumption) ?_
              rotate_left
              · intro w hSw; (try dsimp only at hSw); go_simp
                first | done | with_reducible rfl
              try simp only [Act.put, List.setIfInBounds_toArray, List.set_cons_zero, List.set_cons_succ]
              refine wpAnyN_ready (rs := [11, 19]) (by kernel_rfl) (by simp) ?_
              refine AllReadyN.held rfl (by rfl) (fun K hK => ?_) ?_
              · go_simp
                refine (plallowed_calls _ _ _ _ _ _ _ _ _ _ _ _ _ D (H.out.later (HL34.out.trans (HLX.out.trans (LXZ.out.trans (by first | assumption | (repeat (first | assumption | exact Later.refl _ | apply Later.drew | refine Later.alloc ?_ _))))))) _ _ _ [r0, r1] (HQ.out.later (HL34.out.trans (HLX.out.trans (LXZ.out.trans (by first | assumption | (repeat (first | assumption | exact Later.refl _ | apply Later.drew | refine Later.alloc ?_ _))))))) ua HUA.out).mono ?_
                rintro e w111 ⟨rfl, b11⟩
                have l11 : Later wZ w111 := Later.trans (by first | assumption | (repeat (first | assumption | exact Later.refl _ | apply Later.drew | refine Later.alloc ?_ _))) b11
                clear b11
                refine hK.out _ _ ?_ (fun hHeld => ?_)
                · exact HT2.out _ (by first | assumption | (repeat (first | assumption | exact Later.refl _ | apply Later.drew | refine Later.alloc ?_ _)))
                clear hK K
                try simp only [Act.put, List.setIfInBounds_toArray, List.set_cons_zero, List.set_cons_succ]
                refine wpAnyN_ready (rs := [19]) (by kernel_rfl) (by simp) ?_
                refine AllReadyN.held rfl (by rfl) (fun K hK => ?_) AllReadyN.nil
                go_simp
                have rg2 : Row (w111.alloc (Obj.cells #[Value.slice A1q m1 k1, Value.slice A0q m0 k0] 43)) w111.heap.size 43 [.slice A1q m1 k1, .slice A0q m0 k0] := Row.new_ rfl
                refine hK.out _ _ ?_ (fun hHeld => ?_)
                · exact HT2.out _ (by first | assumption | (repeat (first | assumption | exact Later.refl _ | apply Later.drew | refine Later.alloc ?_ _)))
                clear hK K
                try simp only [Act.put, List.setIfInBounds_toArray, List.set_cons_zero, List.set_cons_succ]
                refine wpAnyN_ready (rs := [20]) (by kernel_rfl) (by simp) ?_
                refine AllReadyN.held rfl (by rfl) (fun K hK => ?_) AllReadyN.nil
                go_simp
                refine (plallowed_calls _ _ _ _ _ _ _ _ _ _ _ _ _ (toD D) (HB.out.later (HBX.out.trans (LXZ.out.trans (by first | assumption | (repeat (first | assumption | exact Later.refl _ | apply Later.drew | refine Later.alloc ?_ _)))))) _ _ _ [r1, r0] (grid_two rg2 (HY1.out.later (LXZ.out.trans (by first | assumption | (repeat (first | assumption | exact Later.refl _ | apply Later.drew | refine Later.alloc ?_ _))))) (HY0.out.later (LXZ.out.trans (by first | assumption | (repeat (first | assumption | exact Later.refl _ | apply Later.drew | refine Later.alloc ?_ _))))) HLEN.out.2 HLEN.out.1 HFIT.out.2 HFIT.out.1) ua HUA2.out).mono ?_
                rintro e w120 ⟨rfl, b20⟩
                have l20 : Later wZ w120 := Later.trans (by first | assumption | (repeat (first | assumption | exact Later.refl _ | apply Later.drew | refine Later.alloc ?_ _))) b20
                clear b20
                refine hK.out _ _ ?_ (fun hHeld => ?_)
                · exact HT2.out _ (by first | assumption | (repeat (first | assumption | exact Later.refl _ | apply Later.drew | refine Later.alloc ?_ _)))
                clear hK K
                try simp only [Act.put, List.setIfInBounds_toArray, List.set_cons_zero, List.set_cons_succ]
                refine wpAnyN_takeD (some 142) (by rfl) (i := 21) (oi := _) (v := ?_) rfl (by kernel_rfl) (by kernel_rfl) (by kernel_rfl) (by kernel_rfl) (fun _ _ _ h => h) (Or.inl ⟨by rfl, ?_⟩) (by assumption) ?_
                rotate_left
                · intro w hSw; (try dsimp only at hSw); go_simp
                  first | done | with_reducible rfl
                try simp only [Act.put, List.setIfInBounds_toArray, List.set_cons_zero, List.set_cons_succ]
                refine wpAnyN_takeD (some 143) (by rfl) (i := 22) (oi := _) (v := ?_) rfl (by kernel_rfl) (by kernel_rfl) (by kernel_rfl) (by kernel_rfl) (fun _ _ _ h => h) (Or.inl ⟨by rfl, ?_⟩) (by assumption) ?_
                rotate_left
                · intro w hSw; (try dsimp only at hSw); go_simp
                  first | done | with_reducible rfl
                try simp only [Act.put, List.setIfInBounds_toArray, List.set_cons_zero, List.set_cons_succ]
                refine wpAnyN_takeD (some 4) (by rfl) (i := 23) (oi := _) (v := ?_) rfl (by kernel_rfl) (by kernel_rfl) (by kernel_rfl) (by kernel_rfl) (fun _ _ _ h => h) (Or.inl ⟨by rfl, ?_⟩) (by assumption) ?_
                rotate_left
                · intro w hSw; (try dsimp only at hSw); go_simp
                  first | done | with_reducible rfl
                try simp only [Act.put, List.setIfInBounds_toArray, List.set_cons_zero, List.set_cons_succ]
                refine wpAnyN_done (by kernel_rfl) ?_ _
                have HLE := hide (HLX.out.trans (LXZ.out.trans l20))
                clear hHeld
                go_wp2_with fail
                go_ret
                exact ⟨rfl, B0.out.trans (HL4.out.trans HLE.out)⟩
              refine AllReadyN.held rfl (by rfl) (fun K hK => ?_) AllReadyN.nil
              go_simp
              have rg2a : Row (w106.alloc (Obj.cells #[Value.slice A1q m1 k1, Value.slice A0q m0 k0] 43)) w106.heap.size 43 [.slice A1q m1 k1, .slice A0q m0 k0] := Row.new_ rfl
              refine hK.out _ _ ?_ (fun hHeld => ?_)
              · exact HT2.out _ (by first | assumption | (repeat (first | assumption | exact Later.refl _ | apply Later.drew | refine Later.alloc ?_ _)))
              clear hK K
              try simp only [Act.put, List.setIfInBounds_toArray, List.set_cons_zero, List.set_cons_succ]
              refine wpAnyN_ready (rs := [11]) (by kernel_rfl) (by simp) ?_
              refine AllReadyN.held rfl (by rfl) (fun K hK => ?_) AllReadyN.nil
              go_simp
              refine (plallowed_calls _ _ _ _ _ _ _ _ _ _ _ _ _ D (H.out.later (HL34.out.trans (HLX.out.trans (LXZ.out.trans (by first | assumption | (repeat (first | assumption | exact Later.refl _ | apply Later.drew | refine Later.alloc ?_ _))))))) _ _ _ [r0, r1] (HQ.out.later (HL34.out.trans (HLX.out.trans (LXZ.out.trans (by first | assumption | (repeat (first | assumption | exact Later.refl _ | apply Later.drew | refine Later.alloc ?_ _))))))) ua HUA.out).mono ?_
              rintro e w111 ⟨rfl, b11⟩
              have l11 : Later wZ w111 := Later.trans (by first | assumption | (repeat (first | assumption | exact Later.refl _ | apply Later.drew | refine Later.alloc ?_ _))) b11
              have rg2 := rg2a.later b11
              clear b11
              refine hK.out _ _ ?_ (fun hHeld => ?_)
              · exact HT2.out _ (by first | assumption | (repeat (first | assumption | exact Later.refl _ | apply Later.drew | refine Later.alloc ?_ _)))
              clear hK K
              try simp only [Act.put, List.setIfInBounds_toArray, List.set_cons_zero, List.set_cons_succ]
              refine wpAnyN_ready (rs := [20]) (by kernel_rfl) (by simp) ?_
              refine AllReadyN.held rfl (by rfl) (fun K hK => ?_) AllReadyN.nil
              go_simp
              refine (plallowed_calls _ _ _ _ _ _ _ _ _ _ _ _ _ (toD D) (HB.out.later (HBX.out.trans (LXZ.out.trans (by first | assumption | (repeat (first | assumption | exact Later.refl _ | apply Later.drew | refine Later.alloc ?_ _)))))) _ _ _ [r1, r0] (grid_two rg2 (HY1.out.later (LXZ.out.trans (by first | assumption | (repeat (first | assumption | exact Later.refl _ | apply Later.drew | refine Later.alloc ?_ _))))) (HY0.out.later (LXZ.out.trans (by first | assumption | (repeat (first | assumption | exact Later.refl _ | apply Later.drew | refine Later.alloc ?_ _))))) HLEN.out.2 HLEN.out.1 HFIT.out.2 HFIT.out.1) ua HUA2.out).mono ?_
              rintro e w120 ⟨rfl, b20⟩
              have l20 : Later wZ w120 := Later.trans (by first | assumption | (repeat (first | assumption | exact Later.refl _ | apply Later.drew | refine Later.alloc ?_ _))) b20
              clear b20
              refine hK.out _ _ ?_ (fun hHeld => ?_)
              · exact HT2.out _ (by first | assumption | (repeat (first | assumption | exact Later.refl _ | apply Later.drew | refine Later.alloc ?_ _)))
              clear hK K
              try simp only [Act.put, List.setIfInBounds_toArray, List.set_cons_zero, List.set_cons_succ]
              refine wpAnyN_takeD (some 142) (by rfl) (i := 21) (oi := _) (v := ?_) rfl (by kernel_rfl) (by kernel_rfl) (by kernel_rfl) (by kernel_rfl) (fun _ _ _ h => h) (Or.inl ⟨by rfl, ?_⟩) (by assumption) ?_
              rotate_left
              · intro w hSw; (try dsimp only at hSw); go_simp
                first | done | with_reducible rfl
              try simp only [Act.put, List.setIfInBounds_toArray, List.set_cons_zero, List.set_cons_succ]
              refine wpAnyN_takeD (some 143) (by rfl) (i := 22) (oi := _) (v := ?_) rfl (by kernel_rfl) (by kernel_rfl) (by kernel_rfl) (by kernel_rfl) (fun _ _ _ h => h) (Or.inl ⟨by rfl, ?_⟩) (by assumption) ?_
              rotate_left
              · intro w hSw; (try dsimp only at hSw); go_simp
                first | done | with_reducible rfl
              try simp only [Act.put, List.setIfInBounds_toArray, List.set_cons_zero, List.set_cons_succ]
              refine wpAnyN_takeD (some 4) (by rfl) (i := 23) (oi := _) (v := ?_) rfl (by kernel_rfl) (by kernel_rfl) (by kernel_rfl) (by kernel_rfl) (fun _ _ _ h => h) (Or.inl ⟨by rfl, ?_⟩) (by assumption) ?_
              rotate_left
              · intro w hSw; (try dsimp only at hSw); go_simp
                first | done | with_reducible rfl
              try simp only [Act.put, List.setIfInBounds_toArray, List.set_cons_zero, List.set_cons_succ]
              refine wpAnyN_done (by kernel_rfl) ?_ _
              have HLE := hide (HLX.out.trans (LXZ.out.trans l20))
              clear hHeld
              go_wp2_with fail
              go_ret
              exact ⟨rfl, B0.out.trans (HL4.out.trans HLE.out)⟩
            refine AllReadyN.held rfl (by rfl) (fun K hK => ?_) AllReadyN.nil
            go_simp
            have lY : Later wX ((wX.alloc (Obj.cells #[Value.slice A1q m1 k1, Value.slice A0q m0 k0] 43)).alloc (Obj.cells #[Value.bool false, Value.slice none 0 0, Value.bool false, Value.slice none 0 0] 37)) := (by first | assumption | (repeat (first | assumption | exact Later.refl _ | apply Later.drew | refine Later.alloc ?_ _)))
            have rY : Row ((wX.alloc (Obj.cells #[Value.slice A1q m1 k1, Value.slice A0q m0 k0] 43)).alloc (Obj.cells #[Value.bool false, Value.slice none 0 0, Value.bool false, Value.slice none 0 0] 37)) (wX.heap.size + 1) 37 [.bool false, .slice none 0 0, .bool false, .slice none 0 0] := Row.new_ (by rw [World.size_alloc])
            refine hK.out _ _ ?_ (fun hHeld => ?_)
            · exact HT1.out _ (by first | assumption | (repeat (first | assumption | exact Later.refl _ | apply Later.drew | refine Later.alloc ?_ _ | refine Later.setCell ?_ (by dsimp only; omega) _)))
            clear hK K
            try simp only [Act.put, List.setIfInBounds_toArray, List.set_cons_zero, List.set_cons_succ]
            refine wpAnyN_ready (rs := [8]) (by kernel_rfl) (by simp) ?_
            refine AllReadyN.held rfl (by rfl) (fun K hK => ?_) AllReadyN.nil
            go_simp
            have hgm : GridIn ((wX.alloc (Obj.cells #[Value.slice A1q m1 k1, Value.slice A0q m0 k0] 43)).alloc (Obj.cells #[Value.bool false, Value.slice none 0 0, Value.bool false, Value.slice none 0 0] 37)).drew (.slice (some ⟨wX.heap.size, 0, none⟩) 2 2) [r1, r0] := grid_two (show Row ((wX.alloc (Obj.cells #[Value.slice A1q m1 k1, Value.slice A0q m0 k0] 43)).alloc (Obj.cells #[Value.bool false, Value.slice none 0 0, Value.bool false, Value.slice none 0 0] 37)) _ 43 _ from ((Row.new_ rfl).alloc _)) (HY1.out.later (by first | assumption | (repeat (first | assumption | exact Later.refl _ | apply Later.drew | refine Later.alloc ?_ _)))) (HY0.out.later (by first | assumption | (repeat (first | assumption | exact Later.refl _ | apply Later.drew | refine Later.alloc ?_ _)))) HLEN.out.2 HLEN.out.1 HFIT.out.2 HFIT.out.1
            refine (plcost_calls _ _ _ _ _ _ _ _ _ _ _ _ _ (toD D) (HB.out.later (HBX.out.trans (by first | assumption | (repeat (first | assumption | exact Later.refl _ | apply Later.drew | refine Later.alloc ?_ _))))) _ _ _ [r1, r0] hgm).mono ?_
            clear hgm
            rintro e w10 ⟨v13, rfl, o13, hs13, b10⟩
            rw [HUS2.out]
            rw [HZC2.out] at o13 hs13
            have l8 : Later wX w10 := Later.trans (by first | assumption | (repeat (first | assumption | exact Later.refl _ | apply Later.drew | refine Later.alloc ?_ _))) b10
            obtain ⟨s13, P13, q13, e13, P13', q13', e13', rfl, o13⟩ := o13.open_; have O13 := hide o13; clear o13
            have HS13 := hide hs13
            clear hs13
            have rY2 : Row w10 (wX.heap.size + 1) 37 [.bool false, .slice none 0 0, .bool false, .slice none 0 0] := (show Row ((wX.alloc (Obj.cells #[Value.slice A1q m1 k1, Value.slice A0q m0 k0] 43)).alloc (Obj.cells #[Value.bool false, Value.slice none 0 0, Value.bool false, Value.slice none 0 0] 37)).drew (wX.heap.size + 1) 37 [.bool false, .slice none 0 0, .bool false, .slice none 0 0] from rY).later b10
            have y0 := rY2.cell (i := 0) rfl; have y1 := rY2.cell (i := 1) rfl; have y2 := rY2.cell (i := 2) rfl; have y3 := rY2.cell (i := 3) rfl; have z0 := rY2.frozen 0
            have yz1 := rY2.frozen 1; have yz2 := rY2.frozen 2; have yz3 := rY2.frozen 3
            clear b10
            refine hK.out _ _ ?_ (fun hHeld => ?_)
            · exact HT1.out _ (by first | assumption | (repeat (first | assumption | exact Later.refl _ | apply Later.drew | refine Later.alloc ?_ _ | refine Later.setCell ?_ (by dsimp only; omega) _)))
            clear hK K
            try simp only [Act.put, List.setIfInBounds_toArray, List.set_cons_zero, List.set_cons_succ]
            refine wpAnyN_takeD (some 109) (by rfl) (i := 9) (oi := _) (v := ?_) rfl (by kernel_rfl) (by kernel_rfl) (by kernel_rfl) (by kernel_rfl) (fun _ _ _ h => h) (Or.inl ⟨by rfl, ?_⟩) (by assumption) ?_
            rotate_left
            · intro w hSw; (try dsimp only at hSw); go_simp
              first | done | with_reducible rfl
            try simp only [Act.put, List.setIfInBounds_toArray, List.set_cons_zero, List.set_cons_succ]
            refine wpAnyN_takeD (some 119) (by rfl) (i := 10) (oi := _) (v := ?_) rfl (by kernel_rfl) (by kernel_rfl) (by kernel_rfl) (by kernel_rfl) (fun _ _ _ h => h) (Or.inl ⟨by rfl, ?_⟩) (by assumption) ?_
            rotate_left
            · intro w hSw; (try dsimp only at hSw); go_simp
              first | done | with_reducible rfl
            try simp only [Act.put, List.setIfInBounds_toArray, List.set_cons_zero, List.set_cons_succ]
            refine wpAnyN_takeD (some 120) (by rfl) (i := 11) (oi := _) (v := ?_) rfl (by kernel_rfl) (by kernel_rfl) (by kernel_rfl) (by kernel_rfl) (fun _ _ _ h => h) (Or.inl ⟨by rfl, ?_⟩) (by assumption) ?_
            rotate_left
            · intro w hSw; (try dsimp only at hSw); go_simp
              first | done | with_reducible rfl
            try simp only [Act.put, List.setIfInBounds_toArray, List.set_cons_zero, List.set_cons_succ]
            refine wpAnyN_ready (rs := [13]) (by kernel_rfl) (by simp) ?_
            refine AllReadyN.held rfl (by rfl) (fun K hK => ?_) AllReadyN.nil
            go_simp
            refine hK.out _ _ ?_ (fun hHeld => ?_)
            · exact HT1.out _ (by first | assumption | (repeat (first | assumption | exact Later.refl _ | apply Later.drew | refine Later.alloc ?_ _ | refine Later.setCell ?_ (by dsimp only; omega) _)))
            clear hK K
            try simp only [Act.put, List.setIfInBounds_toArray, List.set_cons_zero, List.set_cons_succ]
            refine wpAnyN_takeD (some 15) (by rfl) (i := 14) (oi := _) (v := ?_) rfl (by kernel_rfl) (by kernel_rfl) (by kernel_rfl) (by kernel_rfl) (fun _ _ _ h => h) (Or.inl ⟨by rfl, ?_⟩) (by assumption) ?_
            rotate_left
            · intro w hSw; (try dsimp only at hSw); go_simp
              first | done | with_reducible rfl
            try simp only [Act.put, List.setIfInBounds_toArray, List.set_cons_zero, List.set_cons_succ]
            refine wpAnyN_done (by kernel_rfl) ?_ _
            clear hHeld y0 y1 y2 y3 z0 yz1 yz2 yz3
            obtain ⟨gY, hgY⟩ : ∃ g, g = wX.heap.size + 1 := ⟨_, rfl⟩
            have ryy := rY2
            rw [← hgY] at ryy
            have oy := Only.four gY w10 (.bool s13) (.slice P13 q13 e13) (.bool false) (.slice P13' q13' e13')
            rw [← hgY]
            obtain ⟨wZ, hwZ⟩ : ∃ W, W = ((((w10.setCell ⟨gY, 0, none⟩ (.bool s13)).setCell ⟨gY, 1, none⟩ (.slice P13 q13 e13)).setCell ⟨gY, 2, none⟩ (.bool false)).setCell ⟨gY, 3, none⟩ (.slice P13' q13' e13')) := ⟨_, rfl⟩
            rw [← hwZ]
            rw [← hwZ] at oy
            have rZ : Row wZ gY 37 [.bool s13, .slice P13 q13 e13, .bool false, .slice P13' q13' e13'] := by rw [hwZ]; exact (((ryy.set_ 0 _).set_ 1 _).set_ 2 _).set_ 3 _
            have LXZ : Hid (Later wX wZ) := hide ((show Later wX w10 from (by first | assumption | (repeat (first | assumption | exact Later.refl _ | apply Later.drew | refine Later.alloc ?_ _)))).only oy (by have h8 := l8.size; rw [hgY]; omega))
            have O13z : Hid (OwnR wZ 0 (.agg #[.bool s13, .slice P13 q13 e13, .bool false, .slice P13' q13' e13']) zc) := hide ((OwnR.later O13.out (show Later w10 w10 from (by first | assumption | (repeat (first | assumption | exact Later.refl _ | apply Later.drew | refine Later.alloc ?_ _))))).other oy ryy)
            have RZ := hide rZ
            clear hwZ hgY ryy oy rZ rY l8 rY2 O13 lY
            go_upto_region 26 with fail
            have HT2 : Hid (∀ w', Later wZ w' → w'.cell? ⟨w.heap.size, 0, none⟩ = some (.slice (some ⟨b1, off1, none⟩) 2 c1) ∧ w'.cell? ⟨w.heap.size, 1, none⟩ = some (.int .i64 D.hor) ∧ w'.cell? ⟨w.heap.size, 2, none⟩ = some (.int .i64 D.now) ∧ w'.cell? ⟨w.heap.size, 3, none⟩ = some (.slice A2 n2 c2) ∧ w'.cell? ⟨w.heap.size, 4, none⟩ = some (.slice A3 n3 c3) ∧ w'.cell? ⟨w.heap.size, 5, none⟩ = some (.slice A4 n4 c4) ∧ w'.cell? ⟨G, 0, none⟩ = some (.slice (some ⟨gI, 0, none⟩) 2 2) ∧ w'.cell? ⟨G, 1, none⟩ = some (.int .i64 D.hor) ∧ w'.cell? ⟨G, 2, none⟩ = some (.int .i64 D.now) ∧ w'.cell? ⟨G, 3, none⟩ = some (.slice A2 n2 c2) ∧ w'.cell? ⟨G, 4, none⟩ = some (.slice Av nv cv) ∧ w'.cell? ⟨G, 5, none⟩ = some (.slice Aw nw cw) ∧ w'.cell? ⟨gX, 0, none⟩ = some (.bool s12) ∧ w'.cell? ⟨gX, 1, none⟩ = some (.slice P12 q12 e12) ∧ w'.cell? ⟨gX, 2, none⟩ = some (.bool false) ∧ w'.cell? ⟨gX, 3, none⟩ = some (.slice P12' q12' e12') ∧ w'.cell? ⟨gY, 0, none⟩ = some (.bool s13) ∧ w'.cell? ⟨gY, 1, none⟩ = some (.slice P13 q13 e13) ∧ w'.cell? ⟨gY, 2, none⟩ = some (.bool false) ∧ w'.cell? ⟨gY, 3, none⟩ = some (.slice P13' q13' e13') ∧ w'.cell? ⟨bq, offq, none⟩ = some (.slice A0q m0 k0) ∧ w'.cell? ⟨bq, offq + 1, none⟩ = some (.slice A1q m1 k1)) := hide fun w' hb => by
              have h1 := (R0.out.later (HL4.out.trans (HLX.out.trans (LXZ.out.trans hb)))); have h2 := RGX.out.later (LXZ.out.trans hb); have h3 := RX.out.later (LXZ.out.trans hb); have h4 := RZ.out.later hb
              exact ⟨h1.cell rfl, h1.cell rfl, h1.cell rfl, h1.cell rfl, h1.cell rfl, h1.cell rfl, h2.cell rfl, h2.cell rfl, h2.cell rfl, h2.cell rfl, h2.cell rfl, h2.cell rfl, h3.cell rfl, h3.cell rfl, h3.cell rfl, h3.cell rfl, h4.cell rfl, h4.cell rfl, h4.cell rfl, h4.cell rfl, Later.cell (LXZ.out.trans hb) HXQ.out.1, Later.cell (LXZ.out.trans hb) HXQ.out.2⟩
            have hmx : Tryz.prog.follows .mixedOrders = true := by kernel_rfl
            refine wp_region_N (fun w' => w'.cell? ⟨w.heap.size, 0, none⟩ = some (.slice (some ⟨b1, off1, none⟩) 2 c1) ∧ w'.cell? ⟨w.heap.size, 1, none⟩ = some (.int .i64 D.hor) ∧ w'.cell? ⟨w.heap.size, 2, none⟩ = some (.int .i64 D.now) ∧ w'.cell? ⟨w.heap.size, 3, none⟩ = some (.slice A2 n2 c2) ∧ w'.cell? ⟨w.heap.size, 4, none⟩ = some (.slice A3 n3 c3) ∧ w'.cell? ⟨w.heap.size, 5, none⟩ = some (.slice A4 n4 c4) ∧ w'.cell? ⟨G, 0, none⟩ = some (.slice (some ⟨gI, 0, none⟩) 2 2) ∧ w'.cell? ⟨G, 1, none⟩ = some (.int .i64 D.hor) ∧ w'.cell? ⟨G, 2, none⟩ = some (.int .i64 D.now) ∧ w'.cell? ⟨G, 3, none⟩ = some (.slice A2 n2 c2) ∧ w'.cell? ⟨G, 4, none⟩ = some (.slice Av nv cv) ∧ w'.cell? ⟨G, 5, none⟩ = some (.slice Aw nw cw) ∧ w'.cell? ⟨gX, 0, none⟩ = some (.bool s12) ∧ w'.cell? ⟨gX, 1, none⟩ = some (.slice P12 q12 e12) ∧ w'.cell? ⟨gX, 2, none⟩ = some (.bool false) ∧ w'.cell? ⟨gX, 3, none⟩ = some (.slice P12' q12' e12') ∧ w'.cell? ⟨gY, 0, none⟩ = some (.bool s13) ∧ w'.cell? ⟨gY, 1, none⟩ = some (.slice P13 q13 e13) ∧ w'.cell? ⟨gY, 2, none⟩ = some (.bool false) ∧ w'.cell? ⟨gY, 3, none⟩ = some (.slice P13' q13' e13') ∧ w'.cell? ⟨bq, offq, none⟩ = some (.slice A0q m0 k0) ∧ w'.cell? ⟨bq, offq + 1, none⟩ = some (.slice A1q m1 k1)) [] hmx (HT2.out _ (by first | assumption | (repeat (first | assumption | exact Later.refl _ | apply Later.drew | refine Later.alloc ?_ _)))) (fun hHeld => ?_)
            refine wpAnyN_takeD (some 121) (by rfl) (i := 0) (oi := _) (v := ?_) rfl (by kernel_rfl) (by kernel_rfl) (by kernel_rfl) (by kernel_rfl) (fun _ _ _ h => h) (Or.inl ⟨by rfl, ?_⟩) (by assumption) ?_
            rotate_left
            · intro w hSw; (try dsimp only at hSw); go_simp
              first | done | with_reducible rfl
            try simp only [Act.put, List.setIfInBounds_toArray, List.set_cons_zero, List.set_cons_succ]
            refine wpAnyN_takeD (some 122) (by rfl) (i := 1) (oi := _) (v := ?_) rfl (by kernel_rfl) (by kernel_rfl) (by kernel_rfl) (by kernel_rfl) (fun _ _ _ h => h) (Or.inl ⟨by rfl, ?_⟩) (by assumption) ?_
            rotate_left
            · intro w hSw; (try dsimp only at hSw); go_simp
              first | done | with_reducible rfl
            try simp only [Act.put, List.setIfInBounds_toArray, List.set_cons_zero, List.set_cons_succ]
            refine wpAnyN_takeD (some 123) (by rfl) (i := 2) (oi := _) (v := ?_) rfl (by kernel_rfl) (by kernel_rfl) (by kernel_rfl) (by kernel_rfl) (fun _ _ _ h => h) (Or.inl ⟨by rfl, ?_⟩) (by assumption) ?_
            rotate_left
            · intro w hSw; (try dsimp only at hSw); go_simp
              first | done | with_reducible rfl
            try simp only [Act.put, List.setIfInBounds_toArray, List.set_cons_zero, List.set_cons_succ]
            refine wpAnyN_takeD (some 124) (by rfl) (i := 3) (oi := _) (v := ?_) rfl (by kernel_rfl) (by kernel_rfl) (by kernel_rfl) (by kernel_rfl) (fun _ _ _ h => h) (Or.inl ⟨by rfl, ?_⟩) (by assumption) ?_
            rotate_left
            · intro w hSw; (try dsimp only at hSw); go_simp
              first | done | with_reducible rfl
            try simp only [Act.put, List.setIfInBounds_toArray, List.set_cons_zero, List.set_cons_succ]
            refine wpAnyN_takeD (some 125) (by rfl) (i := 4) (oi := _) (v := ?_) rfl (by kernel_rfl) (by kernel_rfl) (by kernel_rfl) (by kernel_rfl) (fun _ _ _ h => h) (Or.inl ⟨by rfl, ?_⟩) (by assumption) ?_
            rotate_left
            · intro w hSw; (try dsimp only at hSw); go_simp
              first | done | with_reducible rfl
            try simp only [Act.put, List.setIfInBounds_toArray, List.set_cons_zero, List.set_cons_succ]
            refine wpAnyN_takeD (some 126) (by rfl) (i := 5) (oi := _) (v := ?_) rfl (by kernel_rfl) (by kernel_rfl) (by kernel_rfl) (by kernel_rfl) (fun _ _ _ h => h) (Or.inl ⟨by rfl, ?_⟩) (by assumption) ?_
            rotate_left
            · intro w hSw; (try dsimp only at hSw); go_simp
              first | done | with_reducible rfl
            try simp only [Act.put, List.setIfInBounds_toArray, List.set_cons_zero, List.set_cons_succ]
            refine wpAnyN_ready (rs := [6]) (by kernel_rfl) (by simp) ?_
            refine AllReadyN.held rfl (by rfl) (fun K hK => ?_) AllReadyN.nil
            go_simp
            refine (qsame_calls _ _ _ zc zc _ _ 1000 1000 (OwnR.later O12b.out (LXZ.out.trans (by first | assumption | (repeat (first | assumption | exact Later.refl _ | apply Later.drew | refine Later.alloc ?_ _))))) (OwnR.later O13z.out (by first | assumption | (repeat (first | assumption | exact Later.refl _ | apply Later.drew | refine Later.alloc ?_ _)))) HS.out HS13.out (by omega) (by omega) true (by simp)).mono ?_
            rintro e w106 ⟨rfl, b6⟩
            have l6 : Later wZ w106 := Later.trans (by first | assumption | (repeat (first | assumption | exact Later.refl _ | apply Later.drew | refine Later.alloc ?_ _))) b6
            clear b6
            refine hK.out _ _ ?_ (fun hHeld => ?_)
            · exact HT2.out _ (by first | assumption | (repeat (first | assumption | exact Later.refl _ | apply Later.drew | refine Later.alloc ?_ _)))
            clear hK K
            try simp only [Act.put, List.setIfInBounds_toArray, List.set_cons_zero, List.set_cons_succ]
            refine wpAnyN_takeD (some 128) (by rfl) (i := 7) (oi := _) (v := ?_) rfl (by kernel_rfl) (by kernel_rfl) (by kernel_rfl) (by kernel_rfl) (fun _ _ _ h => h) (Or.inl ⟨by rfl, ?_⟩) (by assumption) ?_
            rotate_left
            · intro w hSw; (try dsimp only at hSw); go_simp
              first | done | with_reducible rfl
            try simp only [Act.put, List.setIfInBounds_toArray, List.set_cons_zero, List.set_cons_succ]
            refine wpAnyN_takeD (some 129) (by rfl) (i := 8) (oi := _) (v := ?_) rfl (by kernel_rfl) (by kernel_rfl) (by kernel_rfl) (by kernel_rfl) (fun _ _ _ h => h) (Or.inl ⟨by rfl, ?_⟩) (by assumption) ?_
            rotate_left
            · intro w hSw; (try dsimp only at hSw); go_simp
              first | done | with_reducible rfl
            try simp only [Act.put, List.setIfInBounds_toArray, List.set_cons_zero, List.set_cons_succ]
            refine wpAnyN_takeD (some 130) (by rfl) (i := 9) (oi := _) (v := ?_) rfl (by kernel_rfl) (by kernel_rfl) (by kernel_rfl) (by kernel_rfl) (fun _ _ _ h => h) (Or.inl ⟨by rfl, ?_⟩) (by assumption) ?_
            rotate_left
            · intro w hSw; (try dsimp only at hSw); go_simp
              first | done | with_reducible rfl
            try simp only [Act.put, List.setIfInBounds_toArray, List.set_cons_zero, List.set_cons_succ]
            refine wpAnyN_takeD (some 131) (by rfl) (i := 10) (oi := _) (v := ?_) rfl (by kernel_rfl) (by kernel_rfl) (by kernel_rfl) (by kernel_rfl) (fun _ _ _ h => h) (Or.inl ⟨by rfl, ?_⟩) (by assumption) ?_
            rotate_left
            · intro w hSw; (try dsimp only at hSw); go_simp
              first | done | with_reducible rfl
            try simp only [Act.put, List.setIfInBounds_toArray, List.set_cons_zero, List.set_cons_succ]
            refine wpAnyN_takeD (some 133) (by rfl) (i := 12) (oi := _) (v := ?_) rfl (by kernel_rfl) (by kernel_rfl) (by kernel_rfl) (by kernel_rfl) (fun _ _ _ h => h) (Or.inl ⟨by rfl, ?_⟩) (by assumption) ?_
            rotate_left
            · intro w hSw; (try dsimp only at hSw); go_simp
              first | done | with_reducible rfl
            try simp only [Act.put, List.setIfInBounds_toArray, List.set_cons_zero, List.set_cons_succ]
            refine wpAnyN_takeD (some 134) (by rfl) (i := 13) (oi := _) (v := ?_) rfl (by kernel_rfl) (by kernel_rfl) (by kernel_rfl) (by kernel_rfl) (fun _ _ _ h => h) (Or.inl ⟨by rfl, ?_⟩) (by assumption) ?_
            rotate_left
            · intro w hSw; (try dsimp only at hSw); go_simp
              first | done | with_reducible rfl
            try simp only [Act.put, List.setIfInBounds_toArray, List.set_cons_zero, List.set_cons_succ]
            refine wpAnyN_takeD (some 135) (by rfl) (i := 14) (oi := _) (v := ?_) rfl (by kernel_rfl) (by kernel_rfl) (by kernel_rfl) (by kernel_rfl) (fun _ _ _ h => h) (Or.inl ⟨by rfl, ?_⟩) (by assumption) ?_
            rotate_left
            · intro w hSw; (try dsimp only at hSw); go_simp
              first | done | with_reducible rfl
            try simp only [Act.put, List.setIfInBounds_toArray, List.set_cons_zero, List.set_cons_succ]
            refine wpAnyN_takeD (some 136) (by rfl) (i := 15) (oi := _) (v := ?_) rfl (by kernel_rfl) (by kernel_rfl) (by kernel_rfl) (by kernel_rfl) (fun _ _ _ h => h) (Or.inl ⟨by rfl, ?_⟩) (by assumption) ?_
            rotate_left
            · intro w hSw; (try dsimp only at hSw); go_simp
              first | done | with_reducible rfl
            try simp only [Act.put, List.setIfInBounds_toArray, List.set_cons_zero, List.set_cons_succ]
            refine wpAnyN_takeD (some 137) (by rfl) (i := 16) (oi := _) (v := ?_) rfl (by kernel_rfl) (by kernel_rfl) (by kernel_rfl) (by kernel_rfl) (fun _ _ _ h => h) (Or.inl ⟨by rfl, ?_⟩) (by assumption) ?_
            rotate_left
            · intro w hSw; (try dsimp only at hSw); go_simp
              first | done | with_reducible rfl
            try simp only [Act.put, List.setIfInBounds_toArray, List.set_cons_zero, List.set_cons_succ]
            refine wpAnyN_takeD (some 138) (by rfl) (i := 17) (oi := _) (v := ?_) rfl (by kernel_rfl) (by kernel_rfl) (by kernel_rfl) (by kernel_rfl) (fun _ _ _ h => h) (Or.inl ⟨by rfl, ?_⟩) (by assumption) ?_
            rotate_left
            · intro w hSw; (try dsimp only at hSw); go_simp
              first | done | with_reducible rfl
            try simp only [Act.put, List.setIfInBounds_toArray, List.set_cons_zero, List.set_cons_succ]
            refine wpAnyN_takeD (some 139) (by rfl) (i := 18) (oi := _) (v := ?_) rfl (by kernel_rfl) (by kernel_rfl) (by kernel_rfl) (by kernel_rfl) (fun _ _ _ h => h) (Or.inl ⟨by rfl, ?_⟩) (by assumption) ?_
            rotate_left
            · intro w hSw; (try dsimp only at hSw); go_simp
              first | done | with_reducible rfl
            try simp only [Act.put, List.setIfInBounds_toArray, List.set_cons_zero, List.set_cons_succ]
            refine wpAnyN_ready (rs := [11, 19]) (by kernel_rfl) (by simp) ?_
            refine AllReadyN.held rfl (by rfl) (fun K hK => ?_) ?_
            · go_simp
              refine (plallowed_calls _ _ _ _ _ _ _ _ _ _ _ _ _ D (H.out.later (HL34.out.trans (HLX.out.trans (LXZ.out.trans (by first | assumption | (repeat (first | assumption | exact Later.refl _ | apply Later.drew | refine Later.alloc ?_ _))))))) _ _ _ [r0, r1] (HQ.out.later (HL34.out.trans (HLX.out.trans (LXZ.out.trans (by first | assumption | (repeat (first | assumption | exact Later.refl _ | apply Later.drew | refine Later.alloc ?_ _))))))) ua HUA.out).mono ?_
              rintro e w111 ⟨rfl, b11⟩
              have l11 : Later wZ w111 := Later.trans (by first | assumption | (repeat (first | assumption | exact Later.refl _ | apply Later.drew | refine Later.alloc ?_ _))) b11
              clear b11
              refine hK.out _ _ ?_ (fun hHeld => ?_)
              · exact HT2.out _ (by first | assumption | (repeat (first | assumption | exact Later.refl _ | apply Later.drew | refine Later.alloc ?_ _)))
              clear hK K
              try simp only [Act.put, List.setIfInBounds_toArray, List.set_cons_zero, List.set_cons_succ]
              refine wpAnyN_ready (rs := [19]) (by kernel_rfl) (by simp) ?_
              refine AllReadyN.held rfl (by rfl) (fun K hK => ?_) AllReadyN.nil
              go_simp
              have rg2 : Row (w111.alloc (Obj.cells #[Value.slice A1q m1 k1, Value.slice A0q m0 k0] 43)) w111.heap.size 43 [.slice A1q m1 k1, .slice A0q m0 k0] := Row.new_ rfl
              refine hK.out _ _ ?_ (fun hHeld => ?_)
              · exact HT2.out _ (by first | assumption | (repeat (first | assumption | exact Later.refl _ | apply Later.drew | refine Later.alloc ?_ _)))
              clear hK K
              try simp only [Act.put, List.setIfInBounds_toArray, List.set_cons_zero, List.set_cons_succ]
              refine wpAnyN_ready (rs := [20]) (by kernel_rfl) (by simp) ?_
              refine AllReadyN.held rfl (by rfl) (fun K hK => ?_) AllReadyN.nil
              go_simp
              refine (plallowed_calls _ _ _ _ _ _ _ _ _ _ _ _ _ (toD D) (HB.out.later (HBX.out.trans (LXZ.out.trans (by first | assumption | (repeat (first | assumption | exact Later.refl _ | apply Later.drew | refine Later.alloc ?_ _)))))) _ _ _ [r1, r0] (grid_two rg2 (HY1.out.later (LXZ.out.trans (by first | assumption | (repeat (first | assumption | exact Later.refl _ | apply Later.drew | refine Later.alloc ?_ _))))) (HY0.out.later (LXZ.out.trans (by first | assumption | (repeat (first | assumption | exact Later.refl _ | apply Later.drew | refine Later.alloc ?_ _))))) HLEN.out.2 HLEN.out.1 HFIT.out.2 HFIT.out.1) ua HUA2.out).mono ?_
              rintro e w120 ⟨rfl, b20⟩
              have l20 : Later wZ w120 := Later.trans (by first | assumption | (repeat (first | assumption | exact Later.refl _ | apply Later.drew | refine Later.alloc ?_ _))) b20
              clear b20
              refine hK.out _ _ ?_ (fun hHeld => ?_)
              · exact HT2.out _ (by first | assumption | (repeat (first | assumption | exact Later.refl _ | apply Later.drew | refine Later.alloc ?_ _)))
              clear hK K
              try simp only [Act.put, List.setIfInBounds_toArray, List.set_cons_zero, List.set_cons_succ]
              refine wpAnyN_takeD (some 142) (by rfl) (i := 21) (oi := _) (v := ?_) rfl (by kernel_rfl) (by kernel_rfl) (by kernel_rfl) (by kernel_rfl) (fun _ _ _ h => h) (Or.inl ⟨by rfl, ?_⟩) (by assumption) ?_
              rotate_left
              · intro w hSw; (try dsimp only at hSw); go_simp
                first | done | with_reducible rfl
              try simp only [Act.put, List.setIfInBounds_toArray, List.set_cons_zero, List.set_cons_succ]
              refine wpAnyN_takeD (some 143) (by rfl) (i := 22) (oi := _) (v := ?_) rfl (by kernel_rfl) (by kernel_rfl) (by kernel_rfl) (by kernel_rfl) (fun _ _ _ h => h) (Or.inl ⟨by rfl, ?_⟩) (by assumption) ?_
              rotate_left
              · intro w hSw; (try dsimp only at hSw); go_simp
                first | done | with_reducible rfl
              try simp only [Act.put, List.setIfInBounds_toArray, List.set_cons_zero, List.set_cons_succ]
              refine wpAnyN_takeD (some 4) (by rfl) (i := 23) (oi := _) (v := ?_) rfl (by kernel_rfl) (by kernel_rfl) (by kernel_rfl) (by kernel_rfl) (fun _ _ _ h => h) (Or.inl ⟨by rfl, ?_⟩) (by assumption) ?_
              rotate_left
              · intro w hSw; (try dsimp only at hSw); go_simp
                first | done | with_reducible rfl
              try simp only [Act.put, List.setIfInBounds_toArray, List.set_cons_zero, List.set_cons_succ]
              refine wpAnyN_done (by kernel_rfl) ?_ _
              have HLE := hide (HLX.out.trans (LXZ.out.trans l20))
              clear hHeld
              go_wp2_with fail
              go_ret
              exact ⟨rfl, B0.out.trans (HL4.out.trans HLE.out)⟩
            refine AllReadyN.held rfl (by rfl) (fun K hK => ?_) AllReadyN.nil
            go_simp
            have rg2a : Row (w106.alloc (Obj.cells #[Value.slice A1q m1 k1, Value.slice A0q m0 k0] 43)) w106.heap.size 43 [.slice A1q m1 k1, .slice A0q m0 k0] := Row.new_ rfl
            refine hK.out _ _ ?_ (fun hHeld => ?_)
            · exact HT2.out _ (by first | assumption | (repeat (first | assumption | exact Later.refl _ | apply Later.drew | refine Later.alloc ?_ _)))
            clear hK K
            try simp only [Act.put, List.setIfInBounds_toArray, List.set_cons_zero, List.set_cons_succ]
            refine wpAnyN_ready (rs := [11]) (by kernel_rfl) (by simp) ?_
            refine AllReadyN.held rfl (by rfl) (fun K hK => ?_) AllReadyN.nil
            go_simp
            refine (plallowed_calls _ _ _ _ _ _ _ _ _ _ _ _ _ D (H.out.later (HL34.out.trans (HLX.out.trans (LXZ.out.trans (by first | assumption | (repeat (first | assumption | exact Later.refl _ | apply Later.drew | refine Later.alloc ?_ _))))))) _ _ _ [r0, r1] (HQ.out.later (HL34.out.trans (HLX.out.trans (LXZ.out.trans (by first | assumption | (repeat (first | assumption | exact Later.refl _ | apply Later.drew | refine Later.alloc ?_ _))))))) ua HUA.out).mono ?_
            rintro e w111 ⟨rfl, b11⟩
            have l11 : Later wZ w111 := Later.trans (by first | assumption | (repeat (first | assumption | exact Later.refl _ | apply Later.drew | refine Later.alloc ?_ _))) b11
            have rg2 := rg2a.later b11
            clear b11
            refine hK.out _ _ ?_ (fun hHeld => ?_)
            · exact HT2.out _ (by first | assumption | (repeat (first | assumption | exact Later.refl _ | apply Later.drew | refine Later.alloc ?_ _)))
            clear hK K
            try simp only [Act.put, List.setIfInBounds_toArray, List.set_cons_zero, List.set_cons_succ]
            refine wpAnyN_ready (rs := [20]) (by kernel_rfl) (by simp) ?_
            refine AllReadyN.held rfl (by rfl) (fun K hK => ?_) AllReadyN.nil
            go_simp
            refine (plallowed_calls _ _ _ _ _ _ _ _ _ _ _ _ _ (toD D) (HB.out.later (HBX.out.trans (LXZ.out.trans (by first | assumption | (repeat (first | assumption | exact Later.refl _ | apply Later.drew | refine Later.alloc ?_ _)))))) _ _ _ [r1, r0] (grid_two rg2 (HY1.out.later (LXZ.out.trans (by first | assumption | (repeat (first | assumption | exact Later.refl _ | apply Later.drew | refine Later.alloc ?_ _))))) (HY0.out.later (LXZ.out.trans (by first | assumption | (repeat (first | assumption | exact Later.refl _ | apply Later.drew | refine Later.alloc ?_ _))))) HLEN.out.2 HLEN.out.1 HFIT.out.2 HFIT.out.1) ua HUA2.out).mono ?_
            rintro e w120 ⟨rfl, b20⟩
            have l20 : Later wZ w120 := Later.trans (by first | assumption | (repeat (first | assumption | exact Later.refl _ | apply Later.drew | refine Later.alloc ?_ _))) b20
            clear b20
            refine hK.out _ _ ?_ (fun hHeld => ?_)
            · exact HT2.out _ (by first | assumption | (repeat (first | assumption | exact Later.refl _ | apply Later.drew | refine Later.alloc ?_ _)))
            clear hK K
            try simp only [Act.put, List.setIfInBounds_toArray, List.set_cons_zero, List.set_cons_succ]
            refine wpAnyN_takeD (some 142) (by rfl) (i := 21) (oi := _) (v := ?_) rfl (by kernel_rfl) (by kernel_rfl) (by kernel_rfl) (by kernel_rfl) (fun _ _ _ h => h) (Or.inl ⟨by rfl, ?_⟩) (by assumption) ?_
            rotate_left
            · intro w hSw; (try dsimp only at hSw); go_simp
              first | done | with_reducible rfl
            try simp only [Act.put, List.setIfInBounds_toArray, List.set_cons_zero, List.set_cons_succ]
            refine wpAnyN_takeD (some 143) (by rfl) (i := 22) (oi := _) (v := ?_) rfl (by kernel_rfl) (by kernel_rfl) (by kernel_rfl) (by kernel_rfl) (fun _ _ _ h => h) (Or.inl ⟨by rfl, ?_⟩) (by assumption) ?_
            rotate_left
            · intro w hSw; (try dsimp only at hSw); go_simp
              first | done | with_reducible rfl
            try simp only [Act.put, List.setIfInBounds_toArray, List.set_cons_zero, List.set_cons_succ]
            refine wpAnyN_takeD (some 4) (by rfl) (i := 23) (oi := _) (v := ?_) rfl (by kernel_rfl) (by kernel_rfl) (by kernel_rfl) (by kernel_rfl) (fun _ _ _ h => h) (Or.inl ⟨by rfl, ?_⟩) (by assumption) ?_
            rotate_left
            · intro w hSw; (try dsimp only at hSw); go_simp
              first | done | with_reducible rfl
            try simp only [Act.put, List.setIfInBounds_toArray, List.set_cons_zero, List.set_cons_succ]
            refine wpAnyN_done (by kernel_rfl) ?_ _
            have HLE := hide (HLX.out.trans (LXZ.out.trans l20))
            clear hHeld
            go_wp2_with fail
            go_ret
            exact ⟨rfl, B0.out.trans (HL4.out.trans HLE.out)⟩
          refine AllReadyN.held rfl (by rfl) (fun K hK => ?_) AllReadyN.nil
          go_simp
          have lY : Later wX (wX.alloc (Obj.cells #[Value.bool false, Value.slice none 0 0, Value.bool false, Value.slice none 0 0] 37)) := (by first | assumption | (repeat (first | assumption | exact Later.refl _ | apply Later.drew | refine Later.alloc ?_ _)))
          have rY : Row (wX.alloc (Obj.cells #[Value.bool false, Value.slice none 0 0, Value.bool false, Value.slice none 0 0] 37)) (wX.heap.size) 37 [.bool false, .slice none 0 0, .bool false, .slice none 0 0] := Row.new_ (by rfl)
          refine hK.out _ _ ?_ (fun hHeld => ?_)
          · exact HT1.out _ (by first | assumption | (repeat (first | assumption | exact Later.refl _ | apply Later.drew | refine Later.alloc ?_ _ | refine Later.setCell ?_ (by dsimp only; omega) _)))
          clear hK K
          try simp only [Act.put, List.setIfInBounds_toArray, List.set_cons_zero, List.set_cons_succ]
          refine wpAnyN_ready (rs := [7]) (by kernel_rfl) (by simp) ?_
          refine AllReadyN.held rfl (by rfl) (fun K hK => ?_) AllReadyN.nil
          go_simp
          refine hK.out _ _ ?_ (fun hHeld => ?_)
          · exact HT1.out _ (by first | assumption | (repeat (first | assumption | exact Later.refl _ | apply Later.drew | refine Later.alloc ?_ _ | refine Later.setCell ?_ (by dsimp only; omega) _)))
          clear hK K
          try simp only [Act.put, List.setIfInBounds_toArray, List.set_cons_zero, List.set_cons_succ]
          refine wpAnyN_ready (rs := [8]) (by kernel_rfl) (by simp) ?_
          refine AllReadyN.held rfl (by rfl) (fun K hK => ?_) AllReadyN.nil
          go_simp
          have hgm : GridIn ((wX.alloc (Obj.cells #[Value.bool false, Value.slice none 0 0, Value.bool false, Value.slice none 0 0] 37)).alloc (Obj.cells #[Value.slice A1q m1 k1, Value.slice A0q m0 k0] 43)).drew (.slice (some ⟨wX.heap.size + 1, 0, none⟩) 2 2) [r1, r0] := grid_two (show Row ((wX.alloc (Obj.cells #[Value.bool false, Value.slice none 0 0, Value.bool false, Value.slice none 0 0] 37)).alloc (Obj.cells #[Value.slice A1q m1 k1, Value.slice A0q m0 k0] 43)) _ 43 _ from (Row.new_ (World.size_alloc _ _))) (HY1.out.later (by first | assumption | (repeat (first | assumption | exact Later.refl _ | apply Later.drew | refine Later.alloc ?_ _)))) (HY0.out.later (by first | assumption | (repeat (first | assumption | exact Later.refl _ | apply Later.drew | refine Later.alloc ?_ _)))) HLEN.out.2 HLEN.out.1 HFIT.out.2 HFIT.out.1
          refine (plcost_calls _ _ _ _ _ _ _ _ _ _ _ _ _ (toD D) (HB.out.later (HBX.out.trans (by first | assumption | (repeat (first | assumption | exact Later.refl _ | apply Later.drew | refine Later.alloc ?_ _))))) _ _ _ [r1, r0] hgm).mono ?_
          clear hgm
          rintro e w10 ⟨v13, rfl, o13, hs13, b10⟩
          rw [HUS2.out]
          rw [HZC2.out] at o13 hs13
          have l8 : Later wX w10 := Later.trans (by first | assumption | (repeat (first | assumption | exact Later.refl _ | apply Later.drew | refine Later.alloc ?_ _))) b10
          obtain ⟨s13, P13, q13, e13, P13', q13', e13', rfl, o13⟩ := o13.open_; have O13 := hide o13; clear o13
          have HS13 := hide hs13
          clear hs13
          have rY2 : Row w10 (wX.heap.size) 37 [.bool false, .slice none 0 0, .bool false, .slice none 0 0] := (show Row ((wX.alloc (Obj.cells #[Value.bool false, Value.slice none 0 0, Value.bool false, Value.slice none 0 0] 37)).alloc (Obj.cells #[Value.slice A1q m1 k1, Value.slice A0q m0 k0] 43)).drew (wX.heap.size) 37 [.bool false, .slice none 0 0, .bool false, .slice none 0 0] from rY.alloc _).later b10
          have y0 := rY2.cell (i := 0) rfl; have y1 := rY2.cell (i := 1) rfl; have y2 := rY2.cell (i := 2) rfl; have y3 := rY2.cell (i := 3) rfl; have z0 := rY2.frozen 0
          have yz1 := rY2.frozen 1; have yz2 := rY2.frozen 2; have yz3 := rY2.frozen 3
          clear b10
          refine hK.out _ _ ?_ (fun hHeld => ?_)
          · exact HT1.out _ (by first | assumption | (repeat (first | assumption | exact Later.refl _ | apply Later.drew | refine Later.alloc ?_ _ | refine Later.setCell ?_ (by dsimp only; omega) _)))
          clear hK K
          try simp only [Act.put, List.setIfInBounds_toArray, List.set_cons_zero, List.set_cons_succ]
          refine wpAnyN_takeD (some 109) (by rfl) (i := 9) (oi := _) (v := ?_) rfl (by kernel_rfl) (by kernel_rfl) (by kernel_rfl) (by kernel_rfl) (fun _ _ _ h => h) (Or.inl ⟨by rfl, ?_⟩) (by assumption) ?_
          rotate_left
          · intro w hSw; (try dsimp only at hSw); go_simp
            first | done | with_reducible rfl
          try simp only [Act.put, List.setIfInBounds_toArray, List.set_cons_zero, List.set_cons_succ]
          refine wpAnyN_takeD (some 119) (by rfl) (i := 10) (oi := _) (v := ?_) rfl (by kernel_rfl) (by kernel_rfl) (by kernel_rfl) (by kernel_rfl) (fun _ _ _ h => h) (Or.inl ⟨by rfl, ?_⟩) (by assumption) ?_
          rotate_left
          · intro w hSw; (try dsimp only at hSw); go_simp
            first | done | with_reducible rfl
          try simp only [Act.put, List.setIfInBounds_toArray, List.set_cons_zero, List.set_cons_succ]
          refine wpAnyN_takeD (some 120) (by rfl) (i := 11) (oi := _) (v := ?_) rfl (by kernel_rfl) (by kernel_rfl) (by kernel_rfl) (by kernel_rfl) (fun _ _ _ h => h) (Or.inl ⟨by rfl, ?_⟩) (by assumption) ?_
          rotate_left
          · intro w hSw; (try dsimp only at hSw); go_simp
            first | done | with_reducible rfl
          try simp only [Act.put, List.setIfInBounds_toArray, List.set_cons_zero, List.set_cons_succ]
          refine wpAnyN_ready (rs := [13]) (by kernel_rfl) (by simp) ?_
          refine AllReadyN.held rfl (by rfl) (fun K hK => ?_) AllReadyN.nil
          go_simp
          refine hK.out _ _ ?_ (fun hHeld => ?_)
          · exact HT1.out _ (by first | assumption | (repeat (first | assumption | exact Later.refl _ | apply Later.drew | refine Later.alloc ?_ _ | refine Later.setCell ?_ (by dsimp only; omega) _)))
          clear hK K
          try simp only [Act.put, List.setIfInBounds_toArray, List.set_cons_zero, List.set_cons_succ]
          refine wpAnyN_takeD (some 15) (by rfl) (i := 14) (oi := _) (v := ?_) rfl (by kernel_rfl) (by kernel_rfl) (by kernel_rfl) (by kernel_rfl) (fun _ _ _ h => h) (Or.inl ⟨by rfl, ?_⟩) (by assumption) ?_
          rotate_left
          · intro w hSw; (try dsimp only at hSw); go_simp
            first | done | with_reducible rfl
          try simp only [Act.put, List.setIfInBounds_toArray, List.set_cons_zero, List.set_cons_succ]
          refine wpAnyN_done (by kernel_rfl) ?_ _
          clear hHeld y0 y1 y2 y3 z0 yz1 yz2 yz3
          obtain ⟨gY, hgY⟩ : ∃ g, g = wX.heap.size := ⟨_, rfl⟩
          have ryy := rY2
          rw [← hgY] at ryy
          have oy := Only.four gY w10 (.bool s13) (.slice P13 q13 e13) (.bool false) (.slice P13' q13' e13')
          rw [← hgY]
          obtain ⟨wZ, hwZ⟩ : ∃ W, W = ((((w10.setCell ⟨gY, 0, none⟩ (.bool s13)).setCell ⟨gY, 1, none⟩ (.slice P13 q13 e13)).setCell ⟨gY, 2, none⟩ (.bool false)).setCell ⟨gY, 3, none⟩ (.slice P13' q13' e13')) := ⟨_, rfl⟩
          rw [← hwZ]
          rw [← hwZ] at oy
          have rZ : Row wZ gY 37 [.bool s13, .slice P13 q13 e13, .bool false, .slice P13' q13' e13'] := by rw [hwZ]; exact (((ryy.set_ 0 _).set_ 1 _).set_ 2 _).set_ 3 _
          have LXZ : Hid (Later wX wZ) := hide ((show Later wX w10 from (by first | assumption | (repeat (first | assumption | exact Later.refl _ | apply Later.drew | refine Later.alloc ?_ _)))).only oy (by have h8 := l8.size; rw [hgY]; omega))
          have O13z : Hid (OwnR wZ 0 (.agg #[.bool s13, .slice P13 q13 e13, .bool false, .slice P13' q13' e13']) zc) := hide ((OwnR.later O13.out (show Later w10 w10 from (by first | assumption | (repeat (first | assumption | exact Later.refl _ | apply Later.drew | refine Later.alloc ?_ _))))).other oy ryy)
          have RZ := hide rZ
          clear hwZ hgY ryy oy rZ rY l8 rY2 O13 lY
          go_upto_region 26 with fail
          have HT2 : Hid (∀ w', Later wZ w' → w'.cell? ⟨w.heap.size, 0, none⟩ = some (.slice (some ⟨b1, off1, none⟩) 2 c1) ∧ w'.cell? ⟨w.heap.size, 1, none⟩ = some (.int .i64 D.hor) ∧ w'.cell? ⟨w.heap.size, 2, none⟩ = some (.int .i64 D.now) ∧ w'.cell? ⟨w.heap.size, 3, none⟩ = some (.slice A2 n2 c2) ∧ w'.cell? ⟨w.heap.size, 4, none⟩ = some (.slice A3 n3 c3) ∧ w'.cell? ⟨w.heap.size, 5, none⟩ = some (.slice A4 n4 c4) ∧ w'.cell? ⟨G, 0, none⟩ = some (.slice (some ⟨gI, 0, none⟩) 2 2) ∧ w'.cell? ⟨G, 1, none⟩ = some (.int .i64 D.hor) ∧ w'.cell? ⟨G, 2, none⟩ = some (.int .i64 D.now) ∧ w'.cell? ⟨G, 3, none⟩ = some (.slice A2 n2 c2) ∧ w'.cell? ⟨G, 4, none⟩ = some (.slice Av nv cv) ∧ w'.cell? ⟨G, 5, none⟩ = some (.slice Aw nw cw) ∧ w'.cell? ⟨gX, 0, none⟩ = some (.bool s12) ∧ w'.cell? ⟨gX, 1, none⟩ = some (.slice P12 q12 e12) ∧ w'.cell? ⟨gX, 2, none⟩ = some (.bool false) ∧ w'.cell? ⟨gX, 3, none⟩ = some (.slice P12' q12' e12') ∧ w'.cell? ⟨gY, 0, none⟩ = some (.bool s13) ∧ w'.cell? ⟨gY, 1, none⟩ = some (.slice P13 q13 e13) ∧ w'.cell? ⟨gY, 2, none⟩ = some (.bool false) ∧ w'.cell? ⟨gY, 3, none⟩ = some (.slice P13' q13' e13') ∧ w'.cell? ⟨bq, offq, none⟩ = some (.slice A0q m0 k0) ∧ w'.cell? ⟨bq, offq + 1, none⟩ = some (.slice A1q m1 k1)) := hide fun w' hb => by
            have h1 := (R0.out.later (HL4.out.trans (HLX.out.trans (LXZ.out.trans hb)))); have h2 := RGX.out.later (LXZ.out.trans hb); have h3 := RX.out.later (LXZ.out.trans hb); have h4 := RZ.out.later hb
            exact ⟨h1.cell rfl, h1.cell rfl, h1.cell rfl, h1.cell rfl, h1.cell rfl, h1.cell rfl, h2.cell rfl, h2.cell rfl, h2.cell rfl, h2.cell rfl, h2.cell rfl, h2.cell rfl, h3.cell rfl, h3.cell rfl, h3.cell rfl, h3.cell rfl, h4.cell rfl, h4.cell rfl, h4.cell rfl, h4.cell rfl, Later.cell (LXZ.out.trans hb) HXQ.out.1, Later.cell (LXZ.out.trans hb) HXQ.out.2⟩
          have hmx : Tryz.prog.follows .mixedOrders = true := by kernel_rfl
          refine wp_region_N (fun w' => w'.cell? ⟨w.heap.size, 0, none⟩ = some (.slice (some ⟨b1, off1, none⟩) 2 c1) ∧ w'.cell? ⟨w.heap.size, 1, none⟩ = some (.int .i64 D.hor) ∧ w'.cell? ⟨w.heap.size, 2, none⟩ = some (.int .i64 D.now) ∧ w'.cell? ⟨w.heap.size, 3, none⟩ = some (.slice A2 n2 c2) ∧ w'.cell? ⟨w.heap.size, 4, none⟩ = some (.slice A3 n3 c3) ∧ w'.cell? ⟨w.heap.size, 5, none⟩ = some (.slice A4 n4 c4) ∧ w'.cell? ⟨G, 0, none⟩ = some (.slice (some ⟨gI, 0, none⟩) 2 2) ∧ w'.cell? ⟨G, 1, none⟩ = some (.int .i64 D.hor) ∧ w'.cell? ⟨G, 2, none⟩ = some (.int .i64 D.now) ∧ w'.cell? ⟨G, 3, none⟩ = some (.slice A2 n2 c2) ∧ w'.cell? ⟨G, 4, none⟩ = some (.slice Av nv cv) ∧ w'.cell? ⟨G, 5, none⟩ = some (.slice Aw nw cw) ∧ w'.cell? ⟨gX, 0, none⟩ = some (.bool s12) ∧ w'.cell? ⟨gX, 1, none⟩ = some (.slice P12 q12 e12) ∧ w'.cell? ⟨gX, 2, none⟩ = some (.bool false) ∧ w'.cell? ⟨gX, 3, none⟩ = some (.slice P12' q12' e12') ∧ w'.cell? ⟨gY, 0, none⟩ = some (.bool s13) ∧ w'.cell? ⟨gY, 1, none⟩ = some (.slice P13 q13 e13) ∧ w'.cell? ⟨gY, 2, none⟩ = some (.bool false) ∧ w'.cell? ⟨gY, 3, none⟩ = some (.slice P13' q13' e13') ∧ w'.cell? ⟨bq, offq, none⟩ = some (.slice A0q m0 k0) ∧ w'.cell? ⟨bq, offq + 1, none⟩ = some (.slice A1q m1 k1)) [] hmx (HT2.out _ (by first | assumption | (repeat (first | assumption | exact Later.refl _ | apply Later.drew | refine Later.alloc ?_ _)))) (fun hHeld => ?_)
          refine wpAnyN_takeD (some 121) (by rfl) (i := 0) (oi := _) (v := ?_) rfl (by kernel_rfl) (by kernel_rfl) (by kernel_rfl) (by kernel_rfl) (fun _ _ _ h => h) (Or.inl ⟨by rfl, ?_⟩) (by assumption) ?_
          rotate_left
          · intro w hSw; (try dsimp only at hSw); go_simp
            first | done | with_reducible rfl
          try simp only [Act.put, List.setIfInBounds_toArray, List.set_cons_zero, List.set_cons_succ]
          refine wpAnyN_takeD (some 122) (by rfl) (i := 1) (oi := _) (v := ?_) rfl (by kernel_rfl) (by kernel_rfl) (by kernel_rfl) (by kernel_rfl) (fun _ _ _ h => h) (Or.inl ⟨by rfl, ?_⟩) (by assumption) ?_
          rotate_left
          · intro w hSw; (try dsimp only at hSw); go_simp
            first | done | with_reducible rfl
          try simp only [Act.put, List.setIfInBounds_toArray, List.set_cons_zero, List.set_cons_succ]
          refine wpAnyN_takeD (some 123) (by rfl) (i := 2) (oi := _) (v := ?_) rfl (by kernel_rfl) (by kernel_rfl) (by kernel_rfl) (by kernel_rfl) (fun _ _ _ h => h) (Or.inl ⟨by rfl, ?_⟩) (by assumption) ?_
          rotate_left
          · intro w hSw; (try dsimp only at hSw); go_simp
            first | done | with_reducible rfl
          try simp only [Act.put, List.setIfInBounds_toArray, List.set_cons_zero, List.set_cons_succ]
          refine wpAnyN_takeD (some 124) (by rfl) (i := 3) (oi := _) (v := ?_) rfl (by kernel_rfl) (by kernel_rfl) (by kernel_rfl) (by kernel_rfl) (fun _ _ _ h => h) (Or.inl ⟨by rfl, ?_⟩) (by assumption) ?_
          rotate_left
          · intro w hSw; (try dsimp only at hSw); go_simp
            first | done | with_reducible rfl
          try simp only [Act.put, List.setIfInBounds_toArray, List.set_cons_zero, List.set_cons_succ]
          refine wpAnyN_takeD (some 125) (by rfl) (i := 4) (oi := _) (v := ?_) rfl (by kernel_rfl) (by kernel_rfl) (by kernel_rfl) (by kernel_rfl) (fun _ _ _ h => h) (Or.inl ⟨by rfl, ?_⟩) (by assumption) ?_
          rotate_left
          · intro w hSw; (try dsimp only at hSw); go_simp
            first | done | with_reducible rfl
          try simp only [Act.put, List.setIfInBounds_toArray, List.set_cons_zero, List.set_cons_succ]
          refine wpAnyN_takeD (some 126) (by rfl) (i := 5) (oi := _) (v := ?_) rfl (by kernel_rfl) (by kernel_rfl) (by kernel_rfl) (by kernel_rfl) (fun _ _ _ h => h) (Or.inl ⟨by rfl, ?_⟩) (by assumption) ?_
          rotate_left
          · intro w hSw; (try dsimp only at hSw); go_simp
            first | done | with_reducible rfl
          try simp only [Act.put, List.setIfInBounds_toArray, List.set_cons_zero, List.set_cons_succ]
          refine wpAnyN_ready (rs := [6]) (by kernel_rfl) (by simp) ?_
          refine AllReadyN.held rfl (by rfl) (fun K hK => ?_) AllReadyN.nil
          go_simp
          refine (qsame_calls _ _ _ zc zc _ _ 1000 1000 (OwnR.later O12b.out (LXZ.out.trans (by first | assumption | (repeat (first | assumption | exact Later.refl _ | apply Later.drew | refine Later.alloc ?_ _))))) (OwnR.later O13z.out (by first | assumption | (repeat (first | assumption | exact Later.refl _ | apply Later.drew | refine Later.alloc ?_ _)))) HS.out HS13.out (by omega) (by omega) true (by simp)).mono ?_
          rintro e w106 ⟨rfl, b6⟩
          have l6 : Later wZ w106 := Later.trans (by first | assumption | (repeat (first | assumption | exact Later.refl _ | apply Later.drew | refine Later.alloc ?_ _))) b6
          clear b6
          refine hK.out _ _ ?_ (fun hHeld => ?_)
          · exact HT2.out _ (by first | assumption | (repeat (first | assumption | exact Later.refl _ | apply Later.drew | refine Later.alloc ?_ _)))
          clear hK K
          try simp only [Act.put, List.setIfInBounds_toArray, List.set_cons_zero, List.set_cons_succ]
          refine wpAnyN_takeD (some 128) (by rfl) (i := 7) (oi := _) (v := ?_) rfl (by kernel_rfl) (by kernel_rfl) (by kernel_rfl) (by kernel_rfl) (fun _ _ _ h => h) (Or.inl ⟨by rfl, ?_⟩) (by assumption) ?_
          rotate_left
          · intro w hSw; (try dsimp only at hSw); go_simp
            first | done | with_reducible rfl
          try simp only [Act.put, List.setIfInBounds_toArray, List.set_cons_zero, List.set_cons_succ]
          refine wpAnyN_takeD (some 129) (by rfl) (i := 8) (oi := _) (v := ?_) rfl (by kernel_rfl) (by kernel_rfl) (by kernel_rfl) (by kernel_rfl) (fun _ _ _ h => h) (Or.inl ⟨by rfl, ?_⟩) (by assumption) ?_
          rotate_left
          · intro w hSw; (try dsimp only at hSw); go_simp
            first | done | with_reducible rfl
          try simp only [Act.put, List.setIfInBounds_toArray, List.set_cons_zero, List.set_cons_succ]
          refine wpAnyN_takeD (some 130) (by rfl) (i := 9) (oi := _) (v := ?_) rfl (by kernel_rfl) (by kernel_rfl) (by kernel_rfl) (by kernel_rfl) (fun _ _ _ h => h) (Or.inl ⟨by rfl, ?_⟩) (by assumption) ?_
          rotate_left
          · intro w hSw; (try dsimp only at hSw); go_simp
            first | done | with_reducible rfl
          try simp only [Act.put, List.setIfInBounds_toArray, List.set_cons_zero, List.set_cons_succ]
          refine wpAnyN_takeD (some 131) (by rfl) (i := 10) (oi := _) (v := ?_) rfl (by kernel_rfl) (by kernel_rfl) (by kernel_rfl) (by kernel_rfl) (fun _ _ _ h => h) (Or.inl ⟨by rfl, ?_⟩) (by assumption) ?_
          rotate_left
          · intro w hSw; (try dsimp only at hSw); go_simp
            first | done | with_reducible rfl
          try simp only [Act.put, List.setIfInBounds_toArray, List.set_cons_zero, List.set_cons_succ]
          refine wpAnyN_takeD (some 133) (by rfl) (i := 12) (oi := _) (v := ?_) rfl (by kernel_rfl) (by kernel_rfl) (by kernel_rfl) (by kernel_rfl) (fun _ _ _ h => h) (Or.inl ⟨by rfl, ?_⟩) (by assumption) ?_
          rotate_left
          · intro w hSw; (try dsimp only at hSw); go_simp
            first | done | with_reducible rfl
          try simp only [Act.put, List.setIfInBounds_toArray, List.set_cons_zero, List.set_cons_succ]
          refine wpAnyN_takeD (some 134) (by rfl) (i := 13) (oi := _) (v := ?_) rfl (by kernel_rfl) (by kernel_rfl) (by kernel_rfl) (by kernel_rfl) (fun _ _ _ h => h) (Or.inl ⟨by rfl, ?_⟩) (by assumption) ?_
          rotate_left
          · intro w hSw; (try dsimp only at hSw); go_simp
            first | done | with_reducible rfl
          try simp only [Act.put, List.setIfInBounds_toArray, List.set_cons_zero, List.set_cons_succ]
          refine wpAnyN_takeD (some 135) (by rfl) (i := 14) (oi := _) (v := ?_) rfl (by kernel_rfl) (by kernel_rfl) (by kernel_rfl) (by kernel_rfl) (fun _ _ _ h => h) (Or.inl ⟨by rfl, ?_⟩) (by assumption) ?_
          rotate_left
          · intro w hSw; (try dsimp only at hSw); go_simp
            first | done | with_reducible rfl
          try simp only [Act.put, List.setIfInBounds_toArray, List.set_cons_zero, List.set_cons_succ]
          refine wpAnyN_takeD (some 136) (by rfl) (i := 15) (oi := _) (v := ?_) rfl (by kernel_rfl) (by kernel_rfl) (by kernel_rfl) (by kernel_rfl) (fun _ _ _ h => h) (Or.inl ⟨by rfl, ?_⟩) (by assumption) ?_
          rotate_left
          · intro w hSw; (try dsimp only at hSw); go_simp
            first | done | with_reducible rfl
          try simp only [Act.put, List.setIfInBounds_toArray, List.set_cons_zero, List.set_cons_succ]
          refine wpAnyN_takeD (some 137) (by rfl) (i := 16) (oi := _) (v := ?_) rfl (by kernel_rfl) (by kernel_rfl) (by kernel_rfl) (by kernel_rfl) (fun _ _ _ h => h) (Or.inl ⟨by rfl, ?_⟩) (by assumption) ?_
          rotate_left
          · intro w hSw; (try dsimp only at hSw); go_simp
            first | done | with_reducible rfl
          try simp only [Act.put, List.setIfInBounds_toArray, List.set_cons_zero, List.set_cons_succ]
          refine wpAnyN_takeD (some 138) (by rfl) (i := 17) (oi := _) (v := ?_) rfl (by kernel_rfl) (by kernel_rfl) (by kernel_rfl) (by kernel_rfl) (fun _ _ _ h => h) (Or.inl ⟨by rfl, ?_⟩) (by assumption) ?_
          rotate_left
          · intro w hSw; (try dsimp only at hSw); go_simp
            first | done | with_reducible rfl
          try simp only [Act.put, List.setIfInBounds_toArray, List.set_cons_zero, List.set_cons_succ]
          refine wpAnyN_takeD (some 139) (by rfl) (i := 18) (oi := _) (v := ?_) rfl (by kernel_rfl) (by kernel_rfl) (by kernel_rfl) (by kernel_rfl) (fun _ _ _ h => h) (Or.inl ⟨by rfl, ?_⟩) (by assumption) ?_
          rotate_left
          · intro w hSw; (try dsimp only at hSw); go_simp
            first | done | with_reducible rfl
          try simp only [Act.put, List.setIfInBounds_toArray, List.set_cons_zero, List.set_cons_succ]
          refine wpAnyN_ready (rs := [11, 19]) (by kernel_rfl) (by simp) ?_
          refine AllReadyN.held rfl (by rfl) (fun K hK => ?_) ?_
          · go_simp
            refine (plallowed_calls _ _ _ _ _ _ _ _ _ _ _ _ _ D (H.out.later (HL34.out.trans (HLX.out.trans (LXZ.out.trans (by first | assumption | (repeat (first | assumption | exact Later.refl _ | apply Later.drew | refine Later.alloc ?_ _))))))) _ _ _ [r0, r1] (HQ.out.later (HL34.out.trans (HLX.out.trans (LXZ.out.trans (by first | assumption | (repeat (first | assumption | exact Later.refl _ | apply Later.drew | refine Later.alloc ?_ _))))))) ua HUA.out).mono ?_
            rintro e w111 ⟨rfl, b11⟩
            have l11 : Later wZ w111 := Later.trans (by first | assumption | (repeat (first | assumption | exact Later.refl _ | apply Later.drew | refine Later.alloc ?_ _))) b11
            clear b11
            refine hK.out _ _ ?_ (fun hHeld => ?_)
            · exact HT2.out _ (by first | assumption | (repeat (first | assumption | exact Later.refl _ | apply Later.drew | refine Later.alloc ?_ _)))
            clear hK K
            try simp only [Act.put, List.setIfInBounds_toArray, List.set_cons_zero, List.set_cons_succ]
            refine wpAnyN_ready (rs := [19]) (by kernel_rfl) (by simp) ?_
            refine AllReadyN.held rfl (by rfl) (fun K hK => ?_) AllReadyN.nil
            go_simp
            have rg2 : Row (w111.alloc (Obj.cells #[Value.slice A1q m1 k1, Value.slice A0q m0 k0] 43)) w111.heap.size 43 [.slice A1q m1 k1, .slice A0q m0 k0] := Row.new_ rfl
            refine hK.out _ _ ?_ (fun hHeld => ?_)
            · exact HT2.out _ (by first | assumption | (repeat (first | assumption | exact Later.refl _ | apply Later.drew | refine Later.alloc ?_ _)))
            clear hK K
            try simp only [Act.put, List.setIfInBounds_toArray, List.set_cons_zero, List.set_cons_succ]
            refine wpAnyN_ready (rs := [20]) (by kernel_rfl) (by simp) ?_
            refine AllReadyN.held rfl (by rfl) (fun K hK => ?_) AllReadyN.nil
            go_simp
            refine (plallowed_calls _ _ _ _ _ _ _ _ _ _ _ _ _ (toD D) (HB.out.later (HBX.out.trans (LXZ.out.trans (by first | assumption | (repeat (first | assumption | exact Later.refl _ | apply Later.drew | refine Later.alloc ?_ _)))))) _ _ _ [r1, r0] (grid_two rg2 (HY1.out.later (LXZ.out.trans (by first | assumption | (repeat (first | assumption | exact Later.refl _ | apply Later.drew | refine Later.alloc ?_ _))))) (HY0.out.later (LXZ.out.trans (by first | assumption | (repeat (first | assumption | exact Later.refl _ | apply Later.drew | refine Later.alloc ?_ _))))) HLEN.out.2 HLEN.out.1 HFIT.out.2 HFIT.out.1) ua HUA2.out).mono ?_
            rintro e w120 ⟨rfl, b20⟩
            have l20 : Later wZ w120 := Later.trans (by first | assumption | (repeat (first | assumption | exact Later.refl _ | apply Later.drew | refine Later.alloc ?_ _))) b20
            clear b20
            refine hK.out _ _ ?_ (fun hHeld => ?_)
            · exact HT2.out _ (by first | assumption | (repeat (first | assumption | exact Later.refl _ | apply Later.drew | refine Later.alloc ?_ _)))
            clear hK K
            try simp only [Act.put, List.setIfInBounds_toArray, List.set_cons_zero, List.set_cons_succ]
            refine wpAnyN_takeD (some 142) (by rfl) (i := 21) (oi := _) (v := ?_) rfl (by kernel_rfl) (by kernel_rfl) (by kernel_rfl) (by kernel_rfl) (fun _ _ _ h => h) (Or.inl ⟨by rfl, ?_⟩) (by assumption) ?_
            rotate_left
            · intro w hSw; (try dsimp only at hSw); go_simp
              first | done | with_reducible rfl
            try simp only [Act.put, List.setIfInBounds_toArray, List.set_cons_zero, List.set_cons_succ]
            refine wpAnyN_takeD (some 143) (by rfl) (i := 22) (oi := _) (v := ?_) rfl (by kernel_rfl) (by kernel_rfl) (by kernel_rfl) (by kernel_rfl) (fun _ _ _ h => h) (Or.inl ⟨by rfl, ?_⟩) (by assumption) ?_
            rotate_left
            · intro w hSw; (try dsimp only at hSw); go_simp
              first | done | with_reducible rfl
            try simp only [Act.put, List.setIfInBounds_toArray, List.set_cons_zero, List.set_cons_succ]
            refine wpAnyN_takeD (some 4) (by rfl) (i := 23) (oi := _) (v := ?_) rfl (by kernel_rfl) (by kernel_rfl) (by kernel_rfl) (by kernel_rfl) (fun _ _ _ h => h) (Or.inl ⟨by rfl, ?_⟩) (by assumption) ?_
            rotate_left
            · intro w hSw; (try dsimp only at hSw); go_simp
              first | done | with_reducible rfl
            try simp only [Act.put, List.setIfInBounds_toArray, List.set_cons_zero, List.set_cons_succ]
            refine wpAnyN_done (by kernel_rfl) ?_ _
            have HLE := hide (HLX.out.trans (LXZ.out.trans l20))
            clear hHeld
            go_wp2_with fail
            go_ret
            exact ⟨rfl, B0.out.trans (HL4.out.trans HLE.out)⟩
          refine AllReadyN.held rfl (by rfl) (fun K hK => ?_) AllReadyN.nil
          go_simp
          have rg2a : Row (w106.alloc (Obj.cells #[Value.slice A1q m1 k1, Value.slice A0q m0 k0] 43)) w106.heap.size 43 [.slice A1q m1 k1, .slice A0q m0 k0] := Row.new_ rfl
          refine hK.out _ _ ?_ (fun hHeld => ?_)
          · exact HT2.out _ (by first | assumption | (repeat (first | assumption | exact Later.refl _ | apply Later.drew | refine Later.alloc ?_ _)))
          clear hK K
          try simp only [Act.put, List.setIfInBounds_toArray, List.set_cons_zero, List.set_cons_succ]
          refine wpAnyN_ready (rs := [11]) (by kernel_rfl) (by simp) ?_
          refine AllReadyN.held rfl (by rfl) (fun K hK => ?_) AllReadyN.nil
          go_simp
          refine (plallowed_calls _ _ _ _ _ _ _ _ _ _ _ _ _ D (H.out.later (HL34.out.trans (HLX.out.trans (LXZ.out.trans (by first | assumption | (repeat (first | assumption | exact Later.refl _ | apply Later.drew | refine Later.alloc ?_ _))))))) _ _ _ [r0, r1] (HQ.out.later (HL34.out.trans (HLX.out.trans (LXZ.out.trans (by first | assumption | (repeat (first | assumption | exact Later.refl _ | apply Later.drew | refine Later.alloc ?_ _))))))) ua HUA.out).mono ?_
          rintro e w111 ⟨rfl, b11⟩
          have l11 : Later wZ w111 := Later.trans (by first | assumption | (repeat (first | assumption | exact Later.refl _ | apply Later.drew | refine Later.alloc ?_ _))) b11
          have rg2 := rg2a.later b11
          clear b11
          refine hK.out _ _ ?_ (fun hHeld => ?_)
          · exact HT2.out _ (by first | assumption | (repeat (first | assumption | exact Later.refl _ | apply Later.drew | refine Later.alloc ?_ _)))
          clear hK K
          try simp only [Act.put, List.setIfInBounds_toArray, List.set_cons_zero, List.set_cons_succ]
          refine wpAnyN_ready (rs := [20]) (by kernel_rfl) (by simp) ?_
          refine AllReadyN.held rfl (by rfl) (fun K hK => ?_) AllReadyN.nil
          go_simp
          refine (plallowed_calls _ _ _ _ _ _ _ _ _ _ _ _ _ (toD D) (HB.out.later (HBX.out.trans (LXZ.out.trans (by first | assumption | (repeat (first | assumption | exact Later.refl _ | apply Later.drew | refine Later.alloc ?_ _)))))) _ _ _ [r1, r0] (grid_two rg2 (HY1.out.later (LXZ.out.trans (by first | assumption | (repeat (first | assumption | exact Later.refl _ | apply Later.drew | refine Later.alloc ?_ _))))) (HY0.out.later (LXZ.out.trans (by first | assumption | (repeat (first | assumption | exact Later.refl _ | apply Later.drew | refine Later.alloc ?_ _))))) HLEN.out.2 HLEN.out.1 HFIT.out.2 HFIT.out.1) ua HUA2.out).mono ?_
          rintro e w120 ⟨rfl, b20⟩
          have l20 : Later wZ w120 := Later.trans (by first | assumption | (repeat (first | assumption | exact Later.refl _ | apply Later.drew | refine Later.alloc ?_ _))) b20
          clear b20
          refine hK.out _ _ ?_ (fun hHeld => ?_)
          · exact HT2.out _ (by first | assumption | (repeat (first | assumption | exact Later.refl _ | apply Later.drew | refine Later.alloc ?_ _)))
          clear hK K
          try simp only [Act.put, List.setIfInBounds_toArray, List.set_cons_zero, List.set_cons_succ]
          refine wpAnyN_takeD (some 142) (by rfl) (i := 21) (oi := _) (v := ?_) rfl (by kernel_rfl) (by kernel_rfl) (by kernel_rfl) (by kernel_rfl) (fun _ _ _ h => h) (Or.inl ⟨by rfl, ?_⟩) (by assumption) ?_
          rotate_left
          · intro w hSw; (try dsimp only at hSw); go_simp
            first | done | with_reducible rfl
          try simp only [Act.put, List.setIfInBounds_toArray, List.set_cons_zero, List.set_cons_succ]
          refine wpAnyN_takeD (some 143) (by rfl) (i := 22) (oi := _) (v := ?_) rfl (by kernel_rfl) (by kernel_rfl) (by kernel_rfl) (by kernel_rfl) (fun _ _ _ h => h) (Or.inl ⟨by rfl, ?_⟩) (by assumption) ?_
          rotate_left
          · intro w hSw; (try dsimp only at hSw); go_simp
            first | done | with_reducible rfl
          try simp only [Act.put, List.setIfInBounds_toArray, List.set_cons_zero, List.set_cons_succ]
          refine wpAnyN_takeD (some 4) (by rfl) (i := 23) (oi := _) (v := ?_) rfl (by kernel_rfl) (by kernel_rfl) (by kernel_rfl) (by kernel_rfl) (fun _ _ _ h => h) (Or.inl ⟨by rfl, ?_⟩) (by assumption) ?_
          rotate_left
          · intro w hSw; (try dsimp only at hSw); go_simp
            first | done | with_reducible rfl
          try simp only [Act.put, List.setIfInBounds_toArray, List.set_cons_zero, List.set_cons_succ]
          refine wpAnyN_done (by kernel_rfl) ?_ _
          have HLE := hide (HLX.out.trans (LXZ.out.trans l20))
          clear hHeld
          go_wp2_with fail
          go_ret
          exact ⟨rfl, B0.out.trans (HL4.out.trans HLE.out)⟩
end Go.Proofs.YthncinngkfflgaaGreat
