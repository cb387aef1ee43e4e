/- PlanStep: one piece more in the last period; the plain law and the walk. -/
import Derived.Test.YthncinngkfflgaaGreatQ24
import Derived.Test.YthncinngkfflgaaGreatQ9
set_option linter.unusedVariables false
set_option linter.unusedSimpArgs false
set_option maxRecDepth 100000
namespace Go.Proofs.YthncinngkfflgaaGreat
open Go.RowKit Go.Shelf
attribute [local go_sem ↓] Go.wp_at_zero Go.wp_at_succ

/-! ### the plain law -/
section
variable {D : PBook} {r0 : List Int} {ts : List (List Int)} {L : Nat} {q : Int}
theorem step_getD (hL : L < r0.length) (z : Int) (k : Nat) : (r0.set L z).getD k 0 = if k = L then z else r0.getD k 0 := by
  rw [List.getD_eq_getElem?_getD, List.getD_eq_getElem?_getD]
  by_cases h : k = L
  · subst h; rw [if_pos rfl, List.getElem?_set_self hL]; rfl
  · rw [if_neg h, List.getElem?_set_ne (fun e => h e.symm)]
theorem step_lev (hL : L < r0.length) (hq : r0.getD L 0 = q) (i : Int) (k : Nat) (hk : k ≤ L + 1) : lev D (r0.set L (q + 1)) i k = lev D r0 i k + if k = L + 1 then 1 else 0 := by
  induction k with
  | zero => rw [if_neg (by omega)]; show thereV D i = thereV D i + 0; omega
  | succ k ih =>
    have h1 := ih (by omega)
    rw [if_neg (by omega)] at h1
    show lev D (r0.set L (q+1)) i k + ((r0.set L (q+1)).getD k 0 - dueV D i (D.now + k)) = lev D r0 i k + (r0.getD k 0 - dueV D i (D.now + k)) + _
    rw [h1, step_getD hL]
    by_cases e : k = L
    · subst e; rw [if_pos rfl, if_pos rfl, hq]; omega
    · rw [if_neg e, if_neg (by omega)]; omega
theorem step_term (x : PItem) (q n : Int) (hq : 0 ≤ q) : termC x (q + 1) (n + 1) = termC x q n + (if q = 0 then x.s else 0) + (if 0 ≤ n then x.h else - x.b) := by
  unfold termC
  have e1 : (max (n + 1) 0 : Int) = (max n 0 : Int) + (if 0 ≤ n then 1 else 0) := by split <;> omega
  have e2 : (max (-(n + 1)) 0 : Int) = (max (-n) 0 : Int) - (if 0 ≤ n then 0 else 1) := by split <;> omega
  rw [e1, e2, Rat.intCast_add, Rat.intCast_sub, if_pos (show 0 < q + 1 by omega)]
  generalize ((max n 0 : Int) : Rat) = A
  generalize ((max (-n) 0 : Int) : Rat) = B
  have c1 : ((1 : Int) : Rat) = 1 := rfl
  have c0 : ((0 : Int) : Rat) = 0 := rfl
  by_cases hn : 0 ≤ n
  · simp only [hn, if_true, c1, c0]
    by_cases h0 : q = 0
    · rw [if_pos h0, if_neg (show ¬ 0 < q by omega)]; grind
    · rw [if_neg h0, if_pos (show 0 < q by omega)]; grind
  · simp only [hn, if_false, c1, c0]
    by_cases h0 : q = 0
    · rw [if_pos h0, if_neg (show ¬ 0 < q by omega)]; grind
    · rw [if_neg h0, if_pos (show 0 < q by omega)]; grind
def stepZ (x : PItem) (q n : Int) : Rat := (if q = 0 then x.s else 0) + (if 0 ≤ n then x.h else - x.b)
theorem step_row (x : PItem) (hL : L < r0.length) (hq : r0.getD L 0 = q) (h0 : 0 ≤ q) (i : Nat) (k : Nat) (hk : k ≤ L + 1) : costRow D x (r0.set L (q + 1)) i k = costRow D x r0 i k + if k = L + 1 then stepZ x q (lev D r0 i (L+1)) else 0 := by
  induction k with
  | zero => rw [if_neg (by omega)]; show (0 : Rat) = 0 + 0; grind
  | succ k ih =>
    have h1 := ih (by omega)
    rw [if_neg (by omega)] at h1
    show costRow D x (r0.set L (q+1)) i k + termC x ((r0.set L (q+1)).getD k 0) (lev D (r0.set L (q+1)) i (k+1)) = costRow D x r0 i k + termC x (r0.getD k 0) (lev D r0 i (k+1)) + _
    rw [h1, step_getD hL, step_lev hL hq i (k+1) hk]
    by_cases e : k = L
    · subst e; rw [if_pos rfl, if_pos rfl, if_pos rfl, hq, step_term x q _ h0]; unfold stepZ; grind
    · rw [if_neg e, if_neg (by omega), if_neg (by omega)]; rw [Int.add_zero]; grind
theorem step_to (x : PItem) (hL : L < r0.length) (hq : r0.getD L 0 = q) (h0 : 0 ≤ q) (hx : D.items.getD 0 item0 = x) (hh : D.hor.toNat = L + 1) (m : Nat) : costTo D ((r0.set L (q + 1)) :: ts) (m+1) = costTo D (r0 :: ts) (m+1) + stepZ x q (lev D r0 0 (L+1)) := by
  induction m with
  | zero =>
    show (0 : Rat) + costRow D (D.items.getD 0 item0) (r0.set L (q+1)) 0 D.hor.toNat = 0 + costRow D (D.items.getD 0 item0) r0 0 D.hor.toNat + _
    rw [hx, hh, step_row x hL hq h0 0 (L+1) (Nat.le_refl _), if_pos rfl]; simp only [Int.ofNat_eq_natCast, Int.cast_ofNat_Int]; grind
  | succ m ih =>
    show costTo D ((r0.set L (q + 1)) :: ts) (m+1) + costRow D (D.items.getD (m+1) item0) (ts.getD m []) (m+1) D.hor.toNat = costTo D (r0 :: ts) (m+1) + costRow D (D.items.getD (m+1) item0) (ts.getD m []) (m+1) D.hor.toNat + _
    rw [ih]; grind
theorem step_shape (hL : L < r0.length) (hq : r0.getD L 0 = q) (h : shapeB D (r0 :: ts) = true) (h6 : q ≠ 1000000) : shapeB D ((r0.set L (q + 1)) :: ts) = true := by
  have h1 := shapeB_iff.1 h
  have h2 := h1.rows r0 (by simp)
  have hq2 : 0 ≤ q ∧ q ≤ 1000000 := by
    rw [← hq, List.getD_eq_getElem?_getD, List.getElem?_eq_getElem hL]
    exact h2.2 _ (List.getElem_mem hL)
  refine shapeB_iff.2 ⟨h1.may, h1.len, fun r hr => ?_⟩
  rcases List.mem_cons.1 hr with rfl | hr
  · refine ⟨by rw [List.length_set]; exact h2.1, fun z hz => ?_⟩
    rcases List.mem_or_eq_of_mem_set hz with hz | rfl
    · exact h2.2 z hz
    · omega
  · exact h1.rows r (List.mem_cons_of_mem _ hr)
theorem step_cost (x : PItem) (hL : L < r0.length) (hq : r0.getD L 0 = q) (hx : D.items.getD 0 item0 = x) (hh : D.hor.toNat = L + 1) (h : shapeB D (r0 :: ts) = true) (h6 : q ≠ 1000000) :
    costV D ((r0.set L (q + 1)) :: ts) = costV D (r0 :: ts) + stepZ x q (lev D r0 0 (L+1)) := by
  have h1 := shapeB_iff.1 h
  have h2 := h1.rows r0 (by simp)
  have h0 : 0 ≤ q := by
    rw [← hq, List.getD_eq_getElem?_getD, List.getElem?_eq_getElem hL]
    exact (h2.2 _ (List.getElem_mem hL)).1
  unfold costV
  rw [step_shape hL hq h h6, h, if_pos rfl, if_pos rfl]
  exact step_to x hL hq h0 hx hh ts.length
end

theorem info_hd : (Tryz.prog.info? 43).map (fun i => (i.zero, i.size, i.bytes)) = some (some (.slice none 0 0), 1, 24) := by kernel_rfl
theorem own_row {w : World} {lo m n : Nat} {T : TypeId} {v : Value} {xs : List Value} (h : w.ownsRow lo T m v n xs) (hn : 0 < n) : ∃ g cap sp, v = .slice (some ⟨g, 0, none⟩) n cap ∧ lo ≤ g ∧ Row w g T (xs ++ sp) ∧ n ≤ cap ∧ cap ≤ maxLen := by
  obtain ⟨h2, h3⟩ := h
  rcases h3 with ⟨rfl, h0⟩ | ⟨g, cap, cur, rfl, hb, hg, hc, hmx, hs, ht⟩
  · omega
  · exact ⟨g, cap, cur.toList.drop (n * m), rfl, hb, by unfold Row; rw [← ht, List.take_append_drop]; simpa using hg, hc, hmx⟩
theorem Grid.heads {w : World} {A : Option Addr} {n c : Nat} {t : List (List Int)} (h : Grid w (.slice A n c) t) (ht : 0 < t.length) : ∃ (b off : Nat) (hs : List Value), A = some ⟨b, off, none⟩ ∧ hs.length = t.length ∧ ∀ (i : Nat) row, t[i]? = some row → ∃ A' n' c', hs[i]? = some (.slice A' n' c') ∧ w.cell? ⟨b, off + i, none⟩ = some (.slice A' n' c') ∧ Sq 1 iCells w (.slice A' n' c') row := by
  obtain ⟨b, off, -, -, -, hA, -, -⟩ := h.at_ (List.getElem?_eq_getElem ht)
  refine ⟨b, off, (List.range t.length).map fun i => (w.cell? ⟨b, off + i, none⟩).getD undef, hA, by simp, fun i row hi => ?_⟩
  obtain ⟨b', off', A', n', c', hA', hc, hs⟩ := h.at_ hi
  have e := hA.symm.trans hA'
  injection e with e; injection e with e1 e2
  subst e1 e2
  refine ⟨A', n', c', ?_, hc, hs⟩
  have hlt := (List.getElem?_eq_some_iff.1 hi).1
  rw [List.getElem?_map, List.getElem?_range hlt]
  simp [hc]
theorem iCells_map (l : List Int) : l.flatMap iCells = l.map (Value.int .i64) := by
  induction l with
  | nil => rfl
  | cons a l ih => rw [List.flatMap_cons, List.map_cons, ih]; rfl
theorem Sq.of_row {w : World} {g cap : Nat} {T : TypeId} {l : List Int} {sp : List Value} (h : Row w g T (l.map (Value.int .i64) ++ sp)) (hc : l.length ≤ cap) (hm : cap ≤ maxLen) : Sq 1 iCells w (.slice (some ⟨g, 0, none⟩) l.length cap) l := by
  refine ⟨_, cap, rfl, hc, hm, fun i x hi => ⟨g, 0, rfl, fun j u hj => ?_⟩⟩
  have hlt := (List.getElem?_eq_some_iff.1 hi).1
  match j, hj with
  | 0, hj =>
    simp [iCells] at hj; subst hj
    rw [Nat.zero_add, Nat.mul_one, Nat.add_zero]
    exact h.cell (by rw [List.getElem?_append_left (by simpa using hlt), List.getElem?_map, hi]; rfl)
  | j+1, hj => simp [iCells] at hj
theorem grid_more {w : World} {g nq cap : Nat} {T : TypeId} {hs sp : List Value} {A0 : Option Addr} {n0 c0 : Nat} {r : List Int} {ts : List (List Int)} (hR : Row w g T ((hs ++ sp).set 0 (.slice A0 n0 c0))) (h0 : Sq 1 iCells w (.slice A0 n0 c0) r) (hl : hs.length = ts.length + 1) (hn : nq = ts.length + 1) (hc : nq ≤ cap) (hm : cap ≤ maxLen)
    (ho : ∀ (i : Nat) row, ts[i]? = some row → ∃ A' n' c', hs[i+1]? = some (.slice A' n' c') ∧ Sq 1 iCells w (.slice A' n' c') row) (h1 : nq ≤ 1000) (h2 : ∀ x ∈ r :: ts, x.length ≤ 1000) (h3 : ∀ x ∈ r :: ts, ∀ z ∈ x, -9223372036854775808 ≤ z ∧ z < 9223372036854775808) : GridIn w (.slice (some ⟨g, 0, none⟩) nq cap) (r :: ts) := by
  subst hn
  refine ⟨⟨_, cap, rfl, hc, hm, fun i row hi => ?_⟩, h1, h2, h3⟩
  cases i with
  | zero =>
    injection hi with hi; subst hi
    exact ⟨g, 0, A0, n0, c0, rfl, hR.cell (by rw [List.getElem?_set_self (by simp; omega)]), h0⟩
  | succ i =>
    obtain ⟨A', n', c', e1, e2⟩ := ho i row hi
    refine ⟨g, 0, A', n', c', rfl, ?_, e2⟩
    rw [Nat.zero_add]
    exact hR.cell (by rw [List.getElem?_set_ne (by omega), List.getElem?_append_left (List.getElem?_eq_some_iff.1 e1).1, e1])
def WantAt (w0 : World) (g : Nat) (q : Rat) (wx : World) : Prop := ∃ s P n e P' n' e', Row wx g 37 [.bool s, .slice P n e, .bool false, .slice P' n' e'] ∧ OwnR wx 0 (.agg #[.bool s, .slice P n e, .bool false, .slice P' n' e']) q ∧ Later w0 wx

set_option maxHeartbeats 16000000 in
theorem planstep_walk (w : World) (v0 v1 : Value) (h0 : ArgBook w v0) (h1 : ArgGrid w v1) :
    Calls Tryz.prog 11 #[v0, v1] w (RetV w (.bool true)) := by
  obtain ⟨A1, A2, A3, A4, n1, n2, n3, n4, c1, c2, c3, c4, hor, now, caps, ords, mks, rfl, hi, hcp, hor', hmk, hft⟩ := h0
  have HI := hide hi; have HCP := hide hcp; have HOR := hide hor'; have HMK := hide hmk; have HFT := hide hft
  clear hi hcp hor' hmk hft
  obtain ⟨Aq, nq, cq, t, rfl, hg, hgf, hgl⟩ := h1
  have HG := hide hg; have HGF := hide hgf; have HGL := hide hgl
  clear hg hgf hgl
  obtain ⟨W0, hW0⟩ : ∃ W0, W0 = (w.alloc (Obj.cells #[Value.slice A1 n1 c1, Value.int .i64 hor, Value.int .i64 now, Value.slice A2 n2 c2, Value.slice A3 n3 c3, Value.slice A4 n4 c4] 47)) := ⟨_, rfl⟩
  obtain ⟨hb0, r0, hsz0⟩ := boxes1 w [.slice A1 n1 c1, .int .i64 hor, .int .i64 now, .slice A2 n2 c2, .slice A3 n3 c3, .slice A4 n4 c4] 47 hW0
  have B0 := hide hb0; have HW0 := hide hW0
  have R0 := hide r0
  clear hb0 hW0 hsz0 r0
  go_enter Tryz.func11, Tryz.ntmps11
  go_upto_region 1 with fail
  rw [← HW0.out]
  go_wp2_with fail
  ((with_reducible refine (awake17_calls W0).mono ?_); rintro e w1 ⟨rfl, b1⟩)
  have HL1 := hide b1
  clear b1
  have r_d := R0.out.later HL1.out
  have d0 := r_d.cell (i := 0) rfl; have d1 := r_d.cell (i := 1) rfl; have d2 := r_d.cell (i := 2) rfl; have d3 := r_d.cell (i := 3) rfl; have d4 := r_d.cell (i := 4) rfl; have d5 := r_d.cell (i := 5) rfl
  clear r_d
  go_wp2_with fail
  ((with_reducible refine (few17_calls w1 _ _ _ _ _ _ _ _ _ _ _ _ hor now caps ords mks (HI.out.later (B0.out.trans HL1.out)) (HCP.out.later (B0.out.trans HL1.out)) (HOR.out.later (B0.out.trans HL1.out)) (HMK.out.later (B0.out.trans HL1.out)) HFT.out.1 HFT.out.2.1 HFT.out.2.2.1 HFT.out.2.2.2.1 HFT.out.2.2.2.2).mono ?_); rintro e w2 ⟨uf, rfl, b2, hf⟩)
  have HF := hide hf; have HL2 := hide (HL1.out.trans b2)
  have HLB := hide b2
  clear b2 hf d0 d1 d2 d3 d4 d5
  have r_d := R0.out.later HL2.out
  have d0 := r_d.cell (i := 0) rfl; have d1 := r_d.cell (i := 1) rfl; have d2 := r_d.cell (i := 2) rfl; have d3 := r_d.cell (i := 3) rfl; have d4 := r_d.cell (i := 4) rfl; have d5 := r_d.cell (i := 5) rfl
  clear r_d
  cases uf with
  | false =>
    go_wp2_with fail
    go_ret
    exact ⟨rfl, B0.out.trans HL2.out⟩
  | true =>
  obtain ⟨D, rfl, rfl, rfl, rfl, rfl, hbk⟩ := HF.out (by first | rfl | trivial)
  have H := hide (hbk.later HLB.out)
  clear hbk HF HI HCP HOR HMK HFT HLB
  go_wp2_with fail
  ((with_reducible refine (fewplan_calls w2 _ _ _ t (HG.out.later (B0.out.trans HL2.out)) HGF.out HGL.out).mono ?_); rintro e w3 ⟨uf, rfl, b3, hf⟩)
  have HF := hide hf; have HL3 := hide (HL2.out.trans b3)
  have HK3 := hide b3
  clear b3 hf d0 d1 d2 d3 d4 d5
  have r_d := R0.out.later HL3.out
  have d0 := r_d.cell (i := 0) rfl; have d1 := r_d.cell (i := 1) rfl; have d2 := r_d.cell (i := 2) rfl; have d3 := r_d.cell (i := 3) rfl; have d4 := r_d.cell (i := 4) rfl; have d5 := r_d.cell (i := 5) rfl
  clear r_d
  cases uf with
  | false =>
    go_wp2_with fail
    go_ret
    exact ⟨rfl, B0.out.trans HL3.out⟩
  | true =>
  have HQ := hide ((HF.out (by first | rfl | trivial)).later HK3.out)
  have H3 := hide (H.out.later HK3.out)
  clear H HF HG HGF HGL
  have H := H3
  clear H3
  obtain ⟨u0, hu0⟩ : ∃ u, mayB D = u := ⟨_, rfl⟩
  have HU0 := hide hu0
  have L1 := hide H.out.lens.1; have LQ := hide HQ.out.lenq
  clear hu0
  go_wp2_with fail
  ((with_reducible refine (rmay_calls _ _ _ _ _ _ _ _ _ _ _ _ _ D H.out u0 HU0.out).mono ?_); rintro e w4 ⟨rfl, b4⟩)
  have HL4 := hide (HL3.out.trans b4); have HL34 := hide b4
  clear b4 d0 d1 d2 d3 d4 d5
  have r_d := R0.out.later HL4.out
  have d0 := r_d.cell (i := 0) rfl; have d1 := r_d.cell (i := 1) rfl; have d2 := r_d.cell (i := 2) rfl; have d3 := r_d.cell (i := 3) rfl; have d4 := r_d.cell (i := 4) rfl; have d5 := r_d.cell (i := 5) rfl
  clear r_d
  cases u0 with
  | false =>
    go_wp2_with fail
    go_ret
    exact ⟨rfl, B0.out.trans HL4.out⟩
  | true =>
  obtain ⟨us, hus⟩ : ∃ u, shapeB D t = u := ⟨_, rfl⟩
  obtain ⟨zc, hzc⟩ : ∃ z, costV D t = z := ⟨_, rfl⟩
  have HUS := hide hus; have HZC := hide hzc
  clear hus hzc
  go_wp2_with fail
  ((refine (plcost_calls _ _ _ _ _ _ _ _ _ _ _ _ _ D (H.out.later HL34.out) _ _ _ t (HQ.out.later HL34.out)).mono ?_); rintro e w5 ⟨v10, rfl, o10, hs10, b5⟩)
  rw [HUS.out]
  rw [HZC.out] at o10 hs10
  obtain ⟨s10, P10, q10, e10, P10', q10', e10', rfl, o10⟩ := o10.open_; have O10 := hide o10; clear o10
  have HS10 := hide hs10; have HL45 := hide b5
  clear hs10 b5 d0 d1 d2 d3 d4 d5
  go_upto_region 6 with fail
  obtain ⟨wA, hwA⟩ : ∃ wA, wA = w5.alloc (Obj.cells #[Value.bool s10, Value.slice P10 q10 e10, Value.bool false, Value.slice P10' q10' e10'] 37) := ⟨_, rfl⟩
  obtain ⟨gA, hgA⟩ : ∃ gA, gA = w5.heap.size := ⟨_, rfl⟩
  have bwA : Later w5 wA := by rw [hwA]; exact (Later.refl _).alloc _
  have rgA : Row wA gA 37 [.bool s10, .slice P10 q10 e10, .bool false, .slice P10' q10' e10'] := by rw [hwA, hgA]; exact Row.new _ _ _
  rw [← hwA, ← hgA]
  have HLA := hide (HL45.out.trans bwA); have RA := hide rgA; have O10b := hide (OwnR.later O10.out bwA)
  clear hwA hgA rgA bwA O10 HL45
  cases us with
  | false =>
    go_wp2_with fail
    go_ret
    exact ⟨rfl, B0.out.trans (HL4.out.trans HLA.out)⟩
  | true =>
  have HSH := hide (shapeB_iff.1 HUS.out)
  have HHOR := hide (shape_hor HSH.out)
  have hn1 := HSH.out.may.head.n1
  have hil := HSH.out.len
  obtain ⟨r0, ts, rfl⟩ : ∃ r0 ts, t = r0 :: ts := by
    match t, hil with
    | r0 :: ts, _ => exact ⟨r0, ts, rfl⟩
    | [], e => exact absurd e (by simp; omega)
  have hnq : ¬ (nq : Int) < 1 := by have := LQ.out; rw [List.length_cons] at this; omega
  have hrow := HSH.out.rows r0 (by simp)
  obtain ⟨L, hL⟩ : ∃ L : Nat, D.hor = (L : Int) + 1 := ⟨(D.hor - 1).toNat, by have := HHOR.out.1; omega⟩
  have hlr : r0.length = L + 1 := by have := hrow.1; omega
  have hL6 : L ≤ 5 := by have := HHOR.out.2.1; omega
  have hwl : IntKind.i64.wrap (D.hor - 1) = (L : Int) := by rw [hL]; exact (IntWalk.i64_in _ (by omega)).trans (by omega)
  obtain ⟨q, hq⟩ : ∃ z, r0[L]? = some z := ⟨r0[L]'(by omega), List.getElem?_eq_getElem _⟩
  have hqb := hrow.2 q (List.mem_of_getElem? hq)
  obtain ⟨x, hx⟩ : ∃ x, D.items[0]? = some x := ⟨D.items[0]'(by omega), List.getElem?_eq_getElem _⟩
  obtain ⟨b1, off1, rfl, e1, e2, e3, x0, x1, x2, x3, x4, x5, x6, x7, x8, x9, x10, x11, m1, m2, m3⟩ := (H.out.later HL34.out).its.at12 hx
  obtain ⟨bq, offq, hs, rfl, hhl, hhd⟩ := (HQ.out.later HL34.out).grid.heads (by simp)
  obtain ⟨A0q, nr, cr, hh0, hc0, hsq0⟩ := hhd 0 r0 rfl
  have hnr : nr = r0.length := hsq0.len_
  obtain ⟨b0, off0, rfl, hcL⟩ := hsq0.at1 hq
  have HQL := hide hq; have HXI := hide hx; have HLR := hide hlr; have HOR := hide hL; have HWL := hide hwl
  have HX : Hid (w4.cell? ⟨b1, off1 + 0 * 12, none⟩ = some (.bool e1.a) ∧ w4.cell? ⟨b1, off1 + 0 * 12 + 1, none⟩ = some (.slice e1.A e1.n e1.c) ∧ w4.cell? ⟨b1, off1 + 0 * 12 + 2, none⟩ = some (.bool e1.a') ∧ w4.cell? ⟨b1, off1 + 0 * 12 + 3, none⟩ = some (.slice e1.A' e1.n' e1.c') ∧ w4.cell? ⟨b1, off1 + 0 * 12 + 4, none⟩ = some (.bool e2.a) ∧ w4.cell? ⟨b1, off1 + 0 * 12 + 5, none⟩ = some (.slice e2.A e2.n e2.c) ∧ w4.cell? ⟨b1, off1 + 0 * 12 + 6, none⟩ = some (.bool e2.a') ∧ w4.cell? ⟨b1, off1 + 0 * 12 + 7, none⟩ = some (.slice e2.A' e2.n' e2.c') ∧ w4.cell? ⟨b1, off1 + 0 * 12 + 8, none⟩ = some (.bool e3.a) ∧ w4.cell? ⟨b1, off1 + 0 * 12 + 9, none⟩ = some (.slice e3.A e3.n e3.c) ∧ w4.cell? ⟨b1, off1 + 0 * 12 + 10, none⟩ = some (.bool e3.a') ∧ w4.cell? ⟨b1, off1 + 0 * 12 + 11, none⟩ = some (.slice e3.A' e3.n' e3.c')) := hide ⟨x0, x1, x2, x3, x4, x5, x6, x7, x8, x9, x10, x11⟩
  have HM := hide (And.intro m1 (And.intro m2 m3)); have HHD := hide hhd; have HC0 := hide hc0; have HCL := hide hcL; have HSQ0 := hide hsq0; have HHL := hide hhl; have HH0 := hide hh0; have HROW := hide hrow
  have hnr6 : nr = L + 1 := by omega
  have hnq1 : nq = ts.length + 1 := by have := LQ.out; rw [List.length_cons] at this; exact this
  have hnq3 : nq ≤ 1000 := by have := HHOR.out.2.2; rw [List.length_cons] at this; omega
  clear hq hx hlr hL x0 x1 x2 x3 x4 x5 x6 x7 x8 x9 x10 x11 m1 m2 m3 hhd hc0 hcL hsq0 hhl hh0 hrow hil hnr
  have hn1' : (0 : Int) < n1 := by have := L1.out; omega
  have hLnr : (L : Int) < nr := by omega
  have hn1n : 0 < n1 := by omega
  have HNQ1 := hide hnq1; have HNR6 := hide hnr6
  clear hnq1 hnr6
  have r_d := R0.out.later (HL4.out.trans HLA.out)
  have d0 := r_d.cell (i := 0) rfl; have d1 := r_d.cell (i := 1) rfl; have d2 := r_d.cell (i := 2) rfl; have d3 := r_d.cell (i := 3) rfl; have d4 := r_d.cell (i := 4) rfl; have d5 := r_d.cell (i := 5) rfl
  clear r_d
  go_upto_region 9 with fail
  have HSRC : Hid (Src (wA.alloc (Obj.cells #[] 43)) 1 (.slice (some ⟨bq, offq, none⟩) nq cq) nq hs) := hide (by
    refine ⟨by rw [HHL.out, List.length_cons]; have := HNQ1.out; omega, fun u hu => ?_, .inr ⟨_, cq, rfl, fun j u hj => ?_⟩⟩
    · obtain ⟨i, hi, rfl⟩ := List.getElem_of_mem hu
      have hi' : i < (r0 :: ts).length := by rw [← HHL.out]; exact hi
      obtain ⟨A', n', c', e, -, -⟩ := HHD.out i _ (List.getElem?_eq_getElem hi')
      rw [List.getElem?_eq_getElem hi] at e; injection e with e; rw [e]; rfl
    · rw [Go.WideShapes.add_plain]
      have hi := (List.getElem?_eq_some_iff.1 hj).1
      have hi' : j < (r0 :: ts).length := by rw [← HHL.out]; exact hi
      obtain ⟨A', n', c', e, hc, -⟩ := HHD.out j _ (List.getElem?_eq_getElem hi')
      rw [hj] at e; injection e with e; rw [e]
      exact Later.cell (HLA.out.alloc _) hc)
  go_upto_region 10 with (at_builtin; refine wpList_append_src rfl _ _ _ rfl wA.heap.size 43 (.slice none 0 0) 1 24 Tryz.underlying54 info_hd rfl (by omega) (by omega) _ 0 [] rfl (World.ownsRow_lit wA #[] (e := 43) (size := 1) 0 (Nat.le_refl _) (by decide) rfl) _ nq hs rfl HSRC.out (by omega) (by rw [World.size_alloc]; omega) ?_; intro v9 w9 k1 k2 k3; rw [Nat.zero_add, List.nil_append] at k1; obtain ⟨g9, cap9, sp9, rfl, hg9, hr9, hcap9, hmx9⟩ := own_row k1 (by omega); have l9 : Later wA w9 := ((Later.refl wA).alloc _).grown k2 (fun k hk => (World.ownsRow.lt (World.ownsRow_lit wA #[] (e := 43) (size := 1) 0 (Nat.le_refl _) (by decide) rfl) k hk).1); have HR9 := hide hr9; have HL9 := hide l9; clear k1 k2 k3 hr9 l9)
  have c9 := Later.cell (HLA.out.trans (HL9.out.alloc (Obj.cells #[] 3))) HC0.out
  rw [Nat.add_zero] at c9
  have hnq0 : (0 : Int) < nq := by omega
  go_upto_region 11 with (at_builtin; refine wpList_append_is rfl _ _ rfl (lo := w9.heap.size) (l := []) rfl (World.ownsRow_lit w9 #[] (e := 3) (size := 1) 0 (Nat.le_refl _) (by decide) rfl) rfl (HSQ0.out.later (HLA.out.trans (HL9.out.alloc _))) (by rw [HLR.out]; simp; omega) (by rw [World.size_alloc]; omega) ?_; intro v10 w10 k1 k2 k3; rw [List.nil_append] at k1; obtain ⟨g10, cap10, sp10, rfl, hg10, hr10, hcap10, hmx10⟩ := own_row k1 (by rw [HLR.out]; omega); have l10 : Later w9 w10 := ((Later.refl w9).alloc _).grown k2 (fun k hk => (World.ownsRow.lt (World.ownsRow_lit w9 #[] (e := 3) (size := 1) 0 (Nat.le_refl _) (by decide) rfl) k hk).1); have hs9 := (HR9.out.later l10).cell (i := 0) (u := .slice (some ⟨b0, off0, none⟩) nr cr) (by rw [List.getElem?_append_left (by rw [HHL.out, List.length_cons]; omega)]; exact HH0.out); have hz9 := (HR9.out.later l10).frozen 0; have HR10 := hide hr10; have HL10 := hide l10; clear k1 k2 k3 hr10 l10)
  obtain ⟨w11, hw11⟩ : ∃ W, W = w10.setCell ⟨g9, 0, none⟩ (.slice (some ⟨g10, 0, none⟩) r0.length cap10) := ⟨_, rfl⟩
  have hg99 := HR9.out.lt
  have r11 : Row w11 g9 43 ((hs ++ sp9).set 0 (.slice (some ⟨g10, 0, none⟩) r0.length cap10)) := by rw [hw11]; exact (HR9.out.later HL10.out).set_ 0 _
  have oo : Only g9 w10 w11 := by rw [hw11]; exact Only.one g9 w10 0 _
  have r11b : Row w11 g10 3 (r0.flatMap iCells ++ sp10) := HR10.out.only oo (by omega)
  rw [← hw11]
  have HL11 := hide ((HL9.out.trans HL10.out).only oo hg9)
  have hhl1 : 0 < hs.length := by rw [HHL.out, List.length_cons]; omega
  have s0 := r11.cell (i := 0) (u := .slice (some ⟨g10, 0, none⟩) r0.length cap10) (by rw [List.getElem?_set_self (by simp; omega)])
  rw [iCells_map] at r11b
  have s1 := r11b.cell (i := L) (u := .int .i64 q) (by rw [List.getElem?_append_left (by rw [List.length_map, HLR.out]; omega), List.getElem?_map, HQL.out]; rfl)
  have s2 := r11b.frozen L
  have hLi : (L : Int) < (r0.length : Int) := by rw [HLR.out]; omega
  have hL0 : (0 : Int) ≤ (L : Int) := by omega
  have hLn : ((L : Int)).toNat = L := by omega
  have hwq : IntKind.i64.wrap (q + 1) = q + 1 := IntWalk.i64_in _ (by omega)
  have R11 := hide r11; have R11b := hide r11b
  clear hw11 r11 r11b oo hs9 hz9 c9 d0 d1 d2 d3 d4 d5
  go_upto_region 12 with fail
  obtain ⟨w12, hw12⟩ : ∃ W, W = w11.setCell ⟨g10, L, none⟩ (.int .i64 (q + 1)) := ⟨_, rfl⟩
  have oo : Only g10 w11 w12 := by rw [hw12]; exact Only.one g10 w11 L _
  have hne : g9 ≠ g10 := by omega
  have r12 := R11.out.only oo hne
  have r12b : Row w12 g10 3 ((r0.set L (q + 1)).map (Value.int .i64) ++ sp10) := by
    rw [List.map_set, ← List.set_append_left _ _ (by rw [List.length_map, HLR.out]; omega), hw12]; exact R11b.out.set_ L _
  rw [← hw12]
  have HL12 : Hid (Later wA w12) := hide (HL11.out.only oo (by have := HL9.out.size; omega))
  have HGM : Hid (GridIn w12 (.slice (some ⟨g9, 0, none⟩) nq cap9) ((r0.set L (q + 1)) :: ts)) := hide (by
    have hsq := Sq.of_row (cap := cap10) r12b (by rw [List.length_set]; exact hcap10) hmx10
    rw [List.length_set] at hsq
    have hqo := HQ.out.later (HL34.out.trans (HLA.out.trans HL12.out))
    refine grid_more r12 hsq (by rw [HHL.out, List.length_cons]) HNQ1.out hcap9 hmx9 (fun i row hi => ?_) hnq3 (fun y hy => ?_) (fun y hy => ?_)
    · obtain ⟨A', n', c', h1, -, h2⟩ := HHD.out (i+1) row hi
      exact ⟨A', n', c', h1, h2.later (HLA.out.trans HL12.out)⟩
    · rcases List.mem_cons.1 hy with rfl | hy
      · rw [List.length_set, HLR.out]; omega
      · exact hqo.lens y (List.mem_cons_of_mem _ hy)
    · rcases List.mem_cons.1 hy with rfl | hy
      · intro z hz
        rcases List.mem_or_eq_of_mem_set hz with hz | rfl
        · exact hqo.fit r0 (by simp) z hz
        · omega
      · exact hqo.fit y (List.mem_cons_of_mem _ hy))
  have HLA2 := hide (HLA.out.trans HL12.out)
  clear hw12 oo r12 r12b s0 s1 s2 R11 R11b HR9 HR10 HL10 HL11 hne
  have r_d := R0.out.later (HL4.out.trans HLA2.out)
  have d0 := r_d.cell (i := 0) rfl; have d1 := r_d.cell (i := 1) rfl; have d2 := r_d.cell (i := 2) rfl; have d3 := r_d.cell (i := 3) rfl; have d4 := r_d.cell (i := 4) rfl; have d5 := r_d.cell (i := 5) rfl
  clear r_d
  obtain ⟨us2, hus2⟩ : ∃ u, shapeB D ((r0.set L (q + 1)) :: ts) = u := ⟨_, rfl⟩
  obtain ⟨zd, hzd⟩ : ∃ z, costV D ((r0.set L (q + 1)) :: ts) = z := ⟨_, rfl⟩
  have HUS2 := hide hus2; have HZD := hide hzd
  clear hus2 hzd
  go_wp2_with fail
  ((refine (plcost_calls _ _ _ _ _ _ _ _ _ _ _ _ _ D (H.out.later (HL34.out.trans HLA2.out)) _ _ _ ((r0.set L (q + 1)) :: ts) HGM.out).mono ?_); rintro e w13 ⟨v12, rfl, o12, hs12, b13⟩)
  rw [HUS2.out]
  rw [HZD.out] at o12 hs12
  obtain ⟨s12, P12, q12, e12, P12', q12', e12', rfl, o12⟩ := o12.open_; have O12 := hide o12; clear o12
  have HS12 := hide hs12; have HL13 := hide b13
  clear hs12 b13 d0 d1 d2 d3 d4 d5
  go_upto_region 13 with fail
  obtain ⟨wD, hwD⟩ : ∃ wD, wD = w13.alloc (Obj.cells #[Value.bool s12, Value.slice P12 q12 e12, Value.bool false, Value.slice P12' q12' e12'] 37) := ⟨_, rfl⟩
  obtain ⟨gD, hgD⟩ : ∃ gD, gD = w13.heap.size := ⟨_, rfl⟩
  have bwD : Later w13 wD := by rw [hwD]; exact (Later.refl _).alloc _
  have rgD : Row wD gD 37 [.bool s12, .slice P12 q12 e12, .bool false, .slice P12' q12' e12'] := by rw [hwD, hgD]; exact Row.new _ _ _
  rw [← hwD, ← hgD]
  have HLD := hide (HLA2.out.trans (HL13.out.trans bwD)); have RD := hide rgD; have O12b := hide (OwnR.later O12.out bwD)
  have HAD := hide (HL12.out.trans (HL13.out.trans bwD))
  clear hwD hgD rgD bwD O12 HL13
  have r_d := R0.out.later (HL4.out.trans HLD.out)
  have d0 := r_d.cell (i := 0) rfl; have d1 := r_d.cell (i := 1) rfl; have d2 := r_d.cell (i := 2) rfl; have d3 := r_d.cell (i := 3) rfl; have d4 := r_d.cell (i := 4) rfl; have d5 := r_d.cell (i := 5) rfl
  clear r_d
  go_wp2_with fail
  ((with_reducible refine (rthere_calls _ _ _ _ _ _ _ _ _ _ _ _ _ D (H.out.later (HL34.out.trans HLD.out)) 0).mono ?_); rintro e wC ⟨rfl, bC⟩)
  have HLC := hide (HLD.out.trans bC); have HDC := hide bC; have HAW := hide (HAD.out.trans bC)
  have hol := H.out.ol
  have HNW := hide (fun (k : Nat) (hk : k ≤ 1000) => now_fit HSH.out.may hk)
  have hn0 := HSH.out.may.head.t0; have hn40 := HSH.out.may.head.t40
  clear bC d0 d1 d2 d3 d4 d5
  go_wp2_with fail
  go_loopw [11, 12] (fun s iv wr => ∃ k : Nat, k ≤ L + 1 ∧ s = .int .i64 (lev D r0 0 k) ∧ iv = .int .i64 (k : Int) ∧ Later wC wr) (fun _ iv _ => (L + 1 - intOf iv).toNat)
  case atStart => exact ⟨0, by omega, rfl, rfl, Later.refl _⟩
  case round =>
    obtain ⟨k, hk, rfl, rfl, hL⟩ := hrel
    have HL := hide hL
    clear hL
    have HT1x := HL
    by_cases hkm : k ≤ L
    · obtain ⟨z, hz⟩ : ∃ z, r0[k]? = some z := ⟨r0[k]'(by have := HLR.out; omega), List.getElem?_eq_getElem _⟩
      obtain ⟨b3, off3, hb3, x2⟩ := (HSQ0.out.later (HLC.out.trans HL.out)).at1 hz
      injection hb3 with hb3; injection hb3 with hb31 hb32
      have x1 := Later.cell (HLC.out.trans HL.out) HC0.out
      rw [Nat.add_zero] at x1
      have hzb := HROW.out.2 z (List.mem_of_getElem? hz)
      have hk0 : (0 : Int) ≤ (k : Int) := by omega
      have hk1 : (k : Int) < nr := by have := HNR6.out; omega
      have hk2 : ((k : Int)).toNat = k := by omega
      have hk3 : (k : Int) ≤ L := by omega
      have t1 : decide ((k : Int) ≤ L) = true := by simpa using hk3
      have hlb := lev_bound D r0 0 hol HROW.out.2 k
      have hdb := dueV_bound D 0 (D.now + k) hol
      have hst : lev D r0 0 (k+1) = lev D r0 0 k + z - dueV D 0 (D.now + k) := by
        show lev D r0 0 k + (r0.getD k 0 - dueV D 0 (D.now + k)) = _
        rw [getD_at hz]; omega
      obtain ⟨s, hs⟩ : ∃ s, lev D r0 0 k = s := ⟨_, rfl⟩
      obtain ⟨dv, hd⟩ : ∃ dv, dueV D 0 (D.now + k) = dv := ⟨_, rfl⟩
      rw [hs] at hlb ⊢
      rw [hs, hd] at hst
      rw [hd] at hdb
      have hlb2 : -200000000 ≤ s ∧ s ≤ 2000000000 := by omega
      have hw0 := HNW.out k (by omega)
      have hw1 : IntKind.i64.wrap (s + z) = s + z := IntWalk.i64_in _ (by omega)
      have hw2 : IntKind.i64.wrap (s + z - dv) = s + z - dv := IntWalk.i64_in _ (by omega)
      have HST := hide hst; have HD := hide hd
      subst hb31 hb32
      clear hst hs hd hlb hz
      have hrx := R0.out.later (HL4.out.trans (HLC.out.trans HL.out))
      have HT1 : Hid (∀ w', Later wr w' → w'.cell? ⟨w.heap.size, 0, none⟩ = some (.slice (some ⟨b1, off1, none⟩) n1 c1) ∧ w'.cell? ⟨w.heap.size, 1, none⟩ = some (.int .i64 D.hor) ∧ w'.cell? ⟨w.heap.size, 2, none⟩ = some (.int .i64 D.now) ∧ w'.cell? ⟨w.heap.size, 3, none⟩ = some (.slice A2 n2 c2) ∧ w'.cell? ⟨w.heap.size, 4, none⟩ = some (.slice A3 n3 c3) ∧ w'.cell? ⟨w.heap.size, 5, none⟩ = some (.slice A4 n4 c4) ∧ w'.cell? ⟨bq, offq, none⟩ = some (.slice (some ⟨b0, off0, none⟩) nr cr) ∧ w'.cell? ⟨b0, off0 + k, none⟩ = some (.int .i64 z)) := hide fun w' hb => ⟨(hrx.later hb).cell rfl, (hrx.later hb).cell rfl, (hrx.later hb).cell rfl, (hrx.later hb).cell rfl, (hrx.later hb).cell rfl, (hrx.later hb).cell rfl, Later.cell hb x1, Later.cell hb x2⟩
      clear hrx x1 x2
      have hmx : Tryz.prog.follows .mixedOrders = true := by kernel_rfl
      go_upto_region 17 with fail
      refine wp_region_N (fun w' => w'.cell? ⟨w.heap.size, 0, none⟩ = some (.slice (some ⟨b1, off1, none⟩) n1 c1) ∧ w'.cell? ⟨w.heap.size, 1, none⟩ = some (.int .i64 D.hor) ∧ w'.cell? ⟨w.heap.size, 2, none⟩ = some (.int .i64 D.now) ∧ w'.cell? ⟨w.heap.size, 3, none⟩ = some (.slice A2 n2 c2) ∧ w'.cell? ⟨w.heap.size, 4, none⟩ = some (.slice A3 n3 c3) ∧ w'.cell? ⟨w.heap.size, 5, none⟩ = some (.slice A4 n4 c4) ∧ w'.cell? ⟨bq, offq, none⟩ = some (.slice (some ⟨b0, off0, none⟩) nr cr) ∧ w'.cell? ⟨b0, off0 + k, none⟩ = some (.int .i64 z)) [] hmx (HT1.out _ (by first | assumption | (repeat (first | assumption | exact Later.refl _ | apply Later.drew | refine Later.alloc ?_ _)))) (fun hHeld => ?_)
      refine wpAnyN_takeD (some 76) (by rfl) (i := 0) (oi := _) (v := ?_) rfl (by kernel_rfl) (by kernel_rfl) (by kernel_rfl) (by kernel_rfl) (fun _ _ _ h => h) (Or.inl ⟨by rfl, ?_⟩) (by assumption) ?_
      rotate_left
      · intro w hSw; (try dsimp only at hSw); go_simp
        first | done | with_reducible rfl
      try simp only [Act.put, List.setIfInBounds_toArray, List.set_cons_zero, List.set_cons_succ]
      refine wpAnyN_takeD (some 77) (by rfl) (i := 1) (oi := _) (v := ?_) rfl (by kernel_rfl) (by kernel_rfl) (by kernel_rfl) (by kernel_rfl) (fun _ _ _ h => h) (Or.inl ⟨by rfl, ?_⟩) (by assumption) ?_
      rotate_left
      · intro w hSw; (try dsimp only at hSw); go_simp
        first | done | with_reducible rfl
      try simp only [Act.put, List.setIfInBounds_toArray, List.set_cons_zero, List.set_cons_succ]
      refine wpAnyN_takeD (some 78) (by rfl) (i := 2) (oi := _) (v := ?_) rfl (by kernel_rfl) (by kernel_rfl) (by kernel_rfl) (by kernel_rfl) (fun _ _ _ h => h) (Or.inl ⟨by rfl, ?_⟩) (by assumption) ?_
      rotate_left
      · intro w hSw; (try dsimp only at hSw); go_simp
        first | done | with_reducible rfl
      try simp only [Act.put, List.setIfInBounds_toArray, List.set_cons_zero, List.set_cons_succ]
      refine wpAnyN_takeD (some 79) (by rfl) (i := 3) (oi := _) (v := ?_) rfl (by kernel_rfl) (by kernel_rfl) (by kernel_rfl) (by kernel_rfl) (fun _ _ _ h => h) (Or.inl ⟨by rfl, ?_⟩) (by assumption) ?_
      rotate_left
      · intro w hSw; (try dsimp only at hSw); go_simp
        first | done | with_reducible rfl
      try simp only [Act.put, List.setIfInBounds_toArray, List.set_cons_zero, List.set_cons_succ]
      refine wpAnyN_takeD (some 80) (by rfl) (i := 4) (oi := _) (v := ?_) rfl (by kernel_rfl) (by kernel_rfl) (by kernel_rfl) (by kernel_rfl) (fun _ _ _ h => h) (Or.inl ⟨by rfl, ?_⟩) (by assumption) ?_
      rotate_left
      · intro w hSw; (try dsimp only at hSw); go_simp
        first | done | with_reducible rfl
      try simp only [Act.put, List.setIfInBounds_toArray, List.set_cons_zero, List.set_cons_succ]
      refine wpAnyN_takeD (some 81) (by rfl) (i := 5) (oi := _) (v := ?_) rfl (by kernel_rfl) (by kernel_rfl) (by kernel_rfl) (by kernel_rfl) (fun _ _ _ h => h) (Or.inl ⟨by rfl, ?_⟩) (by assumption) ?_
      rotate_left
      · intro w hSw; (try dsimp only at hSw); go_simp
        first | done | with_reducible rfl
      try simp only [Act.put, List.setIfInBounds_toArray, List.set_cons_zero, List.set_cons_succ]
      refine wpAnyN_takeD (some 82) (by rfl) (i := 6) (oi := _) (v := ?_) rfl (by kernel_rfl) (by kernel_rfl) (by kernel_rfl) (by kernel_rfl) (fun _ _ _ h => h) (Or.inl ⟨by rfl, ?_⟩) (by assumption) ?_
      rotate_left
      · intro w hSw; (try dsimp only at hSw); go_simp
        first | done | with_reducible rfl
      try simp only [Act.put, List.setIfInBounds_toArray, List.set_cons_zero, List.set_cons_succ]
      refine wpAnyN_takeD (some 83) (by rfl) (i := 7) (oi := _) (v := ?_) rfl (by kernel_rfl) (by kernel_rfl) (by kernel_rfl) (by kernel_rfl) (fun _ _ _ h => h) (Or.inl ⟨by rfl, ?_⟩) (by assumption) ?_
      rotate_left
      · intro w hSw; (try dsimp only at hSw); go_simp
        first | done | with_reducible rfl
      try simp only [Act.put, List.setIfInBounds_toArray, List.set_cons_zero, List.set_cons_succ]
      refine wpAnyN_takeD (some 84) (by rfl) (i := 8) (oi := _) (v := ?_) rfl (by kernel_rfl) (by kernel_rfl) (by kernel_rfl) (by kernel_rfl) (fun _ _ _ h => h) (Or.inl ⟨by rfl, ?_⟩) (by assumption) ?_
      rotate_left
      · intro w hSw; (try dsimp only at hSw); go_simp
        first | done | with_reducible rfl
      try simp only [Act.put, List.setIfInBounds_toArray, List.set_cons_zero, List.set_cons_succ]
      refine wpAnyN_takeD (some 85) (by rfl) (i := 9) (oi := _) (v := ?_) rfl (by kernel_rfl) (by kernel_rfl) (by kernel_rfl) (by kernel_rfl) (fun _ _ _ h => h) (Or.inl ⟨by rfl, ?_⟩) (by assumption) ?_
      rotate_left
      · intro w hSw; (try dsimp only at hSw); go_simp
        first | done | with_reducible rfl
      try simp only [Act.put, List.setIfInBounds_toArray, List.set_cons_zero, List.set_cons_succ]
      refine wpAnyN_takeD (some 86) (by rfl) (i := 10) (oi := _) (v := ?_) rfl (by kernel_rfl) (by kernel_rfl) (by kernel_rfl) (by kernel_rfl) (fun _ _ _ h => h) (Or.inl ⟨by rfl, ?_⟩) (by assumption) ?_
      rotate_left
      · intro w hSw; (try dsimp only at hSw); go_simp
        first | done | with_reducible rfl
      try simp only [Act.put, List.setIfInBounds_toArray, List.set_cons_zero, List.set_cons_succ]
      refine wpAnyN_takeD (some 87) (by rfl) (i := 11) (oi := _) (v := ?_) rfl (by kernel_rfl) (by kernel_rfl) (by kernel_rfl) (by kernel_rfl) (fun _ _ _ h => h) (Or.inl ⟨by rfl, ?_⟩) (by assumption) ?_
      rotate_left
      · intro w hSw; (try dsimp only at hSw); go_simp
        first | done | with_reducible rfl
      try simp only [Act.put, List.setIfInBounds_toArray, List.set_cons_zero, List.set_cons_succ]
      refine wpAnyN_takeD (some 88) (by rfl) (i := 12) (oi := _) (v := ?_) rfl (by kernel_rfl) (by kernel_rfl) (by kernel_rfl) (by kernel_rfl) (fun _ _ _ h => h) (Or.inl ⟨by rfl, ?_⟩) (by assumption) ?_
      rotate_left
      · intro w hSw; (try dsimp only at hSw); go_simp
        first | done | with_reducible rfl
      try simp only [Act.put, List.setIfInBounds_toArray, List.set_cons_zero, List.set_cons_succ]
      refine wpAnyN_ready (rs := [13]) (by kernel_rfl) (by simp) ?_
      refine AllReadyN.held rfl (by rfl) (fun K hK => ?_) AllReadyN.nil
      go_simp
      refine (rdue_calls _ _ _ _ _ _ _ _ _ _ _ _ _ D (H.out.later (HL34.out.trans (HLC.out.trans (HL.out.trans (by first | assumption | (repeat (first | assumption | exact Later.refl _ | apply Later.drew | refine Later.alloc ?_ _))))))) 0 (D.now + k)).mono ?_
      rintro e w2 ⟨rfl, b2⟩
      rw [HD.out]
      have l2 : Later wr w2 := Later.trans (by first | assumption | (repeat (first | assumption | exact Later.refl _ | apply Later.drew | refine Later.alloc ?_ _))) b2
      clear b2
      refine hK.out _ _ ?_ (fun hHeld => ?_)
      · exact HT1.out _ (by first | assumption | (repeat (first | assumption | exact Later.refl _ | apply Later.drew | refine Later.alloc ?_ _)))
      clear hK K
      try simp only [Act.put, List.setIfInBounds_toArray, List.set_cons_zero, List.set_cons_succ]
      refine wpAnyN_takeD (some 90) (by rfl) (i := 14) (oi := _) (v := ?_) rfl (by kernel_rfl) (by kernel_rfl) (by kernel_rfl) (by kernel_rfl) (fun _ _ _ h => h) (Or.inl ⟨by rfl, ?_⟩) (by assumption) ?_
      rotate_left
      · intro w hSw; (try dsimp only at hSw); go_simp
        first | done | with_reducible rfl
      try simp only [Act.put, List.setIfInBounds_toArray, List.set_cons_zero, List.set_cons_succ]
      refine wpAnyN_takeD (some 11) (by rfl) (i := 15) (oi := _) (v := ?_) rfl (by kernel_rfl) (by kernel_rfl) (by kernel_rfl) (by kernel_rfl) (fun _ _ _ h => h) (Or.inl ⟨by rfl, ?_⟩) (by assumption) ?_
      rotate_left
      · intro w hSw; (try dsimp only at hSw); go_simp
        first | done | with_reducible rfl
      try simp only [Act.put, List.setIfInBounds_toArray, List.set_cons_zero, List.set_cons_succ]
      refine wpAnyN_done (by kernel_rfl) ?_ _
      clear hHeld
      have HL2 := hide (HL.out.trans l2)
      clear l2
      rw [← HST.out]
      go_wp2_with fail
      exact ⟨⟨k+1, by omega, rfl, by go_num, HL2.out⟩, by simp [intOf]; omega⟩
    · have hk3 : ¬ (k : Int) ≤ L := by omega
      have t1 : decide ((k : Int) ≤ L) = false := by simpa using hk3
      have hkL : k = L + 1 := by omega
      subst hkL
      have HLC0 := hide (HLC.out.trans HL.out)
      have HDC0 := hide (HDC.out.trans HL.out)
      clear HLC HDC HT1x
      have HLC := HLC0; have HDC := HDC0
      clear HLC0 HDC0
      obtain ⟨nv, hnv⟩ : ∃ z, lev D r0 0 (L + 1) = z := ⟨_, rfl⟩
      have HNV := hide hnv
      rw [hnv]
      clear hnv
      have hgA := (RA.out.later (HAW.out.trans HL.out))
      have o1 := hgA.cell (i := 0) rfl; have o2 := hgA.cell (i := 1) rfl; have o3 := hgA.cell (i := 2) rfl; have o4 := hgA.cell (i := 3) rfl
      clear hgA
      go_upto_region 19 with fail
      obtain ⟨wW, hwW⟩ : ∃ wW, wW = wr.alloc (Obj.cells #[Value.bool s10, Value.slice P10 q10 e10, Value.bool false, Value.slice P10' q10' e10'] 37) := ⟨_, rfl⟩
      obtain ⟨gW, hgW⟩ : ∃ gW, gW = wr.heap.size := ⟨_, rfl⟩
      have bwW : Later wr wW := by rw [hwW]; exact (Later.refl _).alloc _
      have rgW : Row wW gW 37 [.bool s10, .slice P10 q10 e10, .bool false, .slice P10' q10' e10'] := by rw [hwW, hgW]; exact Row.new _ _ _
      rw [← hwW, ← hgW]
      have HGW : Hid (wr.heap.size ≤ gW) := hide (by rw [hgW]; exact Nat.le_refl _)
      have RW := hide rgW; have HLV := hide bwW; have O10w := hide (OwnR.later O10b.out (HAW.out.trans (HL.out.trans bwW)))
      clear hwW hgW rgW bwW o1 o2 o3 o4
      obtain ⟨z1, hz1⟩ : ∃ z, z = zc + (if q = 0 then x.s else 0) := ⟨_, rfl⟩
      obtain ⟨z2, hz2⟩ : ∃ z, z = z1 + (if 0 ≤ nv then x.h else -x.b) := ⟨_, rfl⟩
      have hxx := HXI.out
      have hms : Sized x.s 13 ∧ Sized x.h 13 ∧ Sized x.b 13 := ⟨HM.out.1.1.sized, HM.out.2.1.1.sized, HM.out.2.2.1.sized⟩
      have hz1s : Sized z1 1500 := by
        rw [hz1]; split
        · exact (HS10.out.add hms.1).mono (by omega)
        · exact (HS10.out.add (Sized.zero 0)).mono (by omega)
      have hz2s : Sized z2 3000 := by
        rw [hz2]; split
        · exact (hz1s.add hms.2.1).mono (by omega)
        · rw [← Rat.sub_eq_add_neg]; exact (hz1s.sub hms.2.2).mono (by omega)
      have HZ1 := hide hz1; have HZ2 := hide hz2; have HSZ1 := hide hz1s; have HSZ2 := hide hz2s
      clear hz1 hz2 hms hz1s hz2s hxx
      have cx3 := Later.cell (HLC.out.trans HLV.out) HC0.out
      have cx4 := Later.cell (HLC.out.trans HLV.out) HCL.out
      rw [Nat.add_zero] at cx3
      go_upto_if 98 with fail
      go_cut [] (fun wx => WantAt wr gW z1 wx)
      case first =>
        by_cases hq0 : q = 0
        · have t1 : (q == 0) = true := by simp [hq0]
          have HZQ : Hid (zc + x.s = z1) := hide (by rw [HZ1.out, if_pos hq0])
          have R9 := RW; have O9 := O10w; have HS9 := HS10; have HLW := HLV
          obtain ⟨s9, hs9⟩ : ∃ s, s = s10 := ⟨_, rfl⟩; obtain ⟨P9, hP9⟩ : ∃ s, s = P10 := ⟨_, rfl⟩; obtain ⟨q9, hq9⟩ : ∃ s, s = q10 := ⟨_, rfl⟩; obtain ⟨e9, he9⟩ : ∃ s, s = e10 := ⟨_, rfl⟩
          obtain ⟨P9', hP9'⟩ : ∃ s, s = P10' := ⟨_, rfl⟩; obtain ⟨q9', hq9'⟩ : ∃ s, s = q10' := ⟨_, rfl⟩; obtain ⟨e9', he9'⟩ : ∃ s, s = e10' := ⟨_, rfl⟩
          obtain ⟨wc0, hwc0⟩ : ∃ W, W = wW := ⟨_, rfl⟩
          subst hs9 hP9 hq9 he9 hP9' hq9' he9' hwc0
          subst hq0
          go_upto_region 20 with fail
          have HT1 : Hid (∀ w', Later wc0 w' → w'.cell? ⟨w.heap.size, 0, none⟩ = some (.slice (some ⟨b1, off1, none⟩) n1 c1) ∧ w'.cell? ⟨w.heap.size, 1, none⟩ = some (.int .i64 D.hor) ∧ w'.cell? ⟨w.heap.size, 2, none⟩ = some (.int .i64 D.now) ∧ w'.cell? ⟨w.heap.size, 3, none⟩ = some (.slice A2 n2 c2) ∧ w'.cell? ⟨w.heap.size, 4, none⟩ = some (.slice A3 n3 c3) ∧ w'.cell? ⟨w.heap.size, 5, none⟩ = some (.slice A4 n4 c4) ∧ w'.cell? ⟨gW, 0, none⟩ = some (.bool s9) ∧ w'.cell? ⟨gW, 1, none⟩ = some (.slice P9 q9 e9) ∧ w'.cell? ⟨gW, 2, none⟩ = some (.bool false) ∧ w'.cell? ⟨gW, 3, none⟩ = some (.slice P9' q9' e9') ∧ w'.cell? ⟨b1, off1, none⟩ = some (.bool e1.a) ∧ w'.cell? ⟨b1, off1 + 1, none⟩ = some (.slice e1.A e1.n e1.c) ∧ w'.cell? ⟨b1, off1 + 2, none⟩ = some (.bool e1.a') ∧ w'.cell? ⟨b1, off1 + 3, none⟩ = some (.slice e1.A' e1.n' e1.c')) := hide fun w' hb => by
            have h1 := R0.out.later (HL4.out.trans (HLC.out.trans (HLW.out.trans hb))); have h2 := R9.out.later hb
            have h3 := HLC.out.trans (HLW.out.trans hb)
            obtain ⟨x0, x1, x2, x3, x4, x5, x6, x7, x8, x9, x10, x11⟩ := HX.out
            exact ⟨h1.cell rfl, h1.cell rfl, h1.cell rfl, h1.cell rfl, h1.cell rfl, h1.cell rfl, h2.cell rfl, h2.cell rfl, h2.cell rfl, h2.cell rfl, Later.cell h3 (by simpa [Nat.add_assoc] using x0), Later.cell h3 (by simpa [Nat.add_assoc] using x1), Later.cell h3 (by simpa [Nat.add_assoc] using x2), Later.cell h3 (by simpa [Nat.add_assoc] using x3)⟩
          have hmx : Tryz.prog.follows .mixedOrders = true := by kernel_rfl
          refine wp_region_N (fun w' => w'.cell? ⟨w.heap.size, 0, none⟩ = some (.slice (some ⟨b1, off1, none⟩) n1 c1) ∧ w'.cell? ⟨w.heap.size, 1, none⟩ = some (.int .i64 D.hor) ∧ w'.cell? ⟨w.heap.size, 2, none⟩ = some (.int .i64 D.now) ∧ w'.cell? ⟨w.heap.size, 3, none⟩ = some (.slice A2 n2 c2) ∧ w'.cell? ⟨w.heap.size, 4, none⟩ = some (.slice A3 n3 c3) ∧ w'.cell? ⟨w.heap.size, 5, none⟩ = some (.slice A4 n4 c4) ∧ w'.cell? ⟨gW, 0, none⟩ = some (.bool s9) ∧ w'.cell? ⟨gW, 1, none⟩ = some (.slice P9 q9 e9) ∧ w'.cell? ⟨gW, 2, none⟩ = some (.bool false) ∧ w'.cell? ⟨gW, 3, none⟩ = some (.slice P9' q9' e9') ∧ w'.cell? ⟨b1, off1, none⟩ = some (.bool e1.a) ∧ w'.cell? ⟨b1, off1 + 1, none⟩ = some (.slice e1.A e1.n e1.c) ∧ w'.cell? ⟨b1, off1 + 2, none⟩ = some (.bool e1.a') ∧ w'.cell? ⟨b1, off1 + 3, none⟩ = some (.slice e1.A' e1.n' e1.c')) [7] hmx (HT1.out _ (by first | assumption | (repeat (first | assumption | exact Later.refl _ | apply Later.drew | refine Later.alloc ?_ _)))) (fun hHeld => ?_)
          refine wpAnyN_takeD (some 99) (by rfl) (i := 0) (oi := _) (v := ?_) rfl (by kernel_rfl) (by kernel_rfl) (by kernel_rfl) (by kernel_rfl) (fun _ _ _ h => h) (Or.inl ⟨by rfl, ?_⟩) (by assumption) ?_
          rotate_left
          · intro w hSw; (try dsimp only at hSw); go_simp
            first | done | with_reducible rfl
          try simp only [Act.put, List.setIfInBounds_toArray, List.set_cons_zero, List.set_cons_succ]
          refine wpAnyN_takeD (some 100) (by rfl) (i := 1) (oi := _) (v := ?_) rfl (by kernel_rfl) (by kernel_rfl) (by kernel_rfl) (by kernel_rfl) (fun _ _ _ h => h) (Or.inl ⟨by rfl, ?_⟩) (by assumption) ?_
          rotate_left
          · intro w hSw; (try dsimp only at hSw); go_simp
            first | done | with_reducible rfl
          try simp only [Act.put, List.setIfInBounds_toArray, List.set_cons_zero, List.set_cons_succ]
          refine wpAnyN_takeD (some 101) (by rfl) (i := 2) (oi := _) (v := ?_) rfl (by kernel_rfl) (by kernel_rfl) (by kernel_rfl) (by kernel_rfl) (fun _ _ _ h => h) (Or.inl ⟨by rfl, ?_⟩) (by assumption) ?_
          rotate_left
          · intro w hSw; (try dsimp only at hSw); go_simp
            first | done | with_reducible rfl
          try simp only [Act.put, List.setIfInBounds_toArray, List.set_cons_zero, List.set_cons_succ]
          refine wpAnyN_takeD (some 102) (by rfl) (i := 3) (oi := _) (v := ?_) rfl (by kernel_rfl) (by kernel_rfl) (by kernel_rfl) (by kernel_rfl) (fun _ _ _ h => h) (Or.inl ⟨by rfl, ?_⟩) (by assumption) ?_
          rotate_left
          · intro w hSw; (try dsimp only at hSw); go_simp
            first | done | with_reducible rfl
          try simp only [Act.put, List.setIfInBounds_toArray, List.set_cons_zero, List.set_cons_succ]
          refine wpAnyN_takeD (some 103) (by rfl) (i := 4) (oi := _) (v := ?_) rfl (by kernel_rfl) (by kernel_rfl) (by kernel_rfl) (by kernel_rfl) (fun _ _ _ h => h) (Or.inl ⟨by rfl, ?_⟩) (by assumption) ?_
          rotate_left
          · intro w hSw; (try dsimp only at hSw); go_simp
            first | done | with_reducible rfl
          try simp only [Act.put, List.setIfInBounds_toArray, List.set_cons_zero, List.set_cons_succ]
          refine wpAnyN_takeD (some 104) (by rfl) (i := 5) (oi := _) (v := ?_) rfl (by kernel_rfl) (by kernel_rfl) (by kernel_rfl) (by kernel_rfl) (fun _ _ _ h => h) (Or.inl ⟨by rfl, ?_⟩) (by assumption) ?_
          rotate_left
          · intro w hSw; (try dsimp only at hSw); go_simp
            first | done | with_reducible rfl
          try simp only [Act.put, List.setIfInBounds_toArray, List.set_cons_zero, List.set_cons_succ]
          refine wpAnyN_ready (rs := [6]) (by kernel_rfl) (by simp) ?_
          refine AllReadyN.held rfl (by rfl) (fun K hK => ?_) AllReadyN.nil
          go_simp
          refine (qadd_calls _ _ _ zc x.s 1000 12 (RawR.later (OwnR.raw O9.out HS9.out) (by first | assumption | (repeat (first | assumption | exact Later.refl _ | apply Later.drew | refine Later.alloc ?_ _)))) (RawR.later (ENum.raw HM.out.1) (HLC.out.trans (HLW.out.trans (by first | assumption | (repeat (first | assumption | exact Later.refl _ | apply Later.drew | refine Later.alloc ?_ _)))))) (by omega)).mono ?_
          rintro e w20 ⟨v20, rfl, o20, b20⟩
          obtain ⟨s20, P20, q20, e20, P20', q20', e20', rfl, o20⟩ := o20.open_; have O20 := hide o20; clear o20
          have l20 : Later wc0 w20 := Later.trans (by first | assumption | (repeat (first | assumption | exact Later.refl _ | apply Later.drew | refine Later.alloc ?_ _))) b20
          clear b20
          have ryy := R9.out.later l20
          have y0 := ryy.cell (i := 0) rfl; have y1 := ryy.cell (i := 1) rfl; have y2 := ryy.cell (i := 2) rfl; have y3 := ryy.cell (i := 3) rfl; have z0 := ryy.frozen 0
          have yz1 := ryy.frozen 1; have yz2 := ryy.frozen 2; have yz3 := ryy.frozen 3
          have RYY := hide ryy
          clear ryy
          refine hK.out _ _ ?_ (fun hHeld => ?_)
          · exact HT1.out _ (by first | assumption | (repeat (first | assumption | exact Later.refl _ | apply Later.drew | refine Later.alloc ?_ _)))
          clear hK K
          try simp only [Act.put, List.setIfInBounds_toArray, List.set_cons_zero, List.set_cons_succ]
          refine wpAnyN_ready (rs := [7]) (by kernel_rfl) (by simp) ?_
          refine AllReadyN.free rfl (by rfl) (by kernel_rfl) (fun K hK => ?_) AllReadyN.nil
          go_simp
          refine hK.out _ _ ?_
          clear hK K
          try simp only [Act.put, List.setIfInBounds_toArray, List.set_cons_zero, List.set_cons_succ]
          refine wpAnyN_done (by kernel_rfl) ?_ _
          have oy := Only.four gW w20 (.bool s20) (.slice P20 q20 e20) (.bool false) (.slice P20' q20' e20')
          have HE1 := hide ((((RYY.out.set_ 0 (.bool s20)).set_ 1 (.slice P20 q20 e20)).set_ 2 (.bool false)).set_ 3 (.slice P20' q20' e20'))
          have HE2 := hide (O20.out.other oy RYY.out)
          have HE3 := hide ((HLW.out.trans l20).only oy HGW.out)
          clear hHeld y0 y1 y2 y3 z0 yz1 yz2 yz3 oy l20 RYY
          go_wp2_with fail
          go_meet
          exact ⟨_, _, _, _, _, _, _, HE1.out, by rw [← HZQ.out]; exact HE2.out.at0, HE3.out⟩
        · have t1 : (q == 0) = false := by simpa using hq0
          have HZQ : Hid (zc = z1) := hide (by rw [HZ1.out, if_neg hq0]; grind)
          go_wp2_with fail
          go_meet
          exact ⟨_, _, _, _, _, _, _, RW.out, by rw [← HZQ.out]; exact O10w.out, HLV.out⟩
      case rest =>
        clear cx3 cx4 RW O10w HLV
        obtain ⟨s9, P9, q9, e9, P9', q9', e9', r9, o9, hl9⟩ := hcut
        obtain ⟨wc0, hwc0⟩ : ∃ W, W = wc := ⟨_, rfl⟩
        subst hwc0
        have R9 := hide r9; have O9 := hide o9; have HLW := hide hl9
        clear r9 o9 hl9
        have HS9 := HSZ1
        go_upto_if 107 with fail
        go_cut [] (fun wx => WantAt wr gW z2 wx)
        case first =>
          by_cases hn0 : 0 ≤ nv
          · have t1 : decide (0 ≤ nv) = true := by simpa using hn0
            have HZQ : Hid (z1 + x.h = z2) := hide (by rw [HZ2.out, if_pos hn0])
            go_upto_region 22 with fail
            have HT1 : Hid (∀ w', Later wc0 w' → w'.cell? ⟨w.heap.size, 0, none⟩ = some (.slice (some ⟨b1, off1, none⟩) n1 c1) ∧ w'.cell? ⟨w.heap.size, 1, none⟩ = some (.int .i64 D.hor) ∧ w'.cell? ⟨w.heap.size, 2, none⟩ = some (.int .i64 D.now) ∧ w'.cell? ⟨w.heap.size, 3, none⟩ = some (.slice A2 n2 c2) ∧ w'.cell? ⟨w.heap.size, 4, none⟩ = some (.slice A3 n3 c3) ∧ w'.cell? ⟨w.heap.size, 5, none⟩ = some (.slice A4 n4 c4) ∧ w'.cell? ⟨gW, 0, none⟩ = some (.bool s9) ∧ w'.cell? ⟨gW, 1, none⟩ = some (.slice P9 q9 e9) ∧ w'.cell? ⟨gW, 2, none⟩ = some (.bool false) ∧ w'.cell? ⟨gW, 3, none⟩ = some (.slice P9' q9' e9') ∧ w'.cell? ⟨b1, off1 + 4, none⟩ = some (.bool e2.a) ∧ w'.cell? ⟨b1, off1 + 5, none⟩ = some (.slice e2.A e2.n e2.c) ∧ w'.cell? ⟨b1, off1 + 6, none⟩ = some (.bool e2.a') ∧ w'.cell? ⟨b1, off1 + 7, none⟩ = some (.slice e2.A' e2.n' e2.c')) := hide fun w' hb => by
              have h1 := R0.out.later (HL4.out.trans (HLC.out.trans (HLW.out.trans hb))); have h2 := R9.out.later hb
              have h3 := HLC.out.trans (HLW.out.trans hb)
              obtain ⟨x0, x1, x2, x3, x4, x5, x6, x7, x8, x9, x10, x11⟩ := HX.out
              exact ⟨h1.cell rfl, h1.cell rfl, h1.cell rfl, h1.cell rfl, h1.cell rfl, h1.cell rfl, h2.cell rfl, h2.cell rfl, h2.cell rfl, h2.cell rfl, Later.cell h3 (by simpa [Nat.add_assoc] using x4), Later.cell h3 (by simpa [Nat.add_assoc] using x5), Later.cell h3 (by simpa [Nat.add_assoc] using x6), Later.cell h3 (by simpa [Nat.add_assoc] using x7)⟩
            have hmx : Tryz.prog.follows .mixedOrders = true := by kernel_rfl
            refine wp_region_N (fun w' => w'.cell? ⟨w.heap.size, 0, none⟩ = some (.slice (some ⟨b1, off1, none⟩) n1 c1) ∧ w'.cell? ⟨w.heap.size, 1, none⟩ = some (.int .i64 D.hor) ∧ w'.cell? ⟨w.heap.size, 2, none⟩ = some (.int .i64 D.now) ∧ w'.cell? ⟨w.heap.size, 3, none⟩ = some (.slice A2 n2 c2) ∧ w'.cell? ⟨w.heap.size, 4, none⟩ = some (.slice A3 n3 c3) ∧ w'.cell? ⟨w.heap.size, 5, none⟩ = some (.slice A4 n4 c4) ∧ w'.cell? ⟨gW, 0, none⟩ = some (.bool s9) ∧ w'.cell? ⟨gW, 1, none⟩ = some (.slice P9 q9 e9) ∧ w'.cell? ⟨gW, 2, none⟩ = some (.bool false) ∧ w'.cell? ⟨gW, 3, none⟩ = some (.slice P9' q9' e9') ∧ w'.cell? ⟨b1, off1 + 4, none⟩ = some (.bool e2.a) ∧ w'.cell? ⟨b1, off1 + 5, none⟩ = some (.slice e2.A e2.n e2.c) ∧ w'.cell? ⟨b1, off1 + 6, none⟩ = some (.bool e2.a') ∧ w'.cell? ⟨b1, off1 + 7, none⟩ = some (.slice e2.A' e2.n' e2.c')) [7] hmx (HT1.out _ (by first | assumption | (repeat (first | assumption | exact Later.refl _ | apply Later.drew | refine Later.alloc ?_ _)))) (fun hHeld => ?_)
            refine wpAnyN_takeD (some 108) (by rfl) (i := 0) (oi := _) (v := ?_) rfl (by kernel_rfl) (by kernel_rfl) (by kernel_rfl) (by kernel_rfl) (fun _ _ _ h => h) (Or.inl ⟨by rfl, ?_⟩) (by assumption) ?_
            rotate_left
            · intro w hSw; (try dsimp only at hSw); go_simp
              first | done | with_reducible rfl
            try simp only [Act.put, List.setIfInBounds_toArray, List.set_cons_zero, List.set_cons_succ]
            refine wpAnyN_takeD (some 109) (by rfl) (i := 1) (oi := _) (v := ?_) rfl (by kernel_rfl) (by kernel_rfl) (by kernel_rfl) (by kernel_rfl) (fun _ _ _ h => h) (Or.inl ⟨by rfl, ?_⟩) (by assumption) ?_
            rotate_left
            · intro w hSw; (try dsimp only at hSw); go_simp
              first | done | with_reducible rfl
            try simp only [Act.put, List.setIfInBounds_toArray, List.set_cons_zero, List.set_cons_succ]
            refine wpAnyN_takeD (some 110) (by rfl) (i := 2) (oi := _) (v := ?_) rfl (by kernel_rfl) (by kernel_rfl) (by kernel_rfl) (by kernel_rfl) (fun _ _ _ h => h) (Or.inl ⟨by rfl, ?_⟩) (by assumption) ?_
            rotate_left
            · intro w hSw; (try dsimp only at hSw); go_simp
              first | done | with_reducible rfl
            try simp only [Act.put, List.setIfInBounds_toArray, List.set_cons_zero, List.set_cons_succ]
            refine wpAnyN_takeD (some 111) (by rfl) (i := 3) (oi := _) (v := ?_) rfl (by kernel_rfl) (by kernel_rfl) (by kernel_rfl) (by kernel_rfl) (fun _ _ _ h => h) (Or.inl ⟨by rfl, ?_⟩) (by assumption) ?_
            rotate_left
            · intro w hSw; (try dsimp only at hSw); go_simp
              first | done | with_reducible rfl
            try simp only [Act.put, List.setIfInBounds_toArray, List.set_cons_zero, List.set_cons_succ]
            refine wpAnyN_takeD (some 112) (by rfl) (i := 4) (oi := _) (v := ?_) rfl (by kernel_rfl) (by kernel_rfl) (by kernel_rfl) (by kernel_rfl) (fun _ _ _ h => h) (Or.inl ⟨by rfl, ?_⟩) (by assumption) ?_
            rotate_left
            · intro w hSw; (try dsimp only at hSw); go_simp
              first | done | with_reducible rfl
            try simp only [Act.put, List.setIfInBounds_toArray, List.set_cons_zero, List.set_cons_succ]
            refine wpAnyN_takeD (some 113) (by rfl) (i := 5) (oi := _) (v := ?_) rfl (by kernel_rfl) (by kernel_rfl) (by kernel_rfl) (by kernel_rfl) (fun _ _ _ h => h) (Or.inl ⟨by rfl, ?_⟩) (by assumption) ?_
            rotate_left
            · intro w hSw; (try dsimp only at hSw); go_simp
              first | done | with_reducible rfl
            try simp only [Act.put, List.setIfInBounds_toArray, List.set_cons_zero, List.set_cons_succ]
            refine wpAnyN_ready (rs := [6]) (by kernel_rfl) (by simp) ?_
            refine AllReadyN.held rfl (by rfl) (fun K hK => ?_) AllReadyN.nil
            go_simp
            refine (qadd_calls _ _ _ z1 x.h 1500 12 (RawR.later (OwnR.raw O9.out HS9.out) (by first | assumption | (repeat (first | assumption | exact Later.refl _ | apply Later.drew | refine Later.alloc ?_ _)))) (RawR.later (ENum.raw HM.out.2.1) (HLC.out.trans (HLW.out.trans (by first | assumption | (repeat (first | assumption | exact Later.refl _ | apply Later.drew | refine Later.alloc ?_ _)))))) (by omega)).mono ?_
            rintro e w20 ⟨v20, rfl, o20, b20⟩
            obtain ⟨s20, P20, q20, e20, P20', q20', e20', rfl, o20⟩ := o20.open_; have O20 := hide o20; clear o20
            have l20 : Later wc0 w20 := Later.trans (by first | assumption | (repeat (first | assumption | exact Later.refl _ | apply Later.drew | refine Later.alloc ?_ _))) b20
            clear b20
            have ryy := R9.out.later l20
            have y0 := ryy.cell (i := 0) rfl; have y1 := ryy.cell (i := 1) rfl; have y2 := ryy.cell (i := 2) rfl; have y3 := ryy.cell (i := 3) rfl; have z0 := ryy.frozen 0
            have yz1 := ryy.frozen 1; have yz2 := ryy.frozen 2; have yz3 := ryy.frozen 3
            have RYY := hide ryy
            clear ryy
            refine hK.out _ _ ?_ (fun hHeld => ?_)
            · exact HT1.out _ (by first | assumption | (repeat (first | assumption | exact Later.refl _ | apply Later.drew | refine Later.alloc ?_ _)))
            clear hK K
            try simp only [Act.put, List.setIfInBounds_toArray, List.set_cons_zero, List.set_cons_succ]
            refine wpAnyN_ready (rs := [7]) (by kernel_rfl) (by simp) ?_
            refine AllReadyN.free rfl (by rfl) (by kernel_rfl) (fun K hK => ?_) AllReadyN.nil
            go_simp
            refine hK.out _ _ ?_
            clear hK K
            try simp only [Act.put, List.setIfInBounds_toArray, List.set_cons_zero, List.set_cons_succ]
            refine wpAnyN_done (by kernel_rfl) ?_ _
            have oy := Only.four gW w20 (.bool s20) (.slice P20 q20 e20) (.bool false) (.slice P20' q20' e20')
            have HE1 := hide ((((RYY.out.set_ 0 (.bool s20)).set_ 1 (.slice P20 q20 e20)).set_ 2 (.bool false)).set_ 3 (.slice P20' q20' e20'))
            have HE2 := hide (O20.out.other oy RYY.out)
            have HE3 := hide ((HLW.out.trans l20).only oy HGW.out)
            clear hHeld y0 y1 y2 y3 z0 yz1 yz2 yz3 oy l20 RYY
            go_wp2_with fail
            go_meet
            exact ⟨_, _, _, _, _, _, _, HE1.out, by rw [← HZQ.out]; exact HE2.out.at0, HE3.out⟩
          · have t1 : decide (0 ≤ nv) = false := by simpa using hn0
            have HZQ : Hid (z1 - x.b = z2) := hide (by rw [HZ2.out, if_neg hn0, Rat.sub_eq_add_neg])
            go_upto_region 23 with fail
            have HT1 : Hid (∀ w', Later wc0 w' → w'.cell? ⟨w.heap.size, 0, none⟩ = some (.slice (some ⟨b1, off1, none⟩) n1 c1) ∧ w'.cell? ⟨w.heap.size, 1, none⟩ = some (.int .i64 D.hor) ∧ w'.cell? ⟨w.heap.size, 2, none⟩ = some (.int .i64 D.now) ∧ w'.cell? ⟨w.heap.size, 3, none⟩ = some (.slice A2 n2 c2) ∧ w'.cell? ⟨w.heap.size, 4, none⟩ = some (.slice A3 n3 c3) ∧ w'.cell? ⟨w.heap.size, 5, none⟩ = some (.slice A4 n4 c4) ∧ w'.cell? ⟨gW, 0, none⟩ = some (.bool s9) ∧ w'.cell? ⟨gW, 1, none⟩ = some (.slice P9 q9 e9) ∧ w'.cell? ⟨gW, 2, none⟩ = some (.bool false) ∧ w'.cell? ⟨gW, 3, none⟩ = some (.slice P9' q9' e9') ∧ w'.cell? ⟨b1, off1 + 8, none⟩ = some (.bool e3.a) ∧ w'.cell? ⟨b1, off1 + 9, none⟩ = some (.slice e3.A e3.n e3.c) ∧ w'.cell? ⟨b1, off1 + 10, none⟩ = some (.bool e3.a') ∧ w'.cell? ⟨b1, off1 + 11, none⟩ = some (.slice e3.A' e3.n' e3.c')) := hide fun w' hb => by
              have h1 := R0.out.later (HL4.out.trans (HLC.out.trans (HLW.out.trans hb))); have h2 := R9.out.later hb
              have h3 := HLC.out.trans (HLW.out.trans hb)
              obtain ⟨x0, x1, x2, x3, x4, x5, x6, x7, x8, x9, x10, x11⟩ := HX.out
              exact ⟨h1.cell rfl, h1.cell rfl, h1.cell rfl, h1.cell rfl, h1.cell rfl, h1.cell rfl, h2.cell rfl, h2.cell rfl, h2.cell rfl, h2.cell rfl, Later.cell h3 (by simpa [Nat.add_assoc] using x8), Later.cell h3 (by simpa [Nat.add_assoc] using x9), Later.cell h3 (by simpa [Nat.add_assoc] using x10), Later.cell h3 (by simpa [Nat.add_assoc] using x11)⟩
            have hmx : Tryz.prog.follows .mixedOrders = true := by kernel_rfl
            refine wp_region_N (fun w' => w'.cell? ⟨w.heap.size, 0, none⟩ = some (.slice (some ⟨b1, off1, none⟩) n1 c1) ∧ w'.cell? ⟨w.heap.size, 1, none⟩ = some (.int .i64 D.hor) ∧ w'.cell? ⟨w.heap.size, 2, none⟩ = some (.int .i64 D.now) ∧ w'.cell? ⟨w.heap.size, 3, none⟩ = some (.slice A2 n2 c2) ∧ w'.cell? ⟨w.heap.size, 4, none⟩ = some (.slice A3 n3 c3) ∧ w'.cell? ⟨w.heap.size, 5, none⟩ = some (.slice A4 n4 c4) ∧ w'.cell? ⟨gW, 0, none⟩ = some (.bool s9) ∧ w'.cell? ⟨gW, 1, none⟩ = some (.slice P9 q9 e9) ∧ w'.cell? ⟨gW, 2, none⟩ = some (.bool false) ∧ w'.cell? ⟨gW, 3, none⟩ = some (.slice P9' q9' e9') ∧ w'.cell? ⟨b1, off1 + 8, none⟩ = some (.bool e3.a) ∧ w'.cell? ⟨b1, off1 + 9, none⟩ = some (.slice e3.A e3.n e3.c) ∧ w'.cell? ⟨b1, off1 + 10, none⟩ = some (.bool e3.a') ∧ w'.cell? ⟨b1, off1 + 11, none⟩ = some (.slice e3.A' e3.n' e3.c')) [7] hmx (HT1.out _ (by first | assumption | (repeat (first | assumption | exact Later.refl _ | apply Later.drew | refine Later.alloc ?_ _)))) (fun hHeld => ?_)
            refine wpAnyN_takeD (some 115) (by rfl) (i := 0) (oi := _) (v := ?_) rfl (by kernel_rfl) (by kernel_rfl) (by kernel_rfl) (by kernel_rfl) (fun _ _ _ h => h) (Or.inl ⟨by rfl, ?_⟩) (by assumption) ?_
            rotate_left
            · intro w hSw; (try dsimp only at hSw); go_simp
              first | done | with_reducible rfl
            try simp only [Act.put, List.setIfInBounds_toArray, List.set_cons_zero, List.set_cons_succ]
            refine wpAnyN_takeD (some 116) (by rfl) (i := 1) (oi := _) (v := ?_) rfl (by kernel_rfl) (by kernel_rfl) (by kernel_rfl) (by kernel_rfl) (fun _ _ _ h => h) (Or.inl ⟨by rfl, ?_⟩) (by assumption) ?_
            rotate_left
            · intro w hSw; (try dsimp only at hSw); go_simp
              first | done | with_reducible rfl
            try simp only [Act.put, List.setIfInBounds_toArray, List.set_cons_zero, List.set_cons_succ]
            refine wpAnyN_takeD (some 117) (by rfl) (i := 2) (oi := _) (v := ?_) rfl (by kernel_rfl) (by kernel_rfl) (by kernel_rfl) (by kernel_rfl) (fun _ _ _ h => h) (Or.inl ⟨by rfl, ?_⟩) (by assumption) ?_
            rotate_left
            · intro w hSw; (try dsimp only at hSw); go_simp
              first | done | with_reducible rfl
            try simp only [Act.put, List.setIfInBounds_toArray, List.set_cons_zero, List.set_cons_succ]
            refine wpAnyN_takeD (some 118) (by rfl) (i := 3) (oi := _) (v := ?_) rfl (by kernel_rfl) (by kernel_rfl) (by kernel_rfl) (by kernel_rfl) (fun _ _ _ h => h) (Or.inl ⟨by rfl, ?_⟩) (by assumption) ?_
            rotate_left
            · intro w hSw; (try dsimp only at hSw); go_simp
              first | done | with_reducible rfl
            try simp only [Act.put, List.setIfInBounds_toArray, List.set_cons_zero, List.set_cons_succ]
            refine wpAnyN_takeD (some 119) (by rfl) (i := 4) (oi := _) (v := ?_) rfl (by kernel_rfl) (by kernel_rfl) (by kernel_rfl) (by kernel_rfl) (fun _ _ _ h => h) (Or.inl ⟨by rfl, ?_⟩) (by assumption) ?_
            rotate_left
            · intro w hSw; (try dsimp only at hSw); go_simp
              first | done | with_reducible rfl
            try simp only [Act.put, List.setIfInBounds_toArray, List.set_cons_zero, List.set_cons_succ]
            refine wpAnyN_takeD (some 120) (by rfl) (i := 5) (oi := _) (v := ?_) rfl (by kernel_rfl) (by kernel_rfl) (by kernel_rfl) (by kernel_rfl) (fun _ _ _ h => h) (Or.inl ⟨by rfl, ?_⟩) (by assumption) ?_
            rotate_left
            · intro w hSw; (try dsimp only at hSw); go_simp
              first | done | with_reducible rfl
            try simp only [Act.put, List.setIfInBounds_toArray, List.set_cons_zero, List.set_cons_succ]
            refine wpAnyN_ready (rs := [6]) (by kernel_rfl) (by simp) ?_
            refine AllReadyN.held rfl (by rfl) (fun K hK => ?_) AllReadyN.nil
            go_simp
            refine (qsub_calls _ _ _ z1 x.b 1500 12 (RawR.later (OwnR.raw O9.out HS9.out) (by first | assumption | (repeat (first | assumption | exact Later.refl _ | apply Later.drew | refine Later.alloc ?_ _)))) (RawR.later (ENum.raw HM.out.2.2) (HLC.out.trans (HLW.out.trans (by first | assumption | (repeat (first | assumption | exact Later.refl _ | apply Later.drew | refine Later.alloc ?_ _)))))) (by omega)).mono ?_
            rintro e w20 ⟨v20, rfl, o20, b20⟩
            obtain ⟨s20, P20, q20, e20, P20', q20', e20', rfl, o20⟩ := o20.open_; have O20 := hide o20; clear o20
            have l20 : Later wc0 w20 := Later.trans (by first | assumption | (repeat (first | assumption | exact Later.refl _ | apply Later.drew | refine Later.alloc ?_ _))) b20
            clear b20
            have ryy := R9.out.later l20
            have y0 := ryy.cell (i := 0) rfl; have y1 := ryy.cell (i := 1) rfl; have y2 := ryy.cell (i := 2) rfl; have y3 := ryy.cell (i := 3) rfl; have z0 := ryy.frozen 0
            have yz1 := ryy.frozen 1; have yz2 := ryy.frozen 2; have yz3 := ryy.frozen 3
            have RYY := hide ryy
            clear ryy
            refine hK.out _ _ ?_ (fun hHeld => ?_)
            · exact HT1.out _ (by first | assumption | (repeat (first | assumption | exact Later.refl _ | apply Later.drew | refine Later.alloc ?_ _)))
            clear hK K
            try simp only [Act.put, List.setIfInBounds_toArray, List.set_cons_zero, List.set_cons_succ]
            refine wpAnyN_ready (rs := [7]) (by kernel_rfl) (by simp) ?_
            refine AllReadyN.free rfl (by rfl) (by kernel_rfl) (fun K hK => ?_) AllReadyN.nil
            go_simp
            refine hK.out _ _ ?_
            clear hK K
            try simp only [Act.put, List.setIfInBounds_toArray, List.set_cons_zero, List.set_cons_succ]
            refine wpAnyN_done (by kernel_rfl) ?_ _
            have oy := Only.four gW w20 (.bool s20) (.slice P20 q20 e20) (.bool false) (.slice P20' q20' e20')
            have HE1 := hide ((((RYY.out.set_ 0 (.bool s20)).set_ 1 (.slice P20 q20 e20)).set_ 2 (.bool false)).set_ 3 (.slice P20' q20' e20'))
            have HE2 := hide (O20.out.other oy RYY.out)
            have HE3 := hide ((HLW.out.trans l20).only oy HGW.out)
            clear hHeld y0 y1 y2 y3 z0 yz1 yz2 yz3 oy l20 RYY
            go_wp2_with fail
            go_meet
            exact ⟨_, _, _, _, _, _, _, HE1.out, by rw [← HZQ.out]; exact HE2.out.at0, HE3.out⟩
        case rest =>
          clear R9 O9 HLW HS9
          obtain ⟨s9, P9, q9, e9, P9', q9', e9', r9, o9, hl9⟩ := hcut
          obtain ⟨wc0, hwc0⟩ : ∃ W, W = wc := ⟨_, rfl⟩
          subst hwc0
          have R9 := hide r9; have O9 := hide o9; have HLW := hide hl9
          clear r9 o9 hl9
          have HT1 : Hid (∀ w', Later wc0 w' → w'.cell? ⟨bq, offq, none⟩ = some (.slice (some ⟨b0, off0, none⟩) nr cr) ∧ w'.cell? ⟨b0, off0 + L, none⟩ = some (.int .i64 q) ∧ w'.cell? ⟨gD, 0, none⟩ = some (.bool s12) ∧ w'.cell? ⟨gD, 1, none⟩ = some (.slice P12 q12 e12) ∧ w'.cell? ⟨gD, 2, none⟩ = some (.bool false) ∧ w'.cell? ⟨gD, 3, none⟩ = some (.slice P12' q12' e12') ∧ w'.cell? ⟨gW, 0, none⟩ = some (.bool s9) ∧ w'.cell? ⟨gW, 1, none⟩ = some (.slice P9 q9 e9) ∧ w'.cell? ⟨gW, 2, none⟩ = some (.bool false) ∧ w'.cell? ⟨gW, 3, none⟩ = some (.slice P9' q9' e9')) := hide fun w' hb => by
            have h3 := HLC.out.trans (HLW.out.trans hb); have h4 := RD.out.later (HDC.out.trans (HLW.out.trans hb)); have h5 := R9.out.later hb
            exact ⟨by simpa using Later.cell h3 HC0.out, Later.cell h3 HCL.out, h4.cell rfl, h4.cell rfl, h4.cell rfl, h4.cell rfl, h5.cell rfl, h5.cell rfl, h5.cell rfl, h5.cell rfl⟩
          have HLDC := hide (HDC.out.trans HLW.out)
          by_cases hq6 : q = 1000000
          · have t1 : (q == 1000000) = true := by simp [hq6]
            go_upto_region 24 with fail
            have hmx : Tryz.prog.follows .mixedOrders = true := by kernel_rfl
            refine wp_region_N (fun w' => w'.cell? ⟨bq, offq, none⟩ = some (.slice (some ⟨b0, off0, none⟩) nr cr) ∧ w'.cell? ⟨b0, off0 + L, none⟩ = some (.int .i64 q) ∧ w'.cell? ⟨gD, 0, none⟩ = some (.bool s12) ∧ w'.cell? ⟨gD, 1, none⟩ = some (.slice P12 q12 e12) ∧ w'.cell? ⟨gD, 2, none⟩ = some (.bool false) ∧ w'.cell? ⟨gD, 3, none⟩ = some (.slice P12' q12' e12') ∧ w'.cell? ⟨gW, 0, none⟩ = some (.bool s9) ∧ w'.cell? ⟨gW, 1, none⟩ = some (.slice P9 q9 e9) ∧ w'.cell? ⟨gW, 2, none⟩ = some (.bool false) ∧ w'.cell? ⟨gW, 3, none⟩ = some (.slice P9' q9' e9')) [] hmx (HT1.out _ (by first | assumption | (repeat (first | assumption | exact Later.refl _ | apply Later.drew | refine Later.alloc ?_ _)))) (fun hHeld => ?_)
            refine wpAnyN_takeD (some 122) (by rfl) (i := 0) (oi := _) (v := ?_) rfl (by kernel_rfl) (by kernel_rfl) (by kernel_rfl) (by kernel_rfl) (fun _ _ _ h => h) (Or.inl ⟨by rfl, ?_⟩) (by assumption) ?_
            rotate_left
            · intro w hSw; (try dsimp only at hSw); go_simp
              first | done | with_reducible rfl
            try simp only [Act.put, List.setIfInBounds_toArray, List.set_cons_zero, List.set_cons_succ]
            refine wpAnyN_takeD (some 123) (by rfl) (i := 1) (oi := _) (v := ?_) rfl (by kernel_rfl) (by kernel_rfl) (by kernel_rfl) (by kernel_rfl) (fun _ _ _ h => h) (Or.inl ⟨by rfl, ?_⟩) (by assumption) ?_
            rotate_left
            · intro w hSw; (try dsimp only at hSw); go_simp
              first | done | with_reducible rfl
            try simp only [Act.put, List.setIfInBounds_toArray, List.set_cons_zero, List.set_cons_succ]
            refine wpAnyN_takeD (some 124) (by rfl) (i := 2) (oi := _) (v := ?_) rfl (by kernel_rfl) (by kernel_rfl) (by kernel_rfl) (by kernel_rfl) (fun _ _ _ h => h) (Or.inl ⟨by rfl, ?_⟩) (by assumption) ?_
            rotate_left
            · intro w hSw; (try dsimp only at hSw); go_simp
              first | done | with_reducible rfl
            try simp only [Act.put, List.setIfInBounds_toArray, List.set_cons_zero, List.set_cons_succ]
            refine wpAnyN_takeD (some 125) (by rfl) (i := 3) (oi := _) (v := ?_) rfl (by kernel_rfl) (by kernel_rfl) (by kernel_rfl) (by kernel_rfl) (fun _ _ _ h => h) (Or.inl ⟨by rfl, ?_⟩) (by assumption) ?_
            rotate_left
            · intro w hSw; (try dsimp only at hSw); go_simp
              first | done | with_reducible rfl
            try simp only [Act.put, List.setIfInBounds_toArray, List.set_cons_zero, List.set_cons_succ]
            refine wpAnyN_takeD (some 126) (by rfl) (i := 4) (oi := _) (v := ?_) rfl (by kernel_rfl) (by kernel_rfl) (by kernel_rfl) (by kernel_rfl) (fun _ _ _ h => h) (Or.inl ⟨by rfl, ?_⟩) (by assumption) ?_
            rotate_left
            · intro w hSw; (try dsimp only at hSw); go_simp
              first | done | with_reducible rfl
            try simp only [Act.put, List.setIfInBounds_toArray, List.set_cons_zero, List.set_cons_succ]
            refine wpAnyN_takeD (some 127) (by rfl) (i := 5) (oi := _) (v := ?_) rfl (by kernel_rfl) (by kernel_rfl) (by kernel_rfl) (by kernel_rfl) (fun _ _ _ h => h) (Or.inl ⟨by rfl, ?_⟩) (by assumption) ?_
            rotate_left
            · intro w hSw; (try dsimp only at hSw); go_simp
              first | done | with_reducible rfl
            try simp only [Act.put, List.setIfInBounds_toArray, List.set_cons_zero, List.set_cons_succ]
            refine wpAnyN_takeD (some 128) (by rfl) (i := 6) (oi := _) (v := ?_) rfl (by kernel_rfl) (by kernel_rfl) (by kernel_rfl) (by kernel_rfl) (fun _ _ _ h => h) (Or.inl ⟨by rfl, ?_⟩) (by assumption) ?_
            rotate_left
            · intro w hSw; (try dsimp only at hSw); go_simp
              first | done | with_reducible rfl
            try simp only [Act.put, List.setIfInBounds_toArray, List.set_cons_zero, List.set_cons_succ]
            refine wpAnyN_takeD (some 129) (by rfl) (i := 7) (oi := _) (v := ?_) rfl (by kernel_rfl) (by kernel_rfl) (by kernel_rfl) (by kernel_rfl) (fun _ _ _ h => h) (Or.inl ⟨by rfl, ?_⟩) (by assumption) ?_
            rotate_left
            · intro w hSw; (try dsimp only at hSw); go_simp
              first | done | with_reducible rfl
            try simp only [Act.put, List.setIfInBounds_toArray, List.set_cons_zero, List.set_cons_succ]
            refine wpAnyN_takeD (some 130) (by rfl) (i := 8) (oi := _) (v := undef) rfl (by kernel_rfl) (by kernel_rfl) (by kernel_rfl) (by kernel_rfl) (fun _ _ _ h => h) (Or.inr ⟨by rfl, rfl⟩) (by assumption) ?_
            try simp only [Act.put, List.setIfInBounds_toArray, List.set_cons_zero, List.set_cons_succ]
            refine wpAnyN_takeD (some 131) (by rfl) (i := 9) (oi := _) (v := undef) rfl (by kernel_rfl) (by kernel_rfl) (by kernel_rfl) (by kernel_rfl) (fun _ _ _ h => h) (Or.inr ⟨by rfl, rfl⟩) (by assumption) ?_
            try simp only [Act.put, List.setIfInBounds_toArray, List.set_cons_zero, List.set_cons_succ]
            refine wpAnyN_takeD (some 132) (by rfl) (i := 10) (oi := _) (v := undef) rfl (by kernel_rfl) (by kernel_rfl) (by kernel_rfl) (by kernel_rfl) (fun _ _ _ h => h) (Or.inr ⟨by rfl, rfl⟩) (by assumption) ?_
            try simp only [Act.put, List.setIfInBounds_toArray, List.set_cons_zero, List.set_cons_succ]
            refine wpAnyN_takeD (some 133) (by rfl) (i := 11) (oi := _) (v := undef) rfl (by kernel_rfl) (by kernel_rfl) (by kernel_rfl) (by kernel_rfl) (fun _ _ _ h => h) (Or.inr ⟨by rfl, rfl⟩) (by assumption) ?_
            try simp only [Act.put, List.setIfInBounds_toArray, List.set_cons_zero, List.set_cons_succ]
            refine wpAnyN_takeD (some 134) (by rfl) (i := 12) (oi := _) (v := undef) rfl (by kernel_rfl) (by kernel_rfl) (by kernel_rfl) (by kernel_rfl) (fun _ _ _ h => h) (Or.inr ⟨by rfl, rfl⟩) (by assumption) ?_
            try simp only [Act.put, List.setIfInBounds_toArray, List.set_cons_zero, List.set_cons_succ]
            refine wpAnyN_takeD (some 135) (by rfl) (i := 13) (oi := _) (v := undef) rfl (by kernel_rfl) (by kernel_rfl) (by kernel_rfl) (by kernel_rfl) (fun _ _ _ h => h) (Or.inr ⟨by rfl, rfl⟩) (by assumption) ?_
            try simp only [Act.put, List.setIfInBounds_toArray, List.set_cons_zero, List.set_cons_succ]
            refine wpAnyN_takeD (some 136) (by rfl) (i := 14) (oi := _) (v := undef) rfl (by kernel_rfl) (by kernel_rfl) (by kernel_rfl) (by kernel_rfl) (fun _ _ _ h => h) (Or.inr ⟨by rfl, rfl⟩) (by assumption) ?_
            try simp only [Act.put, List.setIfInBounds_toArray, List.set_cons_zero, List.set_cons_succ]
            refine wpAnyN_takeD (some 137) (by rfl) (i := 15) (oi := _) (v := ?_) rfl (by kernel_rfl) (by kernel_rfl) (by kernel_rfl) (by kernel_rfl) (fun _ _ _ h => h) (Or.inl ⟨by rfl, ?_⟩) (by assumption) ?_
            rotate_left
            · intro w hSw; (try dsimp only at hSw); go_simp
              first | done | with_reducible rfl
            try simp only [Act.put, List.setIfInBounds_toArray, List.set_cons_zero, List.set_cons_succ]
            refine wpAnyN_takeD (some 4) (by rfl) (i := 16) (oi := _) (v := ?_) rfl (by kernel_rfl) (by kernel_rfl) (by kernel_rfl) (by kernel_rfl) (fun _ _ _ h => h) (Or.inl ⟨by rfl, ?_⟩) (by assumption) ?_
            rotate_left
            · intro w hSw; (try dsimp only at hSw); go_simp
              first | done | with_reducible rfl
            try simp only [Act.put, List.setIfInBounds_toArray, List.set_cons_zero, List.set_cons_succ]
            refine wpAnyN_done (by kernel_rfl) ?_ _
            clear hHeld
            have HLE := hide (HLW.out.trans (show Later wc0 _ from (Later.refl wc0).drew))
            go_wp2_with fail
            go_ret
            exact ⟨rfl, B0.out.trans (HL4.out.trans (HLC.out.trans HLE.out))⟩
          · have HEQ : Hid (zd = z2) := hide (by
              have h1 := step_cost x (L := L) (q := q) (by rw [HLR.out]; omega) (by rw [List.getD_eq_getElem?_getD, HQL.out]; rfl) (by rw [List.getD_eq_getElem?_getD, HXI.out]; rfl) (by have h9 := HOR.out; have h8 := HHOR.out.1; omega) HUS.out hq6
              rw [HZD.out, HZC.out, HNV.out] at h1
              rw [h1, HZ2.out, HZ1.out]; unfold stepZ; grind)
            have HU2 : us2 = true := by
              rw [← HUS2.out]
              exact step_shape (L := L) (q := q) (by rw [HLR.out]; omega) (by rw [List.getD_eq_getElem?_getD, HQL.out]; rfl) HUS.out hq6
            subst HU2
            have t1 : (q == 1000000) = false := by simpa using hq6
            go_upto_region 24 with fail
            have hmx : Tryz.prog.follows .mixedOrders = true := by kernel_rfl
            refine wp_region_N (fun w' => w'.cell? ⟨bq, offq, none⟩ = some (.slice (some ⟨b0, off0, none⟩) nr cr) ∧ w'.cell? ⟨b0, off0 + L, none⟩ = some (.int .i64 q) ∧ w'.cell? ⟨gD, 0, none⟩ = some (.bool s12) ∧ w'.cell? ⟨gD, 1, none⟩ = some (.slice P12 q12 e12) ∧ w'.cell? ⟨gD, 2, none⟩ = some (.bool false) ∧ w'.cell? ⟨gD, 3, none⟩ = some (.slice P12' q12' e12') ∧ w'.cell? ⟨gW, 0, none⟩ = some (.bool s9) ∧ w'.cell? ⟨gW, 1, none⟩ = some (.slice P9 q9 e9) ∧ w'.cell? ⟨gW, 2, none⟩ = some (.bool false) ∧ w'.cell? ⟨gW, 3, none⟩ = some (.slice P9' q9' e9')) [] hmx (HT1.out _ (by first | assumption | (repeat (first | assumption | exact Later.refl _ | apply Later.drew | refine Later.alloc ?_ _)))) (fun hHeld => ?_)
            refine wpAnyN_takeD (some 122) (by rfl) (i := 0) (oi := _) (v := ?_) rfl (by kernel_rfl) (by kernel_rfl) (by kernel_rfl) (by kernel_rfl) (fun _ _ _ h => h) (Or.inl ⟨by rfl, ?_⟩) (by assumption) ?_
            rotate_left
            · intro w hSw; (try dsimp only at hSw); go_simp
              first | done | with_reducible rfl
            try simp only [Act.put, List.setIfInBounds_toArray, List.set_cons_zero, List.set_cons_succ]
            refine wpAnyN_takeD (some 123) (by rfl) (i := 1) (oi := _) (v := ?_) rfl (by kernel_rfl) (by kernel_rfl) (by kernel_rfl) (by kernel_rfl) (fun _ _ _ h => h) (Or.inl ⟨by rfl, ?_⟩) (by assumption) ?_
            rotate_left
            · intro w hSw; (try dsimp only at hSw); go_simp
              first | done | with_reducible rfl
            try simp only [Act.put, List.setIfInBounds_toArray, List.set_cons_zero, List.set_cons_succ]
            refine wpAnyN_takeD (some 124) (by rfl) (i := 2) (oi := _) (v := ?_) rfl (by kernel_rfl) (by kernel_rfl) (by kernel_rfl) (by kernel_rfl) (fun _ _ _ h => h) (Or.inl ⟨by rfl, ?_⟩) (by assumption) ?_
            rotate_left
            · intro w hSw; (try dsimp only at hSw); go_simp
              first | done | with_reducible rfl
            try simp only [Act.put, List.setIfInBounds_toArray, List.set_cons_zero, List.set_cons_succ]
            refine wpAnyN_takeD (some 125) (by rfl) (i := 3) (oi := _) (v := ?_) rfl (by kernel_rfl) (by kernel_rfl) (by kernel_rfl) (by kernel_rfl) (fun _ _ _ h => h) (Or.inl ⟨by rfl, ?_⟩) (by assumption) ?_
            rotate_left
            · intro w hSw; (try dsimp only at hSw); go_simp
              first | done | with_reducible rfl
            try simp only [Act.put, List.setIfInBounds_toArray, List.set_cons_zero, List.set_cons_succ]
            refine wpAnyN_takeD (some 126) (by rfl) (i := 4) (oi := _) (v := ?_) rfl (by kernel_rfl) (by kernel_rfl) (by kernel_rfl) (by kernel_rfl) (fun _ _ _ h => h) (Or.inl ⟨by rfl, ?_⟩) (by assumption) ?_
            rotate_left
            · intro w hSw; (try dsimp only at hSw); go_simp
              first | done | with_reducible rfl
            try simp only [Act.put, List.setIfInBounds_toArray, List.set_cons_zero, List.set_cons_succ]
            refine wpAnyN_takeD (some 127) (by rfl) (i := 5) (oi := _) (v := ?_) rfl (by kernel_rfl) (by kernel_rfl) (by kernel_rfl) (by kernel_rfl) (fun _ _ _ h => h) (Or.inl ⟨by rfl, ?_⟩) (by assumption) ?_
            rotate_left
            · intro w hSw; (try dsimp only at hSw); go_simp
              first | done | with_reducible rfl
            try simp only [Act.put, List.setIfInBounds_toArray, List.set_cons_zero, List.set_cons_succ]
            refine wpAnyN_takeD (some 128) (by rfl) (i := 6) (oi := _) (v := ?_) rfl (by kernel_rfl) (by kernel_rfl) (by kernel_rfl) (by kernel_rfl) (fun _ _ _ h => h) (Or.inl ⟨by rfl, ?_⟩) (by assumption) ?_
            rotate_left
            · intro w hSw; (try dsimp only at hSw); go_simp
              first | done | with_reducible rfl
            try simp only [Act.put, List.setIfInBounds_toArray, List.set_cons_zero, List.set_cons_succ]
            refine wpAnyN_takeD (some 129) (by rfl) (i := 7) (oi := _) (v := ?_) rfl (by kernel_rfl) (by kernel_rfl) (by kernel_rfl) (by kernel_rfl) (fun _ _ _ h => h) (Or.inl ⟨by rfl, ?_⟩) (by assumption) ?_
            rotate_left
            · intro w hSw; (try dsimp only at hSw); go_simp
              first | done | with_reducible rfl
            try simp only [Act.put, List.setIfInBounds_toArray, List.set_cons_zero, List.set_cons_succ]
            refine wpAnyN_takeD (some 130) (by rfl) (i := 8) (oi := _) (v := ?_) rfl (by kernel_rfl) (by kernel_rfl) (by kernel_rfl) (by kernel_rfl) (fun _ _ _ h => h) (Or.inl ⟨by rfl, ?_⟩) (by assumption) ?_
            rotate_left
            · intro w hSw; (try dsimp only at hSw); go_simp
              first | done | with_reducible rfl
            try simp only [Act.put, List.setIfInBounds_toArray, List.set_cons_zero, List.set_cons_succ]
            refine wpAnyN_takeD (some 131) (by rfl) (i := 9) (oi := _) (v := ?_) rfl (by kernel_rfl) (by kernel_rfl) (by kernel_rfl) (by kernel_rfl) (fun _ _ _ h => h) (Or.inl ⟨by rfl, ?_⟩) (by assumption) ?_
            rotate_left
            · intro w hSw; (try dsimp only at hSw); go_simp
              first | done | with_reducible rfl
            try simp only [Act.put, List.setIfInBounds_toArray, List.set_cons_zero, List.set_cons_succ]
            refine wpAnyN_takeD (some 132) (by rfl) (i := 10) (oi := _) (v := ?_) rfl (by kernel_rfl) (by kernel_rfl) (by kernel_rfl) (by kernel_rfl) (fun _ _ _ h => h) (Or.inl ⟨by rfl, ?_⟩) (by assumption) ?_
            rotate_left
            · intro w hSw; (try dsimp only at hSw); go_simp
              first | done | with_reducible rfl
            try simp only [Act.put, List.setIfInBounds_toArray, List.set_cons_zero, List.set_cons_succ]
            refine wpAnyN_takeD (some 133) (by rfl) (i := 11) (oi := _) (v := ?_) rfl (by kernel_rfl) (by kernel_rfl) (by kernel_rfl) (by kernel_rfl) (fun _ _ _ h => h) (Or.inl ⟨by rfl, ?_⟩) (by assumption) ?_
            rotate_left
            · intro w hSw; (try dsimp only at hSw); go_simp
              first | done | with_reducible rfl
            try simp only [Act.put, List.setIfInBounds_toArray, List.set_cons_zero, List.set_cons_succ]
            refine wpAnyN_ready (rs := [12]) (by kernel_rfl) (by simp) ?_
            refine AllReadyN.held rfl (by rfl) (fun K hK => ?_) AllReadyN.nil
            go_simp
            refine (qplain_calls _ _ z2 3000 (OwnR.raw (OwnR.later O9.out (by first | assumption | (repeat (first | assumption | exact Later.refl _ | apply Later.drew | refine Later.alloc ?_ _)))) HSZ2.out) (by omega)).mono ?_
            rintro e w24 ⟨v24, rfl, o24, b24⟩
            obtain ⟨s24, P24, q24, e24, P24', q24', e24', rfl, o24⟩ := o24.open_; have O24 := hide o24; clear o24
            have l24 : Later wc0 w24 := Later.trans (by first | assumption | (repeat (first | assumption | exact Later.refl _ | apply Later.drew | refine Later.alloc ?_ _))) b24
            clear b24
            refine hK.out _ _ ?_ (fun hHeld => ?_)
            · exact HT1.out _ (by first | assumption | (repeat (first | assumption | exact Later.refl _ | apply Later.drew | refine Later.alloc ?_ _)))
            clear hK K
            try simp only [Act.put, List.setIfInBounds_toArray, List.set_cons_zero, List.set_cons_succ]
            refine wpAnyN_ready (rs := [13]) (by kernel_rfl) (by simp) ?_
            refine AllReadyN.held rfl (by rfl) (fun K hK => ?_) AllReadyN.nil
            go_simp
            refine (qsame_calls _ _ _ zd z2 _ _ 1000 3000 (OwnR.later O12b.out (HLDC.out.trans (by first | assumption | (repeat (first | assumption | exact Later.refl _ | apply Later.drew | refine Later.alloc ?_ _))))) (OwnR.later O24.out (by first | assumption | (repeat (first | assumption | exact Later.refl _ | apply Later.drew | refine Later.alloc ?_ _)))) HS12.out HSZ2.out (by omega) (by omega) true (by rw [HEQ.out]; simp)).mono ?_
            rintro e w25 ⟨rfl, b25⟩
            have l25 : Later wc0 w25 := Later.trans (by first | assumption | (repeat (first | assumption | exact Later.refl _ | apply Later.drew | refine Later.alloc ?_ _))) b25
            clear b25
            refine hK.out _ _ ?_ (fun hHeld => ?_)
            · exact HT1.out _ (by first | assumption | (repeat (first | assumption | exact Later.refl _ | apply Later.drew | refine Later.alloc ?_ _)))
            clear hK K
            try simp only [Act.put, List.setIfInBounds_toArray, List.set_cons_zero, List.set_cons_succ]
            refine wpAnyN_takeD (some 136) (by rfl) (i := 14) (oi := _) (v := ?_) rfl (by kernel_rfl) (by kernel_rfl) (by kernel_rfl) (by kernel_rfl) (fun _ _ _ h => h) (Or.inl ⟨by rfl, ?_⟩) (by assumption) ?_
            rotate_left
            · intro w hSw; (try dsimp only at hSw); go_simp
              first | done | with_reducible rfl
            try simp only [Act.put, List.setIfInBounds_toArray, List.set_cons_zero, List.set_cons_succ]
            refine wpAnyN_takeD (some 137) (by rfl) (i := 15) (oi := _) (v := ?_) rfl (by kernel_rfl) (by kernel_rfl) (by kernel_rfl) (by kernel_rfl) (fun _ _ _ h => h) (Or.inl ⟨by rfl, ?_⟩) (by assumption) ?_
            rotate_left
            · intro w hSw; (try dsimp only at hSw); go_simp
              first | done | with_reducible rfl
            try simp only [Act.put, List.setIfInBounds_toArray, List.set_cons_zero, List.set_cons_succ]
            refine wpAnyN_takeD (some 4) (by rfl) (i := 16) (oi := _) (v := ?_) rfl (by kernel_rfl) (by kernel_rfl) (by kernel_rfl) (by kernel_rfl) (fun _ _ _ h => h) (Or.inl ⟨by rfl, ?_⟩) (by assumption) ?_
            rotate_left
            · intro w hSw; (try dsimp only at hSw); go_simp
              first | done | with_reducible rfl
            try simp only [Act.put, List.setIfInBounds_toArray, List.set_cons_zero, List.set_cons_succ]
            refine wpAnyN_done (by kernel_rfl) ?_ _
            clear hHeld
            have HLE := hide (HLW.out.trans (show Later wc0 _ from l25))
            go_wp2_with fail
            go_ret
            exact ⟨rfl, B0.out.trans (HL4.out.trans (HLC.out.trans HLE.out))⟩
end Go.Proofs.YthncinngkfflgaaGreat
