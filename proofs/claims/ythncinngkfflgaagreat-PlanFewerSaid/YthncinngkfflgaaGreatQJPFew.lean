/- PlanMoves: with all a period on; the plain law and the walk. -/
import Derived.Test.YthncinngkfflgaaGreatRows
import Derived.Test.YthncinngkfflgaaGreatQ12
import Derived.Test.YthncinngkfflgaaGreatQ25
import Derived.SizedLaws
import Derived.WalkKit
import Derived.ProofKit
import Derived.OpenShut
import Derived.ShutString
import Derived.ChangeOld
import Derived.Below
set_option linter.unusedVariables false
set_option linter.unusedSimpArgs false
set_option maxRecDepth 100000
namespace Go.Proofs.YthncinngkfflgaaGreat
open Go.RowKit Go.Shelf
attribute [local go_sem ↓] Go.wp_at_zero Go.wp_at_succ

theorem info_po : (Tryz.prog.info? 65).map (fun i => (i.zero, i.size, i.bytes)) = some (some (.agg #[.int .i64 0, .int .i64 0, .int .i64 0, .int .i64 0]), 4, 32) := by kernel_rfl
theorem oCells_len (x : POrd) : (oCells x).length = 4 := rfl
theorem wpList_append_po {w : World} {ops : Array Oper} {rest : List Oper} {o : Oper} {a : Act} {Q : Exit → Act → World → Prop} (hgd : o.guard = none) (s x : Operand) (ho : o.op = .call { callee := .builtin .append, args := #[s, x], argTypes := #[44, 44] })
    {lo : Nat} {v : Value} {l : List POrd} {g : Nat} (z : POrd) (hs : a.eval s = v) (hown : w.ownsRow lo 65 4 v l.length (l.flatMap oCells)) (hx : a.eval x = .slice (some ⟨g, 0, none⟩) 1 1) (hrow : Row w g 65 (oCells z)) (hlen : l.length ≤ 3000000) (hbase : lo ≤ w.heap.size)
    (h : ∀ v' w', w'.ownsRow lo 65 4 v' (l ++ [z]).length ((l ++ [z]).flatMap oCells) → w.grownBy w' v.ownBlock → (v'.ownBlock = v.ownBlock ∨ v'.ownBlock = some w.heap.size) → wpList Tryz.prog ops Q rest (a.put o.dst v') w') : wpList Tryz.prog ops Q (o :: rest) a w := by
  refine wpList_append_src hgd s x _ ho lo 65 _ 4 32 Tryz.underlying44 info_po rfl (by omega) (by omega) v l.length _ hs hown _ 1 (oCells z) hx (Src.row hrow rfl (by simp [oCells, Value.oneCell'])) (by omega) hbase ?_
  intro v' w' k1 k2 k3
  refine h v' w' ?_ k2 k3
  rw [List.length_append, List.flatMap_append, List.flatMap_cons, List.flatMap_nil, List.append_nil]; exact k1

theorem info_pm : (Tryz.prog.info? 67).map (fun i => (i.zero, i.size, i.bytes)) = some (some (.agg #[.int .i64 0, .int .i64 0, .int .i64 0]), 3, 24) := by kernel_rfl
theorem mCells_len (x : PMk) : (mCells x).length = 3 := rfl
theorem wpList_append_pm {w : World} {ops : Array Oper} {rest : List Oper} {o : Oper} {a : Act} {Q : Exit → Act → World → Prop} (hgd : o.guard = none) (s x : Operand) (ho : o.op = .call { callee := .builtin .append, args := #[s, x], argTypes := #[45, 45] })
    {lo : Nat} {v : Value} {l : List PMk} {g : Nat} (z : PMk) (hs : a.eval s = v) (hown : w.ownsRow lo 67 3 v l.length (l.flatMap mCells)) (hx : a.eval x = .slice (some ⟨g, 0, none⟩) 1 1) (hrow : Row w g 67 (mCells z)) (hlen : l.length ≤ 3000000) (hbase : lo ≤ w.heap.size)
    (h : ∀ v' w', w'.ownsRow lo 67 3 v' (l ++ [z]).length ((l ++ [z]).flatMap mCells) → w.grownBy w' v.ownBlock → (v'.ownBlock = v.ownBlock ∨ v'.ownBlock = some w.heap.size) → wpList Tryz.prog ops Q rest (a.put o.dst v') w') : wpList Tryz.prog ops Q (o :: rest) a w := by
  refine wpList_append_src hgd s x _ ho lo 67 _ 3 24 Tryz.underlying45 info_pm rfl (by omega) (by omega) v l.length _ hs hown _ 1 (mCells z) hx (Src.row hrow rfl (by simp [mCells, Value.oneCell'])) (by omega) hbase ?_
  intro v' w' k1 k2 k3
  refine h v' w' ?_ k2 k3
  rw [List.length_append, List.flatMap_append, List.flatMap_cons, List.flatMap_nil, List.append_nil]; exact k1

/-- nothing appended, of a slice that holds nothing -/
theorem wpList_append_zero {P : Program} {w : World} {ops : Array Oper} {rest : List Oper} {o : Oper} {a : Act} {Q : Exit → Act → World → Prop} (hgd : o.guard = none) (s x : Operand) (t : TypeId)
    (ho : o.op = .call { callee := .builtin .append, args := #[s, x], argTypes := #[t, t] })
    (base : Nat) (e : TypeId) (i : TypeInfo) (size : Nat) (ht : P.underlying t = some (.slice e)) (hi : P.info? e = some i)
    (v : Value) (n c : Nat) (xs : List Value) (hs : a.eval s = v) (hown : w.ownsRow base e size v n xs) (hx : a.eval x = .slice none 0 c)
    (h : wpList P ops Q rest (a.put o.dst v) w) : wpList P ops Q (o :: rest) a w := by
  refine wpList_plain hgd fun K hK => ?_
  have hrun : (Builtin.append_ #[t, t] o.type #[v, .slice none 0 c]).run P w = .ok v w := by
    rcases hown.2 with ⟨rfl, rfl⟩ | ⟨g, cap, cur, rfl, _, _, hnc, _⟩
    · simp [Builtin.append_, run_underlying ht, sizeOf, typeInfo, hi, Builtin.lenOf, Builtin.firstCells]
    · simp [Builtin.append_, run_underlying ht, sizeOf, typeInfo, hi, Builtin.lenOf, Builtin.firstCells, hnc, storeCells]
  unfold Oper.wp
  simp [execOp, ho, resolve, invoke, builtin, hs, hx, hrun, Result.andThen]
  exact hK _ _ h
/-- whole numbers that came in, appended to whole numbers of one's own -/
theorem wpList_append_is {w : World} {ops : Array Oper} {rest : List Oper} {o : Oper} {a : Act} {Q : Exit → Act → World → Prop} (hgd : o.guard = none) (s x : Operand) (ho : o.op = .call { callee := .builtin .append, args := #[s, x], argTypes := #[43, 43] })
    {lo : Nat} {v : Value} {l : List Int} {A : Option Addr} {n c : Nat} {l' : List Int} (hs : a.eval s = v) (hown : w.ownsRow lo 3 1 v l.length (l.flatMap iCells)) (hx : a.eval x = .slice A n c) (hsq : Sq 1 iCells w (.slice A n c) l') (hlen : l.length + l'.length ≤ 3000000) (hbase : lo ≤ w.heap.size)
    (h : ∀ v' w', w'.ownsRow lo 3 1 v' (l ++ l').length ((l ++ l').flatMap iCells) → w.grownBy w' v.ownBlock → (v'.ownBlock = v.ownBlock ∨ v'.ownBlock = some w.heap.size) → wpList Tryz.prog ops Q rest (a.put o.dst v') w') : wpList Tryz.prog ops Q (o :: rest) a w := by
  have hn := hsq.len_
  have hlf : (l'.flatMap iCells).length = n * 1 := by
    have h9 : ∀ l : List Int, (l.flatMap iCells).length = l.length := by
      intro l
      induction l with
      | nil => rfl
      | cons a l ih => rw [List.flatMap_cons, List.length_append, ih]; simp [iCells]; omega
    rw [h9]; omega
  have hone : ∀ u ∈ l'.flatMap iCells, u.oneCell' = true := by
    intro u hu; obtain ⟨z, -, hz⟩ := List.mem_flatMap.1 hu; simp [iCells] at hz; subst hz; rfl
  cases A with
  | none =>
    have hl' : l' = [] := by
      cases l' with
      | nil => rfl
      | cons z l' => obtain ⟨b, off, e, -⟩ := hsq.at1 (i := 0) (x := z) rfl; cases e
    subst hl'
    obtain rfl : n = 0 := hn
    obtain ⟨i, hi, -⟩ := info_parts info_i1
    refine wpList_append_zero hgd s x _ ho lo 3 i 1 Tryz.underlying43 hi v l.length c _ hs hown hx ?_
    exact h v w (by simpa using hown) (World.grownBy.refl w _) (.inl rfl)
  | some ad =>
    refine wpList_append_src hgd s x _ ho lo 3 _ 1 8 Tryz.underlying43 info_i1 rfl (by omega) (by omega) v l.length _ hs hown _ n (l'.flatMap iCells) hx ⟨hlf, hone, .inr ⟨ad, c, rfl, fun j u hj => ?_⟩⟩ (by omega) hbase ?_
    · have hjl : j < l'.length := by
        have := (List.getElem?_eq_some_iff.1 hj).1
        omega
      obtain ⟨z, hz⟩ : ∃ z, l'[j]? = some z := ⟨l'[j], List.getElem?_eq_getElem _⟩
      obtain ⟨b, off, e, hc⟩ := hsq.at1 hz
      have h2 := flatMap_get iCells 1 iCells_len l' j 0 z hz (by omega)
      rw [Nat.mul_one, Nat.add_zero, hj] at h2
      injection e with e
      subst e
      rw [Go.WideShapes.add_plain, hc]
      exact h2.symm
    · intro v' w' k1 k2 k3
      refine h v' w' ?_ k2 k3
      rw [List.length_append, List.flatMap_append, ← hn]; exact k1

/-! ### the plain law -/
def mvO (o : POrd) : POrd := { o with due := o.due + 1 }
def mvM (x : PMk) : PMk := { x with period := x.period + 1 }
def mvD (D : PBook) : PBook := { D with now := D.now + 1, caps := 0 :: D.caps, ords := D.ords.map mvO, mks := D.mks.map mvM }
section
variable {D : PBook} (h : mayB D = true) (h' : mayB (mvD D) = true)
include h h'
theorem mv_due (i p : Int) : dueV (mvD D) i (p + 1) = dueV D i p := by
  unfold dueV; rw [if_pos h, if_pos h']
  show dueOf i (p+1) (D.ords.map mvO) = _
  unfold dueOf; rw [List.map_map]
  refine sumI_congr fun o _ => ?_
  simp [mvO]
theorem mv_there (i : Int) : thereV (mvD D) i = thereV D i := by
  unfold thereV; rw [if_pos h, if_pos h']
  show goneOf i (D.now+1) (D.ords.map mvO) + cameOf i (D.now+1) (D.mks.map mvM) = _
  have e1 : goneOf i (D.now+1) (D.ords.map mvO) = goneOf i D.now D.ords := by
    unfold goneOf; rw [List.map_map]
    refine sumI_congr fun o _ => ?_
    simp [mvO]
  have e2 : cameOf i (D.now+1) (D.mks.map mvM) = cameOf i D.now D.mks := by
    unfold cameOf; rw [List.map_map]
    refine sumI_congr fun o _ => ?_
    simp [mvM]
  rw [e1, e2]
theorem mv_cap (p : Int) (hp : 0 ≤ p) : capV (mvD D) (p + 1) = capV D p := by
  unfold capV
  have e1 : (mvD D).caps = 0 :: D.caps := rfl
  rw [e1, List.length_cons]
  by_cases g : p < D.caps.length
  · rw [if_pos ⟨h', by omega, by omega⟩, if_pos ⟨h, hp, g⟩]
    obtain ⟨k, rfl⟩ := Int.eq_ofNat_of_zero_le hp
    rw [show ((k : Int) + 1).toNat = k + 1 by omega, show ((k : Int)).toNat = k by omega]
    simp [List.getD_eq_getElem?_getD]
  · rw [if_neg (by rintro ⟨-, -, h3⟩; omega), if_neg (by rintro ⟨-, -, h3⟩; omega)]
theorem mv_fixed (i p : Int) : fixedV (mvD D) i (p + 1) = fixedV D i p := by
  unfold fixedV; rw [if_pos h, if_pos h']
  show ((D.mks.map mvM).find? _).map _ = _
  rw [List.find?_map, Option.map_map]
  have e : ((fun x : PMk => decide (x.item = i ∧ x.period = p + 1)) ∘ mvM) = fun x : PMk => decide (x.item = i ∧ x.period = p) := by
    funext x
    show decide (x.item = i ∧ x.period + 1 = p + 1) = _
    exact decide_eq_decide.2 (by constructor <;> rintro ⟨a, b⟩ <;> exact ⟨a, by omega⟩)
  rw [e]; rfl
theorem mv_shape (t : List (List Int)) : shapeB (mvD D) t = shapeB D t := by
  unfold shapeB; rw [h, h']; rfl
theorem mv_lev (r : List Int) (i : Int) (k : Nat) : lev (mvD D) r i k = lev D r i k := by
  induction k with
  | zero => exact mv_there h h' i
  | succ k ih =>
    show lev (mvD D) r i k + (r.getD k 0 - dueV (mvD D) i (D.now + 1 + k)) = lev D r i k + (r.getD k 0 - dueV D i (D.now + k))
    rw [ih, show D.now + 1 + (k : Int) = D.now + k + 1 by omega, mv_due h h']
theorem mv_costRow (x : PItem) (r : List Int) (i k : Nat) : costRow (mvD D) x r i k = costRow D x r i k := by
  induction k with
  | zero => rfl
  | succ k ih =>
    show costRow (mvD D) x r i k + termC x (r.getD k 0) (lev (mvD D) r i (k+1)) = costRow D x r i k + termC x (r.getD k 0) (lev D r i (k+1))
    rw [ih, mv_lev h h']
theorem mv_costTo (t : List (List Int)) (m : Nat) : costTo (mvD D) t m = costTo D t m := by
  induction m with
  | zero => rfl
  | succ m ih =>
    show costTo (mvD D) t m + costRow (mvD D) (D.items.getD m item0) (t.getD m []) m D.hor.toNat = costTo D t m + costRow D (D.items.getD m item0) (t.getD m []) m D.hor.toNat
    rw [ih, mv_costRow h h']
theorem mv_cost (t : List (List Int)) : costV (mvD D) t = costV D t := by
  unfold costV; rw [mv_shape h h', mv_costTo h h']
theorem mv_free (k m : Nat) : freeB (mvD D) k m = freeB D k m := by
  induction m with
  | zero => rfl
  | succ m ih =>
    show (freeB (mvD D) k m || (fixedV (mvD D) m (D.now + 1 + k)).isNone) = (freeB D k m || (fixedV D m (D.now + k)).isNone)
    rw [ih, show D.now + 1 + (k : Int) = D.now + k + 1 by omega, mv_fixed h h']
theorem mv_period (t : List (List Int)) (k : Nat) : periodP (mvD D) t k ↔ periodP D t k := by
  have h0 := (mayB_iff.1 h).head.t0
  have e1 : (mvD D).now + (k : Int) = D.now + k + 1 := by show D.now + 1 + (k : Int) = _; omega
  unfold periodP fixOk
  rw [e1, mv_free h h', mv_cap h h' _ (by omega)]
  simp only [mv_fixed h h']
theorem mv_allowed (t : List (List Int)) : allowedB (mvD D) t = allowedB D t := by
  have e : AllowedP (mvD D) t ↔ AllowedP D t := by
    constructor
    · rintro ⟨a, b, c⟩
      exact ⟨shapeB_iff.1 (by rw [← mv_shape h h']; exact shapeB_iff.2 a), fun k hk => (mv_period h h' t k).1 (b k hk), fun i r hr => by rw [← mv_lev h h']; exact c i r hr⟩
    · rintro ⟨a, b, c⟩
      exact ⟨shapeB_iff.1 (by rw [mv_shape h h']; exact shapeB_iff.2 a), fun k hk => (mv_period h h' t k).2 (b k hk), fun i r hr => by rw [mv_lev h h']; exact c i r hr⟩
  exact Bool.eq_iff_iff.2 (by rw [allowedB_iff, allowedB_iff]; exact e)
end

set_option maxHeartbeats 16000000 in
theorem planmoves_walk (w : World) (v0 v1 : Value) (h0 : ArgBook w v0) (h1 : ArgGrid w v1) :
    Calls Tryz.prog 7 #[v0, v1] w (RetV w (.bool true)) := by
  obtain ⟨A1, A2, A3, A4, n1, n2, n3, n4, c1, c2, c3, c4, hor, now, caps, ords, mks, rfl, hi, hcp, hor', hmk, hft⟩ := h0
  have HI := hide hi; have HCP := hide hcp; have HOR := hide hor'; have HMK := hide hmk; have HFT := hide hft
  clear hi hcp hor' hmk hft
  obtain ⟨Aq, nq, cq, t, rfl, hg, hgf, hgl⟩ := h1
  have HG := hide hg; have HGF := hide hgf; have HGL := hide hgl
  clear hg hgf hgl
  obtain ⟨W0, hW0⟩ : ∃ W0, W0 = (w.alloc (Obj.cells #[Value.slice A1 n1 c1, Value.int .i64 hor, Value.int .i64 now, Value.slice A2 n2 c2, Value.slice A3 n3 c3, Value.slice A4 n4 c4] 47)) := ⟨_, rfl⟩
  obtain ⟨hb0, r0, hsz0⟩ := boxes1 w [.slice A1 n1 c1, .int .i64 hor, .int .i64 now, .slice A2 n2 c2, .slice A3 n3 c3, .slice A4 n4 c4] 47 hW0
  have B0 := hide hb0; have HW0 := hide hW0
  have R0 := hide r0
  clear hb0 hW0 hsz0 r0
  go_enter Tryz.func7, Tryz.ntmps7
  go_upto_region 1 with fail
  rw [← HW0.out]
  go_wp2_with fail
  ((with_reducible refine (awake17_calls W0).mono ?_); rintro e w1 ⟨rfl, b1⟩)
  have HL1 := hide b1
  clear b1
  have r_d := R0.out.later HL1.out
  have d0 := r_d.cell (i := 0) rfl; have d1 := r_d.cell (i := 1) rfl; have d2 := r_d.cell (i := 2) rfl; have d3 := r_d.cell (i := 3) rfl; have d4 := r_d.cell (i := 4) rfl; have d5 := r_d.cell (i := 5) rfl
  clear r_d
  go_wp2_with fail
  ((with_reducible refine (few17_calls w1 _ _ _ _ _ _ _ _ _ _ _ _ hor now caps ords mks (HI.out.later (B0.out.trans HL1.out)) (HCP.out.later (B0.out.trans HL1.out)) (HOR.out.later (B0.out.trans HL1.out)) (HMK.out.later (B0.out.trans HL1.out)) HFT.out.1 HFT.out.2.1 HFT.out.2.2.1 HFT.out.2.2.2.1 HFT.out.2.2.2.2).mono ?_); rintro e w2 ⟨uf, rfl, b2, hf⟩)
  have HF := hide hf; have HL2 := hide (HL1.out.trans b2)
  have HLB := hide b2
  clear b2 hf d0 d1 d2 d3 d4 d5
  have r_d := R0.out.later HL2.out
  have d0 := r_d.cell (i := 0) rfl; have d1 := r_d.cell (i := 1) rfl; have d2 := r_d.cell (i := 2) rfl; have d3 := r_d.cell (i := 3) rfl; have d4 := r_d.cell (i := 4) rfl; have d5 := r_d.cell (i := 5) rfl
  clear r_d
  cases uf with
  | false =>
    go_wp2_with fail
    go_ret
    exact ⟨rfl, B0.out.trans HL2.out⟩
  | true =>
  obtain ⟨D, rfl, rfl, rfl, rfl, rfl, hbk⟩ := HF.out (by first | rfl | trivial)
  have H := hide (hbk.later HLB.out)
  clear hbk HF HI HCP HOR HMK HFT HLB
  go_wp2_with fail
  ((with_reducible refine (fewplan_calls w2 _ _ _ t (HG.out.later (B0.out.trans HL2.out)) HGF.out HGL.out).mono ?_); rintro e w3 ⟨uf, rfl, b3, hf⟩)
  have HF := hide hf; have HL3 := hide (HL2.out.trans b3)
  have HK3 := hide b3
  clear b3 hf d0 d1 d2 d3 d4 d5
  have r_d := R0.out.later HL3.out
  have d0 := r_d.cell (i := 0) rfl; have d1 := r_d.cell (i := 1) rfl; have d2 := r_d.cell (i := 2) rfl; have d3 := r_d.cell (i := 3) rfl; have d4 := r_d.cell (i := 4) rfl; have d5 := r_d.cell (i := 5) rfl
  clear r_d
  cases uf with
  | false =>
    go_wp2_with fail
    go_ret
    exact ⟨rfl, B0.out.trans HL3.out⟩
  | true =>
  have HQ := hide ((HF.out (by first | rfl | trivial)).later HK3.out)
  have H3 := hide (H.out.later HK3.out)
  clear H HF HG HGF HGL
  have H := H3
  clear H3
  obtain ⟨u0, hu0⟩ : ∃ u, mayB D = u := ⟨_, rfl⟩
  have HU0 := hide hu0
  have L3 := hide H.out.lens.2.2.1; have L4 := hide H.out.lens.2.2.2; have L2 := hide H.out.lens.2.1
  have hn3 : n3 ≤ 1000 := by have := H.out.ol; have := L3.out; omega
  have hn4 : n4 ≤ 1000 := by have := H.out.ml; have := L4.out; omega
  clear hu0
  go_wp2_with fail
  ((with_reducible refine (rmay_calls _ _ _ _ _ _ _ _ _ _ _ _ _ D H.out u0 HU0.out).mono ?_); rintro e w4 ⟨rfl, b4⟩)
  have HL4 := hide (HL3.out.trans b4); have HL34 := hide b4
  clear b4 d0 d1 d2 d3 d4 d5
  have r_d := R0.out.later HL4.out
  have d0 := r_d.cell (i := 0) rfl; have d1 := r_d.cell (i := 1) rfl; have d2 := r_d.cell (i := 2) rfl; have d3 := r_d.cell (i := 3) rfl; have d4 := r_d.cell (i := 4) rfl; have d5 := r_d.cell (i := 5) rfl
  clear r_d
  cases u0 with
  | false =>
    go_wp2_with fail
    go_ret
    exact ⟨rfl, B0.out.trans HL4.out⟩
  | true =>
  have HMAY := hide (mayB_iff.1 HU0.out)
  have hnw0 := HMAY.out.head.t0; have hnw1 := HMAY.out.head.t40
  have hwn : IntKind.i64.wrap (D.now + 1) = D.now + 1 := IntWalk.i64_in _ (by omega)
  go_upto_region 6 with fail
  obtain ⟨wa, hwa⟩ : ∃ wa, wa = w4.alloc (Obj.cells #[Value.slice A1 n1 c1, Value.int .i64 D.hor, Value.int .i64 D.now, Value.slice A2 n2 c2, Value.slice A3 n3 c3, Value.slice A4 n4 c4] 47) := ⟨_, rfl⟩
  obtain ⟨G, hG⟩ : ∃ G, G = w4.heap.size := ⟨_, rfl⟩
  have bwa : Later w4 wa := by rw [hwa]; exact (Later.refl _).alloc _
  have rG : Row wa G 47 [.slice A1 n1 c1, .int .i64 D.hor, .int .i64 D.now, .slice A2 n2 c2, .slice A3 n3 c3, .slice A4 n4 c4] := by rw [hwa, hG]; exact Row.new _ _ _
  rw [← hwa, ← hG]
  have HG : Hid (w4.heap.size ≤ G) := hide (by rw [hG]; exact Nat.le_refl _)
  have hsa : wa.heap.size = G + 1 := by rw [hwa, World.size_alloc, hG]
  have RGa := hide rG; have HLa := hide bwa
  clear hwa hG rG bwa d0 d1 d2 d3 d4 d5
  have r_d := R0.out.later (HL4.out.trans HLa.out)
  have d0 := r_d.cell (i := 0) rfl; have d1 := r_d.cell (i := 1) rfl; have d2 := r_d.cell (i := 2) rfl; have d3 := r_d.cell (i := 3) rfl; have d4 := r_d.cell (i := 4) rfl; have d5 := r_d.cell (i := 5) rfl
  clear r_d
  have f0 := RGa.out.cell (i := 0) rfl; have f1 := RGa.out.cell (i := 1) rfl; have f2 := RGa.out.cell (i := 2) rfl; have f3 := RGa.out.cell (i := 3) rfl; have f4 := RGa.out.cell (i := 4) rfl; have f5 := RGa.out.cell (i := 5) rfl; have z2 := RGa.out.frozen 2
  go_upto_region 7 with fail
  obtain ⟨w5, hw5⟩ : ∃ w5, w5 = wa.setCell ⟨G, 2, none⟩ (.int .i64 (D.now + 1)) := ⟨_, rfl⟩
  have r5 : Row w5 G 47 [.slice A1 n1 c1, .int .i64 D.hor, .int .i64 (D.now + 1), .slice A2 n2 c2, .slice A3 n3 c3, .slice A4 n4 c4] := by rw [hw5]; exact RGa.out.set_ 2 _
  have oo5 : Only G wa w5 := by rw [hw5]; exact Only.one G wa 2 _
  rw [← hw5]
  have HW5 : Hid (w5.heap.size = G + 1) := hide (by rw [oo5.size]; exact hsa)
  have RG5 := hide r5; have HL45 := hide (HLa.out.only oo5 HG.out)
  clear hw5 r5 oo5 hsa RGa HLa d0 d1 d2 d3 d4 d5 f0 f1 f2 f3 f4 f5 z2
  have r_d := R0.out.later (HL4.out.trans (HL45.out.alloc (Obj.cells #[Value.int .i64 0] 3)))
  have d0 := r_d.cell (i := 0) rfl; have d1 := r_d.cell (i := 1) rfl; have d2 := r_d.cell (i := 2) rfl; have d3 := r_d.cell (i := 3) rfl; have d4 := r_d.cell (i := 4) rfl; have d5 := r_d.cell (i := 5) rfl
  clear r_d
  go_upto_region 10 with (at_builtin; refine wpList_append_is rfl _ _ rfl (lo := w5.heap.size) (l := [0]) rfl (World.ownsRow_lit w5 #[Value.int .i64 0] 1 (Nat.le_refl _) (by decide) rfl) rfl ((H.out.later (HL34.out.trans (HL45.out.alloc _))).caps) (by have := H.out.cl; simp; omega) (by rw [World.size_alloc]; omega) ?_; intro v6 w6 k1 k2 k3; obtain ⟨A7, n7, c7, rfl, -, -, -, -⟩ := (Sq.of_own iCells_len k1).form; have hr6 := (RG5.out.later ((Later.refl w5).alloc _)).grown k2 (fun e => by have := HW5.out; have := RG5.out.lt; injection e with e; simp at e; omega); have f0 := hr6.cell (i := 0) rfl; have f1 := hr6.cell (i := 1) rfl; have f2 := hr6.cell (i := 2) rfl; have f3 := hr6.cell (i := 3) rfl; have f4 := hr6.cell (i := 4) rfl; have f5 := hr6.cell (i := 5) rfl; have z3 := hr6.frozen 3; have z4 := hr6.frozen 4; have z5 := hr6.frozen 5; have HR6 := hide hr6; have HK1 := hide k1; have HK2 := hide k2; clear hr6 k1 k2 k3)
  obtain ⟨w7, hw7⟩ : ∃ w7, w7 = ((w6.setCell ⟨G, 3, none⟩ (.slice A7 n7 c7)).setCell ⟨G, 4, none⟩ (.slice none 0 0)).setCell ⟨G, 5, none⟩ (.slice none 0 0) := ⟨_, rfl⟩
  have r7 : Row w7 G 47 [.slice A1 n1 c1, .int .i64 D.hor, .int .i64 (D.now + 1), .slice A7 n7 c7, .slice none 0 0, .slice none 0 0] := by rw [hw7]; exact ((HR6.out.set_ 3 _).set_ 4 _).set_ 5 _
  have oo : Only G w6 w7 := by rw [hw7]; exact ((Only.one G w6 3 _).set 4 _).set 5 _
  rw [← hw7]
  have hl56 : Later w5 w6 := ((Later.refl w5).alloc _).grown HK2.out (fun k hk => (World.ownsRow.lt (World.ownsRow_lit w5 #[Value.int .i64 0] (e := 3) (size := 1) 1 (Nat.le_refl _) (by decide) rfl) k hk).1)
  have HLC : Hid (Later w4 w7) := hide ((HL45.out.trans hl56).only oo HG.out)
  have RC := hide r7
  have HW75 : Hid (w5.heap.size ≤ w7.heap.size) := hide (by rw [oo.size]; exact hl56.size)
  have HON : Hid (On w7 (fun b => w5.heap.size ≤ b ∧ b < w7.heap.size) (fun W => Sq 1 iCells W (.slice A7 n7 c7) (0 :: D.caps))) := hide
    (((On.sq iCells_len HK1.out).only oo (by have := HW5.out; omega)).mono (fun b hb hlt => ⟨hb, hlt⟩))
  clear hw7 r7 oo hl56 HR6 HK1 HK2 f0 f1 f2 f3 f4 f5 z3 z4 z5 d0 d1 d2 d3 d4 d5
  go_wp2_with fail
  go_loopw [6] (fun i wr => ∃ j : Nat, j ≤ n3 ∧ i = .int .i64 (j : Int) ∧ (∃ Av nv cv, Row wr G 47 [.slice A1 n1 c1, .int .i64 D.hor, .int .i64 (D.now + 1), .slice A7 n7 c7, .slice Av nv cv, .slice none 0 0] ∧ wr.ownsRow w7.heap.size 65 4 (.slice Av nv cv) ((D.ords.take j).map mvO).length (((D.ords.take j).map mvO).flatMap oCells)) ∧ Later w4 wr ∧ w7.heap.size ≤ wr.heap.size ∧ On wr (fun b => w5.heap.size ≤ b ∧ b < w7.heap.size) (fun W => Sq 1 iCells W (.slice A7 n7 c7) (0 :: D.caps))) (fun i _ => (n3 - intOf i).toNat)
  case atStart => exact ⟨0, by omega, rfl, ⟨_, _, _, RC.out, World.ownsRow_nil _ _ _ 4⟩, HLC.out, Nat.le_refl _, HON.out⟩
  case round =>
    obtain ⟨j, hj, rfl, ⟨Av, nv, cv, hR, hown⟩, hL, hsz, hon⟩ := hrel
    have HL := hide hL; have RG := hide hR; have HOWN := hide hown; have HSZ := hide hsz; have HON2 := hide hon
    clear hL hR hown hsz hon
    have r_d := R0.out.later (HL4.out.trans HL.out)
    have d0 := r_d.cell (i := 0) rfl; have d1 := r_d.cell (i := 1) rfl; have d2 := r_d.cell (i := 2) rfl; have d3 := r_d.cell (i := 3) rfl; have d4 := r_d.cell (i := 4) rfl; have d5 := r_d.cell (i := 5) rfl
    clear r_d
    by_cases hjn : j < n3
    · obtain ⟨x, hx⟩ : ∃ x, D.ords[j]? = some x := ⟨D.ords[j]'(by have := L3.out; omega), List.getElem?_eq_getElem _⟩
      obtain ⟨b1, off1, rfl, x0, x1, x2, x3⟩ := (H.out.later (HL34.out.trans HL.out)).ords.at4 hx
      have hj0 : (0 : Int) ≤ (j : Int) := by omega
      have hj1 : (j : Int) < n3 := by omega
      have htk : D.ords.take (j+1) = D.ords.take j ++ [x] := by rw [List.take_add_one, hx]; rfl
      have htm : (D.ords.take (j+1)).map mvO = (D.ords.take j).map mvO ++ [mvO x] := by rw [htk, List.map_append]; rfl
      have hlm : ((D.ords.take j).map mvO).length ≤ 1000 := by rw [List.length_map, List.length_take]; omega
      have hok := by have := HMAY.out.ords x (List.mem_of_getElem? hx); unfold POrd.okP at this; exact this
      have hw1 : IntKind.i64.wrap (x.due + 1) = x.due + 1 := IntWalk.i64_in _ (by omega)
      have HTM := hide htm; have HLM := hide hlm
      clear hx htk htm hlm hok
      go_upto_region 15 with fail
      obtain ⟨wA, hwA⟩ : ∃ wA, wA = wr.alloc (Obj.cells #[Value.int .i64 x.id, Value.int .i64 x.item, Value.int .i64 (x.due + 1), Value.int .i64 x.qty] 65) := ⟨_, rfl⟩
      obtain ⟨gA, hgA⟩ : ∃ gA, gA = wr.heap.size := ⟨_, rfl⟩
      have bA : Later wr wA := by rw [hwA]; exact (Later.refl _).alloc _
      have rA : Row wA gA 65 [.int .i64 x.id, .int .i64 x.item, .int .i64 (x.due + 1), .int .i64 x.qty] := by rw [hwA, hgA]; exact Row.new _ _ _
      rw [← hwA, ← hgA]
      have HA := hide bA
      have RGA := hide (RG.out.later bA)
      have HSA : Hid (w7.heap.size ≤ wA.heap.size) := hide (Nat.le_trans HSZ.out bA.size)
      clear hwA hgA bA x0  x1  x2  x3 d0 d1 d2 d3 d4 d5
      have f0 := RGA.out.cell (i := 0) rfl; have f1 := RGA.out.cell (i := 1) rfl; have f2 := RGA.out.cell (i := 2) rfl; have f3 := RGA.out.cell (i := 3) rfl; have f4 := RGA.out.cell (i := 4) rfl; have f5 := RGA.out.cell (i := 5) rfl; have z4 := RGA.out.frozen 4
      have y0 := rA.cell (i := 0) rfl; have y1 := rA.cell (i := 1) rfl; have y2 := rA.cell (i := 2) rfl; have y3 := rA.cell (i := 3) rfl
      clear rA
      go_wp2_with (at_builtin; refine wpList_append_po rfl _ _ rfl (mvO x) rfl (ownsRow_later HOWN.out (HA.out.alloc _)) rfl (Row.new wA 65 [.int .i64 x.id, .int .i64 x.item, .int .i64 (x.due + 1), .int .i64 x.qty]) (by have := HLM.out; omega) (by have := HSA.out; rw [World.size_alloc]; omega) ?_; intro v8 w8 k1 k2 k3; obtain ⟨A8, n8, c8, rfl, -, -, -, -⟩ := (Sq.of_own oCells_len k1).form; have hbl := World.ownsRow.lt HOWN.out; have hGL := RG5.out.lt; have hG5 := HW5.out; have hlo := HW75.out; have hr8 := (RGA.out.later ((Later.refl wA).alloc _)).grown k2 (fun e => by have := (hbl G e.symm).1; omega); have f4b := hr8.cell (i := 4) rfl; have z4b := hr8.frozen 4; have HR8 := hide hr8; have HK1 := hide k1; have HK2 := hide k2; clear hr8 k1 k2 k3 hbl hGL hG5 hlo)
      have oo := Only.one G w8 4 (.slice A8 n8 c8)
      have hbl := World.ownsRow.lt HOWN.out
      have hGL := RG5.out.lt; have hG5 := HW5.out; have hlo := HW75.out
      refine ⟨⟨j+1, by omega, by go_num, ⟨_, _, _, HR8.out.set_ 4 _, ?_⟩, ?_, ?_, ?_⟩, by simp [intOf]; omega⟩
      · rw [HTM.out]; exact ownsRow_only HK1.out oo (by omega)
      · refine ((((HL.out.trans HA.out).alloc _).grown HK2.out (fun k hk => ?_)).only oo HG.out)
        have := (hbl k hk).1; have := HLC.out.size; omega
      · rw [oo.size]; have := HK2.out.size; rw [World.size_alloc] at this; have := HSA.out; omega
      · refine (((HON2.out.later (HA.out.alloc _)).grown HK2.out (fun b hb hlt e => ?_)).only oo (fun hb => ?_))
        · have := (hbl b e.symm).1; omega
        · omega
    · have hj1 : ¬ (j : Int) < n3 := by omega
      have HON3 := hide ((HON2.out.mono (fun b hb hlt => (⟨hb.1, hlt⟩ : w5.heap.size ≤ b ∧ b < wr.heap.size))).and ((On.sq oCells_len HOWN.out).mono (fun b hb hlt => (⟨by have h1 := HW75.out; omega, hlt⟩ : w5.heap.size ≤ b ∧ b < wr.heap.size))))
      clear HON2 HON HLC RC
      obtain ⟨wL, hwL⟩ : ∃ wL, wL = wr := ⟨_, rfl⟩
      subst hwL
      have HON : Hid (On wL (fun b => w5.heap.size ≤ b ∧ b < wL.heap.size) (fun W => (Sq 1 iCells W (.slice A7 n7 c7) (0 :: D.caps)) ∧ (Sq 4 oCells W (.slice Av nv cv) (D.ords.map mvO)))) := hide (by
        have := HON3.out
        rw [List.take_of_length_le (by have := L3.out; omega)] at this
        exact this)
      have HLC := HL
      have RC := RG
      have HWL2 : Hid (w5.heap.size ≤ wL.heap.size) := hide (by have h1 := HW75.out; have h2 := HSZ.out; omega)
      clear HL RG HOWN HSZ HON3
      obtain ⟨A8, hA8⟩ : ∃ A, A = Av := ⟨_, rfl⟩; obtain ⟨n8, hn8⟩ : ∃ A, A = nv := ⟨_, rfl⟩; obtain ⟨c8, hc8⟩ : ∃ A, A = cv := ⟨_, rfl⟩
      subst hA8 hn8 hc8
      go_wp2_with fail
      go_loopw [8] (fun i wr => ∃ j : Nat, j ≤ n4 ∧ i = .int .i64 (j : Int) ∧ (∃ Av nv cv, Row wr G 47 [.slice A1 n1 c1, .int .i64 D.hor, .int .i64 (D.now + 1), .slice A7 n7 c7, .slice A8 n8 c8, .slice Av nv cv] ∧ wr.ownsRow wL.heap.size 67 3 (.slice Av nv cv) ((D.mks.take j).map mvM).length (((D.mks.take j).map mvM).flatMap mCells)) ∧ Later w4 wr ∧ wL.heap.size ≤ wr.heap.size ∧ On wr (fun b => w5.heap.size ≤ b ∧ b < wL.heap.size) (fun W => (Sq 1 iCells W (.slice A7 n7 c7) (0 :: D.caps)) ∧ (Sq 4 oCells W (.slice A8 n8 c8) (D.ords.map mvO)))) (fun i _ => (n4 - intOf i).toNat)
      case atStart => exact ⟨0, by omega, rfl, ⟨_, _, _, RC.out, World.ownsRow_nil _ _ _ 3⟩, HLC.out, Nat.le_refl _, HON.out⟩
      case round =>
        obtain ⟨j, hj, rfl, ⟨Av, nv, cv, hR, hown⟩, hL, hsz, hon⟩ := hrel
        have HL := hide hL; have RG := hide hR; have HOWN := hide hown; have HSZ := hide hsz; have HON2 := hide hon
        clear hL hR hown hsz hon
        have r_d := R0.out.later (HL4.out.trans HL.out)
        have d0 := r_d.cell (i := 0) rfl; have d1 := r_d.cell (i := 1) rfl; have d2 := r_d.cell (i := 2) rfl; have d3 := r_d.cell (i := 3) rfl; have d4 := r_d.cell (i := 4) rfl; have d5 := r_d.cell (i := 5) rfl
        clear r_d
        by_cases hjn : j < n4
        · obtain ⟨x, hx⟩ : ∃ x, D.mks[j]? = some x := ⟨D.mks[j]'(by have := L4.out; omega), List.getElem?_eq_getElem _⟩
          obtain ⟨b1, off1, rfl, x0, x1, x2⟩ := (H.out.later (HL34.out.trans HL.out)).mks.at3 hx
          have hj0 : (0 : Int) ≤ (j : Int) := by omega
          have hj1 : (j : Int) < n4 := by omega
          have htk : D.mks.take (j+1) = D.mks.take j ++ [x] := by rw [List.take_add_one, hx]; rfl
          have htm : (D.mks.take (j+1)).map mvM = (D.mks.take j).map mvM ++ [mvM x] := by rw [htk, List.map_append]; rfl
          have hlm : ((D.mks.take j).map mvM).length ≤ 1000 := by rw [List.length_map, List.length_take]; omega
          have hok := by have := HMAY.out.mks x (List.mem_of_getElem? hx); unfold PMk.okP at this; exact this
          have hw1 : IntKind.i64.wrap (x.period + 1) = x.period + 1 := IntWalk.i64_in _ (by omega)
          have HTM := hide htm; have HLM := hide hlm
          clear hx htk htm hlm hok
          go_upto_region 21 with fail
          obtain ⟨wA, hwA⟩ : ∃ wA, wA = wr.alloc (Obj.cells #[Value.int .i64 x.item, Value.int .i64 (x.period + 1), Value.int .i64 x.qty] 67) := ⟨_, rfl⟩
          obtain ⟨gA, hgA⟩ : ∃ gA, gA = wr.heap.size := ⟨_, rfl⟩
          have bA : Later wr wA := by rw [hwA]; exact (Later.refl _).alloc _
          have rA : Row wA gA 67 [.int .i64 x.item, .int .i64 (x.period + 1), .int .i64 x.qty] := by rw [hwA, hgA]; exact Row.new _ _ _
          rw [← hwA, ← hgA]
          have HA := hide bA
          have RGA := hide (RG.out.later bA)
          have HSA : Hid (wL.heap.size ≤ wA.heap.size) := hide (Nat.le_trans HSZ.out bA.size)
          clear hwA hgA bA x0  x1  x2 d0 d1 d2 d3 d4 d5
          have f0 := RGA.out.cell (i := 0) rfl; have f1 := RGA.out.cell (i := 1) rfl; have f2 := RGA.out.cell (i := 2) rfl; have f3 := RGA.out.cell (i := 3) rfl; have f4 := RGA.out.cell (i := 4) rfl; have f5 := RGA.out.cell (i := 5) rfl; have z5 := RGA.out.frozen 5
          have y0 := rA.cell (i := 0) rfl; have y1 := rA.cell (i := 1) rfl; have y2 := rA.cell (i := 2) rfl
          clear rA
          go_wp2_with (at_builtin; refine wpList_append_pm rfl _ _ rfl (mvM x) rfl (ownsRow_later HOWN.out (HA.out.alloc _)) rfl (Row.new wA 67 [.int .i64 x.item, .int .i64 (x.period + 1), .int .i64 x.qty]) (by have := HLM.out; omega) (by have := HSA.out; rw [World.size_alloc]; omega) ?_; intro v8 w8 k1 k2 k3; obtain ⟨A8, n8, c8, rfl, -, -, -, -⟩ := (Sq.of_own mCells_len k1).form; have hbl := World.ownsRow.lt HOWN.out; have hGL := RG5.out.lt; have hG5 := HW5.out; have hlo := HWL2.out; have hr8 := (RGA.out.later ((Later.refl wA).alloc _)).grown k2 (fun e => by have := (hbl G e.symm).1; omega); have f5b := hr8.cell (i := 5) rfl; have z5b := hr8.frozen 5; have HR8 := hide hr8; have HK1 := hide k1; have HK2 := hide k2; clear hr8 k1 k2 k3 hbl hGL hG5 hlo)
          have oo := Only.one G w8 5 (.slice A8 n8 c8)
          have hbl := World.ownsRow.lt HOWN.out
          have hGL := RG5.out.lt; have hG5 := HW5.out; have hlo := HWL2.out
          refine ⟨⟨j+1, by omega, by go_num, ⟨_, _, _, HR8.out.set_ 5 _, ?_⟩, ?_, ?_, ?_⟩, by simp [intOf]; omega⟩
          · rw [HTM.out]; exact ownsRow_only HK1.out oo (by omega)
          · refine ((((HL.out.trans HA.out).alloc _).grown HK2.out (fun k hk => ?_)).only oo HG.out)
            have := (hbl k hk).1; have := HLC.out.size; omega
          · rw [oo.size]; have := HK2.out.size; rw [World.size_alloc] at this; have := HSA.out; omega
          · refine (((HON2.out.later (HA.out.alloc _)).grown HK2.out (fun b hb hlt e => ?_)).only oo (fun hb => ?_))
            · have := (hbl b e.symm).1; omega
            · omega
        · have hj1 : ¬ (j : Int) < n4 := by omega
          have HON3 := hide ((HON2.out.mono (fun b hb hlt => (⟨hb.1, hlt⟩ : w5.heap.size ≤ b ∧ b < wr.heap.size))).and ((On.sq mCells_len HOWN.out).mono (fun b hb hlt => (⟨by have h1 := HWL2.out; omega, hlt⟩ : w5.heap.size ≤ b ∧ b < wr.heap.size))))
          have hA9 := (On.sq mCells_len HOWN.out).now.len_
          have h12 := HON3.out.now
          rw [List.take_of_length_le (by have := L4.out; omega)] at h12
          have HB : Hid (BookIn wr (.slice A1 n1 c1) (.slice A7 n7 c7) (.slice A8 n8 c8) (.slice Av nv cv) (mvD D)) := hide
            { its := (H.out.later (HL34.out.trans HL.out)).its, caps := h12.1.1, ords := h12.1.2, mks := h12.2, il := H.out.il,
              cl := by (show (0 :: D.caps).length ≤ 1000); have := HMAY.out.head.cl; rw [List.length_cons]; omega,
              ol := by (show (D.ords.map mvO).length ≤ 1000); rw [List.length_map]; exact H.out.ol,
              ml := by (show (D.mks.map mvM).length ≤ 1000); rw [List.length_map]; exact H.out.ml,
              hfit := H.out.hfit, nfit := by (show IFit (D.now + 1)); unfold IFit; omega,
              cfit := fun z hz => by
                rcases List.mem_cons.1 hz with rfl | hz
                · unfold IFit; omega
                · exact H.out.cfit z hz,
              ofit := fun o ho => by
                obtain ⟨x, hx, rfl⟩ := List.mem_map.1 ho
                have h1 := H.out.ofit x hx; have h2 := HMAY.out.ords x hx
                unfold POrd.fit IFit at h1; unfold POrd.okP at h2
                unfold POrd.fit IFit mvO; dsimp only; omega,
              mfit := fun o ho => by
                obtain ⟨x, hx, rfl⟩ := List.mem_map.1 ho
                have h1 := H.out.mfit x hx; have h2 := HMAY.out.mks x hx
                unfold PMk.fit IFit at h1; unfold PMk.okP at h2
                unfold PMk.fit IFit mvM; dsimp only; omega }
          clear hA9 h12
          obtain ⟨u1, hu1⟩ : ∃ u, mayB (mvD D) = u := ⟨_, rfl⟩
          have HU1 := hide hu1
          clear hu1
          have f0 := RG.out.cell (i := 0) rfl; have f1 := RG.out.cell (i := 1) rfl; have f2 := RG.out.cell (i := 2) rfl; have f3 := RG.out.cell (i := 3) rfl; have f4 := RG.out.cell (i := 4) rfl; have f5 := RG.out.cell (i := 5) rfl; have z5 := RG.out.frozen 5
          go_wp2_with fail
          ((refine (rmay_calls _ _ _ _ _ _ _ _ _ _ _ _ _ (mvD D) HB.out u1 HU1.out).mono ?_); rintro e w9 ⟨rfl, b9⟩)
          have HL9 := hide (HL4.out.trans (HL.out.trans b9)); have HL39 := hide (HL34.out.trans (HL.out.trans b9)); have HB9 := hide b9
          have RG9 := hide (RG.out.later b9)
          clear b9 d0 d1 d2 d3 d4 d5 f0 f1 f2 f3 f4 f5 z5
          have r_d := R0.out.later HL9.out
          have d0 := r_d.cell (i := 0) rfl; have d1 := r_d.cell (i := 1) rfl; have d2 := r_d.cell (i := 2) rfl; have d3 := r_d.cell (i := 3) rfl; have d4 := r_d.cell (i := 4) rfl; have d5 := r_d.cell (i := 5) rfl
          clear r_d
          cases u1 with
          | false =>
            go_wp2_with fail
            go_ret
            exact ⟨rfl, B0.out.trans HL9.out⟩
          | true =>
          obtain ⟨us, hus⟩ : ∃ u, shapeB D t = u := ⟨_, rfl⟩
          obtain ⟨ua, hua⟩ : ∃ u, allowedB D t = u := ⟨_, rfl⟩
          obtain ⟨zc, hzc⟩ : ∃ z, costV D t = z := ⟨_, rfl⟩
          have HUS2 : Hid (shapeB (mvD D) t = us) := hide (by rw [mv_shape HU0.out HU1.out]; exact hus)
          have HUA2 : Hid (allowedB (mvD D) t = ua) := hide (by rw [mv_allowed HU0.out HU1.out]; exact hua)
          have HZC2 : Hid (costV (mvD D) t = zc) := hide (by rw [mv_cost HU0.out HU1.out]; exact hzc)
          have HUS := hide hus; have HUA := hide hua; have HZC := hide hzc
          clear hus hua hzc
          go_wp2_with fail
          ((refine (plcost_calls _ _ _ _ _ _ _ _ _ _ _ _ _ D (H.out.later HL39.out) _ _ _ t (HQ.out.later HL39.out)).mono ?_); rintro e w9b ⟨v10, rfl, o10, hs10, b9⟩)
          rw [HUS.out]
          rw [HZC.out] at o10 hs10
          obtain ⟨s10, P10, q10, e10, P10', q10', e10', rfl, o10⟩ := o10.open_; have O10 := hide o10; clear o10
          have HS := hide hs10
          have HL9b := hide (HL9.out.trans b9); have HL39b := hide (HL39.out.trans b9); have HB9b := hide (HB9.out.trans b9)
          have RG9b := hide (RG9.out.later b9)
          clear b9 hs10 d0 d1 d2 d3 d4 d5
          go_upto_region 25 with fail
          obtain ⟨w10, hw10⟩ : ∃ w10, w10 = w9b.alloc (Obj.cells #[Value.bool s10, Value.slice P10 q10 e10, Value.bool false, Value.slice P10' q10' e10'] 37) := ⟨_, rfl⟩
          obtain ⟨g10, hg10⟩ : ∃ g10, g10 = w9b.heap.size := ⟨_, rfl⟩
          have bw10 : Later w9b w10 := by rw [hw10]; exact (Later.refl _).alloc _
          have rg10 : Row w10 g10 37 [.bool s10, .slice P10 q10 e10, .bool false, .slice P10' q10' e10'] := by rw [hw10, hg10]; exact Row.new _ _ _
          rw [← hw10, ← hg10]
          have HL10 := hide (HL9b.out.trans bw10); have HL310 := hide (HL39b.out.trans bw10); have HB10 := hide (HB9b.out.trans bw10)
          have RG10 := hide (RG9b.out.later bw10)
          have O10b := hide (OwnR.later O10.out bw10)
          have R10 := hide rg10
          clear O10 bw10 rg10 hw10 hg10
          have f0 := RG10.out.cell (i := 0) rfl; have f1 := RG10.out.cell (i := 1) rfl; have f2 := RG10.out.cell (i := 2) rfl; have f3 := RG10.out.cell (i := 3) rfl; have f4 := RG10.out.cell (i := 4) rfl; have f5 := RG10.out.cell (i := 5) rfl; have z5 := RG10.out.frozen 5
          go_wp2_with fail
          ((refine (plcost_calls _ _ _ _ _ _ _ _ _ _ _ _ _ (mvD D) (HB.out.later HB10.out) _ _ _ t (HQ.out.later HL310.out)).mono ?_); rintro e w11 ⟨v12, rfl, o12, hs12, b11⟩)
          rw [HUS2.out]
          rw [HZC2.out] at o12 hs12
          obtain ⟨s12, P12, q12, e12, P12', q12', e12', rfl, o12⟩ := o12.open_; have O12 := hide o12; clear o12
          have HL11 := hide (HL10.out.trans b11); have HL311 := hide (HL310.out.trans b11); have HB11 := hide (HB10.out.trans b11); have HL1011 := hide b11
          have RG11 := hide (RG10.out.later b11)
          clear b11 hs12 f0 f1 f2 f3 f4 f5 z5
          go_upto_region 26 with fail
          obtain ⟨w12, hw12⟩ : ∃ w12, w12 = w11.alloc (Obj.cells #[Value.bool s12, Value.slice P12 q12 e12, Value.bool false, Value.slice P12' q12' e12'] 37) := ⟨_, rfl⟩
          obtain ⟨g12, hg12⟩ : ∃ g12, g12 = w11.heap.size := ⟨_, rfl⟩
          have bw12 : Later w11 w12 := by rw [hw12]; exact (Later.refl _).alloc _
          have rg12 : Row w12 g12 37 [.bool s12, .slice P12 q12 e12, .bool false, .slice P12' q12' e12'] := by rw [hw12, hg12]; exact Row.new _ _ _
          rw [← hw12, ← hg12]
          have HLZ := hide (HL11.out.trans bw12); have HL312 := hide (HL311.out.trans bw12); have HLB2 := hide (HB11.out.trans bw12); have HLB12 := hide bw12; have HL1012 := hide (HL1011.out.trans bw12)
          have O10 := O10b
          have hrx := R0.out.later (HLZ.out.trans (Later.refl w12).drew)
          have hrg := (RG11.out.later bw12).later (Later.refl w12).drew
          have hr10 := (R10.out.later HL1012.out).later (Later.refl w12).drew
          have hr12 := rg12.later (Later.refl w12).drew
          have HT1 : Hid (∀ w', Later w12.drew w' → w'.cell? ⟨w.heap.size, 0, none⟩ = some (.slice A1 n1 c1) ∧ w'.cell? ⟨w.heap.size, 1, none⟩ = some (.int .i64 D.hor) ∧ w'.cell? ⟨w.heap.size, 2, none⟩ = some (.int .i64 D.now) ∧ w'.cell? ⟨w.heap.size, 3, none⟩ = some (.slice A2 n2 c2) ∧ w'.cell? ⟨w.heap.size, 4, none⟩ = some (.slice A3 n3 c3) ∧ w'.cell? ⟨w.heap.size, 5, none⟩ = some (.slice A4 n4 c4) ∧ w'.cell? ⟨G, 0, none⟩ = some (.slice A1 n1 c1) ∧ w'.cell? ⟨G, 1, none⟩ = some (.int .i64 D.hor) ∧ w'.cell? ⟨G, 2, none⟩ = some (.int .i64 (D.now + 1)) ∧ w'.cell? ⟨G, 3, none⟩ = some (.slice A7 n7 c7) ∧ w'.cell? ⟨G, 4, none⟩ = some (.slice A8 n8 c8) ∧ w'.cell? ⟨G, 5, none⟩ = some (.slice Av nv cv) ∧ w'.cell? ⟨g10, 0, none⟩ = some (.bool s10) ∧ w'.cell? ⟨g10, 1, none⟩ = some (.slice P10 q10 e10) ∧ w'.cell? ⟨g10, 2, none⟩ = some (.bool false) ∧ w'.cell? ⟨g10, 3, none⟩ = some (.slice P10' q10' e10') ∧ w'.cell? ⟨g12, 0, none⟩ = some (.bool s12) ∧ w'.cell? ⟨g12, 1, none⟩ = some (.slice P12 q12 e12) ∧ w'.cell? ⟨g12, 2, none⟩ = some (.bool false) ∧ w'.cell? ⟨g12, 3, none⟩ = some (.slice P12' q12' e12')) := hide fun w' hb => ⟨(hrx.later hb).cell rfl, (hrx.later hb).cell rfl, (hrx.later hb).cell rfl, (hrx.later hb).cell rfl, (hrx.later hb).cell rfl, (hrx.later hb).cell rfl, (hrg.later hb).cell rfl, (hrg.later hb).cell rfl, (hrg.later hb).cell rfl, (hrg.later hb).cell rfl, (hrg.later hb).cell rfl, (hrg.later hb).cell rfl, (hr10.later hb).cell rfl, (hr10.later hb).cell rfl, (hr10.later hb).cell rfl, (hr10.later hb).cell rfl, (hr12.later hb).cell rfl, (hr12.later hb).cell rfl, (hr12.later hb).cell rfl, (hr12.later hb).cell rfl⟩
          clear hrx hrg hr10 hr12 rg12 bw12 hw12 hg12
          have hmx : Tryz.prog.follows .mixedOrders = true := by kernel_rfl
          refine wp_region_N (fun w' => w'.cell? ⟨w.heap.size, 0, none⟩ = some (.slice A1 n1 c1) ∧ w'.cell? ⟨w.heap.size, 1, none⟩ = some (.int .i64 D.hor) ∧ w'.cell? ⟨w.heap.size, 2, none⟩ = some (.int .i64 D.now) ∧ w'.cell? ⟨w.heap.size, 3, none⟩ = some (.slice A2 n2 c2) ∧ w'.cell? ⟨w.heap.size, 4, none⟩ = some (.slice A3 n3 c3) ∧ w'.cell? ⟨w.heap.size, 5, none⟩ = some (.slice A4 n4 c4) ∧ w'.cell? ⟨G, 0, none⟩ = some (.slice A1 n1 c1) ∧ w'.cell? ⟨G, 1, none⟩ = some (.int .i64 D.hor) ∧ w'.cell? ⟨G, 2, none⟩ = some (.int .i64 (D.now + 1)) ∧ w'.cell? ⟨G, 3, none⟩ = some (.slice A7 n7 c7) ∧ w'.cell? ⟨G, 4, none⟩ = some (.slice A8 n8 c8) ∧ w'.cell? ⟨G, 5, none⟩ = some (.slice Av nv cv) ∧ w'.cell? ⟨g10, 0, none⟩ = some (.bool s10) ∧ w'.cell? ⟨g10, 1, none⟩ = some (.slice P10 q10 e10) ∧ w'.cell? ⟨g10, 2, none⟩ = some (.bool false) ∧ w'.cell? ⟨g10, 3, none⟩ = some (.slice P10' q10' e10') ∧ w'.cell? ⟨g12, 0, none⟩ = some (.bool s12) ∧ w'.cell? ⟨g12, 1, none⟩ = some (.slice P12 q12 e12) ∧ w'.cell? ⟨g12, 2, none⟩ = some (.bool false) ∧ w'.cell? ⟨g12, 3, none⟩ = some (.slice P12' q12' e12')) [] hmx (HT1.out _ (Later.refl _)) (fun hHeld => ?_)
          refine wpAnyN_takeD (some 100) (by rfl) (i := 0) (oi := _) (v := ?_) rfl (by kernel_rfl) (by kernel_rfl) (by kernel_rfl) (by kernel_rfl) (fun _ _ _ h => h) (Or.inl ⟨by rfl, ?_⟩) (by assumption) ?_
          rotate_left
          · intro w hSw; (try dsimp only at hSw); go_simp
            first | done | with_reducible rfl
          try simp only [Act.put, List.setIfInBounds_toArray, List.set_cons_zero, List.set_cons_succ]
          refine wpAnyN_takeD (some 101) (by rfl) (i := 1) (oi := _) (v := ?_) rfl (by kernel_rfl) (by kernel_rfl) (by kernel_rfl) (by kernel_rfl) (fun _ _ _ h => h) (Or.inl ⟨by rfl, ?_⟩) (by assumption) ?_
          rotate_left
          · intro w hSw; (try dsimp only at hSw); go_simp
            first | done | with_reducible rfl
          try simp only [Act.put, List.setIfInBounds_toArray, List.set_cons_zero, List.set_cons_succ]
          refine wpAnyN_takeD (some 102) (by rfl) (i := 2) (oi := _) (v := ?_) rfl (by kernel_rfl) (by kernel_rfl) (by kernel_rfl) (by kernel_rfl) (fun _ _ _ h => h) (Or.inl ⟨by rfl, ?_⟩) (by assumption) ?_
          rotate_left
          · intro w hSw; (try dsimp only at hSw); go_simp
            first | done | with_reducible rfl
          try simp only [Act.put, List.setIfInBounds_toArray, List.set_cons_zero, List.set_cons_succ]
          refine wpAnyN_takeD (some 103) (by rfl) (i := 3) (oi := _) (v := ?_) rfl (by kernel_rfl) (by kernel_rfl) (by kernel_rfl) (by kernel_rfl) (fun _ _ _ h => h) (Or.inl ⟨by rfl, ?_⟩) (by assumption) ?_
          rotate_left
          · intro w hSw; (try dsimp only at hSw); go_simp
            first | done | with_reducible rfl
          try simp only [Act.put, List.setIfInBounds_toArray, List.set_cons_zero, List.set_cons_succ]
          refine wpAnyN_takeD (some 104) (by rfl) (i := 4) (oi := _) (v := ?_) rfl (by kernel_rfl) (by kernel_rfl) (by kernel_rfl) (by kernel_rfl) (fun _ _ _ h => h) (Or.inl ⟨by rfl, ?_⟩) (by assumption) ?_
          rotate_left
          · intro w hSw; (try dsimp only at hSw); go_simp
            first | done | with_reducible rfl
          try simp only [Act.put, List.setIfInBounds_toArray, List.set_cons_zero, List.set_cons_succ]
          refine wpAnyN_takeD (some 105) (by rfl) (i := 5) (oi := _) (v := ?_) rfl (by kernel_rfl) (by kernel_rfl) (by kernel_rfl) (by kernel_rfl) (fun _ _ _ h => h) (Or.inl ⟨by rfl, ?_⟩) (by assumption) ?_
          rotate_left
          · intro w hSw; (try dsimp only at hSw); go_simp
            first | done | with_reducible rfl
          try simp only [Act.put, List.setIfInBounds_toArray, List.set_cons_zero, List.set_cons_succ]
          refine wpAnyN_ready (rs := [6]) (by kernel_rfl) (by simp) ?_
          refine AllReadyN.held rfl (by rfl) (fun K hK => ?_) AllReadyN.nil
          go_simp
          refine (qsame_calls _ _ _ zc zc _ _ 1000 1000 (OwnR.later O10.out (HL1012.out.trans (Later.refl w12).drew)) (OwnR.later O12.out (HLB12.out.trans (Later.refl w12).drew)) HS.out HS.out (by omega) (by omega) true (by simp)).mono ?_
          rintro e w106 ⟨rfl, b6⟩
          refine hK.out _ _ ?_ (fun hHeld => ?_)
          · exact HT1.out _ ((Later.refl w12.drew).trans b6)
          clear hK K
          try simp only [Act.put, List.setIfInBounds_toArray, List.set_cons_zero, List.set_cons_succ]
          refine wpAnyN_takeD (some 107) (by rfl) (i := 7) (oi := _) (v := ?_) rfl (by kernel_rfl) (by kernel_rfl) (by kernel_rfl) (by kernel_rfl) (fun _ _ _ h => h) (Or.inl ⟨by rfl, ?_⟩) (by assumption) ?_
          rotate_left
          · intro w hSw; (try dsimp only at hSw); go_simp
            first | done | with_reducible rfl
          try simp only [Act.put, List.setIfInBounds_toArray, List.set_cons_zero, List.set_cons_succ]
          refine wpAnyN_takeD (some 108) (by rfl) (i := 8) (oi := _) (v := ?_) rfl (by kernel_rfl) (by kernel_rfl) (by kernel_rfl) (by kernel_rfl) (fun _ _ _ h => h) (Or.inl ⟨by rfl, ?_⟩) (by assumption) ?_
          rotate_left
          · intro w hSw; (try dsimp only at hSw); go_simp
            first | done | with_reducible rfl
          try simp only [Act.put, List.setIfInBounds_toArray, List.set_cons_zero, List.set_cons_succ]
          refine wpAnyN_takeD (some 109) (by rfl) (i := 9) (oi := _) (v := ?_) rfl (by kernel_rfl) (by kernel_rfl) (by kernel_rfl) (by kernel_rfl) (fun _ _ _ h => h) (Or.inl ⟨by rfl, ?_⟩) (by assumption) ?_
          rotate_left
          · intro w hSw; (try dsimp only at hSw); go_simp
            first | done | with_reducible rfl
          try simp only [Act.put, List.setIfInBounds_toArray, List.set_cons_zero, List.set_cons_succ]
          refine wpAnyN_takeD (some 110) (by rfl) (i := 10) (oi := _) (v := ?_) rfl (by kernel_rfl) (by kernel_rfl) (by kernel_rfl) (by kernel_rfl) (fun _ _ _ h => h) (Or.inl ⟨by rfl, ?_⟩) (by assumption) ?_
          rotate_left
          · intro w hSw; (try dsimp only at hSw); go_simp
            first | done | with_reducible rfl
          try simp only [Act.put, List.setIfInBounds_toArray, List.set_cons_zero, List.set_cons_succ]
          refine wpAnyN_takeD (some 112) (by rfl) (i := 12) (oi := _) (v := ?_) rfl (by kernel_rfl) (by kernel_rfl) (by kernel_rfl) (by kernel_rfl) (fun _ _ _ h => h) (Or.inl ⟨by rfl, ?_⟩) (by assumption) ?_
          rotate_left
          · intro w hSw; (try dsimp only at hSw); go_simp
            first | done | with_reducible rfl
          try simp only [Act.put, List.setIfInBounds_toArray, List.set_cons_zero, List.set_cons_succ]
          refine wpAnyN_takeD (some 113) (by rfl) (i := 13) (oi := _) (v := ?_) rfl (by kernel_rfl) (by kernel_rfl) (by kernel_rfl) (by kernel_rfl) (fun _ _ _ h => h) (Or.inl ⟨by rfl, ?_⟩) (by assumption) ?_
          rotate_left
          · intro w hSw; (try dsimp only at hSw); go_simp
            first | done | with_reducible rfl
          try simp only [Act.put, List.setIfInBounds_toArray, List.set_cons_zero, List.set_cons_succ]
          refine wpAnyN_ready (rs := [11]) (by kernel_rfl) (by simp) ?_
          refine AllReadyN.held rfl (by rfl) (fun K hK => ?_) AllReadyN.nil
          go_simp
          refine (plallowed_calls _ _ _ _ _ _ _ _ _ _ _ _ _ D (H.out.later (HL312.out.trans ((Later.refl w12).drew.trans ((Later.refl w12.drew).trans b6)))) _ _ _ t (HQ.out.later (HL312.out.trans ((Later.refl w12).drew.trans ((Later.refl w12.drew).trans b6)))) ua HUA.out).mono ?_
          rintro e w111 ⟨rfl, b11⟩
          refine hK.out _ _ ?_ (fun hHeld => ?_)
          · exact HT1.out _ (((Later.refl w12.drew).trans b6).trans b11)
          clear hK K
          try simp only [Act.put, List.setIfInBounds_toArray, List.set_cons_zero, List.set_cons_succ]
          refine wpAnyN_ready (rs := [14]) (by kernel_rfl) (by simp) ?_
          refine AllReadyN.held rfl (by rfl) (fun K hK => ?_) AllReadyN.nil
          go_simp
          refine (plallowed_calls _ _ _ _ _ _ _ _ _ _ _ _ _ (mvD D) (HB.out.later (HLB2.out.trans ((Later.refl w12).drew.trans (((Later.refl w12.drew).trans b6).trans b11)))) _ _ _ t (HQ.out.later (HL312.out.trans ((Later.refl w12).drew.trans (((Later.refl w12.drew).trans b6).trans b11)))) ua HUA2.out).mono ?_
          rintro e w114 ⟨rfl, b14⟩
          refine hK.out _ _ ?_ (fun hHeld => ?_)
          · exact HT1.out _ ((((Later.refl w12.drew).trans b6).trans b11).trans b14)
          clear hK K
          try simp only [Act.put, List.setIfInBounds_toArray, List.set_cons_zero, List.set_cons_succ]
          refine wpAnyN_takeD (some 115) (by rfl) (i := 15) (oi := _) (v := ?_) rfl (by kernel_rfl) (by kernel_rfl) (by kernel_rfl) (by kernel_rfl) (fun _ _ _ h => h) (Or.inl ⟨by rfl, ?_⟩) (by assumption) ?_
          rotate_left
          · intro w hSw; (try dsimp only at hSw); go_simp
            first | done | with_reducible rfl
          try simp only [Act.put, List.setIfInBounds_toArray, List.set_cons_zero, List.set_cons_succ]
          refine wpAnyN_takeD (some 116) (by rfl) (i := 16) (oi := _) (v := ?_) rfl (by kernel_rfl) (by kernel_rfl) (by kernel_rfl) (by kernel_rfl) (fun _ _ _ h => h) (Or.inl ⟨by rfl, ?_⟩) (by assumption) ?_
          rotate_left
          · intro w hSw; (try dsimp only at hSw); go_simp
            first | done | with_reducible rfl
          try simp only [Act.put, List.setIfInBounds_toArray, List.set_cons_zero, List.set_cons_succ]
          refine wpAnyN_takeD (some 4) (by rfl) (i := 17) (oi := _) (v := ?_) rfl (by kernel_rfl) (by kernel_rfl) (by kernel_rfl) (by kernel_rfl) (fun _ _ _ h => h) (Or.inl ⟨by rfl, ?_⟩) (by assumption) ?_
          rotate_left
          · intro w hSw; (try dsimp only at hSw); go_simp
            first | done | with_reducible rfl
          try simp only [Act.put, List.setIfInBounds_toArray, List.set_cons_zero, List.set_cons_succ]
          refine wpAnyN_done (by kernel_rfl) ?_ _
          have HLL := hide (HLZ.out.trans ((Later.refl w12).drew.trans ((((Later.refl w12.drew).trans b6).trans b11).trans b14)))
          clear hHeld
          go_wp2_with fail
          go_ret
          exact ⟨rfl, B0.out.trans HLL.out⟩
end Go.Proofs.YthncinngkfflgaaGreat

/- PlanFewer: an order fewer, capacities greater; the plain law and the walk. -/
set_option linter.unusedVariables false
set_option linter.unusedSimpArgs false
set_option maxRecDepth 100000
namespace Go.Proofs.YthncinngkfflgaaGreat
open Go.RowKit Go.Shelf
attribute [local go_sem ↓] Go.wp_at_zero Go.wp_at_succ

theorem allowed_mono {D E : PBook} {t : List (List Int)} (h' : mayB E = true) (e1 : E.items.length = D.items.length) (e2 : E.hor = D.hor) (e3 : E.now = D.now) (hf : ∀ i p, fixedV E i p = fixedV D i p) (hc : ∀ p, capV D p ≤ capV E p)
    (hl : ∀ r i k, lev D r i k ≤ lev E r i k) (h : allowedB D t = true) : allowedB E t = true := by
  have hfr : ∀ k m, freeB E k m = freeB D k m := by
    intro k m
    induction m with
    | zero => rfl
    | succ m ih =>
      show (freeB E k m || (fixedV E m (E.now + k)).isNone) = (freeB D k m || (fixedV D m (D.now + k)).isNone)
      rw [ih, hf, e3]
  obtain ⟨a, b, c⟩ := allowedB_iff.1 h
  refine allowedB_iff.2 ⟨⟨mayB_iff.1 h', by rw [a.len, e1], by rw [e2]; exact a.rows⟩, fun k hk => ?_, fun i r hr => ?_⟩
  · rw [e2] at hk
    obtain ⟨p1, p2⟩ := b k hk
    refine ⟨fun i hi n hn => p1 i hi n (by rw [← hf, ← e3]; exact hn), fun hh => ?_⟩
    rw [hfr] at hh
    have h1 := p2 hh
    have h2 := hc (D.now + k)
    rw [e3]; omega
  · rw [e2]
    have h1 := c i r hr
    have h2 := hl r i D.hor.toNat
    omega
def fewD (D : PBook) (k : Nat) : PBook := { D with ords := D.ords.eraseIdx k }
theorem ids_lt {l : List POrd} (h : ∀ (i : Nat) a b, l[i]? = some a → l[i+1]? = some b → a.id < b.id) : ∀ (i j : Nat) a b, i < j → l[i]? = some a → l[j]? = some b → a.id < b.id := by
  intro i j a b hij ha hb
  induction j generalizing b with
  | zero => omega
  | succ j ih =>
    by_cases e : i = j
    · subst e; exact h i a b ha hb
    · obtain ⟨c, hc⟩ : ∃ c, l[j]? = some c := ⟨l[j]'(by have := (List.getElem?_eq_some_iff.1 hb).1; omega), List.getElem?_eq_getElem _⟩
      have h1 := ih c (by omega) hc
      have h2 := h j c b hc hb
      omega
theorem few_may {D : PBook} (h : mayB D = true) (k : Nat) : mayB (fewD D k) = true := by
  have hm := mayB_iff.1 h
  have hmem : ∀ o ∈ D.ords.eraseIdx k, o ∈ D.ords := fun o ho => List.mem_of_mem_eraseIdx ho
  refine mayB_iff.2 ⟨⟨hm.head.items, hm.head.caps, hm.head.n1, hm.head.n3, hm.head.h1, hm.head.h6, hm.head.t0, hm.head.t40, hm.head.cl⟩, ?_, hm.ml, fun o ho => hm.ords o (hmem o ho), hm.mks, ?_, hm.mris⟩
  · show (D.ords.eraseIdx k).length ≤ 30
    have := List.length_eraseIdx_le D.ords k
    have := hm.ol
    omega
  · intro i a b ha hb
    have ha' : (D.ords.eraseIdx k)[i]? = some a := ha
    have hb' : (D.ords.eraseIdx k)[i+1]? = some b := hb
    rw [List.getElem?_eraseIdx] at ha' hb'
    have key := ids_lt hm.oris
    split at ha' <;> split at hb'
    · exact key _ _ a b (by omega) ha' hb'
    · exact key _ _ a b (by omega) ha' hb'
    · exact key _ _ a b (by omega) ha' hb'
    · exact key _ _ a b (by omega) ha' hb'
theorem erase_sum (l : List POrd) (k : Nat) (f : POrd → Int) : sumI ((l.eraseIdx k).map f) = sumI (l.map f) - ((l[k]?).map f).getD 0 := by
  induction l generalizing k with
  | nil => simp [sumI]
  | cons a l ih =>
    cases k with
    | zero => simp [sumI]; omega
    | succ k =>
      have := ih k
      simp only [List.eraseIdx_cons_succ, List.map_cons, sumI, List.getElem?_cons_succ]
      omega
theorem few_due {D : PBook} (h : mayB D = true) (k : Nat) (i p : Int) : dueV (fewD D k) i p ≤ dueV D i p := by
  unfold dueV; rw [if_pos h, if_pos (few_may h k)]
  show dueOf i p (D.ords.eraseIdx k) ≤ _
  unfold dueOf; rw [erase_sum]
  cases e : D.ords[k]? with
  | none => simp
  | some o =>
    have h1 := may_qty h o (List.mem_of_getElem? e)
    simp only [Option.map_some, Option.getD_some]
    split <;> omega
theorem few_there {D : PBook} (h : mayB D = true) (k : Nat) (i : Int) : thereV D i ≤ thereV (fewD D k) i := by
  unfold thereV; rw [if_pos h, if_pos (few_may h k)]
  show _ ≤ goneOf i D.now (D.ords.eraseIdx k) + cameOf i D.now D.mks
  have e1 : goneOf i D.now D.ords ≤ goneOf i D.now (D.ords.eraseIdx k) := by
    unfold goneOf; rw [erase_sum]
    cases e : D.ords[k]? with
    | none => simp
    | some o =>
      have h1 := may_qty h o (List.mem_of_getElem? e)
      simp only [Option.map_some, Option.getD_some]
      split <;> omega
  omega
theorem few_lev {D : PBook} (h : mayB D = true) (k : Nat) (r : List Int) (i : Int) (n : Nat) : lev D r i n ≤ lev (fewD D k) r i n := by
  induction n with
  | zero => exact few_there h k i
  | succ n ih =>
    show lev D r i n + (r.getD n 0 - dueV D i (D.now + n)) ≤ lev (fewD D k) r i n + (r.getD n 0 - dueV (fewD D k) i (D.now + n))
    have := few_due h k i (D.now + n)
    omega
theorem few_allowed {D : PBook} {t : List (List Int)} (h : mayB D = true) (k : Nat) (ha : allowedB D t = true) : allowedB (fewD D k) t = true := by
  have h' := few_may h k
  refine allowed_mono (D := D) h' rfl rfl rfl (fun i p => ?_) (fun p => ?_) (fun r i n => few_lev h k r i n) ha
  · unfold fixedV; rw [if_pos h, if_pos h']; rfl
  · unfold capV; rw [h, h']; exact Int.le_refl _
def moreC (z a : Int) : Int := min (z + a) 100
def moreD (D : PBook) (a : Int) : PBook := { D with caps := D.caps.map (moreC · a) }
theorem more_may {D : PBook} (h : mayB D = true) {a : Int} (ha : 0 ≤ a) : mayB (moreD D a) = true := by
  have hm := mayB_iff.1 h
  refine mayB_iff.2 ⟨⟨hm.head.items, ?_, hm.head.n1, hm.head.n3, hm.head.h1, hm.head.h6, hm.head.t0, hm.head.t40, ?_⟩, hm.ol, hm.ml, hm.ords, hm.mks, hm.oris, hm.mris⟩
  · intro c hc
    obtain ⟨z, hz, rfl⟩ := List.mem_map.1 hc
    have := hm.head.caps z hz
    unfold moreC; omega
  · show (D.caps.map (moreC · a)).length ≤ 40
    rw [List.length_map]; exact hm.head.cl
theorem more_allowed {D : PBook} {t : List (List Int)} (h : mayB D = true) {a : Int} (hna : 0 ≤ a) (ha : allowedB D t = true) : allowedB (moreD D a) t = true := by
  have h' := more_may h hna
  have hd : ∀ i p, dueV (moreD D a) i p = dueV D i p := fun i p => by unfold dueV; rw [if_pos h, if_pos h']; rfl
  have ht : ∀ i, thereV (moreD D a) i = thereV D i := fun i => by unfold thereV; rw [if_pos h, if_pos h']; rfl
  refine allowed_mono (D := D) h' rfl rfl rfl (fun i p => ?_) (fun p => ?_) (fun r i n => ?_) ha
  · unfold fixedV; rw [if_pos h, if_pos h']; rfl
  · unfold capV; rw [h, h']
    have e1 : (moreD D a).caps = D.caps.map (moreC · a) := rfl
    rw [e1, List.length_map]
    by_cases g : 0 ≤ p ∧ p < D.caps.length
    · rw [if_pos ⟨rfl, g⟩, if_pos ⟨rfl, g⟩]
      obtain ⟨z, hz⟩ : ∃ z, D.caps[p.toNat]? = some z := ⟨D.caps[p.toNat]'(by omega), List.getElem?_eq_getElem _⟩
      rw [List.getD_eq_getElem?_getD, List.getD_eq_getElem?_getD, List.getElem?_map, hz]
      have := (mayB_iff.1 h).head.caps z (List.mem_of_getElem? hz)
      show z ≤ moreC z a
      unfold moreC; omega
    · rw [if_neg (fun hh => g hh.2), if_neg (fun hh => g hh.2)]; exact Int.le_refl _
  · induction n with
    | zero => exact Int.le_of_eq (ht i).symm
    | succ n ih =>
      show lev D r i n + (r.getD n 0 - dueV D i (D.now + n)) ≤ lev (moreD D a) r i n + (r.getD n 0 - dueV (moreD D a) i (D.now + n))
      rw [hd]; omega

section
variable {w : World} {o : Oper} {a : Act} {K : Act → World → Prop} {Q : Exit → Act → World → Prop}
theorem wp_append_ownB {P : Program} (s x : Operand) (t : TypeId)
    (ho : o.op = .call { callee := .builtin .append, args := #[s, x], argTypes := #[t, t] })
    (base : Nat) (e : TypeId) (z : Value) (size bytes : Nat) (ht : P.underlying t = some (.slice e)) (hinfo : (P.info? e).map (fun i => (i.zero, i.size, i.bytes)) = some (some z, size, bytes))
    (hzs : z.cells.size = size) (hsz : 0 < size) (hby : bytes ≤ 1024)
    (v : Value) (n : Nat) (xs : List Value) (hs : a.eval s = v) (hown : w.ownsRow base e size v n xs)
    (ad : Addr) (m c : Nat) (news : List Value) (hx : a.eval x = .slice (some ad) m c) (hl : news.length = m * size) (hnews : ∀ j u, news[j]? = some u → w.cell? (ad.add j) = some u) (h1 : ∀ u ∈ news, u.oneCell' = true)
    (hnm : n + m ≤ 4000000000) (hbase : base ≤ w.heap.size)
    (h : ∀ v' w', w'.ownsRow base e size v' (n + m) (xs ++ news) → w.grownBy w' v.ownBlock → (v'.ownBlock = v.ownBlock ∨ v'.ownBlock = some w.heap.size) → K (a.put o.dst v') w') : o.wp P a w K Q := by
  obtain ⟨i, hi, hz0, hz1, hz2⟩ := info_parts hinfo
  have h5 : (n + m) * bytes ≤ 4000000000 * 1024 := Nat.mul_le_mul hnm hby
  obtain ⟨v', w', hr, h2, h3, h4, h5⟩ := run_append_own_at (P := P) w base t o.type e i z size bytes ht hi hz0 hz1 hz2 hzs hsz v n xs hown ad m c news hl hnews h1 (by unfold maxLen; omega) (by omega) hbase
  unfold Oper.wp execOp
  simp only [ho, resolve, invoke, builtin, Sem.run_bind, Sem.run_pure, Result.andThen_ok, List.map_toArray, List.map_cons, List.map_nil, hs, hx, hr]
  exact h v' w' h2 h3 h5
end

theorem Sq.cap_ {α : Type} {m : Nat} {enc : α → List Value} {w : World} {A : Option Addr} {n c : Nat} {l : List α} (h : Sq m enc w (.slice A n c) l) : n ≤ c ∧ c ≤ maxLen := by
  obtain ⟨_, _, _, e, -, h1, h2, -⟩ := h.form
  injection e with _ e1 e2
  omega
theorem Sq.flat4 {w : World} {b off n c : Nat} {l : List POrd} (h : Sq 4 oCells w (.slice (some ⟨b, off, none⟩) n c) l) (j : Nat) (u : Value) (hj : (l.flatMap oCells)[j]? = some u) : w.cell? ⟨b, off + j, none⟩ = some u := by
  have hlf : (l.flatMap oCells).length = l.length * 4 := by
    clear h hj
    induction l with
    | nil => rfl
    | cons a l ih => rw [List.flatMap_cons, List.length_append, ih, oCells_len, List.length_cons]; omega
  have hlt := (List.getElem?_eq_some_iff.1 hj).1
  obtain ⟨x, hx⟩ : ∃ x, l[j / 4]? = some x := ⟨l[j / 4]'(by omega), List.getElem?_eq_getElem _⟩
  obtain ⟨b', off', e, hc⟩ := h.at_ hx
  injection e with e; injection e with e1 e2; subst e1; subst e2
  have h1 := flatMap_get oCells 4 oCells_len l (j / 4) (j % 4) x hx (Nat.mod_lt _ (by omega))
  rw [show j / 4 * 4 + j % 4 = j by omega, hj] at h1
  have h2 := hc (j % 4) u h1.symm
  rw [show off + j / 4 * 4 + j % 4 = off + j by omega] at h2
  exact h2
theorem flat_split (l : List POrd) (k : Nat) : l.flatMap oCells = (l.take k).flatMap oCells ++ (l.drop k).flatMap oCells := by
  rw [← List.flatMap_append, List.take_append_drop]
theorem flat_len (l : List POrd) : (l.flatMap oCells).length = l.length * 4 := by
  induction l with
  | nil => rfl
  | cons a l ih => rw [List.flatMap_cons, List.length_append, ih, oCells_len, List.length_cons]; omega
theorem Sq.take4 {w : World} {b off n c : Nat} {l : List POrd} (h : Sq 4 oCells w (.slice (some ⟨b, off, none⟩) n c) l) (k : Nat) : ∀ j u, ((l.take k).flatMap oCells)[j]? = some u → w.cell? ⟨b, off + j, none⟩ = some u := fun j u hj => by
  refine h.flat4 j u ?_
  rw [flat_split l k, List.getElem?_append_left (List.getElem?_eq_some_iff.1 hj).1]; exact hj
theorem Sq.drop4 {w : World} {b off n c : Nat} {l : List POrd} (h : Sq 4 oCells w (.slice (some ⟨b, off, none⟩) n c) l) (k : Nat) (hk : k ≤ l.length) : ∀ j u, ((l.drop k).flatMap oCells)[j]? = some u → w.cell? ⟨b, off + k * 4 + j, none⟩ = some u := fun j u hj => by
  rw [Nat.add_assoc]
  refine h.flat4 _ u ?_
  rw [flat_split l k, List.getElem?_append_right (by rw [flat_len, List.length_take]; omega), flat_len, List.length_take, Nat.min_eq_left hk, Nat.add_sub_cancel_left]; exact hj
theorem wp_append_ord {w : World} {o : Oper} {a : Act} {K : Act → World → Prop} {Q : Exit → Act → World → Prop} (s x : Operand) (ho : o.op = .call { callee := .builtin .append, args := #[s, x], argTypes := #[44, 44] })
    {lo : Nat} {v : Value} {l : List POrd} (l' : List POrd) {b off m c : Nat} (hs : a.eval s = v) (hown : w.ownsRow lo 65 4 v l.length (l.flatMap oCells)) (hx : a.eval x = .slice (some ⟨b, off, none⟩) m c) (hm : m = l'.length)
    (hsrc : ∀ j u, (l'.flatMap oCells)[j]? = some u → w.cell? ⟨b, off + j, none⟩ = some u) (hlen : l.length + l'.length ≤ 3000000) (hbase : lo ≤ w.heap.size)
    (h : ∀ v' w', w'.ownsRow lo 65 4 v' (l ++ l').length ((l ++ l').flatMap oCells) → w.grownBy w' v.ownBlock → (v'.ownBlock = v.ownBlock ∨ v'.ownBlock = some w.heap.size) → K (a.put o.dst v') w') : o.wp Tryz.prog a w K Q := by
  subst hm
  refine wp_append_ownB s x _ ho lo 65 _ 4 32 Tryz.underlying44 info_po rfl (by omega) (by omega) v l.length _ hs hown ⟨b, off, none⟩ l'.length c (l'.flatMap oCells) hx (by rw [flat_len]) (fun j u hj => by rw [Go.WideShapes.add_plain]; exact hsrc j u hj) (fun u hu => ?_) (by omega) hbase ?_
  · obtain ⟨z, -, hz⟩ := List.mem_flatMap.1 hu
    simp [oCells] at hz
    rcases hz with rfl | rfl | rfl | rfl <;> rfl
  · intro v' w' k1 k2 k3
    refine h v' w' ?_ k2 k3
    rw [List.length_append, List.flatMap_append]; exact k1

theorem wp_append_int {w : World} {o : Oper} {a : Act} {K : Act → World → Prop} {Q : Exit → Act → World → Prop} (s x : Operand) (ho : o.op = .call { callee := .builtin .append, args := #[s, x], argTypes := #[43, 43] })
    {lo : Nat} {v : Value} {l : List Int} {g : Nat} (y : Int) (hs : a.eval s = v) (hown : w.ownsRow lo 3 1 v l.length (l.flatMap iCells)) (hx : a.eval x = .slice (some ⟨g, 0, none⟩) 1 1) (hrow : Row w g 3 (iCells y)) (hlen : l.length ≤ 3000000) (hbase : lo ≤ w.heap.size)
    (h : ∀ v' w', w'.ownsRow lo 3 1 v' (l ++ [y]).length ((l ++ [y]).flatMap iCells) → w.grownBy w' v.ownBlock → (v'.ownBlock = v.ownBlock ∨ v'.ownBlock = some w.heap.size) → K (a.put o.dst v') w') : o.wp Tryz.prog a w K Q := by
  refine wp_append_ownB s x _ ho lo 3 _ 1 8 Tryz.underlying43 info_i1 rfl (by omega) (by omega) v l.length _ hs hown ⟨g, 0, none⟩ 1 1 (iCells y) hx rfl (fun j u hj => by rw [Go.WideShapes.add_plain, Nat.zero_add]; exact hrow.cell hj) (by simp [iCells, Value.oneCell']) (by omega) hbase ?_
  intro v' w' k1 k2 k3
  refine h v' w' ?_ k2 k3
  rw [List.length_append, List.flatMap_append, List.flatMap_cons, List.flatMap_nil, List.append_nil]; exact k1

set_option maxHeartbeats 16000000 in
theorem planfewer_walk (w : World) (v0 v1 : Value) (z : Int) (h0 : ArgBook w v0) (h1 : ArgGrid w v1) (hz : (Lit.int .u8 z).wf = true) :
    Calls Tryz.prog 10 #[v0, v1, .int .u8 z] w (RetV w (.bool true)) := by
  have hz0 : 0 ≤ z := by simp [Lit.wf, IntKind.min, IntKind.max, IntKind.bits, IntKind.signed] at hz; omega
  have hz1 : z ≤ 255 := by simp [Lit.wf, IntKind.min, IntKind.max, IntKind.bits, IntKind.signed] at hz; omega
  have hwz : IntKind.i64.wrap z = z := IntWalk.i64_in _ (by omega)
  clear hz
  obtain ⟨A1, A2, A3, A4, n1, n2, n3, n4, c1, c2, c3, c4, hor, now, caps, ords, mks, rfl, hi, hcp, hor', hmk, hft⟩ := h0
  have HI := hide hi; have HCP := hide hcp; have HOR := hide hor'; have HMK := hide hmk; have HFT := hide hft
  clear hi hcp hor' hmk hft
  obtain ⟨Aq, nq, cq, t, rfl, hg, hgf, hgl⟩ := h1
  have HG := hide hg; have HGF := hide hgf; have HGL := hide hgl
  clear hg hgf hgl
  obtain ⟨W0, hW0⟩ : ∃ W0, W0 = (w.alloc (Obj.cells #[Value.slice A1 n1 c1, Value.int .i64 hor, Value.int .i64 now, Value.slice A2 n2 c2, Value.slice A3 n3 c3, Value.slice A4 n4 c4] 47)) := ⟨_, rfl⟩
  obtain ⟨hb0, r0, hsz0⟩ := boxes1 w [.slice A1 n1 c1, .int .i64 hor, .int .i64 now, .slice A2 n2 c2, .slice A3 n3 c3, .slice A4 n4 c4] 47 hW0
  have B0 := hide hb0; have HW0 := hide hW0
  have R0 := hide r0
  clear hb0 hW0 hsz0 r0
  go_enter Tryz.func10, Tryz.ntmps10
  go_upto_region 1 with fail
  rw [← HW0.out]
  go_wp2_with fail
  ((with_reducible refine (awake17_calls W0).mono ?_); rintro e w1 ⟨rfl, b1⟩)
  have HL1 := hide b1
  clear b1
  have r_d := R0.out.later HL1.out
  have d0 := r_d.cell (i := 0) rfl; have d1 := r_d.cell (i := 1) rfl; have d2 := r_d.cell (i := 2) rfl; have d3 := r_d.cell (i := 3) rfl; have d4 := r_d.cell (i := 4) rfl; have d5 := r_d.cell (i := 5) rfl
  clear r_d
  go_wp2_with fail
  ((with_reducible refine (few17_calls w1 _ _ _ _ _ _ _ _ _ _ _ _ hor now caps ords mks (HI.out.later (B0.out.trans HL1.out)) (HCP.out.later (B0.out.trans HL1.out)) (HOR.out.later (B0.out.trans HL1.out)) (HMK.out.later (B0.out.trans HL1.out)) HFT.out.1 HFT.out.2.1 HFT.out.2.2.1 HFT.out.2.2.2.1 HFT.out.2.2.2.2).mono ?_); rintro e w2 ⟨uf, rfl, b2, hf⟩)
  have HF := hide hf; have HL2 := hide (HL1.out.trans b2)
  have HLB := hide b2
  clear b2 hf d0 d1 d2 d3 d4 d5
  have r_d := R0.out.later HL2.out
  have d0 := r_d.cell (i := 0) rfl; have d1 := r_d.cell (i := 1) rfl; have d2 := r_d.cell (i := 2) rfl; have d3 := r_d.cell (i := 3) rfl; have d4 := r_d.cell (i := 4) rfl; have d5 := r_d.cell (i := 5) rfl
  clear r_d
  cases uf with
  | false =>
    go_wp2_with fail
    go_ret
    exact ⟨rfl, B0.out.trans HL2.out⟩
  | true =>
  obtain ⟨D, rfl, rfl, rfl, rfl, rfl, hbk⟩ := HF.out (by first | rfl | trivial)
  have H := hide (hbk.later HLB.out)
  clear hbk HF HI HCP HOR HMK HFT HLB
  go_wp2_with fail
  ((with_reducible refine (fewplan_calls w2 _ _ _ t (HG.out.later (B0.out.trans HL2.out)) HGF.out HGL.out).mono ?_); rintro e w3 ⟨uf, rfl, b3, hf⟩)
  have HF := hide hf; have HL3 := hide (HL2.out.trans b3)
  have HK3 := hide b3
  clear b3 hf d0 d1 d2 d3 d4 d5
  have r_d := R0.out.later HL3.out
  have d0 := r_d.cell (i := 0) rfl; have d1 := r_d.cell (i := 1) rfl; have d2 := r_d.cell (i := 2) rfl; have d3 := r_d.cell (i := 3) rfl; have d4 := r_d.cell (i := 4) rfl; have d5 := r_d.cell (i := 5) rfl
  clear r_d
  cases uf with
  | false =>
    go_wp2_with fail
    go_ret
    exact ⟨rfl, B0.out.trans HL3.out⟩
  | true =>
  have HQ := hide ((HF.out (by first | rfl | trivial)).later HK3.out)
  have H3 := hide (H.out.later HK3.out)
  clear H HF HG HGF HGL
  have H := H3
  clear H3
  obtain ⟨u0, hu0⟩ : ∃ u, mayB D = u := ⟨_, rfl⟩
  obtain ⟨ua, hua⟩ : ∃ u, allowedB D t = u := ⟨_, rfl⟩
  have HU0 := hide hu0; have HUA := hide hua
  have L3 := hide H.out.lens.2.2.1; have L2 := hide H.out.lens.2.1
  have hn3 : n3 ≤ 1000 := by have := H.out.ol; have := L3.out; omega
  have hn2 : n2 ≤ 1000 := by have := H.out.cl; have := L2.out; omega
  clear hu0 hua
  go_wp2_with fail
  ((with_reducible refine (rmay_calls _ _ _ _ _ _ _ _ _ _ _ _ _ D H.out u0 HU0.out).mono ?_); rintro e w4 ⟨rfl, b4⟩)
  have HL4 := hide (HL3.out.trans b4); have HL34 := hide b4
  clear b4 d0 d1 d2 d3 d4 d5
  have r_d := R0.out.later HL4.out
  have d0 := r_d.cell (i := 0) rfl; have d1 := r_d.cell (i := 1) rfl; have d2 := r_d.cell (i := 2) rfl; have d3 := r_d.cell (i := 3) rfl; have d4 := r_d.cell (i := 4) rfl; have d5 := r_d.cell (i := 5) rfl
  clear r_d
  cases u0 with
  | false =>
    go_wp2_with fail
    go_ret
    exact ⟨rfl, B0.out.trans HL4.out⟩
  | true =>
  go_wp2_with fail
  ((with_reducible refine (plallowed_calls _ _ _ _ _ _ _ _ _ _ _ _ _ D (H.out.later HL34.out) _ _ _ t (HQ.out.later HL34.out) ua HUA.out).mono ?_); rintro e w5 ⟨rfl, b5⟩)
  have HL5 := hide (HL4.out.trans b5); have HL35 := hide (HL34.out.trans b5)
  clear b5 d0 d1 d2 d3 d4 d5
  have r_d := R0.out.later HL5.out
  have d0 := r_d.cell (i := 0) rfl; have d1 := r_d.cell (i := 1) rfl; have d2 := r_d.cell (i := 2) rfl; have d3 := r_d.cell (i := 3) rfl; have d4 := r_d.cell (i := 4) rfl; have d5 := r_d.cell (i := 5) rfl
  clear r_d
  cases ua with
  | false =>
    go_wp2_with fail
    go_ret
    exact ⟨rfl, B0.out.trans HL5.out⟩
  | true =>
  have HMAY := hide (mayB_iff.1 HU0.out)
  by_cases g0 : 0 < n3
  · have g1 : (0 : Int) < (n3 : Int) := by omega
    obtain ⟨k, hk⟩ : ∃ k : Nat, z % (n3 : Int) = (k : Int) := ⟨(z % (n3 : Int)).toNat, by have := Int.emod_nonneg z (show (n3 : Int) ≠ 0 by omega); omega⟩
    have hkn : k < n3 := by have := Int.emod_lt_of_pos z g1; omega
    have hkn1 : (k : Int) < n3 := by omega
    have hk0 : (0 : Int) ≤ (k : Int) := by omega
    have hcc := (H.out.ords).cap_
    have hcc1 : (n3 : Int) ≤ c3 := by omega
    obtain ⟨o0, ho0⟩ : ∃ o, D.ords[0]? = some o := ⟨D.ords[0]'(by have := L3.out; omega), List.getElem?_eq_getElem _⟩
    obtain ⟨b1, off1, hA3, -⟩ := (H.out.later HL35.out).ords.at4 ho0
    subst hA3
    clear ho0
    have hkw : IntKind.i64.wrap ((k : Int) + 1) = (k : Int) + 1 := IntWalk.i64_in _ (by omega)
    have hk3 : (0 : Int) ≤ (k : Int) + 1 := by omega
    have hk6 : (k : Int) ≤ c3 := by omega
    have hk7 : (k : Int) ≤ n3 := by omega
    have hc0 : ¬ c3 = 0 := by omega
    have hk4 : (k : Int) + 1 ≤ n3 := by omega
    have hk5 : ((k : Int) + 1).toNat = k + 1 := by omega
    obtain ⟨off9, hif, hof⟩ : ∃ off9, (if c3 = k + 1 then some (⟨b1, off1, none⟩ : Addr) else some ⟨b1, off1 + (k + 1) * 4, none⟩) = some ⟨b1, off9, none⟩ ∧ (c3 = k + 1 ∨ off9 = off1 + (k + 1) * 4) := by
      by_cases e : c3 = k + 1
      · exact ⟨off1, by rw [if_pos e], .inl e⟩
      · exact ⟨_, by rw [if_neg e], .inr rfl⟩
    have HOF : Hid (∀ W, Later w3 W → ∀ j u, ((D.ords.drop (k+1)).flatMap oCells)[j]? = some u → W.cell? ⟨b1, off9 + j, none⟩ = some u) := hide (fun W hW j u hj => by
      rcases hof with e | e
      · rw [List.drop_eq_nil_of_le (by have := L3.out; omega)] at hj
        simp at hj
      · rw [e]; exact (H.out.later hW).ords.drop4 (k+1) (by have := L3.out; omega) j u hj)
    clear hof
    go_upto_region 8 with fail
    obtain ⟨w6, hw6⟩ : ∃ w6, w6 = w5.alloc (Obj.cells #[Value.slice A1 n1 c1, Value.int .i64 D.hor, Value.int .i64 D.now, Value.slice A2 n2 c2, Value.slice (some ⟨b1, off1, none⟩) n3 c3, Value.slice A4 n4 c4] 47) := ⟨_, rfl⟩
    obtain ⟨G, hG⟩ : ∃ G, G = w5.heap.size := ⟨_, rfl⟩
    have bw6 : Later w5 w6 := by rw [hw6]; exact (Later.refl _).alloc _
    have rG : Row w6 G 47 [.slice A1 n1 c1, .int .i64 D.hor, .int .i64 D.now, .slice A2 n2 c2, .slice (some ⟨b1, off1, none⟩) n3 c3, .slice A4 n4 c4] := by rw [hw6, hG]; exact Row.new _ _ _
    rw [← hw6, ← hG]
    have HG : Hid (w5.heap.size ≤ G) := hide (by rw [hG]; exact Nat.le_refl _)
    have hsa : w6.heap.size = G + 1 := by rw [hw6, World.size_alloc, hG]
    have HW6 := hide hsa
    have RG := hide rG; have HL56 := hide bw6
    clear hw6 hG rG bw6 d0 d1 d2 d3 d4 d5 hsa
    have hrx := R0.out.later HL5.out
    have HT1 : Hid (∀ w', Later w5 w' → w'.cell? ⟨w.heap.size, 0, none⟩ = some (.slice A1 n1 c1) ∧ w'.cell? ⟨w.heap.size, 1, none⟩ = some (.int .i64 D.hor) ∧ w'.cell? ⟨w.heap.size, 2, none⟩ = some (.int .i64 D.now) ∧ w'.cell? ⟨w.heap.size, 3, none⟩ = some (.slice A2 n2 c2) ∧ w'.cell? ⟨w.heap.size, 4, none⟩ = some (.slice (some ⟨b1, off1, none⟩) n3 c3) ∧ w'.cell? ⟨w.heap.size, 5, none⟩ = some (.slice A4 n4 c4)) := hide fun w' hb => ⟨(hrx.later hb).cell rfl, (hrx.later hb).cell rfl, (hrx.later hb).cell rfl, (hrx.later hb).cell rfl, (hrx.later hb).cell rfl, (hrx.later hb).cell rfl⟩
    clear hrx
    have hmx : Tryz.prog.follows .mixedOrders = true := by kernel_rfl
    refine wp_region_N (fun w' => w'.cell? ⟨w.heap.size, 0, none⟩ = some (.slice A1 n1 c1) ∧ w'.cell? ⟨w.heap.size, 1, none⟩ = some (.int .i64 D.hor) ∧ w'.cell? ⟨w.heap.size, 2, none⟩ = some (.int .i64 D.now) ∧ w'.cell? ⟨w.heap.size, 3, none⟩ = some (.slice A2 n2 c2) ∧ w'.cell? ⟨w.heap.size, 4, none⟩ = some (.slice (some ⟨b1, off1, none⟩) n3 c3) ∧ w'.cell? ⟨w.heap.size, 5, none⟩ = some (.slice A4 n4 c4)) [13] hmx (HT1.out _ HL56.out.drew) (fun hHeld => ?_)
    refine wpAnyN_takeD (some 44) (by rfl) (i := 1) (oi := _) (v := ?_) rfl (by kernel_rfl) (by kernel_rfl) (by kernel_rfl) (by kernel_rfl) (fun _ _ _ h => h) (Or.inl ⟨by rfl, ?_⟩) (by assumption) ?_
    rotate_left
    · intro w hSw; (try dsimp only at hSw); go_simp
      first | done | with_reducible rfl
    try simp only [Act.put, List.setIfInBounds_toArray, List.set_cons_zero, List.set_cons_succ]
    refine wpAnyN_takeD (some 45) (by rfl) (i := 2) (oi := _) (v := ?_) rfl (by kernel_rfl) (by kernel_rfl) (by kernel_rfl) (by kernel_rfl) (fun _ _ _ h => h) (Or.inl ⟨by rfl, ?_⟩) (by assumption) ?_
    rotate_left
    · intro w hSw; (try dsimp only at hSw); go_simp
      first | done | with_reducible rfl
    try simp only [Act.put, List.setIfInBounds_toArray, List.set_cons_zero, List.set_cons_succ]
    refine wpAnyN_takeD (some 46) (by rfl) (i := 3) (oi := _) (v := ?_) rfl (by kernel_rfl) (by kernel_rfl) (by kernel_rfl) (by kernel_rfl) (fun _ _ _ h => h) (Or.inl ⟨by rfl, ?_⟩) (by assumption) ?_
    rotate_left
    · intro w hSw; (try dsimp only at hSw); go_simp
      first | done | with_reducible rfl
    try simp only [Act.put, List.setIfInBounds_toArray, List.set_cons_zero, List.set_cons_succ]
    refine wpAnyN_takeD (some 47) (by rfl) (i := 4) (oi := _) (v := ?_) rfl (by kernel_rfl) (by kernel_rfl) (by kernel_rfl) (by kernel_rfl) (fun _ _ _ h => h) (Or.inl ⟨by rfl, ?_⟩) (by assumption) ?_
    rotate_left
    · intro w hSw; (try dsimp only at hSw); go_simp
      first | done | with_reducible rfl
    try simp only [Act.put, List.setIfInBounds_toArray, List.set_cons_zero, List.set_cons_succ]
    refine wpAnyN_takeD (some 49) (by rfl) (i := 6) (oi := _) (v := ?_) rfl (by kernel_rfl) (by kernel_rfl) (by kernel_rfl) (by kernel_rfl) (fun _ _ _ h => h) (Or.inl ⟨by rfl, ?_⟩) (by assumption) ?_
    rotate_left
    · intro w hSw; (try dsimp only at hSw); go_simp
      first | done | with_reducible rfl
    try simp only [Act.put, List.setIfInBounds_toArray, List.set_cons_zero, List.set_cons_succ]
    refine wpAnyN_takeD (some 50) (by rfl) (i := 7) (oi := _) (v := ?_) rfl (by kernel_rfl) (by kernel_rfl) (by kernel_rfl) (by kernel_rfl) (fun _ _ _ h => h) (Or.inl ⟨by rfl, ?_⟩) (by assumption) ?_
    rotate_left
    · intro w hSw; (try dsimp only at hSw); go_simp
      first | done | with_reducible rfl
    try simp only [Act.put, List.setIfInBounds_toArray, List.set_cons_zero, List.set_cons_succ]
    refine wpAnyN_takeD (some 51) (by rfl) (i := 8) (oi := _) (v := ?_) rfl (by kernel_rfl) (by kernel_rfl) (by kernel_rfl) (by kernel_rfl) (fun _ _ _ h => h) (Or.inl ⟨by rfl, ?_⟩) (by assumption) ?_
    rotate_left
    · intro w hSw; (try dsimp only at hSw); go_simp
      first | done | with_reducible rfl
    try simp only [Act.put, List.setIfInBounds_toArray, List.set_cons_zero, List.set_cons_succ]
    refine wpAnyN_takeD (some 52) (by rfl) (i := 9) (oi := _) (v := ?_) rfl (by kernel_rfl) (by kernel_rfl) (by kernel_rfl) (by kernel_rfl) (fun _ _ _ h => h) (Or.inl ⟨by rfl, ?_⟩) (by assumption) ?_
    rotate_left
    · intro w hSw; (try dsimp only at hSw); go_simp
      first | done | with_reducible rfl
    try simp only [Act.put, List.setIfInBounds_toArray, List.set_cons_zero, List.set_cons_succ]
    refine wpAnyN_takeD (some 53) (by rfl) (i := 10) (oi := _) (v := ?_) rfl (by kernel_rfl) (by kernel_rfl) (by kernel_rfl) (by kernel_rfl) (fun _ _ _ h => h) (Or.inl ⟨by rfl, ?_⟩) (by assumption) ?_
    rotate_left
    · intro w hSw; (try dsimp only at hSw); go_simp
      first | done | with_reducible rfl
    try simp only [Act.put, List.setIfInBounds_toArray, List.set_cons_zero, List.set_cons_succ]
    refine wpAnyN_ready (rs := [0]) (by kernel_rfl) (by simp) ?_
    refine AllReadyN.held rfl (by rfl) (fun K hK => ?_) AllReadyN.nil
    go_simp
    refine hK.out _ _ ?_ (fun hHeld => ?_)
    · exact HT1.out _ (HL56.out.alloc _).drew
    clear hK K
    try simp only [Act.put, List.setIfInBounds_toArray, List.set_cons_zero, List.set_cons_succ]
    refine wpAnyN_ready (rs := [5]) (by kernel_rfl) (by simp) ?_
    refine AllReadyN.held rfl (by rfl) (fun K hK => ?_) AllReadyN.nil
    refine wp_append_ord _ _ rfl (D.ords.take k) (l := []) rfl (World.ownsRow.drew (World.ownsRow_lit w6 #[] (e := 65) (size := 4) 0 (Nat.le_refl _) (by decide) rfl)) rfl (by rw [List.length_take]; have := L3.out; omega) ((H.out.later (HL35.out.trans (HL56.out.alloc _).drew)).ords.take4 k) (by rw [List.length_take, List.length_nil]; omega) (by show w6.heap.size ≤ (w6.alloc _).heap.size; rw [World.size_alloc]; omega) ?_
    intro v8 w8 k1 k2 k3
    have l5 : Later w5 w8 := ((HL56.out.alloc _).drew).grown k2 (fun q hq => by have := (World.ownsRow.lt (World.ownsRow.drew (World.ownsRow_lit w6 #[] (e := 65) (size := 4) 0 (Nat.le_refl _) (by decide) rfl)) q hq).1; have h2 := HL56.out.size; omega)
    have l58 : Later w6 w8 := (((Later.refl w6).alloc _).drew).grown k2 (fun q hq => (World.ownsRow.lt (World.ownsRow.drew (World.ownsRow_lit w6 #[] (e := 65) (size := 4) 0 (Nat.le_refl _) (by decide) rfl)) q hq).1)
    have HK8 := hide k1
    clear k1 k2 k3
    refine hK.out _ _ ?_ (fun hHeld => ?_)
    · exact HT1.out _ l5
    clear hK K
    try simp only [Act.put, List.setIfInBounds_toArray, List.set_cons_zero, List.set_cons_succ]
    refine wpAnyN_ready (rs := [11]) (by kernel_rfl) (by simp) ?_
    refine AllReadyN.held rfl (by rfl) (fun K hK => ?_) AllReadyN.nil
    refine wp_append_ord _ _ rfl (D.ords.drop (k+1)) rfl HK8.out rfl (by rw [List.length_drop]; have := L3.out; omega) (fun j u hj => HOF.out _ (HL35.out.trans l5) j u hj) (by rw [List.length_drop, List.nil_append, List.length_take]; have := L3.out; omega) l58.size ?_
    intro v9 w9 k1 k2 k3
    obtain ⟨A9, n9, c9, rfl, -, -, -, -⟩ := (Sq.of_own oCells_len k1).form
    have l11 : Later w5 w9 := l5.grown k2 (fun q hq => by have := (World.ownsRow.lt HK8.out q hq).1; have h2 := HL56.out.size; omega)
    have hr9 : Row w9 G 47 [.slice A1 n1 c1, .int .i64 D.hor, .int .i64 D.now, .slice A2 n2 c2, .slice (some ⟨b1, off1, none⟩) n3 c3, .slice A4 n4 c4] := (RG.out.later l58).grown k2 (fun e => by
      have h1 := (World.ownsRow.lt HK8.out G e.symm).1
      have h2 := HW6.out
      omega)
    have HK9 := hide k1
    have HR9 := hide hr9
    have f0 := hr9.cell (i := 0) rfl; have f1 := hr9.cell (i := 1) rfl; have f2 := hr9.cell (i := 2) rfl; have f3 := hr9.cell (i := 3) rfl; have f4 := hr9.cell (i := 4) rfl; have f5 := hr9.cell (i := 5) rfl; have z4 := hr9.frozen 4
    clear k1 k2 k3 hr9
    refine hK.out _ _ ?_ (fun hHeld => ?_)
    · exact HT1.out _ l11
    clear hK K
    try simp only [Act.put, List.setIfInBounds_toArray, List.set_cons_zero, List.set_cons_succ]
    refine wpAnyN_takeD (some 55) (by rfl) (i := 12) (oi := _) (v := ?_) rfl (by kernel_rfl) (by kernel_rfl) (by kernel_rfl) (by kernel_rfl) (fun _ _ _ h => h) (Or.inl ⟨by rfl, ?_⟩) (by assumption) ?_
    rotate_left
    · intro w hSw; (try dsimp only at hSw); go_simp
      first | done | with_reducible rfl
    try simp only [Act.put, List.setIfInBounds_toArray, List.set_cons_zero, List.set_cons_succ]
    refine wpAnyN_ready (rs := [13]) (by kernel_rfl) (by simp) ?_
    refine AllReadyN.free rfl (by rfl) (by kernel_rfl) (fun K hK => ?_) AllReadyN.nil
    go_simp
    refine hK.out _ _ ?_
    clear hK K
    try simp only [Act.put, List.setIfInBounds_toArray, List.set_cons_zero, List.set_cons_succ]
    refine wpAnyN_done (by kernel_rfl) ?_ _
    clear hHeld f0 f1 f2 f3 f4 f5 z4
    obtain ⟨wy, hwy⟩ : ∃ wy, wy = w9.setCell ⟨G, 4, none⟩ (.slice A9 n9 c9) := ⟨_, rfl⟩
    have oo : Only G w9 wy := by rw [hwy]; exact Only.one G w9 4 _
    have ry : Row wy G 47 [.slice A1 n1 c1, .int .i64 D.hor, .int .i64 D.now, .slice A2 n2 c2, .slice A9 n9 c9, .slice A4 n4 c4] := by rw [hwy]; exact HR9.out.set_ 4 _
    rw [← hwy]
    have HLy : Hid (Later w5 wy) := hide (l11.only oo HG.out)
    have hsq : Sq 4 oCells wy (.slice A9 n9 c9) (D.ords.eraseIdx k) := by
      have h1 := (Sq.of_own oCells_len (ownsRow_only HK9.out oo (by have := HW6.out; omega)))
      rw [List.nil_append, ← List.eraseIdx_eq_take_drop_succ] at h1
      exact h1
    have HB : Hid (BookIn wy (.slice A1 n1 c1) (.slice A2 n2 c2) (.slice A9 n9 c9) (.slice A4 n4 c4) (fewD D k)) := hide
      { its := (H.out.later (HL35.out.trans HLy.out)).its, caps := (H.out.later (HL35.out.trans HLy.out)).caps, ords := hsq, mks := (H.out.later (HL35.out.trans HLy.out)).mks, il := H.out.il, cl := H.out.cl,
        ol := by (show (D.ords.eraseIdx k).length ≤ 1000); have := List.length_eraseIdx_le D.ords k; have := H.out.ol; omega,
        ml := H.out.ml, hfit := H.out.hfit, nfit := H.out.nfit, cfit := H.out.cfit, ofit := fun o ho => H.out.ofit o (List.mem_of_mem_eraseIdx ho), mfit := H.out.mfit }
    have RY := hide ry
    clear hwy oo ry hsq HK9 HK8 HR9 l11 l5 l58
    have f0 := RY.out.cell (i := 0) rfl; have f1 := RY.out.cell (i := 1) rfl; have f2 := RY.out.cell (i := 2) rfl; have f3 := RY.out.cell (i := 3) rfl; have f4 := RY.out.cell (i := 4) rfl; have f5 := RY.out.cell (i := 5) rfl; have z4 := RY.out.frozen 4
    go_wp2_with fail
    ((refine (plallowed_calls _ _ _ _ _ _ _ _ _ _ _ _ _ (fewD D k) HB.out _ _ _ t (HQ.out.later (HL35.out.trans HLy.out)) true (few_allowed HU0.out k HUA.out)).mono ?_); rintro e wz ⟨rfl, bz⟩)
    have HZ5 := hide (HLy.out.trans bz)
    clear bz f0 f1 f2 f3 f4 f5 z4 HB RY
    have r_d := R0.out.later (HL5.out.trans HZ5.out)
    have d0 := r_d.cell (i := 0) rfl; have d1 := r_d.cell (i := 1) rfl; have d2 := r_d.cell (i := 2) rfl; have d3 := r_d.cell (i := 3) rfl; have d4 := r_d.cell (i := 4) rfl; have d5 := r_d.cell (i := 5) rfl
    clear r_d
    go_upto_region 12 with fail
    obtain ⟨wx, hwx⟩ : ∃ wx, wx = wz.alloc (Obj.cells #[Value.slice A1 n1 c1, Value.int .i64 D.hor, Value.int .i64 D.now, Value.slice A2 n2 c2, Value.slice (some ⟨b1, off1, none⟩) n3 c3, Value.slice A4 n4 c4] 47) := ⟨_, rfl⟩
    obtain ⟨G2, hG2⟩ : ∃ G2, G2 = wz.heap.size := ⟨_, rfl⟩
    have bwx : Later wz wx := by rw [hwx]; exact (Later.refl _).alloc _
    have rG2 : Row wx G2 47 [.slice A1 n1 c1, .int .i64 D.hor, .int .i64 D.now, .slice A2 n2 c2, .slice (some ⟨b1, off1, none⟩) n3 c3, .slice A4 n4 c4] := by rw [hwx, hG2]; exact Row.new _ _ _
    rw [← hwx, ← hG2]
    have hgz : wz.heap.size ≤ G2 := by rw [hG2]; exact Nat.le_refl _
    have hg2 : wx.heap.size = G2 + 1 := by rw [hwx, World.size_alloc, hG2]
    have HGZ := hide hgz
    have RX := hide rG2; have HLX := hide bwx
    clear hwx hG2 rG2 bwx d0 d1 d2 d3 d4 d5 hgz
    have f0 := RX.out.cell (i := 0) rfl; have f1 := RX.out.cell (i := 1) rfl; have f2 := RX.out.cell (i := 2) rfl; have f3 := RX.out.cell (i := 3) rfl; have f4 := RX.out.cell (i := 4) rfl; have f5 := RX.out.cell (i := 5) rfl; have z3 := RX.out.frozen 3
    go_upto_region 13 with fail
    obtain ⟨w10, hw10⟩ : ∃ w10, w10 = wx.setCell ⟨G2, 3, none⟩ (.slice none 0 0) := ⟨_, rfl⟩
    have r10 : Row w10 G2 47 [.slice A1 n1 c1, .int .i64 D.hor, .int .i64 D.now, .slice none 0 0, .slice (some ⟨b1, off1, none⟩) n3 c3, .slice A4 n4 c4] := by rw [hw10]; exact RX.out.set_ 3 _
    have oo : Only G2 wx w10 := by rw [hw10]; exact Only.one G2 wx 3 _
    rw [← hw10]
    have HLO : Hid (w10.heap.size = G2 + 1) := hide (by rw [oo.size]; exact hg2)
    have HG2 : Hid (wz.heap.size ≤ w10.heap.size) := hide (by rw [oo.size]; exact HLX.out.size)
    have R10 := hide r10; have HL10 := hide (HLX.out.only oo HGZ.out)
    clear hw10 r10 oo hg2 RX HLX f0 f1 f2 f3 f4 f5 z3
    go_wp2_with fail
    go_loopw [10] (fun i wr => ∃ j : Nat, j ≤ n2 ∧ i = .int .i64 (j : Int) ∧ (∃ Av nv cv, Row wr G2 47 [.slice A1 n1 c1, .int .i64 D.hor, .int .i64 D.now, .slice Av nv cv, .slice (some ⟨b1, off1, none⟩) n3 c3, .slice A4 n4 c4] ∧ wr.ownsRow w10.heap.size 3 1 (.slice Av nv cv) ((D.caps.take j).map (moreC · z)).length (((D.caps.take j).map (moreC · z)).flatMap iCells)) ∧ Later wz wr ∧ w10.heap.size ≤ wr.heap.size) (fun i _ => (n2 - intOf i).toNat)
    case atStart => exact ⟨0, by omega, rfl, ⟨_, _, _, R10.out, World.ownsRow_nil _ _ _ 1⟩, HL10.out, Nat.le_refl _⟩
    case round =>
      obtain ⟨j, hj, rfl, ⟨Av, nv, cv, hR, hown⟩, hL, hsz⟩ := hrel
      have HL := hide hL; have RG2 := hide hR; have HOWN := hide hown; have HSZ := hide hsz
      clear hL hR hown hsz
      have r_d := R0.out.later (HL5.out.trans (HZ5.out.trans HL.out))
      have d0 := r_d.cell (i := 0) rfl; have d1 := r_d.cell (i := 1) rfl; have d2 := r_d.cell (i := 2) rfl; have d3 := r_d.cell (i := 3) rfl; have d4 := r_d.cell (i := 4) rfl; have d5 := r_d.cell (i := 5) rfl
      clear r_d
      by_cases hjn : j < n2
      · obtain ⟨x, hx⟩ : ∃ x, D.caps[j]? = some x := ⟨D.caps[j]'(by have := L2.out; omega), List.getElem?_eq_getElem _⟩
        obtain ⟨b2, off2, rfl, x0⟩ := (H.out.later (HL35.out.trans HZ5.out)).caps.at1 hx
        have hj0 : (0 : Int) ≤ (j : Int) := by omega
        have hj1 : (j : Int) < n2 := by omega
        have htk : D.caps.take (j+1) = D.caps.take j ++ [x] := by rw [List.take_add_one, hx]; rfl
        have htm : (D.caps.take (j+1)).map (moreC · z) = (D.caps.take j).map (moreC · z) ++ [moreC x z] := by rw [htk, List.map_append]; rfl
        have hlm : ((D.caps.take j).map (moreC · z)).length ≤ 1000 := by rw [List.length_map, List.length_take]; omega
        have hok := HMAY.out.head.caps x (List.mem_of_getElem? hx)
        have hw1 : IntKind.i64.wrap (x + z) = x + z := IntWalk.i64_in _ (by omega)
        have HTM := hide htm; have HLM := hide hlm; have HX1 := hide x0
        clear hx htk htm hlm hok
        go_upto_region 16 with fail
        clear x0 d0 d1 d2 d3 d4 d5
        have hrx := R0.out.later (HL5.out.trans (HZ5.out.trans HL.out))
        have hrg := RG2.out
        have hxx := Later.cell HL.out HX1.out
        have HT1 : Hid (∀ w', Later wr w' → w'.cell? ⟨w.heap.size, 0, none⟩ = some (.slice A1 n1 c1) ∧ w'.cell? ⟨w.heap.size, 1, none⟩ = some (.int .i64 D.hor) ∧ w'.cell? ⟨w.heap.size, 2, none⟩ = some (.int .i64 D.now) ∧ w'.cell? ⟨w.heap.size, 3, none⟩ = some (.slice (some ⟨b2, off2, none⟩) n2 c2) ∧ w'.cell? ⟨w.heap.size, 4, none⟩ = some (.slice (some ⟨b1, off1, none⟩) n3 c3) ∧ w'.cell? ⟨w.heap.size, 5, none⟩ = some (.slice A4 n4 c4) ∧ w'.cell? ⟨G2, 0, none⟩ = some (.slice A1 n1 c1) ∧ w'.cell? ⟨G2, 1, none⟩ = some (.int .i64 D.hor) ∧ w'.cell? ⟨G2, 2, none⟩ = some (.int .i64 D.now) ∧ w'.cell? ⟨G2, 3, none⟩ = some (.slice Av nv cv) ∧ w'.cell? ⟨G2, 4, none⟩ = some (.slice (some ⟨b1, off1, none⟩) n3 c3) ∧ w'.cell? ⟨G2, 5, none⟩ = some (.slice A4 n4 c4) ∧ w'.cell? ⟨b2, off2 + j, none⟩ = some (.int .i64 x)) := hide fun w' hb => ⟨(hrx.later hb).cell rfl, (hrx.later hb).cell rfl, (hrx.later hb).cell rfl, (hrx.later hb).cell rfl, (hrx.later hb).cell rfl, (hrx.later hb).cell rfl, (hrg.later hb).cell rfl, (hrg.later hb).cell rfl, (hrg.later hb).cell rfl, (hrg.later hb).cell rfl, (hrg.later hb).cell rfl, (hrg.later hb).cell rfl, Later.cell hb hxx⟩
        clear hrx hrg hxx
        have hmx : Tryz.prog.follows .mixedOrders = true := by kernel_rfl
        refine wp_region_N (fun w' => w'.cell? ⟨w.heap.size, 0, none⟩ = some (.slice A1 n1 c1) ∧ w'.cell? ⟨w.heap.size, 1, none⟩ = some (.int .i64 D.hor) ∧ w'.cell? ⟨w.heap.size, 2, none⟩ = some (.int .i64 D.now) ∧ w'.cell? ⟨w.heap.size, 3, none⟩ = some (.slice (some ⟨b2, off2, none⟩) n2 c2) ∧ w'.cell? ⟨w.heap.size, 4, none⟩ = some (.slice (some ⟨b1, off1, none⟩) n3 c3) ∧ w'.cell? ⟨w.heap.size, 5, none⟩ = some (.slice A4 n4 c4) ∧ w'.cell? ⟨G2, 0, none⟩ = some (.slice A1 n1 c1) ∧ w'.cell? ⟨G2, 1, none⟩ = some (.int .i64 D.hor) ∧ w'.cell? ⟨G2, 2, none⟩ = some (.int .i64 D.now) ∧ w'.cell? ⟨G2, 3, none⟩ = some (.slice Av nv cv) ∧ w'.cell? ⟨G2, 4, none⟩ = some (.slice (some ⟨b1, off1, none⟩) n3 c3) ∧ w'.cell? ⟨G2, 5, none⟩ = some (.slice A4 n4 c4) ∧ w'.cell? ⟨b2, off2 + j, none⟩ = some (.int .i64 x)) [14] hmx (HT1.out _ (Later.refl wr).drew) (fun hHeld => ?_)
        refine wpAnyN_takeD (some 69) (by rfl) (i := 0) (oi := _) (v := ?_) rfl (by kernel_rfl) (by kernel_rfl) (by kernel_rfl) (by kernel_rfl) (fun _ _ _ h => h) (Or.inl ⟨by rfl, ?_⟩) (by assumption) ?_
        rotate_left
        · intro w hSw; (try dsimp only at hSw); go_simp
          first | done | with_reducible rfl
        try simp only [Act.put, List.setIfInBounds_toArray, List.set_cons_zero, List.set_cons_succ]
        refine wpAnyN_takeD (some 70) (by rfl) (i := 1) (oi := _) (v := ?_) rfl (by kernel_rfl) (by kernel_rfl) (by kernel_rfl) (by kernel_rfl) (fun _ _ _ h => h) (Or.inl ⟨by rfl, ?_⟩) (by assumption) ?_
        rotate_left
        · intro w hSw; (try dsimp only at hSw); go_simp
          first | done | with_reducible rfl
        try simp only [Act.put, List.setIfInBounds_toArray, List.set_cons_zero, List.set_cons_succ]
        refine wpAnyN_takeD (some 71) (by rfl) (i := 2) (oi := _) (v := ?_) rfl (by kernel_rfl) (by kernel_rfl) (by kernel_rfl) (by kernel_rfl) (fun _ _ _ h => h) (Or.inl ⟨by rfl, ?_⟩) (by assumption) ?_
        rotate_left
        · intro w hSw; (try dsimp only at hSw); go_simp
          first | done | with_reducible rfl
        try simp only [Act.put, List.setIfInBounds_toArray, List.set_cons_zero, List.set_cons_succ]
        refine wpAnyN_takeD (some 72) (by rfl) (i := 3) (oi := _) (v := ?_) rfl (by kernel_rfl) (by kernel_rfl) (by kernel_rfl) (by kernel_rfl) (fun _ _ _ h => h) (Or.inl ⟨by rfl, ?_⟩) (by assumption) ?_
        rotate_left
        · intro w hSw; (try dsimp only at hSw); go_simp
          first | done | with_reducible rfl
        try simp only [Act.put, List.setIfInBounds_toArray, List.set_cons_zero, List.set_cons_succ]
        refine wpAnyN_takeD (some 73) (by rfl) (i := 4) (oi := _) (v := ?_) rfl (by kernel_rfl) (by kernel_rfl) (by kernel_rfl) (by kernel_rfl) (fun _ _ _ h => h) (Or.inl ⟨by rfl, ?_⟩) (by assumption) ?_
        rotate_left
        · intro w hSw; (try dsimp only at hSw); go_simp
          first | done | with_reducible rfl
        try simp only [Act.put, List.setIfInBounds_toArray, List.set_cons_zero, List.set_cons_succ]
        refine wpAnyN_takeD (some 74) (by rfl) (i := 5) (oi := _) (v := ?_) rfl (by kernel_rfl) (by kernel_rfl) (by kernel_rfl) (by kernel_rfl) (fun _ _ _ h => h) (Or.inl ⟨by rfl, ?_⟩) (by assumption) ?_
        rotate_left
        · intro w hSw; (try dsimp only at hSw); go_simp
          first | done | with_reducible rfl
        try simp only [Act.put, List.setIfInBounds_toArray, List.set_cons_zero, List.set_cons_succ]
        refine wpAnyN_takeD (some 75) (by rfl) (i := 6) (oi := _) (v := ?_) rfl (by kernel_rfl) (by kernel_rfl) (by kernel_rfl) (by kernel_rfl) (fun _ _ _ h => h) (Or.inl ⟨by rfl, ?_⟩) (by assumption) ?_
        rotate_left
        · intro w hSw; (try dsimp only at hSw); go_simp
          first | done | with_reducible rfl
        try simp only [Act.put, List.setIfInBounds_toArray, List.set_cons_zero, List.set_cons_succ]
        refine wpAnyN_takeD (some 76) (by rfl) (i := 7) (oi := _) (v := ?_) rfl (by kernel_rfl) (by kernel_rfl) (by kernel_rfl) (by kernel_rfl) (fun _ _ _ h => h) (Or.inl ⟨by rfl, ?_⟩) (by assumption) ?_
        rotate_left
        · intro w hSw; (try dsimp only at hSw); go_simp
          first | done | with_reducible rfl
        try simp only [Act.put, List.setIfInBounds_toArray, List.set_cons_zero, List.set_cons_succ]
        refine wpAnyN_takeD (some 77) (by rfl) (i := 8) (oi := _) (v := ?_) rfl (by kernel_rfl) (by kernel_rfl) (by kernel_rfl) (by kernel_rfl) (fun _ _ _ h => h) (Or.inl ⟨by rfl, ?_⟩) (by assumption) ?_
        rotate_left
        · intro w hSw; (try dsimp only at hSw); go_simp
          first | done | with_reducible rfl
        try simp only [Act.put, List.setIfInBounds_toArray, List.set_cons_zero, List.set_cons_succ]
        refine wpAnyN_takeD (some 78) (by rfl) (i := 9) (oi := _) (v := ?_) rfl (by kernel_rfl) (by kernel_rfl) (by kernel_rfl) (by kernel_rfl) (fun _ _ _ h => h) (Or.inl ⟨by rfl, ?_⟩) (by assumption) ?_
        rotate_left
        · intro w hSw; (try dsimp only at hSw); go_simp
          first | done | with_reducible rfl
        try simp only [Act.put, List.setIfInBounds_toArray, List.set_cons_zero, List.set_cons_succ]
        refine wpAnyN_takeD (some 79) (by rfl) (i := 10) (oi := _) (v := ?_) rfl (by kernel_rfl) (by kernel_rfl) (by kernel_rfl) (by kernel_rfl) (fun _ _ _ h => h) (Or.inl ⟨by rfl, ?_⟩) (by assumption) ?_
        rotate_left
        · intro w hSw; (try dsimp only at hSw); go_simp
          first | done | with_reducible rfl
        try simp only [Act.put, List.setIfInBounds_toArray, List.set_cons_zero, List.set_cons_succ]
        refine wpAnyN_ready (rs := [11]) (by kernel_rfl) (by simp) ?_
        refine AllReadyN.held rfl (by rfl) (fun K hK => ?_) AllReadyN.nil
        go_simp
        refine hK.out _ _ ?_ (fun hHeld => ?_)
        · exact HT1.out _ ((Later.refl wr).alloc _).drew
        clear hK K
        try simp only [Act.put, List.setIfInBounds_toArray, List.set_cons_zero, List.set_cons_succ]
        refine wpAnyN_ready (rs := [12]) (by kernel_rfl) (by simp) ?_
        refine AllReadyN.held rfl (by rfl) (fun K hK => ?_) AllReadyN.nil
        refine wp_append_int _ _ rfl (moreC x z) rfl (ownsRow_later HOWN.out ((Later.refl wr).alloc _).drew) rfl ((Row.new wr 3 [.int .i64 (min (x + z) 100)]).later (Later.refl _).drew) (by have := HLM.out; omega) (by have := HSZ.out; show _ ≤ (wr.alloc _).heap.size; rw [World.size_alloc]; exact Nat.le_succ_of_le this) ?_
        intro v8 w8 k1 k2 k3
        obtain ⟨A8, n8, c8, rfl, -, -, -, -⟩ := (Sq.of_own iCells_len k1).form
        have hbl := World.ownsRow.lt HOWN.out
        have hlo := HLO.out; have hg2 := HG2.out; have hgz := HGZ.out
        have l12 : Later wz w8 := ((HL.out.alloc _).drew).grown k2 (fun q hq => by have := (hbl q hq).1; omega)
        have hr8 := (RG2.out.later ((Later.refl wr).alloc (Obj.cells #[.int .i64 (min (x + z) 100)] 3)).drew).grown k2 (fun e => by have := (hbl G2 e.symm).1; omega)
        have hx8 := R0.out.later (HL5.out.trans (HZ5.out.trans l12))
        have HT3 : Hid (w8.cell? ⟨w.heap.size, 0, none⟩ = some (.slice A1 n1 c1) ∧ w8.cell? ⟨w.heap.size, 1, none⟩ = some (.int .i64 D.hor) ∧ w8.cell? ⟨w.heap.size, 2, none⟩ = some (.int .i64 D.now) ∧ w8.cell? ⟨w.heap.size, 3, none⟩ = some (.slice (some ⟨b2, off2, none⟩) n2 c2) ∧ w8.cell? ⟨w.heap.size, 4, none⟩ = some (.slice (some ⟨b1, off1, none⟩) n3 c3) ∧ w8.cell? ⟨w.heap.size, 5, none⟩ = some (.slice A4 n4 c4) ∧ w8.cell? ⟨G2, 0, none⟩ = some (.slice A1 n1 c1) ∧ w8.cell? ⟨G2, 1, none⟩ = some (.int .i64 D.hor) ∧ w8.cell? ⟨G2, 2, none⟩ = some (.int .i64 D.now) ∧ w8.cell? ⟨G2, 3, none⟩ = some (.slice Av nv cv) ∧ w8.cell? ⟨G2, 4, none⟩ = some (.slice (some ⟨b1, off1, none⟩) n3 c3) ∧ w8.cell? ⟨G2, 5, none⟩ = some (.slice A4 n4 c4) ∧ w8.cell? ⟨b2, off2 + j, none⟩ = some (.int .i64 x)) := hide ⟨hx8.cell rfl, hx8.cell rfl, hx8.cell rfl, hx8.cell rfl, hx8.cell rfl, hx8.cell rfl, hr8.cell rfl, hr8.cell rfl, hr8.cell rfl, hr8.cell rfl, hr8.cell rfl, hr8.cell rfl, Later.cell l12 HX1.out⟩
        have HR8 := hide hr8; have HK1 := hide k1; have HK2 := hide k2
        have f0 := hr8.cell (i := 0) rfl; have f1 := hr8.cell (i := 1) rfl; have f2 := hr8.cell (i := 2) rfl; have f3 := hr8.cell (i := 3) rfl; have f4 := hr8.cell (i := 4) rfl; have f5 := hr8.cell (i := 5) rfl; have z3 := hr8.frozen 3
        clear k1 k2 k3 hr8 hx8 hbl hlo hg2 hgz
        refine hK.out _ _ ?_ (fun hHeld => ?_)
        · exact HT3.out
        clear hK K
        try simp only [Act.put, List.setIfInBounds_toArray, List.set_cons_zero, List.set_cons_succ]
        refine wpAnyN_takeD (some 82) (by rfl) (i := 13) (oi := _) (v := ?_) rfl (by kernel_rfl) (by kernel_rfl) (by kernel_rfl) (by kernel_rfl) (fun _ _ _ h => h) (Or.inl ⟨by rfl, ?_⟩) (by assumption) ?_
        rotate_left
        · intro w hSw; (try dsimp only at hSw); go_simp
          first | done | with_reducible rfl
        try simp only [Act.put, List.setIfInBounds_toArray, List.set_cons_zero, List.set_cons_succ]
        refine wpAnyN_ready (rs := [14]) (by kernel_rfl) (by simp) ?_
        refine AllReadyN.free rfl (by rfl) (by kernel_rfl) (fun K hK => ?_) AllReadyN.nil
        go_simp
        refine hK.out _ _ ?_
        clear hK K
        try simp only [Act.put, List.setIfInBounds_toArray, List.set_cons_zero, List.set_cons_succ]
        refine wpAnyN_done (by kernel_rfl) ?_ _
        have oo := Only.one G2 w8 3 (.slice A8 n8 c8)
        have hlo := HLO.out; have hg2 := HG2.out; have hgz := HGZ.out
        have hs8 : w10.heap.size ≤ w8.heap.size := by have h1 : (wr.alloc (Obj.cells #[.int .i64 (min (x + z) 100)] 3)).heap.size ≤ w8.heap.size := HK2.out.size; rw [World.size_alloc] at h1; have h2 := HSZ.out; omega
        have HE8 := hide (HR8.out.set_ 3 (.slice A8 n8 c8)); have HE9 := hide (ownsRow_only HK1.out oo (by omega)); have HE10 := hide (l12.only oo hgz)
        have HE11 : Hid (w10.heap.size ≤ (w8.setCell ⟨G2, 3, none⟩ (.slice A8 n8 c8)).heap.size) := hide (by rw [oo.size]; exact hs8)
        clear hHeld f0 f1 f2 f3 f4 f5 z3 oo hlo hg2 hgz hs8
        go_wp2_with fail
        exact ⟨⟨j+1, by omega, by go_num, ⟨_, _, _, HE8.out, by rw [HTM.out]; exact HE9.out⟩, HE10.out, HE11.out⟩, by simp [intOf]; omega⟩
      · have hj1 : ¬ (j : Int) < n2 := by omega
        have HF := hide ((Sq.of_own iCells_len HOWN.out))
        have HB2 : Hid (BookIn wr (.slice A1 n1 c1) (.slice Av nv cv) (.slice (some ⟨b1, off1, none⟩) n3 c3) (.slice A4 n4 c4) (moreD D z)) := hide
          { its := (H.out.later (HL35.out.trans (HZ5.out.trans HL.out))).its, caps := by
              have := HF.out
              rw [List.take_of_length_le (by have := L2.out; omega)] at this
              exact this,
            ords := (H.out.later (HL35.out.trans (HZ5.out.trans HL.out))).ords, mks := (H.out.later (HL35.out.trans (HZ5.out.trans HL.out))).mks, il := H.out.il,
            cl := by (show (D.caps.map (moreC · z)).length ≤ 1000); rw [List.length_map]; exact H.out.cl,
            ol := H.out.ol, ml := H.out.ml, hfit := H.out.hfit, nfit := H.out.nfit,
            cfit := fun c hc => by
              obtain ⟨y, hy, rfl⟩ := List.mem_map.1 hc
              have := HMAY.out.head.caps y hy
              unfold IFit moreC; omega,
            ofit := H.out.ofit, mfit := H.out.mfit }
        have f0 := RG2.out.cell (i := 0) rfl; have f1 := RG2.out.cell (i := 1) rfl; have f2 := RG2.out.cell (i := 2) rfl; have f3 := RG2.out.cell (i := 3) rfl; have f4 := RG2.out.cell (i := 4) rfl; have f5 := RG2.out.cell (i := 5) rfl; have z3 := RG2.out.frozen 3
        go_wp2_with fail
        ((refine (plallowed_calls _ _ _ _ _ _ _ _ _ _ _ _ _ (moreD D z) HB2.out _ _ _ t (HQ.out.later (HL35.out.trans (HZ5.out.trans HL.out))) true (more_allowed HU0.out hz0 HUA.out)).mono ?_); rintro e w11 ⟨rfl, b11⟩)
        have HLE := hide (HL.out.trans b11)
        clear b11 d0 d1 d2 d3 d4 d5 f0 f1 f2 f3 f4 f5 z3
        go_wp2_with fail
        go_ret
        exact ⟨rfl, B0.out.trans (HL5.out.trans (HZ5.out.trans HLE.out))⟩
  · have g1 : ¬ (0 : Int) < (n3 : Int) := by omega
    obtain ⟨wz, hwz⟩ : ∃ wz, wz = w5 := ⟨_, rfl⟩
    have HZ5 : Hid (Later w5 wz) := hide (by rw [hwz]; exact Later.refl _)
    rw [← hwz]
    clear hwz d0 d1 d2 d3 d4 d5
    clear g1
    have g1 : ¬ (0 : Int) < (n3 : Int) := by omega
    have r_d := R0.out.later (HL5.out.trans HZ5.out)
    have d0 := r_d.cell (i := 0) rfl; have d1 := r_d.cell (i := 1) rfl; have d2 := r_d.cell (i := 2) rfl; have d3 := r_d.cell (i := 3) rfl; have d4 := r_d.cell (i := 4) rfl; have d5 := r_d.cell (i := 5) rfl
    clear r_d
    go_upto_region 12 with fail
    obtain ⟨wx, hwx⟩ : ∃ wx, wx = wz.alloc (Obj.cells #[Value.slice A1 n1 c1, Value.int .i64 D.hor, Value.int .i64 D.now, Value.slice A2 n2 c2, Value.slice A3 n3 c3, Value.slice A4 n4 c4] 47) := ⟨_, rfl⟩
    obtain ⟨G2, hG2⟩ : ∃ G2, G2 = wz.heap.size := ⟨_, rfl⟩
    have bwx : Later wz wx := by rw [hwx]; exact (Later.refl _).alloc _
    have rG2 : Row wx G2 47 [.slice A1 n1 c1, .int .i64 D.hor, .int .i64 D.now, .slice A2 n2 c2, .slice A3 n3 c3, .slice A4 n4 c4] := by rw [hwx, hG2]; exact Row.new _ _ _
    rw [← hwx, ← hG2]
    have hgz : wz.heap.size ≤ G2 := by rw [hG2]; exact Nat.le_refl _
    have hg2 : wx.heap.size = G2 + 1 := by rw [hwx, World.size_alloc, hG2]
    have HGZ := hide hgz
    have RX := hide rG2; have HLX := hide bwx
    clear hwx hG2 rG2 bwx d0 d1 d2 d3 d4 d5 hgz
    have f0 := RX.out.cell (i := 0) rfl; have f1 := RX.out.cell (i := 1) rfl; have f2 := RX.out.cell (i := 2) rfl; have f3 := RX.out.cell (i := 3) rfl; have f4 := RX.out.cell (i := 4) rfl; have f5 := RX.out.cell (i := 5) rfl; have z3 := RX.out.frozen 3
    go_upto_region 13 with fail
    obtain ⟨w10, hw10⟩ : ∃ w10, w10 = wx.setCell ⟨G2, 3, none⟩ (.slice none 0 0) := ⟨_, rfl⟩
    have r10 : Row w10 G2 47 [.slice A1 n1 c1, .int .i64 D.hor, .int .i64 D.now, .slice none 0 0, .slice A3 n3 c3, .slice A4 n4 c4] := by rw [hw10]; exact RX.out.set_ 3 _
    have oo : Only G2 wx w10 := by rw [hw10]; exact Only.one G2 wx 3 _
    rw [← hw10]
    have HLO : Hid (w10.heap.size = G2 + 1) := hide (by rw [oo.size]; exact hg2)
    have HG2 : Hid (wz.heap.size ≤ w10.heap.size) := hide (by rw [oo.size]; exact HLX.out.size)
    have R10 := hide r10; have HL10 := hide (HLX.out.only oo HGZ.out)
    clear hw10 r10 oo hg2 RX HLX f0 f1 f2 f3 f4 f5 z3
    go_wp2_with fail
    go_loopw [10] (fun i wr => ∃ j : Nat, j ≤ n2 ∧ i = .int .i64 (j : Int) ∧ (∃ Av nv cv, Row wr G2 47 [.slice A1 n1 c1, .int .i64 D.hor, .int .i64 D.now, .slice Av nv cv, .slice A3 n3 c3, .slice A4 n4 c4] ∧ wr.ownsRow w10.heap.size 3 1 (.slice Av nv cv) ((D.caps.take j).map (moreC · z)).length (((D.caps.take j).map (moreC · z)).flatMap iCells)) ∧ Later wz wr ∧ w10.heap.size ≤ wr.heap.size) (fun i _ => (n2 - intOf i).toNat)
    case atStart => exact ⟨0, by omega, rfl, ⟨_, _, _, R10.out, World.ownsRow_nil _ _ _ 1⟩, HL10.out, Nat.le_refl _⟩
    case round =>
      obtain ⟨j, hj, rfl, ⟨Av, nv, cv, hR, hown⟩, hL, hsz⟩ := hrel
      have HL := hide hL; have RG2 := hide hR; have HOWN := hide hown; have HSZ := hide hsz
      clear hL hR hown hsz
      have r_d := R0.out.later (HL5.out.trans (HZ5.out.trans HL.out))
      have d0 := r_d.cell (i := 0) rfl; have d1 := r_d.cell (i := 1) rfl; have d2 := r_d.cell (i := 2) rfl; have d3 := r_d.cell (i := 3) rfl; have d4 := r_d.cell (i := 4) rfl; have d5 := r_d.cell (i := 5) rfl
      clear r_d
      by_cases hjn : j < n2
      · obtain ⟨x, hx⟩ : ∃ x, D.caps[j]? = some x := ⟨D.caps[j]'(by have := L2.out; omega), List.getElem?_eq_getElem _⟩
        obtain ⟨b2, off2, rfl, x0⟩ := (H.out.later (HL35.out.trans HZ5.out)).caps.at1 hx
        have hj0 : (0 : Int) ≤ (j : Int) := by omega
        have hj1 : (j : Int) < n2 := by omega
        have htk : D.caps.take (j+1) = D.caps.take j ++ [x] := by rw [List.take_add_one, hx]; rfl
        have htm : (D.caps.take (j+1)).map (moreC · z) = (D.caps.take j).map (moreC · z) ++ [moreC x z] := by rw [htk, List.map_append]; rfl
        have hlm : ((D.caps.take j).map (moreC · z)).length ≤ 1000 := by rw [List.length_map, List.length_take]; omega
        have hok := HMAY.out.head.caps x (List.mem_of_getElem? hx)
        have hw1 : IntKind.i64.wrap (x + z) = x + z := IntWalk.i64_in _ (by omega)
        have HTM := hide htm; have HLM := hide hlm; have HX1 := hide x0
        clear hx htk htm hlm hok
        go_upto_region 16 with fail
        clear x0 d0 d1 d2 d3 d4 d5
        have hrx := R0.out.later (HL5.out.trans (HZ5.out.trans HL.out))
        have hrg := RG2.out
        have hxx := Later.cell HL.out HX1.out
        have HT1 : Hid (∀ w', Later wr w' → w'.cell? ⟨w.heap.size, 0, none⟩ = some (.slice A1 n1 c1) ∧ w'.cell? ⟨w.heap.size, 1, none⟩ = some (.int .i64 D.hor) ∧ w'.cell? ⟨w.heap.size, 2, none⟩ = some (.int .i64 D.now) ∧ w'.cell? ⟨w.heap.size, 3, none⟩ = some (.slice (some ⟨b2, off2, none⟩) n2 c2) ∧ w'.cell? ⟨w.heap.size, 4, none⟩ = some (.slice A3 n3 c3) ∧ w'.cell? ⟨w.heap.size, 5, none⟩ = some (.slice A4 n4 c4) ∧ w'.cell? ⟨G2, 0, none⟩ = some (.slice A1 n1 c1) ∧ w'.cell? ⟨G2, 1, none⟩ = some (.int .i64 D.hor) ∧ w'.cell? ⟨G2, 2, none⟩ = some (.int .i64 D.now) ∧ w'.cell? ⟨G2, 3, none⟩ = some (.slice Av nv cv) ∧ w'.cell? ⟨G2, 4, none⟩ = some (.slice A3 n3 c3) ∧ w'.cell? ⟨G2, 5, none⟩ = some (.slice A4 n4 c4) ∧ w'.cell? ⟨b2, off2 + j, none⟩ = some (.int .i64 x)) := hide fun w' hb => ⟨(hrx.later hb).cell rfl, (hrx.later hb).cell rfl, (hrx.later hb).cell rfl, (hrx.later hb).cell rfl, (hrx.later hb).cell rfl, (hrx.later hb).cell rfl, (hrg.later hb).cell rfl, (hrg.later hb).cell rfl, (hrg.later hb).cell rfl, (hrg.later hb).cell rfl, (hrg.later hb).cell rfl, (hrg.later hb).cell rfl, Later.cell hb hxx⟩
        clear hrx hrg hxx
        have hmx : Tryz.prog.follows .mixedOrders = true := by kernel_rfl
        refine wp_region_N (fun w' => w'.cell? ⟨w.heap.size, 0, none⟩ = some (.slice A1 n1 c1) ∧ w'.cell? ⟨w.heap.size, 1, none⟩ = some (.int .i64 D.hor) ∧ w'.cell? ⟨w.heap.size, 2, none⟩ = some (.int .i64 D.now) ∧ w'.cell? ⟨w.heap.size, 3, none⟩ = some (.slice (some ⟨b2, off2, none⟩) n2 c2) ∧ w'.cell? ⟨w.heap.size, 4, none⟩ = some (.slice A3 n3 c3) ∧ w'.cell? ⟨w.heap.size, 5, none⟩ = some (.slice A4 n4 c4) ∧ w'.cell? ⟨G2, 0, none⟩ = some (.slice A1 n1 c1) ∧ w'.cell? ⟨G2, 1, none⟩ = some (.int .i64 D.hor) ∧ w'.cell? ⟨G2, 2, none⟩ = some (.int .i64 D.now) ∧ w'.cell? ⟨G2, 3, none⟩ = some (.slice Av nv cv) ∧ w'.cell? ⟨G2, 4, none⟩ = some (.slice A3 n3 c3) ∧ w'.cell? ⟨G2, 5, none⟩ = some (.slice A4 n4 c4) ∧ w'.cell? ⟨b2, off2 + j, none⟩ = some (.int .i64 x)) [14] hmx (HT1.out _ (Later.refl wr).drew) (fun hHeld => ?_)
        refine wpAnyN_takeD (some 69) (by rfl) (i := 0) (oi := _) (v := ?_) rfl (by kernel_rfl) (by kernel_rfl) (by kernel_rfl) (by kernel_rfl) (fun _ _ _ h => h) (Or.inl ⟨by rfl, ?_⟩) (by assumption) ?_
        rotate_left
        · intro w hSw; (try dsimp only at hSw); go_simp
          first | done | with_reducible rfl
        try simp only [Act.put, List.setIfInBounds_toArray, List.set_cons_zero, List.set_cons_succ]
        refine wpAnyN_takeD (some 70) (by rfl) (i := 1) (oi := _) (v := ?_) rfl (by kernel_rfl) (by kernel_rfl) (by kernel_rfl) (by kernel_rfl) (fun _ _ _ h => h) (Or.inl ⟨by rfl, ?_⟩) (by assumption) ?_
        rotate_left
        · intro w hSw; (try dsimp only at hSw); go_simp
          first | done | with_reducible rfl
        try simp only [Act.put, List.setIfInBounds_toArray, List.set_cons_zero, List.set_cons_succ]
        refine wpAnyN_takeD (some 71) (by rfl) (i := 2) (oi := _) (v := ?_) rfl (by kernel_rfl) (by kernel_rfl) (by kernel_rfl) (by kernel_rfl) (fun _ _ _ h => h) (Or.inl ⟨by rfl, ?_⟩) (by assumption) ?_
        rotate_left
        · intro w hSw; (try dsimp only at hSw); go_simp
          first | done | with_reducible rfl
        try simp only [Act.put, List.setIfInBounds_toArray, List.set_cons_zero, List.set_cons_succ]
        refine wpAnyN_takeD (some 72) (by rfl) (i := 3) (oi := _) (v := ?_) rfl (by kernel_rfl) (by kernel_rfl) (by kernel_rfl) (by kernel_rfl) (fun _ _ _ h => h) (Or.inl ⟨by rfl, ?_⟩) (by assumption) ?_
        rotate_left
        · intro w hSw; (try dsimp only at hSw); go_simp
          first | done | with_reducible rfl
        try simp only [Act.put, List.setIfInBounds_toArray, List.set_cons_zero, List.set_cons_succ]
        refine wpAnyN_takeD (some 73) (by rfl) (i := 4) (oi := _) (v := ?_) rfl (by kernel_rfl) (by kernel_rfl) (by kernel_rfl) (by kernel_rfl) (fun _ _ _ h => h) (Or.inl ⟨by rfl, ?_⟩) (by assumption) ?_
        rotate_left
        · intro w hSw; (try dsimp only at hSw); go_simp
          first | done | with_reducible rfl
        try simp only [Act.put, List.setIfInBounds_toArray, List.set_cons_zero, List.set_cons_succ]
        refine wpAnyN_takeD (some 74) (by rfl) (i := 5) (oi := _) (v := ?_) rfl (by kernel_rfl) (by kernel_rfl) (by kernel_rfl) (by kernel_rfl) (fun _ _ _ h => h) (Or.inl ⟨by rfl, ?_⟩) (by assumption) ?_
        rotate_left
        · intro w hSw; (try dsimp only at hSw); go_simp
          first | done | with_reducible rfl
        try simp only [Act.put, List.setIfInBounds_toArray, List.set_cons_zero, List.set_cons_succ]
        refine wpAnyN_takeD (some 75) (by rfl) (i := 6) (oi := _) (v := ?_) rfl (by kernel_rfl) (by kernel_rfl) (by kernel_rfl) (by kernel_rfl) (fun _ _ _ h => h) (Or.inl ⟨by rfl, ?_⟩) (by assumption) ?_
        rotate_left
        · intro w hSw; (try dsimp only at hSw); go_simp
          first | done | with_reducible rfl
        try simp only [Act.put, List.setIfInBounds_toArray, List.set_cons_zero, List.set_cons_succ]
        refine wpAnyN_takeD (some 76) (by rfl) (i := 7) (oi := _) (v := ?_) rfl (by kernel_rfl) (by kernel_rfl) (by kernel_rfl) (by kernel_rfl) (fun _ _ _ h => h) (Or.inl ⟨by rfl, ?_⟩) (by assumption) ?_
        rotate_left
        · intro w hSw; (try dsimp only at hSw); go_simp
          first | done | with_reducible rfl
        try simp only [Act.put, List.setIfInBounds_toArray, List.set_cons_zero, List.set_cons_succ]
        refine wpAnyN_takeD (some 77) (by rfl) (i := 8) (oi := _) (v := ?_) rfl (by kernel_rfl) (by kernel_rfl) (by kernel_rfl) (by kernel_rfl) (fun _ _ _ h => h) (Or.inl ⟨by rfl, ?_⟩) (by assumption) ?_
        rotate_left
        · intro w hSw; (try dsimp only at hSw); go_simp
          first | done | with_reducible rfl
        try simp only [Act.put, List.setIfInBounds_toArray, List.set_cons_zero, List.set_cons_succ]
        refine wpAnyN_takeD (some 78) (by rfl) (i := 9) (oi := _) (v := ?_) rfl (by kernel_rfl) (by kernel_rfl) (by kernel_rfl) (by kernel_rfl) (fun _ _ _ h => h) (Or.inl ⟨by rfl, ?_⟩) (by assumption) ?_
        rotate_left
        · intro w hSw; (try dsimp only at hSw); go_simp
          first | done | with_reducible rfl
        try simp only [Act.put, List.setIfInBounds_toArray, List.set_cons_zero, List.set_cons_succ]
        refine wpAnyN_takeD (some 79) (by rfl) (i := 10) (oi := _) (v := ?_) rfl (by kernel_rfl) (by kernel_rfl) (by kernel_rfl) (by kernel_rfl) (fun _ _ _ h => h) (Or.inl ⟨by rfl, ?_⟩) (by assumption) ?_
        rotate_left
        · intro w hSw; (try dsimp only at hSw); go_simp
          first | done | with_reducible rfl
        try simp only [Act.put, List.setIfInBounds_toArray, List.set_cons_zero, List.set_cons_succ]
        refine wpAnyN_ready (rs := [11]) (by kernel_rfl) (by simp) ?_
        refine AllReadyN.held rfl (by rfl) (fun K hK => ?_) AllReadyN.nil
        go_simp
        refine hK.out _ _ ?_ (fun hHeld => ?_)
        · exact HT1.out _ ((Later.refl wr).alloc _).drew
        clear hK K
        try simp only [Act.put, List.setIfInBounds_toArray, List.set_cons_zero, List.set_cons_succ]
        refine wpAnyN_ready (rs := [12]) (by kernel_rfl) (by simp) ?_
        refine AllReadyN.held rfl (by rfl) (fun K hK => ?_) AllReadyN.nil
        refine wp_append_int _ _ rfl (moreC x z) rfl (ownsRow_later HOWN.out ((Later.refl wr).alloc _).drew) rfl ((Row.new wr 3 [.int .i64 (min (x + z) 100)]).later (Later.refl _).drew) (by have := HLM.out; omega) (by have := HSZ.out; show _ ≤ (wr.alloc _).heap.size; rw [World.size_alloc]; exact Nat.le_succ_of_le this) ?_
        intro v8 w8 k1 k2 k3
        obtain ⟨A8, n8, c8, rfl, -, -, -, -⟩ := (Sq.of_own iCells_len k1).form
        have hbl := World.ownsRow.lt HOWN.out
        have hlo := HLO.out; have hg2 := HG2.out; have hgz := HGZ.out
        have l12 : Later wz w8 := ((HL.out.alloc _).drew).grown k2 (fun q hq => by have := (hbl q hq).1; omega)
        have hr8 := (RG2.out.later ((Later.refl wr).alloc (Obj.cells #[.int .i64 (min (x + z) 100)] 3)).drew).grown k2 (fun e => by have := (hbl G2 e.symm).1; omega)
        have hx8 := R0.out.later (HL5.out.trans (HZ5.out.trans l12))
        have HT3 : Hid (w8.cell? ⟨w.heap.size, 0, none⟩ = some (.slice A1 n1 c1) ∧ w8.cell? ⟨w.heap.size, 1, none⟩ = some (.int .i64 D.hor) ∧ w8.cell? ⟨w.heap.size, 2, none⟩ = some (.int .i64 D.now) ∧ w8.cell? ⟨w.heap.size, 3, none⟩ = some (.slice (some ⟨b2, off2, none⟩) n2 c2) ∧ w8.cell? ⟨w.heap.size, 4, none⟩ = some (.slice A3 n3 c3) ∧ w8.cell? ⟨w.heap.size, 5, none⟩ = some (.slice A4 n4 c4) ∧ w8.cell? ⟨G2, 0, none⟩ = some (.slice A1 n1 c1) ∧ w8.cell? ⟨G2, 1, none⟩ = some (.int .i64 D.hor) ∧ w8.cell? ⟨G2, 2, none⟩ = some (.int .i64 D.now) ∧ w8.cell? ⟨G2, 3, none⟩ = some (.slice Av nv cv) ∧ w8.cell? ⟨G2, 4, none⟩ = some (.slice A3 n3 c3) ∧ w8.cell? ⟨G2, 5, none⟩ = some (.slice A4 n4 c4) ∧ w8.cell? ⟨b2, off2 + j, none⟩ = some (.int .i64 x)) := hide ⟨hx8.cell rfl, hx8.cell rfl, hx8.cell rfl, hx8.cell rfl, hx8.cell rfl, hx8.cell rfl, hr8.cell rfl, hr8.cell rfl, hr8.cell rfl, hr8.cell rfl, hr8.cell rfl, hr8.cell rfl, Later.cell l12 HX1.out⟩
        have HR8 := hide hr8; have HK1 := hide k1; have HK2 := hide k2
        have f0 := hr8.cell (i := 0) rfl; have f1 := hr8.cell (i := 1) rfl; have f2 := hr8.cell (i := 2) rfl; have f3 := hr8.cell (i := 3) rfl; have f4 := hr8.cell (i := 4) rfl; have f5 := hr8.cell (i := 5) rfl; have z3 := hr8.frozen 3
        clear k1 k2 k3 hr8 hx8 hbl hlo hg2 hgz
        refine hK.out _ _ ?_ (fun hHeld => ?_)
        · exact HT3.out
        clear hK K
        try simp only [Act.put, List.setIfInBounds_toArray, List.set_cons_zero, List.set_cons_succ]
        refine wpAnyN_takeD (some 82) (by rfl) (i := 13) (oi := _) (v := ?_) rfl (by kernel_rfl) (by kernel_rfl) (by kernel_rfl) (by kernel_rfl) (fun _ _ _ h => h) (Or.inl ⟨by rfl, ?_⟩) (by assumption) ?_
        rotate_left
        · intro w hSw; (try dsimp only at hSw); go_simp
          first | done | with_reducible rfl
        try simp only [Act.put, List.setIfInBounds_toArray, List.set_cons_zero, List.set_cons_succ]
        refine wpAnyN_ready (rs := [14]) (by kernel_rfl) (by simp) ?_
        refine AllReadyN.free rfl (by rfl) (by kernel_rfl) (fun K hK => ?_) AllReadyN.nil
        go_simp
        refine hK.out _ _ ?_
        clear hK K
        try simp only [Act.put, List.setIfInBounds_toArray, List.set_cons_zero, List.set_cons_succ]
        refine wpAnyN_done (by kernel_rfl) ?_ _
        have oo := Only.one G2 w8 3 (.slice A8 n8 c8)
        have hlo := HLO.out; have hg2 := HG2.out; have hgz := HGZ.out
        have hs8 : w10.heap.size ≤ w8.heap.size := by have h1 : (wr.alloc (Obj.cells #[.int .i64 (min (x + z) 100)] 3)).heap.size ≤ w8.heap.size := HK2.out.size; rw [World.size_alloc] at h1; have h2 := HSZ.out; omega
        have HE8 := hide (HR8.out.set_ 3 (.slice A8 n8 c8)); have HE9 := hide (ownsRow_only HK1.out oo (by omega)); have HE10 := hide (l12.only oo hgz)
        have HE11 : Hid (w10.heap.size ≤ (w8.setCell ⟨G2, 3, none⟩ (.slice A8 n8 c8)).heap.size) := hide (by rw [oo.size]; exact hs8)
        clear hHeld f0 f1 f2 f3 f4 f5 z3 oo hlo hg2 hgz hs8
        go_wp2_with fail
        exact ⟨⟨j+1, by omega, by go_num, ⟨_, _, _, HE8.out, by rw [HTM.out]; exact HE9.out⟩, HE10.out, HE11.out⟩, by simp [intOf]; omega⟩
      · have hj1 : ¬ (j : Int) < n2 := by omega
        have HF := hide ((Sq.of_own iCells_len HOWN.out))
        have HB2 : Hid (BookIn wr (.slice A1 n1 c1) (.slice Av nv cv) (.slice A3 n3 c3) (.slice A4 n4 c4) (moreD D z)) := hide
          { its := (H.out.later (HL35.out.trans (HZ5.out.trans HL.out))).its, caps := by
              have := HF.out
              rw [List.take_of_length_le (by have := L2.out; omega)] at this
              exact this,
            ords := (H.out.later (HL35.out.trans (HZ5.out.trans HL.out))).ords, mks := (H.out.later (HL35.out.trans (HZ5.out.trans HL.out))).mks, il := H.out.il,
            cl := by (show (D.caps.map (moreC · z)).length ≤ 1000); rw [List.length_map]; exact H.out.cl,
            ol := H.out.ol, ml := H.out.ml, hfit := H.out.hfit, nfit := H.out.nfit,
            cfit := fun c hc => by
              obtain ⟨y, hy, rfl⟩ := List.mem_map.1 hc
              have := HMAY.out.head.caps y hy
              unfold IFit moreC; omega,
            ofit := H.out.ofit, mfit := H.out.mfit }
        have f0 := RG2.out.cell (i := 0) rfl; have f1 := RG2.out.cell (i := 1) rfl; have f2 := RG2.out.cell (i := 2) rfl; have f3 := RG2.out.cell (i := 3) rfl; have f4 := RG2.out.cell (i := 4) rfl; have f5 := RG2.out.cell (i := 5) rfl; have z3 := RG2.out.frozen 3
        go_wp2_with fail
        ((refine (plallowed_calls _ _ _ _ _ _ _ _ _ _ _ _ _ (moreD D z) HB2.out _ _ _ t (HQ.out.later (HL35.out.trans (HZ5.out.trans HL.out))) true (more_allowed HU0.out hz0 HUA.out)).mono ?_); rintro e w11 ⟨rfl, b11⟩)
        have HLE := hide (HL.out.trans b11)
        clear b11 d0 d1 d2 d3 d4 d5 f0 f1 f2 f3 f4 f5 z3
        go_wp2_with fail
        go_ret
        exact ⟨rfl, B0.out.trans (HL5.out.trans (HZ5.out.trans HLE.out))⟩
end Go.Proofs.YthncinngkfflgaaGreat

/- PlanFewer returns true for every input, and each argument reads behind the call as it read before. No condition. -/
set_option linter.unusedVariables false
namespace Go.Proofs.YthncinngkfflgaaGreat
open Go.ChangeShapes Go.WideShapes Go.ChangeAt Go.RowKit

theorem planfewer_own : ownKnob Tryz.prog.godebug = none := by kernel_rfl
theorem planfewer_laid : laidOutB Tryz.prog = true := by kernel_rfl

set_option maxRecDepth 100000 in
theorem planfewer_lifted (os : Os) (started : os.Started) (H : Type) (enc : TypeId × Value → H) :
    ReturnsInHanded {} Tryz.checked os 10 .any (Rows.planFewerSpec.pre6 enc Tryz.prog Tryz.f10 Rows.planFewerRow.domain false) (Rows.planFewerSpec.post enc Tryz.prog Tryz.f10 false true false false) := by
  refine returnsInHanded_of_change_sized (C := Tryz.checked) planfewer_own started (by kernel_rfl) Tryz.func10
    (ChangeSpec.witness6 (enc := enc) (C := Tryz.checked) false ⟨#[], #[.agg #[.slice none 0 0, .int .i64 0, .int .i64 0, .slice none 0 0, .slice none 0 0, .slice none 0 0], .slice none 0 0, .int .u8 0], []⟩ 8 (by kernel_rfl) (by kernel_rfl) (by kernel_rfl) (by kernel_rfl)) ?_
  intro W base args ds gs before hval0 hW hcnd hwt0 _
  have hval : ∀ (j : Nat) t v, Tryz.f10.params[j]? = some t → args[j]? = some v → Value.okWide Tryz.prog W .any base t v := hval0
  have hW' := hW
  obtain ⟨p, q, hA0, hV, rfl, hfz, hnd⟩ := hW
  have hA : DataW.TrodAll enc Tryz.prog W 0 (fun _ => true) true Tryz.f10.params.toList args.toList ds p := hA0
  have hwt : ∀ n ∈ DataW.weightsEach Tryz.prog (Tryz.f10.params.toList ++ Rows.planFewerSpec.plain.varTypes Tryz.prog) (ds ++ gs), n ≤ reachBytes := fun n hn => by simpa using List.all_eq_true.1 hwt0 n hn
  rw [Tryz.params10] at hA hval hwt
  obtain ⟨v0, vs0, d0, ds0, p0, q0, hargs, rfl, rfl, h0, r0⟩ := trodAll_cons hA
  obtain ⟨v1, vs1, d1, ds1, p1, q1, rfl, rfl, rfl, h1, r1⟩ := trodAll_cons r0
  obtain ⟨v2, vs2, d2, ds2, p2, q2, rfl, rfl, rfl, h2, r2⟩ := trodAll_cons r1
  obtain ⟨rfl, rfl, rfl⟩ := trodAll_nil r2
  obtain rfl : args = #[v0, v1, v2] := by cases args; simp_all
  obtain ⟨rfl, rfl⟩ := trodVars_none hV
  have k0 := h0
  have lt0 : ∀ x ∈ p0, x.block < W.heap.size := by obtain ⟨m, hm⟩ := k0; exact DataW.trod_lt m _ _ _ hm
  have ha0 := arg_book (hval 0 _ v0 rfl rfl) h0 (Wt.each hwt (j := 0) rfl rfl)
  have k1 := h1
  have lt1 : ∀ x ∈ p1, x.block < W.heap.size := by obtain ⟨m, hm⟩ := k1; exact DataW.trod_lt m _ _ _ hm
  have ha1 := arg_grid (hval 1 _ v1 rfl rfl) h1 (Wt.each hwt (j := 1) rfl rfl)
  obtain ⟨z2, rfl, rfl, rfl, wf2⟩ := open_int Tryz.underlying5 (hval 2 _ v2 rfl rfl) h2
  clear hA0 hval0 hwt hwt0
  refine (planfewer_walk W v0 v1 z2 ha0 ha1 wf2).mono fun e W' ⟨he, bel⟩ => ?_
  subst he
  exact ⟨_, rfl, _, _, _, [], _, [], hW', trodAll_mk1 (shut_bool Tryz.underlying4 _), (trodAll_cons_mk (Below.trod planfewer_laid (by kernel_rfl) (of_decide_eq_true (by kernel_rfl)) k0 bel lt0) (trodAll_cons_mk (Below.trod planfewer_laid (by kernel_rfl) (of_decide_eq_true (by kernel_rfl)) k1 bel lt1) (trodAll_cons_mk (shut_int Tryz.underlying5 wf2) trodAll_mk0))), rfl, Below.frame bel _, fun h => by cases h⟩

/-- the statement -/
theorem planfewer_holds : Rows.PlanFewerSaid :=
  OpenClaim.holds_of_wide 10 Tryz.f10 rfl rfl rfl rfl rfl rfl rfl ⟨rfl, rfl, rfl, rfl, rfl⟩ rfl rfl rfl rfl rfl (by kernel_rfl) Tryz.func10 (by kernel_rfl)
    (of_decide_eq_true (by kernel_rfl)) (by unfold Func.isWrapper; first | (rw [if_pos (by decide +kernel)]; kernel_rfl) | (rw [if_neg (by decide +kernel)]; exact ⟨rfl, rfl⟩))
    (fun os started H enc _ => planfewer_lifted os started H enc)
#print axioms planfewer_holds
end Go.Proofs.YthncinngkfflgaaGreat
