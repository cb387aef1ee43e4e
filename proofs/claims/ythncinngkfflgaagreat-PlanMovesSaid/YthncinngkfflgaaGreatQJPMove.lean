/- PlanMoves: with all a period on; the plain law and the walk. -/
import Derived.Test.YthncinngkfflgaaGreatRows
import Derived.Test.YthncinngkfflgaaGreatQ12
import Derived.Test.YthncinngkfflgaaGreatQ25
import Derived.SizedLaws
import Derived.WalkKit
import Derived.ProofKit
import Derived.OpenShut
import Derived.ShutString
import Derived.ChangeOld
import Derived.Below
set_option linter.unusedVariables false
set_option linter.unusedSimpArgs false
set_option maxRecDepth 100000
namespace Go.Proofs.YthncinngkfflgaaGreat
open Go.RowKit Go.Shelf
attribute [local go_sem ↓] Go.wp_at_zero Go.wp_at_succ

theorem info_po : (Tryz.prog.info? 65).map (fun i => (i.zero, i.size, i.bytes)) = some (some (.agg #[.int .i64 0, .int .i64 0, .int .i64 0, .int .i64 0]), 4, 32) := by kernel_rfl
theorem oCells_len (x : POrd) : (oCells x).length = 4 := rfl
theorem wpList_append_po {w : World} {ops : Array Oper} {rest : List Oper} {o : Oper} {a : Act} {Q : Exit → Act → World → Prop} (hgd : o.guard = none) (s x : Operand) (ho : o.op = .call { callee := .builtin .append, args := #[s, x], argTypes := #[44, 44] })
    {lo : Nat} {v : Value} {l : List POrd} {g : Nat} (z : POrd) (hs : a.eval s = v) (hown : w.ownsRow lo 65 4 v l.length (l.flatMap oCells)) (hx : a.eval x = .slice (some ⟨g, 0, none⟩) 1 1) (hrow : Row w g 65 (oCells z)) (hlen : l.length ≤ 3000000) (hbase : lo ≤ w.heap.size)
    (h : ∀ v' w', w'.ownsRow lo 65 4 v' (l ++ [z]).length ((l ++ [z]).flatMap oCells) → w.grownBy w' v.ownBlock → (v'.ownBlock = v.ownBlock ∨ v'.ownBlock = some w.heap.size) → wpList Tryz.prog ops Q rest (a.put o.dst v') w') : wpList Tryz.prog ops Q (o :: rest) a w := by
  refine wpList_append_src hgd s x _ ho lo 65 _ 4 32 Tryz.underlying44 info_po rfl (by omega) (by omega) v l.length _ hs hown _ 1 (oCells z) hx (Src.row hrow rfl (by simp [oCells, Value.oneCell'])) (by omega) hbase ?_
  intro v' w' k1 k2 k3
  refine h v' w' ?_ k2 k3
  rw [List.length_append, List.flatMap_append, List.flatMap_cons, List.flatMap_nil, List.append_nil]; exact k1

theorem info_pm : (Tryz.prog.info? 67).map (fun i => (i.zero, i.size, i.bytes)) = some (some (.agg #[.int .i64 0, .int .i64 0, .int .i64 0]), 3, 24) := by kernel_rfl
theorem mCells_len (x : PMk) : (mCells x).length = 3 := rfl
theorem wpList_append_pm {w : World} {ops : Array Oper} {rest : List Oper} {o : Oper} {a : Act} {Q : Exit → Act → World → Prop} (hgd : o.guard = none) (s x : Operand) (ho : o.op = .call { callee := .builtin .append, args := #[s, x], argTypes := #[45, 45] })
    {lo : Nat} {v : Value} {l : List PMk} {g : Nat} (z : PMk) (hs : a.eval s = v) (hown : w.ownsRow lo 67 3 v l.length (l.flatMap mCells)) (hx : a.eval x = .slice (some ⟨g, 0, none⟩) 1 1) (hrow : Row w g 67 (mCells z)) (hlen : l.length ≤ 3000000) (hbase : lo ≤ w.heap.size)
    (h : ∀ v' w', w'.ownsRow lo 67 3 v' (l ++ [z]).length ((l ++ [z]).flatMap mCells) → w.grownBy w' v.ownBlock → (v'.ownBlock = v.ownBlock ∨ v'.ownBlock = some w.heap.size) → wpList Tryz.prog ops Q rest (a.put o.dst v') w') : wpList Tryz.prog ops Q (o :: rest) a w := by
  refine wpList_append_src hgd s x _ ho lo 67 _ 3 24 Tryz.underlying45 info_pm rfl (by omega) (by omega) v l.length _ hs hown _ 1 (mCells z) hx (Src.row hrow rfl (by simp [mCells, Value.oneCell'])) (by omega) hbase ?_
  intro v' w' k1 k2 k3
  refine h v' w' ?_ k2 k3
  rw [List.length_append, List.flatMap_append, List.flatMap_cons, List.flatMap_nil, List.append_nil]; exact k1

/-- nothing appended, of a slice that holds nothing -/
theorem wpList_append_zero {P : Program} {w : World} {ops : Array Oper} {rest : List Oper} {o : Oper} {a : Act} {Q : Exit → Act → World → Prop} (hgd : o.guard = none) (s x : Operand) (t : TypeId)
    (ho : o.op = .call { callee := .builtin .append, args := #[s, x], argTypes := #[t, t] })
    (base : Nat) (e : TypeId) (i : TypeInfo) (size : Nat) (ht : P.underlying t = some (.slice e)) (hi : P.info? e = some i)
    (v : Value) (n c : Nat) (xs : List Value) (hs : a.eval s = v) (hown : w.ownsRow base e size v n xs) (hx : a.eval x = .slice none 0 c)
    (h : wpList P ops Q rest (a.put o.dst v) w) : wpList P ops Q (o :: rest) a w := by
  refine wpList_plain hgd fun K hK => ?_
  have hrun : (Builtin.append_ #[t, t] o.type #[v, .slice none 0 c]).run P w = .ok v w := by
    rcases hown.2 with ⟨rfl, rfl⟩ | ⟨g, cap, cur, rfl, _, _, hnc, _⟩
    · simp [Builtin.append_, run_underlying ht, sizeOf, typeInfo, hi, Builtin.lenOf, Builtin.firstCells]
    · simp [Builtin.append_, run_underlying ht, sizeOf, typeInfo, hi, Builtin.lenOf, Builtin.firstCells, hnc, storeCells]
  unfold Oper.wp
  simp [execOp, ho, resolve, invoke, builtin, hs, hx, hrun, Result.andThen]
  exact hK _ _ h
/-- whole numbers that came in, appended to whole numbers of one's own -/
theorem wpList_append_is {w : World} {ops : Array Oper} {rest : List Oper} {o : Oper} {a : Act} {Q : Exit → Act → World → Prop} (hgd : o.guard = none) (s x : Operand) (ho : o.op = .call { callee := .builtin .append, args := #[s, x], argTypes := #[43, 43] })
    {lo : Nat} {v : Value} {l : List Int} {A : Option Addr} {n c : Nat} {l' : List Int} (hs : a.eval s = v) (hown : w.ownsRow lo 3 1 v l.length (l.flatMap iCells)) (hx : a.eval x = .slice A n c) (hsq : Sq 1 iCells w (.slice A n c) l') (hlen : l.length + l'.length ≤ 3000000) (hbase : lo ≤ w.heap.size)
    (h : ∀ v' w', w'.ownsRow lo 3 1 v' (l ++ l').length ((l ++ l').flatMap iCells) → w.grownBy w' v.ownBlock → (v'.ownBlock = v.ownBlock ∨ v'.ownBlock = some w.heap.size) → wpList Tryz.prog ops Q rest (a.put o.dst v') w') : wpList Tryz.prog ops Q (o :: rest) a w := by
  have hn := hsq.len_
  have hlf : (l'.flatMap iCells).length = n * 1 := by
    have h9 : ∀ l : List Int, (l.flatMap iCells).length = l.length := by
      intro l
      induction l with
      | nil => rfl
      | cons a l ih => rw [List.flatMap_cons, List.length_append, ih]; simp [iCells]; omega
    rw [h9]; omega
  have hone : ∀ u ∈ l'.flatMap iCells, u.oneCell' = true := by
    intro u hu; obtain ⟨z, -, hz⟩ := List.mem_flatMap.1 hu; simp [iCells] at hz; subst hz; rfl
  cases A with
  | none =>
    have hl' : l' = [] := by
      cases l' with
      | nil => rfl
      | cons z l' => obtain ⟨b, off, e, -⟩ := hsq.at1 (i := 0) (x := z) rfl; cases e
    subst hl'
    obtain rfl : n = 0 := hn
    obtain ⟨i, hi, -⟩ := info_parts info_i1
    refine wpList_append_zero hgd s x _ ho lo 3 i 1 Tryz.underlying43 hi v l.length c _ hs hown hx ?_
    exact h v w (by simpa using hown) (World.grownBy.refl w _) (.inl rfl)
  | some ad =>
    refine wpList_append_src hgd s x _ ho lo 3 _ 1 8 Tryz.underlying43 info_i1 rfl (by omega) (by omega) v l.length _ hs hown _ n (l'.flatMap iCells) hx ⟨hlf, hone, .inr ⟨ad, c, rfl, fun j u hj => ?_⟩⟩ (by omega) hbase ?_
    · have hjl : j < l'.length := by
        have := (List.getElem?_eq_some_iff.1 hj).1
        omega
      obtain ⟨z, hz⟩ : ∃ z, l'[j]? = some z := ⟨l'[j], List.getElem?_eq_getElem _⟩
      obtain ⟨b, off, e, hc⟩ := hsq.at1 hz
      have h2 := flatMap_get iCells 1 iCells_len l' j 0 z hz (by omega)
      rw [Nat.mul_one, Nat.add_zero, hj] at h2
      injection e with e
      subst e
      rw [Go.WideShapes.add_plain, hc]
      exact h2.symm
    · intro v' w' k1 k2 k3
      refine h v' w' ?_ k2 k3
      rw [List.length_append, List.flatMap_append, ← hn]; exact k1

/-! ### the plain law -/
def mvO (o : POrd) : POrd := { o with due := o.due + 1 }
def mvM (x : PMk) : PMk := { x with period := x.period + 1 }
def mvD (D : PBook) : PBook := { D with now := D.now + 1, caps := 0 :: D.caps, ords := D.ords.map mvO, mks := D.mks.map mvM }
section
variable {D : PBook} (h : mayB D = true) (h' : mayB (mvD D) = true)
include h h'
theorem mv_due (i p : Int) : dueV (mvD D) i (p + 1) = dueV D i p := by
  unfold dueV; rw [if_pos h, if_pos h']
  show dueOf i (p+1) (D.ords.map mvO) = _
  unfold dueOf; rw [List.map_map]
  refine sumI_congr fun o _ => ?_
  simp [mvO]
theorem mv_there (i : Int) : thereV (mvD D) i = thereV D i := by
  unfold thereV; rw [if_pos h, if_pos h']
  show goneOf i (D.now+1) (D.ords.map mvO) + cameOf i (D.now+1) (D.mks.map mvM) = _
  have e1 : goneOf i (D.now+1) (D.ords.map mvO) = goneOf i D.now D.ords := by
    unfold goneOf; rw [List.map_map]
    refine sumI_congr fun o _ => ?_
    simp [mvO]
  have e2 : cameOf i (D.now+1) (D.mks.map mvM) = cameOf i D.now D.mks := by
    unfold cameOf; rw [List.map_map]
    refine sumI_congr fun o _ => ?_
    simp [mvM]
  rw [e1, e2]
theorem mv_cap (p : Int) (hp : 0 ≤ p) : capV (mvD D) (p + 1) = capV D p := by
  unfold capV
  have e1 : (mvD D).caps = 0 :: D.caps := rfl
  rw [e1, List.length_cons]
  by_cases g : p < D.caps.length
  · rw [if_pos ⟨h', by omega, by omega⟩, if_pos ⟨h, hp, g⟩]
    obtain ⟨k, rfl⟩ := Int.eq_ofNat_of_zero_le hp
    rw [show ((k : Int) + 1).toNat = k + 1 by omega, show ((k : Int)).toNat = k by omega]
    simp [List.getD_eq_getElem?_getD]
  · rw [if_neg (by rintro ⟨-, -, h3⟩; omega), if_neg (by rintro ⟨-, -, h3⟩; omega)]
theorem mv_fixed (i p : Int) : fixedV (mvD D) i (p + 1) = fixedV D i p := by
  unfold fixedV; rw [if_pos h, if_pos h']
  show ((D.mks.map mvM).find? _).map _ = _
  rw [List.find?_map, Option.map_map]
  have e : ((fun x : PMk => decide (x.item = i ∧ x.period = p + 1)) ∘ mvM) = fun x : PMk => decide (x.item = i ∧ x.period = p) := by
    funext x
    show decide (x.item = i ∧ x.period + 1 = p + 1) = _
    exact decide_eq_decide.2 (by constructor <;> rintro ⟨a, b⟩ <;> exact ⟨a, by omega⟩)
  rw [e]; rfl
theorem mv_shape (t : List (List Int)) : shapeB (mvD D) t = shapeB D t := by
  unfold shapeB; rw [h, h']; rfl
theorem mv_lev (r : List Int) (i : Int) (k : Nat) : lev (mvD D) r i k = lev D r i k := by
  induction k with
  | zero => exact mv_there h h' i
  | succ k ih =>
    show lev (mvD D) r i k + (r.getD k 0 - dueV (mvD D) i (D.now + 1 + k)) = lev D r i k + (r.getD k 0 - dueV D i (D.now + k))
    rw [ih, show D.now + 1 + (k : Int) = D.now + k + 1 by omega, mv_due h h']
theorem mv_costRow (x : PItem) (r : List Int) (i k : Nat) : costRow (mvD D) x r i k = costRow D x r i k := by
  induction k with
  | zero => rfl
  | succ k ih =>
    show costRow (mvD D) x r i k + termC x (r.getD k 0) (lev (mvD D) r i (k+1)) = costRow D x r i k + termC x (r.getD k 0) (lev D r i (k+1))
    rw [ih, mv_lev h h']
theorem mv_costTo (t : List (List Int)) (m : Nat) : costTo (mvD D) t m = costTo D t m := by
  induction m with
  | zero => rfl
  | succ m ih =>
    show costTo (mvD D) t m + costRow (mvD D) (D.items.getD m item0) (t.getD m []) m D.hor.toNat = costTo D t m + costRow D (D.items.getD m item0) (t.getD m []) m D.hor.toNat
    rw [ih, mv_costRow h h']
theorem mv_cost (t : List (List Int)) : costV (mvD D) t = costV D t := by
  unfold costV; rw [mv_shape h h', mv_costTo h h']
theorem mv_free (k m : Nat) : freeB (mvD D) k m = freeB D k m := by
  induction m with
  | zero => rfl
  | succ m ih =>
    show (freeB (mvD D) k m || (fixedV (mvD D) m (D.now + 1 + k)).isNone) = (freeB D k m || (fixedV D m (D.now + k)).isNone)
    rw [ih, show D.now + 1 + (k : Int) = D.now + k + 1 by omega, mv_fixed h h']
theorem mv_period (t : List (List Int)) (k : Nat) : periodP (mvD D) t k ↔ periodP D t k := by
  have h0 := (mayB_iff.1 h).head.t0
  have e1 : (mvD D).now + (k : Int) = D.now + k + 1 := by show D.now + 1 + (k : Int) = _; omega
  unfold periodP fixOk
  rw [e1, mv_free h h', mv_cap h h' _ (by omega)]
  simp only [mv_fixed h h']
theorem mv_allowed (t : List (List Int)) : allowedB (mvD D) t = allowedB D t := by
  have e : AllowedP (mvD D) t ↔ AllowedP D t := by
    constructor
    · rintro ⟨a, b, c⟩
      exact ⟨shapeB_iff.1 (by rw [← mv_shape h h']; exact shapeB_iff.2 a), fun k hk => (mv_period h h' t k).1 (b k hk), fun i r hr => by rw [← mv_lev h h']; exact c i r hr⟩
    · rintro ⟨a, b, c⟩
      exact ⟨shapeB_iff.1 (by rw [mv_shape h h']; exact shapeB_iff.2 a), fun k hk => (mv_period h h' t k).2 (b k hk), fun i r hr => by rw [mv_lev h h']; exact c i r hr⟩
  exact Bool.eq_iff_iff.2 (by rw [allowedB_iff, allowedB_iff]; exact e)
end

set_option maxHeartbeats 16000000 in
theorem planmoves_walk (w : World) (v0 v1 : Value) (h0 : ArgBook w v0) (h1 : ArgGrid w v1) :
    Calls Tryz.prog 7 #[v0, v1] w (RetV w (.bool true)) := by
  obtain ⟨A1, A2, A3, A4, n1, n2, n3, n4, c1, c2, c3, c4, hor, now, caps, ords, mks, rfl, hi, hcp, hor', hmk, hft⟩ := h0
  have HI := hide hi; have HCP := hide hcp; have HOR := hide hor'; have HMK := hide hmk; have HFT := hide hft
  clear hi hcp hor' hmk hft
  obtain ⟨Aq, nq, cq, t, rfl, hg, hgf, hgl⟩ := h1
  have HG := hide hg; have HGF := hide hgf; have HGL := hide hgl
  clear hg hgf hgl
  obtain ⟨W0, hW0⟩ : ∃ W0, W0 = (w.alloc (Obj.cells #[Value.slice A1 n1 c1, Value.int .i64 hor, Value.int .i64 now, Value.slice A2 n2 c2, Value.slice A3 n3 c3, Value.slice A4 n4 c4] 47)) := ⟨_, rfl⟩
  obtain ⟨hb0, r0, hsz0⟩ := boxes1 w [.slice A1 n1 c1, .int .i64 hor, .int .i64 now, .slice A2 n2 c2, .slice A3 n3 c3, .slice A4 n4 c4] 47 hW0
  have B0 := hide hb0; have HW0 := hide hW0
  have R0 := hide r0
  clear hb0 hW0 hsz0 r0
  go_enter Tryz.func7, Tryz.ntmps7
  go_upto_region 1 with fail
  rw [← HW0.out]
  go_wp2_with fail
  ((with_reducible refine (awake17_calls W0).mono ?_); rintro e w1 ⟨rfl, b1⟩)
  have HL1 := hide b1
  clear b1
  have r_d := R0.out.later HL1.out
  have d0 := r_d.cell (i := 0) rfl; have d1 := r_d.cell (i := 1) rfl; have d2 := r_d.cell (i := 2) rfl; have d3 := r_d.cell (i := 3) rfl; have d4 := r_d.cell (i := 4) rfl; have d5 := r_d.cell (i := 5) rfl
  clear r_d
  go_wp2_with fail
  ((with_reducible refine (few17_calls w1 _ _ _ _ _ _ _ _ _ _ _ _ hor now caps ords mks (HI.out.later (B0.out.trans HL1.out)) (HCP.out.later (B0.out.trans HL1.out)) (HOR.out.later (B0.out.trans HL1.out)) (HMK.out.later (B0.out.trans HL1.out)) HFT.out.1 HFT.out.2.1 HFT.out.2.2.1 HFT.out.2.2.2.1 HFT.out.2.2.2.2).mono ?_); rintro e w2 ⟨uf, rfl, b2, hf⟩)
  have HF := hide hf; have HL2 := hide (HL1.out.trans b2)
  have HLB := hide b2
  clear b2 hf d0 d1 d2 d3 d4 d5
  have r_d := R0.out.later HL2.out
  have d0 := r_d.cell (i := 0) rfl; have d1 := r_d.cell (i := 1) rfl; have d2 := r_d.cell (i := 2) rfl; have d3 := r_d.cell (i := 3) rfl; have d4 := r_d.cell (i := 4) rfl; have d5 := r_d.cell (i := 5) rfl
  clear r_d
  cases uf with
  | false =>
    go_wp2_with fail
    go_ret
    exact ⟨rfl, B0.out.trans HL2.out⟩
  | true =>
  obtain ⟨D, rfl, rfl, rfl, rfl, rfl, hbk⟩ := HF.out (by first | rfl | trivial)
  have H := hide (hbk.later HLB.out)
  clear hbk HF HI HCP HOR HMK HFT HLB
  go_wp2_with fail
  ((with_reducible refine (fewplan_calls w2 _ _ _ t (HG.out.later (B0.out.trans HL2.out)) HGF.out HGL.out).mono ?_); rintro e w3 ⟨uf, rfl, b3, hf⟩)
  have HF := hide hf; have HL3 := hide (HL2.out.trans b3)
  have HK3 := hide b3
  clear b3 hf d0 d1 d2 d3 d4 d5
  have r_d := R0.out.later HL3.out
  have d0 := r_d.cell (i := 0) rfl; have d1 := r_d.cell (i := 1) rfl; have d2 := r_d.cell (i := 2) rfl; have d3 := r_d.cell (i := 3) rfl; have d4 := r_d.cell (i := 4) rfl; have d5 := r_d.cell (i := 5) rfl
  clear r_d
  cases uf with
  | false =>
    go_wp2_with fail
    go_ret
    exact ⟨rfl, B0.out.trans HL3.out⟩
  | true =>
  have HQ := hide ((HF.out (by first | rfl | trivial)).later HK3.out)
  have H3 := hide (H.out.later HK3.out)
  clear H HF HG HGF HGL
  have H := H3
  clear H3
  obtain ⟨u0, hu0⟩ : ∃ u, mayB D = u := ⟨_, rfl⟩
  have HU0 := hide hu0
  have L3 := hide H.out.lens.2.2.1; have L4 := hide H.out.lens.2.2.2; have L2 := hide H.out.lens.2.1
  have hn3 : n3 ≤ 1000 := by have := H.out.ol; have := L3.out; omega
  have hn4 : n4 ≤ 1000 := by have := H.out.ml; have := L4.out; omega
  clear hu0
  go_wp2_with fail
  ((with_reducible refine (rmay_calls _ _ _ _ _ _ _ _ _ _ _ _ _ D H.out u0 HU0.out).mono ?_); rintro e w4 ⟨rfl, b4⟩)
  have HL4 := hide (HL3.out.trans b4); have HL34 := hide b4
  clear b4 d0 d1 d2 d3 d4 d5
  have r_d := R0.out.later HL4.out
  have d0 := r_d.cell (i := 0) rfl; have d1 := r_d.cell (i := 1) rfl; have d2 := r_d.cell (i := 2) rfl; have d3 := r_d.cell (i := 3) rfl; have d4 := r_d.cell (i := 4) rfl; have d5 := r_d.cell (i := 5) rfl
  clear r_d
  cases u0 with
  | false =>
    go_wp2_with fail
    go_ret
    exact ⟨rfl, B0.out.trans HL4.out⟩
  | true =>
  have HMAY := hide (mayB_iff.1 HU0.out)
  have hnw0 := HMAY.out.head.t0; have hnw1 := HMAY.out.head.t40
  have hwn : IntKind.i64.wrap (D.now + 1) = D.now + 1 := IntWalk.i64_in _ (by omega)
  go_upto_region 6 with fail
  obtain ⟨wa, hwa⟩ : ∃ wa, wa = w4.alloc (Obj.cells #[Value.slice A1 n1 c1, Value.int .i64 D.hor, Value.int .i64 D.now, Value.slice A2 n2 c2, Value.slice A3 n3 c3, Value.slice A4 n4 c4] 47) := ⟨_, rfl⟩
  obtain ⟨G, hG⟩ : ∃ G, G = w4.heap.size := ⟨_, rfl⟩
  have bwa : Later w4 wa := by rw [hwa]; exact (Later.refl _).alloc _
  have rG : Row wa G 47 [.slice A1 n1 c1, .int .i64 D.hor, .int .i64 D.now, .slice A2 n2 c2, .slice A3 n3 c3, .slice A4 n4 c4] := by rw [hwa, hG]; exact Row.new _ _ _
  rw [← hwa, ← hG]
  have HG : Hid (w4.heap.size ≤ G) := hide (by rw [hG]; exact Nat.le_refl _)
  have hsa : wa.heap.size = G + 1 := by rw [hwa, World.size_alloc, hG]
  have RGa := hide rG; have HLa := hide bwa
  clear hwa hG rG bwa d0 d1 d2 d3 d4 d5
  have r_d := R0.out.later (HL4.out.trans HLa.out)
  have d0 := r_d.cell (i := 0) rfl; have d1 := r_d.cell (i := 1) rfl; have d2 := r_d.cell (i := 2) rfl; have d3 := r_d.cell (i := 3) rfl; have d4 := r_d.cell (i := 4) rfl; have d5 := r_d.cell (i := 5) rfl
  clear r_d
  have f0 := RGa.out.cell (i := 0) rfl; have f1 := RGa.out.cell (i := 1) rfl; have f2 := RGa.out.cell (i := 2) rfl; have f3 := RGa.out.cell (i := 3) rfl; have f4 := RGa.out.cell (i := 4) rfl; have f5 := RGa.out.cell (i := 5) rfl; have z2 := RGa.out.frozen 2
  go_upto_region 7 with fail
  obtain ⟨w5, hw5⟩ : ∃ w5, w5 = wa.setCell ⟨G, 2, none⟩ (.int .i64 (D.now + 1)) := ⟨_, rfl⟩
  have r5 : Row w5 G 47 [.slice A1 n1 c1, .int .i64 D.hor, .int .i64 (D.now + 1), .slice A2 n2 c2, .slice A3 n3 c3, .slice A4 n4 c4] := by rw [hw5]; exact RGa.out.set_ 2 _
  have oo5 : Only G wa w5 := by rw [hw5]; exact Only.one G wa 2 _
  rw [← hw5]
  have HW5 : Hid (w5.heap.size = G + 1) := hide (by rw [oo5.size]; exact hsa)
  have RG5 := hide r5; have HL45 := hide (HLa.out.only oo5 HG.out)
  clear hw5 r5 oo5 hsa RGa HLa d0 d1 d2 d3 d4 d5 f0 f1 f2 f3 f4 f5 z2
  have r_d := R0.out.later (HL4.out.trans (HL45.out.alloc (Obj.cells #[Value.int .i64 0] 3)))
  have d0 := r_d.cell (i := 0) rfl; have d1 := r_d.cell (i := 1) rfl; have d2 := r_d.cell (i := 2) rfl; have d3 := r_d.cell (i := 3) rfl; have d4 := r_d.cell (i := 4) rfl; have d5 := r_d.cell (i := 5) rfl
  clear r_d
  go_upto_region 10 with (at_builtin; refine wpList_append_is rfl _ _ rfl (lo := w5.heap.size) (l := [0]) rfl (World.ownsRow_lit w5 #[Value.int .i64 0] 1 (Nat.le_refl _) (by decide) rfl) rfl ((H.out.later (HL34.out.trans (HL45.out.alloc _))).caps) (by have := H.out.cl; simp; omega) (by rw [World.size_alloc]; omega) ?_; intro v6 w6 k1 k2 k3; obtain ⟨A7, n7, c7, rfl, -, -, -, -⟩ := (Sq.of_own iCells_len k1).form; have hr6 := (RG5.out.later ((Later.refl w5).alloc _)).grown k2 (fun e => by have := HW5.out; have := RG5.out.lt; injection e with e; simp at e; omega); have f0 := hr6.cell (i := 0) rfl; have f1 := hr6.cell (i := 1) rfl; have f2 := hr6.cell (i := 2) rfl; have f3 := hr6.cell (i := 3) rfl; have f4 := hr6.cell (i := 4) rfl; have f5 := hr6.cell (i := 5) rfl; have z3 := hr6.frozen 3; have z4 := hr6.frozen 4; have z5 := hr6.frozen 5; have HR6 := hide hr6; have HK1 := hide k1; have HK2 := hide k2; clear hr6 k1 k2 k3)
  obtain ⟨w7, hw7⟩ : ∃ w7, w7 = ((w6.setCell ⟨G, 3, none⟩ (.slice A7 n7 c7)).setCell ⟨G, 4, none⟩ (.slice none 0 0)).setCell ⟨G, 5, none⟩ (.slice none 0 0) := ⟨_, rfl⟩
  have r7 : Row w7 G 47 [.slice A1 n1 c1, .int .i64 D.hor, .int .i64 (D.now + 1), .slice A7 n7 c7, .slice none 0 0, .slice none 0 0] := by rw [hw7]; exact ((HR6.out.set_ 3 _).set_ 4 _).set_ 5 _
  have oo : Only G w6 w7 := by rw [hw7]; exact ((Only.one G w6 3 _).set 4 _).set 5 _
  rw [← hw7]
  have hl56 : Later w5 w6 := ((Later.refl w5).alloc _).grown HK2.out (fun k hk => (World.ownsRow.lt (World.ownsRow_lit w5 #[Value.int .i64 0] (e := 3) (size := 1) 1 (Nat.le_refl _) (by decide) rfl) k hk).1)
  have HLC : Hid (Later w4 w7) := hide ((HL45.out.trans hl56).only oo HG.out)
  have RC := hide r7
  have HW75 : Hid (w5.heap.size ≤ w7.heap.size) := hide (by rw [oo.size]; exact hl56.size)
  have HON : Hid (On w7 (fun b => w5.heap.size ≤ b ∧ b < w7.heap.size) (fun W => Sq 1 iCells W (.slice A7 n7 c7) (0 :: D.caps))) := hide
    (((On.sq iCells_len HK1.out).only oo (by have := HW5.out; omega)).mono (fun b hb hlt => ⟨hb, hlt⟩))
  clear hw7 r7 oo hl56 HR6 HK1 HK2 f0 f1 f2 f3 f4 f5 z3 z4 z5 d0 d1 d2 d3 d4 d5
  go_wp2_with fail
  go_loopw [6] (fun i wr => ∃ j : Nat, j ≤ n3 ∧ i = .int .i64 (j : Int) ∧ (∃ Av nv cv, Row wr G 47 [.slice A1 n1 c1, .int .i64 D.hor, .int .i64 (D.now + 1), .slice A7 n7 c7, .slice Av nv cv, .slice none 0 0] ∧ wr.ownsRow w7.heap.size 65 4 (.slice Av nv cv) ((D.ords.take j).map mvO).length (((D.ords.take j).map mvO).flatMap oCells)) ∧ Later w4 wr ∧ w7.heap.size ≤ wr.heap.size ∧ On wr (fun b => w5.heap.size ≤ b ∧ b < w7.heap.size) (fun W => Sq 1 iCells W (.slice A7 n7 c7) (0 :: D.caps))) (fun i _ => (n3 - intOf i).toNat)
  case atStart => exact ⟨0, by omega, rfl, ⟨_, _, _, RC.out, World.ownsRow_nil _ _ _ 4⟩, HLC.out, Nat.le_refl _, HON.out⟩
  case round =>
    obtain ⟨j, hj, rfl, ⟨Av, nv, cv, hR, hown⟩, hL, hsz, hon⟩ := hrel
    have HL := hide hL; have RG := hide hR; have HOWN := hide hown; have HSZ := hide hsz; have HON2 := hide hon
    clear hL hR hown hsz hon
    have r_d := R0.out.later (HL4.out.trans HL.out)
    have d0 := r_d.cell (i := 0) rfl; have d1 := r_d.cell (i := 1) rfl; have d2 := r_d.cell (i := 2) rfl; have d3 := r_d.cell (i := 3) rfl; have d4 := r_d.cell (i := 4) rfl; have d5 := r_d.cell (i := 5) rfl
    clear r_d
    by_cases hjn : j < n3
    · obtain ⟨x, hx⟩ : ∃ x, D.ords[j]? = some x := ⟨D.ords[j]'(by have := L3.out; omega), List.getElem?_eq_getElem _⟩
      obtain ⟨b1, off1, rfl, x0, x1, x2, x3⟩ := (H.out.later (HL34.out.trans HL.out)).ords.at4 hx
      have hj0 : (0 : Int) ≤ (j : Int) := by omega
      have hj1 : (j : Int) < n3 := by omega
      have htk : D.ords.take (j+1) = D.ords.take j ++ [x] := by rw [List.take_add_one, hx]; rfl
      have htm : (D.ords.take (j+1)).map mvO = (D.ords.take j).map mvO ++ [mvO x] := by rw [htk, List.map_append]; rfl
      have hlm : ((D.ords.take j).map mvO).length ≤ 1000 := by rw [List.length_map, List.length_take]; omega
      have hok := by have := HMAY.out.ords x (List.mem_of_getElem? hx); unfold POrd.okP at this; exact this
      have hw1 : IntKind.i64.wrap (x.due + 1) = x.due + 1 := IntWalk.i64_in _ (by omega)
      have HTM := hide htm; have HLM := hide hlm
      clear hx htk htm hlm hok
      go_upto_region 15 with fail
      obtain ⟨wA, hwA⟩ : ∃ wA, wA = wr.alloc (Obj.cells #[Value.int .i64 x.id, Value.int .i64 x.item, Value.int .i64 (x.due + 1), Value.int .i64 x.qty] 65) := ⟨_, rfl⟩
      obtain ⟨gA, hgA⟩ : ∃ gA, gA = wr.heap.size := ⟨_, rfl⟩
      have bA : Later wr wA := by rw [hwA]; exact (Later.refl _).alloc _
      have rA : Row wA gA 65 [.int .i64 x.id, .int .i64 x.item, .int .i64 (x.due + 1), .int .i64 x.qty] := by rw [hwA, hgA]; exact Row.new _ _ _
      rw [← hwA, ← hgA]
      have HA := hide bA
      have RGA := hide (RG.out.later bA)
      have HSA : Hid (w7.heap.size ≤ wA.heap.size) := hide (Nat.le_trans HSZ.out bA.size)
      clear hwA hgA bA x0  x1  x2  x3 d0 d1 d2 d3 d4 d5
      have f0 := RGA.out.cell (i := 0) rfl; have f1 := RGA.out.cell (i := 1) rfl; have f2 := RGA.out.cell (i := 2) rfl; have f3 := RGA.out.cell (i := 3) rfl; have f4 := RGA.out.cell (i := 4) rfl; have f5 := RGA.out.cell (i := 5) rfl; have z4 := RGA.out.frozen 4
      have y0 := rA.cell (i := 0) rfl; have y1 := rA.cell (i := 1) rfl; have y2 := rA.cell (i := 2) rfl; have y3 := rA.cell (i := 3) rfl
      clear rA
      go_wp2_with (at_builtin; refine wpList_append_po rfl _ _ rfl (mvO x) rfl (ownsRow_later HOWN.out (HA.out.alloc _)) rfl (Row.new wA 65 [.int .i64 x.id, .int .i64 x.item, .int .i64 (x.due + 1), .int .i64 x.qty]) (by have := HLM.out; omega) (by have := HSA.out; rw [World.size_alloc]; omega) ?_; intro v8 w8 k1 k2 k3; obtain ⟨A8, n8, c8, rfl, -, -, -, -⟩ := (Sq.of_own oCells_len k1).form; have hbl := World.ownsRow.lt HOWN.out; have hGL := RG5.out.lt; have hG5 := HW5.out; have hlo := HW75.out; have hr8 := (RGA.out.later ((Later.refl wA).alloc _)).grown k2 (fun e => by have := (hbl G e.symm).1; omega); have f4b := hr8.cell (i := 4) rfl; have z4b := hr8.frozen 4; have HR8 := hide hr8; have HK1 := hide k1; have HK2 := hide k2; clear hr8 k1 k2 k3 hbl hGL hG5 hlo)
      have oo := Only.one G w8 4 (.slice A8 n8 c8)
      have hbl := World.ownsRow.lt HOWN.out
      have hGL := RG5.out.lt; have hG5 := HW5.out; have hlo := HW75.out
      refine ⟨⟨j+1, by omega, by go_num, ⟨_, _, _, HR8.out.set_ 4 _, ?_⟩, ?_, ?_, ?_⟩, by simp [intOf]; omega⟩
      · rw [HTM.out]; exact ownsRow_only HK1.out oo (by omega)
      · refine ((((HL.out.trans HA.out).alloc _).grown HK2.out (fun k hk => ?_)).only oo HG.out)
        have := (hbl k hk).1; have := HLC.out.size; omega
      · rw [oo.size]; have := HK2.out.size; rw [World.size_alloc] at this; have := HSA.out; omega
      · refine (((HON2.out.later (HA.out.alloc _)).grown HK2.out (fun b hb hlt e => ?_)).only oo (fun hb => ?_))
        · have := (hbl b e.symm).1; omega
        · omega
    · have hj1 : ¬ (j : Int) < n3 := by omega
      have HON3 := hide ((HON2.out.mono (fun b hb hlt => (⟨hb.1, hlt⟩ : w5.heap.size ≤ b ∧ b < wr.heap.size))).and ((On.sq oCells_len HOWN.out).mono (fun b hb hlt => (⟨by have h1 := HW75.out; omega, hlt⟩ : w5.heap.size ≤ b ∧ b < wr.heap.size))))
      clear HON2 HON HLC RC
      obtain ⟨wL, hwL⟩ : ∃ wL, wL = wr := ⟨_, rfl⟩
      subst hwL
      have HON : Hid (On wL (fun b => w5.heap.size ≤ b ∧ b < wL.heap.size) (fun W => (Sq 1 iCells W (.slice A7 n7 c7) (0 :: D.caps)) ∧ (Sq 4 oCells W (.slice Av nv cv) (D.ords.map mvO)))) := hide (by
        have := HON3.out
        rw [List.take_of_length_le (by have := L3.out; omega)] at this
        exact this)
      have HLC := HL
      have RC := RG
      have HWL2 : Hid (w5.heap.size ≤ wL.heap.size) := hide (by have h1 := HW75.out; have h2 := HSZ.out; omega)
      clear HL RG HOWN HSZ HON3
      obtain ⟨A8, hA8⟩ : ∃ A, A = Av := ⟨_, rfl⟩; obtain ⟨n8, hn8⟩ : ∃ A, A = nv := ⟨_, rfl⟩; obtain ⟨c8, hc8⟩ : ∃ A, A = cv := ⟨_, rfl⟩
      subst hA8 hn8 hc8
      go_wp2_with fail
      go_loopw [8] (fun i wr => ∃ j : Nat, j ≤ n4 ∧ i = .int .i64 (j : Int) ∧ (∃ Av nv cv, Row wr G 47 [.slice A1 n1 c1, .int .i64 D.hor, .int .i64 (D.now + 1), .slice A7 n7 c7, .slice A8 n8 c8, .slice Av nv cv] ∧ wr.ownsRow wL.heap.size 67 3 (.slice Av nv cv) ((D.mks.take j).map mvM).length (((D.mks.take j).map mvM).flatMap mCells)) ∧ Later w4 wr ∧ wL.heap.size ≤ wr.heap.size ∧ On wr (fun b => w5.heap.size ≤ b ∧ b < wL.heap.size) (fun W => (Sq 1 iCells W (.slice A7 n7 c7) (0 :: D.caps)) ∧ (Sq 4 oCells W (.slice A8 n8 c8) (D.ords.map mvO)))) (fun i _ => (n4 - intOf i).toNat)
      case atStart => exact ⟨0, by omega, rfl, ⟨_, _, _, RC.out, World.ownsRow_nil _ _ _ 3⟩, HLC.out, Nat.le_refl _, HON.out⟩
      case round =>
        obtain ⟨j, hj, rfl, ⟨Av, nv, cv, hR, hown⟩, hL, hsz, hon⟩ := hrel
        have HL := hide hL; have RG := hide hR; have HOWN := hide hown; have HSZ := hide hsz; have HON2 := hide hon
        clear hL hR hown hsz hon
        have r_d := R0.out.later (HL4.out.trans HL.out)
        have d0 := r_d.cell (i := 0) rfl; have d1 := r_d.cell (i := 1) rfl; have d2 := r_d.cell (i := 2) rfl; have d3 := r_d.cell (i := 3) rfl; have d4 := r_d.cell (i := 4) rfl; have d5 := r_d.cell (i := 5) rfl
        clear r_d
        by_cases hjn : j < n4
        · obtain ⟨x, hx⟩ : ∃ x, D.mks[j]? = some x := ⟨D.mks[j]'(by have := L4.out; omega), List.getElem?_eq_getElem _⟩
          obtain ⟨b1, off1, rfl, x0, x1, x2⟩ := (H.out.later (HL34.out.trans HL.out)).mks.at3 hx
          have hj0 : (0 : Int) ≤ (j : Int) := by omega
          have hj1 : (j : Int) < n4 := by omega
          have htk : D.mks.take (j+1) = D.mks.take j ++ [x] := by rw [List.take_add_one, hx]; rfl
          have htm : (D.mks.take (j+1)).map mvM = (D.mks.take j).map mvM ++ [mvM x] := by rw [htk, List.map_append]; rfl
          have hlm : ((D.mks.take j).map mvM).length ≤ 1000 := by rw [List.length_map, List.length_take]; omega
          have hok := by have := HMAY.out.mks x (List.mem_of_getElem? hx); unfold PMk.okP at this; exact this
          have hw1 : IntKind.i64.wrap (x.period + 1) = x.period + 1 := IntWalk.i64_in _ (by omega)
          have HTM := hide htm; have HLM := hide hlm
          clear hx htk htm hlm hok
          go_upto_region 21 with fail
          obtain ⟨wA, hwA⟩ : ∃ wA, wA = wr.alloc (Obj.cells #[Value.int .i64 x.item, Value.int .i64 (x.period + 1), Value.int .i64 x.qty] 67) := ⟨_, rfl⟩
          obtain ⟨gA, hgA⟩ : ∃ gA, gA = wr.heap.size := ⟨_, rfl⟩
          have bA : Later wr wA := by rw [hwA]; exact (Later.refl _).alloc _
          have rA : Row wA gA 67 [.int .i64 x.item, .int .i64 (x.period + 1), .int .i64 x.qty] := by rw [hwA, hgA]; exact Row.new _ _ _
          rw [← hwA, ← hgA]
          have HA := hide bA
          have RGA := hide (RG.out.later bA)
          have HSA : Hid (wL.heap.size ≤ wA.heap.size) := hide (Nat.le_trans HSZ.out bA.size)
          clear hwA hgA bA x0  x1  x2 d0 d1 d2 d3 d4 d5
          have f0 := RGA.out.cell (i := 0) rfl; have f1 := RGA.out.cell (i := 1) rfl; have f2 := RGA.out.cell (i := 2) rfl; have f3 := RGA.out.cell (i := 3) rfl; have f4 := RGA.out.cell (i := 4) rfl; have f5 := RGA.out.cell (i := 5) rfl; have z5 := RGA.out.frozen 5
          have y0 := rA.cell (i := 0) rfl; have y1 := rA.cell (i := 1) rfl; have y2 := rA.cell (i := 2) rfl
          clear rA
          go_wp2_with (at_builtin; refine wpList_append_pm rfl _ _ rfl (mvM x) rfl (ownsRow_later HOWN.out (HA.out.alloc _)) rfl (Row.new wA 67 [.int .i64 x.item, .int .i64 (x.period + 1), .int .i64 x.qty]) (by have := HLM.out; omega) (by have := HSA.out; rw [World.size_alloc]; omega) ?_; intro v8 w8 k1 k2 k3; obtain ⟨A8, n8, c8, rfl, -, -, -, -⟩ := (Sq.of_own mCells_len k1).form; have hbl := World.ownsRow.lt HOWN.out; have hGL := RG5.out.lt; have hG5 := HW5.out; have hlo := HWL2.out; have hr8 := (RGA.out.later ((Later.refl wA).alloc _)).grown k2 (fun e => by have := (hbl G e.symm).1; omega); have f5b := hr8.cell (i := 5) rfl; have z5b := hr8.frozen 5; have HR8 := hide hr8; have HK1 := hide k1; have HK2 := hide k2; clear hr8 k1 k2 k3 hbl hGL hG5 hlo)
          have oo := Only.one G w8 5 (.slice A8 n8 c8)
          have hbl := World.ownsRow.lt HOWN.out
          have hGL := RG5.out.lt; have hG5 := HW5.out; have hlo := HWL2.out
          refine ⟨⟨j+1, by omega, by go_num, ⟨_, _, _, HR8.out.set_ 5 _, ?_⟩, ?_, ?_, ?_⟩, by simp [intOf]; omega⟩
          · rw [HTM.out]; exact ownsRow_only HK1.out oo (by omega)
          · refine ((((HL.out.trans HA.out).alloc _).grown HK2.out (fun k hk => ?_)).only oo HG.out)
            have := (hbl k hk).1; have := HLC.out.size; omega
          · rw [oo.size]; have := HK2.out.size; rw [World.size_alloc] at this; have := HSA.out; omega
          · refine (((HON2.out.later (HA.out.alloc _)).grown HK2.out (fun b hb hlt e => ?_)).only oo (fun hb => ?_))
            · have := (hbl b e.symm).1; omega
            · omega
        · have hj1 : ¬ (j : Int) < n4 := by omega
          have HON3 := hide ((HON2.out.mono (fun b hb hlt => (⟨hb.1, hlt⟩ : w5.heap.size ≤ b ∧ b < wr.heap.size))).and ((On.sq mCells_len HOWN.out).mono (fun b hb hlt => (⟨by have h1 := HWL2.out; omega, hlt⟩ : w5.heap.size ≤ b ∧ b < wr.heap.size))))
          have hA9 := (On.sq mCells_len HOWN.out).now.len_
          have h12 := HON3.out.now
          rw [List.take_of_length_le (by have := L4.out; omega)] at h12
          have HB : Hid (BookIn wr (.slice A1 n1 c1) (.slice A7 n7 c7) (.slice A8 n8 c8) (.slice Av nv cv) (mvD D)) := hide
            { its := (H.out.later (HL34.out.trans HL.out)).its, caps := h12.1.1, ords := h12.1.2, mks := h12.2, il := H.out.il,
              cl := by (show (0 :: D.caps).length ≤ 1000); have := HMAY.out.head.cl; rw [List.length_cons]; omega,
              ol := by (show (D.ords.map mvO).length ≤ 1000); rw [List.length_map]; exact H.out.ol,
              ml := by (show (D.mks.map mvM).length ≤ 1000); rw [List.length_map]; exact H.out.ml,
              hfit := H.out.hfit, nfit := by (show IFit (D.now + 1)); unfold IFit; omega,
              cfit := fun z hz => by
                rcases List.mem_cons.1 hz with rfl | hz
                · unfold IFit; omega
                · exact H.out.cfit z hz,
              ofit := fun o ho => by
                obtain ⟨x, hx, rfl⟩ := List.mem_map.1 ho
                have h1 := H.out.ofit x hx; have h2 := HMAY.out.ords x hx
                unfold POrd.fit IFit at h1; unfold POrd.okP at h2
                unfold POrd.fit IFit mvO; dsimp only; omega,
              mfit := fun o ho => by
                obtain ⟨x, hx, rfl⟩ := List.mem_map.1 ho
                have h1 := H.out.mfit x hx; have h2 := HMAY.out.mks x hx
                unfold PMk.fit IFit at h1; unfold PMk.okP at h2
                unfold PMk.fit IFit mvM; dsimp only; omega }
          clear hA9 h12
          obtain ⟨u1, hu1⟩ : ∃ u, mayB (mvD D) = u := ⟨_, rfl⟩
          have HU1 := hide hu1
          clear hu1
          have f0 := RG.out.cell (i := 0) rfl; have f1 := RG.out.cell (i := 1) rfl; have f2 := RG.out.cell (i := 2) rfl; have f3 := RG.out.cell (i := 3) rfl; have f4 := RG.out.cell (i := 4) rfl; have f5 := RG.out.cell (i := 5) rfl; have z5 := RG.out.frozen 5
          go_wp2_with fail
          ((refine (rmay_calls _ _ _ _ _ _ _ _ _ _ _ _ _ (mvD D) HB.out u1 HU1.out).mono ?_); rintro e w9 ⟨rfl, b9⟩)
          have HL9 := hide (HL4.out.trans (HL.out.trans b9)); have HL39 := hide (HL34.out.trans (HL.out.trans b9)); have HB9 := hide b9
          have RG9 := hide (RG.out.later b9)
          clear b9 d0 d1 d2 d3 d4 d5 f0 f1 f2 f3 f4 f5 z5
          have r_d := R0.out.later HL9.out
          have d0 := r_d.cell (i := 0) rfl; have d1 := r_d.cell (i := 1) rfl; have d2 := r_d.cell (i := 2) rfl; have d3 := r_d.cell (i := 3) rfl; have d4 := r_d.cell (i := 4) rfl; have d5 := r_d.cell (i := 5) rfl
          clear r_d
          cases u1 with
          | false =>
            go_wp2_with fail
            go_ret
            exact ⟨rfl, B0.out.trans HL9.out⟩
          | true =>
          obtain ⟨us, hus⟩ : ∃ u, shapeB D t = u := ⟨_, rfl⟩
          obtain ⟨ua, hua⟩ : ∃ u, allowedB D t = u := ⟨_, rfl⟩
          obtain ⟨zc, hzc⟩ : ∃ z, costV D t = z := ⟨_, rfl⟩
          have HUS2 : Hid (shapeB (mvD D) t = us) := hide (by rw [mv_shape HU0.out HU1.out]; exact hus)
          have HUA2 : Hid (allowedB (mvD D) t = ua) := hide (by rw [mv_allowed HU0.out HU1.out]; exact hua)
          have HZC2 : Hid (costV (mvD D) t = zc) := hide (by rw [mv_cost HU0.out HU1.out]; exact hzc)
          have HUS := hide hus; have HUA := hide hua; have HZC := hide hzc
          clear hus hua hzc
          go_wp2_with fail
          ((refine (plcost_calls _ _ _ _ _ _ _ _ _ _ _ _ _ D (H.out.later HL39.out) _ _ _ t (HQ.out.later HL39.out)).mono ?_); rintro e w9b ⟨v10, rfl, o10, hs10, b9⟩)
          rw [HUS.out]
          rw [HZC.out] at o10 hs10
          obtain ⟨s10, P10, q10, e10, P10', q10', e10', rfl, o10⟩ := o10.open_; have O10 := hide o10; clear o10
          have HS := hide hs10
          have HL9b := hide (HL9.out.trans b9); have HL39b := hide (HL39.out.trans b9); have HB9b := hide (HB9.out.trans b9)
          have RG9b := hide (RG9.out.later b9)
          clear b9 hs10 d0 d1 d2 d3 d4 d5
          go_upto_region 25 with fail
          obtain ⟨w10, hw10⟩ : ∃ w10, w10 = w9b.alloc (Obj.cells #[Value.bool s10, Value.slice P10 q10 e10, Value.bool false, Value.slice P10' q10' e10'] 37) := ⟨_, rfl⟩
          obtain ⟨g10, hg10⟩ : ∃ g10, g10 = w9b.heap.size := ⟨_, rfl⟩
          have bw10 : Later w9b w10 := by rw [hw10]; exact (Later.refl _).alloc _
          have rg10 : Row w10 g10 37 [.bool s10, .slice P10 q10 e10, .bool false, .slice P10' q10' e10'] := by rw [hw10, hg10]; exact Row.new _ _ _
          rw [← hw10, ← hg10]
          have HL10 := hide (HL9b.out.trans bw10); have HL310 := hide (HL39b.out.trans bw10); have HB10 := hide (HB9b.out.trans bw10)
          have RG10 := hide (RG9b.out.later bw10)
          have O10b := hide (OwnR.later O10.out bw10)
          have R10 := hide rg10
          clear O10 bw10 rg10 hw10 hg10
          have f0 := RG10.out.cell (i := 0) rfl; have f1 := RG10.out.cell (i := 1) rfl; have f2 := RG10.out.cell (i := 2) rfl; have f3 := RG10.out.cell (i := 3) rfl; have f4 := RG10.out.cell (i := 4) rfl; have f5 := RG10.out.cell (i := 5) rfl; have z5 := RG10.out.frozen 5
          go_wp2_with fail
          ((refine (plcost_calls _ _ _ _ _ _ _ _ _ _ _ _ _ (mvD D) (HB.out.later HB10.out) _ _ _ t (HQ.out.later HL310.out)).mono ?_); rintro e w11 ⟨v12, rfl, o12, hs12, b11⟩)
          rw [HUS2.out]
          rw [HZC2.out] at o12 hs12
          obtain ⟨s12, P12, q12, e12, P12', q12', e12', rfl, o12⟩ := o12.open_; have O12 := hide o12; clear o12
          have HL11 := hide (HL10.out.trans b11); have HL311 := hide (HL310.out.trans b11); have HB11 := hide (HB10.out.trans b11); have HL1011 := hide b11
          have RG11 := hide (RG10.out.later b11)
          clear b11 hs12 f0 f1 f2 f3 f4 f5 z5
          go_upto_region 26 with fail
          obtain ⟨w12, hw12⟩ : ∃ w12, w12 = w11.alloc (Obj.cells #[Value.bool s12, Value.slice P12 q12 e12, Value.bool false, Value.slice P12' q12' e12'] 37) := ⟨_, rfl⟩
          obtain ⟨g12, hg12⟩ : ∃ g12, g12 = w11.heap.size := ⟨_, rfl⟩
          have bw12 : Later w11 w12 := by rw [hw12]; exact (Later.refl _).alloc _
          have rg12 : Row w12 g12 37 [.bool s12, .slice P12 q12 e12, .bool false, .slice P12' q12' e12'] := by rw [hw12, hg12]; exact Row.new _ _ _
          rw [← hw12, ← hg12]
          have HLZ := hide (HL11.out.trans bw12); have HL312 := hide (HL311.out.trans bw12); have HLB2 := hide (HB11.out.trans bw12); have HLB12 := hide bw12; have HL1012 := hide (HL1011.out.trans bw12)
          have O10 := O10b
          have hrx := R0.out.later (HLZ.out.trans (Later.refl w12).drew)
          have hrg := (RG11.out.later bw12).later (Later.refl w12).drew
          have hr10 := (R10.out.later HL1012.out).later (Later.refl w12).drew
          have hr12 := rg12.later (Later.refl w12).drew
          have HT1 : Hid (∀ w', Later w12.drew w' → w'.cell? ⟨w.heap.size, 0, none⟩ = some (.slice A1 n1 c1) ∧ w'.cell? ⟨w.heap.size, 1, none⟩ = some (.int .i64 D.hor) ∧ w'.cell? ⟨w.heap.size, 2, none⟩ = some (.int .i64 D.now) ∧ w'.cell? ⟨w.heap.size, 3, none⟩ = some (.slice A2 n2 c2) ∧ w'.cell? ⟨w.heap.size, 4, none⟩ = some (.slice A3 n3 c3) ∧ w'.cell? ⟨w.heap.size, 5, none⟩ = some (.slice A4 n4 c4) ∧ w'.cell? ⟨G, 0, none⟩ = some (.slice A1 n1 c1) ∧ w'.cell? ⟨G, 1, none⟩ = some (.int .i64 D.hor) ∧ w'.cell? ⟨G, 2, none⟩ = some (.int .i64 (D.now + 1)) ∧ w'.cell? ⟨G, 3, none⟩ = some (.slice A7 n7 c7) ∧ w'.cell? ⟨G, 4, none⟩ = some (.slice A8 n8 c8) ∧ w'.cell? ⟨G, 5, none⟩ = some (.slice Av nv cv) ∧ w'.cell? ⟨g10, 0, none⟩ = some (.bool s10) ∧ w'.cell? ⟨g10, 1, none⟩ = some (.slice P10 q10 e10) ∧ w'.cell? ⟨g10, 2, none⟩ = some (.bool false) ∧ w'.cell? ⟨g10, 3, none⟩ = some (.slice P10' q10' e10') ∧ w'.cell? ⟨g12, 0, none⟩ = some (.bool s12) ∧ w'.cell? ⟨g12, 1, none⟩ = some (.slice P12 q12 e12) ∧ w'.cell? ⟨g12, 2, none⟩ = some (.bool false) ∧ w'.cell? ⟨g12, 3, none⟩ = some (.slice P12' q12' e12')) := hide fun w' hb => ⟨(hrx.later hb).cell rfl, (hrx.later hb).cell rfl, (hrx.later hb).cell rfl, (hrx.later hb).cell rfl, (hrx.later hb).cell rfl, (hrx.later hb).cell rfl, (hrg.later hb).cell rfl, (hrg.later hb).cell rfl, (hrg.later hb).cell rfl, (hrg.later hb).cell rfl, (hrg.later hb).cell rfl, (hrg.later hb).cell rfl, (hr10.later hb).cell rfl, (hr10.later hb).cell rfl, (hr10.later hb).cell rfl, (hr10.later hb).cell rfl, (hr12.later hb).cell rfl, (hr12.later hb).cell rfl, (hr12.later hb).cell rfl, (hr12.later hb).cell rfl⟩
          clear hrx hrg hr10 hr12 rg12 bw12 hw12 hg12
          have hmx : Tryz.prog.follows .mixedOrders = true := by kernel_rfl
          refine wp_region_N (fun w' => w'.cell? ⟨w.heap.size, 0, none⟩ = some (.slice A1 n1 c1) ∧ w'.cell? ⟨w.heap.size, 1, none⟩ = some (.int .i64 D.hor) ∧ w'.cell? ⟨w.heap.size, 2, none⟩ = some (.int .i64 D.now) ∧ w'.cell? ⟨w.heap.size, 3, none⟩ = some (.slice A2 n2 c2) ∧ w'.cell? ⟨w.heap.size, 4, none⟩ = some (.slice A3 n3 c3) ∧ w'.cell? ⟨w.heap.size, 5, none⟩ = some (.slice A4 n4 c4) ∧ w'.cell? ⟨G, 0, none⟩ = some (.slice A1 n1 c1) ∧ w'.cell? ⟨G, 1, none⟩ = some (.int .i64 D.hor) ∧ w'.cell? ⟨G, 2, none⟩ = some (.int .i64 (D.now + 1)) ∧ w'.cell? ⟨G, 3, none⟩ = some (.slice A7 n7 c7) ∧ w'.cell? ⟨G, 4, none⟩ = some (.slice A8 n8 c8) ∧ w'.cell? ⟨G, 5, none⟩ = some (.slice Av nv cv) ∧ w'.cell? ⟨g10, 0, none⟩ = some (.bool s10) ∧ w'.cell? ⟨g10, 1, none⟩ = some (.slice P10 q10 e10) ∧ w'.cell? ⟨g10, 2, none⟩ = some (.bool false) ∧ w'.cell? ⟨g10, 3, none⟩ = some (.slice P10' q10' e10') ∧ w'.cell? ⟨g12, 0, none⟩ = some (.bool s12) ∧ w'.cell? ⟨g12, 1, none⟩ = some (.slice P12 q12 e12) ∧ w'.cell? ⟨g12, 2, none⟩ = some (.bool false) ∧ w'.cell? ⟨g12, 3, none⟩ = some (.slice P12' q12' e12')) [] hmx (HT1.out _ (Later.refl _)) (fun hHeld => ?_)
          refine wpAnyN_takeD (some 100) (by rfl) (i := 0) (oi := _) (v := ?_) rfl (by kernel_rfl) (by kernel_rfl) (by kernel_rfl) (by kernel_rfl) (fun _ _ _ h => h) (Or.inl ⟨by rfl, ?_⟩) (by assumption) ?_
          rotate_left
          · intro w hSw; (try dsimp only at hSw); go_simp
            first | done | with_reducible rfl
          try simp only [Act.put, List.setIfInBounds_toArray, List.set_cons_zero, List.set_cons_succ]
          refine wpAnyN_takeD (some 101) (by rfl) (i := 1) (oi := _) (v := ?_) rfl (by kernel_rfl) (by kernel_rfl) (by kernel_rfl) (by kernel_rfl) (fun _ _ _ h => h) (Or.inl ⟨by rfl, ?_⟩) (by assumption) ?_
          rotate_left
          · intro w hSw; (try dsimp only at hSw); go_simp
            first | done | with_reducible rfl
          try simp only [Act.put, List.setIfInBounds_toArray, List.set_cons_zero, List.set_cons_succ]
          refine wpAnyN_takeD (some 102) (by rfl) (i := 2) (oi := _) (v := ?_) rfl (by kernel_rfl) (by kernel_rfl) (by kernel_rfl) (by kernel_rfl) (fun _ _ _ h => h) (Or.inl ⟨by rfl, ?_⟩) (by assumption) ?_
          rotate_left
          · intro w hSw; (try dsimp only at hSw); go_simp
            first | done | with_reducible rfl
          try simp only [Act.put, List.setIfInBounds_toArray, List.set_cons_zero, List.set_cons_succ]
          refine wpAnyN_takeD (some 103) (by rfl) (i := 3) (oi := _) (v := ?_) rfl (by kernel_rfl) (by kernel_rfl) (by kernel_rfl) (by kernel_rfl) (fun _ _ _ h => h) (Or.inl ⟨by rfl, ?_⟩) (by assumption) ?_
          rotate_left
          · intro w hSw; (try dsimp only at hSw); go_simp
            first | done | with_reducible rfl
          try simp only [Act.put, List.setIfInBounds_toArray, List.set_cons_zero, List.set_cons_succ]
          refine wpAnyN_takeD (some 104) (by rfl) (i := 4) (oi := _) (v := ?_) rfl (by kernel_rfl) (by kernel_rfl) (by kernel_rfl) (by kernel_rfl) (fun _ _ _ h => h) (Or.inl ⟨by rfl, ?_⟩) (by assumption) ?_
          rotate_left
          · intro w hSw; (try dsimp only at hSw); go_simp
            first | done | with_reducible rfl
          try simp only [Act.put, List.setIfInBounds_toArray, List.set_cons_zero, List.set_cons_succ]
          refine wpAnyN_takeD (some 105) (by rfl) (i := 5) (oi := _) (v := ?_) rfl (by kernel_rfl) (by kernel_rfl) (by kernel_rfl) (by kernel_rfl) (fun _ _ _ h => h) (Or.inl ⟨by rfl, ?_⟩) (by assumption) ?_
          rotate_left
          · intro w hSw; (try dsimp only at hSw); go_simp
            first | done | with_reducible rfl
          try simp only [Act.put, List.setIfInBounds_toArray, List.set_cons_zero, List.set_cons_succ]
          refine wpAnyN_ready (rs := [6]) (by kernel_rfl) (by simp) ?_
          refine AllReadyN.held rfl (by rfl) (fun K hK => ?_) AllReadyN.nil
          go_simp
          refine (qsame_calls _ _ _ zc zc _ _ 1000 1000 (OwnR.later O10.out (HL1012.out.trans (Later.refl w12).drew)) (OwnR.later O12.out (HLB12.out.trans (Later.refl w12).drew)) HS.out HS.out (by omega) (by omega) true (by simp)).mono ?_
          rintro e w106 ⟨rfl, b6⟩
          refine hK.out _ _ ?_ (fun hHeld => ?_)
          · exact HT1.out _ ((Later.refl w12.drew).trans b6)
          clear hK K
          try simp only [Act.put, List.setIfInBounds_toArray, List.set_cons_zero, List.set_cons_succ]
          refine wpAnyN_takeD (some 107) (by rfl) (i := 7) (oi := _) (v := ?_) rfl (by kernel_rfl) (by kernel_rfl) (by kernel_rfl) (by kernel_rfl) (fun _ _ _ h => h) (Or.inl ⟨by rfl, ?_⟩) (by assumption) ?_
          rotate_left
          · intro w hSw; (try dsimp only at hSw); go_simp
            first | done | with_reducible rfl
          try simp only [Act.put, List.setIfInBounds_toArray, List.set_cons_zero, List.set_cons_succ]
          refine wpAnyN_takeD (some 108) (by rfl) (i := 8) (oi := _) (v := ?_) rfl (by kernel_rfl) (by kernel_rfl) (by kernel_rfl) (by kernel_rfl) (fun _ _ _ h => h) (Or.inl ⟨by rfl, ?_⟩) (by assumption) ?_
          rotate_left
          · intro w hSw; (try dsimp only at hSw); go_simp
            first | done | with_reducible rfl
          try simp only [Act.put, List.setIfInBounds_toArray, List.set_cons_zero, List.set_cons_succ]
          refine wpAnyN_takeD (some 109) (by rfl) (i := 9) (oi := _) (v := ?_) rfl (by kernel_rfl) (by kernel_rfl) (by kernel_rfl) (by kernel_rfl) (fun _ _ _ h => h) (Or.inl ⟨by rfl, ?_⟩) (by assumption) ?_
          rotate_left
          · intro w hSw; (try dsimp only at hSw); go_simp
            first | done | with_reducible rfl
          try simp only [Act.put, List.setIfInBounds_toArray, List.set_cons_zero, List.set_cons_succ]
          refine wpAnyN_takeD (some 110) (by rfl) (i := 10) (oi := _) (v := ?_) rfl (by kernel_rfl) (by kernel_rfl) (by kernel_rfl) (by kernel_rfl) (fun _ _ _ h => h) (Or.inl ⟨by rfl, ?_⟩) (by assumption) ?_
          rotate_left
          · intro w hSw; (try dsimp only at hSw); go_simp
            first | done | with_reducible rfl
          try simp only [Act.put, List.setIfInBounds_toArray, List.set_cons_zero, List.set_cons_succ]
          refine wpAnyN_takeD (some 112) (by rfl) (i := 12) (oi := _) (v := ?_) rfl (by kernel_rfl) (by kernel_rfl) (by kernel_rfl) (by kernel_rfl) (fun _ _ _ h => h) (Or.inl ⟨by rfl, ?_⟩) (by assumption) ?_
          rotate_left
          · intro w hSw; (try dsimp only at hSw); go_simp
            first | done | with_reducible rfl
          try simp only [Act.put, List.setIfInBounds_toArray, List.set_cons_zero, List.set_cons_succ]
          refine wpAnyN_takeD (some 113) (by rfl) (i := 13) (oi := _) (v := ?_) rfl (by kernel_rfl) (by kernel_rfl) (by kernel_rfl) (by kernel_rfl) (fun _ _ _ h => h) (Or.inl ⟨by rfl, ?_⟩) (by assumption) ?_
          rotate_left
          · intro w hSw; (try dsimp only at hSw); go_simp
            first | done | with_reducible rfl
          try simp only [Act.put, List.setIfInBounds_toArray, List.set_cons_zero, List.set_cons_succ]
          refine wpAnyN_ready (rs := [11]) (by kernel_rfl) (by simp) ?_
          refine AllReadyN.held rfl (by rfl) (fun K hK => ?_) AllReadyN.nil
          go_simp
          refine (plallowed_calls _ _ _ _ _ _ _ _ _ _ _ _ _ D (H.out.later (HL312.out.trans ((Later.refl w12).drew.trans ((Later.refl w12.drew).trans b6)))) _ _ _ t (HQ.out.later (HL312.out.trans ((Later.refl w12).drew.trans ((Later.refl w12.drew).trans b6)))) ua HUA.out).mono ?_
          rintro e w111 ⟨rfl, b11⟩
          refine hK.out _ _ ?_ (fun hHeld => ?_)
          · exact HT1.out _ (((Later.refl w12.drew).trans b6).trans b11)
          clear hK K
          try simp only [Act.put, List.setIfInBounds_toArray, List.set_cons_zero, List.set_cons_succ]
          refine wpAnyN_ready (rs := [14]) (by kernel_rfl) (by simp) ?_
          refine AllReadyN.held rfl (by rfl) (fun K hK => ?_) AllReadyN.nil
          go_simp
          refine (plallowed_calls _ _ _ _ _ _ _ _ _ _ _ _ _ (mvD D) (HB.out.later (HLB2.out.trans ((Later.refl w12).drew.trans (((Later.refl w12.drew).trans b6).trans b11)))) _ _ _ t (HQ.out.later (HL312.out.trans ((Later.refl w12).drew.trans (((Later.refl w12.drew).trans b6).trans b11)))) ua HUA2.out).mono ?_
          rintro e w114 ⟨rfl, b14⟩
          refine hK.out _ _ ?_ (fun hHeld => ?_)
          · exact HT1.out _ ((((Later.refl w12.drew).trans b6).trans b11).trans b14)
          clear hK K
          try simp only [Act.put, List.setIfInBounds_toArray, List.set_cons_zero, List.set_cons_succ]
          refine wpAnyN_takeD (some 115) (by rfl) (i := 15) (oi := _) (v := ?_) rfl (by kernel_rfl) (by kernel_rfl) (by kernel_rfl) (by kernel_rfl) (fun _ _ _ h => h) (Or.inl ⟨by rfl, ?_⟩) (by assumption) ?_
          rotate_left
          · intro w hSw; (try dsimp only at hSw); go_simp
            first | done | with_reducible rfl
          try simp only [Act.put, List.setIfInBounds_toArray, List.set_cons_zero, List.set_cons_succ]
          refine wpAnyN_takeD (some 116) (by rfl) (i := 16) (oi := _) (v := ?_) rfl (by kernel_rfl) (by kernel_rfl) (by kernel_rfl) (by kernel_rfl) (fun _ _ _ h => h) (Or.inl ⟨by rfl, ?_⟩) (by assumption) ?_
          rotate_left
          · intro w hSw; (try dsimp only at hSw); go_simp
            first | done | with_reducible rfl
          try simp only [Act.put, List.setIfInBounds_toArray, List.set_cons_zero, List.set_cons_succ]
          refine wpAnyN_takeD (some 4) (by rfl) (i := 17) (oi := _) (v := ?_) rfl (by kernel_rfl) (by kernel_rfl) (by kernel_rfl) (by kernel_rfl) (fun _ _ _ h => h) (Or.inl ⟨by rfl, ?_⟩) (by assumption) ?_
          rotate_left
          · intro w hSw; (try dsimp only at hSw); go_simp
            first | done | with_reducible rfl
          try simp only [Act.put, List.setIfInBounds_toArray, List.set_cons_zero, List.set_cons_succ]
          refine wpAnyN_done (by kernel_rfl) ?_ _
          have HLL := hide (HLZ.out.trans ((Later.refl w12).drew.trans ((((Later.refl w12.drew).trans b6).trans b11).trans b14)))
          clear hHeld
          go_wp2_with fail
          go_ret
          exact ⟨rfl, B0.out.trans HLL.out⟩
end Go.Proofs.YthncinngkfflgaaGreat

/- PlanMoves returns true for every input, and each argument reads behind the call as it read before. No condition. -/
set_option linter.unusedVariables false
namespace Go.Proofs.YthncinngkfflgaaGreat
open Go.ChangeShapes Go.WideShapes Go.ChangeAt Go.RowKit

theorem planmoves_own : ownKnob Tryz.prog.godebug = none := by kernel_rfl
theorem planmoves_laid : laidOutB Tryz.prog = true := by kernel_rfl

set_option maxRecDepth 100000 in
theorem planmoves_lifted (os : Os) (started : os.Started) (H : Type) (enc : TypeId × Value → H) :
    ReturnsInHanded {} Tryz.checked os 7 .any (Rows.planMovesSpec.pre6 enc Tryz.prog Tryz.f7 Rows.planMovesRow.domain false) (Rows.planMovesSpec.post enc Tryz.prog Tryz.f7 false true false false) := by
  refine returnsInHanded_of_change_sized (C := Tryz.checked) planmoves_own started (by kernel_rfl) Tryz.func7
    (ChangeSpec.witness6 (enc := enc) (C := Tryz.checked) false ⟨#[], #[.agg #[.slice none 0 0, .int .i64 0, .int .i64 0, .slice none 0 0, .slice none 0 0, .slice none 0 0], .slice none 0 0], []⟩ 8 (by kernel_rfl) (by kernel_rfl) (by kernel_rfl) (by kernel_rfl)) ?_
  intro W base args ds gs before hval0 hW hcnd hwt0 _
  have hval : ∀ (j : Nat) t v, Tryz.f7.params[j]? = some t → args[j]? = some v → Value.okWide Tryz.prog W .any base t v := hval0
  have hW' := hW
  obtain ⟨p, q, hA0, hV, rfl, hfz, hnd⟩ := hW
  have hA : DataW.TrodAll enc Tryz.prog W 0 (fun _ => true) true Tryz.f7.params.toList args.toList ds p := hA0
  have hwt : ∀ n ∈ DataW.weightsEach Tryz.prog (Tryz.f7.params.toList ++ Rows.planMovesSpec.plain.varTypes Tryz.prog) (ds ++ gs), n ≤ reachBytes := fun n hn => by simpa using List.all_eq_true.1 hwt0 n hn
  rw [Tryz.params7] at hA hval hwt
  obtain ⟨v0, vs0, d0, ds0, p0, q0, hargs, rfl, rfl, h0, r0⟩ := trodAll_cons hA
  obtain ⟨v1, vs1, d1, ds1, p1, q1, rfl, rfl, rfl, h1, r1⟩ := trodAll_cons r0
  obtain ⟨rfl, rfl, rfl⟩ := trodAll_nil r1
  obtain rfl : args = #[v0, v1] := by cases args; simp_all
  obtain ⟨rfl, rfl⟩ := trodVars_none hV
  have k0 := h0
  have lt0 : ∀ x ∈ p0, x.block < W.heap.size := by obtain ⟨m, hm⟩ := k0; exact DataW.trod_lt m _ _ _ hm
  have ha0 := arg_book (hval 0 _ v0 rfl rfl) h0 (Wt.each hwt (j := 0) rfl rfl)
  have k1 := h1
  have lt1 : ∀ x ∈ p1, x.block < W.heap.size := by obtain ⟨m, hm⟩ := k1; exact DataW.trod_lt m _ _ _ hm
  have ha1 := arg_grid (hval 1 _ v1 rfl rfl) h1 (Wt.each hwt (j := 1) rfl rfl)
  clear hA0 hval0 hwt hwt0
  refine (planmoves_walk W v0 v1 ha0 ha1).mono fun e W' ⟨he, bel⟩ => ?_
  subst he
  exact ⟨_, rfl, _, _, _, [], _, [], hW', trodAll_mk1 (shut_bool Tryz.underlying4 _), (trodAll_cons_mk (Below.trod planmoves_laid (by kernel_rfl) (of_decide_eq_true (by kernel_rfl)) k0 bel lt0) (trodAll_cons_mk (Below.trod planmoves_laid (by kernel_rfl) (of_decide_eq_true (by kernel_rfl)) k1 bel lt1) trodAll_mk0)), rfl, Below.frame bel _, fun h => by cases h⟩

/-- the statement -/
theorem planmoves_holds : Rows.PlanMovesSaid :=
  OpenClaim.holds_of_wide 7 Tryz.f7 rfl rfl rfl rfl rfl rfl rfl ⟨rfl, rfl, rfl, rfl, rfl⟩ rfl rfl rfl rfl rfl (by kernel_rfl) Tryz.func7 (by kernel_rfl)
    (of_decide_eq_true (by kernel_rfl)) (by unfold Func.isWrapper; first | (rw [if_pos (by decide +kernel)]; kernel_rfl) | (rw [if_neg (by decide +kernel)]; exact ⟨rfl, rfl⟩))
    (fun os started H enc _ => planmoves_lifted os started H enc)
#print axioms planmoves_holds
end Go.Proofs.YthncinngkfflgaaGreat
