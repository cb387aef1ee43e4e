import Derived.Test.YtfokplidiboabaaGreatRows
import Derived.Test.YtfokplidiboabaaGreatB25

set_option linter.unusedVariables false
set_option linter.unusedSimpArgs false
set_option maxRecDepth 100000
namespace Go.Proofs.YtfokplidiboabaaGreat
open Go.RowKit Go.Shelf
attribute [local go_sem ↓] Go.wp_at_zero Go.wp_at_succ

set_option maxHeartbeats 1000000 in
theorem rone_calls (w : World) (n : Int) (h1 : -9223372036854775808 ≤ n) (h2 : n < 9223372036854775808) (q : Rat) (hq : Rat.divInt n 1 = q) :
    Calls Tryz.prog 72 #[.int .i64 n] w (Ret w fun w' v => OwnR w' w.heap.size v q) := by
  obtain ⟨W0, hW0⟩ : ∃ W0, W0 = w.alloc (Obj.cells #[Value.bool false, Value.slice none 0 0, Value.bool false, Value.slice none 0 0] 36) := ⟨_, rfl⟩
  obtain ⟨hb0, r1, hsz0⟩ := boxes1 w [.bool false, .slice none 0 0, .bool false, .slice none 0 0] 36 hW0
  have R1 := hide r1; have B0' := hide hb0; have HW0 := hide hW0
  clear r1 hb0 hW0
  go_enter Tryz.func72, Tryz.ntmps72
  go_wp2_with fail
  rw [← HW0.out]
  refine (qof_calls _ n 1 h1 h2 (by omega) (by omega) (by omega) q hq).mono ?_
  rintro e w1 ⟨v1, ok1, rfl, ⟨o1, rfl⟩, b1⟩
  obtain ⟨s1, P1, q1, e1, P1', q1', e1', rfl, o1⟩ := o1.open_; have O1 := hide o1; clear o1
  have hs1 := b1.size
  have hb2 := b1.alloc (Obj.cells #[Value.bool s1, Value.slice P1 q1 e1, Value.bool false, Value.slice P1' q1' e1'] 36)
  have HR := hide (R1.out.later hb2)
  have hL := hide (B0'.out.trans hb2)
  obtain ⟨d1, d2, d3, d4, d5, d6, d7, d8⟩ := row_cells4 HR.out
  go_wp2_with fail
  refine bodyPost_ret (results_rat rfl rfl (HR.out.four _ _ _ _)) rfl ?_
  have oo := Only.four w.heap.size (w1.alloc (Obj.cells #[Value.bool s1, Value.slice P1 q1 e1, Value.bool false, Value.slice P1' q1' e1'] 36)) (.bool s1) (.slice P1 q1 e1) (.bool false) (.slice P1' q1' e1')
  exact ⟨_, rfl, ((O1.out.later ((Later.refl _).alloc _)).only oo (by omega)).weaken (by omega), hL.out.only oo (Nat.le_refl _)⟩

end Go.Proofs.YtfokplidiboabaaGreat


set_option linter.unusedVariables false
set_option linter.unusedSimpArgs false
set_option maxRecDepth 100000
namespace Go.Proofs.YtfokplidiboabaaGreat
open Go.RowKit Go.Shelf
attribute [local go_sem ↓] Go.wp_at_zero Go.wp_at_succ

section
variable {w : World} {o : Oper} {a : Act} {K : Act → World → Prop} {Q : Exit → Act → World → Prop}
end
def cells6 (e : WCells × Int) : List Value := e.1.cells e.2
/-- a row of one's own: its coefficients are at W0 -/
structure RowQ (w0 : World) (e : WCells × Int) (x : PRow) : Prop where
  sense : e.2 = x.sense
  coef : Rats (ERaw 1) w0 e.1.coef x.coef
  fl : ∃ fc, Rats EFlag w0 e.1.coef fc ∧ allF fc = true
  f : x.f = true
  cl : x.coef.length ≤ 1000
  sfit : IFit_ x.sense
  sz : Sized x.rhs 100
/-- rows that are being built -/
def OutRw (w0 w : World) (lo : Nat) (v : Value) (l : List PRow) : Prop :=
  ∃ es : List (WCells × Int), es.length = l.length ∧ w.ownsRow lo 60 6 v l.length (es.flatMap cells6) ∧ ∀ (i : Nat) e x, es[i]? = some e → l[i]? = some x → RowQ w0 e x ∧ OwnR w 0 e.1.e.val x.rhs
theorem OutRw.nil (w0 w : World) (lo : Nat) : OutRw w0 w lo (.slice none 0 0) [] := ⟨[], rfl, World.ownsRow_nil w lo _ 6, fun i e x hi => by simp at hi⟩
theorem OutRw.keep {w0 w w' : World} {lo : Nat} {v : Value} {l : List PRow} (h : OutRw w0 w lo v l) (k : KeepU w w') (hv : ∀ g, v.ownBlock = some g → w'.heap[g]? = w.heap[g]?) : OutRw w0 w' lo v l := by
  obtain ⟨es, h1, ⟨k1, k2⟩, h3⟩ := h
  refine ⟨es, h1, ⟨k1, ?_⟩, fun i e x e1 e2 => ⟨(h3 i e x e1 e2).1, (h3 i e x e1 e2).2.keepU k⟩⟩
  rcases k2 with k2 | ⟨g, cap, cur, rfl, hb, hg, r⟩
  · exact .inl k2
  · exact .inr ⟨g, cap, cur, rfl, hb, (hv g rfl).trans hg, r⟩
theorem OutRw.lt {w0 w : World} {lo : Nat} {v : Value} {l : List PRow} (h : OutRw w0 w lo v l) : ∀ k, v.ownBlock = some k → lo ≤ k ∧ k < w.heap.size := by
  obtain ⟨es, h1, h2, -⟩ := h; exact World.ownsRow.lt h2
theorem OutRw.later {w0 w w' : World} {lo : Nat} {v : Value} {l : List PRow} (h : OutRw w0 w lo v l) (hb : Later w w') : OutRw w0 w' lo v l := h.keep (KeepU.later hb) fun g hg => hb.block g (h.lt g hg).2
theorem OutRw.form {w0 w : World} {lo : Nat} {v : Value} {l : List PRow} (h : OutRw w0 w lo v l) : ∃ A n c, v = .slice A n c := by
  obtain ⟨es, h1, k, -⟩ := h
  rcases k.2 with ⟨e, -⟩ | ⟨g, cap, cur, e, -⟩
  · exact ⟨_, _, _, e⟩
  · exact ⟨_, _, _, e⟩
theorem OutRw.only {w0 w w' : World} {lo g : Nat} {T : TypeId} {cs : List Value} {v : Value} {l : List PRow} (h : OutRw w0 w lo v l) (o : Only g w w') (r : Row w g T cs) (hT : T ≠ 160) (hg : v.ownBlock ≠ some g) : OutRw w0 w' lo v l :=
  h.keep (KeepU.only o r hT) fun k hk => o.block k fun e => hg (by rw [hk, e])
end Go.Proofs.YtfokplidiboabaaGreat


set_option linter.unusedVariables false
set_option linter.unusedSimpArgs false
set_option maxRecDepth 100000
namespace Go.Proofs.YtfokplidiboabaaGreat
open Go.RowKit Go.Shelf
attribute [local go_sem ↓] Go.wp_at_zero Go.wp_at_succ

theorem axpy_take_succ {a b : List Rat} {q y z : Rat} {j : Nat} (ha : a[j]? = some y) (hb : b[j]? = some z) : (axpyL a b q).take (j+1) = (axpyL a b q).take j ++ [y + q * z] := by
  rw [List.take_add_one]
  congr 1
  unfold axpyL
  rw [List.getElem?_zipWith, ha, hb]; rfl

end Go.Proofs.YtfokplidiboabaaGreat

/- Problems: one, Columns, Back, Cost (the reference). -/
set_option linter.unusedVariables false
set_option linter.unusedSimpArgs false
set_option maxRecDepth 100000
namespace Go.Proofs.YtfokplidiboabaaGreat
open Go.RowKit Go.Shelf
attribute [local go_sem ↓] Go.wp_at_zero Go.wp_at_succ

theorem info_ix : (Tryz.prog.info? 3).map (fun i => (i.zero, i.size, i.bytes)) = some (some (.int .i64 0), 1, 8) := by kernel_rfl
theorem info_i64x : (Tryz.prog.info? 2).map (fun i => (i.zero, i.size, i.bytes)) = some (some (.int .i64 0), 1, 8) := by kernel_rfl
theorem wpList_append_ix {w : World} {ops : Array Oper} {rest : List Oper} {o : Oper} {a : Act} {Q : Exit → Act → World → Prop} (hgd : o.guard = none) (s x : Operand) (ho : o.op = .call { callee := .builtin .append, args := #[s, x], argTypes := #[72, 72] })
    {lo : Nat} {v : Value} {l : List Int} {g : Nat} {z : Int} (hs : a.eval s = v) (hown : w.ownsRow lo 3 1 v l.length (l.flatMap iCells)) (hx : a.eval x = .slice (some ⟨g, 0, none⟩) 1 1) (hrow : Row w g 3 [.int .i64 z]) (hlen : l.length ≤ 3000000000) (hbase : lo ≤ w.heap.size)
    (h : ∀ v' w', w'.ownsRow lo 3 1 v' (l ++ [z]).length ((l ++ [z]).flatMap iCells) → w.grownBy w' v.ownBlock → (v'.ownBlock = v.ownBlock ∨ v'.ownBlock = some w.heap.size) → wpList Tryz.prog ops Q rest (a.put o.dst v') w') : wpList Tryz.prog ops Q (o :: rest) a w := by
  refine wpList_append_src hgd s x _ ho lo 3 _ 1 8 Tryz.underlying72 info_ix rfl (by omega) (by omega) v l.length _ hs hown _ 1 [.int .i64 z] hx (Src.row hrow rfl (by simp [Value.oneCell'])) (by omega) hbase ?_
  intro v' w' k1 k2 k3
  refine h v' w' ?_ k2 k3
  rw [List.length_append, List.flatMap_append]; exact k1
theorem wpList_append_i64x {w : World} {ops : Array Oper} {rest : List Oper} {o : Oper} {a : Act} {Q : Exit → Act → World → Prop} (hgd : o.guard = none) (s x : Operand) (ho : o.op = .call { callee := .builtin .append, args := #[s, x], argTypes := #[97, 97] })
    {lo : Nat} {v : Value} {l : List Int} {g : Nat} {z : Int} (hs : a.eval s = v) (hown : w.ownsRow lo 2 1 v l.length (l.flatMap iCells)) (hx : a.eval x = .slice (some ⟨g, 0, none⟩) 1 1) (hrow : Row w g 2 [.int .i64 z]) (hlen : l.length ≤ 3000000000) (hbase : lo ≤ w.heap.size)
    (h : ∀ v' w', w'.ownsRow lo 2 1 v' (l ++ [z]).length ((l ++ [z]).flatMap iCells) → w.grownBy w' v.ownBlock → (v'.ownBlock = v.ownBlock ∨ v'.ownBlock = some w.heap.size) → wpList Tryz.prog ops Q rest (a.put o.dst v') w') : wpList Tryz.prog ops Q (o :: rest) a w := by
  refine wpList_append_src hgd s x _ ho lo 2 _ 1 8 Tryz.underlying97 info_i64x rfl (by omega) (by omega) v l.length _ hs hown _ 1 [.int .i64 z] hx (Src.row hrow rfl (by simp [Value.oneCell'])) (by omega) hbase ?_
  intro v' w' k1 k2 k3
  refine h v' w' ?_ k2 k3
  rw [List.length_append, List.flatMap_append]; exact k1
theorem own_types {w : World} {lo lo' size size' n n' : Nat} {T T' : TypeId} {v u : Value} {xs ys : List Value} (h : w.ownsRow lo T size v n xs) (k : w.ownsRow lo' T' size' u n' ys) (hT : T ≠ T') : ∀ b, v.ownBlock = some b → u.ownBlock ≠ some b := by
  intro b hb hb'
  rcases h.2 with ⟨rfl, -⟩ | ⟨g, c, cur, rfl, -, hg, -⟩
  · cases hb
  · injection hb with hb; subst hb
    rcases k.2 with ⟨rfl, -⟩ | ⟨g', c', cur', rfl, -, hg', -⟩
    · cases hb'
    · injection hb' with hb'; subst hb'
      rw [hg] at hg'; injection hg' with hg'; injection hg' with _ hg' _; exact hT hg'
/-- three rows of whole numbers of one's own -/
structure Cols (w : World) (lo : Nat) (vv rv av : Value) (lv lr la : List Int) : Prop where
  v : w.ownsRow lo 3 1 vv lv.length (lv.flatMap iCells)
  r : w.ownsRow lo 3 1 rv lr.length (lr.flatMap iCells)
  a : w.ownsRow lo 2 1 av la.length (la.flatMap iCells)
  ap : ∀ k, vv.ownBlock = some k → rv.ownBlock ≠ some k
section
variable {w w' : World} {lo : Nat} {vv rv av v' : Value} {lv lr la l' : List Int}
theorem Cols.nil (w : World) (lo : Nat) : Cols w lo (.slice none 0 0) (.slice none 0 0) (.slice none 0 0) [] [] [] := ⟨World.ownsRow_nil _ _ _ _, World.ownsRow_nil _ _ _ _, World.ownsRow_nil _ _ _ _, fun k hk => by cases hk⟩
theorem Cols.later (h : Cols w lo vv rv av lv lr la) (hb : Later w w') : Cols w' lo vv rv av lv lr la := ⟨ownsRow_later h.v hb, ownsRow_later h.r hb, ownsRow_later h.a hb, h.ap⟩
theorem Cols.weaken {lo2 : Nat} (h : Cols w lo vv rv av lv lr la) (hl : lo2 ≤ lo) : Cols w lo2 vv rv av lv lr la := ⟨ownsRow_lower h.v hl, ownsRow_lower h.r hl, ownsRow_lower h.a hl, h.ap⟩
theorem Cols.grewV (h : Cols w lo vv rv av lv lr la) (k1 : w'.ownsRow lo 3 1 v' l'.length (l'.flatMap iCells)) (k2 : w.grownBy w' vv.ownBlock) (k3 : v'.ownBlock = vv.ownBlock ∨ v'.ownBlock = some w.heap.size) : Cols w' lo v' rv av l' lr la := by
  refine ⟨k1, ownsRow_grown h.r k2 fun k hk e => h.ap k e.symm hk, ownsRow_grown h.a k2 fun k hk e => own_types h.a h.v (by decide) k hk e.symm, fun k hk e => ?_⟩
  rcases k3 with e3 | e3
  · rw [e3] at hk; exact h.ap k hk e
  · rw [e3] at hk; injection hk with hk; subst hk
    have := (World.ownsRow.lt h.r _ e).2; omega
theorem Cols.grewR (h : Cols w lo vv rv av lv lr la) (k1 : w'.ownsRow lo 3 1 v' l'.length (l'.flatMap iCells)) (k2 : w.grownBy w' rv.ownBlock) (k3 : v'.ownBlock = rv.ownBlock ∨ v'.ownBlock = some w.heap.size) : Cols w' lo vv v' av lv l' la := by
  refine ⟨ownsRow_grown h.v k2 fun k hk e => h.ap k hk e.symm, k1, ownsRow_grown h.a k2 fun k hk e => own_types h.a h.r (by decide) k hk e.symm, fun k hk e => ?_⟩
  rcases k3 with e3 | e3
  · rw [e3] at e; exact h.ap k hk e
  · rw [e3] at e; injection e with e; subst e
    have := (World.ownsRow.lt h.v _ hk).2; omega
theorem Cols.grewA (h : Cols w lo vv rv av lv lr la) (k1 : w'.ownsRow lo 2 1 v' l'.length (l'.flatMap iCells)) (k2 : w.grownBy w' av.ownBlock) : Cols w' lo vv rv v' lv lr l' :=
  ⟨ownsRow_grown h.v k2 fun k hk e => own_types h.v h.a (by decide) k hk e.symm, ownsRow_grown h.r k2 fun k hk e => own_types h.r h.a (by decide) k hk e.symm, k1, h.ap⟩
end
/-! ### the columns, told -/
def exV (ex : List (Nat × Rat)) : List Int := ex.map fun _ => -1
def exR (ex : List (Nat × Rat)) : List Int := ex.map fun p => (p.1 : Int)
def exA (ex : List (Nat × Rat)) : List Int := ex.map fun p => p.2.num
def colV (P : PLp) : List Int := (List.range P.cost.length).map (fun (k : Nat) => (k : Int)) ++ exV (extraL P)
def colR (P : PLp) : List Int := List.replicate P.cost.length (-1) ++ exR (extraL P)
def colA (P : PLp) : List Int := List.replicate P.cost.length 0 ++ exA (extraL P)
theorem exV_app (a b : List (Nat × Rat)) : exV (a ++ b) = exV a ++ exV b := List.map_append
theorem exR_app (a b : List (Nat × Rat)) : exR (a ++ b) = exR a ++ exR b := List.map_append
theorem exA_app (a b : List (Nat × Rat)) : exA (a ++ b) = exA a ++ exA b := List.map_append
theorem extraR_take {rs : List PRow} {j : Nat} {r : PRow} (h : rs[j]? = some r) : extraR (rs.take (j+1)) 0 = extraR (rs.take j) 0 ++ (senX r.sense).map (fun x => (j, x)) := by
  have hl := (List.getElem?_eq_some_iff.1 h).1
  rw [List.take_add_one, h, Option.toList_some, extraR_append, List.length_take, Nat.zero_add, Nat.min_eq_left (by omega), extraR_cons]
  show _ ++ (_ ++ []) = _; rw [List.append_nil]
theorem extraE_take {os : List Bool} {j k : Nat} {o : Bool} (h : os[j]? = some o) : extraE (os.take (j+1)) k = extraE (os.take j) k ++ (if o then [] else [(k + (endsFrom (os.take j) 0).length, 1)]) := by
  rw [List.take_add_one, h, Option.toList_some, extraE_append, extraE_cons]
  cases o <;> rfl
theorem colV_len (P : PLp) : (colV P).length = P.cost.length + (extraL P).length := by unfold colV exV; simp

/-- what Columns of the reference hands back -/
def RCols (w : World) (P : PLp) (e : Ending) (w' : World) : Prop := ∃ vv rv av, e = .returned (.tuple #[vv, rv, av]) ∧ Cols w' w.heap.size vv rv av (colV P) (colR P) (colA P) ∧ Later w w'

set_option maxHeartbeats 16000000 in
theorem rcolumns11_calls (w : World) (A1 A2 A3 A4 A5 : Option Addr) (n1 n2 n3 n4 n5 c1 c2 c3 c4 c5 : Nat) (k : Nat) (P : PLp) (h : LpIn w (.slice A1 n1 c1) (.slice A2 n2 c2) (.slice A3 n3 c3) (.slice A4 n4 c4) (.slice A5 n5 c5) k P) (hP : LpP P) :
    Calls Tryz.prog 73 #[.agg #[.slice A1 n1 c1, .slice A2 n2 c2, .slice A3 n3 c3, .slice A4 n4 c4, .slice A5 n5 c5]] w (RCols w P) := by
  have HP := hide hP
  have h0 := h
  have L1 := hide h.cost.len_; have L2 := hide h.rows.len_; have L5 := hide h.opn.len_
  clear hP h
  obtain ⟨W0, hW0⟩ : ∃ W0, W0 = (w.alloc (Obj.cells #[Value.slice A1 n1 c1, Value.slice A2 n2 c2, Value.slice A3 n3 c3, Value.slice A4 n4 c4, Value.slice A5 n5 c5] 26)) := ⟨_, rfl⟩
  obtain ⟨hb0, r0, hsz0⟩ := boxes1 w [.slice A1 n1 c1, .slice A2 n2 c2, .slice A3 n3 c3, .slice A4 n4 c4, .slice A5 n5 c5] 26 hW0
  have B0 := hide hb0; have HW0 := hide hW0; have HSZ0 := hide hsz0
  have R0 := hide r0
  clear hb0 hW0 hsz0 r0
  have HI := hide (h0.later B0.out)
  have hn1 : n1 ≤ 24 := by have := L1.out; have := HP.out.n24; omega
  have hn2 : n2 ≤ 24 := by have := L2.out; have := HP.out.rl; omega
  have hn5 : n5 ≤ 24 := by have := L5.out; have := HP.out.opn; have := HP.out.n24; omega
  clear h0
  go_enter Tryz.func73, Tryz.ntmps73
  go_upto_region 1 with fail
  rw [← HW0.out]
  go_wp2_with fail
  go_loopw [5, 6, 7, 8] (fun vv rv av iv wr => ∃ j : Nat, j ≤ n1 ∧ iv = .int .i64 (j : Int) ∧ Cols wr W0.heap.size vv rv av ((List.range j).map (fun (k : Nat) => (k : Int))) (List.replicate j (-1)) (List.replicate j 0) ∧ Later W0 wr) (fun _ _ _ i _ => (n1 - intOf i).toNat)
  case atStart => exact ⟨0, by omega, rfl, Cols.nil _ _, Later.refl _⟩
  case round =>
    obtain ⟨j, hj, rfl, hc, hL⟩ := hrel
    have HC := hide hc; have HL := hide hL
    clear hc hL
    have r_d := R0.out.later HL.out
    have d0 := r_d.cell (i := 0) rfl; have d1 := r_d.cell (i := 1) rfl; have d2 := r_d.cell (i := 2) rfl; have d3 := r_d.cell (i := 3) rfl; have d4 := r_d.cell (i := 4) rfl
    clear r_d
    by_cases hjn : j < n1
    · have hj0 : (0 : Int) ≤ (j : Int) := by omega
      have hj1 : (j : Int) < n1 := by omega
      have HLN : Hid (((List.range j).map (fun (k : Nat) => (k : Int))).length ≤ 1000 ∧ (List.replicate j (-1 : Int)).length ≤ 1000 ∧ (List.replicate j (0 : Int)).length ≤ 1000) := hide ⟨by rw [List.length_map, List.length_range]; omega, by rw [List.length_replicate]; omega, by rw [List.length_replicate]; omega⟩
      have HE : Hid ((List.range (j+1)).map (fun (k : Nat) => (k : Int)) = (List.range j).map (fun (k : Nat) => (k : Int)) ++ [(j : Int)] ∧ List.replicate (j+1) (-1 : Int) = List.replicate j (-1) ++ [-1] ∧ List.replicate (j+1) (0 : Int) = List.replicate j 0 ++ [0]) := hide ⟨by rw [List.range_succ, List.map_append]; rfl, List.replicate_succ', List.replicate_succ'⟩
      go_upto_region 8 with (at_builtin; refine wpList_append_ix rfl _ _ rfl rfl (ownsRow_later HC.out.v ((Later.refl _).alloc _)) rfl (Row.new wr 3 [.int .i64 ((j : Int))]) (by have := HLN.out; omega) (by have := HL.out.size; rw [World.size_alloc]; omega) ?_; intro v81 w81 k11 k21 k31)
      have hlt1 := World.ownsRow.lt HC.out.v
      have HC1 := hide (Cols.grewV (HC.out.later ((Later.refl wr).alloc _)) k11 k21 k31)
      have HL1 : Hid (Later W0 w81) := hide ((HL.out.alloc _).grown k21 (fun q hq => (hlt1 q hq).1))
      clear k11 k21 k31 hlt1
      go_upto_region 9 with (at_builtin; refine wpList_append_ix rfl _ _ rfl rfl (ownsRow_later HC1.out.r ((Later.refl _).alloc _)) rfl (Row.new w81 3 [.int .i64 (-1)]) (by have := HLN.out; omega) (by have := HL1.out.size; rw [World.size_alloc]; omega) ?_; intro v82 w82 k12 k22 k32)
      have hlt2 := World.ownsRow.lt HC1.out.r
      have HC2 := hide (Cols.grewR (HC1.out.later ((Later.refl w81).alloc _)) k12 k22 k32)
      have HL2 : Hid (Later W0 w82) := hide ((HL1.out.alloc _).grown k22 (fun q hq => (hlt2 q hq).1))
      clear k12 k22 k32 hlt2
      go_wp2_with (at_builtin; refine wpList_append_i64x rfl _ _ rfl rfl (ownsRow_later HC2.out.a ((Later.refl _).alloc _)) rfl (Row.new w82 2 [.int .i64 (0)]) (by have := HLN.out; omega) (by have := HL2.out.size; rw [World.size_alloc]; omega) ?_; intro v83 w83 k13 k23 k33)
      have hlt3 := World.ownsRow.lt HC2.out.a
      have HC3 := hide (Cols.grewA (HC2.out.later ((Later.refl w82).alloc _)) k13 k23)
      have HL3 : Hid (Later W0 w83) := hide ((HL2.out.alloc _).grown k23 (fun q hq => (hlt3 q hq).1))
      clear k13 k23 k33 hlt3
      have hc9 := HC3.out
      rw [← HE.out.1, ← HE.out.2.1, ← HE.out.2.2] at hc9
      exact ⟨⟨j+1, by omega, by go_num, hc9, HL3.out⟩, by simp [intOf]; omega⟩
    · have hj1 : ¬ (j : Int) < n1 := by omega
      have hc9 := HC.out
      have hjn1 : j = P.cost.length := by have := L1.out; omega
      have he : exV (extraR (P.rows.take 0) 0) = [] ∧ exR (extraR (P.rows.take 0) 0) = [] ∧ exA (extraR (P.rows.take 0) 0) = [] := ⟨rfl, rfl, rfl⟩
      have HC1x : Hid (Cols wr W0.heap.size _ _ _ ((List.range P.cost.length).map (fun (k : Nat) => (k : Int)) ++ exV (extraR (P.rows.take 0) 0)) (List.replicate P.cost.length (-1) ++ exR (extraR (P.rows.take 0) 0)) (List.replicate P.cost.length 0 ++ exA (extraR (P.rows.take 0) 0))) := hide (by rw [he.1, he.2.1, he.2.2, List.append_nil, List.append_nil, List.append_nil, ← hjn1]; exact hc9)
      have HL1x := HL
      clear hc9 hjn1 he HC HL
      go_wp2_with fail
      clear d0 d1 d2 d3 d4
      go_loopw [5, 6, 7, 9] (fun vv rv av iv wr => ∃ j : Nat, j ≤ n2 ∧ iv = .int .i64 (j : Int) ∧ Cols wr W0.heap.size vv rv av ((List.range P.cost.length).map (fun (k : Nat) => (k : Int)) ++ exV (extraR (P.rows.take j) 0)) (List.replicate P.cost.length (-1) ++ exR (extraR (P.rows.take j) 0)) (List.replicate P.cost.length 0 ++ exA (extraR (P.rows.take j) 0)) ∧ Later W0 wr) (fun _ _ _ i _ => (n2 - intOf i).toNat)
      case atStart => exact ⟨0, by omega, rfl, HC1x.out, HL1x.out⟩
      case round =>
        obtain ⟨j, hj, rfl, hc, hL⟩ := hrel
        have HC := hide hc; have HL := hide hL
        clear hc hL
        have r_d := R0.out.later HL.out
        have d0 := r_d.cell (i := 0) rfl; have d1 := r_d.cell (i := 1) rfl; have d2 := r_d.cell (i := 2) rfl; have d3 := r_d.cell (i := 3) rfl; have d4 := r_d.cell (i := 4) rfl
        clear r_d
        by_cases hjn : j < n2
        · have hj0 : (0 : Int) ≤ (j : Int) := by omega
          have hj1 : (j : Int) < n2 := by omega
          obtain ⟨r, hr⟩ : ∃ r, P.rows[j]? = some r := ⟨P.rows[j]'(by have := L2.out; omega), List.getElem?_eq_getElem _⟩
          obtain ⟨b3, off3, rfl, rc, z0, z1, z2, z3, z4, z5, hE⟩ := HI.out.rows.at6 hr
          have hrm := HP.out.rows r (List.mem_of_getElem? hr)
          have HT0 := hide (extraR_take hr)
          have HLN : Hid (((List.range P.cost.length).map (fun (k : Nat) => (k : Int)) ++ exV (extraR (P.rows.take j) 0)).length ≤ 1000 ∧ (List.replicate P.cost.length (-1) ++ exR (extraR (P.rows.take j) 0)).length ≤ 1000 ∧ (List.replicate P.cost.length 0 ++ exA (extraR (P.rows.take j) 0)).length ≤ 1000) := hide (by
            have h1 := HP.out.n24
            have h2 := extraR_len_le (P.rows.take j) 0; rw [List.length_take] at h2
            unfold exV exR exA
            simp only [List.length_append, List.length_map, List.length_range, List.length_replicate]
            omega)
          have y1 := Later.cell HL.out z1
          clear hr hE z0 z2 z3 z4 z5
          rcases (by have := hrm.2.1; omega : r.sense = 0 ∨ r.sense = 1 ∨ r.sense = 2) with hs | hs | hs
          · clear hrm
            have HE : Hid (exV (extraR (P.rows.take (j+1)) 0) = exV (extraR (P.rows.take j) 0) ++ [-1] ∧ exR (extraR (P.rows.take (j+1)) 0) = exR (extraR (P.rows.take j) 0) ++ [(j : Int)] ∧ exA (extraR (P.rows.take (j+1)) 0) = exA (extraR (P.rows.take j) 0) ++ [1]) := hide (by
              rw [HT0.out, hs]
              exact ⟨exV_app _ _, exR_app _ _, exA_app _ _⟩)
            rw [hs] at z1 y1
            go_upto_region 15 with (at_builtin; refine wpList_append_ix rfl _ _ rfl rfl (ownsRow_later HC.out.v ((Later.refl _).alloc _)) rfl (Row.new wr 3 [.int .i64 (-1)]) (by have := HLN.out; omega) (by have := HL.out.size; rw [World.size_alloc]; omega) ?_; intro v81 w81 k11 k21 k31)
            have hlt1 := World.ownsRow.lt HC.out.v
            have HC1 := hide (Cols.grewV (HC.out.later ((Later.refl wr).alloc _)) k11 k21 k31)
            have HL1 : Hid (Later W0 w81) := hide ((HL.out.alloc _).grown k21 (fun q hq => (hlt1 q hq).1))
            clear k11 k21 k31 hlt1
            go_upto_region 16 with (at_builtin; refine wpList_append_ix rfl _ _ rfl rfl (ownsRow_later HC1.out.r ((Later.refl _).alloc _)) rfl (Row.new w81 3 [.int .i64 ((j : Int))]) (by have := HLN.out; omega) (by have := HL1.out.size; rw [World.size_alloc]; omega) ?_; intro v82 w82 k12 k22 k32)
            have hlt2 := World.ownsRow.lt HC1.out.r
            have HC2 := hide (Cols.grewR (HC1.out.later ((Later.refl w81).alloc _)) k12 k22 k32)
            have HL2 : Hid (Later W0 w82) := hide ((HL1.out.alloc _).grown k22 (fun q hq => (hlt2 q hq).1))
            clear k12 k22 k32 hlt2
            have p1 := Later.cell HL2.out (R0.out.cell (i := 1) rfl); have y1 := Later.cell HL2.out z1
            go_wp2_with (at_builtin; refine wpList_append_i64x rfl _ _ rfl rfl (ownsRow_later HC2.out.a ((Later.refl _).alloc _)) rfl (Row.new w82 2 [.int .i64 (1)]) (by have := HLN.out; omega) (by have := HL2.out.size; rw [World.size_alloc]; omega) ?_; intro v83 w83 k13 k23 k33)
            have hlt3 := World.ownsRow.lt HC2.out.a
            have HC3 := hide (Cols.grewA (HC2.out.later ((Later.refl w82).alloc _)) k13 k23)
            have HL3 : Hid (Later W0 w83) := hide ((HL2.out.alloc _).grown k23 (fun q hq => (hlt3 q hq).1))
            clear k13 k23 k33 hlt3
            have hc9 := HC3.out
            rw [List.append_assoc, List.append_assoc, List.append_assoc, ← HE.out.1, ← HE.out.2.1, ← HE.out.2.2] at hc9
            exact ⟨⟨j+1, by omega, by go_num, hc9, HL3.out⟩, by simp [intOf]; omega⟩
          · clear hrm
            rw [hs] at z1 y1
            have hc9 := HC.out
            have he : extraR (P.rows.take (j+1)) 0 = extraR (P.rows.take j) 0 := by rw [HT0.out, hs]; exact List.append_nil _
            rw [← he] at hc9
            have HC9 := hide hc9
            clear hc9 he
            go_wp2_with fail
            exact ⟨⟨j+1, by omega, by go_num, HC9.out, HL.out⟩, by simp [intOf]; omega⟩
          · clear hrm
            have HE : Hid (exV (extraR (P.rows.take (j+1)) 0) = exV (extraR (P.rows.take j) 0) ++ [-1] ∧ exR (extraR (P.rows.take (j+1)) 0) = exR (extraR (P.rows.take j) 0) ++ [(j : Int)] ∧ exA (extraR (P.rows.take (j+1)) 0) = exA (extraR (P.rows.take j) 0) ++ [-1]) := hide (by
              rw [HT0.out, hs]
              exact ⟨exV_app _ _, exR_app _ _, exA_app _ _⟩)
            rw [hs] at z1 y1
            go_upto_region 15 with (at_builtin; refine wpList_append_ix rfl _ _ rfl rfl (ownsRow_later HC.out.v ((Later.refl _).alloc _)) rfl (Row.new wr 3 [.int .i64 (-1)]) (by have := HLN.out; omega) (by have := HL.out.size; rw [World.size_alloc]; omega) ?_; intro v81 w81 k11 k21 k31)
            have hlt1 := World.ownsRow.lt HC.out.v
            have HC1 := hide (Cols.grewV (HC.out.later ((Later.refl wr).alloc _)) k11 k21 k31)
            have HL1 : Hid (Later W0 w81) := hide ((HL.out.alloc _).grown k21 (fun q hq => (hlt1 q hq).1))
            clear k11 k21 k31 hlt1
            go_upto_region 16 with (at_builtin; refine wpList_append_ix rfl _ _ rfl rfl (ownsRow_later HC1.out.r ((Later.refl _).alloc _)) rfl (Row.new w81 3 [.int .i64 ((j : Int))]) (by have := HLN.out; omega) (by have := HL1.out.size; rw [World.size_alloc]; omega) ?_; intro v82 w82 k12 k22 k32)
            have hlt2 := World.ownsRow.lt HC1.out.r
            have HC2 := hide (Cols.grewR (HC1.out.later ((Later.refl w81).alloc _)) k12 k22 k32)
            have HL2 : Hid (Later W0 w82) := hide ((HL1.out.alloc _).grown k22 (fun q hq => (hlt2 q hq).1))
            clear k12 k22 k32 hlt2
            have p1 := Later.cell HL2.out (R0.out.cell (i := 1) rfl); have y1 := Later.cell HL2.out z1
            go_wp2_with (at_builtin; refine wpList_append_i64x rfl _ _ rfl rfl (ownsRow_later HC2.out.a ((Later.refl _).alloc _)) rfl (Row.new w82 2 [.int .i64 (-1)]) (by have := HLN.out; omega) (by have := HL2.out.size; rw [World.size_alloc]; omega) ?_; intro v83 w83 k13 k23 k33)
            have hlt3 := World.ownsRow.lt HC2.out.a
            have HC3 := hide (Cols.grewA (HC2.out.later ((Later.refl w82).alloc _)) k13 k23)
            have HL3 : Hid (Later W0 w83) := hide ((HL2.out.alloc _).grown k23 (fun q hq => (hlt3 q hq).1))
            clear k13 k23 k33 hlt3
            have hc9 := HC3.out
            rw [List.append_assoc, List.append_assoc, List.append_assoc, ← HE.out.1, ← HE.out.2.1, ← HE.out.2.2] at hc9
            exact ⟨⟨j+1, by omega, by go_num, hc9, HL3.out⟩, by simp [intOf]; omega⟩
        · have hj1 : ¬ (j : Int) < n2 := by omega
          have hc9 := HC.out
          have he : extraR (P.rows.take j) 0 = extraR P.rows 0 ++ extraE (P.opn.take 0) P.rows.length := by rw [List.take_of_length_le (by have := L2.out; omega)]; exact (List.append_nil _).symm
          rw [he] at hc9
          have HC2x := hide hc9; have HL2x := HL
          clear hc9 he HC HL
          go_wp2_with fail
          clear d0 d1 d2 d3 d4
          go_loopw [5, 6, 7, 10, 11] (fun vv rv av kk iv wr => ∃ j : Nat, j ≤ n5 ∧ iv = .int .i64 (j : Int) ∧ kk = .int .i64 ((n2 : Int) + ((endsFrom (P.opn.take j) 0).length : Int)) ∧ Cols wr W0.heap.size vv rv av ((List.range P.cost.length).map (fun (k : Nat) => (k : Int)) ++ exV (extraR P.rows 0 ++ extraE (P.opn.take j) P.rows.length)) (List.replicate P.cost.length (-1) ++ exR (extraR P.rows 0 ++ extraE (P.opn.take j) P.rows.length)) (List.replicate P.cost.length 0 ++ exA (extraR P.rows 0 ++ extraE (P.opn.take j) P.rows.length)) ∧ Later W0 wr) (fun _ _ _ _ i _ => (n5 - intOf i).toNat)
          case atStart => exact ⟨0, by omega, rfl, by simp [endsFrom], HC2x.out, HL2x.out⟩
          case round =>
            obtain ⟨j, hj, rfl, rfl, hc, hL⟩ := hrel
            have HC := hide hc; have HL := hide hL
            clear hc hL
            have r_d := R0.out.later HL.out
            have d0 := r_d.cell (i := 0) rfl; have d1 := r_d.cell (i := 1) rfl; have d2 := r_d.cell (i := 2) rfl; have d3 := r_d.cell (i := 3) rfl; have d4 := r_d.cell (i := 4) rfl
            clear r_d
            by_cases hjn : j < n5
            · have hj0 : (0 : Int) ≤ (j : Int) := by omega
              have hj1 : (j : Int) < n5 := by omega
              obtain ⟨o, ho⟩ : ∃ o, P.opn[j]? = some o := ⟨P.opn[j]'(by have := L5.out; omega), List.getElem?_eq_getElem _⟩
              obtain ⟨b4, off4, rfl, z4⟩ := HI.out.opn.at_ ho
              have y4 := Later.cell HL.out z4
              have HT0 := hide (extraE_take (k := P.rows.length) ho)
              have HT1 := hide (ends_take ho)
              have hel := endsFrom_len_le (P.opn.take j) 0
              rw [List.length_take] at hel
              obtain ⟨E, hE⟩ : ∃ E, E = (endsFrom (P.opn.take j) 0).length := ⟨_, rfl⟩
              have HE := hide hE
              have hE24 : E ≤ 24 := by omega
              have HLN : Hid (((List.range P.cost.length).map (fun (k : Nat) => (k : Int)) ++ exV (extraR P.rows 0 ++ extraE (P.opn.take j) P.rows.length)).length ≤ 1000 ∧ (List.replicate P.cost.length (-1) ++ exR (extraR P.rows 0 ++ extraE (P.opn.take j) P.rows.length)).length ≤ 1000 ∧ (List.replicate P.cost.length 0 ++ exA (extraR P.rows 0 ++ extraE (P.opn.take j) P.rows.length)).length ≤ 1000) := hide (by
                have h1 := HP.out.n24
                have h2 := extraR_len_le P.rows 0; have h3 := extraE_len_le (P.opn.take j) P.rows.length; have h4 := HP.out.rl; rw [List.length_take] at h3
                unfold exV exR exA
                simp only [List.length_append, List.length_map, List.length_range, List.length_replicate]
                omega)
              have hkk : ((n2 : Int) + ((endsFrom (P.opn.take j) 0).length : Int)) = (n2 : Int) + (E : Int) := by rw [hE]
              rw [hkk]
              clear ho hel hE hkk
              cases o with
              | true =>
                have he : extraE (P.opn.take (j+1)) P.rows.length = extraE (P.opn.take j) P.rows.length := by rw [HT0.out]; exact List.append_nil _
                have hc9 := HC.out
                rw [← he] at hc9
                have HC9 := hide hc9
                have HK9 : Hid ((n2 : Int) + (E : Int) = ((n2 : Int) + ((endsFrom (P.opn.take (j+1)) 0).length : Int))) := hide (by rw [HT1.out, HE.out]; rfl)
                clear hc9 he
                go_wp2_with fail
                exact ⟨⟨j+1, by omega, by go_num, by rw [HK9.out], HC9.out, HL.out⟩, by simp [intOf]; omega⟩
              | false =>
                have HEE : Hid (exV (extraE (P.opn.take (j+1)) P.rows.length) = exV (extraE (P.opn.take j) P.rows.length) ++ [-1] ∧ exR (extraE (P.opn.take (j+1)) P.rows.length) = exR (extraE (P.opn.take j) P.rows.length) ++ [(n2 : Int) + (E : Int)] ∧ exA (extraE (P.opn.take (j+1)) P.rows.length) = exA (extraE (P.opn.take j) P.rows.length) ++ [1]) := hide (by
                  rw [HT0.out, if_neg (by decide), exV_app, exR_app, exA_app]
                  refine ⟨rfl, ?_, rfl⟩
                  congr 1
                  show [((P.rows.length + (endsFrom (P.opn.take j) 0).length : Nat) : Int)] = _
                  rw [HE.out, L2.out]; congr 1)
                have HK9 : Hid ((n2 : Int) + (E : Int) + 1 = ((n2 : Int) + ((endsFrom (P.opn.take (j+1)) 0).length : Int))) := hide (by rw [HT1.out, HE.out, if_neg (by decide)]; omega)
                have hwk : IntKind.i64.wrap ((n2 : Int) + (E : Int) + 1) = (n2 : Int) + (E : Int) + 1 := IntWalk.i64_in _ (by omega)
                go_upto_region 23 with (at_builtin; refine wpList_append_ix rfl _ _ rfl rfl (ownsRow_later HC.out.v ((Later.refl _).alloc _)) rfl (Row.new wr 3 [.int .i64 (-1)]) (by have := HLN.out; omega) (by have := HL.out.size; rw [World.size_alloc]; omega) ?_; intro v81 w81 k11 k21 k31)
                have hlt1 := World.ownsRow.lt HC.out.v
                have HC1 := hide (Cols.grewV (HC.out.later ((Later.refl wr).alloc _)) k11 k21 k31)
                have HL1 : Hid (Later W0 w81) := hide ((HL.out.alloc _).grown k21 (fun q hq => (hlt1 q hq).1))
                clear k11 k21 k31 hlt1
                go_upto_region 24 with (at_builtin; refine wpList_append_ix rfl _ _ rfl rfl (ownsRow_later HC1.out.r ((Later.refl _).alloc _)) rfl (Row.new w81 3 [.int .i64 ((n2 : Int) + (E : Int))]) (by have := HLN.out; omega) (by have := HL1.out.size; rw [World.size_alloc]; omega) ?_; intro v82 w82 k12 k22 k32)
                have hlt2 := World.ownsRow.lt HC1.out.r
                have HC2 := hide (Cols.grewR (HC1.out.later ((Later.refl w81).alloc _)) k12 k22 k32)
                have HL2 : Hid (Later W0 w82) := hide ((HL1.out.alloc _).grown k22 (fun q hq => (hlt2 q hq).1))
                clear k12 k22 k32 hlt2
                go_wp2_with (at_builtin; refine wpList_append_i64x rfl _ _ rfl rfl (ownsRow_later HC2.out.a ((Later.refl _).alloc _)) rfl (Row.new w82 2 [.int .i64 (1)]) (by have := HLN.out; omega) (by have := HL2.out.size; rw [World.size_alloc]; omega) ?_; intro v83 w83 k13 k23 k33)
                have hlt3 := World.ownsRow.lt HC2.out.a
                have HC3 := hide (Cols.grewA (HC2.out.later ((Later.refl w82).alloc _)) k13 k23)
                have HL3 : Hid (Later W0 w83) := hide ((HL2.out.alloc _).grown k23 (fun q hq => (hlt3 q hq).1))
                clear k13 k23 k33 hlt3
                have hc9 := HC3.out
                rw [List.append_assoc, List.append_assoc, List.append_assoc] at hc9
                rw [exV_app, exR_app, exA_app, List.append_assoc, List.append_assoc, List.append_assoc, ← HEE.out.1, ← HEE.out.2.1, ← HEE.out.2.2, ← exV_app, ← exR_app, ← exA_app] at hc9
                exact ⟨⟨j+1, by omega, by go_num, by rw [HK9.out], hc9, HL3.out⟩, by simp [intOf]; omega⟩
            · have hj1 : ¬ (j : Int) < n5 := by omega
              have hc9 := HC.out
              have he : extraR P.rows 0 ++ extraE (P.opn.take j) P.rows.length = extraL P := by rw [List.take_of_length_le (by have := L5.out; omega)]; rfl
              rw [he] at hc9
              have HC9 := hide hc9
              clear hc9 he
              go_wp2_with fail
              go_ret3
              exact ⟨_, _, _, rfl, HC9.out.weaken B0.out.size, B0.out.trans HL.out⟩
end Go.Proofs.YtfokplidiboabaaGreat

/- Problems: Back, Cost, Fulfils (the reference). -/
set_option linter.unusedVariables false
set_option linter.unusedSimpArgs false
set_option maxRecDepth 100000
namespace Go.Proofs.YtfokplidiboabaaGreat
open Go.RowKit Go.Shelf
attribute [local go_sem ↓] Go.wp_at_zero Go.wp_at_succ

theorem axpy_take_one {a b : List Rat} {y z : Rat} {j : Nat} (ha : a[j]? = some y) (hb : b[j]? = some z) : (axpyL a b 1).take (j+1) = (axpyL a b 1).take j ++ [y + z] := by
  rw [axpy_take_succ ha hb]; congr 2; grind
/-- what Back of the reference hands back -/
def RBack (w : World) (P : PLp) (y : List Rat) (e : Ending) (w' : World) : Prop := ∃ v, e = .returned (.tuple #[v, .int .i64 (if backB P y then 0 else 1)]) ∧ (backB P y = true → RowU w' w.heap.size v (backL P y)) ∧ (backB P y = false → v = .slice none 0 0) ∧ Later w w'

set_option maxHeartbeats 16000000 in
theorem rback11_calls (w : World) (A1 A2 A3 A4 A5 : Option Addr) (n1 n2 n3 n4 n5 c1 c2 c3 c4 c5 : Nat) (k : Nat) (P : PLp) (h : LpIn w (.slice A1 n1 c1) (.slice A2 n2 c2) (.slice A3 n3 c3) (.slice A4 n4 c4) (.slice A5 n5 c5) k P) (vy : Value) (y : List Rat) (m : Nat) (hy : Rats (ERaw m) w vy y) (hm : m ≤ 1000) (hyl : y.length ≤ 1000) :
    Calls Tryz.prog 27 #[.agg #[.slice A1 n1 c1, .slice A2 n2 c2, .slice A3 n3 c3, .slice A4 n4 c4, .slice A5 n5 c5], vy] w (RBack w P y) := by
  obtain ⟨Ay, ny, cy, rfl, hny, hcy, -⟩ := hy.form
  have hy0 := hy; have h0 := h
  have HNY := hide hny
  have hny9 : ny ≤ 1000 := by omega
  clear hy hny
  have H := hide h
  have hc1 := h.cost; have hr1 := h.rows; have hl1 := h.lo; have hh1 := h.hi; have ho1 := h.opn
  have L1 := hide hc1.len_; have L2 := hide hr1.len_; have L3 := hide hl1.len_; have L4 := hide hh1.len_; have L5 := hide ho1.len_
  have hn1 : n1 ≤ 1000 := by have := h.cl; have := L1.out; omega
  have hn2 : n2 ≤ 1000 := by have := h.rl; have := L2.out; omega
  have hn3 : n3 ≤ 1000 := by have := h.ll; have := L3.out; omega
  have hn4 : n4 ≤ 1000 := by have := h.hl; have := L4.out; omega
  have hn5 : n5 ≤ 1000 := by have := h.ol; have := L5.out; omega
  have hkk := h.kk
  clear h hc1 hr1 hl1 hh1 ho1
  obtain ⟨u, hu⟩ : ∃ u, lpB P = u := ⟨_, rfl⟩
  have HU := hide hu
  clear hu
  obtain ⟨W0, hW0⟩ : ∃ W0, W0 = (w.alloc (Obj.cells #[Value.slice A1 n1 c1, Value.slice A2 n2 c2, Value.slice A3 n3 c3, Value.slice A4 n4 c4, Value.slice A5 n5 c5] 26)) := ⟨_, rfl⟩
  obtain ⟨hb0, r0, hsz0⟩ := boxes1 w [.slice A1 n1 c1, .slice A2 n2 c2, .slice A3 n3 c3, .slice A4 n4 c4, .slice A5 n5 c5] 26 hW0
  have B0 := hide hb0; have HW0 := hide hW0; have HSZ0 := hide hsz0
  have R0 := hide r0
  clear hb0 hW0 hsz0 r0
  have HI := hide (h0.later B0.out); have HY := hide (hy0.later ERaw.later B0.out)
  clear h0 hy0
  go_enter Tryz.func27, Tryz.ntmps27
  go_upto_region 1 with fail
  rw [← HW0.out]
  have r_d := R0.out.later (Later.refl W0)
  have d0 := r_d.cell (i := 0) rfl; have d1 := r_d.cell (i := 1) rfl; have d2 := r_d.cell (i := 2) rfl; have d3 := r_d.cell (i := 3) rfl; have d4 := r_d.cell (i := 4) rfl
  clear r_d
  go_wp2_with fail
  ((with_reducible refine (rmay11_calls _ _ _ _ _ _ _ _ _ _ _ _ _ _ _ _ k P HI.out).mono ?_); rintro e w1 ⟨rfl, b1⟩)
  rw [HU.out]
  have HL1 := hide b1
  clear b1 d0 d1 d2 d3 d4
  have r_d := R0.out.later HL1.out
  have d0 := r_d.cell (i := 0) rfl; have d1 := r_d.cell (i := 1) rfl; have d2 := r_d.cell (i := 2) rfl; have d3 := r_d.cell (i := 3) rfl; have d4 := r_d.cell (i := 4) rfl
  clear r_d
  cases u with
  | false =>
    have HBB : Hid (backB P y = false) := hide (by unfold backB; rw [HU.out]; rfl)
    go_wp2_with fail
    go_ret2
    exact ⟨_, by rw [HBB.out]; rfl, fun h => (by rw [HBB.out] at h; cases h), fun _ => rfl, B0.out.trans HL1.out⟩
  | true =>
    have HP := hide (lpB_iff.1 HU.out)
    obtain ⟨N, hN⟩ : ∃ N, N = P.cost.length + (extraL P).length := ⟨_, rfl⟩
    have HN := hide hN
    go_wp2_with fail
    refine (rcolumns11_calls _ _ _ _ _ _ _ _ _ _ _ _ _ _ _ _ k P (HI.out.later HL1.out) HP.out).mono ?_
    rintro e w2 ⟨vv, rv, av, rfl, hc2, b2⟩
    obtain ⟨Av, nv, cv, rfl, hnv, -⟩ := (Sq.of_own (enc := iCells) (m := 1) (fun _ => rfl) hc2.v).form
    have hnvN : nv = N := by rw [hnv, colV_len, hN]
    subst hnvN
    have HL2 := hide (HL1.out.trans b2)
    clear b2 hN d0 d1 d2 d3 d4 hc2 hnv
    have r_d := R0.out.later HL2.out
    have d0 := r_d.cell (i := 0) rfl; have d1 := r_d.cell (i := 1) rfl; have d2 := r_d.cell (i := 2) rfl; have d3 := r_d.cell (i := 3) rfl; have d4 := r_d.cell (i := 4) rfl
    clear r_d
    by_cases g : ny = nv
    · have HBB : Hid (backB P y = true) := hide (by unfold backB; rw [HU.out, Bool.true_and, decide_eq_true_iff, ← HN.out, ← HNY.out]; exact g)
      have t1 : ((ny : Int) != (nv : Int)) = false := by rw [bne_eq_false_iff_eq, g]
      have hle : n3 ≤ ny := by have h1 := HN.out; have h3 := HP.out.lo; have h4 := L3.out; omega
      clear g
      go_wp2_with fail
      clear d0 d1 d2 d3 d4
      go_loopw [9, 10] (fun yv i wr => ∃ j : Nat, j ≤ n3 ∧ i = .int .i64 (j : Int) ∧ RowU wr W0.heap.size yv ((backL P y).take j) ∧ Later W0 wr) (fun _ i _ => (n3 - intOf i).toNat)
      case atStart => exact ⟨0, by omega, rfl, RowU.nil _ _, HL2.out⟩
      case round =>
        obtain ⟨j, hj, rfl, hout, hLx⟩ := hrel
        have HOUT := hide hout; have HLx := hide hLx
        clear hout hLx
        have r_d := R0.out.later HLx.out
        have d0 := r_d.cell (i := 0) rfl; have d1 := r_d.cell (i := 1) rfl; have d2 := r_d.cell (i := 2) rfl; have d3 := r_d.cell (i := 3) rfl; have d4 := r_d.cell (i := 4) rfl
        clear r_d
        by_cases hjn : j < n3
        · have hj0 : (0 : Int) ≤ (j : Int) := by omega
          have hj1 : (j : Int) < n3 := by omega
          obtain ⟨lq, hlq⟩ : ∃ q, P.lo[j]? = some q := ⟨P.lo[j]'(by have := L3.out; omega), List.getElem?_eq_getElem _⟩
          obtain ⟨yq, hyq⟩ : ∃ q, y[j]? = some q := ⟨y[j]'(by have := HNY.out; omega), List.getElem?_eq_getElem _⟩
          have hyt : (y.take P.lo.length)[j]? = some yq := by rw [List.getElem?_take_of_lt (by have := L3.out; omega)]; exact hyq
          obtain ⟨b2, off2, ls, lA, ln, lc, ls', lA', ln', lc', el, l1, l2, l3, l4, lE⟩ := HI.out.lo.at_ hlq
          subst el
          obtain ⟨b1, off1, ys, yA, yn, yc, ys', yA', yn', yc', ey, y1, y2, y3, y4, yE⟩ := HY.out.at_ hyq
          subst ey
          have HEL := hide (show RawR W0 (.agg #[.bool ls, .slice lA ln lc, .bool ls', .slice lA' ln' lc']) lq k from lE); have HEY := hide (show RawR W0 (.agg #[.bool ys, .slice yA yn yc, .bool ys', .slice yA' yn' yc']) yq m from yE)
          have HT : Hid ((backL P y).take (j+1) = (backL P y).take j ++ [lq + yq]) := hide (axpy_take_one hlq hyt)
          have HLM : Hid (((backL P y).take j).length ≤ 3000000) := hide (by rw [List.length_take]; omega)
          have p2 := Later.cell HLx.out (R0.out.cell (i := 2) rfl)
          have hj2 : j < ny := by have := HNY.out; omega
          clear hlq hyq hyt lE yE
          go_upto_region 10 with fail
          have t2 := R0.out.cell (i := 2) rfl
          clear d0 d1 d2 d3 d4 p2
          have HT1 : Hid (∀ w', Later wr w' → w'.cell? ⟨w.heap.size, 2, none⟩ = some (.slice (some ⟨b2, off2, none⟩) n3 c3) ∧ w'.cell? ⟨b2, off2 + j * 4, none⟩ = some (.bool ls) ∧ w'.cell? ⟨b2, off2 + j * 4 + 1, none⟩ = some (.slice lA ln lc) ∧ w'.cell? ⟨b2, off2 + j * 4 + 2, none⟩ = some (.bool ls') ∧ w'.cell? ⟨b2, off2 + j * 4 + 3, none⟩ = some (.slice lA' ln' lc') ∧ w'.cell? ⟨b1, off1 + j * 4, none⟩ = some (.bool ys) ∧ w'.cell? ⟨b1, off1 + j * 4 + 1, none⟩ = some (.slice yA yn yc) ∧ w'.cell? ⟨b1, off1 + j * 4 + 2, none⟩ = some (.bool ys') ∧ w'.cell? ⟨b1, off1 + j * 4 + 3, none⟩ = some (.slice yA' yn' yc')) := hide fun w' hb => ⟨Later.cell (HLx.out.trans hb) t2, Later.cell (HLx.out.trans hb) l1, Later.cell (HLx.out.trans hb) l2, Later.cell (HLx.out.trans hb) l3, Later.cell (HLx.out.trans hb) l4, Later.cell (HLx.out.trans hb) y1, Later.cell (HLx.out.trans hb) y2, Later.cell (HLx.out.trans hb) y3, Later.cell (HLx.out.trans hb) y4⟩
          have hmx : Tryz.prog.follows .mixedOrders = true := by kernel_rfl
          refine wp_region_N (fun w' => w'.cell? ⟨w.heap.size, 2, none⟩ = some (.slice (some ⟨b2, off2, none⟩) n3 c3) ∧ w'.cell? ⟨b2, off2 + j * 4, none⟩ = some (.bool ls) ∧ w'.cell? ⟨b2, off2 + j * 4 + 1, none⟩ = some (.slice lA ln lc) ∧ w'.cell? ⟨b2, off2 + j * 4 + 2, none⟩ = some (.bool ls') ∧ w'.cell? ⟨b2, off2 + j * 4 + 3, none⟩ = some (.slice lA' ln' lc') ∧ w'.cell? ⟨b1, off1 + j * 4, none⟩ = some (.bool ys) ∧ w'.cell? ⟨b1, off1 + j * 4 + 1, none⟩ = some (.slice yA yn yc) ∧ w'.cell? ⟨b1, off1 + j * 4 + 2, none⟩ = some (.bool ys') ∧ w'.cell? ⟨b1, off1 + j * 4 + 3, none⟩ = some (.slice yA' yn' yc')) [] hmx (HT1.out _ lt_) (fun hHeld => ?_)
          refine tkB 32 0 ?_
          refine tkB 33 1 ?_
          refine tkB 34 2 ?_
          refine tkB 35 3 ?_
          refine tkB 36 4 ?_
          refine tkB 37 5 ?_
          refine tkB 38 6 ?_
          refine tkB 39 7 ?_
          refine tkB 40 8 ?_
          refine tkB 41 9 ?_
          refine wpAnyN_ready (rs := [10]) (by kernel_rfl) (by simp) ?_
          refine AllReadyN.held rfl (by rfl) (fun K hK => ?_) AllReadyN.nil
          go_simp
          refine (qadd_calls _ _ _ lq yq k m (RawR.later HEL.out (HLx.out.trans lt_)) (RawR.later HEY.out (HLx.out.trans lt_)) (by omega)).mono ?_
          rintro e w70 ⟨v70, rfl, o70, b70⟩
          obtain ⟨s70, P70, q70, e70, P70', q70', e70', rfl, o70⟩ := o70.open_; have O70 := hide o70; clear o70
          have l70 : Later wr w70 := Later.trans lt_ b70
          refine hK.out _ _ ?_ (fun hHeld => ?_)
          · exact HT1.out _ lt_
          clear hK K
          try simp only [Act.put, List.setIfInBounds_toArray, List.set_cons_zero, List.set_cons_succ]
          refine wpAnyN_ready (rs := [11]) (by kernel_rfl) (by simp) ?_
          refine AllReadyN.held rfl (by rfl) (fun K hK => ?_) AllReadyN.nil
          go_simp
          refine hK.out _ _ ?_ (fun hHeld => ?_)
          · exact HT1.out _ lt_
          clear hK K
          try simp only [Act.put, List.setIfInBounds_toArray, List.set_cons_zero, List.set_cons_succ]
          refine wpAnyN_ready (rs := [12]) (by kernel_rfl) (by simp) ?_
          refine AllReadyN.held rfl (by rfl) (fun K hK => ?_) AllReadyN.nil
          refine wp_append_rowu _ _ rfl rfl (HOUT.out.later lt_) rfl (Row.new w70 36 [.bool s70, .slice P70 q70 e70, .bool false, .slice P70' q70' e70']) (q := lq + yq) (OwnR.later O70.out ((Later.refl w70).alloc _)) (by have := HLM.out; omega) (by have h1 := HLx.out.size; have h2 := l70.size; rw [World.size_alloc]; omega) ?_
          intro v71 w71 k1 k2 k3
          have hblt := HOUT.out.lt
          have l71 : Later W0 w71 := ((HLx.out.trans l70).alloc _).grown k2 (fun k hk => (hblt k hk).1)
          have HT3 : Hid (w71.cell? ⟨w.heap.size, 2, none⟩ = some (.slice (some ⟨b2, off2, none⟩) n3 c3) ∧ w71.cell? ⟨b2, off2 + j * 4, none⟩ = some (.bool ls) ∧ w71.cell? ⟨b2, off2 + j * 4 + 1, none⟩ = some (.slice lA ln lc) ∧ w71.cell? ⟨b2, off2 + j * 4 + 2, none⟩ = some (.bool ls') ∧ w71.cell? ⟨b2, off2 + j * 4 + 3, none⟩ = some (.slice lA' ln' lc') ∧ w71.cell? ⟨b1, off1 + j * 4, none⟩ = some (.bool ys) ∧ w71.cell? ⟨b1, off1 + j * 4 + 1, none⟩ = some (.slice yA yn yc) ∧ w71.cell? ⟨b1, off1 + j * 4 + 2, none⟩ = some (.bool ys') ∧ w71.cell? ⟨b1, off1 + j * 4 + 3, none⟩ = some (.slice yA' yn' yc')) := hide ⟨Later.cell l71 t2, Later.cell l71 l1, Later.cell l71 l2, Later.cell l71 l3, Later.cell l71 l4, Later.cell l71 y1, Later.cell l71 y2, Later.cell l71 y3, Later.cell l71 y4⟩
          have HK1 := hide k1
          clear k1 k2 k3 hblt
          refine hK.out _ _ ?_ (fun hHeld => ?_)
          · exact HT3.out
          clear hK K
          try simp only [Act.put, List.setIfInBounds_toArray, List.set_cons_zero, List.set_cons_succ]
          refine tkB 9 13 ?_
          refine wpAnyN_done (by kernel_rfl) ?_ _
          clear hHeld HT3
          go_wp2_with fail
          exact ⟨⟨j+1, by omega, by go_num, by rw [HT.out]; exact HK1.out, l71⟩, by simp [intOf]; omega⟩
        · have hj1 : ¬ (j : Int) < n3 := by omega
          have HF : Hid ((backL P y).take j = backL P y) := hide (List.take_of_length_le (by unfold backL axpyL; rw [List.length_zipWith]; have := L3.out; omega))
          rw [HF.out] at HOUT
          go_wp2_with fail
          go_ret2
          exact ⟨_, by rw [HBB.out]; rfl, fun _ => HOUT.out.weaken B0.out.size, fun h => (by rw [HBB.out] at h; cases h), B0.out.trans HLx.out⟩
    · have HBB : Hid (backB P y = false) := hide (by unfold backB; rw [HU.out, Bool.true_and, decide_eq_false_iff_not, ← HN.out, ← HNY.out]; exact g)
      have t1 : ((ny : Int) != (nv : Int)) = true := by rw [bne_iff_ne]; omega
      go_wp2_with fail
      go_ret2
      exact ⟨_, by rw [HBB.out]; rfl, fun h => (by rw [HBB.out] at h; cases h), fun _ => rfl, B0.out.trans HL2.out⟩

set_option maxHeartbeats 4000000 in
theorem rcost11_calls (w : World) (A1 A2 A3 A4 A5 : Option Addr) (n1 n2 n3 n4 n5 c1 c2 c3 c4 c5 : Nat) (k : Nat) (P : PLp) (h : LpIn w (.slice A1 n1 c1) (.slice A2 n2 c2) (.slice A3 n3 c3) (.slice A4 n4 c4) (.slice A5 n5 c5) k P) (vx : Value) (x : List Rat) (m : Nat) (hx : Rats (ERaw m) w vx x) (hm : m ≤ 1000) (hs : (P.cost.length + 1) * (k + m + 4) ≤ 20000000) :
    Calls Tryz.prog 29 #[.agg #[.slice A1 n1 c1, .slice A2 n2 c2, .slice A3 n3 c3, .slice A4 n4 c4, .slice A5 n5 c5], vx] w (Ret2 w fun w' v o => OwnR w' 0 v (lpCost P x) ∧ o = .bool (lpB P && decide (x.length = P.cost.length))) := by
  obtain ⟨Ax, nx, cx, rfl, hnx, -⟩ := hx.form
  have HX := hide hx; have HNX := hide hnx; have HSZ := hide hs
  clear hx hnx hs
  have H := hide h
  have hc1 := h.cost; have hr1 := h.rows; have hl1 := h.lo; have hh1 := h.hi; have ho1 := h.opn
  have L1 := hide hc1.len_; have L2 := hide hr1.len_; have L3 := hide hl1.len_; have L4 := hide hh1.len_; have L5 := hide ho1.len_
  have hn1 : n1 ≤ 1000 := by have := h.cl; have := L1.out; omega
  have hn2 : n2 ≤ 1000 := by have := h.rl; have := L2.out; omega
  have hn3 : n3 ≤ 1000 := by have := h.ll; have := L3.out; omega
  have hn4 : n4 ≤ 1000 := by have := h.hl; have := L4.out; omega
  have hn5 : n5 ≤ 1000 := by have := h.ol; have := L5.out; omega
  have hkk := h.kk
  clear h hc1 hr1 hl1 hh1 ho1
  obtain ⟨u, hu⟩ : ∃ u, lpB P = u := ⟨_, rfl⟩
  obtain ⟨z, hz⟩ : ∃ z, lpCost P x = z := ⟨_, rfl⟩
  obtain ⟨ub, hub⟩ : ∃ b, (lpB P && decide (x.length = P.cost.length)) = b := ⟨_, rfl⟩
  rw [hub, hz]
  have HUB := hide hub
  clear hub
  have HU := hide hu; have HZ := hide hz
  clear hu hz
  obtain ⟨W0, hW0⟩ : ∃ W0, W0 = ((w.alloc (Obj.cells #[Value.slice A1 n1 c1, Value.slice A2 n2 c2, Value.slice A3 n3 c3, Value.slice A4 n4 c4, Value.slice A5 n5 c5] 26)).alloc (Obj.cells #[Value.bool false, Value.slice none 0 0, Value.bool false, Value.slice none 0 0] 36)) := ⟨_, rfl⟩
  obtain ⟨hb0, r0, r1, hsz0⟩ := boxes2 w [.slice A1 n1 c1, .slice A2 n2 c2, .slice A3 n3 c3, .slice A4 n4 c4, .slice A5 n5 c5] [.bool false, .slice none 0 0, .bool false, .slice none 0 0] 26 36 hW0
  have B0 := hide hb0; have HW0 := hide hW0; have HSZ0 := hide hsz0
  have R0 := hide r0; have R1 := hide r1
  clear hb0 hW0 hsz0 r0 r1
  go_enter Tryz.func29, Tryz.ntmps29
  go_upto_region 1 with fail
  rw [← HW0.out]
  have r_d := R0.out.later (Later.refl W0)
  have d0 := r_d.cell (i := 0) rfl; have d1 := r_d.cell (i := 1) rfl; have d2 := r_d.cell (i := 2) rfl; have d3 := r_d.cell (i := 3) rfl; have d4 := r_d.cell (i := 4) rfl
  clear r_d
  go_wp2_with fail
  ((with_reducible refine (rmay11_calls _ _ _ _ _ _ _ _ _ _ _ _ _ _ _ _ k P (H.out.later B0.out)).mono ?_); rintro e w1 ⟨rfl, b1⟩)
  rw [HU.out]
  have HL1 := hide b1
  clear b1 d0 d1 d2 d3 d4
  have r_d := R0.out.later HL1.out
  have d0 := r_d.cell (i := 0) rfl; have d1 := r_d.cell (i := 1) rfl; have d2 := r_d.cell (i := 2) rfl; have d3 := r_d.cell (i := 3) rfl; have d4 := r_d.cell (i := 4) rfl
  clear r_d
  cases u with
  | false =>
    have HF : Hid (z = 0) := hide (by rw [← HZ.out]; unfold lpCost; rw [HU.out]; rfl)
    have HFB : Hid ((lpB P && decide (x.length = P.cost.length)) = false) := hide (by rw [HU.out]; rfl)
    go_wp2_with fail
    ((with_reducible refine (rone_calls _ 0 (by omega) (by omega) 0 div_0).mono ?_); rintro e w2 ⟨v2, rfl, o2, b2⟩)
    obtain ⟨s2, P2, q2, e2, P2', q2', e2', rfl, o2⟩ := o2.open_; have O2 := hide o2; clear o2
    have HLX := hide (HL1.out.trans b2)
    clear b2 d0 d1 d2 d3 d4
    have hrow := R1.out.later HLX.out
    obtain ⟨y1, y2, y3, y4, y5, y6, y7, y8⟩ := row_cells4 hrow
    have HR := hide hrow
    clear hrow
    go_wp2_with fail
    refine bodyPost_ret (results_rat_bool rfl rfl rfl (HR.out.four _ _ _ _)) rfl ?_
    have oo := Only.four (w.heap.size + 1) w2 (.bool s2) (.slice P2 q2 e2) (.bool false) (.slice P2' q2' e2')
    exact ⟨_, _, rfl, ⟨by rw [HF.out]; exact (OwnR.apart O2.out oo HR.out).at0_, by rw [← HUB.out, HFB.out]⟩, (B0.out.trans HLX.out).only oo (by omega)⟩
  | true =>
    by_cases g : nx = n1
    · have t1 : ((nx : Int) != (n1 : Int)) = false := by rw [bne_eq_false_iff_eq, g]
      have hxc : x.length = P.cost.length := by have := HNX.out; have := L1.out; omega
      have HXC := hide hxc
      have HF : Hid (z = dotL P.cost x) := hide (by rw [← HZ.out]; unfold lpCost dotD; rw [if_pos HU.out, if_pos hxc.symm])
      have HFB : Hid ((lpB P && decide (x.length = P.cost.length)) = true) := hide (by rw [HU.out, decide_eq_true hxc]; rfl)
      clear g hxc
      go_wp2_with fail
      refine (qdot_calls _ _ _ P.cost x k m (Rats.later ERaw.later H.out.cost (B0.out.trans HL1.out)) (Rats.later ERaw.later HX.out (B0.out.trans HL1.out)) HXC.out.symm HSZ.out).mono ?_
      rintro e w3 ⟨v3, ok, rfl, ⟨o3, rfl⟩, b3⟩
      obtain ⟨s3, P3, q3, e3, P3', q3', e3', rfl, o3⟩ := o3.open_; have O3 := hide o3; clear o3
      have HLX := hide (HL1.out.trans b3)
      clear b3 d0 d1 d2 d3 d4
      have hrow := R1.out.later HLX.out
      obtain ⟨y1, y2, y3, y4, y5, y6, y7, y8⟩ := row_cells4 hrow
      have HR := hide hrow
      clear hrow
      go_wp2_with fail
      refine bodyPost_ret (results_rat_bool rfl rfl rfl (HR.out.four _ _ _ _)) rfl ?_
      have oo := Only.four (w.heap.size + 1) w3 (.bool s3) (.slice P3 q3 e3) (.bool false) (.slice P3' q3' e3')
      exact ⟨_, _, rfl, ⟨by rw [HF.out]; exact (OwnR.apart O3.out oo HR.out).at0_, by rw [← HUB.out, HFB.out]⟩, (B0.out.trans HLX.out).only oo (by omega)⟩
    · have t1 : ((nx : Int) != (n1 : Int)) = true := by rw [bne_iff_ne]; omega
      have hxc : ¬ x.length = P.cost.length := by have := HNX.out; have := L1.out; omega
      have HF : Hid (z = 0) := hide (by rw [← HZ.out]; unfold lpCost dotD; rw [if_pos HU.out, if_neg (fun h => hxc h.symm)])
      have HFB : Hid ((lpB P && decide (x.length = P.cost.length)) = false) := hide (by rw [decide_eq_false hxc]; simp)
      clear g hxc
      go_wp2_with fail
      ((with_reducible refine (rone_calls _ 0 (by omega) (by omega) 0 div_0).mono ?_); rintro e w2 ⟨v2, rfl, o2, b2⟩)
      obtain ⟨s2, P2, q2, e2, P2', q2', e2', rfl, o2⟩ := o2.open_; have O2 := hide o2; clear o2
      have HLX := hide (HL1.out.trans b2)
      clear b2 d0 d1 d2 d3 d4
      have hrow := R1.out.later HLX.out
      obtain ⟨y1, y2, y3, y4, y5, y6, y7, y8⟩ := row_cells4 hrow
      have HR := hide hrow
      clear hrow
      go_wp2_with fail
      refine bodyPost_ret (results_rat_bool rfl rfl rfl (HR.out.four _ _ _ _)) rfl ?_
      have oo := Only.four (w.heap.size + 1) w2 (.bool s2) (.slice P2 q2 e2) (.bool false) (.slice P2' q2' e2')
      exact ⟨_, _, rfl, ⟨by rw [HF.out]; exact (OwnR.apart O2.out oo HR.out).at0_, by rw [← HUB.out, HFB.out]⟩, (B0.out.trans HLX.out).only oo (by omega)⟩

theorem ful_may {P : PLp} {x : List Rat} (h : lpB P = false) : fulfL P x = false := by unfold fulfL; rw [h]; rfl
theorem ful_len {P : PLp} {x : List Rat} (h : ¬ x.length = P.cost.length) : fulfL P x = false := by unfold fulfL; rw [decide_eq_false h]; simp
theorem ful_bad1 {P : PLp} {x : List Rat} {j : Nat} (hj : j < P.cost.length) (h : inB P x j = false) : fulfL P x = false := by
  unfold fulfL
  have : (List.range P.cost.length).all (inB P x) = false := List.all_eq_false.2 ⟨j, List.mem_range.2 hj, by rw [h]; decide⟩
  rw [this]; simp
theorem ful_bad2 {P : PLp} {x : List Rat} {r : PRow} (hr : r ∈ P.rows) (h : rowHolds r x = false) : fulfL P x = false := by
  unfold fulfL
  have : (P.rows.all fun r => rowHolds r x) = false := List.all_eq_false.2 ⟨r, hr, by rw [h]; decide⟩
  rw [this]; simp
theorem ful_good {P : PLp} {x : List Rat} (h1 : lpB P = true) (h2 : x.length = P.cost.length) (h3 : ∀ j, j < P.cost.length → inB P x j = true) (h4 : ∀ r ∈ P.rows, rowHolds r x = true) : fulfL P x = true := by
  unfold fulfL
  rw [h1, decide_eq_true h2, List.all_eq_true.2 (fun j hj => h3 j (List.mem_range.1 hj)), List.all_eq_true.2 h4]; rfl
theorem cmpQ_lt0 (a b : Rat) : cmpQ a b < 0 ↔ a < b := by unfold cmpQ; split <;> (try split) <;> constructor <;> intro h <;> first | omega | grind
theorem cmpQ_gt0 (a b : Rat) : 0 < cmpQ a b ↔ b < a := by unfold cmpQ; split <;> (try split) <;> constructor <;> intro h <;> first | omega | grind

set_option maxHeartbeats 32000000 in
theorem rfulfils11_calls (w : World) (A1 A2 A3 A4 A5 : Option Addr) (n1 n2 n3 n4 n5 c1 c2 c3 c4 c5 : Nat) (k : Nat) (P : PLp) (h : LpIn w (.slice A1 n1 c1) (.slice A2 n2 c2) (.slice A3 n3 c3) (.slice A4 n4 c4) (.slice A5 n5 c5) k P) (vx : Value) (x : List Rat) (m : Nat) (hx : Rats (ERaw m) w vx x) (hm : m ≤ 1000) :
    Calls Tryz.prog 32 #[.agg #[.slice A1 n1 c1, .slice A2 n2 c2, .slice A3 n3 c3, .slice A4 n4 c4, .slice A5 n5 c5], vx] w (RetV w (.bool (fulfL P x))) := by
  obtain ⟨Ax, nx, cx, rfl, hnx, -⟩ := hx.form
  have hx0 := hx; have h0 := h
  have HNX := hide hnx
  clear hx hnx
  have H := hide h
  have hc1 := h.cost; have hr1 := h.rows; have hl1 := h.lo; have hh1 := h.hi; have ho1 := h.opn
  have L1 := hide hc1.len_; have L2 := hide hr1.len_; have L3 := hide hl1.len_; have L4 := hide hh1.len_; have L5 := hide ho1.len_
  have hn1 : n1 ≤ 1000 := by have := h.cl; have := L1.out; omega
  have hn2 : n2 ≤ 1000 := by have := h.rl; have := L2.out; omega
  have hn3 : n3 ≤ 1000 := by have := h.ll; have := L3.out; omega
  have hn4 : n4 ≤ 1000 := by have := h.hl; have := L4.out; omega
  have hn5 : n5 ≤ 1000 := by have := h.ol; have := L5.out; omega
  have hkk := h.kk
  clear h hc1 hr1 hl1 hh1 ho1
  obtain ⟨u, hu⟩ : ∃ u, lpB P = u := ⟨_, rfl⟩
  obtain ⟨ub, hub⟩ : ∃ b, fulfL P x = b := ⟨_, rfl⟩
  rw [hub]
  have HUB := hide hub
  have HU := hide hu
  clear hu hub
  obtain ⟨W0, hW0⟩ : ∃ W0, W0 = (w.alloc (Obj.cells #[Value.slice A1 n1 c1, Value.slice A2 n2 c2, Value.slice A3 n3 c3, Value.slice A4 n4 c4, Value.slice A5 n5 c5] 26)) := ⟨_, rfl⟩
  obtain ⟨hb0, r0, hsz0⟩ := boxes1 w [.slice A1 n1 c1, .slice A2 n2 c2, .slice A3 n3 c3, .slice A4 n4 c4, .slice A5 n5 c5] 26 hW0
  have B0 := hide hb0; have HW0 := hide hW0; have HSZ0 := hide hsz0
  have R0 := hide r0
  clear hb0 hW0 hsz0 r0
  have HI := hide (h0.later B0.out); have HX := hide (hx0.later ERaw.later B0.out)
  clear h0 hx0
  go_enter Tryz.func32, Tryz.ntmps32
  go_upto_region 1 with fail
  rw [← HW0.out]
  have r_d := R0.out.later (Later.refl W0)
  have d0 := r_d.cell (i := 0) rfl; have d1 := r_d.cell (i := 1) rfl; have d2 := r_d.cell (i := 2) rfl; have d3 := r_d.cell (i := 3) rfl; have d4 := r_d.cell (i := 4) rfl
  clear r_d
  go_wp2_with fail
  ((with_reducible refine (rmay11_calls _ _ _ _ _ _ _ _ _ _ _ _ _ _ _ _ k P HI.out).mono ?_); rintro e w1 ⟨rfl, b1⟩)
  rw [HU.out]
  have HL1 := hide b1
  clear b1 d0 d1 d2 d3 d4
  have r_d := R0.out.later HL1.out
  have d0 := r_d.cell (i := 0) rfl; have d1 := r_d.cell (i := 1) rfl; have d2 := r_d.cell (i := 2) rfl; have d3 := r_d.cell (i := 3) rfl; have d4 := r_d.cell (i := 4) rfl
  clear r_d
  cases u with
  | false =>
    have HFF : Hid (ub = false) := hide (by rw [← HUB.out]; exact ful_may HU.out)
    go_wp2_with fail
    go_ret
    exact ⟨by rw [HFF.out]; rfl, B0.out.trans HL1.out⟩
  | true =>
    have HP := hide (lpB_iff.1 HU.out)
    by_cases g : nx = n1
    rotate_left
    · have t1 : ((nx : Int) != (n1 : Int)) = true := by rw [bne_iff_ne]; omega
      have HFF : Hid (ub = false) := hide (by rw [← HUB.out]; exact ful_len (by have := HNX.out; have := L1.out; omega))
      go_wp2_with fail
      go_ret
      exact ⟨by rw [HFF.out]; rfl, B0.out.trans HL1.out⟩
    · have t1 : ((nx : Int) != (n1 : Int)) = false := by rw [bne_eq_false_iff_eq, g]
      have HXC : Hid (x.length = P.cost.length) := hide (by have := HNX.out; have := L1.out; omega)
      have hnx24 : nx ≤ 24 := by have := HXC.out; have := HNX.out; have := HP.out.n24; omega
      have hn24 : n2 ≤ 24 := by have := L2.out; have := HP.out.rl; omega
      clear g
      go_wp2_with fail
      clear d0 d1 d2 d3 d4
      go_loopw [5] (fun i wr => ∃ j : Nat, j ≤ nx ∧ i = .int .i64 (j : Int) ∧ Hid (∀ i, i < j → inB P x i = true) ∧ Later W0 wr) (fun i _ => (nx - intOf i).toNat)
      case atStart => exact ⟨0, by omega, rfl, hide (fun i hi => by omega), HL1.out⟩
      case round =>
        obtain ⟨j, hj, rfl, HIN, hLx⟩ := hrel
        have HLx := hide hLx
        clear hLx
        have r_d := R0.out.later HLx.out
        have d0 := r_d.cell (i := 0) rfl; have d1 := r_d.cell (i := 1) rfl; have d2 := r_d.cell (i := 2) rfl; have d3 := r_d.cell (i := 3) rfl; have d4 := r_d.cell (i := 4) rfl
        clear r_d
        by_cases hjn : j < nx
        · have hj0 : (0 : Int) ≤ (j : Int) := by omega
          have hj1 : (j : Int) < nx := by omega
          obtain ⟨xq, hxq⟩ : ∃ q, x[j]? = some q := ⟨x[j]'(by have := HNX.out; omega), List.getElem?_eq_getElem _⟩
          obtain ⟨lq, hlq⟩ : ∃ q, P.lo[j]? = some q := ⟨P.lo[j]'(by have := HP.out.lo; have := HXC.out; have := HNX.out; omega), List.getElem?_eq_getElem _⟩
          obtain ⟨mq, hmq⟩ : ∃ q, P.hi[j]? = some q := ⟨P.hi[j]'(by have := HP.out.hi; have := HXC.out; have := HNX.out; omega), List.getElem?_eq_getElem _⟩
          obtain ⟨o, ho⟩ : ∃ o, P.opn[j]? = some o := ⟨P.opn[j]'(by have := HP.out.opn; have := HXC.out; have := HNX.out; omega), List.getElem?_eq_getElem _⟩
          have hib : inB P x j = (decide (lq ≤ xq) && (o || decide (xq ≤ mq))) := by
            unfold inB
            rw [List.getD_eq_getElem?_getD, hlq, List.getD_eq_getElem?_getD, hxq, List.getD_eq_getElem?_getD, ho, List.getD_eq_getElem?_getD, hmq]; rfl
          obtain ⟨b1, off1, xs, xA, xn, xc, xs', xA', xn', xc', ex, x1, x2, x3, x4, xE⟩ := HX.out.at_ hxq
          subst ex
          obtain ⟨b2, off2, ls, lA, ln, lc, ls', lA', ln', lc', el, l1, l2, l3, l4, lE⟩ := HI.out.lo.at_ hlq
          subst el
          obtain ⟨b5, off5, ms, mA, mn, mc, ms', mA', mn', mc', em, m1, m2, m3, m4, mE⟩ := HI.out.hi.at_ hmq
          subst em
          obtain ⟨b4, off4, rfl, z4⟩ := HI.out.opn.at_ ho
          have HEX := hide (show RawR W0 (.agg #[.bool xs, .slice xA xn xc, .bool xs', .slice xA' xn' xc']) xq m from xE); have HEL := hide (show RawR W0 (.agg #[.bool ls, .slice lA ln lc, .bool ls', .slice lA' ln' lc']) lq k from lE); have HEM := hide (show RawR W0 (.agg #[.bool ms, .slice mA mn mc, .bool ms', .slice mA' mn' mc']) mq k from mE)
          have hj2 : j < n3 := by have := L3.out; have := HP.out.lo; have := HXC.out; have := HNX.out; omega
          have hj3 : j < n4 := by have := L4.out; have := HP.out.hi; have := HXC.out; have := HNX.out; omega
          have hj4 : j < n5 := by have := L5.out; have := HP.out.opn; have := HXC.out; have := HNX.out; omega
          have hjc : j < P.cost.length := by have := HXC.out; have := HNX.out; omega
          have t2 := R0.out.cell (i := 2) rfl; have t3 := R0.out.cell (i := 3) rfl; have t4 := R0.out.cell (i := 4) rfl
          obtain ⟨zz1, hz1⟩ : ∃ z, cmpQ xq lq = z := ⟨_, rfl⟩
          obtain ⟨zz2, hz2⟩ : ∃ z, cmpQ xq mq = z := ⟨_, rfl⟩
          have HZ1 := hide hz1; have HZ2 := hide hz2; have HIB := hide hib
          clear hxq hlq hmq ho xE lE mE hib hz1 hz2
          go_upto_region 6 with fail
          clear d0 d1 d2 d3 d4
          by_cases g1 : zz1 < 0
          · have u1 : decide (zz1 < 0) = true := decide_eq_true g1
            have HFF : Hid (ub = false) := hide (by
              rw [← HUB.out]; refine ful_bad1 hjc ?_
              rw [HIB.out]
              have : ¬ lq ≤ xq := by have := (cmpQ_lt0 xq lq).1 (by rw [HZ1.out]; exact g1); grind
              rw [decide_eq_false this]; rfl)
            clear g1
            have HT1 : Hid (∀ w', Later wr w' → w'.cell? ⟨b1, off1 + j * 4, none⟩ = some (.bool xs) ∧ w'.cell? ⟨b1, off1 + j * 4 + 1, none⟩ = some (.slice xA xn xc) ∧ w'.cell? ⟨b1, off1 + j * 4 + 2, none⟩ = some (.bool xs') ∧ w'.cell? ⟨b1, off1 + j * 4 + 3, none⟩ = some (.slice xA' xn' xc') ∧ w'.cell? ⟨w.heap.size, 2, none⟩ = some (.slice (some ⟨b2, off2, none⟩) n3 c3) ∧ w'.cell? ⟨b2, off2 + j * 4, none⟩ = some (.bool ls) ∧ w'.cell? ⟨b2, off2 + j * 4 + 1, none⟩ = some (.slice lA ln lc) ∧ w'.cell? ⟨b2, off2 + j * 4 + 2, none⟩ = some (.bool ls') ∧ w'.cell? ⟨b2, off2 + j * 4 + 3, none⟩ = some (.slice lA' ln' lc')) := hide fun w' hb => ⟨Later.cell (HLx.out.trans hb) x1, Later.cell (HLx.out.trans hb) x2, Later.cell (HLx.out.trans hb) x3, Later.cell (HLx.out.trans hb) x4, Later.cell (HLx.out.trans hb) t2, Later.cell (HLx.out.trans hb) l1, Later.cell (HLx.out.trans hb) l2, Later.cell (HLx.out.trans hb) l3, Later.cell (HLx.out.trans hb) l4⟩
            have hmx : Tryz.prog.follows .mixedOrders = true := by kernel_rfl
            refine wp_region_N (fun w' => w'.cell? ⟨b1, off1 + j * 4, none⟩ = some (.bool xs) ∧ w'.cell? ⟨b1, off1 + j * 4 + 1, none⟩ = some (.slice xA xn xc) ∧ w'.cell? ⟨b1, off1 + j * 4 + 2, none⟩ = some (.bool xs') ∧ w'.cell? ⟨b1, off1 + j * 4 + 3, none⟩ = some (.slice xA' xn' xc') ∧ w'.cell? ⟨w.heap.size, 2, none⟩ = some (.slice (some ⟨b2, off2, none⟩) n3 c3) ∧ w'.cell? ⟨b2, off2 + j * 4, none⟩ = some (.bool ls) ∧ w'.cell? ⟨b2, off2 + j * 4 + 1, none⟩ = some (.slice lA ln lc) ∧ w'.cell? ⟨b2, off2 + j * 4 + 2, none⟩ = some (.bool ls') ∧ w'.cell? ⟨b2, off2 + j * 4 + 3, none⟩ = some (.slice lA' ln' lc')) [] hmx (HT1.out _ lt_) (fun hHeld => ?_)
            refine tkB 27 0 ?_
            refine tkB 28 1 ?_
            refine tkB 29 2 ?_
            refine tkB 30 3 ?_
            refine tkB 31 4 ?_
            refine tkB 32 5 ?_
            refine tkB 33 6 ?_
            refine tkB 34 7 ?_
            refine tkB 35 8 ?_
            refine wpAnyN_ready (rs := [9]) (by kernel_rfl) (by simp) ?_
            refine AllReadyN.held rfl (by rfl) (fun K hK => ?_) AllReadyN.nil
            go_simp
            refine (qcmp_calls _ _ _ xq lq m k (RawR.later HEX.out (HLx.out.trans lt_)) (RawR.later HEL.out (HLx.out.trans lt_)) (by omega)).mono ?_
            rintro e w70 ⟨rfl, b70⟩
            rw [HZ1.out]
            have l70 : Later wr w70 := Later.trans lt_ b70
            refine hK.out _ _ ?_ (fun hHeld => ?_)
            · exact HT1.out _ lt_
            clear hK K
            try simp only [Act.put, List.setIfInBounds_toArray, List.set_cons_zero, List.set_cons_succ]
            refine tkB 37 10 ?_
            refine tkB 38 11 ?_
            refine tkU 39 12 ?_
            try simp only [Act.put, List.setIfInBounds_toArray, List.set_cons_zero, List.set_cons_succ]
            refine tkU 40 13 ?_
            try simp only [Act.put, List.setIfInBounds_toArray, List.set_cons_zero, List.set_cons_succ]
            refine tkU 41 14 ?_
            try simp only [Act.put, List.setIfInBounds_toArray, List.set_cons_zero, List.set_cons_succ]
            refine tkU 42 15 ?_
            try simp only [Act.put, List.setIfInBounds_toArray, List.set_cons_zero, List.set_cons_succ]
            refine tkU 43 16 ?_
            try simp only [Act.put, List.setIfInBounds_toArray, List.set_cons_zero, List.set_cons_succ]
            refine tkU 44 17 ?_
            try simp only [Act.put, List.setIfInBounds_toArray, List.set_cons_zero, List.set_cons_succ]
            refine tkU 45 18 ?_
            try simp only [Act.put, List.setIfInBounds_toArray, List.set_cons_zero, List.set_cons_succ]
            refine tkU 46 19 ?_
            try simp only [Act.put, List.setIfInBounds_toArray, List.set_cons_zero, List.set_cons_succ]
            refine tkU 47 20 ?_
            try simp only [Act.put, List.setIfInBounds_toArray, List.set_cons_zero, List.set_cons_succ]
            refine tkU 48 21 ?_
            try simp only [Act.put, List.setIfInBounds_toArray, List.set_cons_zero, List.set_cons_succ]
            refine tkU 49 22 ?_
            try simp only [Act.put, List.setIfInBounds_toArray, List.set_cons_zero, List.set_cons_succ]
            refine tkU 50 23 ?_
            try simp only [Act.put, List.setIfInBounds_toArray, List.set_cons_zero, List.set_cons_succ]
            refine tkU 51 24 ?_
            try simp only [Act.put, List.setIfInBounds_toArray, List.set_cons_zero, List.set_cons_succ]
            refine tkU 52 25 ?_
            try simp only [Act.put, List.setIfInBounds_toArray, List.set_cons_zero, List.set_cons_succ]
            refine tkU 53 26 ?_
            try simp only [Act.put, List.setIfInBounds_toArray, List.set_cons_zero, List.set_cons_succ]
            refine tkU 54 27 ?_
            try simp only [Act.put, List.setIfInBounds_toArray, List.set_cons_zero, List.set_cons_succ]
            refine tkU 55 28 ?_
            try simp only [Act.put, List.setIfInBounds_toArray, List.set_cons_zero, List.set_cons_succ]
            refine tkU 56 29 ?_
            try simp only [Act.put, List.setIfInBounds_toArray, List.set_cons_zero, List.set_cons_succ]
            refine tkU 57 30 ?_
            try simp only [Act.put, List.setIfInBounds_toArray, List.set_cons_zero, List.set_cons_succ]
            refine tkB 58 31 ?_
            refine wpAnyN_done (by kernel_rfl) ?_ _
            clear hHeld
            have HLE := hide (HLx.out.trans l70)
            go_wp2_with fail
            go_ret
            exact ⟨by rw [HFF.out]; rfl, B0.out.trans HLE.out⟩
          · have u1 : decide (zz1 < 0) = false := decide_eq_false g1
            have HLX : Hid (decide (lq ≤ xq) = true) := hide (decide_eq_true (by
              have : ¬ xq < lq := fun h => g1 (by rw [← HZ1.out]; exact (cmpQ_lt0 xq lq).2 h)
              grind))
            clear g1
            cases o with
            | true =>
              have HIJ : Hid (inB P x j = true) := hide (by rw [HIB.out, HLX.out]; rfl)
              have HT1 : Hid (∀ w', Later wr w' → w'.cell? ⟨b1, off1 + j * 4, none⟩ = some (.bool xs) ∧ w'.cell? ⟨b1, off1 + j * 4 + 1, none⟩ = some (.slice xA xn xc) ∧ w'.cell? ⟨b1, off1 + j * 4 + 2, none⟩ = some (.bool xs') ∧ w'.cell? ⟨b1, off1 + j * 4 + 3, none⟩ = some (.slice xA' xn' xc') ∧ w'.cell? ⟨w.heap.size, 2, none⟩ = some (.slice (some ⟨b2, off2, none⟩) n3 c3) ∧ w'.cell? ⟨b2, off2 + j * 4, none⟩ = some (.bool ls) ∧ w'.cell? ⟨b2, off2 + j * 4 + 1, none⟩ = some (.slice lA ln lc) ∧ w'.cell? ⟨b2, off2 + j * 4 + 2, none⟩ = some (.bool ls') ∧ w'.cell? ⟨b2, off2 + j * 4 + 3, none⟩ = some (.slice lA' ln' lc') ∧ w'.cell? ⟨w.heap.size, 4, none⟩ = some (.slice (some ⟨b4, off4, none⟩) n5 c5) ∧ w'.cell? ⟨b4, off4 + j, none⟩ = some (.bool true)) := hide fun w' hb => ⟨Later.cell (HLx.out.trans hb) x1, Later.cell (HLx.out.trans hb) x2, Later.cell (HLx.out.trans hb) x3, Later.cell (HLx.out.trans hb) x4, Later.cell (HLx.out.trans hb) t2, Later.cell (HLx.out.trans hb) l1, Later.cell (HLx.out.trans hb) l2, Later.cell (HLx.out.trans hb) l3, Later.cell (HLx.out.trans hb) l4, Later.cell (HLx.out.trans hb) t4, Later.cell (HLx.out.trans hb) z4⟩
              have hmx : Tryz.prog.follows .mixedOrders = true := by kernel_rfl
              refine wp_region_N (fun w' => w'.cell? ⟨b1, off1 + j * 4, none⟩ = some (.bool xs) ∧ w'.cell? ⟨b1, off1 + j * 4 + 1, none⟩ = some (.slice xA xn xc) ∧ w'.cell? ⟨b1, off1 + j * 4 + 2, none⟩ = some (.bool xs') ∧ w'.cell? ⟨b1, off1 + j * 4 + 3, none⟩ = some (.slice xA' xn' xc') ∧ w'.cell? ⟨w.heap.size, 2, none⟩ = some (.slice (some ⟨b2, off2, none⟩) n3 c3) ∧ w'.cell? ⟨b2, off2 + j * 4, none⟩ = some (.bool ls) ∧ w'.cell? ⟨b2, off2 + j * 4 + 1, none⟩ = some (.slice lA ln lc) ∧ w'.cell? ⟨b2, off2 + j * 4 + 2, none⟩ = some (.bool ls') ∧ w'.cell? ⟨b2, off2 + j * 4 + 3, none⟩ = some (.slice lA' ln' lc') ∧ w'.cell? ⟨w.heap.size, 4, none⟩ = some (.slice (some ⟨b4, off4, none⟩) n5 c5) ∧ w'.cell? ⟨b4, off4 + j, none⟩ = some (.bool true)) [] hmx (HT1.out _ lt_) (fun hHeld => ?_)
              refine tkB 27 0 ?_
              refine tkB 28 1 ?_
              refine tkB 29 2 ?_
              refine tkB 30 3 ?_
              refine tkB 31 4 ?_
              refine tkB 32 5 ?_
              refine tkB 33 6 ?_
              refine tkB 34 7 ?_
              refine tkB 35 8 ?_
              refine wpAnyN_ready (rs := [9]) (by kernel_rfl) (by simp) ?_
              refine AllReadyN.held rfl (by rfl) (fun K hK => ?_) AllReadyN.nil
              go_simp
              refine (qcmp_calls _ _ _ xq lq m k (RawR.later HEX.out (HLx.out.trans lt_)) (RawR.later HEL.out (HLx.out.trans lt_)) (by omega)).mono ?_
              rintro e w70 ⟨rfl, b70⟩
              rw [HZ1.out]
              have l70 : Later wr w70 := Later.trans lt_ b70
              refine hK.out _ _ ?_ (fun hHeld => ?_)
              · exact HT1.out _ lt_
              clear hK K
              try simp only [Act.put, List.setIfInBounds_toArray, List.set_cons_zero, List.set_cons_succ]
              refine tkB 37 10 ?_
              refine tkB 38 11 ?_
              refine tkB 39 12 ?_
              refine tkB 40 13 ?_
              refine tkB 41 14 ?_
              refine tkB 42 15 ?_
              refine tkB 43 16 ?_
              refine tkB 44 17 ?_
              refine tkB 45 18 ?_
              refine tkU 46 19 ?_
              try simp only [Act.put, List.setIfInBounds_toArray, List.set_cons_zero, List.set_cons_succ]
              refine tkU 47 20 ?_
              try simp only [Act.put, List.setIfInBounds_toArray, List.set_cons_zero, List.set_cons_succ]
              refine tkU 48 21 ?_
              try simp only [Act.put, List.setIfInBounds_toArray, List.set_cons_zero, List.set_cons_succ]
              refine tkU 49 22 ?_
              try simp only [Act.put, List.setIfInBounds_toArray, List.set_cons_zero, List.set_cons_succ]
              refine tkU 50 23 ?_
              try simp only [Act.put, List.setIfInBounds_toArray, List.set_cons_zero, List.set_cons_succ]
              refine tkU 51 24 ?_
              try simp only [Act.put, List.setIfInBounds_toArray, List.set_cons_zero, List.set_cons_succ]
              refine tkU 52 25 ?_
              try simp only [Act.put, List.setIfInBounds_toArray, List.set_cons_zero, List.set_cons_succ]
              refine tkU 53 26 ?_
              try simp only [Act.put, List.setIfInBounds_toArray, List.set_cons_zero, List.set_cons_succ]
              refine tkU 54 27 ?_
              try simp only [Act.put, List.setIfInBounds_toArray, List.set_cons_zero, List.set_cons_succ]
              refine tkU 55 28 ?_
              try simp only [Act.put, List.setIfInBounds_toArray, List.set_cons_zero, List.set_cons_succ]
              refine tkU 56 29 ?_
              try simp only [Act.put, List.setIfInBounds_toArray, List.set_cons_zero, List.set_cons_succ]
              refine tkB 57 30 ?_
              refine tkB 58 31 ?_
              refine wpAnyN_done (by kernel_rfl) ?_ _
              clear hHeld
              have HNE : Hid (∀ i, i < j + 1 → inB P x i = true) := hide (fun i hi => by
                by_cases hij : i < j
                · exact HIN.out i hij
                · have e : i = j := by omega
                  rw [e]; exact HIJ.out)
              have HLE := hide (HLx.out.trans l70)
              go_wp2_with fail
              exact ⟨⟨j+1, by omega, by go_num, HNE, HLE.out⟩, by simp [intOf]; omega⟩
            | false =>
              by_cases g2 : 0 < zz2
              · have u2 : decide (0 < zz2) = true := decide_eq_true g2
                have HFF : Hid (ub = false) := hide (by
                  rw [← HUB.out]; refine ful_bad1 hjc ?_
                  rw [HIB.out, HLX.out]
                  have : ¬ xq ≤ mq := by have := (cmpQ_gt0 xq mq).1 (by rw [HZ2.out]; exact g2); grind
                  rw [decide_eq_false this]; rfl)
                clear g2
                have HT1 : Hid (∀ w', Later wr w' → w'.cell? ⟨b1, off1 + j * 4, none⟩ = some (.bool xs) ∧ w'.cell? ⟨b1, off1 + j * 4 + 1, none⟩ = some (.slice xA xn xc) ∧ w'.cell? ⟨b1, off1 + j * 4 + 2, none⟩ = some (.bool xs') ∧ w'.cell? ⟨b1, off1 + j * 4 + 3, none⟩ = some (.slice xA' xn' xc') ∧ w'.cell? ⟨w.heap.size, 2, none⟩ = some (.slice (some ⟨b2, off2, none⟩) n3 c3) ∧ w'.cell? ⟨b2, off2 + j * 4, none⟩ = some (.bool ls) ∧ w'.cell? ⟨b2, off2 + j * 4 + 1, none⟩ = some (.slice lA ln lc) ∧ w'.cell? ⟨b2, off2 + j * 4 + 2, none⟩ = some (.bool ls') ∧ w'.cell? ⟨b2, off2 + j * 4 + 3, none⟩ = some (.slice lA' ln' lc') ∧ w'.cell? ⟨w.heap.size, 4, none⟩ = some (.slice (some ⟨b4, off4, none⟩) n5 c5) ∧ w'.cell? ⟨b4, off4 + j, none⟩ = some (.bool false) ∧ w'.cell? ⟨w.heap.size, 3, none⟩ = some (.slice (some ⟨b5, off5, none⟩) n4 c4) ∧ w'.cell? ⟨b5, off5 + j * 4, none⟩ = some (.bool ms) ∧ w'.cell? ⟨b5, off5 + j * 4 + 1, none⟩ = some (.slice mA mn mc) ∧ w'.cell? ⟨b5, off5 + j * 4 + 2, none⟩ = some (.bool ms') ∧ w'.cell? ⟨b5, off5 + j * 4 + 3, none⟩ = some (.slice mA' mn' mc')) := hide fun w' hb => ⟨Later.cell (HLx.out.trans hb) x1, Later.cell (HLx.out.trans hb) x2, Later.cell (HLx.out.trans hb) x3, Later.cell (HLx.out.trans hb) x4, Later.cell (HLx.out.trans hb) t2, Later.cell (HLx.out.trans hb) l1, Later.cell (HLx.out.trans hb) l2, Later.cell (HLx.out.trans hb) l3, Later.cell (HLx.out.trans hb) l4, Later.cell (HLx.out.trans hb) t4, Later.cell (HLx.out.trans hb) z4, Later.cell (HLx.out.trans hb) t3, Later.cell (HLx.out.trans hb) m1, Later.cell (HLx.out.trans hb) m2, Later.cell (HLx.out.trans hb) m3, Later.cell (HLx.out.trans hb) m4⟩
                have hmx : Tryz.prog.follows .mixedOrders = true := by kernel_rfl
                refine wp_region_N (fun w' => w'.cell? ⟨b1, off1 + j * 4, none⟩ = some (.bool xs) ∧ w'.cell? ⟨b1, off1 + j * 4 + 1, none⟩ = some (.slice xA xn xc) ∧ w'.cell? ⟨b1, off1 + j * 4 + 2, none⟩ = some (.bool xs') ∧ w'.cell? ⟨b1, off1 + j * 4 + 3, none⟩ = some (.slice xA' xn' xc') ∧ w'.cell? ⟨w.heap.size, 2, none⟩ = some (.slice (some ⟨b2, off2, none⟩) n3 c3) ∧ w'.cell? ⟨b2, off2 + j * 4, none⟩ = some (.bool ls) ∧ w'.cell? ⟨b2, off2 + j * 4 + 1, none⟩ = some (.slice lA ln lc) ∧ w'.cell? ⟨b2, off2 + j * 4 + 2, none⟩ = some (.bool ls') ∧ w'.cell? ⟨b2, off2 + j * 4 + 3, none⟩ = some (.slice lA' ln' lc') ∧ w'.cell? ⟨w.heap.size, 4, none⟩ = some (.slice (some ⟨b4, off4, none⟩) n5 c5) ∧ w'.cell? ⟨b4, off4 + j, none⟩ = some (.bool false) ∧ w'.cell? ⟨w.heap.size, 3, none⟩ = some (.slice (some ⟨b5, off5, none⟩) n4 c4) ∧ w'.cell? ⟨b5, off5 + j * 4, none⟩ = some (.bool ms) ∧ w'.cell? ⟨b5, off5 + j * 4 + 1, none⟩ = some (.slice mA mn mc) ∧ w'.cell? ⟨b5, off5 + j * 4 + 2, none⟩ = some (.bool ms') ∧ w'.cell? ⟨b5, off5 + j * 4 + 3, none⟩ = some (.slice mA' mn' mc')) [] hmx (HT1.out _ lt_) (fun hHeld => ?_)
                refine tkB 27 0 ?_
                refine tkB 28 1 ?_
                refine tkB 29 2 ?_
                refine tkB 30 3 ?_
                refine tkB 31 4 ?_
                refine tkB 32 5 ?_
                refine tkB 33 6 ?_
                refine tkB 34 7 ?_
                refine tkB 35 8 ?_
                refine wpAnyN_ready (rs := [9]) (by kernel_rfl) (by simp) ?_
                refine AllReadyN.held rfl (by rfl) (fun K hK => ?_) AllReadyN.nil
                go_simp
                refine (qcmp_calls _ _ _ xq lq m k (RawR.later HEX.out (HLx.out.trans lt_)) (RawR.later HEL.out (HLx.out.trans lt_)) (by omega)).mono ?_
                rintro e w70 ⟨rfl, b70⟩
                rw [HZ1.out]
                have l70 : Later wr w70 := Later.trans lt_ b70
                refine hK.out _ _ ?_ (fun hHeld => ?_)
                · exact HT1.out _ lt_
                clear hK K
                try simp only [Act.put, List.setIfInBounds_toArray, List.set_cons_zero, List.set_cons_succ]
                refine tkB 37 10 ?_
                refine tkB 38 11 ?_
                refine tkB 39 12 ?_
                refine tkB 40 13 ?_
                refine tkB 41 14 ?_
                refine tkB 42 15 ?_
                refine tkB 43 16 ?_
                refine tkB 44 17 ?_
                refine tkB 45 18 ?_
                refine tkB 46 19 ?_
                refine tkB 47 20 ?_
                refine tkB 48 21 ?_
                refine tkB 49 22 ?_
                refine tkB 50 23 ?_
                refine tkB 51 24 ?_
                refine tkB 52 25 ?_
                refine tkB 53 26 ?_
                refine tkB 54 27 ?_
                refine wpAnyN_ready (rs := [28]) (by kernel_rfl) (by simp) ?_
                refine AllReadyN.held rfl (by rfl) (fun K hK => ?_) AllReadyN.nil
                go_simp
                refine (qcmp_calls _ _ _ xq mq m k (RawR.later HEX.out (HLx.out.trans lt_)) (RawR.later HEM.out (HLx.out.trans lt_)) (by omega)).mono ?_
                rintro e w71 ⟨rfl, b71⟩
                rw [HZ2.out]
                have l71 : Later wr w71 := Later.trans lt_ b71
                refine hK.out _ _ ?_ (fun hHeld => ?_)
                · exact HT1.out _ lt_
                clear hK K
                try simp only [Act.put, List.setIfInBounds_toArray, List.set_cons_zero, List.set_cons_succ]
                refine tkB 56 29 ?_
                refine tkB 57 30 ?_
                refine tkB 58 31 ?_
                refine wpAnyN_done (by kernel_rfl) ?_ _
                clear hHeld
                have HLE := hide (HLx.out.trans l71)
                go_wp2_with fail
                go_ret
                exact ⟨by rw [HFF.out]; rfl, B0.out.trans HLE.out⟩
              · have u2 : decide (0 < zz2) = false := decide_eq_false g2
                have HIJ : Hid (inB P x j = true) := hide (by
                  have : ¬ mq < xq := fun h => g2 (by rw [← HZ2.out]; exact (cmpQ_gt0 xq mq).2 h)
                  rw [HIB.out, HLX.out, decide_eq_true (show xq ≤ mq by grind)]; rfl)
                clear g2
                have HT1 : Hid (∀ w', Later wr w' → w'.cell? ⟨b1, off1 + j * 4, none⟩ = some (.bool xs) ∧ w'.cell? ⟨b1, off1 + j * 4 + 1, none⟩ = some (.slice xA xn xc) ∧ w'.cell? ⟨b1, off1 + j * 4 + 2, none⟩ = some (.bool xs') ∧ w'.cell? ⟨b1, off1 + j * 4 + 3, none⟩ = some (.slice xA' xn' xc') ∧ w'.cell? ⟨w.heap.size, 2, none⟩ = some (.slice (some ⟨b2, off2, none⟩) n3 c3) ∧ w'.cell? ⟨b2, off2 + j * 4, none⟩ = some (.bool ls) ∧ w'.cell? ⟨b2, off2 + j * 4 + 1, none⟩ = some (.slice lA ln lc) ∧ w'.cell? ⟨b2, off2 + j * 4 + 2, none⟩ = some (.bool ls') ∧ w'.cell? ⟨b2, off2 + j * 4 + 3, none⟩ = some (.slice lA' ln' lc') ∧ w'.cell? ⟨w.heap.size, 4, none⟩ = some (.slice (some ⟨b4, off4, none⟩) n5 c5) ∧ w'.cell? ⟨b4, off4 + j, none⟩ = some (.bool false) ∧ w'.cell? ⟨w.heap.size, 3, none⟩ = some (.slice (some ⟨b5, off5, none⟩) n4 c4) ∧ w'.cell? ⟨b5, off5 + j * 4, none⟩ = some (.bool ms) ∧ w'.cell? ⟨b5, off5 + j * 4 + 1, none⟩ = some (.slice mA mn mc) ∧ w'.cell? ⟨b5, off5 + j * 4 + 2, none⟩ = some (.bool ms') ∧ w'.cell? ⟨b5, off5 + j * 4 + 3, none⟩ = some (.slice mA' mn' mc')) := hide fun w' hb => ⟨Later.cell (HLx.out.trans hb) x1, Later.cell (HLx.out.trans hb) x2, Later.cell (HLx.out.trans hb) x3, Later.cell (HLx.out.trans hb) x4, Later.cell (HLx.out.trans hb) t2, Later.cell (HLx.out.trans hb) l1, Later.cell (HLx.out.trans hb) l2, Later.cell (HLx.out.trans hb) l3, Later.cell (HLx.out.trans hb) l4, Later.cell (HLx.out.trans hb) t4, Later.cell (HLx.out.trans hb) z4, Later.cell (HLx.out.trans hb) t3, Later.cell (HLx.out.trans hb) m1, Later.cell (HLx.out.trans hb) m2, Later.cell (HLx.out.trans hb) m3, Later.cell (HLx.out.trans hb) m4⟩
                have hmx : Tryz.prog.follows .mixedOrders = true := by kernel_rfl
                refine wp_region_N (fun w' => w'.cell? ⟨b1, off1 + j * 4, none⟩ = some (.bool xs) ∧ w'.cell? ⟨b1, off1 + j * 4 + 1, none⟩ = some (.slice xA xn xc) ∧ w'.cell? ⟨b1, off1 + j * 4 + 2, none⟩ = some (.bool xs') ∧ w'.cell? ⟨b1, off1 + j * 4 + 3, none⟩ = some (.slice xA' xn' xc') ∧ w'.cell? ⟨w.heap.size, 2, none⟩ = some (.slice (some ⟨b2, off2, none⟩) n3 c3) ∧ w'.cell? ⟨b2, off2 + j * 4, none⟩ = some (.bool ls) ∧ w'.cell? ⟨b2, off2 + j * 4 + 1, none⟩ = some (.slice lA ln lc) ∧ w'.cell? ⟨b2, off2 + j * 4 + 2, none⟩ = some (.bool ls') ∧ w'.cell? ⟨b2, off2 + j * 4 + 3, none⟩ = some (.slice lA' ln' lc') ∧ w'.cell? ⟨w.heap.size, 4, none⟩ = some (.slice (some ⟨b4, off4, none⟩) n5 c5) ∧ w'.cell? ⟨b4, off4 + j, none⟩ = some (.bool false) ∧ w'.cell? ⟨w.heap.size, 3, none⟩ = some (.slice (some ⟨b5, off5, none⟩) n4 c4) ∧ w'.cell? ⟨b5, off5 + j * 4, none⟩ = some (.bool ms) ∧ w'.cell? ⟨b5, off5 + j * 4 + 1, none⟩ = some (.slice mA mn mc) ∧ w'.cell? ⟨b5, off5 + j * 4 + 2, none⟩ = some (.bool ms') ∧ w'.cell? ⟨b5, off5 + j * 4 + 3, none⟩ = some (.slice mA' mn' mc')) [] hmx (HT1.out _ lt_) (fun hHeld => ?_)
                refine tkB 27 0 ?_
                refine tkB 28 1 ?_
                refine tkB 29 2 ?_
                refine tkB 30 3 ?_
                refine tkB 31 4 ?_
                refine tkB 32 5 ?_
                refine tkB 33 6 ?_
                refine tkB 34 7 ?_
                refine tkB 35 8 ?_
                refine wpAnyN_ready (rs := [9]) (by kernel_rfl) (by simp) ?_
                refine AllReadyN.held rfl (by rfl) (fun K hK => ?_) AllReadyN.nil
                go_simp
                refine (qcmp_calls _ _ _ xq lq m k (RawR.later HEX.out (HLx.out.trans lt_)) (RawR.later HEL.out (HLx.out.trans lt_)) (by omega)).mono ?_
                rintro e w70 ⟨rfl, b70⟩
                rw [HZ1.out]
                have l70 : Later wr w70 := Later.trans lt_ b70
                refine hK.out _ _ ?_ (fun hHeld => ?_)
                · exact HT1.out _ lt_
                clear hK K
                try simp only [Act.put, List.setIfInBounds_toArray, List.set_cons_zero, List.set_cons_succ]
                refine tkB 37 10 ?_
                refine tkB 38 11 ?_
                refine tkB 39 12 ?_
                refine tkB 40 13 ?_
                refine tkB 41 14 ?_
                refine tkB 42 15 ?_
                refine tkB 43 16 ?_
                refine tkB 44 17 ?_
                refine tkB 45 18 ?_
                refine tkB 46 19 ?_
                refine tkB 47 20 ?_
                refine tkB 48 21 ?_
                refine tkB 49 22 ?_
                refine tkB 50 23 ?_
                refine tkB 51 24 ?_
                refine tkB 52 25 ?_
                refine tkB 53 26 ?_
                refine tkB 54 27 ?_
                refine wpAnyN_ready (rs := [28]) (by kernel_rfl) (by simp) ?_
                refine AllReadyN.held rfl (by rfl) (fun K hK => ?_) AllReadyN.nil
                go_simp
                refine (qcmp_calls _ _ _ xq mq m k (RawR.later HEX.out (HLx.out.trans lt_)) (RawR.later HEM.out (HLx.out.trans lt_)) (by omega)).mono ?_
                rintro e w71 ⟨rfl, b71⟩
                rw [HZ2.out]
                have l71 : Later wr w71 := Later.trans lt_ b71
                refine hK.out _ _ ?_ (fun hHeld => ?_)
                · exact HT1.out _ lt_
                clear hK K
                try simp only [Act.put, List.setIfInBounds_toArray, List.set_cons_zero, List.set_cons_succ]
                refine tkB 56 29 ?_
                refine tkB 57 30 ?_
                refine tkB 58 31 ?_
                refine wpAnyN_done (by kernel_rfl) ?_ _
                clear hHeld
                have HNE : Hid (∀ i, i < j + 1 → inB P x i = true) := hide (fun i hi => by
                  by_cases hij : i < j
                  · exact HIN.out i hij
                  · have e : i = j := by omega
                    rw [e]; exact HIJ.out)
                have HLE := hide (HLx.out.trans l71)
                go_wp2_with fail
                exact ⟨⟨j+1, by omega, by go_num, HNE, HLE.out⟩, by simp [intOf]; omega⟩
        · have hj1 : ¬ (j : Int) < nx := by omega
          have HIN1 : Hid (∀ j, j < P.cost.length → inB P x j = true) := hide (fun i hi => HIN.out i (by have := HXC.out; have := HNX.out; omega))
          have HLx1 := HLx
          clear HLx HIN
          go_wp2_with fail
          clear d0 d1 d2 d3 d4
          go_loopw [6] (fun i wr => ∃ j : Nat, j ≤ n2 ∧ i = .int .i64 (j : Int) ∧ Hid (∀ r, r ∈ P.rows.take j → rowHolds r x = true) ∧ Later W0 wr) (fun i _ => (n2 - intOf i).toNat)
          case atStart => exact ⟨0, by omega, rfl, hide (fun r hr => by cases hr), HLx1.out⟩
          case round =>
            obtain ⟨j, hj, rfl, HIN, hLx⟩ := hrel
            have HLx := hide hLx
            clear hLx
            have r_d := R0.out.later HLx.out
            have d0 := r_d.cell (i := 0) rfl; have d1 := r_d.cell (i := 1) rfl; have d2 := r_d.cell (i := 2) rfl; have d3 := r_d.cell (i := 3) rfl; have d4 := r_d.cell (i := 4) rfl
            clear r_d
            by_cases hjn : j < n2
            · have hj0 : (0 : Int) ≤ (j : Int) := by omega
              have hj1 : (j : Int) < n2 := by omega
              obtain ⟨r, hr⟩ : ∃ r, P.rows[j]? = some r := ⟨P.rows[j]'(by have := L2.out; omega), List.getElem?_eq_getElem _⟩
              obtain ⟨b3, off3, rfl, rc, z0, z1, z2, z3, z4, z5, hE⟩ := HI.out.rows.at6 hr
              have hrm := HP.out.rows r (List.mem_of_getElem? hr)
              have HE := hide hE; have HRM := hide hrm; have HRMEM := hide (List.mem_of_getElem? hr)
              have HTK : Hid (P.rows.take (j+1) = P.rows.take j ++ [r]) := hide (by rw [List.take_add_one, hr]; rfl)
              have HERW : Hid (RawR W0 (.agg #[.bool rc.e.a, .slice rc.e.A rc.e.n rc.e.c, .bool rc.e.a', .slice rc.e.A' rc.e.n' rc.e.c']) r.rhs k) := hide hE.rhs
              have HS3 : Hid (r.sense = 0 ∨ r.sense = 1 ∨ r.sense = 2) := hide (by have := hrm.2.1; omega)
              have hmul : r.coef.length * (k + 1 + (m + 1) + 1) ≤ 24 * 2003 := Nat.mul_le_mul (by rw [hrm.1]; exact HP.out.n24) (by omega)
              have hsd : Sized (dotL r.coef x) 3000000 := (sized_dotL (Rats.sized hE.coef) (Rats.sized HX.out)).mono (by omega)
              have HSD := hide hsd
              have HMUL : Hid ((r.coef.length + 1) * (k + m + 4) ≤ 20000000) := hide (by have := Nat.mul_le_mul (show r.coef.length + 1 ≤ 25 by rw [hrm.1]; have := HP.out.n24; omega) (show k + m + 4 ≤ 2004 by omega); omega)
              have p1 := Later.cell HLx.out (R0.out.cell (i := 1) rfl); have y0 := Later.cell HLx.out z0
              obtain ⟨zz, hz⟩ : ∃ z, cmpQ (dotL r.coef x) r.rhs = z := ⟨_, rfl⟩
              have HZ := hide hz
              have HDZ : Hid ((0 < zz ↔ r.rhs < dotL r.coef x) ∧ (zz < 0 ↔ dotL r.coef x < r.rhs)) := hide (by rw [← hz]; exact ⟨cmpQ_gt0 _ _, cmpQ_lt0 _ _⟩)
              clear hr hE hrm hsd hz hmul
              go_wp2_with fail
              refine (qdot_calls _ _ _ r.coef x k m (HE.out.coef.later ERaw.later HLx.out) (HX.out.later ERaw.later HLx.out) (by rw [HRM.out.1, HXC.out]) HMUL.out).mono ?_
              rintro e w60 ⟨v60, ok60, rfl, ⟨o60, rfl⟩, b60⟩
              obtain ⟨s60, P60, q60, e60, P60', q60', e60', rfl, o60⟩ := o60.open_; have O60 := hide o60; clear o60
              go_upto_region 12 with fail
              obtain ⟨wd, hwd⟩ : ∃ wd, wd = w60.alloc (Obj.cells #[Value.bool s60, Value.slice P60 q60 e60, Value.bool false, Value.slice P60' q60' e60'] 36) := ⟨_, rfl⟩
              obtain ⟨gd, hgd⟩ : ∃ gd, gd = w60.heap.size := ⟨_, rfl⟩
              have bwd : Later w60 wd := by rw [hwd]; exact (Later.refl _).alloc _
              have rgd : Row wd gd 36 [.bool s60, .slice P60 q60 e60, .bool false, .slice P60' q60' e60'] := by rw [hwd, hgd]; exact Row.new _ _ _
              rw [← hwd, ← hgd]
              have HL0 := hide (HLx.out.trans (b60.trans bwd)); have OD := hide (OwnR.later O60.out bwd); have RD := hide rgd
              clear hwd hgd bwd b60 O60 rgd d0 d1 d2 d3 d4 p1 y0
              have t1 := R0.out.cell (i := 1) rfl
              have HT1 : Hid (∀ w', Later wd w' → w'.cell? ⟨gd, 0, none⟩ = some (.bool s60) ∧ w'.cell? ⟨gd, 1, none⟩ = some (.slice P60 q60 e60) ∧ w'.cell? ⟨gd, 2, none⟩ = some (.bool false) ∧ w'.cell? ⟨gd, 3, none⟩ = some (.slice P60' q60' e60') ∧ w'.cell? ⟨w.heap.size, 1, none⟩ = some (.slice (some ⟨b3, off3, none⟩) n2 c2) ∧ w'.cell? ⟨b3, off3 + j * 6 + 2, none⟩ = some (.bool rc.e.a) ∧ w'.cell? ⟨b3, off3 + j * 6 + 3, none⟩ = some (.slice rc.e.A rc.e.n rc.e.c) ∧ w'.cell? ⟨b3, off3 + j * 6 + 4, none⟩ = some (.bool rc.e.a') ∧ w'.cell? ⟨b3, off3 + j * 6 + 5, none⟩ = some (.slice rc.e.A' rc.e.n' rc.e.c')) := hide fun w' hb => ⟨(RD.out.later hb).cell rfl, (RD.out.later hb).cell rfl, (RD.out.later hb).cell rfl, (RD.out.later hb).cell rfl, Later.cell (HL0.out.trans hb) t1, Later.cell (HL0.out.trans hb) z2, Later.cell (HL0.out.trans hb) z3, Later.cell (HL0.out.trans hb) z4, Later.cell (HL0.out.trans hb) z5⟩
              have hmx : Tryz.prog.follows .mixedOrders = true := by kernel_rfl
              refine wp_region_N (fun w' => w'.cell? ⟨gd, 0, none⟩ = some (.bool s60) ∧ w'.cell? ⟨gd, 1, none⟩ = some (.slice P60 q60 e60) ∧ w'.cell? ⟨gd, 2, none⟩ = some (.bool false) ∧ w'.cell? ⟨gd, 3, none⟩ = some (.slice P60' q60' e60') ∧ w'.cell? ⟨w.heap.size, 1, none⟩ = some (.slice (some ⟨b3, off3, none⟩) n2 c2) ∧ w'.cell? ⟨b3, off3 + j * 6 + 2, none⟩ = some (.bool rc.e.a) ∧ w'.cell? ⟨b3, off3 + j * 6 + 3, none⟩ = some (.slice rc.e.A rc.e.n rc.e.c) ∧ w'.cell? ⟨b3, off3 + j * 6 + 4, none⟩ = some (.bool rc.e.a') ∧ w'.cell? ⟨b3, off3 + j * 6 + 5, none⟩ = some (.slice rc.e.A' rc.e.n' rc.e.c')) [] hmx (HT1.out _ lt_) (fun hHeld => ?_)
              refine tkB 77 0 ?_
              refine tkB 78 1 ?_
              refine tkB 79 2 ?_
              refine tkB 80 3 ?_
              refine tkB 81 4 ?_
              refine tkB 82 5 ?_
              refine tkB 83 6 ?_
              refine wpAnyN_ready (rs := [7]) (by kernel_rfl) (by simp) ?_
              refine AllReadyN.held rfl (by rfl) (fun K hK => ?_) AllReadyN.nil
              go_simp
              refine (qcmp_calls _ _ _ (dotL r.coef x) r.rhs 3000000 k (OwnR.raw (OwnR.later OD.out lt_) HSD.out) (RawR.later HERW.out (HL0.out.trans lt_)) (by omega)).mono ?_
              rintro e w72 ⟨rfl, b72⟩
              rw [HZ.out]
              have l72 : Later wd w72 := Later.trans lt_ b72
              refine hK.out _ _ ?_ (fun hHeld => ?_)
              · exact HT1.out _ lt_
              clear hK K
              try simp only [Act.put, List.setIfInBounds_toArray, List.set_cons_zero, List.set_cons_succ]
              refine tkB 9 8 ?_
              refine wpAnyN_done (by kernel_rfl) ?_ _
              clear hHeld
              have HLy := hide (HL0.out.trans l72)
              have p1 := Later.cell HLy.out t1; have y1 := Later.cell HLy.out z1
              obtain ⟨ug, kg⟩ : ∃ b, decide (0 < zz) = b := ⟨_, rfl⟩
              obtain ⟨ul, kl⟩ : ∃ b, decide (zz < 0) = b := ⟨_, rfl⟩
              cases ug with
              | true =>
                cases ul with
                | true =>
                  exact absurd kl (by simp only [decide_eq_true_eq] at kg ⊢; omega)
                | false =>
                  rcases HS3.out with hs | hs | hs
                  · skip
                    have HRH : Hid (rowHolds r x = false) := hide (by
                      have h9 := HDZ.out
                      unfold rowHolds; rw [hs]
                      simp only [decide_eq_true_eq, decide_eq_false_iff_not] at kg kl
                      simp
                      grind)
                    rw [hs] at y1
                    have HFF : Hid (ub = false) := hide (by rw [← HUB.out]; exact ful_bad2 HRMEM.out HRH.out)
                    go_wp2_with fail
                    go_ret
                    exact ⟨by rw [HFF.out]; rfl, B0.out.trans HLy.out⟩
                  · skip
                    have HRH : Hid (rowHolds r x = false) := hide (by
                      have h9 := HDZ.out
                      unfold rowHolds; rw [hs]
                      simp only [decide_eq_true_eq, decide_eq_false_iff_not] at kg kl
                      simp
                      grind)
                    rw [hs] at y1
                    have HFF : Hid (ub = false) := hide (by rw [← HUB.out]; exact ful_bad2 HRMEM.out HRH.out)
                    go_wp2_with fail
                    go_ret
                    exact ⟨by rw [HFF.out]; rfl, B0.out.trans HLy.out⟩
                  · skip
                    have HRH : Hid (rowHolds r x = true) := hide (by
                      have h9 := HDZ.out
                      unfold rowHolds; rw [hs]
                      simp only [decide_eq_true_eq, decide_eq_false_iff_not] at kg kl
                      simp
                      grind)
                    rw [hs] at y1
                    have HNE : Hid (∀ r, r ∈ P.rows.take (j+1) → rowHolds r x = true) := hide (fun r' hr' => by
                      rw [HTK.out] at hr'
                      rcases List.mem_append.1 hr' with hr' | hr'
                      · exact HIN.out r' hr'
                      · rw [List.mem_singleton.1 hr']; exact HRH.out)
                    go_wp2_with fail
                    exact ⟨⟨j+1, by omega, by go_num, HNE, HLy.out⟩, by simp [intOf]; omega⟩
              | false =>
                cases ul with
                | true =>
                  rcases HS3.out with hs | hs | hs
                  · skip
                    have HRH : Hid (rowHolds r x = true) := hide (by
                      have h9 := HDZ.out
                      unfold rowHolds; rw [hs]
                      simp only [decide_eq_true_eq, decide_eq_false_iff_not] at kg kl
                      simp
                      grind)
                    rw [hs] at y1
                    have HNE : Hid (∀ r, r ∈ P.rows.take (j+1) → rowHolds r x = true) := hide (fun r' hr' => by
                      rw [HTK.out] at hr'
                      rcases List.mem_append.1 hr' with hr' | hr'
                      · exact HIN.out r' hr'
                      · rw [List.mem_singleton.1 hr']; exact HRH.out)
                    go_wp2_with fail
                    exact ⟨⟨j+1, by omega, by go_num, HNE, HLy.out⟩, by simp [intOf]; omega⟩
                  · skip
                    have HRH : Hid (rowHolds r x = false) := hide (by
                      have h9 := HDZ.out
                      unfold rowHolds; rw [hs]
                      simp only [decide_eq_true_eq, decide_eq_false_iff_not] at kg kl
                      simp
                      grind)
                    rw [hs] at y1
                    have HFF : Hid (ub = false) := hide (by rw [← HUB.out]; exact ful_bad2 HRMEM.out HRH.out)
                    go_wp2_with fail
                    go_ret
                    exact ⟨by rw [HFF.out]; rfl, B0.out.trans HLy.out⟩
                  · skip
                    have HRH : Hid (rowHolds r x = false) := hide (by
                      have h9 := HDZ.out
                      unfold rowHolds; rw [hs]
                      simp only [decide_eq_true_eq, decide_eq_false_iff_not] at kg kl
                      simp
                      grind)
                    rw [hs] at y1
                    have HFF : Hid (ub = false) := hide (by rw [← HUB.out]; exact ful_bad2 HRMEM.out HRH.out)
                    go_wp2_with fail
                    go_ret
                    exact ⟨by rw [HFF.out]; rfl, B0.out.trans HLy.out⟩
                | false =>
                  rcases HS3.out with hs | hs | hs
                  · skip
                    have HRH : Hid (rowHolds r x = true) := hide (by
                      have h9 := HDZ.out
                      unfold rowHolds; rw [hs]
                      simp only [decide_eq_true_eq, decide_eq_false_iff_not] at kg kl
                      simp
                      grind)
                    rw [hs] at y1
                    have HNE : Hid (∀ r, r ∈ P.rows.take (j+1) → rowHolds r x = true) := hide (fun r' hr' => by
                      rw [HTK.out] at hr'
                      rcases List.mem_append.1 hr' with hr' | hr'
                      · exact HIN.out r' hr'
                      · rw [List.mem_singleton.1 hr']; exact HRH.out)
                    go_wp2_with fail
                    exact ⟨⟨j+1, by omega, by go_num, HNE, HLy.out⟩, by simp [intOf]; omega⟩
                  · skip
                    have HRH : Hid (rowHolds r x = true) := hide (by
                      have h9 := HDZ.out
                      unfold rowHolds; rw [hs]
                      simp only [decide_eq_true_eq, decide_eq_false_iff_not] at kg kl
                      simp
                      grind)
                    rw [hs] at y1
                    have HNE : Hid (∀ r, r ∈ P.rows.take (j+1) → rowHolds r x = true) := hide (fun r' hr' => by
                      rw [HTK.out] at hr'
                      rcases List.mem_append.1 hr' with hr' | hr'
                      · exact HIN.out r' hr'
                      · rw [List.mem_singleton.1 hr']; exact HRH.out)
                    go_wp2_with fail
                    exact ⟨⟨j+1, by omega, by go_num, HNE, HLy.out⟩, by simp [intOf]; omega⟩
                  · skip
                    have HRH : Hid (rowHolds r x = true) := hide (by
                      have h9 := HDZ.out
                      unfold rowHolds; rw [hs]
                      simp only [decide_eq_true_eq, decide_eq_false_iff_not] at kg kl
                      simp
                      grind)
                    rw [hs] at y1
                    have HNE : Hid (∀ r, r ∈ P.rows.take (j+1) → rowHolds r x = true) := hide (fun r' hr' => by
                      rw [HTK.out] at hr'
                      rcases List.mem_append.1 hr' with hr' | hr'
                      · exact HIN.out r' hr'
                      · rw [List.mem_singleton.1 hr']; exact HRH.out)
                    go_wp2_with fail
                    exact ⟨⟨j+1, by omega, by go_num, HNE, HLy.out⟩, by simp [intOf]; omega⟩
            · have hj1 : ¬ (j : Int) < n2 := by omega
              have HFF : Hid (ub = true) := hide (by
                rw [← HUB.out]
                refine ful_good HU.out HXC.out HIN1.out fun r hr => HIN.out r ?_
                rw [List.take_of_length_le (by have := L2.out; omega)]; exact hr)
              go_wp2_with fail
              go_ret
              exact ⟨by rw [HFF.out]; rfl, B0.out.trans HLx.out⟩
end Go.Proofs.YtfokplidiboabaaGreat

/- FormBack, walk. -/
set_option linter.unusedVariables false
set_option linter.unusedSimpArgs false
set_option maxRecDepth 100000
namespace Go.Proofs.YtfokplidiboabaaGreat
open Go.RowKit Go.Shelf
attribute [local go_sem ↓] Go.wp_at_zero Go.wp_at_succ

theorem sized_lpCost {P : PLp} {x : List Rat} {k m n : Nat} (hc : ∀ q ∈ P.cost, Sized q k) (hx : ∀ q ∈ x, Sized q m) (hn : P.cost.length * (k + m + 1) + 1 ≤ n + 1) : Sized (lpCost P x) (n+1) := by
  unfold lpCost dotD
  split
  · split
    · exact (sized_dotL hc hx).mono hn
    · exact Sized.zero n
  · exact Sized.zero n
/-- what Back told, in either case -/
noncomputable def backE (P : PLp) (y : List Rat) : List Rat := if backB P y = true then backL P y else []
theorem OwnRats.nowE {w : World} {B : Nat} {v : Value} {l : List Rat} (h : OwnRats w B v l) : Rats EOwn w v l := On.now h
theorem Rats.nilE (E : Elem) (W : World) : Rats E W (.slice none 0 0) [] := ⟨none, 0, rfl, by simp, by decide, fun i q h => by simp at h⟩

set_option maxHeartbeats 16000000 in
theorem formback_walk (w : World) (v vx vy : Value) (x y : List Rat) (h : ArgLp w v) (hx : Rats EAny w vx x) (hy : Rats EAny w vy y) : Calls Tryz.prog 4 #[v, vx, vy] w (RetV w (.bool true)) := by
  obtain ⟨A1, n1, c1, A2, n2, c2, A3, n3, c3, A4, n4, c4, A5, n5, c5, cost, rows, lo, hi, opn, rfl, h1, h2, h3, h4, h5⟩ := h
  obtain ⟨Ax, nx, cx, rfl, -, -⟩ := hx.form
  obtain ⟨Ay, ny, cy, rfl, -, -⟩ := hy.form
  have H1 := hide h1; have H2 := hide h2; have H3 := hide h3; have H4 := hide h4; have H5 := hide h5; have HX0 := hide hx; have HY0 := hide hy
  clear h1 h2 h3 h4 h5 hx hy
  obtain ⟨W0, hW0⟩ : ∃ W0, W0 = (w.alloc (Obj.cells #[Value.slice A1 n1 c1, Value.slice A2 n2 c2, Value.slice A3 n3 c3, Value.slice A4 n4 c4, Value.slice A5 n5 c5] 26)) := ⟨_, rfl⟩
  obtain ⟨hb0, r0, hsz0⟩ := boxes1 w [.slice A1 n1 c1, .slice A2 n2 c2, .slice A3 n3 c3, .slice A4 n4 c4, .slice A5 n5 c5] 26 hW0
  have B0 := hide hb0; have HW0 := hide hW0; have HSZ0 := hide hsz0
  have R0 := hide r0
  clear hb0 hW0 hsz0 r0
  go_enter Tryz.func4, Tryz.ntmps4
  go_upto_region 1 with fail
  rw [← HW0.out]
  go_wp2_with fail
  refine (awake11_calls _).mono ?_
  rintro e w1 ⟨rfl, b1⟩
  have HL1 := hide b1
  clear b1
  have r_d := R0.out.later HL1.out
  have d0 := r_d.cell (i := 0) rfl; have d1 := r_d.cell (i := 1) rfl; have d2 := r_d.cell (i := 2) rfl; have d3 := r_d.cell (i := 3) rfl; have d4 := r_d.cell (i := 4) rfl
  clear r_d
  go_wp2_with fail
  have hl1 := hide (B0.out.trans HL1.out)
  refine (fewlp_calls _ _ _ _ _ _ _ _ _ _ _ _ _ _ _ _ cost rows lo hi opn 5 (by omega) (H1.out.later EAny.later hl1.out) (H2.out.later EAnyRow.later hl1.out) (H3.out.later EAny.later hl1.out) (H4.out.later EAny.later hl1.out) (H5.out.later hl1.out)).mono ?_
  rintro e w2 ⟨t, rfl, hP, b2⟩
  have HL2 := hide (HL1.out.trans b2)
  clear b2 hl1 d0 d1 d2 d3 d4 H1 H2 H3 H4 H5
  have r_d := R0.out.later HL2.out
  have d0 := r_d.cell (i := 0) rfl; have d1 := r_d.cell (i := 1) rfl; have d2 := r_d.cell (i := 2) rfl; have d3 := r_d.cell (i := 3) rfl; have d4 := r_d.cell (i := 4) rfl
  clear r_d
  cases t with
  | false =>
    go_wp2_with fail
    go_ret
    exact ⟨rfl, B0.out.trans HL2.out⟩
  | true =>
    obtain ⟨P, hI, hc5, hlo5, hhi5, hr5, hrc5⟩ := hP rfl
    have HI2 := hide hI
    clear hP hI
    go_wp2_with fail
    refine (few_calls _ _ x 20 (HX0.out.later EAny.later (B0.out.trans HL2.out)) (by omega)).mono ?_
    rintro e w2' ⟨t, rfl, hX, rfl⟩
    cases t with
    | false =>
      go_wp2_with fail
      go_ret
      exact ⟨rfl, B0.out.trans HL2.out⟩
    | true =>
      have HX2 := hide (hX rfl)
      clear hX
      go_wp2_with fail
      refine (few_calls _ _ y 20 (HY0.out.later EAny.later (B0.out.trans HL2.out)) (by omega)).mono ?_
      rintro e w2' ⟨t, rfl, hX, rfl⟩
      cases t with
      | false =>
        go_wp2_with fail
        go_ret
        exact ⟨rfl, B0.out.trans HL2.out⟩
      | true =>
        have HY2 := hide (hX rfl)
        have hy20 := HY2.out.1; have hx20 := HX2.out.1
        clear hX
        obtain ⟨zc, hzc⟩ : ∃ z, (if backB P y = true then (0 : Int) else 1) = z := ⟨_, rfl⟩
        obtain ⟨cv, hcv⟩ : ∃ q, lpCost P x = q := ⟨_, rfl⟩
        obtain ⟨uc, huc⟩ : ∃ b, (lpB P && decide (x.length = P.cost.length)) = b := ⟨_, rfl⟩
        obtain ⟨uf, huf⟩ : ∃ b, fulfL P x = b := ⟨_, rfl⟩
        have HZC := hide hzc; have HCV := hide hcv; have HUC := hide huc; have HUF := hide huf
        have HLB : Hid ((backE P y).length ≤ 1000000000) := hide (by unfold backE; split <;> (try unfold backL axpyL) <;> simp <;> omega)
        have HSB : Hid (∀ q ∈ backE P y, Sized q 100) := hide (by
          intro q hq
          unfold backE at hq
          split at hq
          · exact (sized_axpy (Rats.sized HI2.out.lo) (fun q hq => Rats.sized HY2.out.2 q (List.mem_of_mem_take hq)) sized_1 q hq).mono (by omega)
          · cases hq)
        have HSC : Hid (Sized cv 1000) := hide (by
          rw [← hcv]
          refine sized_lpCost (Rats.sized HI2.out.cost) (Rats.sized HX2.out.2) ?_
          have : P.cost.length * (1 + 1 + (1 + 1) + 1) ≤ 5 * 5 := Nat.mul_le_mul (by omega) (by omega)
          omega)
        have HMU : Hid ((P.cost.length + 1) * (1 + 1 + 4) ≤ 20000000) := hide (by have := Nat.mul_le_mul (show P.cost.length + 1 ≤ 6 by omega) (Nat.le_refl (1 + 1 + 4)); omega)
        clear hzc hcv huc huf
        go_wp2_with fail
        refine (pback_calls _ _ _ _ _ _ _ _ _ _ _ _ _ _ _ _ 1 P HI2.out _ y 1 HY2.out.2 (by omega) (by omega)).mono ?_
        rintro e w5 ⟨v5, rfl, hy1, hy2, bb⟩
        rw [HZC.out]
        have h9 : Rats EOwn w5 v5 (backE P y) := by
          unfold backE
          by_cases g : backB P y = true
          · rw [if_pos g]; exact (hy1 g).nowE
          · rw [if_neg g, hy2 (by simpa using g)]; exact Rats.nilE _ _
        obtain ⟨A15, n15, c15, rfl, -⟩ := h9.form
        have HR15 := hide h9; have HB15 := hide bb; have HLB15 := hide ((hide (Later.refl w2)).out.trans bb)
        clear hy1 hy2 bb h9 d0 d1 d2 d3 d4
        have r_d := R0.out.later (HL2.out.trans HB15.out)
        have d0 := r_d.cell (i := 0) rfl; have d1 := r_d.cell (i := 1) rfl; have d2 := r_d.cell (i := 2) rfl; have d3 := r_d.cell (i := 3) rfl; have d4 := r_d.cell (i := 4) rfl
        clear r_d
        go_wp2_with fail
        refine (rback11_calls _ _ _ _ _ _ _ _ _ _ _ _ _ _ _ _ 1 P (HI2.out.later HB15.out) _ y 1 (HY2.out.2.later ERaw.later HB15.out) (by omega) (by omega)).mono ?_
        rintro e w6 ⟨v6, rfl, hy1, hy2, bb⟩
        rw [HZC.out]
        have h9 : Rats EOwn w6 v6 (backE P y) := by
          unfold backE
          by_cases g : backB P y = true
          · rw [if_pos g]; exact (hy1 g).rats
          · rw [if_neg g, hy2 (by simpa using g)]; exact Rats.nilE _ _
        obtain ⟨A16, n16, c16, rfl, -⟩ := h9.form
        have HR16 := hide h9; have HB16 := hide bb; have HLB16 := hide (HB15.out.trans bb)
        clear hy1 hy2 bb h9 d0 d1 d2 d3 d4
        have r_d := R0.out.later (HL2.out.trans HLB16.out)
        have d0 := r_d.cell (i := 0) rfl; have d1 := r_d.cell (i := 1) rfl; have d2 := r_d.cell (i := 2) rfl; have d3 := r_d.cell (i := 3) rfl; have d4 := r_d.cell (i := 4) rfl
        clear r_d
        go_wp2_with fail
        refine (pcost_calls _ _ _ _ _ _ _ _ _ _ _ _ _ _ _ _ 1 P (HI2.out.later HLB16.out) _ x 1 (HX2.out.2.later ERaw.later HLB16.out) (by omega)).mono ?_
        rintro e w7 ⟨v7, ok7, rfl, ⟨o7, rfl⟩, b7⟩
        rw [HUC.out]; rw [HCV.out] at o7
        obtain ⟨s7, P7, q7, e7, P7', q7', e7', rfl, o7⟩ := o7.open_; have O7 := hide o7; clear o7
        clear d0 d1 d2 d3 d4
        go_upto_region 8 with fail
        obtain ⟨wc, hwc⟩ : ∃ wc, wc = w7.alloc (Obj.cells #[Value.bool s7, Value.slice P7 q7 e7, Value.bool false, Value.slice P7' q7' e7'] 36) := ⟨_, rfl⟩
        obtain ⟨gc, hgc⟩ : ∃ gc, gc = w7.heap.size := ⟨_, rfl⟩
        have bwc : Later w7 wc := by rw [hwc]; exact (Later.refl _).alloc _
        have rgc : Row wc gc 36 [.bool s7, .slice P7 q7 e7, .bool false, .slice P7' q7' e7'] := by rw [hwc, hgc]; exact Row.new _ _ _
        rw [← hwc, ← hgc]
        have HL7 := hide (HLB16.out.trans (b7.trans bwc)); have HC7 := hide (OwnR.later O7.out bwc); have RC := hide rgc; have HB7 := hide (b7.trans bwc)
        clear hwc hgc bwc rgc b7 O7
        have r_d := R0.out.later (HL2.out.trans HL7.out)
        have d0 := r_d.cell (i := 0) rfl; have d1 := r_d.cell (i := 1) rfl; have d2 := r_d.cell (i := 2) rfl; have d3 := r_d.cell (i := 3) rfl; have d4 := r_d.cell (i := 4) rfl
        clear r_d
        go_wp2_with fail
        refine (rcost11_calls _ _ _ _ _ _ _ _ _ _ _ _ _ _ _ _ 1 P (HI2.out.later HL7.out) _ x 1 (HX2.out.2.later ERaw.later HL7.out) (by omega) HMU.out).mono ?_
        rintro e w8 ⟨v8, ok8, rfl, ⟨o8, rfl⟩, b8⟩
        rw [HUC.out]; rw [HCV.out] at o8
        obtain ⟨s8, P8, q8, e8, P8', q8', e8', rfl, o8⟩ := o8.open_; have O8 := hide o8; clear o8
        clear d0 d1 d2 d3 d4
        go_upto_region 9 with fail
        obtain ⟨wx, hwx⟩ : ∃ wx, wx = w8.alloc (Obj.cells #[Value.bool s8, Value.slice P8 q8 e8, Value.bool false, Value.slice P8' q8' e8'] 36) := ⟨_, rfl⟩
        obtain ⟨gd, hgd⟩ : ∃ gd, gd = w8.heap.size := ⟨_, rfl⟩
        have bwx : Later w8 wx := by rw [hwx]; exact (Later.refl _).alloc _
        have rgd : Row wx gd 36 [.bool s8, .slice P8 q8 e8, .bool false, .slice P8' q8' e8'] := by rw [hwx, hgd]; exact Row.new _ _ _
        rw [← hwx, ← hgd]
        have hb8 := b8.trans bwx
        have HLx := hide (HL2.out.trans (HL7.out.trans hb8)); have HC := hide (OwnR.later HC7.out hb8); have HD := hide (OwnR.later O8.out bwx)
        have HI := hide (HI2.out.later (HL7.out.trans hb8)); have HX := hide (HX2.out.2.later ERaw.later (HL7.out.trans hb8))
        have HA := hide (HR15.out.later EOwn.later (HB16.out.trans (HB7.out.trans hb8))); have HB := hide (HR16.out.later EOwn.later (HB7.out.trans hb8))
        have RCx := hide (RC.out.later hb8); have RDx := hide rgd
        have t1 : (zc == zc) = true := by simp
        have t2 : (uc == uc) = true := by simp
        have t3 : (uf == uf) = true := by simp
        clear hwx hgd bwx rgd b8 hb8 O8 RC HC7 HB7 HR15 HR16
        have HT1 : Hid (∀ w', Later wx w' → w'.cell? ⟨w.heap.size, 0, none⟩ = some (.slice A1 n1 c1) ∧ w'.cell? ⟨w.heap.size, 1, none⟩ = some (.slice A2 n2 c2) ∧ w'.cell? ⟨w.heap.size, 2, none⟩ = some (.slice A3 n3 c3) ∧ w'.cell? ⟨w.heap.size, 3, none⟩ = some (.slice A4 n4 c4) ∧ w'.cell? ⟨w.heap.size, 4, none⟩ = some (.slice A5 n5 c5) ∧ w'.cell? ⟨gc, 0, none⟩ = some (.bool s7) ∧ w'.cell? ⟨gc, 1, none⟩ = some (.slice P7 q7 e7) ∧ w'.cell? ⟨gc, 2, none⟩ = some (.bool false) ∧ w'.cell? ⟨gc, 3, none⟩ = some (.slice P7' q7' e7') ∧ w'.cell? ⟨gd, 0, none⟩ = some (.bool s8) ∧ w'.cell? ⟨gd, 1, none⟩ = some (.slice P8 q8 e8) ∧ w'.cell? ⟨gd, 2, none⟩ = some (.bool false) ∧ w'.cell? ⟨gd, 3, none⟩ = some (.slice P8' q8' e8')) := hide fun W hW => by
          have h1 := R0.out.later (HLx.out.trans hW); have h2 := RCx.out.later hW; have h3 := RDx.out.later hW
          exact ⟨h1.cell (i := 0) rfl, h1.cell (i := 1) rfl, h1.cell (i := 2) rfl, h1.cell (i := 3) rfl, h1.cell (i := 4) rfl, h2.cell rfl, h2.cell rfl, h2.cell rfl, h2.cell rfl, h3.cell rfl, h3.cell rfl, h3.cell rfl, h3.cell rfl⟩
        have hmx : Tryz.prog.follows .mixedOrders = true := by kernel_rfl
        refine wp_region_N (fun w' => w'.cell? ⟨w.heap.size, 0, none⟩ = some (.slice A1 n1 c1) ∧ w'.cell? ⟨w.heap.size, 1, none⟩ = some (.slice A2 n2 c2) ∧ w'.cell? ⟨w.heap.size, 2, none⟩ = some (.slice A3 n3 c3) ∧ w'.cell? ⟨w.heap.size, 3, none⟩ = some (.slice A4 n4 c4) ∧ w'.cell? ⟨w.heap.size, 4, none⟩ = some (.slice A5 n5 c5) ∧ w'.cell? ⟨gc, 0, none⟩ = some (.bool s7) ∧ w'.cell? ⟨gc, 1, none⟩ = some (.slice P7 q7 e7) ∧ w'.cell? ⟨gc, 2, none⟩ = some (.bool false) ∧ w'.cell? ⟨gc, 3, none⟩ = some (.slice P7' q7' e7') ∧ w'.cell? ⟨gd, 0, none⟩ = some (.bool s8) ∧ w'.cell? ⟨gd, 1, none⟩ = some (.slice P8 q8 e8) ∧ w'.cell? ⟨gd, 2, none⟩ = some (.bool false) ∧ w'.cell? ⟨gd, 3, none⟩ = some (.slice P8' q8' e8')) [] hmx (HT1.out _ lt_) (fun hHeld => ?_)
        refine tkB 54 0 ?_
        refine tkB 55 1 ?_
        refine wpAnyN_ready (rs := [2]) (by kernel_rfl) (by simp) ?_
        refine AllReadyN.held rfl (by rfl) (fun K hK => ?_) AllReadyN.nil
        go_simp
        refine (lsame_calls _ _ _ (backE P y) (backE P y) 100 100 (HA.out.later EOwn.later lt_) (HB.out.later EOwn.later lt_) HSB.out HSB.out (by omega) (by omega) HLB.out true (by simp)).mono ?_
        rintro e w51 ⟨rfl, b51⟩
        have l51 : Later wx w51 := Later.trans lt_ b51
        refine hK.out _ _ ?_ (fun hHeld => ?_)
        · exact HT1.out _ lt_
        clear hK K
        try simp only [Act.put, List.setIfInBounds_toArray, List.set_cons_zero, List.set_cons_succ]
        refine tkB 57 3 ?_
        refine tkB 58 4 ?_
        refine tkB 59 5 ?_
        refine tkB 60 6 ?_
        refine tkB 61 7 ?_
        refine tkB 62 8 ?_
        refine tkB 63 9 ?_
        refine tkB 64 10 ?_
        refine wpAnyN_ready (rs := [11]) (by kernel_rfl) (by simp) ?_
        refine AllReadyN.held rfl (by rfl) (fun K hK => ?_) AllReadyN.nil
        go_simp
        refine (qsame_calls _ _ _ cv cv 0 0 1000 1000 (OwnR.later HC.out lt_) (OwnR.later HD.out lt_) HSC.out HSC.out (by omega) (by omega) true (by simp)).mono ?_
        rintro e w52 ⟨rfl, b52⟩
        have l52 : Later wx w52 := Later.trans lt_ b52
        refine hK.out _ _ ?_ (fun hHeld => ?_)
        · exact HT1.out _ lt_
        clear hK K
        try simp only [Act.put, List.setIfInBounds_toArray, List.set_cons_zero, List.set_cons_succ]
        refine tkB 66 12 ?_
        refine tkB 67 13 ?_
        refine tkB 68 14 ?_
        refine tkB 69 15 ?_
        refine tkB 70 16 ?_
        refine tkB 71 17 ?_
        refine tkB 72 18 ?_
        refine tkB 73 19 ?_
        refine tkB 74 20 ?_
        refine tkB 76 22 ?_
        refine tkB 77 23 ?_
        refine wpAnyN_ready (rs := [21]) (by kernel_rfl) (by simp) ?_
        refine AllReadyN.held rfl (by rfl) (fun K hK => ?_) AllReadyN.nil
        go_simp
        refine (pfulfils_calls _ _ _ _ _ _ _ _ _ _ _ _ _ _ _ _ 1 P (HI.out.later lt_) _ x 1 (HX.out.later ERaw.later lt_) (by omega)).mono ?_
        rintro e w53 ⟨rfl, b53⟩
        rw [HUF.out]
        have l53 : Later wx w53 := Later.trans lt_ b53
        refine hK.out _ _ ?_ (fun hHeld => ?_)
        · exact HT1.out _ lt_
        clear hK K
        try simp only [Act.put, List.setIfInBounds_toArray, List.set_cons_zero, List.set_cons_succ]
        refine wpAnyN_ready (rs := [24]) (by kernel_rfl) (by simp) ?_
        refine AllReadyN.held rfl (by rfl) (fun K hK => ?_) AllReadyN.nil
        go_simp
        refine (rfulfils11_calls _ _ _ _ _ _ _ _ _ _ _ _ _ _ _ _ 1 P (HI.out.later lt_) _ x 1 (HX.out.later ERaw.later lt_) (by omega)).mono ?_
        rintro e w54 ⟨rfl, b54⟩
        rw [HUF.out]
        have l54 : Later wx w54 := Later.trans lt_ b54
        refine hK.out _ _ ?_ (fun hHeld => ?_)
        · exact HT1.out _ lt_
        clear hK K
        try simp only [Act.put, List.setIfInBounds_toArray, List.set_cons_zero, List.set_cons_succ]
        refine tkB 79 25 ?_
        refine tkB 80 26 ?_
        refine tkB 6 27 ?_
        refine wpAnyN_done (by kernel_rfl) ?_ _
        have LE := hide (HLx.out.trans (show Later wx w54 from lt_))
        clear hHeld
        go_wp2_with fail
        go_ret
        exact ⟨rfl, B0.out.trans LE.out⟩
end Go.Proofs.YtfokplidiboabaaGreat

