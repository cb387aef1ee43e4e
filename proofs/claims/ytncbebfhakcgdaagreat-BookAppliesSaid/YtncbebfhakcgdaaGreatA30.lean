/- Books: the reference: an order more. -/
import Derived.Test.YtncbebfhakcgdaaGreatA29
set_option linter.unusedVariables false
set_option linter.unusedSimpArgs false
set_option maxRecDepth 100000
namespace Go.Proofs.YtncbebfhakcgdaaGreat
open Go.RowKit Go.Shelf
attribute [local go_sem ↓] Go.wp_at_zero Go.wp_at_succ
theorem oCells_ln (x : POrd) : (oCells x).length = 4 := rfl
theorem wpList_append_o {w : World} {ops : Array Oper} {rest : List Oper} {o : Oper} {a : Act} {Q : Exit -> Act -> World -> Prop} (hgd : o.guard = none) (s x : Operand) (ho : o.op = .call { callee := .builtin .append, args := #[s, x], argTypes := #[24, 24] })
 {lo : Nat} {v : Value} {l : List POrd} {g : Nat} (z : POrd) (hs : a.eval s = v) (hown : w.ownsRow lo 29 4 v l.length (l.flatMap oCells)) (hx : a.eval x = .slice (some ⟨g, 0, none⟩) 1 1) (hrow : Row w g 29 (oCells z)) (hlen : l.length <= 3000000) (hbase : lo <= w.heap.size)
 (h : ∀ A n c w', w'.ownsRow lo 29 4 (.slice A n c) (l ++ [z]).length ((l ++ [z]).flatMap oCells) -> w.grownBy w' v.ownBlock -> wpList Tryz.prog ops Q rest (a.put o.dst (.slice A n c)) w') : wpList Tryz.prog ops Q (o :: rest) a w := by
 refine wpList_append_src hgd s x _ ho lo 29 _ 4 32 Tryz.underlying24 info_o4 rfl (by omega) (by omega) v l.length _ hs hown _ 1 (oCells z) hx (Src.row hrow rfl (by simp [oCells, Value.oneCell'])) (by omega) hbase ?_
 intro v' w' k1 k2 k3
 obtain ⟨A, c, rfl⟩ := own_form k1
 refine h A _ c w' ?_ k2
 rw [List.length_append, List.flatMap_append, List.flatMap_cons, List.flatMap_nil, List.append_nil]; exact k1
def putL (l : List POrd) (o : POrd) (j : Nat) (pu : Bool) : List POrd := if pu = true then insO (l.take j) o else l.take j
theorem insO_le (l : List POrd) (o : POrd) : (insO l o).length <= 2 * l.length + 1 := by
 unfold insO
 rw [List.length_append, List.length_cons]
 have := List.length_filter_le (fun x : POrd => decide (x.id < o.id)) l
 have := List.length_filter_le (fun x : POrd => decide (o.id < x.id)) l
 omega
theorem putL_le {l : List POrd} {o : POrd} {j : Nat} {pu : Bool} (h : l.length <= 1000) : (putL l o j pu).length <= 2001 := by
 have h1 : (l.take j).length <= 1000 := by rw [List.length_take]; omega
 unfold putL
 split
 ·have := insO_le (l.take j) o; omega
 ·omega
theorem none_lt {l : List POrd} {o : POrd} (h1 : l.any (fun y => decide (o.id < y.id)) = false) (h2 : ∀ y ∈ l, y.id ≠ o.id) : l.filter (fun x => decide (x.id < o.id)) = l /\ l.filter (fun x => decide (o.id < x.id)) = [] := by
 have h3 : ∀ y ∈ l, ¬ o.id < y.id := fun y hy => by have := List.any_eq_false.1 h1 y hy; simpa using this
 refine ⟨List.filter_eq_self.2 fun y hy => ?_, List.filter_eq_nil_iff.2 fun y hy => ?_⟩
 ·have := h2 y hy; have := h3 y hy; simp; omega
 ·simpa using Int.not_lt.1 (h3 y hy)
theorem ins_b {l : List POrd} {x o : POrd} (h1 : l.any (fun y => decide (o.id < y.id)) = false) (h2 : ∀ y ∈ l, y.id ≠ o.id) (h3 : o.id < x.id) : insO (l ++ [x]) o = (l ++ [o]) ++ [x] := by
 obtain ⟨e1, e2⟩ := none_lt h1 h2
 unfold insO
 rw [List.filter_append, List.filter_append, e1, e2]
 have : ¬ x.id < o.id := by omega
 simp [h3, this]
theorem ins_c {l : List POrd} {x o : POrd} (h3 : o.id < x.id) : insO (l ++ [x]) o = insO l o ++ [x] := by
 unfold insO
 rw [List.filter_append, List.filter_append]
 have : ¬ x.id < o.id := by omega
 simp [h3, this]
theorem ins_e {l : List POrd} {o : POrd} (h1 : l.any (fun y => decide (o.id < y.id)) = false) (h2 : ∀ y ∈ l, y.id ≠ o.id) : insO l o = l ++ [o] := by
 obtain ⟨e1, e2⟩ := none_lt h1 h2
 unfold insO
 rw [e1, e2]
theorem put_end {w w1 w2 : World} {P : Nat -> Prop} {T : World -> Prop} {n g0 g2 s : Nat} (h : On w (fun b => (P b /\ b < n) ∨ s <= b) T) (o1 : Only g0 w w1) (o2 : Only g2 w1 w2) (h0 : n <= g0) (h0' : g0 < s) (h2 : n <= g2) (h2' : g2 < s) : On w2 (fun b => P b ∨ n <= b) T :=
 ((h.only o1 (by omega)).only o2 (by omega)).mono fun b hb _ => hb.elim (fun h => .inl h.1) (fun h => .inr (by omega))
theorem ord_book {w : World} {P : Nat -> Prop} {n s : Nat} {A1 A2 A3 A4 A : Option Addr} {n1 n2 n3 n4 c1 c2 c3 c4 na ca : Nat} {D : PBook} {l : List POrd} (h : On w (fun b => P b /\ b < n) (fun W => BookIn W (.slice A1 n1 c1) (.slice A2 n2 c2) (.slice A3 n3 c3) (.slice A4 n4 c4) D)) (ho : w.ownsRow s 29 4 (.slice A na ca) l.length (l.flatMap oCells)) (hl : l.length <= 1000) (hf : ∀ x ∈ l, x.fit) :
 On w (fun b => (P b /\ b < n) ∨ s <= b) (fun W => BookIn W (.slice A1 n1 c1) (.slice A2 n2 c2) (.slice A na ca) (.slice A4 n4 c4) { D with ords := l }) :=
 ((h.mono fun b hb _ => Or.inl hb).and ((On.sq oCells_ln ho).mono fun b hb _ => Or.inr hb)).map fun W k => { k.1 with ords := k.2, ol := hl, ofit := hf }
set_option maxHeartbeats 2000000 in
theorem rorder_calls (w : World) (A1 A2 A3 A4 : Option Addr) (n1 n2 n3 n4 c1 c2 c3 c4 : Nat) (D : PBook) (P : Nat -> Prop) (h : On w P (fun W => BookIn W (.slice A1 n1 c1) (.slice A2 n2 c2) (.slice A3 n3 c3) (.slice A4 n4 c4) D)) (hm : MayP D) (o : POrd) (hof : o.fit) :
 Calls Tryz.prog 39 #[.agg #[.slice A1 n1 c1, .int .i64 D.hor, .int .i64 D.now, .slice A2 n2 c2, .slice A3 n3 c3, .slice A4 n4 c4], .agg #[.int .i64 o.id, .int .i64 o.item, .int .i64 o.due, .int .i64 o.qty]] w (RefP P w (ordV D o)) := by
 obtain ⟨hn1, hn2, hn3, hn4⟩ := bk_lens h.now
 have H := hide h.now; have HON := hide (h.mono fun b hb hl => (⟨hb, hl⟩ : P b /\ b < w.heap.size)); have HM := hide hm; have HOF := hide hof
 have HN1 := hide hn1; have HN3 := hide hn3
 have hn9 : n3 <= 30 := by have := hm.ol; omega
 clear h hm hof hn1 hn2 hn3 hn4
 obtain ⟨W0, hW0⟩ : ∃ W0, W0 = (((w.alloc (Obj.cells #[Value.slice A1 n1 c1, Value.int .i64 D.hor, Value.int .i64 D.now, Value.slice A2 n2 c2, Value.slice A3 n3 c3, Value.slice A4 n4 c4] 27)).alloc (Obj.cells #[Value.int .i64 o.id, Value.int .i64 o.item, Value.int .i64 o.due, Value.int .i64 o.qty] 29)).alloc (Obj.cells #[Value.slice none 0 0, Value.int .i64 0, Value.int .i64 0, Value.slice none 0 0, Value.slice none 0 0, Value.slice none 0 0] 27)) := ⟨_, rfl⟩
 obtain ⟨hb0, r0, r1, r2, hsz0⟩ := boxes3 w [.slice A1 n1 c1, .int .i64 D.hor, .int .i64 D.now, .slice A2 n2 c2, .slice A3 n3 c3, .slice A4 n4 c4] [.int .i64 o.id, .int .i64 o.item, .int .i64 o.due, .int .i64 o.qty] [.slice none 0 0, .int .i64 0, .int .i64 0, .slice none 0 0, .slice none 0 0, .slice none 0 0] 27 29 27 hW0
 have B0 := hide hb0; have HW0 := hide hW0; have HSZ0 := hide hsz0
 have R0 := hide r0; have R1 := hide r1; have R2 := hide r2
 clear hb0 hW0 hsz0 r0 r1 r2
 go_enter Tryz.func39, Tryz.ntmps39
 go_upto_region 1 with fail
 rw [<- HW0.out]
 have r_x := R0.out.later (Later.refl W0)
 have x0 := r_x.cell (i := 0) rfl; have x1 := r_x.cell (i := 1) rfl; have x2 := r_x.cell (i := 2) rfl; have x3 := r_x.cell (i := 3) rfl; have x4 := r_x.cell (i := 4) rfl; have x5 := r_x.cell (i := 5) rfl
 clear r_x
 have r_y := R1.out.later (Later.refl W0)
 have y0 := r_y.cell (i := 0) rfl; have y1 := r_y.cell (i := 1) rfl; have y2 := r_y.cell (i := 2) rfl; have y3 := r_y.cell (i := 3) rfl
 clear r_y
 by_cases g0 : o.id < 1
 ·have t0 : decide (o.id < 1) = true := by simpa using g0
  have HV : Hid (ordV D o = .error 1) := hide (by unfold ordV; rw [if_pos (decide_eq_false fun hk => by unfold POrd.okP at hk; have := HN1.out; omega)])
  have rz := R2.out.later (Later.refl W0)
  have q0 := rz.cell (i := 0) rfl; have qz0 := rz.frozen 0; have q1 := rz.cell (i := 1) rfl; have qz1 := rz.frozen 1; have q2 := rz.cell (i := 2) rfl; have qz2 := rz.frozen 2; have q3 := rz.cell (i := 3) rfl; have qz3 := rz.frozen 3; have q4 := rz.cell (i := 4) rfl; have qz4 := rz.frozen 4; have q5 := rz.cell (i := 5) rfl; have qz5 := rz.frozen 5
  clear rz
  go_wp2_with fail
  refine bodyPost_ret (results_bkt rfl rfl rfl ((R2.out.later (Later.refl W0)).put6 _ _ _ _ _ _)) rfl ⟨(B0.out.trans (Later.refl W0)).only (only6 _ _ _ _ _ _ _) (by omega), by rw [HV.out]; rfl⟩
 have t0 : decide (o.id < 1) = false := by simpa using g0
 by_cases g1 : 1000000 < o.id
 ·have t1 : decide (1000000 < o.id) = true := by simpa using g1
  have HV : Hid (ordV D o = .error 1) := hide (by unfold ordV; rw [if_pos (decide_eq_false fun hk => by unfold POrd.okP at hk; have := HN1.out; omega)])
  have rz := R2.out.later (Later.refl W0)
  have q0 := rz.cell (i := 0) rfl; have qz0 := rz.frozen 0; have q1 := rz.cell (i := 1) rfl; have qz1 := rz.frozen 1; have q2 := rz.cell (i := 2) rfl; have qz2 := rz.frozen 2; have q3 := rz.cell (i := 3) rfl; have qz3 := rz.frozen 3; have q4 := rz.cell (i := 4) rfl; have qz4 := rz.frozen 4; have q5 := rz.cell (i := 5) rfl; have qz5 := rz.frozen 5
  clear rz
  go_wp2_with fail
  refine bodyPost_ret (results_bkt rfl rfl rfl ((R2.out.later (Later.refl W0)).put6 _ _ _ _ _ _)) rfl ⟨(B0.out.trans (Later.refl W0)).only (only6 _ _ _ _ _ _ _) (by omega), by rw [HV.out]; rfl⟩
 have t1 : decide (1000000 < o.id) = false := by simpa using g1
 by_cases g2 : o.item < 0
 ·have t2 : decide (o.item < 0) = true := by simpa using g2
  have HV : Hid (ordV D o = .error 1) := hide (by unfold ordV; rw [if_pos (decide_eq_false fun hk => by unfold POrd.okP at hk; have := HN1.out; omega)])
  have rz := R2.out.later (Later.refl W0)
  have q0 := rz.cell (i := 0) rfl; have qz0 := rz.frozen 0; have q1 := rz.cell (i := 1) rfl; have qz1 := rz.frozen 1; have q2 := rz.cell (i := 2) rfl; have qz2 := rz.frozen 2; have q3 := rz.cell (i := 3) rfl; have qz3 := rz.frozen 3; have q4 := rz.cell (i := 4) rfl; have qz4 := rz.frozen 4; have q5 := rz.cell (i := 5) rfl; have qz5 := rz.frozen 5
  clear rz
  go_wp2_with fail
  refine bodyPost_ret (results_bkt rfl rfl rfl ((R2.out.later (Later.refl W0)).put6 _ _ _ _ _ _)) rfl ⟨(B0.out.trans (Later.refl W0)).only (only6 _ _ _ _ _ _ _) (by omega), by rw [HV.out]; rfl⟩
 have t2 : decide (o.item < 0) = false := by simpa using g2
 by_cases g3 : (n1 : Int) <= o.item
 ·have t3 : decide ((n1 : Int) <= o.item) = true := by simpa using g3
  have HV : Hid (ordV D o = .error 1) := hide (by unfold ordV; rw [if_pos (decide_eq_false fun hk => by unfold POrd.okP at hk; have := HN1.out; omega)])
  have rz := R2.out.later (Later.refl W0)
  have q0 := rz.cell (i := 0) rfl; have qz0 := rz.frozen 0; have q1 := rz.cell (i := 1) rfl; have qz1 := rz.frozen 1; have q2 := rz.cell (i := 2) rfl; have qz2 := rz.frozen 2; have q3 := rz.cell (i := 3) rfl; have qz3 := rz.frozen 3; have q4 := rz.cell (i := 4) rfl; have qz4 := rz.frozen 4; have q5 := rz.cell (i := 5) rfl; have qz5 := rz.frozen 5
  clear rz
  go_wp2_with fail
  refine bodyPost_ret (results_bkt rfl rfl rfl ((R2.out.later (Later.refl W0)).put6 _ _ _ _ _ _)) rfl ⟨(B0.out.trans (Later.refl W0)).only (only6 _ _ _ _ _ _ _) (by omega), by rw [HV.out]; rfl⟩
 have t3 : decide ((n1 : Int) <= o.item) = false := by simpa using g3
 by_cases g4 : o.due < 0
 ·have t4 : decide (o.due < 0) = true := by simpa using g4
  have HV : Hid (ordV D o = .error 1) := hide (by unfold ordV; rw [if_pos (decide_eq_false fun hk => by unfold POrd.okP at hk; have := HN1.out; omega)])
  have rz := R2.out.later (Later.refl W0)
  have q0 := rz.cell (i := 0) rfl; have qz0 := rz.frozen 0; have q1 := rz.cell (i := 1) rfl; have qz1 := rz.frozen 1; have q2 := rz.cell (i := 2) rfl; have qz2 := rz.frozen 2; have q3 := rz.cell (i := 3) rfl; have qz3 := rz.frozen 3; have q4 := rz.cell (i := 4) rfl; have qz4 := rz.frozen 4; have q5 := rz.cell (i := 5) rfl; have qz5 := rz.frozen 5
  clear rz
  go_wp2_with fail
  refine bodyPost_ret (results_bkt rfl rfl rfl ((R2.out.later (Later.refl W0)).put6 _ _ _ _ _ _)) rfl ⟨(B0.out.trans (Later.refl W0)).only (only6 _ _ _ _ _ _ _) (by omega), by rw [HV.out]; rfl⟩
 have t4 : decide (o.due < 0) = false := by simpa using g4
 by_cases g5 : 39 < o.due
 ·have t5 : decide (39 < o.due) = true := by simpa using g5
  have HV : Hid (ordV D o = .error 1) := hide (by unfold ordV; rw [if_pos (decide_eq_false fun hk => by unfold POrd.okP at hk; have := HN1.out; omega)])
  have rz := R2.out.later (Later.refl W0)
  have q0 := rz.cell (i := 0) rfl; have qz0 := rz.frozen 0; have q1 := rz.cell (i := 1) rfl; have qz1 := rz.frozen 1; have q2 := rz.cell (i := 2) rfl; have qz2 := rz.frozen 2; have q3 := rz.cell (i := 3) rfl; have qz3 := rz.frozen 3; have q4 := rz.cell (i := 4) rfl; have qz4 := rz.frozen 4; have q5 := rz.cell (i := 5) rfl; have qz5 := rz.frozen 5
  clear rz
  go_wp2_with fail
  refine bodyPost_ret (results_bkt rfl rfl rfl ((R2.out.later (Later.refl W0)).put6 _ _ _ _ _ _)) rfl ⟨(B0.out.trans (Later.refl W0)).only (only6 _ _ _ _ _ _ _) (by omega), by rw [HV.out]; rfl⟩
 have t5 : decide (39 < o.due) = false := by simpa using g5
 by_cases g6 : o.qty < 1
 ·have t6 : decide (o.qty < 1) = true := by simpa using g6
  have HV : Hid (ordV D o = .error 1) := hide (by unfold ordV; rw [if_pos (decide_eq_false fun hk => by unfold POrd.okP at hk; have := HN1.out; omega)])
  have rz := R2.out.later (Later.refl W0)
  have q0 := rz.cell (i := 0) rfl; have qz0 := rz.frozen 0; have q1 := rz.cell (i := 1) rfl; have qz1 := rz.frozen 1; have q2 := rz.cell (i := 2) rfl; have qz2 := rz.frozen 2; have q3 := rz.cell (i := 3) rfl; have qz3 := rz.frozen 3; have q4 := rz.cell (i := 4) rfl; have qz4 := rz.frozen 4; have q5 := rz.cell (i := 5) rfl; have qz5 := rz.frozen 5
  clear rz
  go_wp2_with fail
  refine bodyPost_ret (results_bkt rfl rfl rfl ((R2.out.later (Later.refl W0)).put6 _ _ _ _ _ _)) rfl ⟨(B0.out.trans (Later.refl W0)).only (only6 _ _ _ _ _ _ _) (by omega), by rw [HV.out]; rfl⟩
 have t6 : decide (o.qty < 1) = false := by simpa using g6
 by_cases g7 : 100 < o.qty
 ·have t7 : decide (100 < o.qty) = true := by simpa using g7
  have HV : Hid (ordV D o = .error 1) := hide (by unfold ordV; rw [if_pos (decide_eq_false fun hk => by unfold POrd.okP at hk; have := HN1.out; omega)])
  have rz := R2.out.later (Later.refl W0)
  have q0 := rz.cell (i := 0) rfl; have qz0 := rz.frozen 0; have q1 := rz.cell (i := 1) rfl; have qz1 := rz.frozen 1; have q2 := rz.cell (i := 2) rfl; have qz2 := rz.frozen 2; have q3 := rz.cell (i := 3) rfl; have qz3 := rz.frozen 3; have q4 := rz.cell (i := 4) rfl; have qz4 := rz.frozen 4; have q5 := rz.cell (i := 5) rfl; have qz5 := rz.frozen 5
  clear rz
  go_wp2_with fail
  refine bodyPost_ret (results_bkt rfl rfl rfl ((R2.out.later (Later.refl W0)).put6 _ _ _ _ _ _)) rfl ⟨(B0.out.trans (Later.refl W0)).only (only6 _ _ _ _ _ _ _) (by omega), by rw [HV.out]; rfl⟩
 have t7 : decide (100 < o.qty) = false := by simpa using g7
 have HOK0 : Hid (o.okP D.items.length) := hide (by unfold POrd.okP; have := HN1.out; omega)
 clear g0 g1 g2 g3 g4 g5 g6 g7
 go_wp2_with fail
 clear x0 x1 x2 x3 x4 x5 y0 y1 y2 y3 t0 t1 t2 t3 t4 t5 t6 t7
 go_loopw [6, 7, 8] (fun av pv iv wr => ∃ (j : Nat) (pu : Bool) (Aa : Option Addr) (na ca : Nat), av = .slice Aa na ca /\ pv = .bool pu /\ iv = .int .i64 (j : Int) /\ j <= n3 /\ Hid (∀ (i : Nat) x, i < j -> D.ords[i]? = some x -> x.id ≠ o.id) /\ Hid ((D.ords.take j).any (fun x => decide (o.id < x.id)) = pu) /\ Hid (wr.ownsRow W0.heap.size 29 4 (.slice Aa na ca) (putL D.ords o j pu).length ((putL D.ords o j pu).flatMap oCells)) /\ Hid (Later W0 wr)) (fun _ _ iv _ => (n3 - intOf iv).toNat)
 case atStart => exact ⟨0, false, none, 0, 0, rfl, rfl, rfl, Nat.zero_le _, hide (fun i x hi => by omega), hide rfl, hide (World.ownsRow_nil _ _ _ _), hide (Later.refl _)⟩
 case round =>
  obtain ⟨j, pu, Aa, na, ca, rfl, rfl, rfl, hj, HOK, HPU, HOWN, HL⟩ := hrel
  have x4 := (R0.out.later HL.out).cell (i := 4) rfl
  have ry := R1.out.later HL.out
  have y0 := ry.cell (i := 0) rfl; have y1 := ry.cell (i := 1) rfl; have y2 := ry.cell (i := 2) rfl; have y3 := ry.cell (i := 3) rfl
  clear ry
  have HLE : Hid ((putL D.ords o j pu).length <= 2001) := hide (putL_le H.out.ol)
  have HIDS : Hid (∀ y ∈ D.ords.take j, y.id ≠ o.id) := hide (fun y hy => by
   obtain ⟨i, hi⟩ := List.getElem?_of_mem hy
   rw [List.getElem?_take] at hi
   split at hi
   ·exact HOK.out i y (by assumption) hi
   ·cases hi)
  by_cases hjn : j < n3
  ·obtain ⟨x, hx⟩ : ∃ x, D.ords[j]? = some x := ⟨D.ords[j]'(by have := HN3.out; omega), List.getElem?_eq_getElem _⟩
   obtain ⟨b1, off1, rfl, zz0, zz1, zz2, zz3⟩ := orat H.out.ords hx
   have HZ : Hid (∀ W, Later w W -> W.cell? ⟨b1, off1 + j * 4, none⟩ = some (.int .i64 x.id) /\ W.cell? ⟨b1, off1 + j * 4 + 1, none⟩ = some (.int .i64 x.item) /\ W.cell? ⟨b1, off1 + j * 4 + 2, none⟩ = some (.int .i64 x.due) /\ W.cell? ⟨b1, off1 + j * 4 + 3, none⟩ = some (.int .i64 x.qty)) := hide (fun W hW => ⟨Later.cell hW zz0, Later.cell hW zz1, Later.cell hW zz2, Later.cell hW zz3⟩)
   obtain ⟨z0, z1, z2, z3⟩ := HZ.out _ (B0.out.trans HL.out)
   have HX := hide hx
   have HTK : Hid (D.ords.take (j+1) = D.ords.take j ++ [x]) := hide (by rw [List.take_add_one, hx]; rfl)
   have hj0 : (0 : Int) <= (j : Int) := by omega
   have hj1 : (j : Int) < n3 := by omega
   clear hx zz0 zz1 zz2 zz3
   by_cases e : x.id = o.id
   ·have t1 : (x.id == o.id) = true := by simpa using e
    have HV : Hid (ordV D o = .error 7) := hide (by unfold ordV; rw [if_neg (by simp; exact HOK0.out), if_pos (List.any_eq_true.2 ⟨x, List.mem_of_getElem? HX.out, by simpa using e⟩)])
    clear e
    have rz := R2.out.later HL.out
    have q0 := rz.cell (i := 0) rfl; have qz0 := rz.frozen 0; have q1 := rz.cell (i := 1) rfl; have qz1 := rz.frozen 1; have q2 := rz.cell (i := 2) rfl; have qz2 := rz.frozen 2; have q3 := rz.cell (i := 3) rfl; have qz3 := rz.frozen 3; have q4 := rz.cell (i := 4) rfl; have qz4 := rz.frozen 4; have q5 := rz.cell (i := 5) rfl; have qz5 := rz.frozen 5
    clear rz
    go_upto_region 8 with fail
    go_quiet (fail)
    all_goals
     go_wp2_with fail
     refine bodyPost_ret (results_bkt rfl rfl rfl ((R2.out.later (HL.out.drewN _)).put6 _ _ _ _ _ _)) rfl ⟨(B0.out.trans (HL.out.drewN _)).only (only6 _ _ _ _ _ _ _) (by omega), by rw [HV.out]; rfl⟩
   have t1 : (x.id == o.id) = false := by simpa using e
   have HOK2 : Hid (∀ (i : Nat) y, i < j + 1 -> D.ords[i]? = some y -> y.id ≠ o.id) := hide (fun i y hi hy => by
    by_cases e2 : i < j
    ·exact HOK.out i y e2 hy
    ·obtain rfl : i = j := by omega
     rw [HX.out] at hy; injection hy with hy; rw [<- hy]; exact e)
   clear e
   cases pu with
   | true =>
     have HLT : Hid (o.id < x.id) := hide (by
      obtain ⟨y, hy, hlt⟩ := List.any_eq_true.1 HPU.out
      have hp := HM.out.oPw
      have h1 : y.id < x.id := by
       obtain ⟨i, hi⟩ := List.getElem?_of_mem hy
       rw [List.getElem?_take] at hi
       split at hi
       ·rename_i hij
        obtain ⟨k1, e1⟩ := List.getElem?_eq_some_iff.1 hi
        obtain ⟨k2, e2⟩ := List.getElem?_eq_some_iff.1 HX.out
        have := (List.pairwise_iff_getElem.1 hp) i j k1 k2 hij
        rw [e1, e2] at this; exact this
       ·cases hi
      simp at hlt; omega)
     have HPL : Hid (putL D.ords o j true ++ [x] = putL D.ords o (j+1) true) := hide (by unfold putL; rw [if_pos rfl, if_pos rfl, HTK.out, ins_c HLT.out])
     have HPU2 : Hid ((D.ords.take (j+1)).any (fun x => decide (o.id < x.id)) = true) := hide (by rw [HTK.out, List.any_append, HPU.out]; rfl)
     go_upto_region 8 with fail
     go_quiet (fail)
     all_goals
      go_upto_region 10 with fail
      go_quiet (fail)
      all_goals
       go_wp2_with (at_builtin; (refine wpList_append_o rfl _ _ rfl x rfl (own_later HOWN.out (((Later.refl wr).drewN _).alloc _)) rfl (Row.new _ 29 (oCells x)) (by have := HLE.out; omega) ((HL.out.drewN _).alloc _).size ?_); intro A5 n5 c5 w5 k1 k2; have HK1 := hide k1; have HL5 : Hid (Later W0 w5) := hide (((HL.out.drewN _).alloc _).grown k2 (fun k hk => (World.ownsRow.lt HOWN.out k hk).1)); clear k1 k2)
       refine ⟨⟨j+1, true, A5, n5, c5, rfl, rfl, by go_num, by omega, HOK2, HPU2, hide (by rw [<- HPL.out]; exact HK1.out), HL5⟩, by simp [intOf]; omega⟩
   | false =>
     by_cases g : o.id < x.id
     ·have t2 : decide (o.id < x.id) = true := by simpa using g
      have HPL : Hid ((putL D.ords o j false ++ [o]) ++ [x] = putL D.ords o (j+1) true) := hide (by unfold putL; rw [if_neg (by simp), if_pos rfl, HTK.out, ins_b HPU.out HIDS.out g])
      have HPU2 : Hid ((D.ords.take (j+1)).any (fun x => decide (o.id < x.id)) = true) := hide (by rw [HTK.out, List.any_append]; simp [g])
      clear g
      go_upto_region 8 with fail
      go_quiet (fail)
      all_goals
       go_upto_region 10 with fail
       go_quiet (fail)
       all_goals
        go_upto_region 12 with (at_builtin; (refine wpList_append_o rfl _ _ rfl o rfl (own_later HOWN.out (((Later.refl wr).drewN _).alloc _)) rfl (Row.new _ 29 (oCells o)) (by have := HLE.out; omega) ((HL.out.drewN _).alloc _).size ?_); intro A5 n5 c5 w5 k1 k2; have HK1 := hide k1; have HL5 : Hid (Later W0 w5) := hide (((HL.out.drewN _).alloc _).grown k2 (fun k hk => (World.ownsRow.lt HOWN.out k hk).1)); clear k1 k2; clear x4 y0 y1 y2 y3 z0 z1 z2 z3; have x4 := (R0.out.later HL5.out).cell (i := 4) rfl; obtain ⟨z0, z1, z2, z3⟩ := HZ.out _ (B0.out.trans HL5.out))
        have HLE5 : Hid ((putL D.ords o j false ++ [o]).length <= 2002) := hide (by rw [List.length_append]; have := HLE.out; simp; omega)
        go_wp2_with (at_builtin; (refine wpList_append_o rfl _ _ rfl x rfl (own_later HK1.out ((Later.refl w5).alloc _)) rfl (Row.new _ 29 (oCells x)) (by have := HLE5.out; omega) (HL5.out.alloc _).size ?_); intro A6 n6 c6 w6 k1 k2; have HK2 := hide k1; have HL6 : Hid (Later W0 w6) := hide ((HL5.out.alloc _).grown k2 (fun k hk => (World.ownsRow.lt HK1.out k hk).1)); clear k1 k2)
        refine ⟨⟨j+1, true, A6, n6, c6, rfl, rfl, by go_num, by omega, HOK2, HPU2, hide (by rw [<- HPL.out]; exact HK2.out), HL6⟩, by simp [intOf]; omega⟩
     ·have t2 : decide (o.id < x.id) = false := by simpa using g
      have HPL : Hid (putL D.ords o j false ++ [x] = putL D.ords o (j+1) false) := hide (by unfold putL; rw [if_neg (by simp), if_neg (by simp), HTK.out])
      have HPU2 : Hid ((D.ords.take (j+1)).any (fun x => decide (o.id < x.id)) = false) := hide (by rw [HTK.out, List.any_append, HPU.out]; simp; omega)
      clear g
      go_upto_region 8 with fail
      go_quiet (fail)
      all_goals
       go_upto_region 10 with fail
       go_quiet (fail)
       all_goals
        go_wp2_with (at_builtin; (refine wpList_append_o rfl _ _ rfl x rfl (own_later HOWN.out (((Later.refl wr).drewN _).alloc _)) rfl (Row.new _ 29 (oCells x)) (by have := HLE.out; omega) ((HL.out.drewN _).alloc _).size ?_); intro A5 n5 c5 w5 k1 k2; have HK1 := hide k1; have HL5 : Hid (Later W0 w5) := hide (((HL.out.drewN _).alloc _).grown k2 (fun k hk => (World.ownsRow.lt HOWN.out k hk).1)); clear k1 k2)
        refine ⟨⟨j+1, false, A5, n5, c5, rfl, rfl, by go_num, by omega, HOK2, HPU2, hide (by rw [<- HPL.out]; exact HK1.out), HL5⟩, by simp [intOf]; omega⟩
  ·have hj1 : ¬ (j : Int) < n3 := by omega
   have HA : Hid (D.ords.take j = D.ords) := hide (List.take_of_length_le (by have := HN3.out; omega))
   rw [HA.out] at HPU HIDS
   have HEX : Hid (¬ D.ords.any (fun x => decide (x.id = o.id)) = true) := hide (by
    rw [List.any_eq_true]
    rintro ⟨x, hx, h⟩
    exact HIDS.out x hx (by simpa using h))
   cases pu with
   | true =>
     have HIN : Hid (putL D.ords o j true = insO D.ords o) := hide (by unfold putL; rw [if_pos rfl, HA.out])
     rw [HIN.out] at HOWN
     clear x4 y0 y1 y2 y3
     have rb := R0.out.later HL.out
     have x0 := rb.cell (i := 0) rfl; have xz0 := rb.frozen 0; have x1 := rb.cell (i := 1) rfl; have xz1 := rb.frozen 1; have x2 := rb.cell (i := 2) rfl; have xz2 := rb.frozen 2; have x3 := rb.cell (i := 3) rfl; have xz3 := rb.frozen 3; have x4 := rb.cell (i := 4) rfl; have xz4 := rb.frozen 4; have x5 := rb.cell (i := 5) rfl; have xz5 := rb.frozen 5
     clear rb
     have y2 := (R1.out.later HL.out).cell (i := 2) rfl
     have rz := R2.out.later HL.out
     have q0 := rz.cell (i := 0) rfl; have qz0 := rz.frozen 0; have q1 := rz.cell (i := 1) rfl; have qz1 := rz.frozen 1; have q2 := rz.cell (i := 2) rfl; have qz2 := rz.frozen 2; have q3 := rz.cell (i := 3) rfl; have qz3 := rz.frozen 3; have q4 := rz.cell (i := 4) rfl; have qz4 := rz.frozen 4; have q5 := rz.cell (i := 5) rfl; have qz5 := rz.frozen 5
     clear rz
     by_cases g1 : o.due < D.now
     ·have t1 : decide (o.due < D.now) = true := by simpa using g1
      have HV : Hid (ordV D o = .error 13) := hide (by unfold ordV; rw [if_neg (by simp; exact HOK0.out), if_neg HEX.out, if_pos g1])
      go_wp2_with fail
      refine bodyPost_ret (results_bkt rfl rfl rfl ((R2.out.later HL.out).put6 _ _ _ _ _ _)) rfl ⟨(B0.out.trans HL.out).only (only6 _ _ _ _ _ _ _) (by omega), by rw [HV.out]; rfl⟩
     have t1 : decide (o.due < D.now) = false := by simpa using g1
     by_cases g2 : 30 <= n3
     ·have t2 : decide ((30 : Int) <= (n3 : Int)) = true := by simp; omega
      have HV : Hid (ordV D o = .error 3) := hide (by unfold ordV; rw [if_neg (by simp; exact HOK0.out), if_neg HEX.out, if_neg g1, if_pos (by rw [<- HN3.out]; exact g2)])
      go_wp2_with fail
      refine bodyPost_ret (results_bkt rfl rfl rfl ((R2.out.later HL.out).put6 _ _ _ _ _ _)) rfl ⟨(B0.out.trans HL.out).only (only6 _ _ _ _ _ _ _) (by omega), by rw [HV.out]; rfl⟩
     have t2 : decide ((30 : Int) <= (n3 : Int)) = false := by simp; omega
     have HV : Hid (ordV D o = .ok { D with ords := insO D.ords o }) := hide (by unfold ordV; rw [if_neg (by simp; exact HOK0.out), if_neg HEX.out, if_neg g1, if_neg (by rw [<- HN3.out]; exact g2)])
     clear g1 g2
     go_wp2_with fail
     have o1 := Only.one w.heap.size wr 4 (.slice Aa na ca)
     have o2 := only6 (W := wr.setCell ⟨w.heap.size, 4, none⟩ (.slice Aa na ca)) (w.heap.size + 1 + 1) (.slice A1 n1 c1) (.int .i64 D.hor) (.int .i64 D.now) (.slice A2 n2 c2) (.slice Aa na ca) (.slice A4 n4 c4)
     have hz := HSZ0.out
     refine bodyPost_ret (results_bkt rfl rfl rfl (((R2.out.later HL.out).only o1 (by omega)).put6 _ _ _ _ _ _)) rfl ⟨((B0.out.trans HL.out).only o1 (Nat.le_refl _)).only o2 (by omega), ?_⟩
     rw [HV.out]
     exact ⟨_, _, _, _, _, _, _, _, _, _, _, _, rfl, put_end (ord_book (HON.out.later (B0.out.trans HL.out)) HOWN.out (by
      have := insO_le D.ords o; have := HN3.out; omega) (fun x hx => by
      unfold insO at hx
      rcases List.mem_append.1 hx with h1 | h1
      ·exact H.out.ofit x (List.mem_filter.1 h1).1
      ·rcases List.mem_cons.1 h1 with rfl | h1
       ·exact HOF.out
       ·exact H.out.ofit x (List.mem_filter.1 h1).1)) o1 o2 (Nat.le_refl _) (by omega) (by omega) (by omega)⟩
   | false =>
     have HIN : Hid (putL D.ords o j false ++ [o] = insO D.ords o) := hide (by unfold putL; rw [if_neg (by simp), HA.out]; exact (ins_e HPU.out HIDS.out).symm)
     go_upto_region 16 with (at_builtin; (refine wpList_append_o rfl _ _ rfl o rfl (own_later HOWN.out ((Later.refl wr).alloc _)) rfl (Row.new _ 29 (oCells o)) (by have := HLE.out; omega) (HL.out.alloc _).size ?_); intro A5 n5 c5 w5 k1 k2; have HK1 := hide k1; have HL5 : Hid (Later W0 w5) := hide ((HL.out.alloc _).grown k2 (fun k hk => (World.ownsRow.lt HOWN.out k hk).1)); clear k1 k2; rw [HIN.out] at HK1; clear x4 y0 y1 y2 y3)
     have rb := R0.out.later HL5.out
     have x0 := rb.cell (i := 0) rfl; have xz0 := rb.frozen 0; have x1 := rb.cell (i := 1) rfl; have xz1 := rb.frozen 1; have x2 := rb.cell (i := 2) rfl; have xz2 := rb.frozen 2; have x3 := rb.cell (i := 3) rfl; have xz3 := rb.frozen 3; have x4 := rb.cell (i := 4) rfl; have xz4 := rb.frozen 4; have x5 := rb.cell (i := 5) rfl; have xz5 := rb.frozen 5
     clear rb
     have y2 := (R1.out.later HL5.out).cell (i := 2) rfl
     have rz := R2.out.later HL5.out
     have q0 := rz.cell (i := 0) rfl; have qz0 := rz.frozen 0; have q1 := rz.cell (i := 1) rfl; have qz1 := rz.frozen 1; have q2 := rz.cell (i := 2) rfl; have qz2 := rz.frozen 2; have q3 := rz.cell (i := 3) rfl; have qz3 := rz.frozen 3; have q4 := rz.cell (i := 4) rfl; have qz4 := rz.frozen 4; have q5 := rz.cell (i := 5) rfl; have qz5 := rz.frozen 5
     clear rz
     by_cases g1 : o.due < D.now
     ·have t1 : decide (o.due < D.now) = true := by simpa using g1
      have HV : Hid (ordV D o = .error 13) := hide (by unfold ordV; rw [if_neg (by simp; exact HOK0.out), if_neg HEX.out, if_pos g1])
      go_wp2_with fail
      refine bodyPost_ret (results_bkt rfl rfl rfl ((R2.out.later HL5.out).put6 _ _ _ _ _ _)) rfl ⟨(B0.out.trans HL5.out).only (only6 _ _ _ _ _ _ _) (by omega), by rw [HV.out]; rfl⟩
     have t1 : decide (o.due < D.now) = false := by simpa using g1
     by_cases g2 : 30 <= n3
     ·have t2 : decide ((30 : Int) <= (n3 : Int)) = true := by simp; omega
      have HV : Hid (ordV D o = .error 3) := hide (by unfold ordV; rw [if_neg (by simp; exact HOK0.out), if_neg HEX.out, if_neg g1, if_pos (by rw [<- HN3.out]; exact g2)])
      go_wp2_with fail
      refine bodyPost_ret (results_bkt rfl rfl rfl ((R2.out.later HL5.out).put6 _ _ _ _ _ _)) rfl ⟨(B0.out.trans HL5.out).only (only6 _ _ _ _ _ _ _) (by omega), by rw [HV.out]; rfl⟩
     have t2 : decide ((30 : Int) <= (n3 : Int)) = false := by simp; omega
     have HV : Hid (ordV D o = .ok { D with ords := insO D.ords o }) := hide (by unfold ordV; rw [if_neg (by simp; exact HOK0.out), if_neg HEX.out, if_neg g1, if_neg (by rw [<- HN3.out]; exact g2)])
     clear g1 g2
     go_wp2_with fail
     have o1 := Only.one w.heap.size w5 4 (.slice A5 n5 c5)
     have o2 := only6 (W := w5.setCell ⟨w.heap.size, 4, none⟩ (.slice A5 n5 c5)) (w.heap.size + 1 + 1) (.slice A1 n1 c1) (.int .i64 D.hor) (.int .i64 D.now) (.slice A2 n2 c2) (.slice A5 n5 c5) (.slice A4 n4 c4)
     have hz := HSZ0.out
     refine bodyPost_ret (results_bkt rfl rfl rfl (((R2.out.later HL5.out).only o1 (by omega)).put6 _ _ _ _ _ _)) rfl ⟨((B0.out.trans HL5.out).only o1 (Nat.le_refl _)).only o2 (by omega), ?_⟩
     rw [HV.out]
     exact ⟨_, _, _, _, _, _, _, _, _, _, _, _, rfl, put_end (ord_book (HON.out.later (B0.out.trans HL5.out)) HK1.out (by
      have := insO_le D.ords o; have := HN3.out; omega) (fun x hx => by
      unfold insO at hx
      rcases List.mem_append.1 hx with h1 | h1
      ·exact H.out.ofit x (List.mem_filter.1 h1).1
      ·rcases List.mem_cons.1 h1 with rfl | h1
       ·exact HOF.out
       ·exact H.out.ofit x (List.mem_filter.1 h1).1)) o1 o2 (Nat.le_refl _) (by omega) (by omega) (by omega)⟩
theorem can_no {l : List POrd} {x : POrd} {j : Nat} {id : Int} (h : l.take (j+1) = l.take j ++ [x]) (e : x.id ≠ id) : (l.take (j+1)).filter (fun y => decide (y.id ≠ id)) = (l.take j).filter (fun y => decide (y.id ≠ id)) ++ [x] /\ (l.take (j+1)).any (fun y => decide (y.id = id)) = (l.take j).any (fun y => decide (y.id = id)) := by
 rw [h, List.filter_append, List.any_append]
 simp [e]
theorem can_yes {l : List POrd} {x : POrd} {j : Nat} {id : Int} (h : l.take (j+1) = l.take j ++ [x]) (e : x.id = id) : (l.take (j+1)).filter (fun y => decide (y.id ≠ id)) = (l.take j).filter (fun y => decide (y.id ≠ id)) /\ (l.take (j+1)).any (fun y => decide (y.id = id)) = true := by
 rw [h, List.filter_append, List.any_append]
 simp [e]
set_option maxHeartbeats 2000000 in
theorem rcancel_calls (w : World) (A1 A2 A3 A4 : Option Addr) (n1 n2 n3 n4 c1 c2 c3 c4 : Nat) (D : PBook) (P : Nat -> Prop) (h : On w P (fun W => BookIn W (.slice A1 n1 c1) (.slice A2 n2 c2) (.slice A3 n3 c3) (.slice A4 n4 c4) D)) (hm : MayP D) (id : Int) :
 Calls Tryz.prog 40 #[.agg #[.slice A1 n1 c1, .int .i64 D.hor, .int .i64 D.now, .slice A2 n2 c2, .slice A3 n3 c3, .slice A4 n4 c4], .int .i64 id] w (RefP P w (canV D id)) := by
 obtain ⟨hn1, hn2, hn3, hn4⟩ := bk_lens h.now
 have H := hide h.now; have HON := hide (h.mono fun b hb hl => (⟨hb, hl⟩ : P b /\ b < w.heap.size)); have HM := hide hm
 have HN3 := hide hn3
 have hn9 : n3 <= 30 := by have := hm.ol; omega
 clear h hm hn1 hn2 hn3 hn4
 obtain ⟨W0, hW0⟩ : ∃ W0, W0 = ((w.alloc (Obj.cells #[Value.slice A1 n1 c1, Value.int .i64 D.hor, Value.int .i64 D.now, Value.slice A2 n2 c2, Value.slice A3 n3 c3, Value.slice A4 n4 c4] 27)).alloc (Obj.cells #[Value.slice none 0 0, Value.int .i64 0, Value.int .i64 0, Value.slice none 0 0, Value.slice none 0 0, Value.slice none 0 0] 27)) := ⟨_, rfl⟩
 obtain ⟨hb0, r0, r1, hsz0⟩ := boxes2 w [.slice A1 n1 c1, .int .i64 D.hor, .int .i64 D.now, .slice A2 n2 c2, .slice A3 n3 c3, .slice A4 n4 c4] [.slice none 0 0, .int .i64 0, .int .i64 0, .slice none 0 0, .slice none 0 0, .slice none 0 0] 27 27 hW0
 have B0 := hide hb0; have HW0 := hide hW0; have HSZ0 := hide hsz0
 have R0 := hide r0; have R1 := hide r1
 clear hb0 hW0 hsz0 r0 r1
 go_enter Tryz.func40, Tryz.ntmps40
 go_upto_region 1 with fail
 rw [<- HW0.out]
 go_wp2_with fail
 go_loopw [6, 7, 8] (fun av pv iv wr => ∃ (j : Nat) (fd : Bool) (Aa : Option Addr) (na ca : Nat), av = .slice Aa na ca /\ pv = .bool fd /\ iv = .int .i64 (j : Int) /\ j <= n3 /\ Hid (∀ (i : Nat) x, i < j -> D.ords[i]? = some x -> x.id = id -> ¬ x.due < D.now) /\ Hid ((D.ords.take j).any (fun x => decide (x.id = id)) = fd) /\ Hid (wr.ownsRow W0.heap.size 29 4 (.slice Aa na ca) ((D.ords.take j).filter fun x => decide (x.id ≠ id)).length (((D.ords.take j).filter fun x => decide (x.id ≠ id)).flatMap oCells)) /\ Hid (Later W0 wr)) (fun _ _ iv _ => (n3 - intOf iv).toNat)
 case atStart => exact ⟨0, false, none, 0, 0, rfl, rfl, rfl, Nat.zero_le _, hide (fun i x hi => by omega), hide rfl, hide (World.ownsRow_nil _ _ _ _), hide (Later.refl _)⟩
 case round =>
  obtain ⟨j, fd, Aa, na, ca, rfl, rfl, rfl, hj, HOK, HFD, HOWN, HL⟩ := hrel
  have x4 := (R0.out.later HL.out).cell (i := 4) rfl
  by_cases hjn : j < n3
  ·obtain ⟨x, hx⟩ : ∃ x, D.ords[j]? = some x := ⟨D.ords[j]'(by have := HN3.out; omega), List.getElem?_eq_getElem _⟩
   obtain ⟨b1, off1, rfl, z0, z1, z2, z3⟩ := orat (H.out.later (B0.out.trans HL.out)).ords hx
   have HX := hide hx
   have HTK : Hid (D.ords.take (j+1) = D.ords.take j ++ [x]) := hide (by rw [List.take_add_one, hx]; rfl)
   have HLE : Hid (((D.ords.take j).filter fun x => decide (x.id ≠ id)).length <= 1000) := hide (by
    have := List.length_filter_le (fun x : POrd => decide (x.id ≠ id)) (D.ords.take j)
    rw [List.length_take] at this; omega)
   have hj0 : (0 : Int) <= (j : Int) := by omega
   have hj1 : (j : Int) < n3 := by omega
   clear hx
   by_cases e : x.id = id
   rotate_left
   ·have t1 : (x.id != id) = true := by simpa using e
    have HC := hide (can_no HTK.out e)
    have HOK2 : Hid (∀ (i : Nat) y, i < j + 1 -> D.ords[i]? = some y -> y.id = id -> ¬ y.due < D.now) := hide (fun i y hi hy => by
     by_cases e2 : i < j
     ·exact HOK.out i y e2 hy
     ·obtain rfl : i = j := by omega
      rw [HX.out] at hy; injection hy with hy; rw [<- hy]; exact fun h => absurd h e)
    clear e
    go_wp2_with (at_builtin; (refine wpList_append_o rfl _ _ rfl x rfl (own_later HOWN.out ((Later.refl wr).alloc _)) rfl (Row.new wr 29 (oCells x)) (by have := HLE.out; omega) (Nat.le_trans HL.out.size (by simp)) ?_); intro A5 n5 c5 w5 k1 k2; have HK1 := hide k1; have HL5 : Hid (Later W0 w5) := hide ((HL.out.alloc _).grown k2 (fun k hk => (World.ownsRow.lt HOWN.out k hk).1)); clear k1 k2)
    refine ⟨⟨j+1, fd, A5, n5, c5, rfl, rfl, by go_num, by omega, HOK2, hide (by rw [HC.out.2]; exact HFD.out), hide (by rw [HC.out.1]; exact HK1.out), HL5⟩, by simp [intOf]; omega⟩
   have t1 : (x.id != id) = false := by simpa using e
   have HE := hide e
   clear e
   have x2 := (R0.out.later HL.out).cell (i := 2) rfl
   by_cases g : x.due < D.now
   ·have t2 : decide (x.due < D.now) = true := by simpa using g
    have HV : Hid (canV D id = .error 13) := hide (by
     unfold canV
     rw [if_neg (by rw [List.any_eq_true.2 ⟨x, List.mem_of_getElem? HX.out, by simpa using HE.out⟩]; simp), if_pos (List.any_eq_true.2 ⟨x, List.mem_of_getElem? HX.out, by simp; exact ⟨HE.out, g⟩⟩)])
    clear g
    have rz := R1.out.later HL.out
    have q0 := rz.cell (i := 0) rfl; have qz0 := rz.frozen 0; have q1 := rz.cell (i := 1) rfl; have qz1 := rz.frozen 1; have q2 := rz.cell (i := 2) rfl; have qz2 := rz.frozen 2; have q3 := rz.cell (i := 3) rfl; have qz3 := rz.frozen 3; have q4 := rz.cell (i := 4) rfl; have qz4 := rz.frozen 4; have q5 := rz.cell (i := 5) rfl; have qz5 := rz.frozen 5
    clear rz
    go_upto_region 9 with fail
    go_quiet (fail)
    all_goals
     go_wp2_with fail
     refine bodyPost_ret (results_bkt rfl rfl rfl ((R1.out.later (HL.out.drewN _)).put6 _ _ _ _ _ _)) rfl ⟨(B0.out.trans (HL.out.drewN _)).only (only6 _ _ _ _ _ _ _) (by omega), by rw [HV.out]; rfl⟩
   ·have t2 : decide (x.due < D.now) = false := by simpa using g
    have HC := hide (can_yes HTK.out HE.out)
    have HOK2 : Hid (∀ (i : Nat) y, i < j + 1 -> D.ords[i]? = some y -> y.id = id -> ¬ y.due < D.now) := hide (fun i y hi hy => by
     by_cases e2 : i < j
     ·exact HOK.out i y e2 hy
     ·obtain rfl : i = j := by omega
      rw [HX.out] at hy; injection hy with hy; rw [<- hy]; exact fun _ => g)
    clear g
    go_upto_region 9 with fail
    go_quiet (fail)
    all_goals
     go_wp2_with fail
     refine ⟨⟨j+1, true, Aa, na, ca, rfl, rfl, by go_num, by omega, HOK2, hide HC.out.2, hide (by rw [HC.out.1]; exact own_later HOWN.out ((Later.refl _).drewN _)), hide (HL.out.drewN _)⟩, by simp [intOf]; omega⟩
  ·have hj1 : ¬ (j : Int) < n3 := by omega
   have HA : Hid (D.ords.take j = D.ords) := hide (List.take_of_length_le (by have := HN3.out; omega))
   rw [HA.out] at HFD HOWN
   cases fd with
   | false =>
     have HV : Hid (canV D id = .error 8) := hide (by unfold canV; rw [if_pos HFD.out])
     have rz := R1.out.later HL.out
     have q0 := rz.cell (i := 0) rfl; have qz0 := rz.frozen 0; have q1 := rz.cell (i := 1) rfl; have qz1 := rz.frozen 1; have q2 := rz.cell (i := 2) rfl; have qz2 := rz.frozen 2; have q3 := rz.cell (i := 3) rfl; have qz3 := rz.frozen 3; have q4 := rz.cell (i := 4) rfl; have qz4 := rz.frozen 4; have q5 := rz.cell (i := 5) rfl; have qz5 := rz.frozen 5
     clear rz
     go_wp2_with fail
     refine bodyPost_ret (results_bkt rfl rfl rfl ((R1.out.later HL.out).put6 _ _ _ _ _ _)) rfl ⟨(B0.out.trans HL.out).only (only6 _ _ _ _ _ _ _) (by omega), by rw [HV.out]; rfl⟩
   | true =>
     have HV : Hid (canV D id = .ok { D with ords := D.ords.filter fun x => decide (x.id ≠ id) }) := hide (by
      unfold canV
      rw [if_neg (by rw [HFD.out]; simp), if_neg]
      rw [List.any_eq_true]
      rintro ⟨x, hx, h⟩
      obtain ⟨i, hi⟩ := List.getElem?_of_mem hx
      simp at h
      exact HOK.out i x (by have := (List.getElem?_eq_some_iff.1 hi).1; have := HN3.out; omega) hi h.1 h.2)
     have rb := R0.out.later HL.out
     have x0 := rb.cell (i := 0) rfl; have xz0 := rb.frozen 0; have x1 := rb.cell (i := 1) rfl; have xz1 := rb.frozen 1; have x2 := rb.cell (i := 2) rfl; have xz2 := rb.frozen 2; have x3 := rb.cell (i := 3) rfl; have xz3 := rb.frozen 3; have x5 := rb.cell (i := 5) rfl; have xz5 := rb.frozen 5; have xz4 := rb.frozen 4
     clear rb
     have rz := R1.out.later HL.out
     have q0 := rz.cell (i := 0) rfl; have qz0 := rz.frozen 0; have q1 := rz.cell (i := 1) rfl; have qz1 := rz.frozen 1; have q2 := rz.cell (i := 2) rfl; have qz2 := rz.frozen 2; have q3 := rz.cell (i := 3) rfl; have qz3 := rz.frozen 3; have q4 := rz.cell (i := 4) rfl; have qz4 := rz.frozen 4; have q5 := rz.cell (i := 5) rfl; have qz5 := rz.frozen 5
     clear rz
     go_wp2_with fail
     have o1 := Only.one w.heap.size wr 4 (.slice Aa na ca)
     have o2 := only6 (W := wr.setCell ⟨w.heap.size, 4, none⟩ (.slice Aa na ca)) (w.heap.size + 1) (.slice A1 n1 c1) (.int .i64 D.hor) (.int .i64 D.now) (.slice A2 n2 c2) (.slice Aa na ca) (.slice A4 n4 c4)
     have hz := HSZ0.out
     refine bodyPost_ret (results_bkt rfl rfl rfl (((R1.out.later HL.out).only o1 (by omega)).put6 _ _ _ _ _ _)) rfl ⟨((B0.out.trans HL.out).only o1 (Nat.le_refl _)).only o2 (by omega), ?_⟩
     rw [HV.out]
     exact ⟨_, _, _, _, _, _, _, _, _, _, _, _, rfl, put_end (ord_book (HON.out.later (B0.out.trans HL.out)) HOWN.out (by
      have := List.length_filter_le (fun x : POrd => decide (x.id ≠ id)) D.ords
      have := H.out.ol; omega) (fun x hx => H.out.ofit x (List.mem_filter.1 hx).1)) o1 o2 (Nat.le_refl _) (by omega) (by omega) (by omega)⟩
end Go.Proofs.YtncbebfhakcgdaaGreat
namespace Go.Proofs.YtncbebfhakcgdaaGreat
open Go.RowKit Go.Shelf
attribute [local go_sem ↓] Go.wp_at_zero Go.wp_at_succ
theorem iCells_lt (x : Int) : (iCells x).length = 1 := rfl
theorem wpList_append_n {w : World} {ops : Array Oper} {rest : List Oper} {o : Oper} {a : Act} {Q : Exit -> Act -> World -> Prop} (hgd : o.guard = none) (s x : Operand) (ho : o.op = .call { callee := .builtin .append, args := #[s, x], argTypes := #[23, 23] })
 {lo : Nat} {v : Value} {l : List Int} {g : Nat} (z : Int) (hs : a.eval s = v) (hown : w.ownsRow lo 3 1 v l.length (l.flatMap iCells)) (hx : a.eval x = .slice (some ⟨g, 0, none⟩) 1 1) (hrow : Row w g 3 (iCells z)) (hlen : l.length <= 3000000) (hbase : lo <= w.heap.size)
 (h : ∀ A n c w', w'.ownsRow lo 3 1 (.slice A n c) (l ++ [z]).length ((l ++ [z]).flatMap iCells) -> w.grownBy w' v.ownBlock -> wpList Tryz.prog ops Q rest (a.put o.dst (.slice A n c)) w') : wpList Tryz.prog ops Q (o :: rest) a w := by
 refine wpList_append_src hgd s x _ ho lo 3 _ 1 8 Tryz.underlying23 info_int rfl (by omega) (by omega) v l.length _ hs hown _ 1 (iCells z) hx (Src.row hrow rfl (by simp [iCells, Value.oneCell'])) (by omega) hbase ?_
 intro v' w' k1 k2 k3
 obtain ⟨A, c, rfl⟩ := own_form k1
 refine h A _ c w' ?_ k2
 rw [List.length_append, List.flatMap_append, List.flatMap_cons, List.flatMap_nil, List.append_nil]; exact k1
def capL (l : List Int) (p : Nat) (q : Int) (j : Nat) : List Int := (List.range j).map fun t => if t = p then q else l.getD t 0
theorem capL_succ (l : List Int) (p : Nat) (q : Int) (j : Nat) : capL l p q (j+1) = capL l p q j ++ [if j = p then q else l.getD j 0] := by unfold capL; rw [List.range_succ, List.map_append]; rfl
theorem capL_len (l : List Int) (p : Nat) (q : Int) (j : Nat) : (capL l p q j).length = j := by unfold capL; simp
theorem ext_getD {a b : List Int} (h : a.length = b.length) (k : ∀ t, a.getD t 0 = b.getD t 0) : a = b := by
 refine List.ext_getElem h fun i h1 h2 => ?_
 have := k i
 rw [List.getD_eq_getElem?_getD, List.getD_eq_getElem?_getD, List.getElem?_eq_getElem h1, List.getElem?_eq_getElem h2] at this
 exact this
theorem capL_end {l : List Int} {p : Nat} {q : Int} {j : Nat} (h : j = max l.length (p+1)) : capL l p q j = setC l p q := by
 refine ext_getD (by rw [capL_len, setC_len, h]) fun t => ?_
 rw [setC_get]
 unfold capL
 rw [List.getD_eq_getElem?_getD, List.getElem?_map]
 by_cases ht : t < j
 ·rw [List.getElem?_range ht]; rfl
 ·rw [List.getElem?_eq_none (by simp; omega)]
  have h2 : ¬ t = p := by omega
  rw [if_neg h2, List.getD_eq_getElem?_getD, List.getElem?_eq_none (by omega)]; rfl
theorem cap_book {w : World} {P : Nat -> Prop} {n s : Nat} {A1 A2 A3 A4 A : Option Addr} {n1 n2 n3 n4 c1 c2 c3 c4 na ca : Nat} {D : PBook} {l : List Int} (h : On w (fun b => P b /\ b < n) (fun W => BookIn W (.slice A1 n1 c1) (.slice A2 n2 c2) (.slice A3 n3 c3) (.slice A4 n4 c4) D)) (ho : w.ownsRow s 3 1 (.slice A na ca) l.length (l.flatMap iCells)) (hl : l.length <= 1000) (hf : ∀ x ∈ l, IFit x) :
 On w (fun b => (P b /\ b < n) ∨ s <= b) (fun W => BookIn W (.slice A1 n1 c1) (.slice A na ca) (.slice A3 n3 c3) (.slice A4 n4 c4) { D with caps := l }) :=
 ((h.mono fun b hb _ => Or.inl hb).and ((On.sq iCells_lt ho).mono fun b hb _ => Or.inr hb)).map fun W k => { k.1 with caps := k.2, cl := hl, cfit := hf }
set_option maxHeartbeats 2000000 in
theorem rcapacity_calls (w : World) (A1 A2 A3 A4 : Option Addr) (n1 n2 n3 n4 c1 c2 c3 c4 : Nat) (D : PBook) (P : Nat -> Prop) (h : On w P (fun W => BookIn W (.slice A1 n1 c1) (.slice A2 n2 c2) (.slice A3 n3 c3) (.slice A4 n4 c4) D)) (hm : MayP D) (p q : Int) :
 Calls Tryz.prog 41 #[.agg #[.slice A1 n1 c1, .int .i64 D.hor, .int .i64 D.now, .slice A2 n2 c2, .slice A3 n3 c3, .slice A4 n4 c4], .int .i64 p, .int .i64 q] w (RefP P w (capS D p q)) := by
 obtain ⟨hn1, hn2, hn3, hn4⟩ := bk_lens h.now
 have H := hide h.now; have HON := hide (h.mono fun b hb hl => (⟨hb, hl⟩ : P b /\ b < w.heap.size)); have HM := hide hm
 have HN2 := hide hn2
 have hn9 : n2 <= 40 := by have := hm.head.cl; omega
 clear h hm hn1 hn2 hn3 hn4
 obtain ⟨W0, hW0⟩ : ∃ W0, W0 = ((w.alloc (Obj.cells #[Value.slice A1 n1 c1, Value.int .i64 D.hor, Value.int .i64 D.now, Value.slice A2 n2 c2, Value.slice A3 n3 c3, Value.slice A4 n4 c4] 27)).alloc (Obj.cells #[Value.slice none 0 0, Value.int .i64 0, Value.int .i64 0, Value.slice none 0 0, Value.slice none 0 0, Value.slice none 0 0] 27)) := ⟨_, rfl⟩
 obtain ⟨hb0, r0, r1, hsz0⟩ := boxes2 w [.slice A1 n1 c1, .int .i64 D.hor, .int .i64 D.now, .slice A2 n2 c2, .slice A3 n3 c3, .slice A4 n4 c4] [.slice none 0 0, .int .i64 0, .int .i64 0, .slice none 0 0, .slice none 0 0, .slice none 0 0] 27 27 hW0
 have B0 := hide hb0; have HW0 := hide hW0; have HSZ0 := hide hsz0
 have R0 := hide r0; have R1 := hide r1
 clear hb0 hW0 hsz0 r0 r1
 go_enter Tryz.func41, Tryz.ntmps41
 go_upto_region 1 with fail
 rw [<- HW0.out]
 have r_x := R0.out.later (Later.refl W0)
 have x0 := r_x.cell (i := 0) rfl; have x1 := r_x.cell (i := 1) rfl; have x2 := r_x.cell (i := 2) rfl; have x3 := r_x.cell (i := 3) rfl; have x4 := r_x.cell (i := 4) rfl; have x5 := r_x.cell (i := 5) rfl
 clear r_x
 by_cases g1 : q < 0
 ·have t1 : decide (q < 0) = true := by simpa using g1
  have HV : Hid (capS D p q = .error 1) := hide (by unfold capS; rw [if_pos (by omega)])
  have rz := R1.out.later (Later.refl W0)
  have q0 := rz.cell (i := 0) rfl; have qz0 := rz.frozen 0; have q1 := rz.cell (i := 1) rfl; have qz1 := rz.frozen 1; have q2 := rz.cell (i := 2) rfl; have qz2 := rz.frozen 2; have q3 := rz.cell (i := 3) rfl; have qz3 := rz.frozen 3; have q4 := rz.cell (i := 4) rfl; have qz4 := rz.frozen 4; have q5 := rz.cell (i := 5) rfl; have qz5 := rz.frozen 5
  clear rz
  go_wp2_with fail
  refine bodyPost_ret (results_bkt rfl rfl rfl ((R1.out.later (Later.refl W0)).put6 _ _ _ _ _ _)) rfl ⟨(B0.out.trans (Later.refl W0)).only (only6 _ _ _ _ _ _ _) (by omega), by rw [HV.out]; rfl⟩
 have t1 : decide (q < 0) = false := by simpa using g1
 by_cases g2 : 100 < q
 ·have t2 : decide (100 < q) = true := by simpa using g2
  have HV : Hid (capS D p q = .error 1) := hide (by unfold capS; rw [if_pos (by omega)])
  have rz := R1.out.later (Later.refl W0)
  have q0 := rz.cell (i := 0) rfl; have qz0 := rz.frozen 0; have q1 := rz.cell (i := 1) rfl; have qz1 := rz.frozen 1; have q2 := rz.cell (i := 2) rfl; have qz2 := rz.frozen 2; have q3 := rz.cell (i := 3) rfl; have qz3 := rz.frozen 3; have q4 := rz.cell (i := 4) rfl; have qz4 := rz.frozen 4; have q5 := rz.cell (i := 5) rfl; have qz5 := rz.frozen 5
  clear rz
  go_wp2_with fail
  refine bodyPost_ret (results_bkt rfl rfl rfl ((R1.out.later (Later.refl W0)).put6 _ _ _ _ _ _)) rfl ⟨(B0.out.trans (Later.refl W0)).only (only6 _ _ _ _ _ _ _) (by omega), by rw [HV.out]; rfl⟩
 have t2 : decide (100 < q) = false := by simpa using g2
 by_cases g3 : perE D p = 0
 rotate_left
 ·have t3 : (perE D p != 0) = true := by simpa using g3
  have HV : Hid (capS D p q = .error (perE D p)) := hide (by unfold capS; rw [if_neg (by omega), if_pos g3])
  have rz := R1.out.later (Later.refl W0)
  have q0 := rz.cell (i := 0) rfl; have qz0 := rz.frozen 0; have q1 := rz.cell (i := 1) rfl; have qz1 := rz.frozen 1; have q2 := rz.cell (i := 2) rfl; have qz2 := rz.frozen 2; have q3 := rz.cell (i := 3) rfl; have qz3 := rz.frozen 3; have q4 := rz.cell (i := 4) rfl; have qz4 := rz.frozen 4; have q5 := rz.cell (i := 5) rfl; have qz5 := rz.frozen 5
  clear rz
  go_wp2_with (go_at_call 85; (refine (rperiod_calls _ A1 A2 A3 A4 n1 n2 n3 n4 c1 c2 c3 c4 D (H.out.later B0.out) p).mono ?_); rintro e w1 ⟨rfl, b1⟩; replace q0 := Later.cell b1 q0; replace qz0 := (R1.out.later b1).frozen 0; replace q1 := Later.cell b1 q1; replace qz1 := (R1.out.later b1).frozen 1; replace q2 := Later.cell b1 q2; replace qz2 := (R1.out.later b1).frozen 2; replace q3 := Later.cell b1 q3; replace qz3 := (R1.out.later b1).frozen 3; replace q4 := Later.cell b1 q4; replace qz4 := (R1.out.later b1).frozen 4; replace q5 := Later.cell b1 q5; replace qz5 := (R1.out.later b1).frozen 5)
  refine bodyPost_ret (results_bkt rfl rfl rfl ((R1.out.later b1).put6 _ _ _ _ _ _)) rfl ⟨(B0.out.trans b1).only (only6 _ _ _ _ _ _ _) (by omega), by rw [HV.out]; rfl⟩
 have t3 : (perE D p != 0) = false := by simpa using g3
 obtain ⟨p0, p39, -, -⟩ := perE_ok g3
 obtain ⟨m, rfl⟩ : ∃ m : Nat, p = m := ⟨p.toNat, by omega⟩
 have HV : Hid (capS D m q = .ok { D with caps := setC D.caps m q }) := hide (by unfold capS; rw [if_neg (by omega), if_neg (by simpa using g3)]; rfl)
 have HQ : Hid (0 <= q /\ q <= 100) := hide (by omega)
 have hm39 : m <= 39 := by omega
 clear g1 g2 g3 p0 p39
 go_wp2_with (go_at_call 85; (refine (rperiod_calls _ A1 A2 A3 A4 n1 n2 n3 n4 c1 c2 c3 c4 D (H.out.later B0.out) m).mono ?_); rintro e w1 ⟨rfl, b1⟩)
 have HL1 := hide b1
 clear b1 t1 t2 t3 x0 x1 x2 x3 x4 x5
 go_loopw [9, 10] (fun av iv wr => ∃ (j : Nat) (Aa : Option Addr) (na ca : Nat), av = .slice Aa na ca /\ iv = .int .i64 (j : Int) /\ Hid (j <= max n2 (m+1)) /\ Hid (wr.ownsRow W0.heap.size 3 1 (.slice Aa na ca) (capL D.caps m q j).length ((capL D.caps m q j).flatMap iCells)) /\ Hid (Later W0 wr)) (fun _ iv _ => (100 - intOf iv).toNat)
 case atStart => exact ⟨0, none, 0, 0, rfl, rfl, hide (Nat.zero_le _), hide (World.ownsRow_nil _ _ _ _), HL1⟩
 case round =>
  obtain ⟨j, Aa, na, ca, rfl, rfl, HJ, HOWN, HL⟩ := hrel
  have x3 := (R0.out.later HL.out).cell (i := 3) rfl
  have hj100 : j <= 41 := by have := HJ.out; omega
  by_cases hjn : j < n2
  ·obtain ⟨x, hx⟩ : ∃ x, D.caps[j]? = some x := ⟨D.caps[j]'(by have := HN2.out; omega), List.getElem?_eq_getElem _⟩
   obtain ⟨b1, off1, rfl, y0⟩ := (H.out.later (B0.out.trans HL.out)).caps.at1 hx
   have HX : Hid (D.caps.getD j 0 = x) := hide (by rw [List.getD_eq_getElem?_getD, hx]; rfl)
   have hj0 : (0 : Int) <= (j : Int) := by omega
   have hj1 : (j : Int) < n2 := by omega
   have u1 : decide (j < n2) = true := by simpa using hjn
   clear hx
   by_cases e : j = m
   ·have t1 : ((j : Int) == (m : Int)) = true := by simp; omega
    have HE := hide e
    clear e
    go_wp2_with (at_builtin; (refine wpList_append_n rfl _ _ rfl (q) rfl (own_later HOWN.out ((Later.refl wr).alloc _)) rfl (Row.new wr 3 (iCells (q))) (by rw [capL_len]; have := HJ.out; omega) (Nat.le_trans HL.out.size (by simp)) ?_); intro A5 n5 c5 w5 k1 k2; have HK1 := hide k1; have HL5 : Hid (Later W0 w5) := hide ((HL.out.alloc _).grown k2 (fun k hk => (World.ownsRow.lt HOWN.out k hk).1)); clear k1 k2)
    refine ⟨⟨j+1, A5, n5, c5, rfl, by go_num, hide (by have := HJ.out; omega), hide ?_, HL5⟩, by simp [intOf]; omega⟩
    rw [capL_succ, if_pos HE.out]; exact HK1.out
   ·have t1 : ((j : Int) == (m : Int)) = false := by simp; omega
    have HE := hide e
    clear e
    go_wp2_with (at_builtin; (refine wpList_append_n rfl _ _ rfl (x) rfl (own_later HOWN.out ((Later.refl wr).alloc _)) rfl (Row.new wr 3 (iCells (x))) (by rw [capL_len]; have := HJ.out; omega) (Nat.le_trans HL.out.size (by simp)) ?_); intro A5 n5 c5 w5 k1 k2; have HK1 := hide k1; have HL5 : Hid (Later W0 w5) := hide ((HL.out.alloc _).grown k2 (fun k hk => (World.ownsRow.lt HOWN.out k hk).1)); clear k1 k2)
    refine ⟨⟨j+1, A5, n5, c5, rfl, by go_num, hide (by have := HJ.out; omega), hide ?_, HL5⟩, by simp [intOf]; omega⟩
    rw [capL_succ, if_neg HE.out, HX.out]; exact HK1.out
  ·have u1 : decide (j < n2) = false := by simpa using hjn
   have hj1 : ¬ (j : Int) < n2 := by omega
   have HX : Hid (D.caps.getD j 0 = 0) := hide (by rw [List.getD_eq_getElem?_getD, List.getElem?_eq_none (by have := HN2.out; omega)]; rfl)
   by_cases e2 : j <= m
   ·have u2 : decide (j <= m) = true := by simpa using e2
    by_cases e : j = m
    ·have t1 : ((j : Int) == (m : Int)) = true := by simp; omega
     have HE := hide e
     clear e
     go_wp2_with (at_builtin; (refine wpList_append_n rfl _ _ rfl (q) rfl (own_later HOWN.out ((Later.refl wr).alloc _)) rfl (Row.new wr 3 (iCells (q))) (by rw [capL_len]; have := HJ.out; omega) (Nat.le_trans HL.out.size (by simp)) ?_); intro A5 n5 c5 w5 k1 k2; have HK1 := hide k1; have HL5 : Hid (Later W0 w5) := hide ((HL.out.alloc _).grown k2 (fun k hk => (World.ownsRow.lt HOWN.out k hk).1)); clear k1 k2)
     refine ⟨⟨j+1, A5, n5, c5, rfl, by go_num, hide (by have := HJ.out; omega), hide ?_, HL5⟩, by simp [intOf]; omega⟩
     rw [capL_succ, if_pos HE.out]; exact HK1.out
    ·have t1 : ((j : Int) == (m : Int)) = false := by simp; omega
     have HE := hide e
     clear e
     go_wp2_with (at_builtin; (refine wpList_append_n rfl _ _ rfl (0) rfl (own_later HOWN.out ((Later.refl wr).alloc _)) rfl (Row.new wr 3 (iCells (0))) (by rw [capL_len]; have := HJ.out; omega) (Nat.le_trans HL.out.size (by simp)) ?_); intro A5 n5 c5 w5 k1 k2; have HK1 := hide k1; have HL5 : Hid (Later W0 w5) := hide ((HL.out.alloc _).grown k2 (fun k hk => (World.ownsRow.lt HOWN.out k hk).1)); clear k1 k2)
     refine ⟨⟨j+1, A5, n5, c5, rfl, by go_num, hide (by have := HJ.out; omega), hide ?_, HL5⟩, by simp [intOf]; omega⟩
     rw [capL_succ, if_neg HE.out, HX.out]; exact HK1.out
   ·have u2 : decide (j <= m) = false := by simpa using e2
    have HEND : Hid (capL D.caps m q j = setC D.caps m q) := hide (capL_end (by have := HJ.out; have := HN2.out; omega))
    rw [HEND.out] at HOWN
    have rb := R0.out.later HL.out
    have x0 := rb.cell (i := 0) rfl; have xz0 := rb.frozen 0; have x1 := rb.cell (i := 1) rfl; have xz1 := rb.frozen 1; have x2 := rb.cell (i := 2) rfl; have xz2 := rb.frozen 2; have x4 := rb.cell (i := 4) rfl; have xz4 := rb.frozen 4; have x5 := rb.cell (i := 5) rfl; have xz5 := rb.frozen 5; have xz3 := rb.frozen 3
    clear rb
    have rz := R1.out.later HL.out
    have q0 := rz.cell (i := 0) rfl; have qz0 := rz.frozen 0; have q1 := rz.cell (i := 1) rfl; have qz1 := rz.frozen 1; have q2 := rz.cell (i := 2) rfl; have qz2 := rz.frozen 2; have q3 := rz.cell (i := 3) rfl; have qz3 := rz.frozen 3; have q4 := rz.cell (i := 4) rfl; have qz4 := rz.frozen 4; have q5 := rz.cell (i := 5) rfl; have qz5 := rz.frozen 5
    clear rz
    go_wp2_with fail
    have o1 := Only.one w.heap.size wr 3 (.slice Aa na ca)
    have o2 := only6 (W := wr.setCell ⟨w.heap.size, 3, none⟩ (.slice Aa na ca)) (w.heap.size + 1) (.slice A1 n1 c1) (.int .i64 D.hor) (.int .i64 D.now) (.slice Aa na ca) (.slice A3 n3 c3) (.slice A4 n4 c4)
    have hz := HSZ0.out
    refine bodyPost_ret (results_bkt rfl rfl rfl (((R1.out.later HL.out).only o1 (by omega)).put6 _ _ _ _ _ _)) rfl ⟨((B0.out.trans HL.out).only o1 (Nat.le_refl _)).only o2 (by omega), ?_⟩
    rw [HV.out]
    have hq := HQ.out
    exact ⟨_, _, _, _, _, _, _, _, _, _, _, _, rfl, put_end (cap_book (HON.out.later (B0.out.trans HL.out)) HOWN.out (by rw [setC_len]; have := HN2.out; omega) (fun x hx => by
     rcases setC_mem hx with h | h | h
     ·exact H.out.cfit x h
     ·subst h; unfold IFit; omega
     ·subst h; unfold IFit; omega)) o1 o2 (Nat.le_refl _) (by omega) (by omega) (by omega)⟩
end Go.Proofs.YtncbebfhakcgdaaGreat
