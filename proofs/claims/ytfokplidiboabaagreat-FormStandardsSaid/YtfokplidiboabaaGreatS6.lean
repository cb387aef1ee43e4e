/- Fractions: Plain, both, Add, Sub, Mul. -/
import Derived.Test.YtfokplidiboabaaGreatS5
import Derived.Test.YtfokplidiboabaaGreatS1
import Derived.Laws.AppendOwnNone
import Derived.Maps.AppendAt
import Derived.Test.YtfokplidiboabaaGreatS4
set_option linter.unusedVariables false
set_option linter.unusedSimpArgs false
set_option maxRecDepth 100000
namespace Go.Proofs.YtfokplidiboabaaGreat
open Go.RowKit Go.Shelf
attribute [local go_sem ↓] Go.wp_at_zero Go.wp_at_succ
structure Enters (f : FuncId) : Prop where
 out : ∀ (w : World) (args : Array Value), (callFunc f args).run Tryz.prog w = .ok (.enter f args) w
theorem RawR.sized {w : World} {v : Value} {q : Rat} {k : Nat} (h : RawR w v q k) : Sized q (k+1) := by
 obtain ⟨a, A, n, c, b, A', n', c', x, y, e, h1, h2, rfl⟩ := h
 exact sized_ratOf h1.limbs_le h2.limbs_le
set_option maxHeartbeats 2000000 in
theorem rplain_calls (w : World) (v : Value) (q : Rat) (k : Nat) (h : RawR w v q k) (hk : k <= 300000000) :
 Calls Tryz.prog 125 #[v] w (Ret w fun w' v => OwnR w' w.heap.size v q) := by
 obtain ⟨sa, A1, n1, c1, sa', A1', n1', c1', x, y, rfl, hx, hy, hq⟩ := h
 have HX := hide hx; have HY := hide hy; have HQ := hide hq
 clear hx hy hq
 by_cases hpos : 0 < y
 ·have hq : q = Rat.divInt x y := by rw [HQ.out, ratOf_pos hpos]
  have HQ2 := hide hq
  clear hq
  go_enter Tryz.func125, Tryz.ntmps125
  go_wp2_with fail
  obtain ⟨W0, hW0⟩ : ∃ W0, W0 = ((w.alloc (Obj.cells #[Value.bool sa, Value.slice A1 n1 c1, Value.bool sa', Value.slice A1' n1' c1'] 36)).alloc (Obj.cells #[Value.bool false, Value.slice none 0 0, Value.bool false, Value.slice none 0 0] 36)) := ⟨_, rfl⟩
  obtain ⟨hb0, r1, r2, hsz⟩ := boxes2 w [.bool sa, .slice A1 n1 c1, .bool sa', .slice A1' n1' c1'] [.bool false, .slice none 0 0, .bool false, .slice none 0 0] 36 36 hW0
  rw [<- hW0]
  have R1 := hide r1; have R2 := hide r2; have B0 := hide hb0
  clear hW0 r1 r2 hb0
  refine (may_calls _ sa _ undef _ _ _ sa' y k (HY.out.later B0.out) ⟨_, _, _, rfl⟩ (by omega)).mono ?_
  rintro e w1 ⟨rfl, b1⟩
  rw [show decide (0 < y) = true by simpa using hpos]
  obtain ⟨d1, d2, d3, d4, d5, d6, d7, d8⟩ := row_cells4 (R1.out.later b1)
  go_wp2_with fail
  refine (by_calls _ _ _ x y k (HX.out.later (B0.out.trans b1)) (HY.out.later (B0.out.trans b1)) (by omega) (by omega) q HQ2.out).mono ?_
  rintro e w2 ⟨v2, rfl, o2, b2⟩
  obtain ⟨s2, P2, q2, e2, P2', q2', e2', rfl, o2⟩ := o2.open_; have O2 := hide o2; clear o2
  clear d1 d2 d3 d4 d5 d6 d7 d8
  have hb := b1.trans b2
  obtain ⟨d1, d2, d3, d4, d5, d6, d7, d8⟩ := row_cells4 (R2.out.later hb)
  have hrow := R2.out.later hb
  have hL := B0.out.trans hb
  have hs1 := b1.size
  have HR := hide hrow
  clear hrow
  go_wp2_with fail
  refine bodyPost_ret (results_rat rfl rfl (HR.out.four _ _ _ _)) rfl ?_
  have oo := Only.four (w.heap.size + 1) w2 (.bool s2) (.slice P2 q2 e2) (.bool false) (.slice P2' q2' e2')
  exact ⟨_, rfl, (O2.out.only oo (by omega)).weaken (by omega), hL.only oo (by omega)⟩
 ·have hq : q = 0 := by rw [HQ.out, ratOf_not hpos]
  subst hq
  go_enter Tryz.func125, Tryz.ntmps125
  go_wp2_with fail
  obtain ⟨W0, hW0⟩ : ∃ W0, W0 = ((w.alloc (Obj.cells #[Value.bool sa, Value.slice A1 n1 c1, Value.bool sa', Value.slice A1' n1' c1'] 36)).alloc (Obj.cells #[Value.bool false, Value.slice none 0 0, Value.bool false, Value.slice none 0 0] 36)) := ⟨_, rfl⟩
  obtain ⟨hb0, r1, r2, hsz⟩ := boxes2 w [.bool sa, .slice A1 n1 c1, .bool sa', .slice A1' n1' c1'] [.bool false, .slice none 0 0, .bool false, .slice none 0 0] 36 36 hW0
  rw [<- hW0]
  have R1 := hide r1; have R2 := hide r2; have B0 := hide hb0
  clear hW0 r1 r2 hb0
  refine (may_calls _ sa _ undef _ _ _ sa' y k (HY.out.later B0.out) ⟨_, _, _, rfl⟩ (by omega)).mono ?_
  rintro e w1 ⟨rfl, b1⟩
  rw [show decide (0 < y) = false by simpa using hpos]
  go_wp2_with fail
  refine (zero_calls _).mono ?_
  rintro e w2 ⟨v2, rfl, o2, b2⟩
  obtain ⟨s2, P2, q2, e2, P2', q2', e2', rfl, o2⟩ := o2.open_; have O2 := hide o2; clear o2
  have hb := b1.trans b2
  obtain ⟨d1, d2, d3, d4, d5, d6, d7, d8⟩ := row_cells4 (R2.out.later hb)
  have hL := B0.out.trans hb
  have hs1 := b1.size
  have HR := hide (R2.out.later hb)
  go_wp2_with fail
  refine bodyPost_ret (results_rat rfl rfl (HR.out.four _ _ _ _)) rfl ?_
  have oo := Only.four (w.heap.size + 1) w2 (.bool s2) (.slice P2 q2 e2) (.bool false) (.slice P2' q2' e2')
  exact ⟨_, rfl, (O2.out.only oo (by omega)).weaken (by omega), hL.only oo (by omega)⟩
set_option maxHeartbeats 2000000 in
theorem both_calls (w : World) (va vb : Value) (a b q : Rat) (k m : Nat) (ha : RawR w va a k) (hb : RawR w vb b m) (hkm : k + m <= 200000000) (f : FuncId) (hf : Enters f)
 (ht : ∀ W v1 v2, PlnR W v1 a (k+1) -> PlnR W v2 b (m+1) -> Calls Tryz.prog f #[v1, v2] W (Ret W fun w' v => OwnR w' W.heap.size v q)) :
 Calls Tryz.prog 132 #[va, vb, .func (.func f) #[] #[]] w (Ret w fun w' v => OwnR w' w.heap.size v q) := by
 have SA := hide ha.sized; have SB := hide hb.sized
 have HA := hide ha; have HB := hide hb; have HT := hide ht
 have hen := hf.out
 obtain ⟨sa, A1, n1, c1, sa', A1', n1', c1', rfl⟩ := ha.open_
 obtain ⟨sb, A2, n2, c2, sb', A2', n2', c2', rfl⟩ := hb.open_
 clear ha hb ht
 go_enter Tryz.func132, Tryz.ntmps132
 go_upto_region 1 with fail
 obtain ⟨W0, hW0⟩ : ∃ W0, W0 = (((w.alloc (Obj.cells #[Value.bool sa, Value.slice A1 n1 c1, Value.bool sa', Value.slice A1' n1' c1'] 36)).alloc (Obj.cells #[Value.bool sb, Value.slice A2 n2 c2, Value.bool sb', Value.slice A2' n2' c2'] 36)).alloc (Obj.cells #[Value.bool false, Value.slice none 0 0, Value.bool false, Value.slice none 0 0] 36)) := ⟨_, rfl⟩
 obtain ⟨hb0, r1, r2, r3, hsz⟩ := boxes3 w [.bool sa, .slice A1 n1 c1, .bool sa', .slice A1' n1' c1'] [.bool sb, .slice A2 n2 c2, .bool sb', .slice A2' n2' c2'] [.bool false, .slice none 0 0, .bool false, .slice none 0 0] 36 36 36 hW0
 rw [<- hW0]
 have hb0 := hb0.drew; have r1 := r1.drew; have r2 := r2.drew; have r3 := r3.drew
 have hsz : W0.drew.heap.size = w.heap.size + 3 := hsz
 have R3 := hide r3; have B0 := hide hb0
 have HS1 : Hid (∀ w', Later W0.drew w' -> w'.cell? ⟨w.heap.size, 0, none⟩ = some (.bool sa) /\ w'.cell? ⟨w.heap.size, 1, none⟩ = some (.slice A1 n1 c1) /\ w'.cell? ⟨w.heap.size, 2, none⟩ = some (.bool sa') /\ w'.cell? ⟨w.heap.size, 3, none⟩ = some (.slice A1' n1' c1') /\ w'.cell? ⟨w.heap.size + 1, 0, none⟩ = some (.bool sb) /\ w'.cell? ⟨w.heap.size + 1, 1, none⟩ = some (.slice A2 n2 c2) /\ w'.cell? ⟨w.heap.size + 1, 2, none⟩ = some (.bool sb') /\ w'.cell? ⟨w.heap.size + 1, 3, none⟩ = some (.slice A2' n2' c2')) :=
  hide fun w' hb => ⟨(r1.later hb).cell rfl, (r1.later hb).cell rfl, (r1.later hb).cell rfl, (r1.later hb).cell rfl, (r2.later hb).cell rfl, (r2.later hb).cell rfl, (r2.later hb).cell rfl, (r2.later hb).cell rfl⟩
 have HS2 : Hid (∀ w' a_ b_ c_ d_, Later W0.drew w' -> ((((w'.setCell ⟨w.heap.size + 2, 0, none⟩ a_).setCell ⟨w.heap.size + 2, 1, none⟩ b_).setCell ⟨w.heap.size + 2, 2, none⟩ c_).setCell ⟨w.heap.size + 2, 3, none⟩ d_).cell? ⟨w.heap.size, 0, none⟩ = some (.bool sa) /\ ((((w'.setCell ⟨w.heap.size + 2, 0, none⟩ a_).setCell ⟨w.heap.size + 2, 1, none⟩ b_).setCell ⟨w.heap.size + 2, 2, none⟩ c_).setCell ⟨w.heap.size + 2, 3, none⟩ d_).cell? ⟨w.heap.size, 1, none⟩ = some (.slice A1 n1 c1) /\ ((((w'.setCell ⟨w.heap.size + 2, 0, none⟩ a_).setCell ⟨w.heap.size + 2, 1, none⟩ b_).setCell ⟨w.heap.size + 2, 2, none⟩ c_).setCell ⟨w.heap.size + 2, 3, none⟩ d_).cell? ⟨w.heap.size, 2, none⟩ = some (.bool sa') /\ ((((w'.setCell ⟨w.heap.size + 2, 0, none⟩ a_).setCell ⟨w.heap.size + 2, 1, none⟩ b_).setCell ⟨w.heap.size + 2, 2, none⟩ c_).setCell ⟨w.heap.size + 2, 3, none⟩ d_).cell? ⟨w.heap.size, 3, none⟩ = some (.slice A1' n1' c1') /\ ((((w'.setCell ⟨w.heap.size + 2, 0, none⟩ a_).setCell ⟨w.heap.size + 2, 1, none⟩ b_).setCell ⟨w.heap.size + 2, 2, none⟩ c_).setCell ⟨w.heap.size + 2, 3, none⟩ d_).cell? ⟨w.heap.size + 1, 0, none⟩ = some (.bool sb) /\ ((((w'.setCell ⟨w.heap.size + 2, 0, none⟩ a_).setCell ⟨w.heap.size + 2, 1, none⟩ b_).setCell ⟨w.heap.size + 2, 2, none⟩ c_).setCell ⟨w.heap.size + 2, 3, none⟩ d_).cell? ⟨w.heap.size + 1, 1, none⟩ = some (.slice A2 n2 c2) /\ ((((w'.setCell ⟨w.heap.size + 2, 0, none⟩ a_).setCell ⟨w.heap.size + 2, 1, none⟩ b_).setCell ⟨w.heap.size + 2, 2, none⟩ c_).setCell ⟨w.heap.size + 2, 3, none⟩ d_).cell? ⟨w.heap.size + 1, 2, none⟩ = some (.bool sb') /\ ((((w'.setCell ⟨w.heap.size + 2, 0, none⟩ a_).setCell ⟨w.heap.size + 2, 1, none⟩ b_).setCell ⟨w.heap.size + 2, 2, none⟩ c_).setCell ⟨w.heap.size + 2, 3, none⟩ d_).cell? ⟨w.heap.size + 1, 3, none⟩ = some (.slice A2' n2' c2')) :=
  hide fun w' a_ b_ c_ d_ hb => ⟨((r1.later hb).far4 (by omega) a_ b_ c_ d_).cell rfl, ((r1.later hb).far4 (by omega) a_ b_ c_ d_).cell rfl, ((r1.later hb).far4 (by omega) a_ b_ c_ d_).cell rfl, ((r1.later hb).far4 (by omega) a_ b_ c_ d_).cell rfl, ((r2.later hb).far4 (by omega) a_ b_ c_ d_).cell rfl, ((r2.later hb).far4 (by omega) a_ b_ c_ d_).cell rfl, ((r2.later hb).far4 (by omega) a_ b_ c_ d_).cell rfl, ((r2.later hb).far4 (by omega) a_ b_ c_ d_).cell rfl⟩
 clear hW0 r1 r2 r3 hb0
 go_region_held3 (fun w' => w'.cell? ⟨w.heap.size, 0, none⟩ = some (.bool sa) /\ w'.cell? ⟨w.heap.size, 1, none⟩ = some (.slice A1 n1 c1) /\ w'.cell? ⟨w.heap.size, 2, none⟩ = some (.bool sa') /\ w'.cell? ⟨w.heap.size, 3, none⟩ = some (.slice A1' n1' c1') /\ w'.cell? ⟨w.heap.size + 1, 0, none⟩ = some (.bool sb) /\ w'.cell? ⟨w.heap.size + 1, 1, none⟩ = some (.slice A2 n2 c2) /\ w'.cell? ⟨w.heap.size + 1, 2, none⟩ = some (.bool sb') /\ w'.cell? ⟨w.heap.size + 1, 3, none⟩ = some (.slice A2' n2' c2'))
  (first | exact HS1.out _ (Later.refl _) | exact HS1.out _ b1 | exact HS1.out _ (b1.trans b2) | exact HS1.out _ ((b1.trans b2).trans b3) | exact HS2.out _ _ _ _ _ ((b1.trans b2).trans b3))
  (first
   | ((with_reducible refine (rplain_calls _ _ a k (HA.out.later B0.out) (by omega)).mono ?_); rintro e w1 ⟨v1, rfl, o1, b1⟩; obtain ⟨s1, P1, q1, e1, P1', q1', e1', rfl, o1⟩ := o1.open_; have O1 := hide o1; clear o1)
   | ((with_reducible refine (rplain_calls _ _ b m (HB.out.later (B0.out.trans b1)) (by omega)).mono ?_); rintro e w2 ⟨v2, rfl, o2, b2⟩; obtain ⟨s2, P2, q2, e2, P2', q2', e2', rfl, o2⟩ := o2.open_; have O2 := hide o2; clear o2)
   | ((with_reducible refine (HT.out _ _ _ (((O1.out.pln SA.out)).later b2) (O2.out.pln SB.out)).mono ?_); rintro e w3 ⟨v3, rfl, o3, b3⟩; obtain ⟨s3, P3, q3, e3, P3', q3', e3', rfl, o3⟩ := o3.open_; have O3 := hide o3; clear o3; obtain ⟨f1, f2, f3, f4, f5, f6, f7, f8⟩ := row_cells4 (R3.out.later ((b1.trans b2).trans b3))))
 have hL := B0.out.trans ((b1.trans b2).trans b3)
 have hrow := R3.out.later ((b1.trans b2).trans b3)
 have hs1 := b1.size; have hs2 := b2.size; have hs3 := b3.size
 clear f1 f2 f3 f4 f5 f6 f7 f8
 go_wp2_with fail
 refine bodyPost_ret (results_rat rfl rfl (hrow.four _ _ _ _)) rfl ?_
 have oo := Only.four (w.heap.size + 2) w3 (.bool s3) (.slice P3 q3 e3) (.bool false) (.slice P3' q3' e3')
 exact ⟨_, rfl, (O3.out.only oo (by omega)).weaken (by omega), hL.only oo (by omega)⟩
set_option maxHeartbeats 2000000 in
theorem radd_calls (w : World) (va vb : Value) (a b : Rat) (k m : Nat) (ha : RawR w va a k) (hb : RawR w vb b m) (hkm : k + m <= 200000000) :
 Calls Tryz.prog 140 #[va, vb] w (Ret w fun w' v => OwnR w' w.heap.size v (a + b)) := by
 have HA := hide ha; have HB := hide hb
 obtain ⟨q, hq⟩ : ∃ q, q = a + b := ⟨_, rfl⟩
 rw [<- hq]
 have HQ := hide hq
 obtain ⟨sa, A1, n1, c1, sa', A1', n1', c1', rfl⟩ := ha.open_
 obtain ⟨sb, A2, n2, c2, sb', A2', n2', c2', rfl⟩ := hb.open_
 clear ha hb hq
 go_enter Tryz.func140, Tryz.ntmps140
 go_wp2_with fail
 obtain ⟨W0, hW0⟩ : ∃ W0, W0 = (((w.alloc (Obj.cells #[Value.bool sa, Value.slice A1 n1 c1, Value.bool sa', Value.slice A1' n1' c1'] 36)).alloc (Obj.cells #[Value.bool sb, Value.slice A2 n2 c2, Value.bool sb', Value.slice A2' n2' c2'] 36)).alloc (Obj.cells #[Value.bool false, Value.slice none 0 0, Value.bool false, Value.slice none 0 0] 36)) := ⟨_, rfl⟩
 obtain ⟨hb0, r1, r2, r3, hsz⟩ := boxes3 w [.bool sa, .slice A1 n1 c1, .bool sa', .slice A1' n1' c1'] [.bool sb, .slice A2 n2 c2, .bool sb', .slice A2' n2' c2'] [.bool false, .slice none 0 0, .bool false, .slice none 0 0] 36 36 36 hW0
 rw [<- hW0]
 have R3 := hide r3; have B0 := hide hb0
 clear hW0 r1 r2 r3 hb0
 refine (both_calls _ _ _ a b q k m (HA.out.later B0.out) (HB.out.later B0.out) (by omega) _ ⟨fun _ _ => by kernel_rfl⟩ (fun W v1 v2 h1 h2 => by rw [HQ.out]; exact radd1_calls W v1 v2 a b (k+1) (m+1) h1 h2 (by omega))).mono ?_
 rintro e w1 ⟨v1, rfl, o1, b1⟩
 obtain ⟨s1, P1, q1, e1, P1', q1', e1', rfl, o1⟩ := o1.open_; have O1 := hide o1; clear o1
 obtain ⟨f1, f2, f3, f4, f5, f6, f7, f8⟩ := row_cells4 (R3.out.later b1)
 have HR := hide (R3.out.later b1)
 have hL := B0.out.trans b1
 go_wp2_with fail
 refine bodyPost_ret (results_rat rfl rfl (HR.out.four _ _ _ _)) rfl ?_
 have oo := Only.four (w.heap.size + 2) w1 (.bool s1) (.slice P1 q1 e1) (.bool false) (.slice P1' q1' e1')
 exact ⟨_, rfl, (O1.out.only oo (by omega)).weaken (by omega), hL.only oo (by omega)⟩
set_option maxHeartbeats 2000000 in
theorem rsub_calls (w : World) (va vb : Value) (a b : Rat) (k m : Nat) (ha : RawR w va a k) (hb : RawR w vb b m) (hkm : k + m <= 200000000) :
 Calls Tryz.prog 66 #[va, vb] w (Ret w fun w' v => OwnR w' w.heap.size v (a - b)) := by
 have HA := hide ha; have HB := hide hb
 obtain ⟨q, hq⟩ : ∃ q, q = a - b := ⟨_, rfl⟩
 rw [<- hq]
 have HQ := hide hq
 obtain ⟨sa, A1, n1, c1, sa', A1', n1', c1', rfl⟩ := ha.open_
 obtain ⟨sb, A2, n2, c2, sb', A2', n2', c2', rfl⟩ := hb.open_
 clear ha hb hq
 go_enter Tryz.func66, Tryz.ntmps66
 go_wp2_with fail
 obtain ⟨W0, hW0⟩ : ∃ W0, W0 = (((w.alloc (Obj.cells #[Value.bool sa, Value.slice A1 n1 c1, Value.bool sa', Value.slice A1' n1' c1'] 36)).alloc (Obj.cells #[Value.bool sb, Value.slice A2 n2 c2, Value.bool sb', Value.slice A2' n2' c2'] 36)).alloc (Obj.cells #[Value.bool false, Value.slice none 0 0, Value.bool false, Value.slice none 0 0] 36)) := ⟨_, rfl⟩
 obtain ⟨hb0, r1, r2, r3, hsz⟩ := boxes3 w [.bool sa, .slice A1 n1 c1, .bool sa', .slice A1' n1' c1'] [.bool sb, .slice A2 n2 c2, .bool sb', .slice A2' n2' c2'] [.bool false, .slice none 0 0, .bool false, .slice none 0 0] 36 36 36 hW0
 rw [<- hW0]
 have R3 := hide r3; have B0 := hide hb0
 clear hW0 r1 r2 r3 hb0
 refine (both_calls _ _ _ a b q k m (HA.out.later B0.out) (HB.out.later B0.out) (by omega) _ ⟨fun _ _ => by kernel_rfl⟩ (fun W v1 v2 h1 h2 => by rw [HQ.out]; exact rsub1_calls W v1 v2 a b (k+1) (m+1) h1 h2 (by omega))).mono ?_
 rintro e w1 ⟨v1, rfl, o1, b1⟩
 obtain ⟨s1, P1, q1, e1, P1', q1', e1', rfl, o1⟩ := o1.open_; have O1 := hide o1; clear o1
 obtain ⟨f1, f2, f3, f4, f5, f6, f7, f8⟩ := row_cells4 (R3.out.later b1)
 have HR := hide (R3.out.later b1)
 have hL := B0.out.trans b1
 go_wp2_with fail
 refine bodyPost_ret (results_rat rfl rfl (HR.out.four _ _ _ _)) rfl ?_
 have oo := Only.four (w.heap.size + 2) w1 (.bool s1) (.slice P1 q1 e1) (.bool false) (.slice P1' q1' e1')
 exact ⟨_, rfl, (O1.out.only oo (by omega)).weaken (by omega), hL.only oo (by omega)⟩
set_option maxHeartbeats 2000000 in
theorem rmul_calls (w : World) (va vb : Value) (a b : Rat) (k m : Nat) (ha : RawR w va a k) (hb : RawR w vb b m) (hkm : k + m <= 200000000) :
 Calls Tryz.prog 70 #[va, vb] w (Ret w fun w' v => OwnR w' w.heap.size v (a * b)) := by
 have HA := hide ha; have HB := hide hb
 obtain ⟨q, hq⟩ : ∃ q, q = a * b := ⟨_, rfl⟩
 rw [<- hq]
 have HQ := hide hq
 obtain ⟨sa, A1, n1, c1, sa', A1', n1', c1', rfl⟩ := ha.open_
 obtain ⟨sb, A2, n2, c2, sb', A2', n2', c2', rfl⟩ := hb.open_
 clear ha hb hq
 go_enter Tryz.func70, Tryz.ntmps70
 go_wp2_with fail
 obtain ⟨W0, hW0⟩ : ∃ W0, W0 = (((w.alloc (Obj.cells #[Value.bool sa, Value.slice A1 n1 c1, Value.bool sa', Value.slice A1' n1' c1'] 36)).alloc (Obj.cells #[Value.bool sb, Value.slice A2 n2 c2, Value.bool sb', Value.slice A2' n2' c2'] 36)).alloc (Obj.cells #[Value.bool false, Value.slice none 0 0, Value.bool false, Value.slice none 0 0] 36)) := ⟨_, rfl⟩
 obtain ⟨hb0, r1, r2, r3, hsz⟩ := boxes3 w [.bool sa, .slice A1 n1 c1, .bool sa', .slice A1' n1' c1'] [.bool sb, .slice A2 n2 c2, .bool sb', .slice A2' n2' c2'] [.bool false, .slice none 0 0, .bool false, .slice none 0 0] 36 36 36 hW0
 rw [<- hW0]
 have R3 := hide r3; have B0 := hide hb0
 clear hW0 r1 r2 r3 hb0
 refine (both_calls _ _ _ a b q k m (HA.out.later B0.out) (HB.out.later B0.out) (by omega) _ ⟨fun _ _ => by kernel_rfl⟩ (fun W v1 v2 h1 h2 => by rw [HQ.out]; exact rmul1_calls W v1 v2 a b (k+1) (m+1) h1 h2 (by omega))).mono ?_
 rintro e w1 ⟨v1, rfl, o1, b1⟩
 obtain ⟨s1, P1, q1, e1, P1', q1', e1', rfl, o1⟩ := o1.open_; have O1 := hide o1; clear o1
 obtain ⟨f1, f2, f3, f4, f5, f6, f7, f8⟩ := row_cells4 (R3.out.later b1)
 have HR := hide (R3.out.later b1)
 have hL := B0.out.trans b1
 go_wp2_with fail
 refine bodyPost_ret (results_rat rfl rfl (HR.out.four _ _ _ _)) rfl ?_
 have oo := Only.four (w.heap.size + 2) w1 (.bool s1) (.slice P1 q1 e1) (.bool false) (.slice P1' q1' e1')
 exact ⟨_, rfl, (O1.out.only oo (by omega)).weaken (by omega), hL.only oo (by omega)⟩
end Go.Proofs.YtfokplidiboabaaGreat
namespace Go.Proofs.YtfokplidiboabaaGreat
open Go.RowKit Go.Shelf
attribute [local go_sem ↓] Go.wp_at_zero Go.wp_at_succ
def Only2 (g h : Nat) (w w' : World) : Prop := ∃ u, (Only g w u /\ Only h u w') ∨ (Only h w u /\ Only g u w')
theorem Only2.size {g h : Nat} {w w' : World} (o : Only2 g h w w') : w'.heap.size = w.heap.size := by
 obtain ⟨u, ⟨a, b⟩ | ⟨a, b⟩⟩ := o <;> exact b.size.trans a.size
theorem Row.only2 {w w' : World} {g h k : Nat} {t : TypeId} {cs : List Value} (r : Row w k t cs) (o : Only2 g h w w') (hg : k ≠ g) (hh : k ≠ h) : Row w' k t cs := by
 obtain ⟨u, ⟨a, b⟩ | ⟨a, b⟩⟩ := o
 ·exact (r.only a hg).only b hh
 ·exact (r.only a hh).only b hg
theorem OwnR.only2 {w w' : World} {g h B : Nat} {v : Value} {q : Rat} (r : OwnR w B v q) (o : Only2 g h w w') (hg : g < B) (hh : h < B) : OwnR w' B v q := by
 obtain ⟨u, ⟨a, b⟩ | ⟨a, b⟩⟩ := o
 ·exact (r.only a hg).only b hh
 ·exact (r.only a hh).only b hg
theorem Later.only2 {a w w' : World} {g h : Nat} (l : Later a w) (o : Only2 g h w w') (hg : a.heap.size <= g) (hh : a.heap.size <= h) : Later a w' := by
 obtain ⟨u, ⟨a, b⟩ | ⟨a, b⟩⟩ := o
 ·exact (l.only a hg).only b hh
 ·exact (l.only a hh).only b hg
theorem put_two {W : World} {g h : Nat} {t t' : TypeId} {a b c d a' b' c' d' : Value} (hgh : g ≠ h) (ra : Row W g t [a, b, c, d]) (rb : Row W h t' [a', b', c', d']) (x y z u x' y' z' u' : Value) :
 Row ((((((((W.setCell ⟨g, 0, none⟩ x).setCell ⟨g, 1, none⟩ y).setCell ⟨g, 2, none⟩ z).setCell ⟨g, 3, none⟩ u).setCell ⟨h, 0, none⟩ x').setCell ⟨h, 1, none⟩ y').setCell ⟨h, 2, none⟩ z').setCell ⟨h, 3, none⟩ u') g t [x, y, z, u] /\ Row ((((((((W.setCell ⟨g, 0, none⟩ x).setCell ⟨g, 1, none⟩ y).setCell ⟨g, 2, none⟩ z).setCell ⟨g, 3, none⟩ u).setCell ⟨h, 0, none⟩ x').setCell ⟨h, 1, none⟩ y').setCell ⟨h, 2, none⟩ z').setCell ⟨h, 3, none⟩ u') h t' [x', y', z', u'] /\ Only2 g h W ((((((((W.setCell ⟨g, 0, none⟩ x).setCell ⟨g, 1, none⟩ y).setCell ⟨g, 2, none⟩ z).setCell ⟨g, 3, none⟩ u).setCell ⟨h, 0, none⟩ x').setCell ⟨h, 1, none⟩ y').setCell ⟨h, 2, none⟩ z').setCell ⟨h, 3, none⟩ u') := by
 have o1 := Only.four g W x y z u
 have r1 := ra.four x y z u
 obtain ⟨V, hV⟩ : ∃ V, V = ((((W.setCell ⟨g, 0, none⟩ x).setCell ⟨g, 1, none⟩ y).setCell ⟨g, 2, none⟩ z).setCell ⟨g, 3, none⟩ u) := ⟨_, rfl⟩
 rw [<- hV] at o1 r1 ⊢
 have o2 := Only.four h V x' y' z' u'
 exact ⟨r1.only o2 hgh, (rb.only o1 hgh.symm).four _ _ _ _, V, .inl ⟨o1, o2⟩⟩
def PairAt (w : World) (n : Nat) (a b : Rat) (X : World -> Prop) (wx : World) : Prop :=
 ∃ sa A1 n1 c1 A1' n1' c1' sb A2 n2 c2 A2' n2' c2', Row wx w.heap.size 36 [.bool sa, .slice A1 n1 c1, .bool false, .slice A1' n1' c1'] /\ Row wx (w.heap.size + 1) 36 [.bool sb, .slice A2 n2 c2, .bool false, .slice A2' n2' c2'] /\
   OwnR wx (w.heap.size + n) (.agg #[.bool sa, .slice A1 n1 c1, .bool false, .slice A1' n1' c1']) a /\ OwnR wx (w.heap.size + n) (.agg #[.bool sb, .slice A2 n2 c2, .bool false, .slice A2' n2' c2']) b /\ Later w wx /\ w.heap.size + n <= wx.heap.size /\ X wx
theorem pair_stores {w W : World} {n : Nat} (hn : 2 <= n) {a b : Rat} {X : World -> Prop} {sa sb : Bool} {A1 A1' A2 A2' : Option Addr} {n1 c1 n1' c1' n2 c2 n2' c2' : Nat} {a1 b1 d1 e1 a2 b2 d2 e2 : Value}
 (ra : Row W w.heap.size 36 [a1, b1, d1, e1]) (rb : Row W (w.heap.size + 1) 36 [a2, b2, d2, e2])
 (oa : OwnR W (w.heap.size + n) (.agg #[.bool sa, .slice A1 n1 c1, .bool false, .slice A1' n1' c1']) a) (ob : OwnR W (w.heap.size + n) (.agg #[.bool sb, .slice A2 n2 c2, .bool false, .slice A2' n2' c2']) b)
 (hL : Later w W) (hs : w.heap.size + n <= W.heap.size) (hX : ∀ V, Only2 w.heap.size (w.heap.size + 1) W V -> X V) :
 PairAt w n a b X ((((((((W.setCell ⟨w.heap.size, 0, none⟩ (.bool sa)).setCell ⟨w.heap.size, 1, none⟩ (.slice A1 n1 c1)).setCell ⟨w.heap.size, 2, none⟩ (.bool false)).setCell ⟨w.heap.size, 3, none⟩ (.slice A1' n1' c1')).setCell ⟨w.heap.size + 1, 0, none⟩ (.bool sb)).setCell ⟨w.heap.size + 1, 1, none⟩ (.slice A2 n2 c2)).setCell ⟨w.heap.size + 1, 2, none⟩ (.bool false)).setCell ⟨w.heap.size + 1, 3, none⟩ (.slice A2' n2' c2')) /\
 PairAt w n a b X ((((((((W.setCell ⟨w.heap.size + 1, 0, none⟩ (.bool sb)).setCell ⟨w.heap.size + 1, 1, none⟩ (.slice A2 n2 c2)).setCell ⟨w.heap.size + 1, 2, none⟩ (.bool false)).setCell ⟨w.heap.size + 1, 3, none⟩ (.slice A2' n2' c2')).setCell ⟨w.heap.size, 0, none⟩ (.bool sa)).setCell ⟨w.heap.size, 1, none⟩ (.slice A1 n1 c1)).setCell ⟨w.heap.size, 2, none⟩ (.bool false)).setCell ⟨w.heap.size, 3, none⟩ (.slice A1' n1' c1')) := by
 constructor
 ·obtain ⟨r1, r2, o⟩ := put_two (by omega : w.heap.size ≠ w.heap.size + 1) ra rb (.bool sa) (.slice A1 n1 c1) (.bool false) (.slice A1' n1' c1') (.bool sb) (.slice A2 n2 c2) (.bool false) (.slice A2' n2' c2')
  exact ⟨_, _, _, _, _, _, _, _, _, _, _, _, _, _, r1, r2, oa.only2 o (by omega) (by omega), ob.only2 o (by omega) (by omega), hL.only2 o (by omega) (by omega), by rw [o.size]; exact hs, hX _ o⟩
 ·obtain ⟨r1, r2, u, o⟩ := put_two (by omega : w.heap.size + 1 ≠ w.heap.size) rb ra (.bool sb) (.slice A2 n2 c2) (.bool false) (.slice A2' n2' c2') (.bool sa) (.slice A1 n1 c1) (.bool false) (.slice A1' n1' c1')
  have o : Only2 w.heap.size (w.heap.size + 1) W _ := ⟨u, o.symm⟩
  exact ⟨_, _, _, _, _, _, _, _, _, _, _, _, _, _, r2, r1, oa.only2 o (by omega) (by omega), ob.only2 o (by omega) (by omega), hL.only2 o (by omega) (by omega), by rw [o.size]; exact hs, hX _ o⟩
theorem cmpZ_cmpQ (a b : Rat) : cmpZ (a.num * b.den) (b.num * a.den) = cmpQ a b := by rw [cmpQ_eq]; rfl
set_option maxHeartbeats 4000000 in
theorem rcmp_calls (w : World) (va vb : Value) (a b : Rat) (k m : Nat) (ha : RawR w va a k) (hb : RawR w vb b m) (hkm : k + m <= 200000000) :
 Calls Tryz.prog 68 #[va, vb] w (RetV w (.int .i64 (cmpQ a b))) := by
 have SA := ha.sized; have SB := hb.sized
 have HA := hide ha; have HB := hide hb
 obtain ⟨sa, A1, n1, c1, sa', A1', n1', c1', rfl⟩ := ha.open_
 obtain ⟨sb, A2, n2, c2, sb', A2', n2', c2', rfl⟩ := hb.open_
 clear ha hb
 go_enter Tryz.func68, Tryz.ntmps68
 go_upto_region 1 with fail
 go_cut [] (fun wx => PairAt w 2 a b (fun _ => True) wx)
 case first =>
  obtain ⟨W0, hW0⟩ : ∃ W0, W0 = ((w.alloc (Obj.cells #[Value.bool sa, Value.slice A1 n1 c1, Value.bool sa', Value.slice A1' n1' c1'] 36)).alloc (Obj.cells #[Value.bool sb, Value.slice A2 n2 c2, Value.bool sb', Value.slice A2' n2' c2'] 36)) := ⟨_, rfl⟩
  obtain ⟨hb0, r1, r2, hsz⟩ := boxes2 w [.bool sa, .slice A1 n1 c1, .bool sa', .slice A1' n1' c1'] [.bool sb, .slice A2 n2 c2, .bool sb', .slice A2' n2' c2'] 36 36 hW0
  rw [<- hW0]
  have hb0 := hb0.drew; have r1 := r1.drew; have r2 := r2.drew
  have hsz : W0.drew.heap.size = w.heap.size + 2 := hsz
  obtain ⟨d1, d2, d3, d4, d5, d6, d7, d8⟩ := row_cells4 r1
  obtain ⟨f1, f2, f3, f4, f5, f6, f7, f8⟩ := row_cells4 r2
  have R1 := hide r1; have R2 := hide r2; have B0 := hide hb0
  clear hW0 r1 r2 hb0 
  go_region_with (first
   | ((with_reducible refine (rplain_calls _ _ a k (HA.out.later B0.out) (by omega)).mono ?_); rintro e w1 ⟨v1, rfl, o1, b1⟩; obtain ⟨s1, P1, q1, e1, P1', q1', e1', rfl, o1⟩ := o1.open_; have O1 := hide o1; clear o1; obtain ⟨i1, i2, i3, i4, i5, i6, i7, i8⟩ := row_cells4 (R1.out.later b1); obtain ⟨j1, j2, j3, j4, j5, j6, j7, j8⟩ := row_cells4 (R2.out.later b1))
   | ((with_reducible refine (rplain_calls _ _ b m (HB.out.later (B0.out.trans b1)) (by omega)).mono ?_); rintro e w2 ⟨v2, rfl, o2, b2⟩; obtain ⟨s2, P2, q2, e2, P2', q2', e2', rfl, o2⟩ := o2.open_; have O2 := hide o2; clear o2; obtain ⟨k1, k2, k3, k4, k5, k6, k7, k8⟩ := row_cells4 (R1.out.later (b1.trans b2)); obtain ⟨l1, l2, l3, l4, l5, l6, l7, l8⟩ := row_cells4 (R2.out.later (b1.trans b2))))
  all_goals
   have hb := b1.trans b2
   have hs1 := b1.size
   have hs2 := hb.size
   have HS := hide (pair_stores (n := 2) (X := (fun _ => True)) (by omega) (R1.out.later hb) (R2.out.later hb) ((O1.out.later b2).weaken (by omega)) (O2.out.weaken (by omega)) (B0.out.trans hb) (by omega) (fun _ _ => trivial))
   clear d1 d2 d3 d4 d5 d6 d7 d8 f1 f2 f3 f4 f5 f6 f7 f8
   go_wp2_with fail
   go_meet
   first | exact HS.out.1 | exact HS.out.2
 case rest =>
  obtain ⟨sa, A1, n1, c1, A1', n1', c1', sb, A2, n2, c2, A2', n2', c2', r1, r2, oa, ob, hL, hsz, -⟩ := hcut
  clear HA HB
  obtain ⟨x1, hx1⟩ : ∃ x, x = a.num := ⟨_, rfl⟩
  obtain ⟨x2, hx2⟩ : ∃ x, x = (a.den : Int) := ⟨_, rfl⟩
  obtain ⟨y1, hy1⟩ : ∃ x, x = b.num := ⟨_, rfl⟩
  obtain ⟨y2, hy2⟩ : ∃ x, x = (b.den : Int) := ⟨_, rfl⟩
  have hq := cmpZ_cmpQ a b
  rw [<- hx1, <- hx2, <- hy1, <- hy2] at hq
  have ha1 := (oa.num.raw SA.1).later (Later.refl wc).drew; have ha2 := (oa.den.raw (limbs_castZ SA.2)).later (Later.refl wc).drew
  have hb1 := (ob.num.raw SB.1).later (Later.refl wc).drew; have hb2 := (ob.den.raw (limbs_castZ SB.2)).later (Later.refl wc).drew
  rw [<- hx1] at ha1; rw [<- hx2] at ha2; rw [<- hy1] at hb1; rw [<- hy2] at hb2
  have HA1 := hide ha1; have HA2 := hide ha2; have HB1 := hide hb1; have HB2 := hide hb2; have HQ := hide hq
  have Z1 : Hid ((limbs (x1 * y2).natAbs).length <= k + m + 2) := hide (Nat.le_trans (limbs_mulZ ha1.limbs_le hb2.limbs_le) (by omega))
  have Z2 : Hid ((limbs (y1 * x2).natAbs).length <= k + m + 2) := hide (Nat.le_trans (limbs_mulZ hb1.limbs_le ha2.limbs_le) (by omega))
  have r1 := r1.drew; have r2 := r2.drew
  have HT1 : Hid (∀ w', Later wc.drew w' -> w'.cell? ⟨w.heap.size, 0, none⟩ = some (.bool sa) /\ w'.cell? ⟨w.heap.size, 1, none⟩ = some (.slice A1 n1 c1) /\ w'.cell? ⟨w.heap.size, 2, none⟩ = some (.bool false) /\ w'.cell? ⟨w.heap.size, 3, none⟩ = some (.slice A1' n1' c1') /\ w'.cell? ⟨w.heap.size + 1, 0, none⟩ = some (.bool sb) /\ w'.cell? ⟨w.heap.size + 1, 1, none⟩ = some (.slice A2 n2 c2) /\ w'.cell? ⟨w.heap.size + 1, 2, none⟩ = some (.bool false) /\ w'.cell? ⟨w.heap.size + 1, 3, none⟩ = some (.slice A2' n2' c2')) :=
   hide fun w' hb => ⟨(r1.later hb).cell rfl, (r1.later hb).cell rfl, (r1.later hb).cell rfl, (r1.later hb).cell rfl, (r2.later hb).cell rfl, (r2.later hb).cell rfl, (r2.later hb).cell rfl, (r2.later hb).cell rfl⟩
  go_upto_region 2 with fail
  clear hx1 hx2 hy1 hy2 hq ha1 ha2 hb1 hb2 oa ob r1 r2 SA SB
  go_region_held3 (fun w' => w'.cell? ⟨w.heap.size, 0, none⟩ = some (.bool sa) /\ w'.cell? ⟨w.heap.size, 1, none⟩ = some (.slice A1 n1 c1) /\ w'.cell? ⟨w.heap.size, 2, none⟩ = some (.bool false) /\ w'.cell? ⟨w.heap.size, 3, none⟩ = some (.slice A1' n1' c1') /\ w'.cell? ⟨w.heap.size + 1, 0, none⟩ = some (.bool sb) /\ w'.cell? ⟨w.heap.size + 1, 1, none⟩ = some (.slice A2 n2 c2) /\ w'.cell? ⟨w.heap.size + 1, 2, none⟩ = some (.bool false) /\ w'.cell? ⟨w.heap.size + 1, 3, none⟩ = some (.slice A2' n2' c2'))
   (first | exact HT1.out _ (Later.refl _) | exact HT1.out _ b1 | exact HT1.out _ (b1.trans b2) | exact HT1.out _ ((b1.trans b2).trans b3))
   (first
    | ((with_reducible refine (wmul_calls _ _ _ x1 y2 (k+1) (m+1) (HA1.out.later (Later.refl _)) (HB2.out.later (Later.refl _)) (by omega) (by omega)).mono ?_); rintro e w1 ⟨v1, rfl, o1, b1⟩; obtain ⟨s1, P1, q1, e1, rfl, o1⟩ := o1.open_; have O1 := hide o1; clear o1)
    | ((with_reducible refine (wmul_calls _ _ _ y1 x2 (m+1) (k+1) (HB1.out.later b1) (HA2.out.later b1) (by omega) (by omega)).mono ?_); rintro e w2 ⟨v2, rfl, o2, b2⟩; obtain ⟨s2, P2, q2, e2, rfl, o2⟩ := o2.open_; have O2 := hide o2; clear o2)
    | ((with_reducible refine (wcmp_calls _ _ _ (x1 * y2) (y1 * x2) (k+m+2) (k+m+2) ((O1.out.raw Z1.out).later b2) (O2.out.raw Z2.out) (by omega) (by omega)).mono ?_); rintro e w3 ⟨rfl, b3⟩))
  go_wp2_with fail
  go_ret
  exact ⟨by first | (simp; done) | (rw [HQ.out]; simp; done) | (simp [HQ.out]; done), hL.trans ((Later.refl wc).drew.trans ((b1.trans b2).trans b3))⟩
end Go.Proofs.YtfokplidiboabaaGreat
namespace Go.Proofs.YtfokplidiboabaaGreat
def dval : List Nat -> Nat
 | [] => 0
 | x :: l => x + 256 * dval l
def digs (n : Nat) : List Nat := if h : n = 0 then [] else (n % 256) :: digs (n / 256)
termination_by n
decreasing_by omega
@[simp] theorem dval_nil : dval [] = 0 := rfl
@[simp] theorem dval_cons (x : Nat) (l : List Nat) : dval (x :: l) = x + 256 * dval l := rfl
theorem digs_zero : digs 0 = [] := by rw [digs]; simp
theorem digs_pos {n : Nat} (h : n ≠ 0) : digs n = (n % 256) :: digs (n / 256) := by
 rw [digs]; simp [h]
theorem dval_digs (n : Nat) : dval (digs n) = n := by
 induction n using Nat.strongRecOn with
 | _ n ih =>
   by_cases h : n = 0
   ·subst h; simp [digs_zero]
   ·rw [digs_pos h, dval_cons, ih _ (by omega)]; omega
def AllD (l : List Nat) : Prop := ∀ x ∈ l, x < 256
theorem AllD.nil : AllD [] := by intro x h; cases h
theorem AllD.cons {x : Nat} {l : List Nat} (h : x < 256) (hl : AllD l) : AllD (x :: l) := by
 intro y hy; cases hy with
 | head => exact h
 | tail _ h' => exact hl _ h'
theorem AllD.head {x : Nat} {l : List Nat} (h : AllD (x :: l)) : x < 256 := h _ (List.mem_cons_self ..)
theorem AllD.tail {x : Nat} {l : List Nat} (h : AllD (x :: l)) : AllD l := fun y hy => h _ (List.mem_cons_of_mem _ hy)
theorem AllD.append {a b : List Nat} (ha : AllD a) (hb : AllD b) : AllD (a ++ b) := by
 intro x hx; rcases List.mem_append.1 hx with h | h
 ·exact ha x h
 ·exact hb x h
theorem AllD.take {l : List Nat} (h : AllD l) (k : Nat) : AllD (l.take k) := fun x hx => h x (List.mem_of_mem_take hx)
theorem AllD.drop {l : List Nat} (h : AllD l) (k : Nat) : AllD (l.drop k) := fun x hx => h x (List.mem_of_mem_drop hx)
theorem AllD.at_ {l : List Nat} (h : AllD l) {k x : Nat} (hk : l[k]? = some x) : x < 256 := h x (List.mem_of_getElem? hk)
theorem AllD.set {l : List Nat} (h : AllD l) (k x : Nat) (hx : x < 256) : AllD (l.set k x) := by
 intro y hy
 rcases List.mem_or_eq_of_mem_set hy with h1 | h1
 ·exact h y h1
 ·omega
theorem AllD.replicate (n : Nat) : AllD (List.replicate n 0) := by
 intro x hx; have := List.eq_of_mem_replicate hx; omega
theorem digs_lt (n : Nat) : AllD (digs n) := by
 induction n using Nat.strongRecOn with
 | _ n ih =>
   by_cases h : n = 0
   ·subst h; rw [digs_zero]; exact AllD.nil
   ·rw [digs_pos h]; exact AllD.cons (by omega) (ih _ (by omega))
theorem dval_append (a b : List Nat) : dval (a ++ b) = dval a + 256 ^ a.length * dval b := by
 induction a with
 | nil => simp
 | cons x a ih => simp only [List.cons_append, dval_cons, ih, List.length_cons, Nat.pow_succ, Nat.mul_add]; rw [Nat.mul_comm (256 ^ a.length) 256, Nat.mul_assoc]; omega
theorem dval_replicate (n : Nat) : dval (List.replicate n 0) = 0 := by
 induction n with
 | zero => rfl
 | succ n ih => simp [List.replicate_succ, ih]
theorem dval_lt {l : List Nat} (h : AllD l) : dval l < 256 ^ l.length := by
 induction l with
 | nil => simp
 | cons x l ih =>
   have h1 := ih h.tail
   have h2 := h.head
   simp only [dval_cons, List.length_cons, Nat.pow_succ]
   have : dval l + 1 <= 256 ^ l.length := h1
   have := Nat.mul_le_mul_left 256 this
   rw [Nat.mul_comm (256 ^ l.length)]; omega
theorem digs_dval_of_last {l : List Nat} (h : AllD l) (hl : ∀ x, l.getLast? = some x -> x ≠ 0) : digs (dval l) = l := by
 induction l with
 | nil => simp [digs_zero]
 | cons x l ih =>
   have hx := h.head
   cases l with
   | nil =>
     have : x ≠ 0 := hl x (by simp)
     simp only [dval_cons, dval_nil, Nat.mul_zero, Nat.add_zero]
     rw [digs_pos this, Nat.mod_eq_of_lt hx, Nat.div_eq_of_lt hx, digs_zero]
   | cons y l =>
     have ih' := ih h.tail (by intro z hz; exact hl z (by simpa using hz))
     have hv : dval (x :: y :: l) ≠ 0 := by
      intro h0
      have : dval (y :: l) = 0 := by simp only [dval_cons] at h0 ⊢; omega
      rw [this, digs_zero] at ih'
      cases ih'
     rw [digs_pos hv]
     have e1 : dval (x :: y :: l) % 256 = x := by simp only [dval_cons]; omega
     have e2 : dval (x :: y :: l) / 256 = dval (y :: l) := by simp only [dval_cons]; omega
     rw [e1, e2, ih']
theorem dval_take_drop (l : List Nat) (k : Nat) (h : k <= l.length) : dval l = dval (l.take k) + 256 ^ k * dval (l.drop k) := by
 conv => lhs; rw [<- List.take_append_drop k l]
 rw [dval_append, List.length_take, Nat.min_eq_left h]
theorem take_digs {l : List Nat} {k : Nat} (h : AllD l) (hk : k <= l.length) (h0 : dval (l.drop k) = 0) (h1 : ∀ x, 0 < k -> l[k-1]? = some x -> x ≠ 0) : l.take k = digs (dval l) := by
 have hv : dval l = dval (l.take k) := by rw [dval_take_drop l k hk, h0]; simp
 rw [hv, digs_dval_of_last (h.take k)]
 intro x hx
 by_cases hk0 : k = 0
 ·subst hk0; simp at hx
 ·refine h1 x (by omega) ?_
  rw [List.getLast?_eq_getElem?, List.length_take, Nat.min_eq_left hk] at hx
  rw [List.getElem?_take_of_lt (by omega)] at hx
  exact hx
theorem length_digs_le {n k : Nat} (h : n < 256 ^ k) : (digs n).length <= k := by
 induction k generalizing n with
 | zero => have : n = 0 := by simpa using h
           subst this; simp [digs_zero]
 | succ k ih =>
   by_cases h0 : n = 0
   ·subst h0; simp [digs_zero]
   ·rw [digs_pos h0, List.length_cons]
    have : n / 256 < 256 ^ k := by
     rw [Nat.pow_succ] at h
     exact Nat.div_lt_of_lt_mul (by rw [Nat.mul_comm]; exact h)
    have := ih this; omega
theorem lt_of_length_digs (n : Nat) : n < 256 ^ (digs n).length := by
 have := dval_lt (digs_lt n); rwa [dval_digs] at this
theorem digs_ne_nil {n : Nat} (h : n ≠ 0) : digs n ≠ [] := by rw [digs_pos h]; simp
theorem digs_eq_nil {n : Nat} : digs n = [] ↔ n = 0 := by
 constructor
 ·intro h; exact Classical.byContradiction fun h0 => digs_ne_nil h0 h
 ·rintro rfl; exact digs_zero
theorem length_digs_pos {n : Nat} : 0 < (digs n).length ↔ n ≠ 0 := by
 rw [List.length_pos_iff]; simp [digs_eq_nil]
theorem le_of_length_digs {n : Nat} (h : n ≠ 0) : 256 ^ ((digs n).length - 1) <= n := by
 induction n using Nat.strongRecOn with
 | _ n ih =>
   rw [digs_pos h, List.length_cons, Nat.add_sub_cancel]
   by_cases h1 : n / 256 = 0
   ·rw [h1, digs_zero]; show 256 ^ 0 <= n; rw [Nat.pow_zero]; omega
   ·have := ih _ (by omega) h1
    have hl : 0 < (digs (n / 256)).length := length_digs_pos.2 h1
    obtain ⟨m, hm⟩ : ∃ m, (digs (n / 256)).length = m + 1 := ⟨(digs (n / 256)).length - 1, by omega⟩
    rw [hm] at this ⊢
    rw [Nat.add_sub_cancel] at this
    rw [Nat.pow_succ]
    exact Nat.le_trans (Nat.mul_le_mul_right 256 this) (Nat.div_mul_le_self n 256)
theorem length_digs_mono {a b : Nat} (h : a <= b) : (digs a).length <= (digs b).length :=
 length_digs_le (Nat.lt_of_le_of_lt h (lt_of_length_digs b))
theorem dval_take_succ (l : List Nat) (k : Nat) : dval (l.take (k+1)) = dval (l.take k) + 256 ^ k * l.getD k 0 := by
 by_cases h : k < l.length
 ·rw [List.take_succ_eq_append_getElem h, dval_append, List.length_take, Nat.min_eq_left (by omega), List.getD_eq_getElem?_getD, List.getElem?_eq_getElem h]; simp
 ·rw [List.take_of_length_le (by omega), List.take_of_length_le (by omega), List.getD_eq_getElem?_getD, List.getElem?_eq_none (by omega)]; simp
theorem carry_stepD (p s u v x y c : Nat) (h : u + p * c = v) (hs : s = c + x + y) : (u + p * (s % 256)) + (p * 256) * (s / 256) = v + p * x + p * y := by
 have := Nat.mod_add_div s 256
 subst hs
 have h2 : p * ((c + x + y) % 256) + (p * 256) * ((c + x + y) / 256) = p * (c + x + y) := by
  rw [Nat.mul_assoc, <- Nat.mul_add, this]
 rw [Nat.mul_add, Nat.mul_add] at h2
 omega
theorem borrow_stepD (p t u v x y c : Nat) (h : u + v = t + p * c) (hx : x < 256) (hy : y < 256) (hc : c <= 1) :
 (u + p * ((x + 256 - y - c) % 256)) + (v + p * y) = (t + p * x) + (p * 256) * (if x < y + c then 1 else 0) := by
 by_cases hb : x < y + c
 ·rw [if_pos hb]
  have e : (x + 256 - y - c) % 256 = x + 256 - y - c := by omega
  have e2 : x + 256 - y - c + y + c = x + 256 := by omega
  rw [e]
  have h2 : p * (x + 256 - y - c) + p * y + p * c = p * x + p * 256 := by
   rw [<- Nat.mul_add, <- Nat.mul_add, e2, Nat.mul_add]
  omega
 ·rw [if_neg hb]
  have e : (x + 256 - y - c) % 256 = x - y - c := by omega
  have e2 : x - y - c + y + c = x := by omega
  rw [e]
  have h2 : p * (x - y - c) + p * y + p * c = p * x := by
   rw [<- Nat.mul_add, <- Nat.mul_add, e2]
  omega
theorem sub_doneD {a b o : List Nat} {n c : Nat} (ho : o.length = n) (hn : n = a.length) (hle : dval b <= dval a) (hb : dval b < 256 ^ n -> dval (b.take n) = dval b) (hoa : AllD o) (haa : AllD a)
 (h : dval (o.take n) + dval (b.take n) = dval (a.take n) + 256 ^ n * c) : dval o = dval a - dval b := by
 have h1 := dval_lt haa
 rw [<- hn] at h1
 have h2 := hb (by omega)
 have h3 := dval_lt hoa
 rw [ho] at h3
 rw [List.take_of_length_le (l := o) (i := n) (by omega), List.take_of_length_le (l := a) (i := n) (by omega), h2] at h
 have h4 : c = 0 := by
  rcases Nat.eq_zero_or_pos c with h4 | h4
  ·exact h4
  ·have := Nat.mul_le_mul_left (256 ^ n) h4
   omega
 subst h4
 omega
theorem take_of_ltD {b : List Nat} {n : Nat} (h : dval b < 256 ^ n) : dval (b.take n) = dval b := by
 by_cases hn : n <= b.length
 ·have h1 := dval_take_drop b n hn
  rcases Nat.eq_zero_or_pos (dval (b.drop n)) with h2 | h2
  ·rw [h1, h2]; simp
  ·have := Nat.mul_le_mul_left (256 ^ n) h2
   omega
 ·rw [List.take_of_length_le (by omega)]
theorem getD_ltD {l : List Nat} (h : AllD l) (i : Nat) : l.getD i 0 < 256 := by
 rw [List.getD_eq_getElem?_getD]
 cases hx : l[i]? with
 | none => simp
 | some x => simpa using h.at_ hx
theorem dval_set (l : List Nat) (k v : Nat) (h : k < l.length) : dval (l.set k v) + 256 ^ k * l.getD k 0 = dval l + 256 ^ k * v := by
 induction l generalizing k with
 | nil => simp at h
 | cons x l ih =>
   cases k with
   | zero => simp; omega
   | succ k =>
     have := ih k (by simpa using h)
     simp only [List.set_cons_succ, dval_cons, List.getD_cons_succ, Nat.pow_succ]
     have e1 : 256 ^ k * 256 * l.getD k 0 = 256 * (256 ^ k * l.getD k 0) := by rw [Nat.mul_comm (256 ^ k) 256, Nat.mul_assoc]
     have e2 : 256 ^ k * 256 * v = 256 * (256 ^ k * v) := by rw [Nat.mul_comm (256 ^ k) 256, Nat.mul_assoc]
     rw [e1, e2]; omega
def four_ (x : Nat) : List Nat := [x % 256, x / 256 % 256, x / 256 / 256 % 256, x / 256 / 256 / 256 % 256]
def dig_ (x k : Nat) : Nat := x / 256 ^ k % 256
theorem four_eq (x : Nat) : four_ x = (List.range 4).map (dig_ x) := by
 show _ = [dig_ x 0, dig_ x 1, dig_ x 2, dig_ x 3]
 simp only [four_, dig_, Nat.pow_zero, Nat.div_one, Nat.pow_one, Nat.div_div_eq_div_mul]
theorem dval_four {x : Nat} (h : x < 4294967296) (l : List Nat) : dval (four_ x ++ l) = x + 4294967296 * dval l := by
 simp only [four_, List.cons_append, List.nil_append, dval_cons]
 omega
def fours (l : List Nat) : List Nat := l.flatMap four_
theorem dval_fours {l : List Nat} (h : AllLt l) : dval (fours l) = val l := by
 induction l with
 | nil => rfl
 | cons x l ih => rw [show fours (x :: l) = four_ x ++ fours l from rfl, dval_four h.head, ih h.tail]; rfl
theorem fours_all (l : List Nat) : AllD (fours l) := by
 intro x hx
 unfold fours four_ at hx
 rw [List.mem_flatMap] at hx
 obtain ⟨y, -, hx⟩ := hx
 simp at hx
 omega
theorem fours_len (l : List Nat) : (fours l).length = 4 * l.length := by
 induction l with
 | nil => rfl
 | cons x l ih => rw [show fours (x :: l) = four_ x ++ fours l from rfl, List.length_append, ih]; simp [four_]; omega
theorem fours_snoc (l : List Nat) (x : Nat) : fours (l ++ [x]) = fours l ++ four_ x := by simp [fours]
theorem digs_take {l : List Nat} {k : Nat} (h : AllD l) (hk : k <= l.length) (h0 : dval (l.drop k) = 0) (h1 : ∀ x, 0 < k -> l[k-1]? = some x -> x ≠ 0) : l.take k = digs (dval l) := take_digs h hk h0 h1
def limb4 (l : List Nat) (i : Nat) : Nat := l.getD i 0 + 256 * (l.getD (i+1) 0 + 256 * (l.getD (i+2) 0 + 256 * l.getD (i+3) 0))
theorem dval_take4 (l : List Nat) (i : Nat) : dval (l.take (i+4)) = dval (l.take i) + 256 ^ i * limb4 l i := by
 rw [show i + 4 = i+1+1+1+1 by omega, dval_take_succ, dval_take_succ, dval_take_succ, dval_take_succ]
 unfold limb4
 simp only [Nat.pow_succ, Nat.mul_add, Nat.mul_assoc, Nat.add_assoc]
theorem limb4_lt {l : List Nat} (h : AllD l) (i : Nat) : limb4 l i < 4294967296 := by
 have h0 := getD_ltD h i; have h1 := getD_ltD h (i+1); have h2 := getD_ltD h (i+2); have h3 := getD_ltD h (i+3)
 unfold limb4; omega
def limbs4 (l : List Nat) (n : Nat) : List Nat := (List.range n).map fun j => limb4 l (4*j)
theorem limbs4_succ (l : List Nat) (n : Nat) : limbs4 l (n+1) = limbs4 l n ++ [limb4 l (4*n)] := by simp [limbs4, List.range_succ]
theorem limbs4_all {l : List Nat} (h : AllD l) (n : Nat) : AllLt (limbs4 l n) := by
 intro x hx; simp [limbs4] at hx; obtain ⟨j, -, rfl⟩ := hx; exact limb4_lt h _
theorem limbs4_len (l : List Nat) (n : Nat) : (limbs4 l n).length = n := by simp [limbs4]
theorem val_limbs4 (l : List Nat) (n : Nat) : val (limbs4 l n) = dval (l.take (4*n)) := by
 induction n with
 | zero => simp [limbs4]
 | succ n ih => rw [limbs4_succ, val_append, ih, limbs4_len, show 4 * (n+1) = 4*n + 4 by omega, dval_take4, show (4294967296 : Nat) = 256 ^ 4 by rfl, <- Nat.pow_mul]; simp
theorem limbs4_done (d n : Nat) (h : (digs d).length <= 4*n) (h2 : 4*n < (digs d).length + 4) : limbs4 (digs d) n = limbs d := by
 have hv : val (limbs4 (digs d) n) = d := by rw [val_limbs4, List.take_of_length_le h, dval_digs]
 conv => rhs; rw [<- hv]
 symm
 apply limbs_val_of_last (limbs4_all (digs_lt d) n)
 intro x hx h0
 subst h0
 cases n with
 | zero => simp [limbs4] at hx
 | succ m =>
   rw [limbs4_succ, List.getLast?_append] at hx
   simp at hx
   have hd : d ≠ 0 := by rintro rfl; rw [digs_zero] at h2; simp only [List.length_nil] at h2; omega
   have hle := le_of_length_digs hd
   have h3 : dval ((digs d).take (4*m+4)) = d := by rw [List.take_of_length_le (by omega), dval_digs]
   rw [dval_take4, hx, Nat.mul_zero, Nat.add_zero] at h3
   have h4 := dval_lt ((digs_lt d).take (4*m))
   rw [h3] at h4
   have h5 : 256 ^ ((digs d).take (4*m)).length <= 256 ^ ((digs d).length - 1) := Nat.pow_le_pow_right (by omega) (by rw [List.length_take]; omega)
   omega
theorem cmp_lt {a b : List Nat} {n : Nat} (ha : AllD a) (hb : AllD b) (h : a.getD n 0 < b.getD n 0) (he : dval (a.drop (n+1)) = dval (b.drop (n+1))) : dval a < dval b := by
 have key : ∀ l : List Nat, dval l = dval (l.take (n+1)) + 256 ^ (n+1) * dval (l.drop (n+1)) := by
  intro l
  by_cases hk : n + 1 <= l.length
  ·exact dval_take_drop l (n+1) hk
  ·rw [List.take_of_length_le (by omega), List.drop_eq_nil_of_le (by omega)]; simp
 rw [key a, key b, he, dval_take_succ, dval_take_succ]
 have h1 := dval_lt (ha.take n)
 have h2 : 256 ^ (a.take n).length <= 256 ^ n := Nat.pow_le_pow_right (by omega) (List.length_take_le _ _)
 have h3 := Nat.mul_le_mul_left (256 ^ n) h
 rw [Nat.mul_succ] at h3
 omega
theorem add_doneD {a b o : List Nat} {n c : Nat} (ha : AllD a) (hb : AllD b) (hla : a.length < n) (hlb : b.length < n) (hc : c <= 1) (ho : o.length = n)
 (h : dval o + 256 ^ n * c = dval (a.take n) + dval (b.take n)) : dval o = dval a + dval b := by
 rw [List.take_of_length_le (by omega), List.take_of_length_le (by omega)] at h
 have h1 := dval_lt ha; have h2 := dval_lt hb
 obtain ⟨m, rfl⟩ : ∃ m, n = m + 1 := ⟨n - 1, by omega⟩
 have h3 : 256 ^ a.length <= 256 ^ m := Nat.pow_le_pow_right (by omega) (by omega)
 have h4 : 256 ^ b.length <= 256 ^ m := Nat.pow_le_pow_right (by omega) (by omega)
 rw [Nat.pow_succ] at h
 rcases (by omega : c = 0 ∨ c = 1) with rfl | rfl <;> omega
structure RowD (o0 o b : List Nat) (i k x c : Nat) : Prop where
 len : o.length = o0.length
 lt : AllD o
 sum : dval o + 256 ^ (i+k) * c = dval o0 + 256 ^ i * (x * dval (b.take k))
theorem RowD.start {o0 b : List Nat} {i x : Nat} (h : AllD o0) : RowD o0 o0 b i 0 x 0 := ⟨rfl, h, by simp⟩
theorem RowD.step {o0 o b : List Nat} {i k x c y z s : Nat} (h : RowD o0 o b i k x c) (hk : i + k < o.length) (hy : b.getD k 0 = y) (hz : o[i+k]? = some z) (hs : s = z + x * y + c) :
 RowD o0 (o.set (i + k) (s % 256)) b i (k+1) x (s / 256) := by
 refine ⟨by simp [h.len], h.lt.set _ _ (Nat.mod_lt _ (by omega)), ?_⟩
 have h1 := dval_set o (i+k) (s % 256) hk
 have hz2 : o.getD (i+k) 0 = z := by rw [List.getD_eq_getElem?_getD, hz]; rfl
 rw [hz2] at h1
 have e1 := Nat.mod_add_div s 256
 have e2 : 256 ^ (i+k) * (s % 256) + 256 ^ (i+k+1) * (s / 256) = 256 ^ (i+k) * s := by
  rw [Nat.pow_succ, Nat.mul_assoc, <- Nat.mul_add, e1]
 have e3 : 256 ^ (i+k) * s = 256 ^ (i+k) * z + 256 ^ i * (x * (256 ^ k * y)) + 256 ^ (i+k) * c := by
  rw [hs, Nat.mul_add, Nat.mul_add, Nat.pow_add]
  congr 2
  rw [Nat.mul_assoc]; congr 1
  rw [<- Nat.mul_assoc, <- Nat.mul_assoc, Nat.mul_comm (256 ^ k) x]
 have h3 := h.sum
 rw [<- Nat.add_assoc, dval_take_succ, hy, Nat.mul_add x, Nat.mul_add]
 omega
structure MulD (a b o : List Nat) (i : Nat) : Prop where
 len : o.length = a.length + b.length + 1
 lt : AllD o
 sum : dval o = dval (a.take i) * dval b
theorem MulD.start (a b : List Nat) : MulD a b (List.replicate (a.length + b.length + 1) 0) 0 :=
 ⟨by simp, AllD.replicate _, by rw [dval_replicate]; simp⟩
theorem MulD.total {a b o0 o : List Nat} {i k x c : Nat} (ha : AllD a) (hb : AllD b) (h : MulD a b o0 i) (hi : i < a.length) (hx : a[i]? = some x) (hr : RowD o0 o b i k x c) (hk : b.length <= k) :
 dval o + 256 ^ (i+k) * c = dval (a.take (i+1)) * dval b /\ dval (a.take (i+1)) * dval b < 256 ^ (i + 1 + b.length) := by
 constructor
 ·have h1 := hr.sum
  rw [List.take_of_length_le hk, h.sum] at h1
  have hx2 : a.getD i 0 = x := by rw [List.getD_eq_getElem?_getD, hx]; rfl
  rw [dval_take_succ, hx2, Nat.add_mul, Nat.mul_assoc]; exact h1
 ·have h1 := dval_lt (ha.take (i+1))
  have h2 : 256 ^ (a.take (i+1)).length <= 256 ^ (i+1) := Nat.pow_le_pow_right (by omega) (List.length_take_le _ _)
  rw [Nat.pow_add]
  exact Nat.mul_lt_mul'' (by omega) (dval_lt hb)
theorem MulD.bound {a b o0 o : List Nat} {i k x c : Nat} (ha : AllD a) (hb : AllD b) (h : MulD a b o0 i) (hi : i < a.length) (hx : a[i]? = some x) (hr : RowD o0 o b i k x c) (hk : b.length <= k) (hc : 0 < c) : k <= b.length := by
 obtain ⟨h1, h2⟩ := MulD.total ha hb h hi hx hr hk
 refine Classical.byContradiction fun hn => ?_
 have h3 : 256 ^ (i + 1 + b.length) <= 256 ^ (i+k) := Nat.pow_le_pow_right (by omega) (by omega)
 have h4 := Nat.mul_le_mul_left (256 ^ (i+k)) hc
 omega
theorem MulD.step {a b o0 o : List Nat} {i k x : Nat} (ha : AllD a) (hb : AllD b) (h : MulD a b o0 i) (hi : i < a.length) (hx : a[i]? = some x) (hr : RowD o0 o b i k x 0) (hk : b.length <= k) : MulD a b o (i+1) :=
 ⟨hr.len.trans h.len, hr.lt, by have := (MulD.total ha hb h hi hx hr hk).1; simpa using this⟩
theorem MulD.done {a b o : List Nat} (h : MulD a b o a.length) : dval o = dval a * dval b := by
 have h1 := h.sum
 rwa [List.take_of_length_le (Nat.le_refl _)] at h1
end Go.Proofs.YtfokplidiboabaaGreat
namespace Go.Proofs.YtfokplidiboabaaGreat
open Go.RowKit
def Src (w : World) (size : Nat) (v : Value) (m : Nat) (news : List Value) : Prop :=
 news.length = m * size /\ (∀ u ∈ news, u.oneCell' = true) /\ ((v = .slice none 0 0 /\ m = 0) ∨ ∃ ad c, v = .slice (some ad) m c /\ ∀ j u, news[j]? = some u -> w.cell? (ad.add j) = some u)
theorem Src.own {w : World} {B size m : Nat} {e : TypeId} {v : Value} {news : List Value} (h : w.ownsRow B e size v m news) (h1 : ∀ u ∈ news, u.oneCell' = true) : Src w size v m news := by
 obtain ⟨h2, h3⟩ := h
 refine ⟨h2, h1, ?_⟩
 rcases h3 with ⟨h3, h4⟩ | ⟨g, cap, cur, rfl, hb, hg, hn, hm, hs, ht⟩
 ·exact .inl ⟨h3, h4⟩
 ·refine .inr ⟨⟨g, 0, none⟩, cap, rfl, fun j u hj => ?_⟩
  rw [Go.WideShapes.add_plain, Nat.zero_add]
  have hr : Row w g e cur.toList := by unfold Row; simpa using hg
  refine hr.cell ?_
  rw [<- ht, List.getElem?_take] at hj
  split at hj
  ·exact hj
  ·cases hj
theorem Src.row {w : World} {G size m c : Nat} {t : TypeId} {news : List Value} (h : Row w G t news) (hl : news.length = m * size) (h1 : ∀ u ∈ news, u.oneCell' = true) : Src w size (.slice (some ⟨G, 0, none⟩) m c) m news :=
 ⟨hl, h1, .inr ⟨_, c, rfl, fun j u hj => by rw [Go.WideShapes.add_plain, Nat.zero_add]; exact h.cell hj⟩⟩
theorem Src.later {w w' : World} {size m : Nat} {v : Value} {news : List Value} (h : Src w size v m news) (hb : Later w w') : Src w' size v m news := by
 obtain ⟨h1, h2, h3⟩ := h
 refine ⟨h1, h2, ?_⟩
 rcases h3 with h3 | ⟨ad, c, rfl, h3⟩
 ·exact .inl h3
 ·exact .inr ⟨ad, c, rfl, fun j u hj => hb.cell (h3 j u hj)⟩
theorem wpList_append_src {P : Program} {w : World} {ops : Array Oper} {rest : List Oper} {o : Oper} {a : Act} {Q : Exit -> Act -> World -> Prop} (hgd : o.guard = none) (s x : Operand) (t : TypeId)
 (ho : o.op = .call { callee := .builtin .append, args := #[s, x], argTypes := #[t, t] })
 (base : Nat) (e : TypeId) (z : Value) (size bytes : Nat) (ht : P.underlying t = some (.slice e)) (hinfo : (P.info? e).map (fun i => (i.zero, i.size, i.bytes)) = some (some z, size, bytes))
 (hzs : z.cells.size = size) (hsz : 0 < size) (hby : bytes <= 1024)
 (v : Value) (n : Nat) (xs : List Value) (hs : a.eval s = v) (hown : w.ownsRow base e size v n xs)
 (vx : Value) (m : Nat) (news : List Value) (hx : a.eval x = vx) (hsrc : Src w size vx m news) (hnm : n + m <= 4000000000) (hbase : base <= w.heap.size)
 (h : ∀ v' w', w'.ownsRow base e size v' (n + m) (xs ++ news) -> w.grownBy w' v.ownBlock -> (v'.ownBlock = v.ownBlock ∨ v'.ownBlock = some w.heap.size) -> wpList P ops Q rest (a.put o.dst v') w') :
 wpList P ops Q (o :: rest) a w := by
 obtain ⟨i, hi, hz0, hz1, hz2⟩ := info_parts hinfo
 obtain ⟨hl, h1, hh⟩ := hsrc
 rcases hh with ⟨rfl, rfl⟩ | ⟨ad, c, rfl, hnews⟩
 ·have : news = [] := List.eq_nil_of_length_eq_zero (by simpa using hl)
  subst this
  refine wpList_append_own_none hgd s x t ho base e i size ht hi v n xs hs hown hx ?_
  exact h v w (by simpa using hown) (World.grownBy.refl w _) (.inl rfl)
 ·refine wpList_append_own_at _ hgd s x t ho base e i z size bytes ht hi hz0 hz1 hz2 hzs hsz v n xs hs hown ad m c news hx hl hnews h1 (by unfold maxLen; omega) ?_ hbase (fun v' w' h2 h3 _ h4 => h v' w' h2 h3 h4)
  have h5 : (n + m) * bytes <= 4000000000 * 1024 := Nat.mul_le_mul hnm hby
  omega
theorem Later.grew {w W W' : World} {e : TypeId} {size n : Nat} {v : Value} {xs : List Value} (hb : Later w W) (hown : W.ownsRow w.heap.size e size v n xs) (hg : W.grownBy W' v.ownBlock) : Later w W' :=
 hb.grown hg (fun k hk => (World.ownsRow.lt hown k hk).1)
end Go.Proofs.YtfokplidiboabaaGreat
namespace Go.Proofs.YtfokplidiboabaaGreat
open Go.RowKit
def DigsAt (w : World) (v : Value) (l : List Nat) : Prop := AllD l /\ IsNums .i64 w v l
theorem DigsAt.later {w w' : World} {v : Value} {l : List Nat} (h : DigsAt w v l) (hb : Later w w') : DigsAt w' v l := ⟨h.1, h.2.later hb⟩
def OwnD (w : World) (B : Nat) (v : Value) (l : List Nat) : Prop := AllD l /\ OwnNums .i64 3 w B v l
theorem OwnD.reads {w : World} {B : Nat} {v : Value} {l : List Nat} (h : OwnD w B v l) : DigsAt w v l := ⟨h.1, h.2.reads⟩
theorem OwnD.later {w w' : World} {B : Nat} {v : Value} {l : List Nat} (h : OwnD w B v l) (hb : Later w w') : OwnD w' B v l := ⟨h.1, h.2.later hb⟩
theorem OwnD.weaken {w : World} {B B' : Nat} {v : Value} {l : List Nat} (h : OwnD w B v l) (hB : B' <= B) : OwnD w B' v l := ⟨h.1, h.2.weaken hB⟩
theorem OwnD.nil (w : World) (B : Nat) : OwnD w B (.slice none 0 0) [] := ⟨AllD.nil, OwnNums.nil _ _ w B⟩
theorem ownNums_take {w : World} {B : Nat} {q : IntKind} {T : TypeId} {A : Option Addr} {n c k : Nat} {l : List Nat} (h : OwnNums q T w B (.slice A n c) l) (hk : k <= n) : OwnNums q T w B (.slice A k c) (l.take k) := by
 rcases h.row with ⟨e, rfl⟩ | ⟨g, cap, sp, e, hB, hr, hl, hm⟩
 ·injection e with e1 e2 e3
  have : k = 0 := by omega
  subst this e1 e3
  exact OwnNums.nil _ _ w B
 ·injection e with e1 e2 e3
  subst e1 e2 e3
  have hlen := h.1
  refine ⟨by rw [length_nums, Nat.mul_one], .inr ⟨g, c, (nums q l ++ sp).toArray, by rw [List.length_take, Nat.min_eq_left hk], hB, hr, by rw [List.length_take]; omega, hm, ?_, ?_⟩⟩
  ·obtain ⟨-, h3⟩ := h
   rcases h3 with ⟨h3, -⟩ | ⟨g', cap', cur, e, hb, hg, hn', hm', hs', ht'⟩
   ·cases h3
   ·injection e with e1 e2 e3
    injection e1 with e1; injection e1 with e1
    subst e1 e3
    have hr2 : w.heap[g]? = some (.cells (nums q l ++ sp).toArray T (0, 0)) := hr
    rw [hg] at hr2
    injection hr2 with hr2; injection hr2 with hr2
    rw [<- hr2, hs']
  ·show List.take _ (nums q l ++ sp) = _
   rw [List.length_take, Nat.min_eq_left hk, Nat.mul_one, List.take_append_of_le_length (by rw [length_nums]; exact hk), nums_take]
theorem OwnD.take {w : World} {B : Nat} {A : Option Addr} {n c k : Nat} {l : List Nat} (h : OwnD w B (.slice A n c) l) (hk : k <= n) : OwnD w B (.slice A k c) (l.take k) := ⟨h.1.take k, ownNums_take h.2 hk⟩
theorem info_int : (Tryz.prog.info? 3).map (fun i => (i.zero, i.size, i.bytes)) = some (some (.int .i64 0), 1, 8) := by kernel_rfl
set_option maxHeartbeats 400000 in
theorem at_calls (w : World) (v : Value) (l : List Nat) (h : DigsAt w v l) (i x : Nat) (hi : i <= 4000000000) (hx : l.getD i 0 = x) :
 Calls Tryz.prog 243 #[v, .int .i64 i] w fun e w' => e = .returned (.int .i64 x) /\ w = w' := by
 have HX := hide hx; clear hx
 obtain ⟨A, cap, rfl, hcap, hcm, hc⟩ := h.2.form
 by_cases hlt' : i < l.length
 ·obtain ⟨b, off, y, rfl, hy, hcell⟩ := num_at hc hlt'
  have hf : Hid (y = x) := hide (by rw [<- HX.out, List.getD_eq_getElem?_getD, hy.out]; rfl)
  clear hc hy h
  have hd : decide ((i : Int) < l.length) = true := by simp; omega
  go_enter Tryz.func243, Tryz.ntmps243
  go_wp2
  go_ret
  exact ⟨by rw [<- hf.out]; rfl, rfl⟩
 ·have hf : Hid (x = 0) := hide (by rw [<- HX.out, List.getD_eq_getElem?_getD, List.getElem?_eq_none (by omega)]; rfl)
  clear hc h
  have hd : decide ((i : Int) < l.length) = false := by simp; omega
  go_enter Tryz.func243, Tryz.ntmps243
  go_wp2
  go_ret
  refine ⟨by rw [hf.out]; rfl, rfl⟩
def CutPost (w : World) (A : Option Addr) (n c : Nat) (l : List Nat) (e : Ending) (w' : World) : Prop := ∃ k, e = .returned (.slice A k c) /\ k <= n /\ l.take k = digs (dval l) /\ w = w'
set_option maxHeartbeats 1000000 in
theorem cut_calls (w : World) (A : Option Addr) (n c : Nat) (l : List Nat) (h : DigsAt w (.slice A n c) l) (hl : l.length <= 4000000000) :
 Calls Tryz.prog 241 #[.slice A n c] w (CutPost w A n c l) := by
 obtain ⟨A', cap, e, hcap, hcm, hc⟩ := h.2.form
 injection e with e1 e2 e3
 subst e1 e3
 have hD := hide h.1
 rw [<- e2] at hl hcap
 have HN := hide e2; clear e2 h
 go_enter Tryz.func241, Tryz.ntmps241
 go_wp2
 go_loop [0] (fun d => ∃ k : Nat, k <= n /\ d = .slice A k c /\ Hid (dval (l.drop k) = 0)) (fun d => match d with | .slice _ k _ => k | _ => 0)
 case atStart => exact ⟨n, Nat.le_refl _, rfl, hide (by rw [HN.out]; simp)⟩
 case round =>
  obtain ⟨k, hk, rfl, hz⟩ := hrel
  by_cases hgo : 0 < k /\ l[k-1]? = some 0
  ·obtain ⟨h0, hx0⟩ := hgo
   have HX0 := hide hx0; clear hx0
   obtain ⟨b, off, x, rfl, hx, hcell⟩ := num_at hc (k := k - 1) (by have := HN.out; omega)
   obtain rfl : x = 0 := by have h1 := hx.out; rw [HX0.out] at h1; simpa using h1.symm
   go_wp2
   go_round
   case rel =>
    refine ⟨k - 1, by omega, by go_num, hide ?_⟩
    have h1 : l.drop (k-1) = 0 :: l.drop k := by
     have h2 := HX0.out
     rw [List.getElem?_eq_some_iff] at h2
     obtain ⟨h3, h4⟩ := h2
     rw [List.drop_eq_getElem_cons h3, h4]
     congr 2; omega
    rw [h1, dval_cons, hz.out]
   case measure => simp; omega
  ·have hfin := hide (digs_take hD.out (by rw [<- HN.out]; exact hk) hz.out (fun x hk0 hx hx0 => hgo ⟨hk0, by rw [<- hx0]; exact hx⟩))
   have htest : (0 < k /\ ∃ b off, ∃ x : Nat, A = some ⟨b, off, none⟩ /\ ((x : Int) == 0) = false /\ w.cell? ⟨b, off + (k - 1), none⟩ = some (.int .i64 (x : Int))) ∨ ¬ 0 < k := by
    by_cases h0 : 0 < k
    ·obtain ⟨b, off, x, rfl, hx, hcell⟩ := num_at hc (k := k - 1) (by have := HN.out; omega)
     refine .inl ⟨h0, b, off, x, rfl, ?_, hcell⟩
     rw [beq_eq_false_iff_ne]
     intro hx0
     have : x = 0 := by omega
     subst this
     exact hgo ⟨h0, hx.out⟩
    ·exact .inr h0
   clear hgo
   rcases htest with ⟨h0, b, off, x, rfl, hxt, hcell⟩ | h0
   all_goals
    go_wp2
    go_ret
    exact ⟨k, rfl, hk, hfin.out, rfl⟩
theorem dig_step (x k : Nat) (hk : k < 4) (hx : x < 4294967296) : (((x / 256 ^ k : Nat) : Int) % 256) = ((dig_ x k : Nat) : Int) /\ ((x / 256 ^ k : Nat) : Int) / 256 = ((x / 256 ^ (k+1) : Nat) : Int) /\ dig_ x k < 256 /\ x / 256 ^ k < 4294967296 := by
 refine ⟨by simp [dig_], ?_, Nat.mod_lt _ (by omega), Nat.lt_of_le_of_lt (Nat.div_le_self _ _) hx⟩
 rw [Nat.pow_succ, <- Nat.div_div_eq_div_mul]; omega
set_option maxHeartbeats 2000000 in
theorem digits_calls (w : World) (v : Value) (l : List Nat) (h : U32s w v l) (hl : l.length <= 500000000) :
 Calls Tryz.prog 210 #[v] w (Ret w fun w' v' => OwnD w' w.heap.size v' (digs (val l))) := by
 obtain ⟨A, cap, rfl, hcap, hcm, hlt, hc⟩ := h.form
 obtain ⟨n, hn⟩ : ∃ n, n = l.length := ⟨_, rfl⟩
 rw [<- hn] at hl hcap ⊢
 have HN := hide hn; have HA := hide hlt; clear hn h hlt
 go_enter Tryz.func210, Tryz.ntmps210
 go_wp2
 go_loopw [3, 4] (fun out i wr => ∃ k : Nat, k <= n /\ i = .int .i64 (k : Int) /\ OwnNums .i64 3 wr w.heap.size out (fours (l.take k)) /\ Later w wr) (fun _ i _ => (n - intOf i).toNat)
 case atStart => exact ⟨0, Nat.zero_le _, rfl, OwnNums.nil _ _ _ _, Later.refl w⟩
 case round =>
  obtain ⟨k, hk, rfl, hout, hb⟩ := hrel
  by_cases hkn : k < n
  ·obtain ⟨b, off, x, rfl, hx, hxl, hcell⟩ := limb_at (hc.later hb) HA.out (k := k) (by have := HN.out; omega)
   obtain ⟨wo, rfl⟩ : ∃ wo : World, wo = wr := ⟨_, rfl⟩
   have HO := hide hout; clear hout
   go_wp2
   go_loopw [3, 5, 6] (fun out y i wr => ∃ j : Nat, j <= 4 /\ i = .int .i64 (j : Int) /\ y = .int .u32 ((x / 256 ^ j : Nat) : Int) /\ OwnNums .i64 3 wr w.heap.size out (fours (l.take k) ++ (List.range j).map (dig_ x)) /\ Later w wr) (fun _ _ i _ => (4 - intOf i).toNat)
   case atStart => exact ⟨0, by omega, rfl, by simp, by simpa using HO.out, hb⟩
   case round =>
    obtain ⟨j, hj, rfl, rfl, hout, hb2⟩ := hrel
    by_cases hj4 : j < 4
    ·obtain ⟨h1, h2, h3, h4⟩ := dig_step x j hj4 hxl
     obtain ⟨y, hy⟩ : ∃ y, y = x / 256 ^ j := ⟨_, rfl⟩
     obtain ⟨d, hd⟩ : ∃ d, d = dig_ x j := ⟨_, rfl⟩
     rw [<- hy] at h1 h2 h4 ⊢
     rw [<- hd] at h1 h3
     have H1 := hide h1; have H2 := hide h2; have HD := hide hd; have HOUT := hide hout
     have hlen9 : (fours (l.take k) ++ (List.range j).map (dig_ x)).length + 1 <= 4000000000 := by rw [List.length_append, fours_len, List.length_take]; simp; omega
     clear h1 h2 hd hy hout
     go_wp2_with (at_builtin; rw [H1.out]; refine wpList_append_src rfl _ _ 72 rfl w.heap.size 3 (.int .i64 0) 1 8 Tryz.underlying72 info_int rfl (by omega) (by omega) _ _ _ rfl (HOUT.out.later ((Later.refl _).alloc _)) _ 1 (nums .i64 [d]) rfl (Src.row (Row.new _ _ _) rfl (nums_one _)) hlen9 (Nat.le_trans hb2.size (by simp)) ?_; intro v' w1 hown hg hblk)
     have hb3 : Later w w1 := Later.grew (Later.alloc hb2 _) (HOUT.out.later ((Later.refl _).alloc _)) hg
     have hown2 : OwnNums .i64 3 w1 w.heap.size v' (fours (l.take k) ++ (List.range (j+1)).map (dig_ x)) := by
      have e : fours (l.take k) ++ (List.range (j+1)).map (dig_ x) = (fours (l.take k) ++ (List.range j).map (dig_ x)) ++ [d] := by
       rw [List.range_succ, List.map_append, <- List.append_assoc, HD.out]; rfl
      rw [e]
      unfold OwnNums
      rw [nums_append, List.length_append]
      exact hown
     have HO2 := hide hown2
     clear hown hown2 hg hblk
     go_wp2
     go_roundw
     case rel => exact ⟨j+1, by omega, by go_num, by rw [<- H2.out], HO2.out, hb3⟩
     case measure => simp [intOf]; omega
    ·obtain rfl : j = 4 := by omega
     have hn2 : OwnNums .i64 3 wr w.heap.size u3 (fours (l.take (k+1))) := by
      have e : fours (l.take (k+1)) = fours (l.take k) ++ (List.range 4).map (dig_ x) := by
       rw [List.take_succ_eq_append_getElem (by have := HN.out; omega), fours_snoc, <- four_eq]
       have := hx.out
       rw [List.getElem?_eq_some_iff] at this
       obtain ⟨h1, h2⟩ := this
       rw [h2]
      rw [e]; exact hout
     have HO2 := hide hn2
     clear hn2 hout
     go_wp2
     go_roundw
     case rel => exact ⟨k+1, by omega, by go_num, HO2.out, hb2⟩
     case measure => simp [intOf]; omega
  ·obtain rfl : k = n := by omega
   rw [List.take_of_length_le (by have := HN.out; omega)] at hout
   obtain ⟨A1, c1, f1, hc1, hm1, hcc⟩ := hout.reads.form
   obtain ⟨m, hm⟩ : ∃ m, m = (fours l).length := ⟨_, rfl⟩
   rw [<- hm] at f1 hc1
   subst f1
   have HO := hide hout; have HM := hide hm
   have hm9 : m <= 4000000000 := by rw [hm, fours_len, <- HN.out]; omega
   clear hout hm hcc
   go_wp2_with fail
   refine (cut_calls _ _ _ _ (fours l) ⟨fours_all l, HO.out.reads⟩ (by rw [<- HM.out]; exact hm9)).mono ?_
   rintro e w1 ⟨j, rfl, hj, ht, rfl⟩
   have HT := hide ht
   clear ht
   go_wp2_with fail
   go_ret
   refine ⟨_, rfl, ?_, hb⟩
   have h1 := OwnD.take (k := j) ⟨fours_all l, HO.out⟩ hj
   rw [HT.out, dval_fours HA.out] at h1
   exact h1
end Go.Proofs.YtfokplidiboabaaGreat
