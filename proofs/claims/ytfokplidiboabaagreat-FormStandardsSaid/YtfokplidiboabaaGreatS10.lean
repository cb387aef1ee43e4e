/- The reference's fractions: Plain, Of, cross. -/
import Derived.Test.YtfokplidiboabaaGreatS9
import Derived.Test.YtfokplidiboabaaGreatS6
import Derived.Test.YtfokplidiboabaaGreatS8
set_option linter.unusedVariables false
set_option linter.unusedSimpArgs false
set_option maxRecDepth 100000
namespace Go.Proofs.YtfokplidiboabaaGreat
open Go.RowKit Go.Shelf
attribute [local go_sem ↓] Go.wp_at_zero Go.wp_at_succ
set_option maxHeartbeats 4000000 in
theorem qplain_calls (w : World) (v : Value) (q : Rat) (k : Nat) (h : RawR w v q k) (hk : k <= 180000000) :
 Calls Tryz.prog 74 #[v] w (Ret w fun w' v => OwnR w' w.heap.size v q) := by
 obtain ⟨sa, A1, n1, c1, sa', A1', n1', c1', x, y, rfl, hx, hy, hq⟩ := h
 have HX := hide hx; have HY := hide hy; have HQ := hide hq
 obtain ⟨W0, hW0⟩ : ∃ W0, W0 = ((w.alloc (Obj.cells #[Value.bool sa, Value.slice A1 n1 c1, Value.bool sa', Value.slice A1' n1' c1'] 36)).alloc (Obj.cells #[Value.bool false, Value.slice none 0 0, Value.bool false, Value.slice none 0 0] 36)) := ⟨_, rfl⟩
 obtain ⟨hb0, r1, r2, hsz⟩ := boxes2 w [.bool sa, .slice A1 n1 c1, .bool sa', .slice A1' n1' c1'] [.bool false, .slice none 0 0, .bool false, .slice none 0 0] 36 36 hW0
 have R1 := hide r1; have R2 := hide r2; have B0 := hide hb0; have HW0 := hide hW0
 clear hq r1 r2 hb0 hW0
 by_cases hpos : 0 < y
 ·have ht : decide (0 < y) = true := by simpa using hpos
  have HT := hide ht
  obtain ⟨neg, A0, n0, c0, l, e, hu, hz, hl⟩ := hx
  injection e with e; injection e with e; injection e with e1 e; injection e with e2 e
  injection e1 with e1; injection e2 with e2 e3 e4
  subst e1 e2 e3 e4
  obtain ⟨neg, A0, n0, c0, l', e, hu', hz', hl'⟩ := hy
  injection e with e; injection e with e; injection e with e1 e; injection e with e2 e
  injection e1 with e1; injection e2 with e2 e3 e4
  subst e1 e2 e3 e4
  have hxa : x.natAbs = val l := by rw [hz, natAbs_sgn]
  have hya : y.natAbs = val l' := by rw [hz', natAbs_sgn]
  obtain ⟨g, hg⟩ : ∃ g, g = Nat.gcd (val l) (val l') := ⟨_, rfl⟩
  have hq2 : q = mkRat x y.toNat := by rw [HQ.out]; unfold ratOf; rw [if_pos hpos]
  obtain ⟨z1, z2, hgp⟩ := by_law hpos hq2 (g := g) (by rw [hxa, hya]; exact hg)
  have z3 : sgn sa (val l / g) = q.num := by rw [exact_sgn hz g]; exact z1
  have z4 : val l' / g = q.den := by
   rw [show decide (y < 0) = false by simp; omega] at z2
   rw [hya] at z2
   have : ((val l' / g : Nat) : Int) = q.den := z2
   omega
  have hgl : (limbs g).length <= k := by
   refine Nat.le_trans (length_limbs_mono (b := val l') ?_) (Nat.le_trans (length_limbs_val hu'.1) hl')
   rw [hg]; exact Nat.gcd_le_right _ (by omega)
  have hql : (limbs (val l / g)).length <= k := Nat.le_trans (length_limbs_mono (Nat.div_le_self _ _)) (Nat.le_trans (length_limbs_val hu.1) hl)
  have HU := hide hu; have HU' := hide hu'; have Z3 := hide z3; have Z4 := hide z4; have HG := hide hg; have HQL := hide hql
  clear hz hz' hxa hya hq2 z1 z2 z3 z4 hu hu' ht hg hql e HQ HX
  go_enter Tryz.func74, Tryz.ntmps74
  go_wp2_with fail
  rw [<- HW0.out]
  refine (qmay_calls _ sa _ _ _ _ sa' y k (HY.out.later B0.out) ⟨_, _, _, rfl⟩ (by omega) true HT.out).mono ?_
  rintro e w1 ⟨rfl, b1⟩
  obtain ⟨d1, d2, d3, d4, d5, d6, d7, d8⟩ := row_cells4 (R1.out.later b1)
  have k1 := B0.out.trans b1
  go_wp2_with fail
  refine (rngcd_calls _ _ _ l l' (HU.out.later k1) (HU'.out.later k1) (by omega) (by omega)).mono ?_
  rintro e w2 ⟨v2, rfl, o2, b2⟩
  rw [<- HG.out] at o2
  obtain ⟨P2, q2, e2, rfl, o2, -⟩ := o2.open_
  have O2 := hide o2; clear o2
  have k2 := k1.trans b2
  clear d1 d2 d3 d4 d5 d6 d7 d8; obtain ⟨d1, d2, d3, d4, d5, d6, d7, d8⟩ := row_cells4 (R1.out.later (b1.trans b2))
  go_wp2_with fail
  refine (rndiv_calls _ _ _ l (limbs g) (HU.out.later k2) O2.out.reads (by omega) (by omega) (by rw [val_limbs]; exact hgp)).mono ?_
  rintro e w3 ⟨v3, r3, ok3, rfl, ⟨o3, -, rfl⟩, b3⟩
  rw [val_limbs] at o3
  obtain ⟨P3, q3, e3, rfl, o3, -⟩ := o3.open_
  have O3 := hide o3; clear o3
  have k3 := k2.trans b3
  clear d1 d2 d3 d4 d5 d6 d7 d8; obtain ⟨d1, d2, d3, d4, d5, d6, d7, d8⟩ := row_cells4 (R1.out.later ((b1.trans b2).trans b3))
  go_wp2_with fail
  refine (rndiv_calls _ _ _ l' (limbs g) (HU'.out.later k3) (O2.out.reads.later b3) (by omega) (by omega) (by rw [val_limbs]; exact hgp)).mono ?_
  rintro e w4 ⟨v4, r4, ok4, rfl, ⟨o4, -, rfl⟩, b4⟩
  rw [val_limbs, Z4.out] at o4
  obtain ⟨P4, q4, e4, rfl, o4, -⟩ := o4.open_
  have O4 := hide o4; clear o4
  have k4 := k3.trans b4
  clear d1 d2 d3 d4 d5 d6 d7 d8; obtain ⟨d1, d2, d3, d4, d5, d6, d7, d8⟩ := row_cells4 (R1.out.later (((b1.trans b2).trans b3).trans b4))
  go_wp2_with fail
  refine (zplain_calls _ _ (sgn sa (val l / g)) k (rawI_mk (O3.out.later b4) HQL.out) (by omega)).mono ?_
  rintro e w5 ⟨v5, rfl, o5, b5⟩
  rw [Z3.out] at o5
  obtain ⟨s5, P5, q5, e5, rfl, o5⟩ := o5.open_; have O5 := hide o5; clear o5
  have k5 := k4.trans b5
  have HR := hide (R2.out.later ((((b1.trans b2).trans b3).trans b4).trans b5))
  have hs1 := b1.size; have hs2 := b2.size; have hs3 := b3.size; have hs4 := b4.size
  clear d1 d2 d3 d4 d5 d6 d7 d8; obtain ⟨d1, d2, d3, d4, d5, d6, d7, d8⟩ := row_cells4 (HR.out)
  go_wp2_with fail
  refine bodyPost_ret (results_rat rfl rfl (HR.out.four _ _ _ _)) rfl ?_
  have oo := Only.four (w.heap.size + 1) w5 (.bool s5) (.slice P5 q5 e5) (.bool false) (.slice P4 q4 e4)
  refine ⟨_, rfl, OwnR.weaken (OwnR.mk_ (B := w.heap.size + 2) ?_ ?_) (by omega), k5.only oo (by omega)⟩
  ·exact (O5.out.weaken (by omega)).only oo (by omega)
  ·exact ((O4.out.later b5).weaken (by omega)).only oo (by omega)
 ·have hq : q = 0 := by rw [HQ.out, ratOf_not hpos]
  subst hq
  have ht : decide (0 < y) = false := by simpa using hpos
  have HT := hide ht
  clear ht
  go_enter Tryz.func74, Tryz.ntmps74
  go_wp2_with fail
  rw [<- HW0.out]
  refine (qmay_calls _ sa _ _ _ _ sa' y k (HY.out.later B0.out) ⟨_, _, _, rfl⟩ (by omega) false HT.out).mono ?_
  rintro e w1 ⟨rfl, b1⟩
  go_wp2_with fail
  refine (qzero_calls _).mono ?_
  rintro e w2 ⟨v2, rfl, o2, b2⟩
  obtain ⟨s2, P2, q2, e2, P2', q2', e2', rfl, o2⟩ := o2.open_; have O2 := hide o2; clear o2
  have hb := b1.trans b2
  obtain ⟨d1, d2, d3, d4, d5, d6, d7, d8⟩ := row_cells4 (R2.out.later hb)
  have hL := B0.out.trans hb
  have hs1 := b1.size
  have HR := hide (R2.out.later hb)
  go_wp2_with fail
  refine bodyPost_ret (results_rat rfl rfl (HR.out.four _ _ _ _)) rfl ?_
  have oo := Only.four (w.heap.size + 1) w2 (.bool s2) (.slice P2 q2 e2) (.bool false) (.slice P2' q2' e2')
  exact ⟨_, rfl, (O2.out.only oo (by omega)).weaken (by omega), hL.only oo (by omega)⟩
def Cross (a b : Rat) (B : Nat) (w' : World) (v u t : Value) : Prop := OwnI w' B v (a.num * b.den) /\ OwnI w' B u (b.num * a.den) /\ OwnI w' B t (a.den * b.den)
set_option maxHeartbeats 4000000 in
theorem cross_calls (w : World) (va vb : Value) (a b : Rat) (k m : Nat) (ha : RawR w va a k) (hb : RawR w vb b m) (hkm : k + m <= 80000000) :
 Calls Tryz.prog 89 #[va, vb] w (Ret3 w fun w' v u t => Cross a b w.heap.size w' v u t) := by
 have SA := ha.sized; have SB := hb.sized
 have HA := hide ha; have HB := hide hb
 obtain ⟨sa, A1, n1, c1, sa', A1', n1', c1', rfl⟩ := ha.open_
 obtain ⟨sb, A2, n2, c2, sb', A2', n2', c2', rfl⟩ := hb.open_
 obtain ⟨W0, hW0⟩ : ∃ W0, W0 = (((((w.alloc (Obj.cells #[Value.bool sa, Value.slice A1 n1 c1, Value.bool sa', Value.slice A1' n1' c1'] 36)).alloc (Obj.cells #[Value.bool sb, Value.slice A2 n2 c2, Value.bool sb', Value.slice A2' n2' c2'] 36)).alloc (Obj.cells #[Value.bool false, Value.slice none 0 0] 34)).alloc (Obj.cells #[Value.bool false, Value.slice none 0 0] 34)).alloc (Obj.cells #[Value.bool false, Value.slice none 0 0] 34)) := ⟨_, rfl⟩
 obtain ⟨hb0, r1, r2, r3, r4, r5, hsz⟩ := boxes5 w [.bool sa, .slice A1 n1 c1, .bool sa', .slice A1' n1' c1'] [.bool sb, .slice A2 n2 c2, .bool sb', .slice A2' n2' c2'] [.bool false, .slice none 0 0] [.bool false, .slice none 0 0] [.bool false, .slice none 0 0] 36 36 34 34 34 hW0
 have R2 := hide r2; have R3 := hide r3; have R4 := hide r4; have R5 := hide r5; have B0 := hide hb0; have HW0 := hide hW0
 clear ha hb r1 r2 r3 r4 r5 hb0 hW0
 go_enter Tryz.func89, Tryz.ntmps89
 go_wp2_with fail
 rw [<- HW0.out]
 refine (qplain_calls _ _ a k (HA.out.later B0.out) (by omega)).mono ?_
 rintro e w1 ⟨v1, rfl, o1, b1⟩
 obtain ⟨s1, P1, q1, e1, P1', q1', e1', rfl, o1⟩ := o1.open_; have O1 := hide o1; clear o1
 obtain ⟨d1, d2, d3, d4, d5, d6, d7, d8⟩ := row_cells4 (R2.out.later (b1.alloc (Obj.cells #[Value.bool s1, Value.slice P1 q1 e1, Value.bool false, Value.slice P1' q1' e1'] 36)))
 have hs1 := b1.size
 go_wp2_with fail
 obtain ⟨V1, hV1⟩ : ∃ V, V = w1.alloc (Obj.cells #[Value.bool s1, Value.slice P1 q1 e1, Value.bool false, Value.slice P1' q1' e1'] 36) := ⟨_, rfl⟩
 have c1' : Later w1 V1 := by rw [hV1]; exact (Later.refl w1).alloc _
 have x1 : Row V1 w1.heap.size 36 [.bool s1, .slice P1 q1 e1, .bool false, .slice P1' q1' e1'] := by rw [hV1]; exact Row.new w1 _ _
 have hsV1 : V1.heap.size = w1.heap.size + 1 := by rw [hV1]; simp
 rw [<- hV1]
 have X1 := hide x1; have C1 := hide c1'
 clear hV1 x1 c1' d1 d2 d3 d4 d5 d6 d7 d8
 refine (qplain_calls _ _ b m (HB.out.later (B0.out.trans (b1.trans C1.out))) (by omega)).mono ?_
 rintro e w2 ⟨v2, rfl, o2, b2⟩
 obtain ⟨s2, P2, q2, e2, P2', q2', e2', rfl, o2⟩ := o2.open_; have O2 := hide o2; clear o2
 have hs2 := b2.size
 obtain ⟨V2, hV2⟩ : ∃ V, V = w2.alloc (Obj.cells #[Value.bool s2, Value.slice P2 q2 e2, Value.bool false, Value.slice P2' q2' e2'] 36) := ⟨_, rfl⟩
 have c2' : Later w2 V2 := by rw [hV2]; exact (Later.refl w2).alloc _
 have x2 : Row V2 w2.heap.size 36 [.bool s2, .slice P2 q2 e2, .bool false, .slice P2' q2' e2'] := by rw [hV2]; exact Row.new w2 _ _
 have hsV2 : V2.heap.size = w2.heap.size + 1 := by rw [hV2]; simp
 have x1 := X1.out.later (b2.trans c2')
 have C2 := hide ((b1.trans C1.out).trans (b2.trans c2'))
 have HV2 := hide hV2
 obtain ⟨y1, hy1⟩ : ∃ x, x = a.num := ⟨_, rfl⟩
 obtain ⟨y2, hy2⟩ : ∃ x, x = (a.den : Int) := ⟨_, rfl⟩
 obtain ⟨y3, hy3⟩ : ∃ x, x = b.num := ⟨_, rfl⟩
 obtain ⟨y4, hy4⟩ : ∃ x, x = (b.den : Int) := ⟨_, rfl⟩
 have D0 : Hid (Later V2 V2.drew) := hide (Later.refl V2).drew
 have ha1 := (((O1.out.later C1.out).later (b2.trans c2')).num.raw SA.1).later D0.out; have ha2 := (((O1.out.later C1.out).later (b2.trans c2')).den.raw (limbs_castZ SA.2)).later D0.out
 have hb1 := ((O2.out.later c2').num.raw SB.1).later D0.out; have hb2 := ((O2.out.later c2').den.raw (limbs_castZ SB.2)).later D0.out
 rw [<- hy1] at ha1; rw [<- hy2] at ha2; rw [<- hy3] at hb1; rw [<- hy4] at hb2
 have HA1 := hide ha1; have HA2 := hide ha2; have HB1 := hide hb1; have HB2 := hide hb2
 have HY : Hid (∀ B W v u t, OwnI W B v (y1 * y4) -> OwnI W B u (y3 * y2) -> OwnI W B t (y2 * y4) -> Cross a b B W v u t) := hide (by subst hy1 hy2 hy3 hy4; exact fun _ _ _ _ _ h1 h2 h3 => ⟨h1, h2, h3⟩)
 have hszd : V2.drew.heap.size = w2.heap.size + 1 := hsV2
 have x1 := x1.drew; have x2 := x2.drew
 have LV := hide ((B0.out.trans C2.out).trans D0.out)
 have R3 := hide (R3.out.later (C2.out.trans D0.out)); have R4 := hide (R4.out.later (C2.out.trans D0.out)); have R5 := hide (R5.out.later (C2.out.trans D0.out))
 have HT1 : Hid (∀ w', Later V2.drew w' -> w'.cell? ⟨w1.heap.size, 0, none⟩ = some (.bool s1) /\ w'.cell? ⟨w1.heap.size, 1, none⟩ = some (.slice P1 q1 e1) /\ w'.cell? ⟨w1.heap.size, 2, none⟩ = some (.bool false) /\ w'.cell? ⟨w1.heap.size, 3, none⟩ = some (.slice P1' q1' e1') /\ w'.cell? ⟨w2.heap.size, 0, none⟩ = some (.bool s2) /\ w'.cell? ⟨w2.heap.size, 1, none⟩ = some (.slice P2 q2 e2) /\ w'.cell? ⟨w2.heap.size, 2, none⟩ = some (.bool false) /\ w'.cell? ⟨w2.heap.size, 3, none⟩ = some (.slice P2' q2' e2')) :=
  hide fun w' hb => ⟨(x1.later hb).cell rfl, (x1.later hb).cell rfl, (x1.later hb).cell rfl, (x1.later hb).cell rfl, (x2.later hb).cell rfl, (x2.later hb).cell rfl, (x2.later hb).cell rfl, (x2.later hb).cell rfl⟩
 have HS1 : Hid (∀ w' a1_ b1_, Later V2.drew w' -> ((w'.setCell ⟨w.heap.size + 2, 0, none⟩ a1_).setCell ⟨w.heap.size + 2, 1, none⟩ b1_).cell? ⟨w1.heap.size, 0, none⟩ = some (.bool s1) /\ ((w'.setCell ⟨w.heap.size + 2, 0, none⟩ a1_).setCell ⟨w.heap.size + 2, 1, none⟩ b1_).cell? ⟨w1.heap.size, 1, none⟩ = some (.slice P1 q1 e1) /\ ((w'.setCell ⟨w.heap.size + 2, 0, none⟩ a1_).setCell ⟨w.heap.size + 2, 1, none⟩ b1_).cell? ⟨w1.heap.size, 2, none⟩ = some (.bool false) /\ ((w'.setCell ⟨w.heap.size + 2, 0, none⟩ a1_).setCell ⟨w.heap.size + 2, 1, none⟩ b1_).cell? ⟨w1.heap.size, 3, none⟩ = some (.slice P1' q1' e1') /\ ((w'.setCell ⟨w.heap.size + 2, 0, none⟩ a1_).setCell ⟨w.heap.size + 2, 1, none⟩ b1_).cell? ⟨w2.heap.size, 0, none⟩ = some (.bool s2) /\ ((w'.setCell ⟨w.heap.size + 2, 0, none⟩ a1_).setCell ⟨w.heap.size + 2, 1, none⟩ b1_).cell? ⟨w2.heap.size, 1, none⟩ = some (.slice P2 q2 e2) /\ ((w'.setCell ⟨w.heap.size + 2, 0, none⟩ a1_).setCell ⟨w.heap.size + 2, 1, none⟩ b1_).cell? ⟨w2.heap.size, 2, none⟩ = some (.bool false) /\ ((w'.setCell ⟨w.heap.size + 2, 0, none⟩ a1_).setCell ⟨w.heap.size + 2, 1, none⟩ b1_).cell? ⟨w2.heap.size, 3, none⟩ = some (.slice P2' q2' e2')) :=
  hide fun w' a1_ b1_ hb => ⟨((x1.later hb).far2 (by omega) a1_ b1_).cell rfl, ((x1.later hb).far2 (by omega) a1_ b1_).cell rfl, ((x1.later hb).far2 (by omega) a1_ b1_).cell rfl, ((x1.later hb).far2 (by omega) a1_ b1_).cell rfl, ((x2.later hb).far2 (by omega) a1_ b1_).cell rfl, ((x2.later hb).far2 (by omega) a1_ b1_).cell rfl, ((x2.later hb).far2 (by omega) a1_ b1_).cell rfl, ((x2.later hb).far2 (by omega) a1_ b1_).cell rfl⟩
 have HS2 : Hid (∀ w' a1_ b1_ a2_ b2_, Later V2.drew w' -> ((((w'.setCell ⟨w.heap.size + 2, 0, none⟩ a1_).setCell ⟨w.heap.size + 2, 1, none⟩ b1_).setCell ⟨w.heap.size + 3, 0, none⟩ a2_).setCell ⟨w.heap.size + 3, 1, none⟩ b2_).cell? ⟨w1.heap.size, 0, none⟩ = some (.bool s1) /\ ((((w'.setCell ⟨w.heap.size + 2, 0, none⟩ a1_).setCell ⟨w.heap.size + 2, 1, none⟩ b1_).setCell ⟨w.heap.size + 3, 0, none⟩ a2_).setCell ⟨w.heap.size + 3, 1, none⟩ b2_).cell? ⟨w1.heap.size, 1, none⟩ = some (.slice P1 q1 e1) /\ ((((w'.setCell ⟨w.heap.size + 2, 0, none⟩ a1_).setCell ⟨w.heap.size + 2, 1, none⟩ b1_).setCell ⟨w.heap.size + 3, 0, none⟩ a2_).setCell ⟨w.heap.size + 3, 1, none⟩ b2_).cell? ⟨w1.heap.size, 2, none⟩ = some (.bool false) /\ ((((w'.setCell ⟨w.heap.size + 2, 0, none⟩ a1_).setCell ⟨w.heap.size + 2, 1, none⟩ b1_).setCell ⟨w.heap.size + 3, 0, none⟩ a2_).setCell ⟨w.heap.size + 3, 1, none⟩ b2_).cell? ⟨w1.heap.size, 3, none⟩ = some (.slice P1' q1' e1') /\ ((((w'.setCell ⟨w.heap.size + 2, 0, none⟩ a1_).setCell ⟨w.heap.size + 2, 1, none⟩ b1_).setCell ⟨w.heap.size + 3, 0, none⟩ a2_).setCell ⟨w.heap.size + 3, 1, none⟩ b2_).cell? ⟨w2.heap.size, 0, none⟩ = some (.bool s2) /\ ((((w'.setCell ⟨w.heap.size + 2, 0, none⟩ a1_).setCell ⟨w.heap.size + 2, 1, none⟩ b1_).setCell ⟨w.heap.size + 3, 0, none⟩ a2_).setCell ⟨w.heap.size + 3, 1, none⟩ b2_).cell? ⟨w2.heap.size, 1, none⟩ = some (.slice P2 q2 e2) /\ ((((w'.setCell ⟨w.heap.size + 2, 0, none⟩ a1_).setCell ⟨w.heap.size + 2, 1, none⟩ b1_).setCell ⟨w.heap.size + 3, 0, none⟩ a2_).setCell ⟨w.heap.size + 3, 1, none⟩ b2_).cell? ⟨w2.heap.size, 2, none⟩ = some (.bool false) /\ ((((w'.setCell ⟨w.heap.size + 2, 0, none⟩ a1_).setCell ⟨w.heap.size + 2, 1, none⟩ b1_).setCell ⟨w.heap.size + 3, 0, none⟩ a2_).setCell ⟨w.heap.size + 3, 1, none⟩ b2_).cell? ⟨w2.heap.size, 3, none⟩ = some (.slice P2' q2' e2')) :=
  hide fun w' a1_ b1_ a2_ b2_ hb => ⟨(((x1.later hb).far2 (by omega) a1_ b1_).far2 (by omega) a2_ b2_).cell rfl, (((x1.later hb).far2 (by omega) a1_ b1_).far2 (by omega) a2_ b2_).cell rfl, (((x1.later hb).far2 (by omega) a1_ b1_).far2 (by omega) a2_ b2_).cell rfl, (((x1.later hb).far2 (by omega) a1_ b1_).far2 (by omega) a2_ b2_).cell rfl, (((x2.later hb).far2 (by omega) a1_ b1_).far2 (by omega) a2_ b2_).cell rfl, (((x2.later hb).far2 (by omega) a1_ b1_).far2 (by omega) a2_ b2_).cell rfl, (((x2.later hb).far2 (by omega) a1_ b1_).far2 (by omega) a2_ b2_).cell rfl, (((x2.later hb).far2 (by omega) a1_ b1_).far2 (by omega) a2_ b2_).cell rfl⟩
 have HS3 : Hid (∀ w' a1_ b1_ a2_ b2_ a3_ b3_, Later V2.drew w' -> ((((((w'.setCell ⟨w.heap.size + 2, 0, none⟩ a1_).setCell ⟨w.heap.size + 2, 1, none⟩ b1_).setCell ⟨w.heap.size + 3, 0, none⟩ a2_).setCell ⟨w.heap.size + 3, 1, none⟩ b2_).setCell ⟨w.heap.size + 4, 0, none⟩ a3_).setCell ⟨w.heap.size + 4, 1, none⟩ b3_).cell? ⟨w1.heap.size, 0, none⟩ = some (.bool s1) /\ ((((((w'.setCell ⟨w.heap.size + 2, 0, none⟩ a1_).setCell ⟨w.heap.size + 2, 1, none⟩ b1_).setCell ⟨w.heap.size + 3, 0, none⟩ a2_).setCell ⟨w.heap.size + 3, 1, none⟩ b2_).setCell ⟨w.heap.size + 4, 0, none⟩ a3_).setCell ⟨w.heap.size + 4, 1, none⟩ b3_).cell? ⟨w1.heap.size, 1, none⟩ = some (.slice P1 q1 e1) /\ ((((((w'.setCell ⟨w.heap.size + 2, 0, none⟩ a1_).setCell ⟨w.heap.size + 2, 1, none⟩ b1_).setCell ⟨w.heap.size + 3, 0, none⟩ a2_).setCell ⟨w.heap.size + 3, 1, none⟩ b2_).setCell ⟨w.heap.size + 4, 0, none⟩ a3_).setCell ⟨w.heap.size + 4, 1, none⟩ b3_).cell? ⟨w1.heap.size, 2, none⟩ = some (.bool false) /\ ((((((w'.setCell ⟨w.heap.size + 2, 0, none⟩ a1_).setCell ⟨w.heap.size + 2, 1, none⟩ b1_).setCell ⟨w.heap.size + 3, 0, none⟩ a2_).setCell ⟨w.heap.size + 3, 1, none⟩ b2_).setCell ⟨w.heap.size + 4, 0, none⟩ a3_).setCell ⟨w.heap.size + 4, 1, none⟩ b3_).cell? ⟨w1.heap.size, 3, none⟩ = some (.slice P1' q1' e1') /\ ((((((w'.setCell ⟨w.heap.size + 2, 0, none⟩ a1_).setCell ⟨w.heap.size + 2, 1, none⟩ b1_).setCell ⟨w.heap.size + 3, 0, none⟩ a2_).setCell ⟨w.heap.size + 3, 1, none⟩ b2_).setCell ⟨w.heap.size + 4, 0, none⟩ a3_).setCell ⟨w.heap.size + 4, 1, none⟩ b3_).cell? ⟨w2.heap.size, 0, none⟩ = some (.bool s2) /\ ((((((w'.setCell ⟨w.heap.size + 2, 0, none⟩ a1_).setCell ⟨w.heap.size + 2, 1, none⟩ b1_).setCell ⟨w.heap.size + 3, 0, none⟩ a2_).setCell ⟨w.heap.size + 3, 1, none⟩ b2_).setCell ⟨w.heap.size + 4, 0, none⟩ a3_).setCell ⟨w.heap.size + 4, 1, none⟩ b3_).cell? ⟨w2.heap.size, 1, none⟩ = some (.slice P2 q2 e2) /\ ((((((w'.setCell ⟨w.heap.size + 2, 0, none⟩ a1_).setCell ⟨w.heap.size + 2, 1, none⟩ b1_).setCell ⟨w.heap.size + 3, 0, none⟩ a2_).setCell ⟨w.heap.size + 3, 1, none⟩ b2_).setCell ⟨w.heap.size + 4, 0, none⟩ a3_).setCell ⟨w.heap.size + 4, 1, none⟩ b3_).cell? ⟨w2.heap.size, 2, none⟩ = some (.bool false) /\ ((((((w'.setCell ⟨w.heap.size + 2, 0, none⟩ a1_).setCell ⟨w.heap.size + 2, 1, none⟩ b1_).setCell ⟨w.heap.size + 3, 0, none⟩ a2_).setCell ⟨w.heap.size + 3, 1, none⟩ b2_).setCell ⟨w.heap.size + 4, 0, none⟩ a3_).setCell ⟨w.heap.size + 4, 1, none⟩ b3_).cell? ⟨w2.heap.size, 3, none⟩ = some (.slice P2' q2' e2')) :=
  hide fun w' a1_ b1_ a2_ b2_ a3_ b3_ hb => ⟨((((x1.later hb).far2 (by omega) a1_ b1_).far2 (by omega) a2_ b2_).far2 (by omega) a3_ b3_).cell rfl, ((((x1.later hb).far2 (by omega) a1_ b1_).far2 (by omega) a2_ b2_).far2 (by omega) a3_ b3_).cell rfl, ((((x1.later hb).far2 (by omega) a1_ b1_).far2 (by omega) a2_ b2_).far2 (by omega) a3_ b3_).cell rfl, ((((x1.later hb).far2 (by omega) a1_ b1_).far2 (by omega) a2_ b2_).far2 (by omega) a3_ b3_).cell rfl, ((((x2.later hb).far2 (by omega) a1_ b1_).far2 (by omega) a2_ b2_).far2 (by omega) a3_ b3_).cell rfl, ((((x2.later hb).far2 (by omega) a1_ b1_).far2 (by omega) a2_ b2_).far2 (by omega) a3_ b3_).cell rfl, ((((x2.later hb).far2 (by omega) a1_ b1_).far2 (by omega) a2_ b2_).far2 (by omega) a3_ b3_).cell rfl, ((((x2.later hb).far2 (by omega) a1_ b1_).far2 (by omega) a2_ b2_).far2 (by omega) a3_ b3_).cell rfl⟩
 go_upto_region 3 with fail
 rw [<- HV2.out]
 clear hy1 hy2 hy3 hy4 ha1 ha2 hb1 hb2 x1 x2 c2' SA SB hV2
 refine wp_region_N (fun w' => w'.cell? ⟨w1.heap.size, 0, none⟩ = some (.bool s1) /\ w'.cell? ⟨w1.heap.size, 1, none⟩ = some (.slice P1 q1 e1) /\ w'.cell? ⟨w1.heap.size, 2, none⟩ = some (.bool false) /\ w'.cell? ⟨w1.heap.size, 3, none⟩ = some (.slice P1' q1' e1') /\ w'.cell? ⟨w2.heap.size, 0, none⟩ = some (.bool s2) /\ w'.cell? ⟨w2.heap.size, 1, none⟩ = some (.slice P2 q2 e2) /\ w'.cell? ⟨w2.heap.size, 2, none⟩ = some (.bool false) /\ w'.cell? ⟨w2.heap.size, 3, none⟩ = some (.slice P2' q2' e2')) [] (by kernel_rfl) (HT1.out _ (Later.refl _)) (fun hHeld => ?_)
 refine wpAnyN_take (i := 0) (oi := _) (v := ?_) rfl (by kernel_rfl) (by kernel_rfl) (by kernel_rfl) (by kernel_rfl) (fun _ _ _ h => h) (Or.inl ⟨by rfl, ?_⟩) (by assumption) ?_
 rotate_left
 ·intro w hSw; (try dsimp only at hSw); go_simp
  first | done | with_reducible rfl
 try simp only [Act.put, s1_, s2_, s3_]
 refine wpAnyN_take (i := 1) (oi := _) (v := ?_) rfl (by kernel_rfl) (by kernel_rfl) (by kernel_rfl) (by kernel_rfl) (fun _ _ _ h => h) (Or.inl ⟨by rfl, ?_⟩) (by assumption) ?_
 rotate_left
 ·intro w hSw; (try dsimp only at hSw); go_simp
  first | done | with_reducible rfl
 try simp only [Act.put, s1_, s2_, s3_]
 refine wpAnyN_take (i := 2) (oi := _) (v := ?_) rfl (by kernel_rfl) (by kernel_rfl) (by kernel_rfl) (by kernel_rfl) (fun _ _ _ h => h) (Or.inl ⟨by rfl, ?_⟩) (by assumption) ?_
 rotate_left
 ·intro w hSw; (try dsimp only at hSw); go_simp
  first | done | with_reducible rfl
 try simp only [Act.put, s1_, s2_, s3_]
 refine wpAnyN_take (i := 3) (oi := _) (v := ?_) rfl (by kernel_rfl) (by kernel_rfl) (by kernel_rfl) (by kernel_rfl) (fun _ _ _ h => h) (Or.inl ⟨by rfl, ?_⟩) (by assumption) ?_
 rotate_left
 ·intro w hSw; (try dsimp only at hSw); go_simp
  first | done | with_reducible rfl
 try simp only [Act.put, s1_, s2_, s3_]
 refine wpAnyN_take (i := 5) (oi := _) (v := ?_) rfl (by kernel_rfl) (by kernel_rfl) (by kernel_rfl) (by kernel_rfl) (fun _ _ _ h => h) (Or.inl ⟨by rfl, ?_⟩) (by assumption) ?_
 rotate_left
 ·intro w hSw; (try dsimp only at hSw); go_simp
  first | done | with_reducible rfl
 try simp only [Act.put, s1_, s2_, s3_]
 refine wpAnyN_take (i := 6) (oi := _) (v := ?_) rfl (by kernel_rfl) (by kernel_rfl) (by kernel_rfl) (by kernel_rfl) (fun _ _ _ h => h) (Or.inl ⟨by rfl, ?_⟩) (by assumption) ?_
 rotate_left
 ·intro w hSw; (try dsimp only at hSw); go_simp
  first | done | with_reducible rfl
 try simp only [Act.put, s1_, s2_, s3_]
 refine wpAnyN_take (i := 7) (oi := _) (v := ?_) rfl (by kernel_rfl) (by kernel_rfl) (by kernel_rfl) (by kernel_rfl) (fun _ _ _ h => h) (Or.inl ⟨by rfl, ?_⟩) (by assumption) ?_
 rotate_left
 ·intro w hSw; (try dsimp only at hSw); go_simp
  first | done | with_reducible rfl
 try simp only [Act.put, s1_, s2_, s3_]
 refine wpAnyN_take (i := 8) (oi := _) (v := ?_) rfl (by kernel_rfl) (by kernel_rfl) (by kernel_rfl) (by kernel_rfl) (fun _ _ _ h => h) (Or.inl ⟨by rfl, ?_⟩) (by assumption) ?_
 rotate_left
 ·intro w hSw; (try dsimp only at hSw); go_simp
  first | done | with_reducible rfl
 try simp only [Act.put, s1_, s2_, s3_]
 refine wpAnyN_take (i := 10) (oi := _) (v := ?_) rfl (by kernel_rfl) (by kernel_rfl) (by kernel_rfl) (by kernel_rfl) (fun _ _ _ h => h) (Or.inl ⟨by rfl, ?_⟩) (by assumption) ?_
 rotate_left
 ·intro w hSw; (try dsimp only at hSw); go_simp
  first | done | with_reducible rfl
 try simp only [Act.put, s1_, s2_, s3_]
 refine wpAnyN_take (i := 11) (oi := _) (v := ?_) rfl (by kernel_rfl) (by kernel_rfl) (by kernel_rfl) (by kernel_rfl) (fun _ _ _ h => h) (Or.inl ⟨by rfl, ?_⟩) (by assumption) ?_
 rotate_left
 ·intro w hSw; (try dsimp only at hSw); go_simp
  first | done | with_reducible rfl
 try simp only [Act.put, s1_, s2_, s3_]
 refine wpAnyN_take (i := 12) (oi := _) (v := ?_) rfl (by kernel_rfl) (by kernel_rfl) (by kernel_rfl) (by kernel_rfl) (fun _ _ _ h => h) (Or.inl ⟨by rfl, ?_⟩) (by assumption) ?_
 rotate_left
 ·intro w hSw; (try dsimp only at hSw); go_simp
  first | done | with_reducible rfl
 try simp only [Act.put, s1_, s2_, s3_]
 refine wpAnyN_take (i := 13) (oi := _) (v := ?_) rfl (by kernel_rfl) (by kernel_rfl) (by kernel_rfl) (by kernel_rfl) (fun _ _ _ h => h) (Or.inl ⟨by rfl, ?_⟩) (by assumption) ?_
 rotate_left
 ·intro w hSw; (try dsimp only at hSw); go_simp
  first | done | with_reducible rfl
 try simp only [Act.put, s1_, s2_, s3_]
 refine wpAnyN_ready (rs := [4]) (by kernel_rfl) (by simp) ?_
 refine AllReadyN.held rfl (by rfl) (fun K hK => ?_) AllReadyN.nil
 go_simp
 (with_reducible refine (zmul_calls _ _ _ y1 y4 (k+1) (m+1) (HA1.out.later (Later.refl _)) (HB2.out.later (Later.refl _)) (by omega) (by omega)).mono ?_)
 rintro e w3 ⟨v3, rfl, o3, b3⟩
 obtain ⟨s3, P3, q3, e3, rfl, o3⟩ := o3.open_; have O3 := hide o3; clear o3
 have hs3 := b3.size
 refine hK.out _ _ ?_ (fun hHeld => ?_)
 ·exact HT1.out _ b3
 clear hK K
 try simp only [Act.put, s1_, s2_, s3_]
 refine wpAnyN_ready (rs := [9]) (by kernel_rfl) (by simp) ?_
 refine AllReadyN.held rfl (by rfl) (fun K hK => ?_) AllReadyN.nil
 go_simp
 (with_reducible refine (zmul_calls _ _ _ y3 y2 (m+1) (k+1) (HB1.out.later b3) (HA2.out.later b3) (by omega) (by omega)).mono ?_)
 rintro e w4 ⟨v4, rfl, o4, b4⟩
 obtain ⟨s4, P4, q4, e4, rfl, o4⟩ := o4.open_; have O4 := hide o4; clear o4
 have hs4 := b4.size
 refine hK.out _ _ ?_ (fun hHeld => ?_)
 ·exact HT1.out _ (b3.trans b4)
 clear hK K
 try simp only [Act.put, s1_, s2_, s3_]
 refine wpAnyN_ready (rs := [14]) (by kernel_rfl) (by simp) ?_
 refine AllReadyN.held rfl (by rfl) (fun K hK => ?_) AllReadyN.nil
 go_simp
 (with_reducible refine (zmul_calls _ _ _ y2 y4 (k+1) (m+1) (HA2.out.later (b3.trans b4)) (HB2.out.later (b3.trans b4)) (by omega) (by omega)).mono ?_)
 rintro e w5 ⟨v5, rfl, o5, b5⟩
 obtain ⟨s5, P5, q5, e5, rfl, o5⟩ := o5.open_; have O5 := hide o5; clear o5
 have hs5 := b5.size
 have hL5 := (b3.trans b4).trans b5
 have T3 := hide (R3.out.later hL5); have T4 := hide (R4.out.later hL5); have T5 := hide (R5.out.later hL5)
 have L5 := hide (LV.out.trans hL5)
 have I3 := hide (((O3.out.later b4).later b5).weaken (C := w.heap.size + 5) (by omega)); have I4 := hide ((O4.out.later b5).weaken (C := w.heap.size + 5) (by omega)); have I5 := hide (O5.out.weaken (C := w.heap.size + 5) (by omega))
 clear hL5
 obtain ⟨t1, t2, t3, t4⟩ := row_cells2 T3.out
 obtain ⟨t5, t6, t7, t8⟩ := row_cells2 T4.out
 obtain ⟨t9, t10, t11, t12⟩ := row_cells2 T5.out
 refine hK.out _ _ ?_ (fun hHeld => ?_)
 ·exact HT1.out _ ((b3.trans b4).trans b5)
 clear hK K
 try simp only [Act.put, s1_, s2_, s3_]
 refine wpAnyN_ready (rs := [15]) (by kernel_rfl) (by simp) ?_
 refine AllReadyN.held rfl (by rfl) (fun K hK => ?_) AllReadyN.nil
 go_simp
 refine hK.out _ _ ?_ (fun hHeld => ?_)
 ·exact HS1.out _ _ _ ((b3.trans b4).trans b5)
 clear hK K
 try simp only [Act.put, s1_, s2_, s3_]
 refine wpAnyN_ready (rs := [16]) (by kernel_rfl) (by simp) ?_
 refine AllReadyN.held rfl (by rfl) (fun K hK => ?_) AllReadyN.nil
 go_simp
 refine hK.out _ _ ?_ (fun hHeld => ?_)
 ·exact HS2.out _ _ _ _ _ ((b3.trans b4).trans b5)
 clear hK K
 try simp only [Act.put, s1_, s2_, s3_]
 refine wpAnyN_ready (rs := [17]) (by kernel_rfl) (by simp) ?_
 refine AllReadyN.held rfl (by rfl) (fun K hK => ?_) AllReadyN.nil
 go_simp
 refine hK.out _ _ ?_ (fun hHeld => ?_)
 ·exact HS3.out _ _ _ _ _ _ _ ((b3.trans b4).trans b5)
 clear hK K
 try simp only [Act.put, s1_, s2_, s3_]
 refine wpAnyN_done (by kernel_rfl) ?_ _
 have oo0 : Onlys [w.heap.size + 2, w.heap.size + 3, w.heap.size + 4] w5 w5 := Onlys.refl _ _
 have u1 := Only.two (w.heap.size + 2) w5 (.bool s3) (.slice P3 q3 e3)
 have z3_1 := Row.two (T3.out) (.bool s3) (.slice P3 q3 e3)
 have z4_1 := Row.only (T4.out) u1 (by omega)
 have z5_1 := Row.only (T5.out) u1 (by omega)
 obtain ⟨U1, hU1⟩ : ∃ U, U = ((w5.setCell ⟨w.heap.size + 2, 0, none⟩ (.bool s3)).setCell ⟨w.heap.size + 2, 1, none⟩ (.slice P3 q3 e3)) := ⟨_, rfl⟩
 rw [<- hU1] at u1 z3_1 z4_1 z5_1
 have oo1 := oo0.then_ u1 (by simp)
 have u2 := Only.two (w.heap.size + 3) U1 (.bool s4) (.slice P4 q4 e4)
 have z3_2 := Row.only (z3_1) u2 (by omega)
 have z4_2 := Row.two (z4_1) (.bool s4) (.slice P4 q4 e4)
 have z5_2 := Row.only (z5_1) u2 (by omega)
 obtain ⟨U2, hU2⟩ : ∃ U, U = ((U1.setCell ⟨w.heap.size + 3, 0, none⟩ (.bool s4)).setCell ⟨w.heap.size + 3, 1, none⟩ (.slice P4 q4 e4)) := ⟨_, rfl⟩
 rw [<- hU2] at u2 z3_2 z4_2 z5_2
 have oo2 := oo1.then_ u2 (by simp)
 have u3 := Only.two (w.heap.size + 4) U2 (.bool s5) (.slice P5 q5 e5)
 have z3_3 := Row.only (z3_2) u3 (by omega)
 have z4_3 := Row.only (z4_2) u3 (by omega)
 have z5_3 := Row.two (z5_2) (.bool s5) (.slice P5 q5 e5)
 obtain ⟨U3, hU3⟩ : ∃ U, U = ((U2.setCell ⟨w.heap.size + 4, 0, none⟩ (.bool s5)).setCell ⟨w.heap.size + 4, 1, none⟩ (.slice P5 q5 e5)) := ⟨_, rfl⟩
 rw [<- hU3] at u3 z3_3 z4_3 z5_3
 have oo3 := oo2.then_ u3 (by simp)
 have hUU : ((((((w5.setCell ⟨w.heap.size + 2, 0, none⟩ (.bool s3)).setCell ⟨w.heap.size + 2, 1, none⟩ (.slice P3 q3 e3)).setCell ⟨w.heap.size + 3, 0, none⟩ (.bool s4)).setCell ⟨w.heap.size + 3, 1, none⟩ (.slice P4 q4 e4)).setCell ⟨w.heap.size + 4, 0, none⟩ (.bool s5)).setCell ⟨w.heap.size + 4, 1, none⟩ (.slice P5 q5 e5)) = U3 := by rw [hU3, hU2, hU1]
 have HUU := hide hUU
 have Z3 := hide z3_3; have Z4 := hide z4_3; have Z5 := hide z5_3; have OO := hide oo3
 clear hUU z3_1 z3_2 z3_3 z4_1 z4_2 z4_3 z5_1 z5_2 z5_3 oo0 oo1 oo2 oo3 u1 u2 u3 hU1 hU2 hU3 t1 t2 t3 t4 t5 t6 t7 t8 t9 t10 t11 t12
 (try clear hHeld)
 go_wp2_with fail
 rw [HUU.out]
 refine bodyPost_ret (results_int3 rfl rfl rfl rfl Z3.out Z4.out Z5.out) rfl ?_
 refine ⟨_, _, _, rfl, HY.out _ _ _ _ _ ?_ ?_ ?_, L5.out.onlys OO.out (by simp)⟩
 ·exact (I3.out.onlys OO.out (by simp <;> omega)).weaken (by omega)
 ·exact (I4.out.onlys OO.out (by simp <;> omega)).weaken (by omega)
 ·exact (I5.out.onlys OO.out (by simp <;> omega)).weaken (by omega)
end Go.Proofs.YtfokplidiboabaaGreat
namespace Go.Proofs.YtfokplidiboabaaGreat
open Go.RowKit Go.Shelf
attribute [local go_sem ↓] Go.wp_at_zero Go.wp_at_succ
theorem rawR_mk {w : World} {s s' : Bool} {A A' : Option Addr} {n c n' c' k : Nat} {x y : Int} {q : Rat} (h : RawI w (.agg #[.bool s, .slice A n c]) x k) (h' : RawI w (.agg #[.bool s', .slice A' n' c']) y k) (hq : q = ratOf x y) :
 RawR w (.agg #[.bool s, .slice A n c, .bool s', .slice A' n' c']) q k := ⟨_, _, _, _, _, _, _, _, x, y, rfl, h, h', hq⟩
set_option maxHeartbeats 4000000 in
theorem qcmp_calls (w : World) (va vb : Value) (a b : Rat) (k m : Nat) (ha : RawR w va a k) (hb : RawR w vb b m) (hkm : k + m <= 80000000) :
 Calls Tryz.prog 34 #[va, vb] w (RetV w (.int .i64 (cmpQ a b))) := by
 obtain ⟨c, hc⟩ : ∃ c, cmpQ a b = c := ⟨_, rfl⟩
 rw [hc]
 rw [<- cmpZ_cmpQ] at hc
 have HC := hide hc
 clear hc
 have SA := ha.sized; have SB := hb.sized
 have HA := hide ha; have HB := hide hb
 obtain ⟨sa, A1, n1, c1, sa', A1', n1', c1', rfl⟩ := ha.open_
 obtain ⟨sb, A2, n2, c2, sb', A2', n2', c2', rfl⟩ := hb.open_
 obtain ⟨W0, hW0⟩ : ∃ W0, W0 = ((w.alloc (Obj.cells #[Value.bool sa, Value.slice A1 n1 c1, Value.bool sa', Value.slice A1' n1' c1'] 36)).alloc (Obj.cells #[Value.bool sb, Value.slice A2 n2 c2, Value.bool sb', Value.slice A2' n2' c2'] 36)) := ⟨_, rfl⟩
 obtain ⟨hb0, r1, r2, hsz⟩ := boxes2 w [.bool sa, .slice A1 n1 c1, .bool sa', .slice A1' n1' c1'] [.bool sb, .slice A2 n2 c2, .bool sb', .slice A2' n2' c2'] 36 36 hW0
 have B0 := hide hb0; have HW0 := hide hW0
 clear ha hb r1 r2 hb0 hW0
 go_enter Tryz.func34, Tryz.ntmps34
 go_wp2_with fail
 rw [<- HW0.out]
 refine (cross_calls _ _ _ a b k m (HA.out.later B0.out) (HB.out.later B0.out) (by omega)).mono ?_
 rintro e w1 ⟨v1, v2, v3, rfl, ⟨o1, o2, o3⟩, b1⟩
 obtain ⟨s1, P1, q1, e1, rfl, o1⟩ := o1.open_
 obtain ⟨s2, P2, q2, e2, rfl, o2⟩ := o2.open_
 obtain ⟨s3, P3, q3, e3, rfl, o3⟩ := o3.open_
 have hs1 := b1.size
 obtain ⟨V1, hV1⟩ : ∃ V1, V1 = (((w1.alloc (Obj.cells #[Value.bool s1, Value.slice P1 q1 e1] 34)).alloc (Obj.cells #[Value.bool s2, Value.slice P2 q2 e2] 34)).alloc (Obj.cells #[Value.bool s3, Value.slice P3 q3 e3] 34)) := ⟨_, rfl⟩
 obtain ⟨c1', x1, x2, x3, hsV⟩ := boxes3 w1 [.bool s1, .slice P1 q1 e1] [.bool s2, .slice P2 q2 e2] [.bool s3, .slice P3 q3 e3] 34 34 34 hV1
 have HV1 := hide hV1
 have C1 := hide c1'
 clear hV1
 obtain ⟨d1, d2, d3, d4⟩ := row_cells2 x1
 obtain ⟨d5, d6, d7, d8⟩ := row_cells2 x2
 rw [HV1.out] at d1 d2 d3 d4 d5 d6 d7 d8
 have Z1 := limbs_mulZ SA.1 (limbs_castZ SB.2); have Z2 := limbs_mulZ SB.1 (limbs_castZ SA.2)
 have O1 := hide ((o1.raw Z1).later c1'); have O2 := hide ((o2.raw Z2).later c1')
 have hL := (B0.out.trans b1).trans c1'
 clear o1 o2 o3 x1 x2 x3 c1' SA SB Z1 Z2
 go_wp2_with fail
 rw [<- HV1.out]
 refine (zcmp_calls _ _ _ _ _ _ _ O1.out O2.out (by omega) (by omega)).mono ?_
 rintro e w2 ⟨rfl, b2⟩
 rw [HC.out]
 go_wp2_with fail
 go_ret
 exact ⟨rfl, hL.trans b2⟩
set_option maxHeartbeats 4000000 in
theorem qadd_calls (w : World) (va vb : Value) (a b : Rat) (k m : Nat) (ha : RawR w va a k) (hb : RawR w vb b m) (hkm : k + m <= 80000000) :
 Calls Tryz.prog 37 #[va, vb] w (Ret w fun w' v => OwnR w' w.heap.size v (a + b)) := by
 obtain ⟨q, hq⟩ : ∃ q, q = a + b := ⟨_, rfl⟩
 rw [<- hq]
 have hq2 := (ratOf_add a b).trans hq.symm
 have HQ := hide hq2
 clear hq hq2
 have SA := ha.sized; have SB := hb.sized
 have HA := hide ha; have HB := hide hb
 obtain ⟨sa, A1, n1, c1, sa', A1', n1', c1', rfl⟩ := ha.open_
 obtain ⟨sb, A2, n2, c2, sb', A2', n2', c2', rfl⟩ := hb.open_
 obtain ⟨W0, hW0⟩ : ∃ W0, W0 = (((w.alloc (Obj.cells #[Value.bool sa, Value.slice A1 n1 c1, Value.bool sa', Value.slice A1' n1' c1'] 36)).alloc (Obj.cells #[Value.bool sb, Value.slice A2 n2 c2, Value.bool sb', Value.slice A2' n2' c2'] 36)).alloc (Obj.cells #[Value.bool false, Value.slice none 0 0, Value.bool false, Value.slice none 0 0] 36)) := ⟨_, rfl⟩
 obtain ⟨hb0, r1, r2, r3, hsz⟩ := boxes3 w [.bool sa, .slice A1 n1 c1, .bool sa', .slice A1' n1' c1'] [.bool sb, .slice A2 n2 c2, .bool sb', .slice A2' n2' c2'] [.bool false, .slice none 0 0, .bool false, .slice none 0 0] 36 36 36 hW0
 have R3 := hide r3; clear r3
 have B0 := hide hb0; have HW0 := hide hW0
 clear ha hb r1 r2 hb0 hW0
 go_enter Tryz.func37, Tryz.ntmps37
 go_wp2_with fail
 rw [<- HW0.out]
 refine (cross_calls _ _ _ a b k m (HA.out.later B0.out) (HB.out.later B0.out) (by omega)).mono ?_
 rintro e w1 ⟨v1, v2, v3, rfl, ⟨o1, o2, o3⟩, b1⟩
 obtain ⟨s1, P1, q1, e1, rfl, o1⟩ := o1.open_
 obtain ⟨s2, P2, q2, e2, rfl, o2⟩ := o2.open_
 obtain ⟨s3, P3, q3, e3, rfl, o3⟩ := o3.open_
 have hs1 := b1.size
 obtain ⟨V1, hV1⟩ : ∃ V1, V1 = (((w1.alloc (Obj.cells #[Value.bool s1, Value.slice P1 q1 e1] 34)).alloc (Obj.cells #[Value.bool s2, Value.slice P2 q2 e2] 34)).alloc (Obj.cells #[Value.bool s3, Value.slice P3 q3 e3] 34)) := ⟨_, rfl⟩
 obtain ⟨c1', x1, x2, x3, hsV⟩ := boxes3 w1 [.bool s1, .slice P1 q1 e1] [.bool s2, .slice P2 q2 e2] [.bool s3, .slice P3 q3 e3] 34 34 34 hV1
 have HV1 := hide hV1
 have C1 := hide c1'
 clear hV1
 have Z1 := limbs_mulZ SA.1 (limbs_castZ SB.2)
 have Z2 : (limbs (b.num * a.den).natAbs).length <= k + 1 + (m + 1) := by rw [Nat.add_comm (k+1)]; exact limbs_mulZ SB.1 (limbs_castZ SA.2)
 have Z3 := limbs_mulZ (limbs_castZ SA.2) (limbs_castZ SB.2)
 have Z4 : (limbs (a.num * b.den + b.num * a.den).natAbs).length <= k + 1 + (m + 1) + 1 := limbs_addZ Z1 Z2
 obtain ⟨y1, hy1⟩ : ∃ x, x = a.num * b.den := ⟨_, rfl⟩
 obtain ⟨y2, hy2⟩ : ∃ x, x = b.num * a.den := ⟨_, rfl⟩
 obtain ⟨y3, hy3⟩ : ∃ x, x = (a.den : Int) * b.den := ⟨_, rfl⟩
 have hy30 : y3 ≠ 0 := by rw [hy3]; exact den_mul_ne a b
 have hy31 : 0 < y3 := by rw [hy3]; have := a.den_pos; have := b.den_pos; exact Int.mul_pos (by omega) (by omega)
 rw [<- hy1] at o1 Z1 Z4; rw [<- hy2] at o2 Z2 Z4; rw [<- hy3] at o3 Z3
 have hqq : q = ratOf (y1 + y2) y3 := by rw [ratOf_pos hy31, hy1, hy2, hy3]; exact HQ.out.symm
 have D0 : Hid (Later V1 V1.drew) := hide (Later.refl V1).drew
 have O1 := hide (((o1.raw Z1).later c1').later D0.out); have O2 := hide (((o2.raw Z2).later c1').later D0.out); have O3 := hide (((o3.raw (k := k+1+(m+1)+1) (by omega)).later c1').later D0.out)
 have HQQ := hide hqq; have HZ4 := hide Z4
 have LV := hide (((B0.out.trans b1).trans c1').trans D0.out)
 have R3 := hide (R3.out.later ((b1.trans c1').trans D0.out))
 have x1 := x1.drew; have x2 := x2.drew; have x3 := x3.drew
 have hszd : V1.drew.heap.size = w1.heap.size + 3 := hsV
 have HT1 : Hid (∀ w', Later V1.drew w' -> w'.cell? ⟨w1.heap.size, 0, none⟩ = some (.bool s1) /\ w'.cell? ⟨w1.heap.size, 1, none⟩ = some (.slice P1 q1 e1) /\ w'.cell? ⟨w1.heap.size + 1, 0, none⟩ = some (.bool s2) /\ w'.cell? ⟨w1.heap.size + 1, 1, none⟩ = some (.slice P2 q2 e2) /\ w'.cell? ⟨w1.heap.size + 2, 0, none⟩ = some (.bool s3) /\ w'.cell? ⟨w1.heap.size + 2, 1, none⟩ = some (.slice P3 q3 e3)) :=
  hide fun w' hb => ⟨(x1.later hb).cell rfl, (x1.later hb).cell rfl, (x2.later hb).cell rfl, (x2.later hb).cell rfl, (x3.later hb).cell rfl, (x3.later hb).cell rfl⟩
 have HT2 : Hid (∀ w' a_ b_ c_ d_, Later V1.drew w' -> ((((w'.setCell ⟨w.heap.size + 2, 0, none⟩ a_).setCell ⟨w.heap.size + 2, 1, none⟩ b_).setCell ⟨w.heap.size + 2, 2, none⟩ c_).setCell ⟨w.heap.size + 2, 3, none⟩ d_).cell? ⟨w1.heap.size, 0, none⟩ = some (.bool s1) /\ ((((w'.setCell ⟨w.heap.size + 2, 0, none⟩ a_).setCell ⟨w.heap.size + 2, 1, none⟩ b_).setCell ⟨w.heap.size + 2, 2, none⟩ c_).setCell ⟨w.heap.size + 2, 3, none⟩ d_).cell? ⟨w1.heap.size, 1, none⟩ = some (.slice P1 q1 e1) /\ ((((w'.setCell ⟨w.heap.size + 2, 0, none⟩ a_).setCell ⟨w.heap.size + 2, 1, none⟩ b_).setCell ⟨w.heap.size + 2, 2, none⟩ c_).setCell ⟨w.heap.size + 2, 3, none⟩ d_).cell? ⟨w1.heap.size + 1, 0, none⟩ = some (.bool s2) /\ ((((w'.setCell ⟨w.heap.size + 2, 0, none⟩ a_).setCell ⟨w.heap.size + 2, 1, none⟩ b_).setCell ⟨w.heap.size + 2, 2, none⟩ c_).setCell ⟨w.heap.size + 2, 3, none⟩ d_).cell? ⟨w1.heap.size + 1, 1, none⟩ = some (.slice P2 q2 e2) /\ ((((w'.setCell ⟨w.heap.size + 2, 0, none⟩ a_).setCell ⟨w.heap.size + 2, 1, none⟩ b_).setCell ⟨w.heap.size + 2, 2, none⟩ c_).setCell ⟨w.heap.size + 2, 3, none⟩ d_).cell? ⟨w1.heap.size + 2, 0, none⟩ = some (.bool s3) /\ ((((w'.setCell ⟨w.heap.size + 2, 0, none⟩ a_).setCell ⟨w.heap.size + 2, 1, none⟩ b_).setCell ⟨w.heap.size + 2, 2, none⟩ c_).setCell ⟨w.heap.size + 2, 3, none⟩ d_).cell? ⟨w1.heap.size + 2, 1, none⟩ = some (.slice P3 q3 e3)) :=
  hide fun w' a_ b_ c_ d_ hb => ⟨((x1.later hb).far4 (by omega) a_ b_ c_ d_).cell rfl, ((x1.later hb).far4 (by omega) a_ b_ c_ d_).cell rfl, ((x2.later hb).far4 (by omega) a_ b_ c_ d_).cell rfl, ((x2.later hb).far4 (by omega) a_ b_ c_ d_).cell rfl, ((x3.later hb).far4 (by omega) a_ b_ c_ d_).cell rfl, ((x3.later hb).far4 (by omega) a_ b_ c_ d_).cell rfl⟩
 clear o1 o2 o3 x1 x2 x3 c1' SA SB Z1 Z2 Z3 Z4 hy1 hy2 hy3 hy30 hy31 hqq HQ
 go_upto_region 2 with fail
 rw [<- HV1.out]
 go_region_held3 (fun w' => w'.cell? ⟨w1.heap.size, 0, none⟩ = some (.bool s1) /\ w'.cell? ⟨w1.heap.size, 1, none⟩ = some (.slice P1 q1 e1) /\ w'.cell? ⟨w1.heap.size + 1, 0, none⟩ = some (.bool s2) /\ w'.cell? ⟨w1.heap.size + 1, 1, none⟩ = some (.slice P2 q2 e2) /\ w'.cell? ⟨w1.heap.size + 2, 0, none⟩ = some (.bool s3) /\ w'.cell? ⟨w1.heap.size + 2, 1, none⟩ = some (.slice P3 q3 e3))
  (first | exact HT1.out _ (Later.refl _) | exact HT1.out _ b4 | exact HT1.out _ (b4.trans b5) | exact HT2.out _ _ _ _ _ (b4.trans b5))
  (first
   | ((with_reducible refine (zadd_calls _ _ _ y1 y2 (k+1+(m+1)) (k+1+(m+1)) O1.out O2.out (by omega) (by omega)).mono ?_); rintro e w4 ⟨v4, rfl, o4, b4⟩; obtain ⟨s4, P4, q4, e4, rfl, o4⟩ := o4.open_; have O4 := hide o4; clear o4)
   | ((with_reducible refine (qplain_calls _ _ q (k+1+(m+1)+1) (rawR_mk (O4.out.raw HZ4.out) (O3.out.later b4) HQQ.out) (by omega)).mono ?_); rintro e w5 ⟨v5, rfl, o5, b5⟩; obtain ⟨s5, P5, q5, e5, P5', q5', e5', rfl, o5⟩ := o5.open_; have O5 := hide o5; clear o5; obtain ⟨f1, f2, f3, f4, f5, f6, f7, f8⟩ := row_cells4 (R3.out.later (b4.trans b5))))
 have hL := LV.out.trans (b4.trans b5)
 have HR := hide (R3.out.later (b4.trans b5))
 have hs4 := b4.size; have hs5 := b5.size
 clear f1 f2 f3 f4 f5 f6 f7 f8
 go_wp2_with fail
 refine bodyPost_ret (results_rat rfl rfl (HR.out.four _ _ _ _)) rfl ?_
 have oo := Only.four (w.heap.size + 2) w5 (.bool s5) (.slice P5 q5 e5) (.bool false) (.slice P5' q5' e5')
 exact ⟨_, rfl, (O5.out.only oo (by omega)).weaken (by omega), hL.only oo (by omega)⟩
end Go.Proofs.YtfokplidiboabaaGreat
namespace Go.Proofs.YtfokplidiboabaaGreat
open Go.RowKit Go.Shelf
attribute [local go_sem ↓] Go.wp_at_zero Go.wp_at_succ
set_option maxHeartbeats 4000000 in
theorem qmul_calls (w : World) (va vb : Value) (a b : Rat) (k m : Nat) (ha : RawR w va a k) (hb : RawR w vb b m) (hkm : k + m <= 80000000) :
 Calls Tryz.prog 76 #[va, vb] w (Ret w fun w' v => OwnR w' w.heap.size v (a * b)) := by
 obtain ⟨q, hq⟩ : ∃ q, q = a * b := ⟨_, rfl⟩
 rw [<- hq]
 have hq2 := (ratOf_mul a b).trans hq.symm
 have HQ := hide hq2
 have SA := ha.sized; have SB := hb.sized
 have HA := hide ha; have HB := hide hb
 obtain ⟨sa, A1, n1, c1, sa', A1', n1', c1', rfl⟩ := ha.open_
 obtain ⟨sb, A2, n2, c2, sb', A2', n2', c2', rfl⟩ := hb.open_
 obtain ⟨W0, hW0⟩ : ∃ W0, W0 = (((w.alloc (Obj.cells #[Value.bool sa, Value.slice A1 n1 c1, Value.bool sa', Value.slice A1' n1' c1'] 36)).alloc (Obj.cells #[Value.bool sb, Value.slice A2 n2 c2, Value.bool sb', Value.slice A2' n2' c2'] 36)).alloc (Obj.cells #[Value.bool false, Value.slice none 0 0, Value.bool false, Value.slice none 0 0] 36)) := ⟨_, rfl⟩
 obtain ⟨hb0, r1, r2, r3, hsz⟩ := boxes3 w [.bool sa, .slice A1 n1 c1, .bool sa', .slice A1' n1' c1'] [.bool sb, .slice A2 n2 c2, .bool sb', .slice A2' n2' c2'] [.bool false, .slice none 0 0, .bool false, .slice none 0 0] 36 36 36 hW0
 have R2 := hide r2; have R3 := hide r3; have B0 := hide hb0; have HW0 := hide hW0
 clear ha hb r1 r2 r3 hb0 hW0 hq hq2
 go_enter Tryz.func76, Tryz.ntmps76
 go_wp2_with fail
 rw [<- HW0.out]
 refine (qplain_calls _ _ a k (HA.out.later B0.out) (by omega)).mono ?_
 rintro e w1 ⟨v1, rfl, o1, b1⟩
 obtain ⟨s1, P1, q1, e1, P1', q1', e1', rfl, o1⟩ := o1.open_; have O1 := hide o1; clear o1
 obtain ⟨d1, d2, d3, d4, d5, d6, d7, d8⟩ := row_cells4 (R2.out.later (b1.alloc (Obj.cells #[Value.bool s1, Value.slice P1 q1 e1, Value.bool false, Value.slice P1' q1' e1'] 36)))
 have hs1 := b1.size
 go_wp2_with fail
 obtain ⟨V1, hV1⟩ : ∃ V, V = w1.alloc (Obj.cells #[Value.bool s1, Value.slice P1 q1 e1, Value.bool false, Value.slice P1' q1' e1'] 36) := ⟨_, rfl⟩
 have c1' : Later w1 V1 := by rw [hV1]; exact (Later.refl w1).alloc _
 have x1 : Row V1 w1.heap.size 36 [.bool s1, .slice P1 q1 e1, .bool false, .slice P1' q1' e1'] := by rw [hV1]; exact Row.new w1 _ _
 have hsV1 : V1.heap.size = w1.heap.size + 1 := by rw [hV1]; simp
 rw [<- hV1]
 have X1 := hide x1; have C1 := hide c1'
 clear hV1 x1 c1' d1 d2 d3 d4 d5 d6 d7 d8
 refine (qplain_calls _ _ b m (HB.out.later (B0.out.trans (b1.trans C1.out))) (by omega)).mono ?_
 rintro e w2 ⟨v2, rfl, o2, b2⟩
 obtain ⟨s2, P2, q2, e2, P2', q2', e2', rfl, o2⟩ := o2.open_; have O2 := hide o2; clear o2
 have hs2 := b2.size
 obtain ⟨V2, hV2⟩ : ∃ V, V = w2.alloc (Obj.cells #[Value.bool s2, Value.slice P2 q2 e2, Value.bool false, Value.slice P2' q2' e2'] 36) := ⟨_, rfl⟩
 have c2' : Later w2 V2 := by rw [hV2]; exact (Later.refl w2).alloc _
 have x2 : Row V2 w2.heap.size 36 [.bool s2, .slice P2 q2 e2, .bool false, .slice P2' q2' e2'] := by rw [hV2]; exact Row.new w2 _ _
 have hsV2 : V2.heap.size = w2.heap.size + 1 := by rw [hV2]; simp
 have x1 := X1.out.later (b2.trans c2')
 have C2 := hide ((b1.trans C1.out).trans (b2.trans c2'))
 have HV2 := hide hV2
 obtain ⟨y1, hy1⟩ : ∃ x, x = a.num := ⟨_, rfl⟩
 obtain ⟨y2, hy2⟩ : ∃ x, x = (a.den : Int) := ⟨_, rfl⟩
 obtain ⟨y3, hy3⟩ : ∃ x, x = b.num := ⟨_, rfl⟩
 obtain ⟨y4, hy4⟩ : ∃ x, x = (b.den : Int) := ⟨_, rfl⟩
 have D0 : Hid (Later V2 V2.drew) := hide (Later.refl V2).drew
 have ha1 := (((O1.out.later C1.out).later (b2.trans c2')).num.raw SA.1).later D0.out; have ha2 := (((O1.out.later C1.out).later (b2.trans c2')).den.raw (limbs_castZ SA.2)).later D0.out
 have hb1 := ((O2.out.later c2').num.raw SB.1).later D0.out; have hb2 := ((O2.out.later c2').den.raw (limbs_castZ SB.2)).later D0.out
 have hy31 : 0 < y2 * y4 := by rw [hy2, hy4]; have := a.den_pos; have := b.den_pos; exact Int.mul_pos (by omega) (by omega)
 have hqq : q = ratOf (y1 * y3) (y2 * y4) := by rw [ratOf_pos hy31, hy1, hy2, hy3, hy4]; exact HQ.out.symm
 rw [<- hy1] at ha1; rw [<- hy2] at ha2; rw [<- hy3] at hb1; rw [<- hy4] at hb2
 have HA1 := hide ha1; have HA2 := hide ha2; have HB1 := hide hb1; have HB2 := hide hb2; have HQQ := hide hqq
 have Z1 := hide (limbs_mulZ ha1.limbs_le hb1.limbs_le); have Z2 := hide (limbs_mulZ ha2.limbs_le hb2.limbs_le)
 have hszd : V2.drew.heap.size = w2.heap.size + 1 := hsV2
 have x1 := x1.drew; have x2 := x2.drew
 have LV := hide ((B0.out.trans C2.out).trans D0.out)
 have R3 := hide (R3.out.later (C2.out.trans D0.out))
 have HT1 : Hid (∀ w', Later V2.drew w' -> w'.cell? ⟨w1.heap.size, 0, none⟩ = some (.bool s1) /\ w'.cell? ⟨w1.heap.size, 1, none⟩ = some (.slice P1 q1 e1) /\ w'.cell? ⟨w1.heap.size, 2, none⟩ = some (.bool false) /\ w'.cell? ⟨w1.heap.size, 3, none⟩ = some (.slice P1' q1' e1') /\ w'.cell? ⟨w2.heap.size, 0, none⟩ = some (.bool s2) /\ w'.cell? ⟨w2.heap.size, 1, none⟩ = some (.slice P2 q2 e2) /\ w'.cell? ⟨w2.heap.size, 2, none⟩ = some (.bool false) /\ w'.cell? ⟨w2.heap.size, 3, none⟩ = some (.slice P2' q2' e2')) :=
  hide fun w' hb => ⟨(x1.later hb).cell rfl, (x1.later hb).cell rfl, (x1.later hb).cell rfl, (x1.later hb).cell rfl, (x2.later hb).cell rfl, (x2.later hb).cell rfl, (x2.later hb).cell rfl, (x2.later hb).cell rfl⟩
 have HT2 : Hid (∀ w' a_ b_ c_ d_, Later V2.drew w' -> ((((w'.setCell ⟨w.heap.size + 2, 0, none⟩ a_).setCell ⟨w.heap.size + 2, 1, none⟩ b_).setCell ⟨w.heap.size + 2, 2, none⟩ c_).setCell ⟨w.heap.size + 2, 3, none⟩ d_).cell? ⟨w1.heap.size, 0, none⟩ = some (.bool s1) /\ ((((w'.setCell ⟨w.heap.size + 2, 0, none⟩ a_).setCell ⟨w.heap.size + 2, 1, none⟩ b_).setCell ⟨w.heap.size + 2, 2, none⟩ c_).setCell ⟨w.heap.size + 2, 3, none⟩ d_).cell? ⟨w1.heap.size, 1, none⟩ = some (.slice P1 q1 e1) /\ ((((w'.setCell ⟨w.heap.size + 2, 0, none⟩ a_).setCell ⟨w.heap.size + 2, 1, none⟩ b_).setCell ⟨w.heap.size + 2, 2, none⟩ c_).setCell ⟨w.heap.size + 2, 3, none⟩ d_).cell? ⟨w1.heap.size, 2, none⟩ = some (.bool false) /\ ((((w'.setCell ⟨w.heap.size + 2, 0, none⟩ a_).setCell ⟨w.heap.size + 2, 1, none⟩ b_).setCell ⟨w.heap.size + 2, 2, none⟩ c_).setCell ⟨w.heap.size + 2, 3, none⟩ d_).cell? ⟨w1.heap.size, 3, none⟩ = some (.slice P1' q1' e1') /\ ((((w'.setCell ⟨w.heap.size + 2, 0, none⟩ a_).setCell ⟨w.heap.size + 2, 1, none⟩ b_).setCell ⟨w.heap.size + 2, 2, none⟩ c_).setCell ⟨w.heap.size + 2, 3, none⟩ d_).cell? ⟨w2.heap.size, 0, none⟩ = some (.bool s2) /\ ((((w'.setCell ⟨w.heap.size + 2, 0, none⟩ a_).setCell ⟨w.heap.size + 2, 1, none⟩ b_).setCell ⟨w.heap.size + 2, 2, none⟩ c_).setCell ⟨w.heap.size + 2, 3, none⟩ d_).cell? ⟨w2.heap.size, 1, none⟩ = some (.slice P2 q2 e2) /\ ((((w'.setCell ⟨w.heap.size + 2, 0, none⟩ a_).setCell ⟨w.heap.size + 2, 1, none⟩ b_).setCell ⟨w.heap.size + 2, 2, none⟩ c_).setCell ⟨w.heap.size + 2, 3, none⟩ d_).cell? ⟨w2.heap.size, 2, none⟩ = some (.bool false) /\ ((((w'.setCell ⟨w.heap.size + 2, 0, none⟩ a_).setCell ⟨w.heap.size + 2, 1, none⟩ b_).setCell ⟨w.heap.size + 2, 2, none⟩ c_).setCell ⟨w.heap.size + 2, 3, none⟩ d_).cell? ⟨w2.heap.size, 3, none⟩ = some (.slice P2' q2' e2')) :=
  hide fun w' a_ b_ c_ d_ hb => ⟨((x1.later hb).far4 (by omega) a_ b_ c_ d_).cell rfl, ((x1.later hb).far4 (by omega) a_ b_ c_ d_).cell rfl, ((x1.later hb).far4 (by omega) a_ b_ c_ d_).cell rfl, ((x1.later hb).far4 (by omega) a_ b_ c_ d_).cell rfl, ((x2.later hb).far4 (by omega) a_ b_ c_ d_).cell rfl, ((x2.later hb).far4 (by omega) a_ b_ c_ d_).cell rfl, ((x2.later hb).far4 (by omega) a_ b_ c_ d_).cell rfl, ((x2.later hb).far4 (by omega) a_ b_ c_ d_).cell rfl⟩
 go_upto_region 3 with fail
 rw [<- HV2.out]
 clear hy1 hy2 hy3 hy4 ha1 ha2 hb1 hb2 x1 x2 c2' SA SB hV2 hqq hy31 HQ
 go_region_held3 (fun w' => w'.cell? ⟨w1.heap.size, 0, none⟩ = some (.bool s1) /\ w'.cell? ⟨w1.heap.size, 1, none⟩ = some (.slice P1 q1 e1) /\ w'.cell? ⟨w1.heap.size, 2, none⟩ = some (.bool false) /\ w'.cell? ⟨w1.heap.size, 3, none⟩ = some (.slice P1' q1' e1') /\ w'.cell? ⟨w2.heap.size, 0, none⟩ = some (.bool s2) /\ w'.cell? ⟨w2.heap.size, 1, none⟩ = some (.slice P2 q2 e2) /\ w'.cell? ⟨w2.heap.size, 2, none⟩ = some (.bool false) /\ w'.cell? ⟨w2.heap.size, 3, none⟩ = some (.slice P2' q2' e2'))
  (first | exact HT1.out _ (Later.refl _) | exact HT1.out _ b3 | exact HT1.out _ (b3.trans b4) | exact HT1.out _ ((b3.trans b4).trans b5) | exact HT2.out _ _ _ _ _ ((b3.trans b4).trans b5))
  (first
   | ((with_reducible refine (zmul_calls _ _ _ y1 y3 (k+1) (m+1) HA1.out HB1.out (by omega) (by omega)).mono ?_); rintro e w3 ⟨v3, rfl, o3, b3⟩; obtain ⟨s3, P3, q3, e3, rfl, o3⟩ := o3.open_; have O3 := hide o3; clear o3)
   | ((with_reducible refine (zmul_calls _ _ _ y2 y4 (k+1) (m+1) (HA2.out.later b3) (HB2.out.later b3) (by omega) (by omega)).mono ?_); rintro e w4 ⟨v4, rfl, o4, b4⟩; obtain ⟨s4, P4, q4, e4, rfl, o4⟩ := o4.open_; have O4 := hide o4; clear o4)
   | ((with_reducible refine (qplain_calls _ _ q (k+1+(m+1)) (rawR_mk ((O3.out.raw Z1.out).later b4) (O4.out.raw Z2.out) HQQ.out) (by omega)).mono ?_); rintro e w5 ⟨v5, rfl, o5, b5⟩; obtain ⟨s5, P5, q5, e5, P5', q5', e5', rfl, o5⟩ := o5.open_; have O5 := hide o5; clear o5; obtain ⟨f1, f2, f3, f4, f5, f6, f7, f8⟩ := row_cells4 (R3.out.later ((b3.trans b4).trans b5))))
 have hL := LV.out.trans ((b3.trans b4).trans b5)
 have HR := hide (R3.out.later ((b3.trans b4).trans b5))
 have hs3 := b3.size; have hs4 := b4.size; have hs5 := b5.size
 clear f1 f2 f3 f4 f5 f6 f7 f8
 go_wp2_with fail
 refine bodyPost_ret (results_rat rfl rfl (HR.out.four _ _ _ _)) rfl ?_
 have oo := Only.four (w.heap.size + 2) w5 (.bool s5) (.slice P5 q5 e5) (.bool false) (.slice P5' q5' e5')
 exact ⟨_, rfl, (O5.out.only oo (by omega)).weaken (by omega), hL.only oo (by omega)⟩
theorem of_law (a b : Int) (hb : b ≠ 0) : Rat.divInt a b = ratOf (sgn (decide (a < 0) != decide (b < 0)) a.natAbs) (sgn false b.natAbs) := by
 have hp : 0 < sgn false b.natAbs := by simp [sgn]; omega
 rw [ratOf_pos hp, Rat.divInt_eq_div, Rat.divInt_eq_div]
 have hA : (sgn false b.natAbs : Int) = if b < 0 then -b else b := by simp [sgn]; split <;> omega
 have hB : sgn (decide (a < 0) != decide (b < 0)) a.natAbs = if b < 0 then -a else a := by
  unfold sgn
  by_cases h1 : a < 0 <;> by_cases h2 : b < 0 <;> simp [h1, h2] <;> omega
 rw [hA, hB]
 have hb' : (b : Rat) ≠ 0 := by simpa using hb
 split
 ·rw [Rat.intCast_neg, Rat.intCast_neg]; grind
 ·rfl
set_option maxHeartbeats 4000000 in
theorem qof_calls (w : World) (a b : Int) (ha1 : -9223372036854775808 <= a) (ha2 : a < 9223372036854775808) (hb1 : -9223372036854775808 <= b) (hb2 : b < 9223372036854775808) (hb0 : b ≠ 0) (q : Rat) (hq : Rat.divInt a b = q) :
 Calls Tryz.prog 94 #[.int .i64 a, .int .i64 b] w (Ret2 w fun w' v o => OwnR w' w.heap.size v q /\ o = .bool true) := by
 have hql := of_law a b hb0
 rw [hq] at hql
 have hla : (limbs a.natAbs).length <= 3 := length_limbs_le (by omega)
 have hlb : (limbs b.natAbs).length <= 3 := length_limbs_le (by omega)
 have t0 : (b == 0) = false := by simpa using hb0
 have HQL := hide hql
 obtain ⟨W0, hW0⟩ : ∃ W0, W0 = w.alloc (Obj.cells #[Value.bool false, Value.slice none 0 0, Value.bool false, Value.slice none 0 0] 36) := ⟨_, rfl⟩
 obtain ⟨hb0', r1, hsz⟩ := boxes1 w [.bool false, .slice none 0 0, .bool false, .slice none 0 0] 36 hW0
 have R1 := hide r1; have B0 := hide hb0'; have HW0 := hide hW0
 clear hq hql hb0 r1 hb0' hW0
 go_enter Tryz.func94, Tryz.ntmps94
 go_wp2_with fail
 rw [<- HW0.out]
 refine (zof_calls _ a ha1 ha2).mono ?_
 rintro e w1 ⟨v1, rfl, o1, b1⟩
 obtain ⟨s1, P1, q1, e1, rfl, o1⟩ := o1.open_; have O1 := hide o1; clear o1
 have hs1 := b1.size
 go_wp2_with fail
 obtain ⟨V1, hV1⟩ : ∃ V, V = w1.alloc (Obj.cells #[Value.bool s1, Value.slice P1 q1 e1] 34) := ⟨_, rfl⟩
 have c1' : Later w1 V1 := by rw [hV1]; exact (Later.refl w1).alloc _
 have x1 : Row V1 w1.heap.size 34 [.bool s1, .slice P1 q1 e1] := by rw [hV1]; exact Row.new w1 _ _
 have hsV1 : V1.heap.size = w1.heap.size + 1 := by rw [hV1]; simp
 rw [<- hV1]
 have X1 := hide x1; have C1 := hide c1'
 clear hV1 x1 c1'
 refine (zof_calls _ b hb1 hb2).mono ?_
 rintro e w2 ⟨v2, rfl, o2, b2⟩
 obtain ⟨s2, P2, q2, e2, rfl, o2⟩ := o2.open_; have O2 := hide o2; clear o2
 have hs2 := b2.size
 obtain ⟨V2, hV2⟩ : ∃ V, V = w2.alloc (Obj.cells #[Value.bool s2, Value.slice P2 q2 e2] 34) := ⟨_, rfl⟩
 have c2' : Later w2 V2 := by rw [hV2]; exact (Later.refl w2).alloc _
 have x2 : Row V2 w2.heap.size 34 [.bool s2, .slice P2 q2 e2] := by rw [hV2]; exact Row.new w2 _ _
 have hsV2 : V2.heap.size = w2.heap.size + 1 := by rw [hV2]; simp
 have x1 := X1.out.later (b2.trans c2')
 obtain ⟨d1, d2, d3, d4⟩ := row_cells2 x1
 obtain ⟨d5, d6, d7, d8⟩ := row_cells2 x2
 rw [hV2] at d1 d2 d3 d4 d5 d6 d7 d8
 have HV2 := hide hV2
 have I1 := hide ((O1.out.later C1.out).later (b2.trans c2')); have I2 := hide (O2.out.later c2')
 have k2 := hide (((B0.out.trans b1).trans C1.out).trans (b2.trans c2'))
 have HR := hide (R1.out.later ((b1.trans C1.out).trans (b2.trans c2')))
 have hne : (!(s1 == s2)) = (decide (a < 0) != decide (b < 0)) := by rw [O1.out.sign, O2.out.sign]; rfl
 have HNE := hide hne
 clear x1 x2 c2' hne
 go_wp2_with fail
 rw [<- HV2.out]
 have hraw : RawR V2 (.agg #[.bool (!(s1 == s2)), .slice P1 q1 e1, .bool false, .slice P2 q2 e2]) q 3 := rawR_mk (rawI_mk I1.out.own hla) (rawI_mk I2.out.own hlb) (by rw [HNE.out]; exact HQL.out)
 refine (qplain_calls _ _ q 3 hraw (by omega)).mono ?_
 rintro e w3 ⟨v3, rfl, o3, b3⟩
 obtain ⟨s3, P3, q3, e3, P3', q3', e3', rfl, o3⟩ := o3.open_; have O3 := hide o3; clear o3
 clear d1 d2 d3 d4 d5 d6 d7 d8 hraw
 obtain ⟨f1, f2, f3, f4, f5, f6, f7, f8⟩ := row_cells4 (HR.out.later b3)
 have HR3 := hide (HR.out.later b3)
 have hL := k2.out.trans b3
 clear f1 f2 f3 f4 f5 f6 f7 f8
 obtain ⟨f1, f2, f3, f4, f5, f6, f7, f8⟩ := row_cells4 HR3.out
 go_wp2_with fail
 refine bodyPost_ret (results_rat_bool rfl rfl rfl (HR3.out.four _ _ _ _)) rfl ?_
 have oo := Only.four w.heap.size w3 (.bool s3) (.slice P3 q3 e3) (.bool false) (.slice P3' q3' e3')
 exact ⟨_, _, rfl, ⟨(O3.out.only oo (by omega)).weaken (by omega), rfl⟩, hL.only oo (by omega)⟩
end Go.Proofs.YtfokplidiboabaaGreat
namespace Go.Proofs.YtfokplidiboabaaGreat
open Go.RowKit Go.Shelf
attribute [local go_sem ↓] Go.wp_at_zero Go.wp_at_succ
theorem rawI_neg {w : World} {s : Bool} {A : Option Addr} {n c : Nat} {z : Int} {k : Nat} (h : RawI w (.agg #[.bool s, .slice A n c]) z k) : RawI w (.agg #[.bool (!s), .slice A n c]) (-z) k := by
 obtain ⟨neg, A', n', c', l, e, hu, hz, hl⟩ := h
 injection e with e; injection e with e; injection e with e1 e; injection e with e2 e
 injection e1 with e1
 subst e1
 rw [<- e2] at hu
 exact ⟨!s, _, _, _, l, rfl, hu, by rw [hz]; cases s <;> simp [sgn], hl⟩
set_option maxHeartbeats 4000000 in
theorem zsub_calls (w : World) (va vb : Value) (x y : Int) (k m : Nat) (hx : RawI w va x k) (hy : RawI w vb y m) (hk : k <= 90000000) (hm : m <= 90000000) :
 Calls Tryz.prog 101 #[va, vb] w (Ret w fun w' v => OwnI w' w.heap.size v (x - y)) := by
 obtain ⟨z, hz⟩ : ∃ z, z = x - y := ⟨_, rfl⟩
 rw [<- hz]
 have hz2 : x + -y = z := by omega
 have HX := hide hx; have HY := hide hy; have HZ := hide hz2
 obtain ⟨n1, A1, m1, c1, rfl⟩ := hx.open_
 obtain ⟨n2, A2, m2, c2, rfl⟩ := hy.open_
 clear hx hy hz hz2
 go_enter Tryz.func101, Tryz.ntmps101
 go_wp2_with fail
 obtain ⟨W0, hW0⟩ : ∃ W0, W0 = (((w.alloc (Obj.cells #[Value.bool n1, Value.slice A1 m1 c1] 34)).alloc (Obj.cells #[Value.bool n2, Value.slice A2 m2 c2] 34)).alloc (Obj.cells #[Value.bool false, Value.slice none 0 0] 34)) := ⟨_, rfl⟩
 obtain ⟨hb0, r1, r2, r3, hsz⟩ := boxes3 w [.bool n1, .slice A1 m1 c1] [.bool n2, .slice A2 m2 c2] [.bool false, .slice none 0 0] 34 34 34 hW0
 rw [<- hW0]
 have R3 := hide r3; have B0 := hide hb0
 clear hW0 r1 r2 r3 hb0
 refine (zadd_calls _ _ _ x (-y) k m (HX.out.later B0.out) (rawI_neg (HY.out.later B0.out)) (by omega) (by omega)).mono ?_
 rintro e w1 ⟨v1, rfl, o1, b1⟩
 rw [HZ.out] at o1
 obtain ⟨s1, P1, q1, e1, rfl, o1⟩ := o1.open_; have O1 := hide o1; clear o1
 have HR := hide (R3.out.later b1)
 have hL := B0.out.trans b1
 obtain ⟨d1, d2, d3, d4⟩ := row_cells2 HR.out
 go_wp2_with fail
 refine bodyPost_ret (results_int rfl rfl (HR.out.two _ _)) rfl ?_
 have oo := Only.two (w.heap.size + 2) w1 (.bool s1) (.slice P1 q1 e1)
 exact ⟨_, rfl, (O1.out.only oo (by omega)).weaken (by omega), hL.only oo (by omega)⟩
end Go.Proofs.YtfokplidiboabaaGreat
namespace Go.Proofs.YtfokplidiboabaaGreat
open Go.RowKit Go.Shelf
attribute [local go_sem ↓] Go.wp_at_zero Go.wp_at_succ
set_option maxHeartbeats 4000000 in
theorem qsub_calls (w : World) (va vb : Value) (a b : Rat) (k m : Nat) (ha : RawR w va a k) (hb : RawR w vb b m) (hkm : k + m <= 80000000) :
 Calls Tryz.prog 75 #[va, vb] w (Ret w fun w' v => OwnR w' w.heap.size v (a - b)) := by
 obtain ⟨q, hq⟩ : ∃ q, q = a - b := ⟨_, rfl⟩
 rw [<- hq]
 have hq2 := (ratOf_sub a b).trans hq.symm
 have HQ := hide hq2
 clear hq hq2
 have SA := ha.sized; have SB := hb.sized
 have HA := hide ha; have HB := hide hb
 obtain ⟨sa, A1, n1, c1, sa', A1', n1', c1', rfl⟩ := ha.open_
 obtain ⟨sb, A2, n2, c2, sb', A2', n2', c2', rfl⟩ := hb.open_
 obtain ⟨W0, hW0⟩ : ∃ W0, W0 = (((w.alloc (Obj.cells #[Value.bool sa, Value.slice A1 n1 c1, Value.bool sa', Value.slice A1' n1' c1'] 36)).alloc (Obj.cells #[Value.bool sb, Value.slice A2 n2 c2, Value.bool sb', Value.slice A2' n2' c2'] 36)).alloc (Obj.cells #[Value.bool false, Value.slice none 0 0, Value.bool false, Value.slice none 0 0] 36)) := ⟨_, rfl⟩
 obtain ⟨hb0, r1, r2, r3, hsz⟩ := boxes3 w [.bool sa, .slice A1 n1 c1, .bool sa', .slice A1' n1' c1'] [.bool sb, .slice A2 n2 c2, .bool sb', .slice A2' n2' c2'] [.bool false, .slice none 0 0, .bool false, .slice none 0 0] 36 36 36 hW0
 have R3 := hide r3; clear r3
 have B0 := hide hb0; have HW0 := hide hW0
 clear ha hb r1 r2 hb0 hW0
 go_enter Tryz.func75, Tryz.ntmps75
 go_wp2_with fail
 rw [<- HW0.out]
 refine (cross_calls _ _ _ a b k m (HA.out.later B0.out) (HB.out.later B0.out) (by omega)).mono ?_
 rintro e w1 ⟨v1, v2, v3, rfl, ⟨o1, o2, o3⟩, b1⟩
 obtain ⟨s1, P1, q1, e1, rfl, o1⟩ := o1.open_
 obtain ⟨s2, P2, q2, e2, rfl, o2⟩ := o2.open_
 obtain ⟨s3, P3, q3, e3, rfl, o3⟩ := o3.open_
 have hs1 := b1.size
 obtain ⟨V1, hV1⟩ : ∃ V1, V1 = (((w1.alloc (Obj.cells #[Value.bool s1, Value.slice P1 q1 e1] 34)).alloc (Obj.cells #[Value.bool s2, Value.slice P2 q2 e2] 34)).alloc (Obj.cells #[Value.bool s3, Value.slice P3 q3 e3] 34)) := ⟨_, rfl⟩
 obtain ⟨c1', x1, x2, x3, hsV⟩ := boxes3 w1 [.bool s1, .slice P1 q1 e1] [.bool s2, .slice P2 q2 e2] [.bool s3, .slice P3 q3 e3] 34 34 34 hV1
 have HV1 := hide hV1
 have C1 := hide c1'
 clear hV1
 have Z1 := limbs_mulZ SA.1 (limbs_castZ SB.2)
 have Z2 : (limbs (b.num * a.den).natAbs).length <= k + 1 + (m + 1) := by rw [Nat.add_comm (k+1)]; exact limbs_mulZ SB.1 (limbs_castZ SA.2)
 have Z3 := limbs_mulZ (limbs_castZ SA.2) (limbs_castZ SB.2)
 have Z4 : (limbs (a.num * b.den - b.num * a.den).natAbs).length <= k + 1 + (m + 1) + 1 := limbs_subZ Z1 Z2
 obtain ⟨y1, hy1⟩ : ∃ x, x = a.num * b.den := ⟨_, rfl⟩
 obtain ⟨y2, hy2⟩ : ∃ x, x = b.num * a.den := ⟨_, rfl⟩
 obtain ⟨y3, hy3⟩ : ∃ x, x = (a.den : Int) * b.den := ⟨_, rfl⟩
 have hy30 : y3 ≠ 0 := by rw [hy3]; exact den_mul_ne a b
 have hy31 : 0 < y3 := by rw [hy3]; have := a.den_pos; have := b.den_pos; exact Int.mul_pos (by omega) (by omega)
 rw [<- hy1] at o1 Z1 Z4; rw [<- hy2] at o2 Z2 Z4; rw [<- hy3] at o3 Z3
 have hqq : q = ratOf (y1 - y2) y3 := by rw [ratOf_pos hy31, hy1, hy2, hy3]; exact HQ.out.symm
 have D0 : Hid (Later V1 V1.drew) := hide (Later.refl V1).drew
 have O1 := hide (((o1.raw Z1).later c1').later D0.out); have O2 := hide (((o2.raw Z2).later c1').later D0.out); have O3 := hide (((o3.raw (k := k+1+(m+1)+1) (by omega)).later c1').later D0.out)
 have HQQ := hide hqq; have HZ4 := hide Z4
 have LV := hide (((B0.out.trans b1).trans c1').trans D0.out)
 have R3 := hide (R3.out.later ((b1.trans c1').trans D0.out))
 have x1 := x1.drew; have x2 := x2.drew; have x3 := x3.drew
 have hszd : V1.drew.heap.size = w1.heap.size + 3 := hsV
 have HT1 : Hid (∀ w', Later V1.drew w' -> w'.cell? ⟨w1.heap.size, 0, none⟩ = some (.bool s1) /\ w'.cell? ⟨w1.heap.size, 1, none⟩ = some (.slice P1 q1 e1) /\ w'.cell? ⟨w1.heap.size + 1, 0, none⟩ = some (.bool s2) /\ w'.cell? ⟨w1.heap.size + 1, 1, none⟩ = some (.slice P2 q2 e2) /\ w'.cell? ⟨w1.heap.size + 2, 0, none⟩ = some (.bool s3) /\ w'.cell? ⟨w1.heap.size + 2, 1, none⟩ = some (.slice P3 q3 e3)) :=
  hide fun w' hb => ⟨(x1.later hb).cell rfl, (x1.later hb).cell rfl, (x2.later hb).cell rfl, (x2.later hb).cell rfl, (x3.later hb).cell rfl, (x3.later hb).cell rfl⟩
 have HT2 : Hid (∀ w' a_ b_ c_ d_, Later V1.drew w' -> ((((w'.setCell ⟨w.heap.size + 2, 0, none⟩ a_).setCell ⟨w.heap.size + 2, 1, none⟩ b_).setCell ⟨w.heap.size + 2, 2, none⟩ c_).setCell ⟨w.heap.size + 2, 3, none⟩ d_).cell? ⟨w1.heap.size, 0, none⟩ = some (.bool s1) /\ ((((w'.setCell ⟨w.heap.size + 2, 0, none⟩ a_).setCell ⟨w.heap.size + 2, 1, none⟩ b_).setCell ⟨w.heap.size + 2, 2, none⟩ c_).setCell ⟨w.heap.size + 2, 3, none⟩ d_).cell? ⟨w1.heap.size, 1, none⟩ = some (.slice P1 q1 e1) /\ ((((w'.setCell ⟨w.heap.size + 2, 0, none⟩ a_).setCell ⟨w.heap.size + 2, 1, none⟩ b_).setCell ⟨w.heap.size + 2, 2, none⟩ c_).setCell ⟨w.heap.size + 2, 3, none⟩ d_).cell? ⟨w1.heap.size + 1, 0, none⟩ = some (.bool s2) /\ ((((w'.setCell ⟨w.heap.size + 2, 0, none⟩ a_).setCell ⟨w.heap.size + 2, 1, none⟩ b_).setCell ⟨w.heap.size + 2, 2, none⟩ c_).setCell ⟨w.heap.size + 2, 3, none⟩ d_).cell? ⟨w1.heap.size + 1, 1, none⟩ = some (.slice P2 q2 e2) /\ ((((w'.setCell ⟨w.heap.size + 2, 0, none⟩ a_).setCell ⟨w.heap.size + 2, 1, none⟩ b_).setCell ⟨w.heap.size + 2, 2, none⟩ c_).setCell ⟨w.heap.size + 2, 3, none⟩ d_).cell? ⟨w1.heap.size + 2, 0, none⟩ = some (.bool s3) /\ ((((w'.setCell ⟨w.heap.size + 2, 0, none⟩ a_).setCell ⟨w.heap.size + 2, 1, none⟩ b_).setCell ⟨w.heap.size + 2, 2, none⟩ c_).setCell ⟨w.heap.size + 2, 3, none⟩ d_).cell? ⟨w1.heap.size + 2, 1, none⟩ = some (.slice P3 q3 e3)) :=
  hide fun w' a_ b_ c_ d_ hb => ⟨((x1.later hb).far4 (by omega) a_ b_ c_ d_).cell rfl, ((x1.later hb).far4 (by omega) a_ b_ c_ d_).cell rfl, ((x2.later hb).far4 (by omega) a_ b_ c_ d_).cell rfl, ((x2.later hb).far4 (by omega) a_ b_ c_ d_).cell rfl, ((x3.later hb).far4 (by omega) a_ b_ c_ d_).cell rfl, ((x3.later hb).far4 (by omega) a_ b_ c_ d_).cell rfl⟩
 clear o1 o2 o3 x1 x2 x3 c1' SA SB Z1 Z2 Z3 Z4 hy1 hy2 hy3 hy30 hy31 hqq HQ
 go_upto_region 2 with fail
 rw [<- HV1.out]
 go_region_held3 (fun w' => w'.cell? ⟨w1.heap.size, 0, none⟩ = some (.bool s1) /\ w'.cell? ⟨w1.heap.size, 1, none⟩ = some (.slice P1 q1 e1) /\ w'.cell? ⟨w1.heap.size + 1, 0, none⟩ = some (.bool s2) /\ w'.cell? ⟨w1.heap.size + 1, 1, none⟩ = some (.slice P2 q2 e2) /\ w'.cell? ⟨w1.heap.size + 2, 0, none⟩ = some (.bool s3) /\ w'.cell? ⟨w1.heap.size + 2, 1, none⟩ = some (.slice P3 q3 e3))
  (first | exact HT1.out _ (Later.refl _) | exact HT1.out _ b4 | exact HT1.out _ (b4.trans b5) | exact HT2.out _ _ _ _ _ (b4.trans b5))
  (first
   | ((with_reducible refine (zsub_calls _ _ _ y1 y2 (k+1+(m+1)) (k+1+(m+1)) O1.out O2.out (by omega) (by omega)).mono ?_); rintro e w4 ⟨v4, rfl, o4, b4⟩; obtain ⟨s4, P4, q4, e4, rfl, o4⟩ := o4.open_; have O4 := hide o4; clear o4)
   | ((with_reducible refine (qplain_calls _ _ q (k+1+(m+1)+1) (rawR_mk (O4.out.raw HZ4.out) (O3.out.later b4) HQQ.out) (by omega)).mono ?_); rintro e w5 ⟨v5, rfl, o5, b5⟩; obtain ⟨s5, P5, q5, e5, P5', q5', e5', rfl, o5⟩ := o5.open_; have O5 := hide o5; clear o5; obtain ⟨f1, f2, f3, f4, f5, f6, f7, f8⟩ := row_cells4 (R3.out.later (b4.trans b5))))
 have hL := LV.out.trans (b4.trans b5)
 have HR := hide (R3.out.later (b4.trans b5))
 have hs4 := b4.size; have hs5 := b5.size
 clear f1 f2 f3 f4 f5 f6 f7 f8
 go_wp2_with fail
 refine bodyPost_ret (results_rat rfl rfl (HR.out.four _ _ _ _)) rfl ?_
 have oo := Only.four (w.heap.size + 2) w5 (.bool s5) (.slice P5 q5 e5) (.bool false) (.slice P5' q5' e5')
 exact ⟨_, rfl, (O5.out.only oo (by omega)).weaken (by omega), hL.only oo (by omega)⟩
end Go.Proofs.YtfokplidiboabaaGreat
