import Derived.Test.YthncinngkfflgaaGreatM10
import Derived.Test.YthncinngkfflgaaGreatM5
import Derived.Test.YthncinngkfflgaaGreatM7
import Derived.Test.YthncinngkfflgaaGreatM9

/- The reference's fractions: Mul, Of. -/
set_option linter.unusedVariables false
set_option linter.unusedSimpArgs false
set_option maxRecDepth 100000
namespace Go.Proofs.YthncinngkfflgaaGreat
open Go.RowKit Go.Shelf
attribute [local go_sem ↓] Go.wp_at_zero Go.wp_at_succ

set_option maxHeartbeats 4000000 in
theorem qmul_calls (w : World) (va vb : Value) (a b : Rat) (k m : Nat) (ha : RawR w va a k) (hb : RawR w vb b m) (hkm : k + m ≤ 80000000) :
    Calls Tryz.prog 115 #[va, vb] w (Ret w fun w' v => OwnR w' w.heap.size v (a * b)) := by
  obtain ⟨q, hq⟩ : ∃ q, q = a * b := ⟨_, rfl⟩
  rw [← hq]
  have hq2 := (ratOf_mul a b).trans hq.symm
  have HQ := hide hq2
  have SA := ha.sized; have SB := hb.sized
  have HA := hide ha; have HB := hide hb
  obtain ⟨sa, A1, n1, c1, sa', A1', n1', c1', rfl⟩ := ha.open_
  obtain ⟨sb, A2, n2, c2, sb', A2', n2', c2', rfl⟩ := hb.open_
  obtain ⟨W0, hW0⟩ : ∃ W0, W0 = (((w.alloc (Obj.cells #[Value.bool sa, Value.slice A1 n1 c1, Value.bool sa', Value.slice A1' n1' c1'] 37)).alloc (Obj.cells #[Value.bool sb, Value.slice A2 n2 c2, Value.bool sb', Value.slice A2' n2' c2'] 37)).alloc (Obj.cells #[Value.bool false, Value.slice none 0 0, Value.bool false, Value.slice none 0 0] 37)) := ⟨_, rfl⟩
  obtain ⟨hb0, r1, r2, r3, hsz⟩ := boxes3 w [.bool sa, .slice A1 n1 c1, .bool sa', .slice A1' n1' c1'] [.bool sb, .slice A2 n2 c2, .bool sb', .slice A2' n2' c2'] [.bool false, .slice none 0 0, .bool false, .slice none 0 0] 37 37 37 hW0
  have R2 := hide r2; have R3 := hide r3; have B0 := hide hb0; have HW0 := hide hW0
  clear ha hb r1 r2 r3 hb0 hW0 hq hq2
  go_enter Tryz.func115, Tryz.ntmps115
  go_wp2_with fail
  rw [← HW0.out]
  refine (qplain_calls _ _ a k (HA.out.later B0.out) (by omega)).mono ?_
  rintro e w1 ⟨v1, rfl, o1, b1⟩
  obtain ⟨s1, P1, q1, e1, P1', q1', e1', rfl, o1⟩ := o1.open_; have O1 := hide o1; clear o1
  obtain ⟨d1, d2, d3, d4, d5, d6, d7, d8⟩ := row_cells4 (R2.out.later (b1.alloc (Obj.cells #[Value.bool s1, Value.slice P1 q1 e1, Value.bool false, Value.slice P1' q1' e1'] 37)))
  have hs1 := b1.size
  go_wp2_with fail
  obtain ⟨V1, hV1⟩ : ∃ V, V = w1.alloc (Obj.cells #[Value.bool s1, Value.slice P1 q1 e1, Value.bool false, Value.slice P1' q1' e1'] 37) := ⟨_, rfl⟩
  have c1' : Later w1 V1 := by rw [hV1]; exact (Later.refl w1).alloc _
  have x1 : Row V1 w1.heap.size 37 [.bool s1, .slice P1 q1 e1, .bool false, .slice P1' q1' e1'] := by rw [hV1]; exact Row.new w1 _ _
  have hsV1 : V1.heap.size = w1.heap.size + 1 := by rw [hV1]; simp
  rw [← hV1]
  have X1 := hide x1; have C1 := hide c1'
  clear hV1 x1 c1' d1 d2 d3 d4 d5 d6 d7 d8
  refine (qplain_calls _ _ b m (HB.out.later (B0.out.trans (b1.trans C1.out))) (by omega)).mono ?_
  rintro e w2 ⟨v2, rfl, o2, b2⟩
  obtain ⟨s2, P2, q2, e2, P2', q2', e2', rfl, o2⟩ := o2.open_; have O2 := hide o2; clear o2
  have hs2 := b2.size
  obtain ⟨V2, hV2⟩ : ∃ V, V = w2.alloc (Obj.cells #[Value.bool s2, Value.slice P2 q2 e2, Value.bool false, Value.slice P2' q2' e2'] 37) := ⟨_, rfl⟩
  have c2' : Later w2 V2 := by rw [hV2]; exact (Later.refl w2).alloc _
  have x2 : Row V2 w2.heap.size 37 [.bool s2, .slice P2 q2 e2, .bool false, .slice P2' q2' e2'] := by rw [hV2]; exact Row.new w2 _ _
  have hsV2 : V2.heap.size = w2.heap.size + 1 := by rw [hV2]; simp
  have x1 := X1.out.later (b2.trans c2')
  have C2 := hide ((b1.trans C1.out).trans (b2.trans c2'))
  have HV2 := hide hV2

  obtain ⟨y1, hy1⟩ : ∃ x, x = a.num := ⟨_, rfl⟩
  obtain ⟨y2, hy2⟩ : ∃ x, x = (a.den : Int) := ⟨_, rfl⟩
  obtain ⟨y3, hy3⟩ : ∃ x, x = b.num := ⟨_, rfl⟩
  obtain ⟨y4, hy4⟩ : ∃ x, x = (b.den : Int) := ⟨_, rfl⟩
  have D0 : Hid (Later V2 V2.drew) := hide (Later.refl V2).drew
  have ha1 := (((O1.out.later C1.out).later (b2.trans c2')).num.raw SA.1).later D0.out; have ha2 := (((O1.out.later C1.out).later (b2.trans c2')).den.raw (limbs_castZ SA.2)).later D0.out
  have hb1 := ((O2.out.later c2').num.raw SB.1).later D0.out; have hb2 := ((O2.out.later c2').den.raw (limbs_castZ SB.2)).later D0.out
  have hy31 : 0 < y2 * y4 := by rw [hy2, hy4]; have := a.den_pos; have := b.den_pos; exact Int.mul_pos (by omega) (by omega)
  have hqq : q = ratOf (y1 * y3) (y2 * y4) := by rw [ratOf_pos hy31, hy1, hy2, hy3, hy4]; exact HQ.out.symm
  rw [← hy1] at ha1; rw [← hy2] at ha2; rw [← hy3] at hb1; rw [← hy4] at hb2
  have HA1 := hide ha1; have HA2 := hide ha2; have HB1 := hide hb1; have HB2 := hide hb2; have HQQ := hide hqq
  have Z1 := hide (limbs_mulZ ha1.limbs_le hb1.limbs_le); have Z2 := hide (limbs_mulZ ha2.limbs_le hb2.limbs_le)
  have hszd : V2.drew.heap.size = w2.heap.size + 1 := hsV2
  have x1 := x1.drew; have x2 := x2.drew
  have LV := hide ((B0.out.trans C2.out).trans D0.out)
  have R3 := hide (R3.out.later (C2.out.trans D0.out))
  have HT1 : Hid (∀ w', Later V2.drew w' → w'.cell? ⟨w1.heap.size, 0, none⟩ = some (.bool s1) ∧ w'.cell? ⟨w1.heap.size, 1, none⟩ = some (.slice P1 q1 e1) ∧ w'.cell? ⟨w1.heap.size, 2, none⟩ = some (.bool false) ∧ w'.cell? ⟨w1.heap.size, 3, none⟩ = some (.slice P1' q1' e1') ∧ w'.cell? ⟨w2.heap.size, 0, none⟩ = some (.bool s2) ∧ w'.cell? ⟨w2.heap.size, 1, none⟩ = some (.slice P2 q2 e2) ∧ w'.cell? ⟨w2.heap.size, 2, none⟩ = some (.bool false) ∧ w'.cell? ⟨w2.heap.size, 3, none⟩ = some (.slice P2' q2' e2')) :=
    hide fun w' hb => ⟨(x1.later hb).cell rfl, (x1.later hb).cell rfl, (x1.later hb).cell rfl, (x1.later hb).cell rfl, (x2.later hb).cell rfl, (x2.later hb).cell rfl, (x2.later hb).cell rfl, (x2.later hb).cell rfl⟩
  have HT2 : Hid (∀ w' a_ b_ c_ d_, Later V2.drew w' → ((((w'.setCell ⟨w.heap.size + 2, 0, none⟩ a_).setCell ⟨w.heap.size + 2, 1, none⟩ b_).setCell ⟨w.heap.size + 2, 2, none⟩ c_).setCell ⟨w.heap.size + 2, 3, none⟩ d_).cell? ⟨w1.heap.size, 0, none⟩ = some (.bool s1) ∧ ((((w'.setCell ⟨w.heap.size + 2, 0, none⟩ a_).setCell ⟨w.heap.size + 2, 1, none⟩ b_).setCell ⟨w.heap.size + 2, 2, none⟩ c_).setCell ⟨w.heap.size + 2, 3, none⟩ d_).cell? ⟨w1.heap.size, 1, none⟩ = some (.slice P1 q1 e1) ∧ ((((w'.setCell ⟨w.heap.size + 2, 0, none⟩ a_).setCell ⟨w.heap.size + 2, 1, none⟩ b_).setCell ⟨w.heap.size + 2, 2, none⟩ c_).setCell ⟨w.heap.size + 2, 3, none⟩ d_).cell? ⟨w1.heap.size, 2, none⟩ = some (.bool false) ∧ ((((w'.setCell ⟨w.heap.size + 2, 0, none⟩ a_).setCell ⟨w.heap.size + 2, 1, none⟩ b_).setCell ⟨w.heap.size + 2, 2, none⟩ c_).setCell ⟨w.heap.size + 2, 3, none⟩ d_).cell? ⟨w1.heap.size, 3, none⟩ = some (.slice P1' q1' e1') ∧ ((((w'.setCell ⟨w.heap.size + 2, 0, none⟩ a_).setCell ⟨w.heap.size + 2, 1, none⟩ b_).setCell ⟨w.heap.size + 2, 2, none⟩ c_).setCell ⟨w.heap.size + 2, 3, none⟩ d_).cell? ⟨w2.heap.size, 0, none⟩ = some (.bool s2) ∧ ((((w'.setCell ⟨w.heap.size + 2, 0, none⟩ a_).setCell ⟨w.heap.size + 2, 1, none⟩ b_).setCell ⟨w.heap.size + 2, 2, none⟩ c_).setCell ⟨w.heap.size + 2, 3, none⟩ d_).cell? ⟨w2.heap.size, 1, none⟩ = some (.slice P2 q2 e2) ∧ ((((w'.setCell ⟨w.heap.size + 2, 0, none⟩ a_).setCell ⟨w.heap.size + 2, 1, none⟩ b_).setCell ⟨w.heap.size + 2, 2, none⟩ c_).setCell ⟨w.heap.size + 2, 3, none⟩ d_).cell? ⟨w2.heap.size, 2, none⟩ = some (.bool false) ∧ ((((w'.setCell ⟨w.heap.size + 2, 0, none⟩ a_).setCell ⟨w.heap.size + 2, 1, none⟩ b_).setCell ⟨w.heap.size + 2, 2, none⟩ c_).setCell ⟨w.heap.size + 2, 3, none⟩ d_).cell? ⟨w2.heap.size, 3, none⟩ = some (.slice P2' q2' e2')) :=
    hide fun w' a_ b_ c_ d_ hb => ⟨((x1.later hb).far4 (by omega) a_ b_ c_ d_).cell rfl, ((x1.later hb).far4 (by omega) a_ b_ c_ d_).cell rfl, ((x1.later hb).far4 (by omega) a_ b_ c_ d_).cell rfl, ((x1.later hb).far4 (by omega) a_ b_ c_ d_).cell rfl, ((x2.later hb).far4 (by omega) a_ b_ c_ d_).cell rfl, ((x2.later hb).far4 (by omega) a_ b_ c_ d_).cell rfl, ((x2.later hb).far4 (by omega) a_ b_ c_ d_).cell rfl, ((x2.later hb).far4 (by omega) a_ b_ c_ d_).cell rfl⟩

  go_upto_region 3 with fail
  rw [← HV2.out]
  clear hy1 hy2 hy3 hy4 ha1 ha2 hb1 hb2 x1 x2 c2' SA SB hV2 hqq hy31 HQ
  go_region_held3 (fun w' => w'.cell? ⟨w1.heap.size, 0, none⟩ = some (.bool s1) ∧ w'.cell? ⟨w1.heap.size, 1, none⟩ = some (.slice P1 q1 e1) ∧ w'.cell? ⟨w1.heap.size, 2, none⟩ = some (.bool false) ∧ w'.cell? ⟨w1.heap.size, 3, none⟩ = some (.slice P1' q1' e1') ∧ w'.cell? ⟨w2.heap.size, 0, none⟩ = some (.bool s2) ∧ w'.cell? ⟨w2.heap.size, 1, none⟩ = some (.slice P2 q2 e2) ∧ w'.cell? ⟨w2.heap.size, 2, none⟩ = some (.bool false) ∧ w'.cell? ⟨w2.heap.size, 3, none⟩ = some (.slice P2' q2' e2'))
    (first | exact HT1.out _ (Later.refl _) | exact HT1.out _ b3 | exact HT1.out _ (b3.trans b4) | exact HT1.out _ ((b3.trans b4).trans b5) | exact HT2.out _ _ _ _ _ ((b3.trans b4).trans b5))
    (first
      | ((with_reducible refine (zmul_calls _ _ _ y1 y3 (k+1) (m+1) HA1.out HB1.out (by omega) (by omega)).mono ?_); rintro e w3 ⟨v3, rfl, o3, b3⟩; obtain ⟨s3, P3, q3, e3, rfl, o3⟩ := o3.open_; have O3 := hide o3; clear o3)
      | ((with_reducible refine (zmul_calls _ _ _ y2 y4 (k+1) (m+1) (HA2.out.later b3) (HB2.out.later b3) (by omega) (by omega)).mono ?_); rintro e w4 ⟨v4, rfl, o4, b4⟩; obtain ⟨s4, P4, q4, e4, rfl, o4⟩ := o4.open_; have O4 := hide o4; clear o4)
      | ((with_reducible refine (qplain_calls _ _ q (k+1+(m+1)) (rawR_mk ((O3.out.raw Z1.out).later b4) (O4.out.raw Z2.out) HQQ.out) (by omega)).mono ?_); rintro e w5 ⟨v5, rfl, o5, b5⟩; obtain ⟨s5, P5, q5, e5, P5', q5', e5', rfl, o5⟩ := o5.open_; have O5 := hide o5; clear o5; obtain ⟨f1, f2, f3, f4, f5, f6, f7, f8⟩ := row_cells4 (R3.out.later ((b3.trans b4).trans b5))))
  have hL := LV.out.trans ((b3.trans b4).trans b5)
  have HR := hide (R3.out.later ((b3.trans b4).trans b5))
  have hs3 := b3.size; have hs4 := b4.size; have hs5 := b5.size
  clear f1 f2 f3 f4 f5 f6 f7 f8
  go_wp2_with fail
  refine bodyPost_ret (results_rat rfl rfl (HR.out.four _ _ _ _)) rfl ?_
  have oo := Only.four (w.heap.size + 2) w5 (.bool s5) (.slice P5 q5 e5) (.bool false) (.slice P5' q5' e5')
  exact ⟨_, rfl, (O5.out.only oo (by omega)).weaken (by omega), hL.only oo (by omega)⟩

theorem of_law (a b : Int) (hb : b ≠ 0) : Rat.divInt a b = ratOf (sgn (decide (a < 0) != decide (b < 0)) a.natAbs) (sgn false b.natAbs) := by
  have hp : 0 < sgn false b.natAbs := by simp [sgn]; omega
  rw [ratOf_pos hp, Rat.divInt_eq_div, Rat.divInt_eq_div]
  have hA : (sgn false b.natAbs : Int) = if b < 0 then -b else b := by simp [sgn]; split <;> omega
  have hB : sgn (decide (a < 0) != decide (b < 0)) a.natAbs = if b < 0 then -a else a := by
    unfold sgn
    by_cases h1 : a < 0 <;> by_cases h2 : b < 0 <;> simp [h1, h2] <;> omega
  rw [hA, hB]
  have hb' : (b : Rat) ≠ 0 := by simpa using hb
  split
  · rw [Rat.intCast_neg, Rat.intCast_neg]; grind
  · rfl

set_option maxHeartbeats 4000000 in
theorem qof_calls (w : World) (a b : Int) (ha1 : -9223372036854775808 ≤ a) (ha2 : a < 9223372036854775808) (hb1 : -9223372036854775808 ≤ b) (hb2 : b < 9223372036854775808) (hb0 : b ≠ 0) (q : Rat) (hq : Rat.divInt a b = q) :
    Calls Tryz.prog 109 #[.int .i64 a, .int .i64 b] w (Ret2 w fun w' v o => OwnR w' w.heap.size v q ∧ o = .bool true) := by
  have hql := of_law a b hb0
  rw [hq] at hql
  have hla : (limbs a.natAbs).length ≤ 3 := length_limbs_le (by omega)
  have hlb : (limbs b.natAbs).length ≤ 3 := length_limbs_le (by omega)
  have t0 : (b == 0) = false := by simpa using hb0
  have HQL := hide hql
  obtain ⟨W0, hW0⟩ : ∃ W0, W0 = w.alloc (Obj.cells #[Value.bool false, Value.slice none 0 0, Value.bool false, Value.slice none 0 0] 37) := ⟨_, rfl⟩
  obtain ⟨hb0', r1, hsz⟩ := boxes1 w [.bool false, .slice none 0 0, .bool false, .slice none 0 0] 37 hW0
  have R1 := hide r1; have B0 := hide hb0'; have HW0 := hide hW0
  clear hq hql hb0 r1 hb0' hW0
  go_enter Tryz.func109, Tryz.ntmps109
  go_wp2_with fail
  rw [← HW0.out]
  refine (zof_calls _ a ha1 ha2).mono ?_
  rintro e w1 ⟨v1, rfl, o1, b1⟩
  obtain ⟨s1, P1, q1, e1, rfl, o1⟩ := o1.open_; have O1 := hide o1; clear o1
  have hs1 := b1.size
  go_wp2_with fail
  obtain ⟨V1, hV1⟩ : ∃ V, V = w1.alloc (Obj.cells #[Value.bool s1, Value.slice P1 q1 e1] 35) := ⟨_, rfl⟩
  have c1' : Later w1 V1 := by rw [hV1]; exact (Later.refl w1).alloc _
  have x1 : Row V1 w1.heap.size 35 [.bool s1, .slice P1 q1 e1] := by rw [hV1]; exact Row.new w1 _ _
  have hsV1 : V1.heap.size = w1.heap.size + 1 := by rw [hV1]; simp
  rw [← hV1]
  have X1 := hide x1; have C1 := hide c1'
  clear hV1 x1 c1'
  refine (zof_calls _ b hb1 hb2).mono ?_
  rintro e w2 ⟨v2, rfl, o2, b2⟩
  obtain ⟨s2, P2, q2, e2, rfl, o2⟩ := o2.open_; have O2 := hide o2; clear o2
  have hs2 := b2.size
  obtain ⟨V2, hV2⟩ : ∃ V, V = w2.alloc (Obj.cells #[Value.bool s2, Value.slice P2 q2 e2] 35) := ⟨_, rfl⟩
  have c2' : Later w2 V2 := by rw [hV2]; exact (Later.refl w2).alloc _
  have x2 : Row V2 w2.heap.size 35 [.bool s2, .slice P2 q2 e2] := by rw [hV2]; exact Row.new w2 _ _
  have hsV2 : V2.heap.size = w2.heap.size + 1 := by rw [hV2]; simp
  have x1 := X1.out.later (b2.trans c2')
  obtain ⟨d1, d2, d3, d4⟩ := row_cells2 x1
  obtain ⟨d5, d6, d7, d8⟩ := row_cells2 x2
  rw [hV2] at d1 d2 d3 d4 d5 d6 d7 d8
  have HV2 := hide hV2
  have I1 := hide ((O1.out.later C1.out).later (b2.trans c2')); have I2 := hide (O2.out.later c2')
  have k2 := hide (((B0.out.trans b1).trans C1.out).trans (b2.trans c2'))
  have HR := hide (R1.out.later ((b1.trans C1.out).trans (b2.trans c2')))
  have hne : (!(s1 == s2)) = (decide (a < 0) != decide (b < 0)) := by rw [O1.out.sign, O2.out.sign]; rfl
  have HNE := hide hne
  clear x1 x2 c2' hne
  go_wp2_with fail
  rw [← HV2.out]
  have hraw : RawR V2 (.agg #[.bool (!(s1 == s2)), .slice P1 q1 e1, .bool false, .slice P2 q2 e2]) q 3 := rawR_mk (rawI_mk I1.out.own hla) (rawI_mk I2.out.own hlb) (by rw [HNE.out]; exact HQL.out)
  refine (qplain_calls _ _ q 3 hraw (by omega)).mono ?_
  rintro e w3 ⟨v3, rfl, o3, b3⟩
  obtain ⟨s3, P3, q3, e3, P3', q3', e3', rfl, o3⟩ := o3.open_; have O3 := hide o3; clear o3
  clear d1 d2 d3 d4 d5 d6 d7 d8 hraw
  obtain ⟨f1, f2, f3, f4, f5, f6, f7, f8⟩ := row_cells4 (HR.out.later b3)
  have HR3 := hide (HR.out.later b3)
  have hL := k2.out.trans b3
  clear f1 f2 f3 f4 f5 f6 f7 f8
  obtain ⟨f1, f2, f3, f4, f5, f6, f7, f8⟩ := row_cells4 HR3.out
  go_wp2_with fail
  refine bodyPost_ret (results_rat_bool rfl rfl rfl (HR3.out.four _ _ _ _)) rfl ?_
  have oo := Only.four w.heap.size w3 (.bool s3) (.slice P3 q3 e3) (.bool false) (.slice P3' q3' e3')
  exact ⟨_, _, rfl, ⟨(O3.out.only oo (by omega)).weaken (by omega), rfl⟩, hL.only oo (by omega)⟩
end Go.Proofs.YthncinngkfflgaaGreat


/- Facts that hang on some blocks alone; lists of fractions in memory. -/
set_option linter.unusedVariables false
set_option linter.unusedSimpArgs false
namespace Go.Proofs.YthncinngkfflgaaGreat
open Go.RowKit

/-- T stands at w, and wherever some blocks, for which P stands, are as in w -/
def On (w : World) (P : Nat → Prop) (T : World → Prop) : Prop := ∃ F : Nat → Prop, (∀ b, F b → P b ∧ b < w.heap.size) ∧ ∀ W : World, (∀ b, F b → W.heap[b]? = w.heap[b]?) → T W
section
variable {w w' : World} {P P' : Nat → Prop} {T T' : World → Prop}
theorem On.now (h : On w P T) : T w := by obtain ⟨F, h1, h2⟩ := h; exact h2 w fun _ _ => rfl
theorem On.mono (h : On w P T) (hp : ∀ b, P b → b < w.heap.size → P' b) : On w P' T := by
  obtain ⟨F, h1, h2⟩ := h; exact ⟨F, fun b hb => ⟨hp b (h1 b hb).1 (h1 b hb).2, (h1 b hb).2⟩, h2⟩
theorem On.map (h : On w P T) (ht : ∀ W, T W → T' W) : On w P T' := by
  obtain ⟨F, h1, h2⟩ := h; exact ⟨F, h1, fun W hW => ht W (h2 W hW)⟩
theorem On.and (h : On w P T) (k : On w P T') : On w P (fun W => T W ∧ T' W) := by
  obtain ⟨F, h1, h2⟩ := h
  obtain ⟨G, k1, k2⟩ := k
  exact ⟨fun b => F b ∨ G b, fun b hb => hb.elim (h1 b) (k1 b), fun W hW => ⟨h2 W fun b hb => hW b (.inl hb), k2 W fun b hb => hW b (.inr hb)⟩⟩
theorem On.keep (h : On w P T) (hs : w.heap.size ≤ w'.heap.size) (hk : ∀ b, P b → b < w.heap.size → w'.heap[b]? = w.heap[b]?) : On w' P T := by
  obtain ⟨F, h1, h2⟩ := h
  exact ⟨F, fun b hb => ⟨(h1 b hb).1, Nat.lt_of_lt_of_le (h1 b hb).2 hs⟩, fun W hW => h2 W fun b hb => (hW b hb).trans (hk b (h1 b hb).1 (h1 b hb).2)⟩
theorem On.later (h : On w P T) (hb : Later w w') : On w' P T := h.keep hb.size fun b _ hlt => hb.block b hlt
theorem On.only {g : Nat} (h : On w P T) (o : Only g w w') (hg : ¬ P g) : On w' P T := h.keep (by rw [o.size]; exact Nat.le_refl _) fun b hb _ => o.block b (fun e => hg (e ▸ hb))
theorem On.grown {row : Option Nat} (h : On w P T) (hg : w.grownBy w' row) (hr : ∀ b, P b → b < w.heap.size → some b ≠ row) : On w' P T := h.keep hg.size fun b hb hlt => hg.block b hlt (hr b hb hlt)
theorem On.pure (h : ∀ W, T W) : On w P T := ⟨fun _ => False, fun _ hb => hb.elim, fun W _ => h W⟩
theorem On.all {α : Type} {T : α → World → Prop} (l : List α) (h : ∀ x ∈ l, On w P (T x)) : On w P (fun W => ∀ x ∈ l, T x W) := by
  induction l with
  | nil => exact On.pure fun W x hx => by cases hx
  | cons a l ih =>
    refine (On.and (h a (List.mem_cons_self ..)) (ih fun x hx => h x (List.mem_cons_of_mem _ hx))).map fun W ⟨h1, h2⟩ x hx => ?_
    rcases List.mem_cons.1 hx with rfl | hx
    · exact h1
    · exact h2 x hx
theorem On.of_row {g : Nat} {t : TypeId} {cs : List Value} (h : Row w g t cs) (hP : P g) (ht : ∀ W, Row W g t cs → T W) : On w P T :=
  ⟨fun b => b = g, fun b hb => by subst hb; exact ⟨hP, h.lt⟩, fun W hW => ht W ((hW g rfl).trans h)⟩
end

theorem On.own32 {T : TypeId} {w : World} {B : Nat} {v : Value} {l : List Nat} (h : Own32 T w B v l) : On w (fun b => B ≤ b) (fun W => Own32 T W B v l) := by
  obtain ⟨h1, h2, h3⟩ := h
  rcases h3 with h3 | ⟨g, cap, cur, rfl, hb, hg, r⟩
  · exact On.pure fun W => ⟨h1, h2, .inl h3⟩
  · exact On.of_row (cs := cur.toList) (t := T) hg hb fun W hW => ⟨h1, h2, .inr ⟨g, cap, cur, rfl, hb, hW, r⟩⟩
theorem On.ownI {w : World} {B : Nat} {v : Value} {z : Int} (h : OwnI w B v z) : On w (fun b => B ≤ b) (fun W => OwnI W B v z) := by
  obtain ⟨A, n, c, e, h⟩ := h
  exact (On.own32 h).map fun W h => ⟨A, n, c, e, h⟩
theorem On.ownR {w : World} {B : Nat} {v : Value} {q : Rat} (h : OwnR w B v q) : On w (fun b => B ≤ b) (fun W => OwnR W 0 v q) := by
  obtain ⟨A, n, c, A', n', c', e, h1, h2⟩ := h
  exact ((On.own32 h1).and (On.own32 h2)).map fun W h => ⟨A, n, c, A', n', c', e, h.1.weaken (Nat.zero_le _), h.2.weaken (Nat.zero_le _)⟩

theorem cells_agree {w W : World} {A : Option Addr} {xs : List Value} (h : Cells w A xs) (ha : ∀ b, b < w.heap.size → W.heap[b]? = w.heap[b]?) : Cells W A xs := by
  rcases h with rfl | ⟨b, off, rfl, h⟩
  · exact .inl rfl
  · refine .inr ⟨b, off, rfl, fun j u hj => ?_⟩
    have h1 := h j u hj
    have hlt := World.block_lt_of_cell? w _ h1
    exact (World.cell?_of_block (a := ⟨b, off + j, none⟩) (ha b hlt)).trans h1
theorem u32s_agree {w W : World} {v : Value} {l : List Nat} (h : U32s w v l) (ha : ∀ b, b < w.heap.size → W.heap[b]? = w.heap[b]?) : U32s W v l := by
  obtain ⟨h1, A, cap, h2, h3, h4, h5, h6⟩ := h
  exact ⟨h1, A, cap, h2, h3, h4, h5, cells_agree h6 ha⟩
theorem rawI_agree {w W : World} {v : Value} {z : Int} {k : Nat} (h : RawI w v z k) (ha : ∀ b, b < w.heap.size → W.heap[b]? = w.heap[b]?) : RawI W v z k := by
  obtain ⟨n, A, m, c, l, e, h, e', hk⟩ := h; exact ⟨n, A, m, c, l, e, u32s_agree h ha, e', hk⟩
theorem rawR_agree {w W : World} {v : Value} {q : Rat} {k : Nat} (h : RawR w v q k) (ha : ∀ b, b < w.heap.size → W.heap[b]? = w.heap[b]?) : RawR W v q k := by
  obtain ⟨a, A, n, c, b, A', n', c', x, y, e, h1, h2, h3⟩ := h; exact ⟨a, A, n, c, b, A', n', c', x, y, e, rawI_agree h1 ha, rawI_agree h2 ha, h3⟩
/-- what came in hangs on what was there -/
theorem On.rawR {w : World} {v : Value} {q : Rat} {k : Nat} (h : RawR w v q k) : On w (fun b => b < w.heap.size) (fun W => RawR W v q k) :=
  ⟨fun b => b < w.heap.size, fun b hb => ⟨hb, hb⟩, fun W hW => rawR_agree h hW⟩

/-! ### lists of fractions -/
/-- an element's way of standing for a number -/
abbrev Elem := World → Value → Rat → Prop
def ERaw (k : Nat) : Elem := fun w v q => RawR w v q k
def EOwn : Elem := fun w v q => OwnR w 0 v q
/-- a slice that reads as fractions -/
def Rats (E : Elem) (w : World) (v : Value) (l : List Rat) : Prop :=
  ∃ A c, v = .slice A l.length c ∧ l.length ≤ c ∧ c ≤ maxLen ∧ ∀ i q, l[i]? = some q → ∃ b off s A1 n1 c1 s' A2 n2 c2, A = some ⟨b, off, none⟩ ∧ w.cell? ⟨b, off + i * 4, none⟩ = some (.bool s) ∧ w.cell? ⟨b, off + i * 4 + 1, none⟩ = some (.slice A1 n1 c1) ∧
    w.cell? ⟨b, off + i * 4 + 2, none⟩ = some (.bool s') ∧ w.cell? ⟨b, off + i * 4 + 3, none⟩ = some (.slice A2 n2 c2) ∧ E w (.agg #[.bool s, .slice A1 n1 c1, .bool s', .slice A2 n2 c2]) q
theorem Rats.later {E : Elem} (hE : ∀ w w' v q, E w v q → Later w w' → E w' v q) {w w' : World} {v : Value} {l : List Rat} (h : Rats E w v l) (hb : Later w w') : Rats E w' v l := by
  obtain ⟨A, c, e, h1, h2, h3⟩ := h
  refine ⟨A, c, e, h1, h2, fun i q hi => ?_⟩
  obtain ⟨b, off, s, A1, n1, c1, s', A2, n2, c2, ha, x1, x2, x3, x4, hE'⟩ := h3 i q hi
  exact ⟨b, off, s, A1, n1, c1, s', A2, n2, c2, ha, Later.cell hb x1, Later.cell hb x2, Later.cell hb x3, Later.cell hb x4, hE _ _ _ _ hE' hb⟩
theorem ERaw.later {k : Nat} (w w' : World) (v : Value) (q : Rat) (h : ERaw k w v q) (hb : Later w w') : ERaw k w' v q := RawR.later h hb
theorem EOwn.later (w w' : World) (v : Value) (q : Rat) (h : EOwn w v q) (hb : Later w w') : EOwn w' v q := OwnR.later h hb
theorem Rats.map {E E' : Elem} {w : World} {v : Value} {l : List Rat} (h : Rats E w v l) (hE : ∀ v q, q ∈ l → E w v q → E' w v q) : Rats E' w v l := by
  obtain ⟨A, c, e, h1, h2, h3⟩ := h
  refine ⟨A, c, e, h1, h2, fun i q hi => ?_⟩
  obtain ⟨b, off, s, A1, n1, c1, s', A2, n2, c2, ha, x1, x2, x3, x4, hE'⟩ := h3 i q hi
  exact ⟨b, off, s, A1, n1, c1, s', A2, n2, c2, ha, x1, x2, x3, x4, hE _ _ (List.mem_of_getElem? hi) hE'⟩

/-- a fraction's four cells -/
def cells4 (v : Value) : List Value := v.cells.toList
/-- a row of one's own that is being built: its elements hang on other blocks, for which P stands -/
def OutRats (E : Elem) (w : World) (P : Nat → Prop) (lo : Nat) (v : Value) (l : List Rat) : Prop :=
  ∃ es : List (Bool × Value × Bool × Value), es.length = l.length ∧ w.ownsRow lo 37 4 v l.length (es.flatMap fun (e : Bool × Value × Bool × Value) => [.bool e.1, e.2.1, .bool e.2.2.1, e.2.2.2]) ∧
    (∀ e ∈ es, (∃ A n c, e.2.1 = .slice A n c) ∧ (∃ A n c, e.2.2.2 = .slice A n c)) ∧
    On w (fun b => P b ∧ some b ≠ v.ownBlock) (fun W => ∀ (i : Nat) (e : Bool × Value × Bool × Value) (q : Rat), es[i]? = some e → l[i]? = some q → E W (.agg #[.bool e.1, e.2.1, .bool e.2.2.1, e.2.2.2]) q)

theorem OutRats.nil (E : Elem) (w : World) (P : Nat → Prop) (lo : Nat) : OutRats E w P lo (.slice none 0 0) [] :=
  ⟨[], rfl, World.ownsRow_nil w lo _ 4, by simp, On.pure fun W i e q hi => by simp at hi⟩
theorem OutRats.mono {E : Elem} {w : World} {P P' : Nat → Prop} {lo : Nat} {v : Value} {l : List Rat} (h : OutRats E w P lo v l) (hp : ∀ b, P b → b < w.heap.size → P' b) : OutRats E w P' lo v l := by
  obtain ⟨es, h1, h2, h3, h4⟩ := h
  exact ⟨es, h1, h2, h3, h4.mono fun b hb hlt => ⟨hp b hb.1 hlt, hb.2⟩⟩

theorem ownsRow_later {w w' : World} {B size n : Nat} {e : TypeId} {v : Value} {xs : List Value} (h : w.ownsRow B e size v n xs) (hb : Later w w') : w'.ownsRow B e size v n xs := by
  obtain ⟨h2, h3⟩ := h
  refine ⟨h2, ?_⟩
  rcases h3 with h3 | ⟨g, cap, cur, rfl, hb', hg, r⟩
  · exact .inl h3
  · exact .inr ⟨g, cap, cur, rfl, hb', Row.later (cs := cur.toList) hg hb, r⟩
theorem OutRats.later {E : Elem} {w w' : World} {P : Nat → Prop} {lo : Nat} {v : Value} {l : List Rat} (h : OutRats E w P lo v l) (hb : Later w w') : OutRats E w' P lo v l := by
  obtain ⟨es, h1, h2, h3, h4⟩ := h
  exact ⟨es, h1, ownsRow_later h2 hb, h3, h4.later hb⟩
theorem OutRats.only {E : Elem} {w w' : World} {P : Nat → Prop} {lo g : Nat} {v : Value} {l : List Rat} (h : OutRats E w P lo v l) (o : Only g w w') (hg : g < lo) (hP : ¬ P g) : OutRats E w' P lo v l := by
  obtain ⟨es, h1, h2, h3, h4⟩ := h
  exact ⟨es, h1, ownsRow_only h2 o hg, h3, h4.only o fun h => hP h.1⟩

/-- one element more -/
theorem OutRats.snoc {E : Elem} {w W : World} {P : Nat → Prop} {lo : Nat} {v v' : Value} {l : List Rat} {q : Rat} {s s' : Bool} {A A' : Option Addr} {n c n' c' : Nat}
    (es : List (Bool × Value × Bool × Value)) (h1 : es.length = l.length) (h3 : ∀ e ∈ es, (∃ A n c, e.2.1 = .slice A n c) ∧ (∃ A n c, e.2.2.2 = .slice A n c))
    (h4 : On w (fun b => P b ∧ some b ≠ v.ownBlock) (fun W => ∀ (i : Nat) (e : Bool × Value × Bool × Value) (q : Rat), es[i]? = some e → l[i]? = some q → E W (.agg #[.bool e.1, e.2.1, .bool e.2.2.1, e.2.2.2]) q))
    (hown : W.ownsRow lo 37 4 v' (l.length + 1) ((es.flatMap fun (e : Bool × Value × Bool × Value) => [.bool e.1, e.2.1, .bool e.2.2.1, e.2.2.2]) ++ [.bool s, .slice A n c, .bool s', .slice A' n' c']))
    (hg : w.grownBy W v.ownBlock) (hblk : v'.ownBlock = v.ownBlock ∨ v'.ownBlock = some w.heap.size)
    (hx : On w (fun b => P b ∧ some b ≠ v.ownBlock) (fun W => E W (.agg #[.bool s, .slice A n c, .bool s', .slice A' n' c']) q)) : OutRats E W P lo v' (l ++ [q]) := by
  refine ⟨es ++ [(s, .slice A n c, s', .slice A' n' c')], by simp [h1], by rw [List.length_append, List.flatMap_append]; exact hown, ?_, ?_⟩
  · intro e he
    rcases List.mem_append.1 he with he | he
    · exact h3 e he
    · simp at he; subst he; exact ⟨⟨_, _, _, rfl⟩, ⟨_, _, _, rfl⟩⟩
  · have h5 := (h4.and hx).grown hg (fun b hb _ => hb.2)
    have h6 : On W (fun b => P b ∧ some b ≠ v'.ownBlock) _ := (by
      obtain ⟨F, f1, f2⟩ := h4.and hx
      refine ⟨F, fun b hb => ⟨⟨(f1 b hb).1.1, ?_⟩, Nat.lt_of_lt_of_le (f1 b hb).2 hg.size⟩, fun W' hW' => f2 W' fun b hb => (hW' b hb).trans (hg.block b (f1 b hb).2 (f1 b hb).1.2)⟩
      rcases hblk with e | e
      · rw [e]; exact (f1 b hb).1.2
      · rw [e]; intro e2; injection e2 with e2; have := (f1 b hb).2; omega)
    refine h6.map fun W' ⟨k1, k2⟩ i e q' hi hq => ?_
    by_cases hlt : i < es.length
    · rw [List.getElem?_append_left hlt] at hi
      rw [List.getElem?_append_left (by omega)] at hq
      exact k1 i e q' hi hq
    · by_cases he : i = es.length
      · subst he
        rw [List.getElem?_append_right (Nat.le_refl _), Nat.sub_self] at hi
        rw [h1, List.getElem?_append_right (Nat.le_refl _), Nat.sub_self] at hq
        simp at hi hq
        subst hi hq
        exact k2
      · rw [List.getElem?_eq_none (by simp; omega)] at hi; cases hi

theorem flat4_get (es : List (Bool × Value × Bool × Value)) (i j : Nat) (hj : j < 4) (e : Bool × Value × Bool × Value) (hi : es[i]? = some e) :
    (es.flatMap fun e => [Value.bool e.1, e.2.1, Value.bool e.2.2.1, e.2.2.2])[i * 4 + j]? = [Value.bool e.1, e.2.1, Value.bool e.2.2.1, e.2.2.2][j]? := by
  induction es generalizing i with
  | nil => simp at hi
  | cons a es ih =>
    rw [List.flatMap_cons]
    cases i with
    | zero =>
      simp at hi; subst hi
      rw [Nat.zero_mul, Nat.zero_add, List.getElem?_append_left (by simpa using hj)]
    | succ i =>
      have h1 := ih i (by simpa using hi)
      rw [List.getElem?_append_right (by simp; omega)]
      rw [← h1]; congr 1; simp; omega

/-- what was built reads as its numbers -/
theorem OutRats.rats {E : Elem} {w : World} {P : Nat → Prop} {lo : Nat} {v : Value} {l : List Rat} (h : OutRats E w P lo v l) : On w (fun b => P b ∨ lo ≤ b) (fun W => Rats E W v l) := by
  obtain ⟨es, h1, ⟨h2, h2'⟩, h3, h4⟩ := h
  rcases h2' with ⟨rfl, h0⟩ | ⟨g, cap, cur, rfl, hb, hg, hn, hm, hs, ht⟩
  · have : l = [] := List.eq_nil_of_length_eq_zero h0
    subst this
    exact On.pure fun W => ⟨none, 0, rfl, by simp, by simp, fun i q hi => by simp at hi⟩
  · have hrow : Row w g 37 cur.toList := by unfold Row; simpa using hg
    have h5 : On w (fun b => P b ∨ lo ≤ b) (fun W => Row W g 37 cur.toList) := On.of_row hrow (.inr hb) fun W hW => hW
    refine (h5.and (h4.mono fun b hb _ => .inl hb.1)).map fun W ⟨hr, he⟩ => ?_
    refine ⟨some ⟨g, 0, none⟩, cap, rfl, hn, hm, fun i q hi => ?_⟩
    have hil : i < es.length := by rw [h1]; exact (List.getElem?_eq_some_iff.1 hi).1
    obtain ⟨e, hee⟩ : ∃ e, es[i]? = some e := ⟨es[i], List.getElem?_eq_getElem hil⟩
    obtain ⟨⟨A1, n1, c1, e1⟩, ⟨A2, n2, c2, e2⟩⟩ := h3 e (List.mem_of_getElem? hee)
    have hcell : ∀ j, j < 4 → ∀ u, [Value.bool e.1, e.2.1, Value.bool e.2.2.1, e.2.2.2][j]? = some u → W.cell? ⟨g, 0 + i * 4 + j, none⟩ = some u := fun j hj u hu => by
      rw [Nat.zero_add]
      refine hr.cell ?_
      rw [← flat4_get es i j hj e hee, ← ht, List.getElem?_take] at hu
      split at hu
      · exact hu
      · cases hu
    refine ⟨g, 0, e.1, A1, n1, c1, e.2.2.1, A2, n2, c2, rfl, hcell 0 (by omega) _ rfl, hcell 1 (by omega) _ (by simp [e1]), hcell 2 (by omega) _ rfl, hcell 3 (by omega) _ (by simp [e2]), ?_⟩
    have := he i e q hee hi
    rw [e1, e2] at this; exact this

/-- a list of plain fractions, all of it from block B on -/
def OwnRats (w : World) (B : Nat) (v : Value) (l : List Rat) : Prop := On w (fun b => B ≤ b) (fun W => Rats EOwn W v l)
theorem OwnRats.later {w w' : World} {B : Nat} {v : Value} {l : List Rat} (h : OwnRats w B v l) (hb : Later w w') : OwnRats w' B v l := On.later h hb
theorem OwnRats.weaken {w : World} {B C : Nat} {v : Value} {l : List Rat} (h : OwnRats w B v l) (hC : C ≤ B) : OwnRats w C v l := On.mono h fun b hb _ => Nat.le_trans hC hb
theorem OwnRats.only {w w' : World} {B g : Nat} {v : Value} {l : List Rat} (h : OwnRats w B v l) (o : Only g w w') (hg : g < B) : OwnRats w' B v l := On.only h o (by omega)
end Go.Proofs.YthncinngkfflgaaGreat


/- append of a fraction to a row of one's own. -/
set_option linter.unusedVariables false
set_option linter.unusedSimpArgs false
namespace Go.Proofs.YthncinngkfflgaaGreat
open Go.RowKit

theorem info_rat : (Tryz.prog.info? 37).map (fun i => (i.zero, i.size, i.bytes)) = some (some (.agg #[.bool false, .slice none 0 0, .bool false, .slice none 0 0]), 4, 64) := by kernel_rfl

theorem Later.grownBy {w w' : World} (h : Later w w') (row : Option Nat) : w.grownBy w' row := ⟨h.os, h.tape, h.output, h.size, fun b hb _ => h.block b hb⟩
theorem OutRats.lt {E : Elem} {w : World} {P : Nat → Prop} {lo : Nat} {v : Value} {l : List Rat} (h : OutRats E w P lo v l) : ∀ k, v.ownBlock = some k → lo ≤ k ∧ k < w.heap.size := by
  obtain ⟨es, h1, h2, -⟩ := h; exact World.ownsRow.lt h2

section
variable {w : World} {o : Oper} {a : Act} {K : Act → World → Prop} {Q : Exit → Act → World → Prop}
theorem wp_append_own_ {P : Program} (s x : Operand) (t : TypeId)
    (ho : o.op = .call { callee := .builtin .append, args := #[s, x], argTypes := #[t, t] })
    (base : Nat) (e : TypeId) (z : Value) (size bytes : Nat) (ht : P.underlying t = some (.slice e)) (hinfo : (P.info? e).map (fun i => (i.zero, i.size, i.bytes)) = some (some z, size, bytes))
    (hzs : z.cells.size = size) (hsz : 0 < size) (hby : bytes ≤ 1024)
    (v : Value) (n : Nat) (xs : List Value) (hs : a.eval s = v) (hown : w.ownsRow base e size v n xs)
    (ad : Addr) (m c : Nat) (news : List Value) (hx : a.eval x = .slice (some ad) m c) (hl : news.length = m * size) (hnews : ∀ j u, news[j]? = some u → w.cell? (ad.add j) = some u) (h1 : ∀ u ∈ news, u.oneCell' = true)
    (hnm : n + m ≤ 4000000000) (hbase : base ≤ w.heap.size)
    (h : ∀ v' w', w'.ownsRow base e size v' (n + m) (xs ++ news) → w.grownBy w' v.ownBlock → (v'.ownBlock = v.ownBlock ∨ v'.ownBlock = some w.heap.size) → K (a.put o.dst v') w') : o.wp P a w K Q := by
  obtain ⟨i, hi, hz0, hz1, hz2⟩ := info_parts hinfo
  have h5 : (n + m) * bytes ≤ 4000000000 * 1024 := Nat.mul_le_mul hnm hby
  obtain ⟨v', w', hr, h2, h3, h4, h5⟩ := run_append_own_at (P := P) w base t o.type e i z size bytes ht hi hz0 hz1 hz2 hzs hsz v n xs hown ad m c news hl hnews h1 (by unfold maxLen; omega) (by omega) hbase
  unfold Oper.wp execOp
  simp only [ho, resolve, invoke, builtin, Sem.run_bind, Sem.run_pure, Result.andThen_ok, List.map_toArray, List.map_cons, List.map_nil, hs, hx, hr]
  exact h v' w' h2 h3 h5

theorem wp_append_rat (s x : Operand) (ho : o.op = .call { callee := .builtin .append, args := #[s, x], argTypes := #[23, 23] })
    {E : Elem} {P : Nat → Prop} {lo : Nat} {v : Value} {l : List Rat} {g : Nat} {q : Rat} {t t' : Bool} {A A' : Option Addr} {n c n' c' : Nat} (hs : a.eval s = v) (hown : OutRats E w P lo v l)
    (hx : a.eval x = .slice (some ⟨g, 0, none⟩) 1 1) (hrow : Row w g 37 [.bool t, .slice A n c, .bool t', .slice A' n' c'])
    (hel : On w (fun b => P b ∧ some b ≠ v.ownBlock) (fun W => E W (.agg #[.bool t, .slice A n c, .bool t', .slice A' n' c']) q)) (hlen : l.length ≤ 3000000000) (hbase : lo ≤ w.heap.size)
    (h : ∀ v' w', OutRats E w' P lo v' (l ++ [q]) → w.grownBy w' v.ownBlock → K (a.put o.dst v') w') : o.wp Tryz.prog a w K Q := by
  obtain ⟨es, h1, h2, h3, h4⟩ := hown
  refine wp_append_own_ s x _ ho lo 37 _ 4 64 Tryz.underlying23 info_rat rfl (by omega) (by omega) v l.length _ hs h2 ⟨g, 0, none⟩ 1 1 [.bool t, .slice A n c, .bool t', .slice A' n' c'] hx rfl (fun j u hj => by rw [Go.WideShapes.add_plain, Nat.zero_add]; exact hrow.cell hj) (by simp [Value.oneCell']) (by omega) hbase ?_
  intro v' w' k1 k2 k3
  exact h v' w' (OutRats.snoc es h1 h3 h4 k1 k2 k3 hel) k2
end
theorem wpList_append_rat {w : World} {ops : Array Oper} {rest : List Oper} {o : Oper} {a : Act} {Q : Exit → Act → World → Prop} (hgd : o.guard = none) (s x : Operand) (ho : o.op = .call { callee := .builtin .append, args := #[s, x], argTypes := #[23, 23] })
    {E : Elem} {P : Nat → Prop} {lo : Nat} {v : Value} {l : List Rat} {g : Nat} {q : Rat} {t t' : Bool} {A A' : Option Addr} {n c n' c' : Nat} (hs : a.eval s = v) (hown : OutRats E w P lo v l)
    (hx : a.eval x = .slice (some ⟨g, 0, none⟩) 1 1) (hrow : Row w g 37 [.bool t, .slice A n c, .bool t', .slice A' n' c'])
    (hel : On w (fun b => P b ∧ some b ≠ v.ownBlock) (fun W => E W (.agg #[.bool t, .slice A n c, .bool t', .slice A' n' c']) q)) (hlen : l.length ≤ 3000000000) (hbase : lo ≤ w.heap.size)
    (h : ∀ v' w', OutRats E w' P lo v' (l ++ [q]) → w.grownBy w' v.ownBlock → wpList Tryz.prog ops Q rest (a.put o.dst v') w') : wpList Tryz.prog ops Q (o :: rest) a w :=
  wpList_plain hgd fun K hK => wp_append_rat s x ho hs hown hx hrow hel hlen hbase fun v' w' h1 h2 => hK _ _ (h v' w' h1 h2)

/-- what a callee made is apart from a row that was there -/
theorem On.made {W : World} {lo B : Nat} {v : Value} {T : World → Prop} (h : On W (fun b => B ≤ b) T) (hlo : lo ≤ B) (hv : ∀ k, v.ownBlock = some k → k < B) : On W (fun b => lo ≤ b ∧ some b ≠ v.ownBlock) T :=
  h.mono fun b hb _ => ⟨Nat.le_trans hlo hb, fun e => by have := hv b e.symm; omega⟩
/-- the cells of an element -/
theorem Rats.at_ {E : Elem} {w : World} {A : Option Addr} {n c : Nat} {l : List Rat} (h : Rats E w (.slice A n c) l) {i : Nat} {q : Rat} (hi : l[i]? = some q) :
    ∃ b off s A1 n1 c1 s' A2 n2 c2, A = some ⟨b, off, none⟩ ∧ w.cell? ⟨b, off + i * 4, none⟩ = some (.bool s) ∧ w.cell? ⟨b, off + i * 4 + 1, none⟩ = some (.slice A1 n1 c1) ∧
    w.cell? ⟨b, off + i * 4 + 2, none⟩ = some (.bool s') ∧ w.cell? ⟨b, off + i * 4 + 3, none⟩ = some (.slice A2 n2 c2) ∧ E w (.agg #[.bool s, .slice A1 n1 c1, .bool s', .slice A2 n2 c2]) q := by
  obtain ⟨A', c', e, -, -, h3⟩ := h
  injection e with e1 e2 e3
  subst e1
  exact h3 i q hi
theorem Rats.form {E : Elem} {w : World} {v : Value} {l : List Rat} (h : Rats E w v l) : ∃ A n c, v = .slice A n c ∧ n = l.length ∧ n ≤ c ∧ c ≤ maxLen ∧ Rats E w (.slice A n c) l := by
  obtain ⟨A, c, rfl, h1, h2, h3⟩ := id h
  exact ⟨A, _, c, rfl, rfl, h1, h2, h⟩
end Go.Proofs.YthncinngkfflgaaGreat
