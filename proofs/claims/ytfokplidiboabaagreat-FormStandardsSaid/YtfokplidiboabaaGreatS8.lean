/- The reference's whole numbers: Cmp, Add, Sub, Same. -/
import Derived.Test.YtfokplidiboabaaGreatS7
import Derived.OrdersHeld
import Derived.Deep.RegionHeld3
import Derived.Test.YtfokplidiboabaaGreatS1
set_option linter.unusedVariables false
set_option linter.unusedSimpArgs false
set_option maxRecDepth 100000
namespace Go.Proofs.YtfokplidiboabaaGreat
open Go.RowKit
attribute [local go_sem ↓] Go.wp_at_zero Go.wp_at_succ
set_option maxHeartbeats 2000000 in
theorem zcmp_calls (w : World) (va vb : Value) (x y : Int) (k m : Nat) (hx : RawI w va x k) (hy : RawI w vb y m) (hk : k <= 200000000) (hm : m <= 200000000) :
 Calls Tryz.prog 90 #[va, vb] w (RetV w (.int .i64 (cmpZ x y))) := by
 have hlx := hx.limbs_le; have hly := hy.limbs_le
 obtain ⟨c, hc⟩ : ∃ c, cmpZ x y = c := ⟨_, rfl⟩
 rw [hc]
 have HC := hide hc
 clear hc
 have HX := hide hx; have HY := hide hy
 obtain ⟨n1, A1, m1, c1, rfl⟩ := hx.open_
 obtain ⟨n2, A2, m2, c2, rfl⟩ := hy.open_
 clear hx hy
 go_enter Tryz.func90, Tryz.ntmps90
 go_wp2_with fail
 obtain ⟨W0, hW0⟩ : ∃ W0, W0 = ((w.alloc (Obj.cells #[Value.bool n1, Value.slice A1 m1 c1] 34)).alloc (Obj.cells #[Value.bool n2, Value.slice A2 m2 c2] 34)) := ⟨_, rfl⟩
 obtain ⟨hb0, r1, r2, hsz⟩ := boxes2 w [.bool n1, .slice A1 m1 c1] [.bool n2, .slice A2 m2 c2] 34 34 hW0
 rw [<- hW0]
 have R2 := hide r2; have B0 := hide hb0
 clear hW0 r1 r2 hb0
 refine (zplain_calls _ _ x k (HX.out.later B0.out) (by omega)).mono ?_
 rintro e w1 ⟨v1, rfl, o1, b1⟩
 obtain ⟨s1, P1, q1, e1, rfl, o1⟩ := o1.open_
 have O1 := hide o1; clear o1
 obtain ⟨d5, d6, d7, d8⟩ := row_cells2 (R2.out.later (b1.alloc (Obj.cells #[Value.bool s1, Value.slice P1 q1 e1] 34)))
 have hs1 := b1.size
 go_wp2_with fail
 obtain ⟨V1, hV1⟩ : ∃ V1, V1 = w1.alloc (Obj.cells #[Value.bool s1, Value.slice P1 q1 e1] 34) := ⟨_, rfl⟩
 have c1' : Later w1 V1 := by rw [hV1]; exact (Later.refl w1).alloc _
 have r5 : Row V1 w1.heap.size 34 [.bool s1, .slice P1 q1 e1] := by rw [hV1]; exact Row.new w1 _ _
 have hsV1 : V1.heap.size = w1.heap.size + 1 := by rw [hV1]; simp
 rw [<- hV1]
 have R5 := hide r5; have C1 := hide c1'
 clear hV1 r5 c1' d5 d6 d7 d8
 refine (zplain_calls _ _ y m (HY.out.later (B0.out.trans (b1.trans C1.out))) (by omega)).mono ?_
 rintro e w2 ⟨v2, rfl, o2, b2⟩
 obtain ⟨s2, P2, q2, e2, rfl, o2⟩ := o2.open_
 have O2 := hide o2; clear o2
 obtain ⟨d1, d2, d3, d4⟩ := row_cells2 (R5.out.later (b2.alloc (Obj.cells #[Value.bool s2, Value.slice P2 q2 e2] 34)))
 have hs2 := b2.size
 have hL := (B0.out.trans (b1.trans C1.out)).trans b2
 have HS1 := hide O1.out.sign; have HS2 := hide O2.out.sign
 have OX : Hid (U32s (w2.alloc (Obj.cells #[Value.bool s2, Value.slice P2 q2 e2] 34)) (.slice P1 q1 e1) (limbs x.natAbs)) := hide (((O1.out.own.reads.later C1.out).later b2).later ((Later.refl _).alloc _))
 have OY : Hid (U32s (w2.alloc (Obj.cells #[Value.bool s2, Value.slice P2 q2 e2] 34)) (.slice P2 q2 e2) (limbs y.natAbs)) := hide (O2.out.own.reads.later ((Later.refl _).alloc _))
 have hL2 := Later.alloc hL (Obj.cells #[Value.bool s2, Value.slice P2 q2 e2] 34)
 by_cases hx0 : x < 0
 ·have e1 : s1 = true := by rw [HS1.out]; simpa using hx0
  subst e1
  by_cases hy0 : y < 0
  ·have e2 : s2 = true := by rw [HS2.out]; simpa using hy0
   subst e2
   have hcn : cmpN x.natAbs y.natAbs = -c := by rw [<- HC.out]; unfold cmpN cmpZ; (repeat' split) <;> omega
   have HCN := hide hcn
   have hcb : -1 <= c /\ c <= 1 := by rw [<- HC.out]; unfold cmpZ; (repeat' split) <;> omega
   obtain ⟨hc1, hc2⟩ := hcb
   clear hcn
   go_wp2_with fail
   refine (rcmpN_calls _ _ _ (limbs x.natAbs) (limbs y.natAbs) OX.out OY.out (by omega) (by omega) (-c) (by rw [val_limbs, val_limbs]; exact HCN.out)).mono ?_
   rintro e w3 ⟨rfl, b3⟩
   obtain ⟨g1, g2, g3, g4⟩ := row_cells2 ((R5.out.later (b2.alloc _)).later b3)
   go_wp2_with fail
   go_ret
   exact ⟨by simp, hL2.trans b3⟩
  ·have e2 : s2 = false := by rw [HS2.out]; simpa using hy0
   subst e2
   have hcn : c = -1 := by rw [<- HC.out]; unfold cmpZ; rw [if_pos (by omega)]
   have HCN := hide hcn
   clear hcn
   go_wp2_with fail
   go_ret
   exact ⟨by rw [HCN.out]; rfl, hL2⟩
 ·have e1 : s1 = false := by rw [HS1.out]; simpa using hx0
  subst e1
  by_cases hy0 : y < 0
  ·have e2 : s2 = true := by rw [HS2.out]; simpa using hy0
   subst e2
   have hcn : c = 1 := by rw [<- HC.out]; unfold cmpZ; rw [if_neg (by omega), if_pos (by omega)]
   have HCN := hide hcn
   clear hcn
   go_wp2_with fail
   go_ret
   exact ⟨by rw [HCN.out]; rfl, hL2⟩
  ·have e2 : s2 = false := by rw [HS2.out]; simpa using hy0
   subst e2
   have hcn : cmpN x.natAbs y.natAbs = c := by rw [<- HC.out]; unfold cmpN cmpZ; (repeat' split) <;> omega
   have HCN := hide hcn
   clear hcn
   go_wp2_with fail
   refine (rcmpN_calls _ _ _ (limbs x.natAbs) (limbs y.natAbs) OX.out OY.out (by omega) (by omega) c (by rw [val_limbs, val_limbs]; exact HCN.out)).mono ?_
   rintro e w3 ⟨rfl, b3⟩
   obtain ⟨g1, g2, g3, g4⟩ := row_cells2 ((R5.out.later (b2.alloc _)).later b3)
   go_wp2_with fail
   go_ret
   exact ⟨rfl, hL2.trans b3⟩
end Go.Proofs.YtfokplidiboabaaGreat
namespace Go.Proofs.YtfokplidiboabaaGreat
open Go.RowKit Go.Shelf
attribute [local go_sem ↓] Go.wp_at_zero Go.wp_at_succ
theorem sum_same {x y : Int} {s : Bool} (h1 : s = decide (x < 0)) (h2 : s = decide (y < 0)) : sgn s (x.natAbs + y.natAbs) = x + y := by
 cases s
 ·have a : ¬ x < 0 := by simpa using h1.symm
  have b : ¬ y < 0 := by simpa using h2.symm
  simp [sgn]; omega
 ·have a : x < 0 := by simpa using h1.symm
  have b : y < 0 := by simpa using h2.symm
  simp [sgn]; omega
theorem sum_more {x y : Int} {s t : Bool} (h1 : s = decide (x < 0)) (h2 : t = decide (y < 0)) (h : s ≠ t) (hl : y.natAbs <= x.natAbs) : sgn s (x.natAbs - y.natAbs) = x + y := by
 cases s
 ·have a : ¬ x < 0 := by simpa using h1.symm
  cases t
  ·exact absurd rfl h
  ·have b : y < 0 := by simpa using h2.symm
   simp [sgn]; omega
 ·have a : x < 0 := by simpa using h1.symm
  cases t
  ·have b : ¬ y < 0 := by simpa using h2.symm
   simp [sgn]; omega
  ·exact absurd rfl h
set_option maxHeartbeats 4000000 in
theorem zadd_calls (w : World) (va vb : Value) (x y : Int) (k m : Nat) (hx : RawI w va x k) (hy : RawI w vb y m) (hk : k <= 90000000) (hm : m <= 90000000) :
 Calls Tryz.prog 93 #[va, vb] w (Ret w fun w' v => OwnI w' w.heap.size v (x + y)) := by
 have hlx := hx.limbs_le; have hly := hy.limbs_le
 obtain ⟨z, hz⟩ : ∃ z, z = x + y := ⟨_, rfl⟩
 rw [<- hz]
 have HX := hide hx; have HY := hide hy; have HZ := hide hz
 obtain ⟨n1, A1, m1, c1, rfl⟩ := hx.open_
 obtain ⟨n2, A2, m2, c2, rfl⟩ := hy.open_
 clear hx hy hz
 go_enter Tryz.func93, Tryz.ntmps93
 go_wp2_with fail
 obtain ⟨W0, hW0⟩ : ∃ W0, W0 = (((w.alloc (Obj.cells #[Value.bool n1, Value.slice A1 m1 c1] 34)).alloc (Obj.cells #[Value.bool n2, Value.slice A2 m2 c2] 34)).alloc (Obj.cells #[Value.bool false, Value.slice none 0 0] 34)) := ⟨_, rfl⟩
 obtain ⟨hb0, r1, r2, r3, hsz⟩ := boxes3 w [.bool n1, .slice A1 m1 c1] [.bool n2, .slice A2 m2 c2] [.bool false, .slice none 0 0] 34 34 34 hW0
 rw [<- hW0]
 have R2 := hide r2; have R3 := hide r3; have B0 := hide hb0
 clear hW0 r1 r2 r3 hb0
 refine (zplain_calls _ _ x k (HX.out.later B0.out) (by omega)).mono ?_
 rintro e w1 ⟨v1, rfl, o1, b1⟩
 obtain ⟨s1, P1, q1, e1, rfl, o1⟩ := o1.open_; have O1 := hide o1; clear o1
 obtain ⟨d5, d6, d7, d8⟩ := row_cells2 (R2.out.later (b1.alloc (Obj.cells #[Value.bool s1, Value.slice P1 q1 e1] 34)))
 have hs1 := b1.size
 go_wp2_with fail
 obtain ⟨V1, hV1⟩ : ∃ V1, V1 = w1.alloc (Obj.cells #[Value.bool s1, Value.slice P1 q1 e1] 34) := ⟨_, rfl⟩
 have c1' : Later w1 V1 := by rw [hV1]; exact (Later.refl w1).alloc _
 have r5 : Row V1 w1.heap.size 34 [.bool s1, .slice P1 q1 e1] := by rw [hV1]; exact Row.new w1 _ _
 have hsV1 : V1.heap.size = w1.heap.size + 1 := by rw [hV1]; simp
 rw [<- hV1]
 have R5 := hide r5; have C1 := hide c1'
 clear hV1 r5 c1' d5 d6 d7 d8
 refine (zplain_calls _ _ y m (HY.out.later (B0.out.trans (b1.trans C1.out))) (by omega)).mono ?_
 rintro e w2 ⟨v2, rfl, o2, b2⟩
 obtain ⟨s2, P2, q2, e2, rfl, o2⟩ := o2.open_; have O2 := hide o2; clear o2
 have hs2 := b2.size
 have HS1 := hide O1.out.sign; have HS2 := hide O2.out.sign
 obtain ⟨V2, hV2⟩ : ∃ V2, V2 = w2.alloc (Obj.cells #[Value.bool s2, Value.slice P2 q2 e2] 34) := ⟨_, rfl⟩
 have c2' : Later w2 V2 := by rw [hV2]; exact (Later.refl w2).alloc _
 have r6 : Row V2 w2.heap.size 34 [.bool s2, .slice P2 q2 e2] := by rw [hV2]; exact Row.new w2 _ _
 have hsV2 : V2.heap.size = w2.heap.size + 1 := by rw [hV2]; simp
 have r5 := R5.out.later (b2.trans c2')
 have OX : Hid (U32s V2 (.slice P1 q1 e1) (limbs x.natAbs)) := hide (((O1.out.own.reads.later C1.out).later b2).later c2')
 have OY : Hid (U32s V2 (.slice P2 q2 e2) (limbs y.natAbs)) := hide (O2.out.own.reads.later c2')
 have hL := ((B0.out.trans (b1.trans C1.out)).trans b2).trans c2'
 have r3 := R3.out.later (((b1.trans C1.out).trans b2).trans c2')
 have R3 := hide r3; have R5 := hide r5; have R6 := hide r6
 obtain ⟨d1, d2, d3, d4⟩ := row_cells2 r5
 obtain ⟨d5, d6, d7, d8⟩ := row_cells2 r6
 rw [hV2] at d1 d2 d3 d4 d5 d6 d7 d8
 have HV2 := hide hV2
 clear r3 r5 r6 c2' hV2
 by_cases hsame : s1 = s2
 ·subst hsame
  have hzz : sgn s1 (x.natAbs + y.natAbs) = z := by rw [HZ.out]; exact sum_same HS1.out HS2.out
  have hln : (limbs (x.natAbs + y.natAbs)).length <= k + m + 1 := limbs_add_len hlx hly
  have HZZ := hide hzz; have HLN := hide hln
  clear hzz hln
  go_upto_region 4 with fail
  rw [<- HV2.out]
  clear d1 d2 d3 d4 d5 d6 d7 d8
  have r5 := R5.out.drew; have r6 := R6.out.drew
  have HT1 : Hid (∀ w', Later V2.drew w' -> w'.cell? ⟨w1.heap.size, 0, none⟩ = some (.bool s1) /\ w'.cell? ⟨w1.heap.size, 1, none⟩ = some (.slice P1 q1 e1) /\ w'.cell? ⟨w2.heap.size, 0, none⟩ = some (.bool s1) /\ w'.cell? ⟨w2.heap.size, 1, none⟩ = some (.slice P2 q2 e2)) :=
   hide fun w' hb => ⟨(r5.later hb).cell rfl, (r5.later hb).cell rfl, (r6.later hb).cell rfl, (r6.later hb).cell rfl⟩
  have HT2 : Hid (∀ w' a_ b_, Later V2.drew w' -> ((w'.setCell ⟨w.heap.size + 2, 0, none⟩ a_).setCell ⟨w.heap.size + 2, 1, none⟩ b_).cell? ⟨w1.heap.size, 0, none⟩ = some (.bool s1) /\ ((w'.setCell ⟨w.heap.size + 2, 0, none⟩ a_).setCell ⟨w.heap.size + 2, 1, none⟩ b_).cell? ⟨w1.heap.size, 1, none⟩ = some (.slice P1 q1 e1) /\ ((w'.setCell ⟨w.heap.size + 2, 0, none⟩ a_).setCell ⟨w.heap.size + 2, 1, none⟩ b_).cell? ⟨w2.heap.size, 0, none⟩ = some (.bool s1) /\ ((w'.setCell ⟨w.heap.size + 2, 0, none⟩ a_).setCell ⟨w.heap.size + 2, 1, none⟩ b_).cell? ⟨w2.heap.size, 1, none⟩ = some (.slice P2 q2 e2)) :=
   hide fun w' a_ b_ hb => ⟨((r5.later hb).far2 (by omega) a_ b_).cell rfl, ((r5.later hb).far2 (by omega) a_ b_).cell rfl, ((r6.later hb).far2 (by omega) a_ b_).cell rfl, ((r6.later hb).far2 (by omega) a_ b_).cell rfl⟩
  clear r5 r6
  have hb1d : Hid (Later V2 V2.drew) := hide (Later.refl V2).drew
  have hszd : V2.drew.heap.size = w2.heap.size + 1 := hsV2
  go_region_held3 (fun w' => w'.cell? ⟨w1.heap.size, 0, none⟩ = some (.bool s1) /\ w'.cell? ⟨w1.heap.size, 1, none⟩ = some (.slice P1 q1 e1) /\ w'.cell? ⟨w2.heap.size, 0, none⟩ = some (.bool s1) /\ w'.cell? ⟨w2.heap.size, 1, none⟩ = some (.slice P2 q2 e2))
   (first | exact HT1.out _ (Later.refl _) | exact HT1.out _ b3 | exact HT1.out _ (b3.trans b4) | exact HT2.out _ _ _ (b3.trans b4))
   (first
    | ((with_reducible refine (rnadd_calls _ _ _ (limbs x.natAbs) (limbs y.natAbs) (OX.out.later hb1d.out) (OY.out.later hb1d.out) (by omega) (by omega)).mono ?_); rintro e w3 ⟨v3, rfl, o3, b3⟩; rw [val_limbs, val_limbs] at o3; obtain ⟨P3, q3, e3, rfl, o3, -⟩ := o3.open_; have O3 := hide o3; clear o3)
    | ((with_reducible refine (zplain_calls _ _ (sgn s1 (x.natAbs + y.natAbs)) (k+m+1) (rawI_mk O3.out HLN.out) (by omega)).mono ?_); rintro e w4 ⟨v4, rfl, o4, b4⟩; rw [HZZ.out] at o4; obtain ⟨s4, P4, q4, e4, rfl, o4⟩ := o4.open_; have O4 := hide o4; clear o4; obtain ⟨f1, f2, f3, f4⟩ := row_cells2 (R3.out.later (hb1d.out.trans (b3.trans b4)))))
  have hLL := hL.trans (hb1d.out.trans (b3.trans b4))
  have HR := hide (R3.out.later (hb1d.out.trans (b3.trans b4)))
  have hs3 := b3.size; have hs4 := b4.size
  clear f1 f2 f3 f4
  go_wp2_with fail
  refine bodyPost_ret (results_int rfl rfl (HR.out.two _ _)) rfl ?_
  have oo := Only.two (w.heap.size + 2) w4 (.bool s4) (.slice P4 q4 e4)
  exact ⟨_, rfl, (O4.out.only oo (by omega)).weaken (by omega), hLL.only oo (by omega)⟩
 ·have ht : (s1 == s2) = false := by simpa using hsame
  obtain ⟨c, hc⟩ : ∃ c, cmpN x.natAbs y.natAbs = c := ⟨_, rfl⟩
  have HC := hide hc
  have hcase : (y.natAbs <= x.natAbs /\ 0 <= c) ∨ (x.natAbs < y.natAbs /\ c < 0) := by
   rw [<- hc]; unfold cmpN
   by_cases h : x.natAbs < y.natAbs
   ·right; rw [if_pos h]; omega
   ·left; rw [if_neg h]; refine ⟨by omega, ?_⟩; split <;> omega
  have HNE := hide hsame
  clear hc hsame
  go_upto_region 5 with fail
  rw [<- HV2.out]
  clear d1 d2 d3 d4 d5 d6 d7 d8
  obtain ⟨d1, d2, d3, d4⟩ := row_cells2 R5.out
  obtain ⟨d5, d6, d7, d8⟩ := row_cells2 R6.out
  go_wp2_with fail
  refine (rcmpN_calls _ _ _ (limbs x.natAbs) (limbs y.natAbs) OX.out OY.out (by omega) (by omega) c (by rw [val_limbs, val_limbs]; exact HC.out)).mono ?_
  rintro e w3 ⟨rfl, b3⟩
  have hs3 := b3.size
  clear d1 d2 d3 d4 d5 d6 d7 d8
  obtain ⟨d1, d2, d3, d4⟩ := row_cells2 (R5.out.later b3)
  obtain ⟨d5, d6, d7, d8⟩ := row_cells2 (R6.out.later b3)
  rcases hcase with ⟨hle, hc0⟩ | ⟨hlt, hc0⟩
  ·have t1 : decide (0 <= c) = true := by simpa using hc0
   have hzz : sgn s1 (x.natAbs - y.natAbs) = z := by rw [HZ.out]; exact sum_more HS1.out HS2.out HNE.out hle
   have hln : (limbs (x.natAbs - y.natAbs)).length <= k := Nat.le_trans (length_limbs_mono (Nat.sub_le _ _)) hlx
   have HZZ := hide hzz; have HLN := hide hln
   clear hzz hln
   go_wp2_with fail
   refine (rnsub_calls _ _ _ (limbs x.natAbs) (limbs y.natAbs) (OX.out.later b3) (OY.out.later b3) (by omega) (by omega) (by rw [val_limbs, val_limbs]; exact hle)).mono ?_
   rintro e w4 ⟨v4, ok, rfl, ⟨o4, rfl⟩, b4⟩
   rw [val_limbs, val_limbs] at o4
   obtain ⟨P4, q4, e4, rfl, o4, -⟩ := o4.open_
   have O4 := hide o4; clear o4
   have hs4 := b4.size
   clear d1 d2 d3 d4 d5 d6 d7 d8
   obtain ⟨d1, d2, d3, d4⟩ := row_cells2 (R5.out.later (b3.trans b4))
   go_wp2_with fail
   refine (zplain_calls _ _ (sgn s1 (x.natAbs - y.natAbs)) k (rawI_mk O4.out HLN.out) (by omega)).mono ?_
   rintro e w5 ⟨v5, rfl, o5, b5⟩
   rw [HZZ.out] at o5
   obtain ⟨s5, P5, q5, e5, rfl, o5⟩ := o5.open_; have O5 := hide o5; clear o5
   have hs5 := b5.size
   have hLL := hL.trans ((b3.trans b4).trans b5)
   have HR := hide (R3.out.later ((b3.trans b4).trans b5))
   clear d1 d2 d3 d4
   obtain ⟨d1, d2, d3, d4⟩ := row_cells2 HR.out
   go_wp2_with fail
   refine bodyPost_ret (results_int rfl rfl (HR.out.two _ _)) rfl ?_
   have oo := Only.two (w.heap.size + 2) w5 (.bool s5) (.slice P5 q5 e5)
   exact ⟨_, rfl, (O5.out.only oo (by omega)).weaken (by omega), hLL.only oo (by omega)⟩
  ·have t1 : decide (0 <= c) = false := by simp; omega
   have hzz : sgn s2 (y.natAbs - x.natAbs) = z := by rw [HZ.out, Int.add_comm]; exact sum_more HS2.out HS1.out (Ne.symm HNE.out) (by omega)
   have hln : (limbs (y.natAbs - x.natAbs)).length <= m := Nat.le_trans (length_limbs_mono (Nat.sub_le _ _)) hly
   have HZZ := hide hzz; have HLN := hide hln
   clear hzz hln
   go_wp2_with fail
   refine (rnsub_calls _ _ _ (limbs y.natAbs) (limbs x.natAbs) (OY.out.later b3) (OX.out.later b3) (by omega) (by omega) (by rw [val_limbs, val_limbs]; omega)).mono ?_
   rintro e w4 ⟨v4, ok, rfl, ⟨o4, rfl⟩, b4⟩
   rw [val_limbs, val_limbs] at o4
   obtain ⟨P4, q4, e4, rfl, o4, -⟩ := o4.open_
   have O4 := hide o4; clear o4
   have hs4 := b4.size
   clear d1 d2 d3 d4 d5 d6 d7 d8
   obtain ⟨d1, d2, d3, d4⟩ := row_cells2 (R6.out.later (b3.trans b4))
   go_wp2_with fail
   refine (zplain_calls _ _ (sgn s2 (y.natAbs - x.natAbs)) m (rawI_mk O4.out HLN.out) (by omega)).mono ?_
   rintro e w5 ⟨v5, rfl, o5, b5⟩
   rw [HZZ.out] at o5
   obtain ⟨s5, P5, q5, e5, rfl, o5⟩ := o5.open_; have O5 := hide o5; clear o5
   have hs5 := b5.size
   have hLL := hL.trans ((b3.trans b4).trans b5)
   have HR := hide (R3.out.later ((b3.trans b4).trans b5))
   clear d1 d2 d3 d4
   obtain ⟨d1, d2, d3, d4⟩ := row_cells2 HR.out
   go_wp2_with fail
   refine bodyPost_ret (results_int rfl rfl (HR.out.two _ _)) rfl ?_
   have oo := Only.two (w.heap.size + 2) w5 (.bool s5) (.slice P5 q5 e5)
   exact ⟨_, rfl, (O5.out.only oo (by omega)).weaken (by omega), hLL.only oo (by omega)⟩
end Go.Proofs.YtfokplidiboabaaGreat
namespace Go.Proofs.YtfokplidiboabaaGreat
open Go.RowKit
section
variable {P : Program} {ops : Array Oper} {Q : Exit -> Act -> World -> Prop} {md : Region.Mode} {S : World -> Prop} {nf : List Nat}
def wpAnyN (P : Program) (md : Region.Mode) (ops : Array Oper) (Q : Exit -> Act -> World -> Prop) (S : World -> Prop) (nf : List Nat) : Nat -> Array Bool -> Act -> World -> Prop
 | 0, listed, a, w => Region.ready md ops listed = [] /\ Q .normal a w
 | fuel + 1, listed, a, w =>
   (Region.ready md ops listed = [] -> Q .normal a w) /\
   ∀ i ∈ Region.ready md ops listed, wpOp P ops Q i (fun a' w' => (nf.contains i = false -> S w') /\ wpAnyN P md ops Q S nf fuel (listed.setIfInBounds i true) a' w') a w
theorem wpAny_of_N : ∀ (fuel : Nat) (listed : Array Bool) (a : Act) (w : World), wpAnyN P md ops Q S nf fuel listed a w -> wpAny P md ops Q fuel listed a w
 | 0, _, _, _, h => h
 | fuel + 1, _, _, _, h => ⟨h.1, fun i hi => wpOp_mono (fun a' w' h' => wpAny_of_N fuel _ a' w' h'.2) (h.2 i hi)⟩
def behind (md : Region.Mode) (ops : Array Oper) (nf : List Nat) (i : Nat) : Bool :=
 nf.all fun j => match ops[j]? with | none => true | some o => o.after.any fun e => Region.binds md e && e.on == i
theorem wpAnyN_first {i : Nat} {oi : Oper} {v : Value} (hi : ops[i]? = some oi) (hsel : ∀ (j : Nat) (o : Oper) cs b, ops[j]? = some o -> o.op ≠ .select cs b)
 (hQ : ∀ c a w, Q (.panic c) (a.put oi.dst v) w -> Q (.panic c) a w) (hbe : behind md ops nf i = true) :
 ∀ (fuel : Nat) (listed : Array Bool) (a : Act) (w : World),
   (∀ j oj, ops[j]? = some oj -> j ≠ i -> listed.getD j true = false -> (∀ e ∈ oj.after, Region.binds md e = true -> e.on ≠ i) -> oi.apart ops oj = true) ->
   i ∈ Region.ready md ops listed -> YieldsIf P ops S oi v a -> S w ->
   wpAnyN P md ops Q S nf fuel (listed.setIfInBounds i true) (a.put oi.dst v) w -> wpAnyN P md ops Q S nf (fuel + 1) listed a w := by
 intro fuel
 induction fuel with
 | zero =>
   intro listed a w _ hr hy hS H
   refine ⟨fun h => (by rw [h] at hr; cases hr), fun j hj => ?_⟩
   by_cases hji : j = i
   ·subst hji; exact hy.wpOp hi hS ⟨fun _ => hS, H⟩
   ·have := ready_mono hj hji
    rw [H.1] at this
    cases this
 | succ fuel ih =>
   intro listed a w hfree hr hy hS H
   refine ⟨fun h => (by rw [h] at hr; cases hr), fun j hj => ?_⟩
   by_cases hji : j = i
   ·subst hji; exact hy.wpOp hi hS ⟨fun _ => hS, H⟩
   ·have h1 := H.2 j (ready_mono hj hji)
    obtain ⟨hjun, oj, hoj, hall⟩ := mem_ready.1 hj
    have hnot : ∀ e ∈ oj.after, Region.binds md e = true -> e.on ≠ i := fun e he hb heq => by
     have h1 := hall e he hb
     have h0 := (mem_ready.1 hr).1
     rw [heq] at h1
     rcases Nat.lt_or_ge i listed.size with h' | h'
     ·simp [h'] at h0 h1; rw [h0] at h1; cases h1
     ·simp [Array.getElem?_eq_none h'] at h1
    have hnf : nf.contains j = false := by
     cases hc : nf.contains j with
     | false => rfl
     | true =>
       have hm : j ∈ nf := by simpa using hc
       have hb := List.all_eq_true.1 hbe j hm
       rw [hoj] at hb
       simp only [Array.any_eq_true] at hb
       obtain ⟨k, hk, hb⟩ := hb
       rw [Bool.and_eq_true] at hb
       exact absurd (by simpa using hb.2) (hnot _ (Array.getElem_mem hk) hb.1)
    have h2 := wpOp_putIf hoj (hfree j oj hoj hji hjun hnot) (fun cs b => hsel i oi cs b hi) (fun cs b => hsel j oj cs b hoj) hQ hy h1
    have hfree' : ∀ k ok, ops[k]? = some ok -> k ≠ i -> (listed.setIfInBounds j true).getD k true = false ->
     (∀ e ∈ ok.after, Region.binds md e = true -> e.on ≠ i) -> oi.apart ops ok = true := fun k ok hk hki hun hno => by
     refine hfree k ok hk hki ?_ hno
     by_cases hjk : j = k
     ·subst hjk; exact hjun
     ·rw [getD_set_ne true hjk] at hun; exact hun
    refine wpOp_mono (fun a' w' h3 => ⟨h3.2.1, ih (listed.setIfInBounds j true) a' w' hfree' (ready_mono hr (Ne.symm hji)) h3.1 (h3.2.1 hnf) ?_⟩) h2
    rw [Array.setIfInBounds_comm _ _ hji]
    exact h3.2.2
theorem wpAnyN_take {i : Nat} {oi : Oper} {v : Value} {fuel : Nat} {listed : Array Bool} {a : Act} {w : World} (hi : ops[i]? = some oi)
 (hs : Region.noSelect ops = true) (hf : Region.free md ops listed i = true) (hb : behind md ops nf i = true) (hr : (Region.ready md ops listed).contains i = true)
 (hQ : ∀ c a w, Q (.panic c) (a.put oi.dst v) w -> Q (.panic c) a w) (hy : YieldsIf P ops S oi v a) (hS : S w)
 (h : wpAnyN P md ops Q S nf fuel (listed.setIfInBounds i true) (a.put oi.dst v) w) : wpAnyN P md ops Q S nf (fuel + 1) listed a w :=
 wpAnyN_first hi (Region.noSelect_spec hs) hQ hb fuel listed a w (Region.free_spec hi hf) (by simpa using hr) hy hS h
def AllReadyN (P : Program) (md : Region.Mode) (ops : Array Oper) (Q : Exit -> Act -> World -> Prop) (S : World -> Prop) (nf : List Nat) (fuel : Nat) (listed : Array Bool) (a : Act) (w : World) (rs : List Nat) : Prop :=
 ∀ i ∈ rs, wpOp P ops Q i (fun a' w' => (nf.contains i = false -> S w') /\ wpAnyN P md ops Q S nf fuel (listed.setIfInBounds i true) a' w') a w
theorem AllReadyN.nil {fuel : Nat} {listed : Array Bool} {a : Act} {w : World} : AllReadyN P md ops Q S nf fuel listed a w [] := fun _ h => by cases h
theorem AllReadyN.held {fuel : Nat} {listed : Array Bool} {a : Act} {w : World} {i : Nat} {o : Oper} {rs : List Nat} (ho : ops[i]? = some o) (hw : Region.wanted o (yielded ops a.tmps) = true)
 (h : ∀ K : Act -> World -> Prop, Hid (∀ a' w', S w' -> (S w' -> wpAnyN P md ops Q S nf fuel (listed.setIfInBounds i true) a' w') -> K a' w') -> o.wp P a w K Q)
 (hs : AllReadyN P md ops Q S nf fuel listed a w rs) : AllReadyN P md ops Q S nf fuel listed a w (i :: rs) := fun j hj => by
 rcases List.mem_cons.1 hj with rfl | hj
 ·unfold wpOp
  simp only [ho, hw, if_true]
  exact .inl (h _ (fun a' w' hS hk => ⟨fun _ => hS, hk hS⟩))
 ·exact hs j hj
theorem AllReadyN.free {fuel : Nat} {listed : Array Bool} {a : Act} {w : World} {i : Nat} {o : Oper} {rs : List Nat} (ho : ops[i]? = some o) (hw : Region.wanted o (yielded ops a.tmps) = true) (hnf : nf.contains i = true)
 (h : ∀ K : Act -> World -> Prop, Hid (∀ a' w', wpAnyN P md ops Q S nf fuel (listed.setIfInBounds i true) a' w' -> K a' w') -> o.wp P a w K Q)
 (hs : AllReadyN P md ops Q S nf fuel listed a w rs) : AllReadyN P md ops Q S nf fuel listed a w (i :: rs) := fun j hj => by
 rcases List.mem_cons.1 hj with rfl | hj
 ·unfold wpOp
  simp only [ho, hw, if_true]
  exact .inl (h _ (fun a' w' hk => ⟨fun hc => (by rw [hnf] at hc; cases hc), hk⟩))
 ·exact hs j hj
theorem wpAnyN_ready {rs : List Nat} {fuel : Nat} {listed : Array Bool} {a : Act} {w : World} (hr : Region.ready md ops listed = rs) (hne : rs ≠ [])
 (h : AllReadyN P md ops Q S nf fuel listed a w rs) : wpAnyN P md ops Q S nf (fuel + 1) listed a w :=
 ⟨fun h0 => absurd (hr ▸ h0) hne, hr ▸ h⟩
theorem wpAnyN_done {listed : Array Bool} {a : Act} {w : World} (hr : Region.ready md ops listed = []) (h : Q .normal a w) :
 ∀ fuel, wpAnyN P md ops Q S nf fuel listed a w
 | 0 => ⟨hr, h⟩
 | _ + 1 => ⟨fun _ => h, by rw [hr]; simp⟩
theorem wp_region_N {id : Nat} {a : Act} {w : World} (S : World -> Prop) (nf : List Nat) (hm : P.follows .mixedOrders = true) (hS : S w.drew)
 (h : S w.drew -> wpAnyN P .any ops Q S nf ops.size (Array.replicate ops.size false) a w.drew) : (Code.region id ops true).wp P Q a w :=
 wp_region_any hm (wpAny_of_N _ _ _ _ (h hS))
end
end Go.Proofs.YtfokplidiboabaaGreat
namespace Go.Proofs.YtfokplidiboabaaGreat
open Go.RowKit
theorem lt_ {a b : World} (h : Later a b := by first | assumption | (repeat (first | assumption | exact Later.refl _ | apply Later.drew | refine Later.alloc ?_ _))) : Later a b := h
theorem tkN {P : Program} {md : Region.Mode} {ops : Array Oper} {Q : Exit -> Act -> World -> Prop} {S : World -> Prop} {nf : List Nat} {fuel : Nat} {listed : Array Bool} {a : Act} {w : World} (d : Nat) (i : Nat) {oi : Oper} {v : Value} (hy : ∀ w, S w -> (execOp a.eval oi).run P w = .ok (.value v) w)
 (h : wpAnyN P md ops Q S nf fuel (listed.setIfInBounds i true) (a.put (some d) v) w) (hi : ops[i]? = some oi := by rfl) (hw : Region.wanted oi (yielded ops a.tmps) = true := by rfl) (hd : oi.dst = some d := by rfl)
 (hs : Region.noSelect ops = true := by kernel_rfl) (hf : Region.free md ops listed i = true := by kernel_rfl) (hb : behind md ops nf i = true := by kernel_rfl) (hr : (Region.ready md ops listed).contains i = true := by kernel_rfl)
 (hQ : ∀ c a w, Q (.panic c) (a.put oi.dst v) w -> Q (.panic c) a w := by exact fun _ _ _ h => h) (hS : S w := by assumption) : wpAnyN P md ops Q S nf (fuel + 1) listed a w :=
 wpAnyN_take hi hs hf hb hr hQ (Or.inl ⟨hw, hy⟩) hS (by rw [hd]; exact h)
theorem tkU {P : Program} {md : Region.Mode} {ops : Array Oper} {Q : Exit -> Act -> World -> Prop} {S : World -> Prop} {nf : List Nat} {fuel : Nat} {listed : Array Bool} {a : Act} {w : World} (d : Nat) (i : Nat) {oi : Oper} 
 (h : wpAnyN P md ops Q S nf fuel (listed.setIfInBounds i true) (a.put (some d) undef) w) (hi : ops[i]? = some oi := by rfl) (hw : Region.wanted oi (yielded ops a.tmps) = false := by rfl) (hd : oi.dst = some d := by rfl)
 (hs : Region.noSelect ops = true := by kernel_rfl) (hf : Region.free md ops listed i = true := by kernel_rfl) (hb : behind md ops nf i = true := by kernel_rfl) (hr : (Region.ready md ops listed).contains i = true := by kernel_rfl)
 (hQ : ∀ c a w, Q (.panic c) (a.put oi.dst undef) w -> Q (.panic c) a w := by exact fun _ _ _ h => h) (hS : S w := by assumption) : wpAnyN P md ops Q S nf (fuel + 1) listed a w :=
 wpAnyN_take hi hs hf hb hr hQ (Or.inr ⟨hw, rfl⟩) hS (by rw [hd]; exact h)
theorem tkA {P : Program} {md : Region.Mode} {ops : Array Oper} {Q : Exit -> Act -> World -> Prop} {S : World -> Prop} {nf : List Nat} {fuel : Nat} {listed : Array Bool} {a : Act} {w : World} (d : Nat) (i : Nat) {oi : Oper} {v : Value}
 (h : wpAnyN P md ops Q S nf fuel (listed.setIfInBounds i true) (a.put (some d) v) w) (hi : ops[i]? = some oi := by rfl) (hy : ∀ w, S w -> (execOp a.eval oi).run P w = .ok (.value v) w := by (intro w hSw; (try dsimp only at hSw); go_simp; first | done | with_reducible rfl)) (hw : Region.wanted oi (yielded ops a.tmps) = true := by rfl) (hd : oi.dst = some d := by rfl)
 (hs : Region.noSelect ops = true := by kernel_rfl) (hf : Region.free md ops listed i = true := by kernel_rfl) (hb : behind md ops nf i = true := by kernel_rfl) (hr : (Region.ready md ops listed).contains i = true := by kernel_rfl)
 (hQ : ∀ c a w, Q (.panic c) (a.put oi.dst v) w -> Q (.panic c) a w := by exact fun _ _ _ h => h) (hS : S w := by assumption) : wpAnyN P md ops Q S nf (fuel + 1) listed a w :=
 wpAnyN_take hi hs hf hb hr hQ (Or.inl ⟨hw, hy⟩) hS (by rw [hd]; exact h)
theorem tkB {P : Program} {md : Region.Mode} {ops : Array Oper} {Q : Exit -> Act -> World -> Prop} {S : World -> Prop} {nf : List Nat} {fuel : Nat} {listed l' : Array Bool} {a a' : Act} {w : World} (d : Nat) (i : Nat) {oi : Oper} {v : Value}
 (h : wpAnyN P md ops Q S nf fuel l' a' w) (hi : ops[i]? = some oi := by rfl) (hy : ∀ w, S w -> (execOp a.eval oi).run P w = .ok (.value v) w := by (intro w hSw; (try dsimp only at hSw); go_simp; first | done | with_reducible rfl)) (hw : Region.wanted oi (yielded ops a.tmps) = true := by rfl) (hd : oi.dst = some d := by rfl)
 (hp : a.put (some d) v = a' := by (first | (simp only [Act.put, List.setIfInBounds_toArray, List.set_cons_zero, List.set_cons_succ] <;> rfl) | rfl)) (hl : listed.setIfInBounds i true = l' := by (first | (simp only [List.setIfInBounds_toArray, List.set_cons_zero, List.set_cons_succ] <;> rfl) | rfl))
 (hs : Region.noSelect ops = true := by kernel_rfl) (hf : Region.free md ops listed i = true := by kernel_rfl) (hb : behind md ops nf i = true := by kernel_rfl) (hr : (Region.ready md ops listed).contains i = true := by kernel_rfl)
 (hQ : ∀ c a w, Q (.panic c) (a.put oi.dst v) w -> Q (.panic c) a w := by exact fun _ _ _ h => h) (hS : S w := by assumption) : wpAnyN P md ops Q S nf (fuel + 1) listed a w :=
 wpAnyN_take hi hs hf hb hr hQ (Or.inl ⟨hw, hy⟩) hS (by rw [hd, hp, hl]; exact h)
theorem s1_ {α : Type _} (l : List α) (i : Nat) (a : α) : l.toArray.setIfInBounds i a = (l.set i a).toArray := by simp
theorem s2_ {α : Type _} (a b : α) (l : List α) : (a :: l).set 0 b = b :: l := rfl
theorem s3_ {α : Type _} (a b : α) (l : List α) (n : Nat) : (a :: l).set (n + 1) b = a :: l.set n b := rfl
end Go.Proofs.YtfokplidiboabaaGreat
namespace Go.Proofs.YtfokplidiboabaaGreat
open Go.RowKit
section
variable {P : Program} {ops : Array Oper} {Q : Exit -> Act -> World -> Prop} {md : Region.Mode} {S : World -> Prop} {nf : List Nat}
def wpAnyM (P : Program) (md : Region.Mode) (ops : Array Oper) (Q : Exit -> Act -> World -> Prop) (S : World -> Prop) (nf : List Nat) : Nat -> Array Bool -> Act -> World -> Prop
 | 0, listed, a, w => Region.ready md ops listed = [] /\ Q .normal a w
 | fuel + 1, listed, a, w =>
   (Region.ready md ops listed = [] -> Q .normal a w) /\
   ∀ i ∈ Region.ready md ops listed, wpOp P ops Q i (fun a' w' => (S w -> nf.contains i = false -> S w') /\ wpAnyM P md ops Q S nf fuel (listed.setIfInBounds i true) a' w') a w
theorem wpAny_of_M : ∀ (fuel : Nat) (listed : Array Bool) (a : Act) (w : World), wpAnyM P md ops Q S nf fuel listed a w -> wpAny P md ops Q fuel listed a w
 | 0, _, _, _, h => h
 | fuel + 1, _, _, _, h => ⟨h.1, fun i hi => wpOp_mono (fun a' w' h' => wpAny_of_M fuel _ a' w' h'.2) (h.2 i hi)⟩
theorem wpAnyM_first {i : Nat} {oi : Oper} {v : Value} (hi : ops[i]? = some oi) (hsel : ∀ (j : Nat) (o : Oper) cs b, ops[j]? = some o -> o.op ≠ .select cs b)
 (hQ : ∀ c a w, Q (.panic c) (a.put oi.dst v) w -> Q (.panic c) a w) (hbe : behind md ops nf i = true) :
 ∀ (fuel : Nat) (listed : Array Bool) (a : Act) (w : World),
   (∀ j oj, ops[j]? = some oj -> j ≠ i -> listed.getD j true = false -> (∀ e ∈ oj.after, Region.binds md e = true -> e.on ≠ i) -> oi.apart ops oj = true) ->
   i ∈ Region.ready md ops listed -> YieldsIf P ops S oi v a -> S w ->
   wpAnyM P md ops Q S nf fuel (listed.setIfInBounds i true) (a.put oi.dst v) w -> wpAnyM P md ops Q S nf (fuel + 1) listed a w := by
 intro fuel
 induction fuel with
 | zero =>
   intro listed a w _ hr hy hS H
   refine ⟨fun h => (by rw [h] at hr; cases hr), fun j hj => ?_⟩
   by_cases hji : j = i
   ·subst hji; exact hy.wpOp hi hS ⟨fun _ _ => hS, H⟩
   ·have := ready_mono hj hji
    rw [H.1] at this
    cases this
 | succ fuel ih =>
   intro listed a w hfree hr hy hS H
   refine ⟨fun h => (by rw [h] at hr; cases hr), fun j hj => ?_⟩
   by_cases hji : j = i
   ·subst hji; exact hy.wpOp hi hS ⟨fun _ _ => hS, H⟩
   ·have h1 := H.2 j (ready_mono hj hji)
    obtain ⟨hjun, oj, hoj, hall⟩ := mem_ready.1 hj
    have hnot : ∀ e ∈ oj.after, Region.binds md e = true -> e.on ≠ i := fun e he hb heq => by
     have h1 := hall e he hb
     have h0 := (mem_ready.1 hr).1
     rw [heq] at h1
     rcases Nat.lt_or_ge i listed.size with h' | h'
     ·simp [h'] at h0 h1; rw [h0] at h1; cases h1
     ·simp [Array.getElem?_eq_none h'] at h1
    have hnf : nf.contains j = false := by
     cases hc : nf.contains j with
     | false => rfl
     | true =>
       have hm : j ∈ nf := by simpa using hc
       have hb := List.all_eq_true.1 hbe j hm
       rw [hoj] at hb
       simp only [Array.any_eq_true] at hb
       obtain ⟨k, hk, hb⟩ := hb
       rw [Bool.and_eq_true] at hb
       exact absurd (by simpa using hb.2) (hnot _ (Array.getElem_mem hk) hb.1)
    have h2 := wpOp_putIf hoj (hfree j oj hoj hji hjun hnot) (fun cs b => hsel i oi cs b hi) (fun cs b => hsel j oj cs b hoj) hQ hy h1
    have hfree' : ∀ k ok, ops[k]? = some ok -> k ≠ i -> (listed.setIfInBounds j true).getD k true = false ->
     (∀ e ∈ ok.after, Region.binds md e = true -> e.on ≠ i) -> oi.apart ops ok = true := fun k ok hk hki hun hno => by
     refine hfree k ok hk hki ?_ hno
     by_cases hjk : j = k
     ·subst hjk; exact hjun
     ·rw [getD_set_ne true hjk] at hun; exact hun
    refine wpOp_mono (fun a' w' h3 => ⟨h3.2.1, ih (listed.setIfInBounds j true) a' w' hfree' (ready_mono hr (Ne.symm hji)) h3.1 (h3.2.1 hS hnf) ?_⟩) h2
    rw [Array.setIfInBounds_comm _ _ hji]
    exact h3.2.2
theorem wpAnyM_take {i : Nat} {oi : Oper} {v : Value} {fuel : Nat} {listed : Array Bool} {a : Act} {w : World} (hi : ops[i]? = some oi)
 (hs : Region.noSelect ops = true) (hf : Region.free md ops listed i = true) (hb : behind md ops nf i = true) (hr : (Region.ready md ops listed).contains i = true)
 (hQ : ∀ c a w, Q (.panic c) (a.put oi.dst v) w -> Q (.panic c) a w) (hy : YieldsIf P ops S oi v a) (hS : S w)
 (h : wpAnyM P md ops Q S nf fuel (listed.setIfInBounds i true) (a.put oi.dst v) w) : wpAnyM P md ops Q S nf (fuel + 1) listed a w :=
 wpAnyM_first hi (Region.noSelect_spec hs) hQ hb fuel listed a w (Region.free_spec hi hf) (by simpa using hr) hy hS h
theorem wpAnyM_firstP {i : Nat} {oi : Oper} {v : Value} (hi : ops[i]? = some oi) (hsel : ∀ (j : Nat) (o : Oper) cs b, ops[j]? = some o -> o.op ≠ .select cs b)
 (hQ : ∀ c a w, Q (.panic c) (a.put oi.dst v) w -> Q (.panic c) a w) :
 ∀ (fuel : Nat) (listed : Array Bool) (a : Act) (w : World),
   (∀ j oj, ops[j]? = some oj -> j ≠ i -> listed.getD j true = false -> (∀ e ∈ oj.after, Region.binds md e = true -> e.on ≠ i) -> oi.apart ops oj = true) ->
   i ∈ Region.ready md ops listed -> YieldsIf P ops (fun _ => True) oi v a ->
   wpAnyM P md ops Q S nf fuel (listed.setIfInBounds i true) (a.put oi.dst v) w -> wpAnyM P md ops Q S nf (fuel + 1) listed a w := by
 intro fuel
 induction fuel with
 | zero =>
   intro listed a w _ hr hy H
   refine ⟨fun h => (by rw [h] at hr; cases hr), fun j hj => ?_⟩
   by_cases hji : j = i
   ·subst hji; exact hy.wpOp hi trivial ⟨fun h _ => h, H⟩
   ·have := ready_mono hj hji
    rw [H.1] at this
    cases this
 | succ fuel ih =>
   intro listed a w hfree hr hy H
   refine ⟨fun h => (by rw [h] at hr; cases hr), fun j hj => ?_⟩
   by_cases hji : j = i
   ·subst hji; exact hy.wpOp hi trivial ⟨fun h _ => h, H⟩
   ·have h1 := H.2 j (ready_mono hj hji)
    obtain ⟨hjun, oj, hoj, hall⟩ := mem_ready.1 hj
    have hnot : ∀ e ∈ oj.after, Region.binds md e = true -> e.on ≠ i := fun e he hb heq => by
     have h1 := hall e he hb
     have h0 := (mem_ready.1 hr).1
     rw [heq] at h1
     rcases Nat.lt_or_ge i listed.size with h' | h'
     ·simp [h'] at h0 h1; rw [h0] at h1; cases h1
     ·simp [Array.getElem?_eq_none h'] at h1
    have h2 := wpOp_putIf hoj (hfree j oj hoj hji hjun hnot) (fun cs b => hsel i oi cs b hi) (fun cs b => hsel j oj cs b hoj) hQ hy h1
    have hfree' : ∀ k ok, ops[k]? = some ok -> k ≠ i -> (listed.setIfInBounds j true).getD k true = false ->
     (∀ e ∈ ok.after, Region.binds md e = true -> e.on ≠ i) -> oi.apart ops ok = true := fun k ok hk hki hun hno => by
     refine hfree k ok hk hki ?_ hno
     by_cases hjk : j = k
     ·subst hjk; exact hjun
     ·rw [getD_set_ne true hjk] at hun; exact hun
    refine wpOp_mono (fun a' w' h3 => ⟨h3.2.1, ih (listed.setIfInBounds j true) a' w' hfree' (ready_mono hr (Ne.symm hji)) h3.1 ?_⟩) h2
    rw [Array.setIfInBounds_comm _ _ hji]
    exact h3.2.2
theorem wpAnyM_takeD {i : Nat} {oi : Oper} {v : Value} {fuel : Nat} {listed : Array Bool} {a : Act} {w : World} (d : Option Nat) (hd : oi.dst = d) (hi : ops[i]? = some oi)
 (hs : Region.noSelect ops = true) (hf : Region.free md ops listed i = true) (hb : behind md ops nf i = true) (hr : (Region.ready md ops listed).contains i = true)
 (hQ : ∀ c a w, Q (.panic c) (a.put oi.dst v) w -> Q (.panic c) a w) (hy : YieldsIf P ops S oi v a) (hS : S w)
 (h : wpAnyM P md ops Q S nf fuel (listed.setIfInBounds i true) (a.put d v) w) : wpAnyM P md ops Q S nf (fuel + 1) listed a w :=
 wpAnyM_take hi hs hf hb hr hQ hy hS (by rw [hd]; exact h)
theorem wpAnyM_takeP {i : Nat} {oi : Oper} {v : Value} {fuel : Nat} {listed : Array Bool} {a : Act} {w : World} (d : Option Nat) (hd : oi.dst = d) (hi : ops[i]? = some oi)
 (hs : Region.noSelect ops = true) (hf : Region.free md ops listed i = true) (hr : (Region.ready md ops listed).contains i = true)
 (hQ : ∀ c a w, Q (.panic c) (a.put oi.dst v) w -> Q (.panic c) a w) (hy : YieldsIf P ops (fun _ => True) oi v a)
 (h : wpAnyM P md ops Q S nf fuel (listed.setIfInBounds i true) (a.put d v) w) : wpAnyM P md ops Q S nf (fuel + 1) listed a w :=
 wpAnyM_firstP hi (Region.noSelect_spec hs) hQ fuel listed a w (Region.free_spec hi hf) (by simpa using hr) hy (by rw [hd]; exact h)
def AllReadyM (P : Program) (md : Region.Mode) (ops : Array Oper) (Q : Exit -> Act -> World -> Prop) (S : World -> Prop) (nf : List Nat) (fuel : Nat) (listed : Array Bool) (a : Act) (w : World) (rs : List Nat) : Prop :=
 ∀ i ∈ rs, wpOp P ops Q i (fun a' w' => (S w -> nf.contains i = false -> S w') /\ wpAnyM P md ops Q S nf fuel (listed.setIfInBounds i true) a' w') a w
theorem AllReadyM.nil {fuel : Nat} {listed : Array Bool} {a : Act} {w : World} : AllReadyM P md ops Q S nf fuel listed a w [] := fun _ h => by cases h
theorem AllReadyM.held {fuel : Nat} {listed : Array Bool} {a : Act} {w : World} {i : Nat} {o : Oper} {rs : List Nat} (ho : ops[i]? = some o) (hw : Region.wanted o (yielded ops a.tmps) = true)
 (h : ∀ K : Act -> World -> Prop, Hid (∀ a' w', S w' -> (S w' -> wpAnyM P md ops Q S nf fuel (listed.setIfInBounds i true) a' w') -> K a' w') -> o.wp P a w K Q)
 (hs : AllReadyM P md ops Q S nf fuel listed a w rs) : AllReadyM P md ops Q S nf fuel listed a w (i :: rs) := fun j hj => by
 rcases List.mem_cons.1 hj with rfl | hj
 ·unfold wpOp
  simp only [ho, hw, if_true]
  exact .inl (h _ (fun a' w' hS hk => ⟨fun _ _ => hS, hk hS⟩))
 ·exact hs j hj
theorem AllReadyM.free {fuel : Nat} {listed : Array Bool} {a : Act} {w : World} {i : Nat} {o : Oper} {rs : List Nat} (ho : ops[i]? = some o) (hw : Region.wanted o (yielded ops a.tmps) = true) (hnf : nf.contains i = true)
 (h : ∀ K : Act -> World -> Prop, Hid (∀ a' w', wpAnyM P md ops Q S nf fuel (listed.setIfInBounds i true) a' w' -> K a' w') -> o.wp P a w K Q)
 (hs : AllReadyM P md ops Q S nf fuel listed a w rs) : AllReadyM P md ops Q S nf fuel listed a w (i :: rs) := fun j hj => by
 rcases List.mem_cons.1 hj with rfl | hj
 ·unfold wpOp
  simp only [ho, hw, if_true]
  exact .inl (h _ (fun a' w' hk => ⟨fun _ hc => (by rw [hnf] at hc; cases hc), hk⟩))
 ·exact hs j hj
theorem wpAnyM_ready {rs : List Nat} {fuel : Nat} {listed : Array Bool} {a : Act} {w : World} (hr : Region.ready md ops listed = rs) (hne : rs ≠ [])
 (h : AllReadyM P md ops Q S nf fuel listed a w rs) : wpAnyM P md ops Q S nf (fuel + 1) listed a w :=
 ⟨fun h0 => absurd (hr ▸ h0) hne, hr ▸ h⟩
theorem wpAnyM_done {listed : Array Bool} {a : Act} {w : World} (hr : Region.ready md ops listed = []) (h : Q .normal a w) :
 ∀ fuel, wpAnyM P md ops Q S nf fuel listed a w
 | 0 => ⟨hr, h⟩
 | _ + 1 => ⟨fun _ => h, by rw [hr]; simp⟩
theorem wp_region_M {id : Nat} {a : Act} {w : World} (S : World -> Prop) (nf : List Nat) (hm : P.follows .mixedOrders = true) (hS : S w.drew)
 (h : S w.drew -> wpAnyM P .any ops Q S nf ops.size (Array.replicate ops.size false) a w.drew) : (Code.region id ops true).wp P Q a w :=
 wp_region_any hm (wpAny_of_M _ _ _ _ (h hS))
end
end Go.Proofs.YtfokplidiboabaaGreat
