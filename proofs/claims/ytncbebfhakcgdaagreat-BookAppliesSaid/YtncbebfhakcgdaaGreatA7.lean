/- The reference's whole numbers: Plain, Mul, Sub, Cmp, Add, Same. -/
import Derived.Test.YtncbebfhakcgdaaGreatA6
import Derived.Test.YtncbebfhakcgdaaGreatA5
import Derived.OrdersHeld
import Derived.Deep.RegionHeld3
import Derived.Test.YtncbebfhakcgdaaGreatA1
set_option linter.unusedVariables false
set_option linter.unusedSimpArgs false
set_option maxRecDepth 100000
namespace Go.Proofs.YtncbebfhakcgdaaGreat
open Go.RowKit
attribute [local go_sem ↓] Go.wp_at_zero Go.wp_at_succ
theorem nlen_pos {n x : Nat} (h : n = (limbs x).length) : decide (0 < n) = decide (0 < x) := by
 rw [h]; by_cases h0 : x = 0
 ·subst h0; rw [limbs_zero]; rfl
 ·have := length_limbs_pos.2 h0; simp; omega
theorem Own32.open_ {T : TypeId} {w : World} {B : Nat} {v : Value} {l : List Nat} (h : Own32 T w B v l) : ∃ A n c, v = .slice A n c /\ Own32 T w B (.slice A n c) l /\ n = l.length := by
 obtain ⟨A, c, e, -⟩ := h.2.reads.form
 subst e
 exact ⟨A, _, c, rfl, h, rfl⟩
set_option maxHeartbeats 1000000 in
theorem zplain_calls (w : World) (v : Value) (z : Int) (k : Nat) (h : RawI w v z k) (hk : k <= 200000000) :
 Calls Tryz.prog 144 #[v] w (Ret w fun w' v => OwnI w' w.heap.size v z) := by
 obtain ⟨neg, A, n, c, l, rfl, hu, hz, hl⟩ := h
 have HZ := hide hz; have HU := hide hu; clear hz hu
 obtain ⟨s, hs⟩ : ∃ s, s = decide (z < 0) := ⟨_, rfl⟩
 have hs2 : s = (neg && decide (0 < val l)) := by rw [hs, HZ.out, neg_sgn]
 have HS := hide hs; have HS2 := hide hs2
 clear hs hs2
 go_enter Tryz.func144, Tryz.ntmps144
 go_wp2_with fail
 obtain ⟨W0, hW0⟩ : ∃ W0, W0 = ((w.alloc (Obj.cells #[Value.bool neg, Value.slice A n c] 65)).alloc (Obj.cells #[Value.bool false, Value.slice none 0 0] 65)) := ⟨_, rfl⟩
 obtain ⟨hb0, r1, r2, hsz⟩ := boxes2 w [.bool neg, .slice A n c] [.bool false, .slice none 0 0] 65 65 hW0
 rw [<- hW0]
 have R1 := hide r1; have R2 := hide r2; have B0 := hide hb0
 clear hW0 r1 r2 hb0
 refine (rtrim_calls _ _ l (HU.out.later B0.out) (by omega)).mono ?_
 rintro e w1 ⟨v1, rfl, o1, b1⟩
 obtain ⟨A1, n1, c1, rfl, o1, hn1⟩ := o1.open_
 have O1 := hide o1; have HP := hide (nlen_pos hn1)
 obtain ⟨d1, d2, d3, d4⟩ := row_cells2 (R1.out.later b1)
 obtain ⟨d5, d6, d7, d8⟩ := row_cells2 (R2.out.later b1)
 clear o1 hn1
 have hL := B0.out.trans b1
 have HR := hide (R2.out.later b1)
 cases neg
 case false =>
  go_wp2_with fail
  refine bodyPost_ret (results_int rfl rfl (HR.out.two _ _)) rfl ?_
  have oo := Only.two (w.heap.size + 1) w1 (.bool false) (.slice A1 n1 c1)
  refine ⟨_, rfl, OwnI.weaken (OwnI.mk_ (by rw [<- HS.out, HS2.out]; rfl) ?_) (by omega : w.heap.size <= W0.heap.size), hL.only oo (by omega)⟩
  rw [HZ.out, natAbs_sgn]; exact O1.out.only oo (by omega)
 case true =>
  have hb : decide (0 < n1) = s := by rw [HP.out, HS2.out]; rfl
  have HB := hide hb
  clear hb
  go_wp2_with fail
  refine bodyPost_ret (results_int rfl rfl (HR.out.two _ _)) rfl ?_
  have oo := Only.two (w.heap.size + 1) w1 (.bool (decide (0 < n1))) (.slice A1 n1 c1)
  refine ⟨_, rfl, OwnI.weaken (OwnI.mk_ (by rw [<- HS.out, HB.out]) ?_) (by omega : w.heap.size <= W0.heap.size), hL.only oo (by omega)⟩
  rw [HZ.out, natAbs_sgn]; exact O1.out.only oo (by omega)
theorem rawI_mk {w : World} {T : TypeId} {B : Nat} {s : Bool} {A : Option Addr} {n c x k : Nat} (h : Own32 T w B (.slice A n c) (limbs x)) (hk : (limbs x).length <= k) : RawI w (.agg #[.bool s, .slice A n c]) (sgn s x) k :=
 ⟨s, A, n, c, limbs x, rfl, h.reads, by rw [val_limbs], hk⟩
set_option maxHeartbeats 2000000 in
theorem zmul_calls (w : World) (va vb : Value) (x y : Int) (k m : Nat) (hx : RawI w va x k) (hy : RawI w vb y m) (hk : k <= 90000000) (hm : m <= 90000000) :
 Calls Tryz.prog 158 #[va, vb] w (Ret w fun w' v => OwnI w' w.heap.size v (x * y)) := by
 obtain ⟨n1, A1, m1, c1, l1, rfl, hu1, hz1, hl1⟩ := hx
 obtain ⟨n2, A2, m2, c2, l2, rfl, hu2, hz2, hl2⟩ := hy
 obtain ⟨z, hz⟩ : ∃ z, z = x * y := ⟨_, rfl⟩
 have hzz : sgn (!(n1 == n2)) (val l1 * val l2) = z := by rw [hz, sgn_mul, <- hz1, <- hz2]
 have hln := limbs_mul_len (Nat.le_trans (length_limbs_val hu1.1) hl1) (Nat.le_trans (length_limbs_val hu2.1) hl2)
 rw [<- hz]
 have HZ := hide hzz; have HU1 := hide hu1; have HU2 := hide hu2; have HLN := hide hln
 clear hz hzz hz1 hz2 hu1 hu2 hln
 go_enter Tryz.func158, Tryz.ntmps158
 go_upto_region 1 with fail
 obtain ⟨W0, hW0⟩ : ∃ W0, W0 = (((w.alloc (Obj.cells #[Value.bool n1, Value.slice A1 m1 c1] 65)).alloc (Obj.cells #[Value.bool n2, Value.slice A2 m2 c2] 65)).alloc (Obj.cells #[Value.bool false, Value.slice none 0 0] 65)) := ⟨_, rfl⟩
 obtain ⟨hb0, r1, r2, r3, hsz⟩ := boxes3 w [.bool n1, .slice A1 m1 c1] [.bool n2, .slice A2 m2 c2] [.bool false, .slice none 0 0] 65 65 65 hW0
 rw [<- hW0]
 have hb0 := hb0.drew; have r1 := r1.drew; have r2 := r2.drew; have r3 := r3.drew
 have hsz : W0.drew.heap.size = w.heap.size + 3 := hsz
 have R3 := hide r3; have B0 := hide hb0
 have HT1 : Hid (∀ w', Later W0.drew w' -> w'.cell? ⟨w.heap.size, 0, none⟩ = some (.bool n1) /\ w'.cell? ⟨w.heap.size, 1, none⟩ = some (.slice A1 m1 c1) /\ w'.cell? ⟨w.heap.size + 1, 0, none⟩ = some (.bool n2) /\ w'.cell? ⟨w.heap.size + 1, 1, none⟩ = some (.slice A2 m2 c2)) :=
  hide fun w' hb => ⟨(r1.later hb).cell rfl, (r1.later hb).cell rfl, (r2.later hb).cell rfl, (r2.later hb).cell rfl⟩
 have HT2 : Hid (∀ w' a_ b_, Later W0.drew w' -> ((w'.setCell ⟨w.heap.size + 2, 0, none⟩ a_).setCell ⟨w.heap.size + 2, 1, none⟩ b_).cell? ⟨w.heap.size, 0, none⟩ = some (.bool n1) /\ ((w'.setCell ⟨w.heap.size + 2, 0, none⟩ a_).setCell ⟨w.heap.size + 2, 1, none⟩ b_).cell? ⟨w.heap.size, 1, none⟩ = some (.slice A1 m1 c1) /\ ((w'.setCell ⟨w.heap.size + 2, 0, none⟩ a_).setCell ⟨w.heap.size + 2, 1, none⟩ b_).cell? ⟨w.heap.size + 1, 0, none⟩ = some (.bool n2) /\ ((w'.setCell ⟨w.heap.size + 2, 0, none⟩ a_).setCell ⟨w.heap.size + 2, 1, none⟩ b_).cell? ⟨w.heap.size + 1, 1, none⟩ = some (.slice A2 m2 c2)) :=
  hide fun w' a_ b_ hb => ⟨((r1.later hb).far2 (by omega) a_ b_).cell rfl, ((r1.later hb).far2 (by omega) a_ b_).cell rfl, ((r2.later hb).far2 (by omega) a_ b_).cell rfl, ((r2.later hb).far2 (by omega) a_ b_).cell rfl⟩
 clear hW0 r1 r2 r3 hb0
 go_region_held3 (fun w' => w'.cell? ⟨w.heap.size, 0, none⟩ = some (.bool n1) /\ w'.cell? ⟨w.heap.size, 1, none⟩ = some (.slice A1 m1 c1) /\ w'.cell? ⟨w.heap.size + 1, 0, none⟩ = some (.bool n2) /\ w'.cell? ⟨w.heap.size + 1, 1, none⟩ = some (.slice A2 m2 c2))
  (first | exact HT1.out _ (Later.refl _) | exact HT1.out _ b1 | exact HT1.out _ (b1.trans b2) | exact HT2.out _ _ _ (b1.trans b2))
  (first
   | ((with_reducible refine (rnmul_calls _ _ _ l1 l2 (HU1.out.later B0.out) (HU2.out.later B0.out) (by omega) (by omega)).mono ?_); rintro e w1 ⟨v1, rfl, o1, b1⟩; obtain ⟨P1, q1, e1, rfl, o1, -⟩ := o1.open_; have O1 := hide o1; clear o1)
   | ((with_reducible refine (zplain_calls _ _ (sgn (!(n1 == n2)) (val l1 * val l2)) (k+m) (rawI_mk O1.out HLN.out) (by omega)).mono ?_); rintro e w2 ⟨v2, rfl, o2, b2⟩; rw [HZ.out] at o2; obtain ⟨s2, P2, q2, e2, rfl, o2⟩ := o2.open_; have O2 := hide o2; clear o2; obtain ⟨f1, f2, f3, f4⟩ := row_cells2 (R3.out.later (b1.trans b2))))
 have hL := B0.out.trans (b1.trans b2)
 have HR := hide (R3.out.later (b1.trans b2))
 have hs1 := b1.size; have hs2 := b2.size
 clear f1 f2 f3 f4
 go_wp2_with fail
 refine bodyPost_ret (results_int rfl rfl (HR.out.two _ _)) rfl ?_
 have oo := Only.two (w.heap.size + 2) w2 (.bool s2) (.slice P2 q2 e2)
 exact ⟨_, rfl, (O2.out.only oo (by omega)).weaken (by omega), hL.only oo (by omega)⟩
end Go.Proofs.YtncbebfhakcgdaaGreat
namespace Go.Proofs.YtncbebfhakcgdaaGreat
open Go.RowKit
attribute [local go_sem ↓] Go.wp_at_zero Go.wp_at_succ
set_option maxHeartbeats 2000000 in
theorem zcmp_calls (w : World) (va vb : Value) (x y : Int) (k m : Nat) (hx : RawI w va x k) (hy : RawI w vb y m) (hk : k <= 200000000) (hm : m <= 200000000) :
 Calls Tryz.prog 139 #[va, vb] w (RetV w (.int .i64 (cmpZ x y))) := by
 have hlx := hx.limbs_le; have hly := hy.limbs_le
 obtain ⟨c, hc⟩ : ∃ c, cmpZ x y = c := ⟨_, rfl⟩
 rw [hc]
 have HC := hide hc
 clear hc
 have HX := hide hx; have HY := hide hy
 obtain ⟨n1, A1, m1, c1, rfl⟩ := hx.open_
 obtain ⟨n2, A2, m2, c2, rfl⟩ := hy.open_
 clear hx hy
 go_enter Tryz.func139, Tryz.ntmps139
 go_wp2_with fail
 obtain ⟨W0, hW0⟩ : ∃ W0, W0 = ((w.alloc (Obj.cells #[Value.bool n1, Value.slice A1 m1 c1] 65)).alloc (Obj.cells #[Value.bool n2, Value.slice A2 m2 c2] 65)) := ⟨_, rfl⟩
 obtain ⟨hb0, r1, r2, hsz⟩ := boxes2 w [.bool n1, .slice A1 m1 c1] [.bool n2, .slice A2 m2 c2] 65 65 hW0
 rw [<- hW0]
 have R2 := hide r2; have B0 := hide hb0
 clear hW0 r1 r2 hb0
 refine (zplain_calls _ _ x k (HX.out.later B0.out) (by omega)).mono ?_
 rintro e w1 ⟨v1, rfl, o1, b1⟩
 obtain ⟨s1, P1, q1, e1, rfl, o1⟩ := o1.open_
 have O1 := hide o1; clear o1
 obtain ⟨d5, d6, d7, d8⟩ := row_cells2 (R2.out.later (b1.alloc (Obj.cells #[Value.bool s1, Value.slice P1 q1 e1] 65)))
 have hs1 := b1.size
 go_wp2_with fail
 obtain ⟨V1, hV1⟩ : ∃ V1, V1 = w1.alloc (Obj.cells #[Value.bool s1, Value.slice P1 q1 e1] 65) := ⟨_, rfl⟩
 have c1' : Later w1 V1 := by rw [hV1]; exact (Later.refl w1).alloc _
 have r5 : Row V1 w1.heap.size 65 [.bool s1, .slice P1 q1 e1] := by rw [hV1]; exact Row.new w1 _ _
 have hsV1 : V1.heap.size = w1.heap.size + 1 := by rw [hV1]; simp
 rw [<- hV1]
 have R5 := hide r5; have C1 := hide c1'
 clear hV1 r5 c1' d5 d6 d7 d8
 refine (zplain_calls _ _ y m (HY.out.later (B0.out.trans (b1.trans C1.out))) (by omega)).mono ?_
 rintro e w2 ⟨v2, rfl, o2, b2⟩
 obtain ⟨s2, P2, q2, e2, rfl, o2⟩ := o2.open_
 have O2 := hide o2; clear o2
 obtain ⟨d1, d2, d3, d4⟩ := row_cells2 (R5.out.later (b2.alloc (Obj.cells #[Value.bool s2, Value.slice P2 q2 e2] 65)))
 have hs2 := b2.size
 have hL := (B0.out.trans (b1.trans C1.out)).trans b2
 have HS1 := hide O1.out.sign; have HS2 := hide O2.out.sign
 have OX : Hid (U32s (w2.alloc (Obj.cells #[Value.bool s2, Value.slice P2 q2 e2] 65)) (.slice P1 q1 e1) (limbs x.natAbs)) := hide (((O1.out.own.reads.later C1.out).later b2).later ((Later.refl _).alloc _))
 have OY : Hid (U32s (w2.alloc (Obj.cells #[Value.bool s2, Value.slice P2 q2 e2] 65)) (.slice P2 q2 e2) (limbs y.natAbs)) := hide (O2.out.own.reads.later ((Later.refl _).alloc _))
 have hL2 := Later.alloc hL (Obj.cells #[Value.bool s2, Value.slice P2 q2 e2] 65)
 by_cases hx0 : x < 0
 ·have e1 : s1 = true := by rw [HS1.out]; simpa using hx0
  subst e1
  by_cases hy0 : y < 0
  ·have e2 : s2 = true := by rw [HS2.out]; simpa using hy0
   subst e2
   have hcn : cmpN x.natAbs y.natAbs = -c := by rw [<- HC.out]; unfold cmpN cmpZ; (repeat' split) <;> omega
   have HCN := hide hcn
   have hcb : -1 <= c /\ c <= 1 := by rw [<- HC.out]; unfold cmpZ; (repeat' split) <;> omega
   obtain ⟨hc1, hc2⟩ := hcb
   clear hcn
   go_wp2_with fail
   refine (rcmpN_calls _ _ _ (limbs x.natAbs) (limbs y.natAbs) OX.out OY.out (by omega) (by omega) (-c) (by rw [val_limbs, val_limbs]; exact HCN.out)).mono ?_
   rintro e w3 ⟨rfl, b3⟩
   obtain ⟨g1, g2, g3, g4⟩ := row_cells2 ((R5.out.later (b2.alloc _)).later b3)
   go_wp2_with fail
   go_ret
   exact ⟨by simp, hL2.trans b3⟩
  ·have e2 : s2 = false := by rw [HS2.out]; simpa using hy0
   subst e2
   have hcn : c = -1 := by rw [<- HC.out]; unfold cmpZ; rw [if_pos (by omega)]
   have HCN := hide hcn
   clear hcn
   go_wp2_with fail
   go_ret
   exact ⟨by rw [HCN.out]; rfl, hL2⟩
 ·have e1 : s1 = false := by rw [HS1.out]; simpa using hx0
  subst e1
  by_cases hy0 : y < 0
  ·have e2 : s2 = true := by rw [HS2.out]; simpa using hy0
   subst e2
   have hcn : c = 1 := by rw [<- HC.out]; unfold cmpZ; rw [if_neg (by omega), if_pos (by omega)]
   have HCN := hide hcn
   clear hcn
   go_wp2_with fail
   go_ret
   exact ⟨by rw [HCN.out]; rfl, hL2⟩
  ·have e2 : s2 = false := by rw [HS2.out]; simpa using hy0
   subst e2
   have hcn : cmpN x.natAbs y.natAbs = c := by rw [<- HC.out]; unfold cmpN cmpZ; (repeat' split) <;> omega
   have HCN := hide hcn
   clear hcn
   go_wp2_with fail
   refine (rcmpN_calls _ _ _ (limbs x.natAbs) (limbs y.natAbs) OX.out OY.out (by omega) (by omega) c (by rw [val_limbs, val_limbs]; exact HCN.out)).mono ?_
   rintro e w3 ⟨rfl, b3⟩
   obtain ⟨g1, g2, g3, g4⟩ := row_cells2 ((R5.out.later (b2.alloc _)).later b3)
   go_wp2_with fail
   go_ret
   exact ⟨rfl, hL2.trans b3⟩
end Go.Proofs.YtncbebfhakcgdaaGreat
namespace Go.Proofs.YtncbebfhakcgdaaGreat
open Go.RowKit Go.Shelf
attribute [local go_sem ↓] Go.wp_at_zero Go.wp_at_succ
end Go.Proofs.YtncbebfhakcgdaaGreat
namespace Go.Proofs.YtncbebfhakcgdaaGreat
open Go.RowKit
section
variable {P : Program} {ops : Array Oper} {Q : Exit -> Act -> World -> Prop} {md : Region.Mode} {S : World -> Prop} {nf : List Nat}
def wpAnyN (P : Program) (md : Region.Mode) (ops : Array Oper) (Q : Exit -> Act -> World -> Prop) (S : World -> Prop) (nf : List Nat) : Nat -> Array Bool -> Act -> World -> Prop
 | 0, listed, a, w => Region.ready md ops listed = [] /\ Q .normal a w
 | fuel + 1, listed, a, w =>
   (Region.ready md ops listed = [] -> Q .normal a w) /\
   ∀ i ∈ Region.ready md ops listed, wpOp P ops Q i (fun a' w' => (nf.contains i = false -> S w') /\ wpAnyN P md ops Q S nf fuel (listed.setIfInBounds i true) a' w') a w
theorem wpAny_of_N : ∀ (fuel : Nat) (listed : Array Bool) (a : Act) (w : World), wpAnyN P md ops Q S nf fuel listed a w -> wpAny P md ops Q fuel listed a w
 | 0, _, _, _, h => h
 | fuel + 1, _, _, _, h => ⟨h.1, fun i hi => wpOp_mono (fun a' w' h' => wpAny_of_N fuel _ a' w' h'.2) (h.2 i hi)⟩
def behind (md : Region.Mode) (ops : Array Oper) (nf : List Nat) (i : Nat) : Bool :=
 nf.all fun j => match ops[j]? with | none => true | some o => o.after.any fun e => Region.binds md e && e.on == i
theorem wpAnyN_first {i : Nat} {oi : Oper} {v : Value} (hi : ops[i]? = some oi) (hsel : ∀ (j : Nat) (o : Oper) cs b, ops[j]? = some o -> o.op ≠ .select cs b)
 (hQ : ∀ c a w, Q (.panic c) (a.put oi.dst v) w -> Q (.panic c) a w) (hbe : behind md ops nf i = true) :
 ∀ (fuel : Nat) (listed : Array Bool) (a : Act) (w : World),
   (∀ j oj, ops[j]? = some oj -> j ≠ i -> listed.getD j true = false -> (∀ e ∈ oj.after, Region.binds md e = true -> e.on ≠ i) -> oi.apart ops oj = true) ->
   i ∈ Region.ready md ops listed -> YieldsIf P ops S oi v a -> S w ->
   wpAnyN P md ops Q S nf fuel (listed.setIfInBounds i true) (a.put oi.dst v) w -> wpAnyN P md ops Q S nf (fuel + 1) listed a w := by
 intro fuel
 induction fuel with
 | zero =>
   intro listed a w _ hr hy hS H
   refine ⟨fun h => (by rw [h] at hr; cases hr), fun j hj => ?_⟩
   by_cases hji : j = i
   ·subst hji; exact hy.wpOp hi hS ⟨fun _ => hS, H⟩
   ·have := ready_mono hj hji
    rw [H.1] at this
    cases this
 | succ fuel ih =>
   intro listed a w hfree hr hy hS H
   refine ⟨fun h => (by rw [h] at hr; cases hr), fun j hj => ?_⟩
   by_cases hji : j = i
   ·subst hji; exact hy.wpOp hi hS ⟨fun _ => hS, H⟩
   ·have h1 := H.2 j (ready_mono hj hji)
    obtain ⟨hjun, oj, hoj, hall⟩ := mem_ready.1 hj
    have hnot : ∀ e ∈ oj.after, Region.binds md e = true -> e.on ≠ i := fun e he hb heq => by
     have h1 := hall e he hb
     have h0 := (mem_ready.1 hr).1
     rw [heq] at h1
     rcases Nat.lt_or_ge i listed.size with h' | h'
     ·simp [h'] at h0 h1; rw [h0] at h1; cases h1
     ·simp [Array.getElem?_eq_none h'] at h1
    have hnf : nf.contains j = false := by
     cases hc : nf.contains j with
     | false => rfl
     | true =>
       have hm : j ∈ nf := by simpa using hc
       have hb := List.all_eq_true.1 hbe j hm
       rw [hoj] at hb
       simp only [Array.any_eq_true] at hb
       obtain ⟨k, hk, hb⟩ := hb
       rw [Bool.and_eq_true] at hb
       exact absurd (by simpa using hb.2) (hnot _ (Array.getElem_mem hk) hb.1)
    have h2 := wpOp_putIf hoj (hfree j oj hoj hji hjun hnot) (fun cs b => hsel i oi cs b hi) (fun cs b => hsel j oj cs b hoj) hQ hy h1
    have hfree' : ∀ k ok, ops[k]? = some ok -> k ≠ i -> (listed.setIfInBounds j true).getD k true = false ->
     (∀ e ∈ ok.after, Region.binds md e = true -> e.on ≠ i) -> oi.apart ops ok = true := fun k ok hk hki hun hno => by
     refine hfree k ok hk hki ?_ hno
     by_cases hjk : j = k
     ·subst hjk; exact hjun
     ·rw [getD_set_ne true hjk] at hun; exact hun
    refine wpOp_mono (fun a' w' h3 => ⟨h3.2.1, ih (listed.setIfInBounds j true) a' w' hfree' (ready_mono hr (Ne.symm hji)) h3.1 (h3.2.1 hnf) ?_⟩) h2
    rw [Array.setIfInBounds_comm _ _ hji]
    exact h3.2.2
theorem wpAnyN_take {i : Nat} {oi : Oper} {v : Value} {fuel : Nat} {listed : Array Bool} {a : Act} {w : World} (hi : ops[i]? = some oi)
 (hs : Region.noSelect ops = true) (hf : Region.free md ops listed i = true) (hb : behind md ops nf i = true) (hr : (Region.ready md ops listed).contains i = true)
 (hQ : ∀ c a w, Q (.panic c) (a.put oi.dst v) w -> Q (.panic c) a w) (hy : YieldsIf P ops S oi v a) (hS : S w)
 (h : wpAnyN P md ops Q S nf fuel (listed.setIfInBounds i true) (a.put oi.dst v) w) : wpAnyN P md ops Q S nf (fuel + 1) listed a w :=
 wpAnyN_first hi (Region.noSelect_spec hs) hQ hb fuel listed a w (Region.free_spec hi hf) (by simpa using hr) hy hS h
def AllReadyN (P : Program) (md : Region.Mode) (ops : Array Oper) (Q : Exit -> Act -> World -> Prop) (S : World -> Prop) (nf : List Nat) (fuel : Nat) (listed : Array Bool) (a : Act) (w : World) (rs : List Nat) : Prop :=
 ∀ i ∈ rs, wpOp P ops Q i (fun a' w' => (nf.contains i = false -> S w') /\ wpAnyN P md ops Q S nf fuel (listed.setIfInBounds i true) a' w') a w
theorem AllReadyN.nil {fuel : Nat} {listed : Array Bool} {a : Act} {w : World} : AllReadyN P md ops Q S nf fuel listed a w [] := fun _ h => by cases h
theorem AllReadyN.held {fuel : Nat} {listed : Array Bool} {a : Act} {w : World} {i : Nat} {o : Oper} {rs : List Nat} (ho : ops[i]? = some o) (hw : Region.wanted o (yielded ops a.tmps) = true)
 (h : ∀ K : Act -> World -> Prop, Hid (∀ a' w', S w' -> (S w' -> wpAnyN P md ops Q S nf fuel (listed.setIfInBounds i true) a' w') -> K a' w') -> o.wp P a w K Q)
 (hs : AllReadyN P md ops Q S nf fuel listed a w rs) : AllReadyN P md ops Q S nf fuel listed a w (i :: rs) := fun j hj => by
 rcases List.mem_cons.1 hj with rfl | hj
 ·unfold wpOp
  simp only [ho, hw, if_true]
  exact .inl (h _ (fun a' w' hS hk => ⟨fun _ => hS, hk hS⟩))
 ·exact hs j hj
theorem AllReadyN.free {fuel : Nat} {listed : Array Bool} {a : Act} {w : World} {i : Nat} {o : Oper} {rs : List Nat} (ho : ops[i]? = some o) (hw : Region.wanted o (yielded ops a.tmps) = true) (hnf : nf.contains i = true)
 (h : ∀ K : Act -> World -> Prop, Hid (∀ a' w', wpAnyN P md ops Q S nf fuel (listed.setIfInBounds i true) a' w' -> K a' w') -> o.wp P a w K Q)
 (hs : AllReadyN P md ops Q S nf fuel listed a w rs) : AllReadyN P md ops Q S nf fuel listed a w (i :: rs) := fun j hj => by
 rcases List.mem_cons.1 hj with rfl | hj
 ·unfold wpOp
  simp only [ho, hw, if_true]
  exact .inl (h _ (fun a' w' hk => ⟨fun hc => (by rw [hnf] at hc; cases hc), hk⟩))
 ·exact hs j hj
theorem wpAnyN_ready {rs : List Nat} {fuel : Nat} {listed : Array Bool} {a : Act} {w : World} (hr : Region.ready md ops listed = rs) (hne : rs ≠ [])
 (h : AllReadyN P md ops Q S nf fuel listed a w rs) : wpAnyN P md ops Q S nf (fuel + 1) listed a w :=
 ⟨fun h0 => absurd (hr ▸ h0) hne, hr ▸ h⟩
theorem wpAnyN_done {listed : Array Bool} {a : Act} {w : World} (hr : Region.ready md ops listed = []) (h : Q .normal a w) :
 ∀ fuel, wpAnyN P md ops Q S nf fuel listed a w
 | 0 => ⟨hr, h⟩
 | _ + 1 => ⟨fun _ => h, by rw [hr]; simp⟩
theorem wp_region_N {id : Nat} {a : Act} {w : World} (S : World -> Prop) (nf : List Nat) (hm : P.follows .mixedOrders = true) (hS : S w.drew)
 (h : S w.drew -> wpAnyN P .any ops Q S nf ops.size (Array.replicate ops.size false) a w.drew) : (Code.region id ops true).wp P Q a w :=
 wp_region_any hm (wpAny_of_N _ _ _ _ (h hS))
end
end Go.Proofs.YtncbebfhakcgdaaGreat
namespace Go.Proofs.YtncbebfhakcgdaaGreat
open Go.RowKit
theorem lt_ {a b : World} (h : Later a b := by first | assumption | (repeat (first | assumption | exact Later.refl _ | apply Later.drew | refine Later.alloc ?_ _))) : Later a b := h
theorem tkN {P : Program} {md : Region.Mode} {ops : Array Oper} {Q : Exit -> Act -> World -> Prop} {S : World -> Prop} {nf : List Nat} {fuel : Nat} {listed : Array Bool} {a : Act} {w : World} (d : Nat) (i : Nat) {oi : Oper} {v : Value} (hy : ∀ w, S w -> (execOp a.eval oi).run P w = .ok (.value v) w)
 (h : wpAnyN P md ops Q S nf fuel (listed.setIfInBounds i true) (a.put (some d) v) w) (hi : ops[i]? = some oi := by rfl) (hw : Region.wanted oi (yielded ops a.tmps) = true := by rfl) (hd : oi.dst = some d := by rfl)
 (hs : Region.noSelect ops = true := by kernel_rfl) (hf : Region.free md ops listed i = true := by kernel_rfl) (hb : behind md ops nf i = true := by kernel_rfl) (hr : (Region.ready md ops listed).contains i = true := by kernel_rfl)
 (hQ : ∀ c a w, Q (.panic c) (a.put oi.dst v) w -> Q (.panic c) a w := by exact fun _ _ _ h => h) (hS : S w := by assumption) : wpAnyN P md ops Q S nf (fuel + 1) listed a w :=
 wpAnyN_take hi hs hf hb hr hQ (Or.inl ⟨hw, hy⟩) hS (by rw [hd]; exact h)
theorem tkU {P : Program} {md : Region.Mode} {ops : Array Oper} {Q : Exit -> Act -> World -> Prop} {S : World -> Prop} {nf : List Nat} {fuel : Nat} {listed : Array Bool} {a : Act} {w : World} (d : Nat) (i : Nat) {oi : Oper} 
 (h : wpAnyN P md ops Q S nf fuel (listed.setIfInBounds i true) (a.put (some d) undef) w) (hi : ops[i]? = some oi := by rfl) (hw : Region.wanted oi (yielded ops a.tmps) = false := by rfl) (hd : oi.dst = some d := by rfl)
 (hs : Region.noSelect ops = true := by kernel_rfl) (hf : Region.free md ops listed i = true := by kernel_rfl) (hb : behind md ops nf i = true := by kernel_rfl) (hr : (Region.ready md ops listed).contains i = true := by kernel_rfl)
 (hQ : ∀ c a w, Q (.panic c) (a.put oi.dst undef) w -> Q (.panic c) a w := by exact fun _ _ _ h => h) (hS : S w := by assumption) : wpAnyN P md ops Q S nf (fuel + 1) listed a w :=
 wpAnyN_take hi hs hf hb hr hQ (Or.inr ⟨hw, rfl⟩) hS (by rw [hd]; exact h)
theorem tkA {P : Program} {md : Region.Mode} {ops : Array Oper} {Q : Exit -> Act -> World -> Prop} {S : World -> Prop} {nf : List Nat} {fuel : Nat} {listed : Array Bool} {a : Act} {w : World} (d : Nat) (i : Nat) {oi : Oper} {v : Value}
 (h : wpAnyN P md ops Q S nf fuel (listed.setIfInBounds i true) (a.put (some d) v) w) (hi : ops[i]? = some oi := by rfl) (hy : ∀ w, S w -> (execOp a.eval oi).run P w = .ok (.value v) w := by (intro w hSw; (try dsimp only at hSw); go_simp; first | done | with_reducible rfl)) (hw : Region.wanted oi (yielded ops a.tmps) = true := by rfl) (hd : oi.dst = some d := by rfl)
 (hs : Region.noSelect ops = true := by kernel_rfl) (hf : Region.free md ops listed i = true := by kernel_rfl) (hb : behind md ops nf i = true := by kernel_rfl) (hr : (Region.ready md ops listed).contains i = true := by kernel_rfl)
 (hQ : ∀ c a w, Q (.panic c) (a.put oi.dst v) w -> Q (.panic c) a w := by exact fun _ _ _ h => h) (hS : S w := by assumption) : wpAnyN P md ops Q S nf (fuel + 1) listed a w :=
 wpAnyN_take hi hs hf hb hr hQ (Or.inl ⟨hw, hy⟩) hS (by rw [hd]; exact h)
theorem tkB {P : Program} {md : Region.Mode} {ops : Array Oper} {Q : Exit -> Act -> World -> Prop} {S : World -> Prop} {nf : List Nat} {fuel : Nat} {listed l' : Array Bool} {a a' : Act} {w : World} (d : Nat) (i : Nat) {oi : Oper} {v : Value}
 (h : wpAnyN P md ops Q S nf fuel l' a' w) (hi : ops[i]? = some oi := by rfl) (hy : ∀ w, S w -> (execOp a.eval oi).run P w = .ok (.value v) w := by (intro w hSw; (try dsimp only at hSw); go_simp; first | done | with_reducible rfl)) (hw : Region.wanted oi (yielded ops a.tmps) = true := by rfl) (hd : oi.dst = some d := by rfl)
 (hp : a.put (some d) v = a' := by (first | (simp only [Act.put, List.setIfInBounds_toArray, List.set_cons_zero, List.set_cons_succ] <;> rfl) | rfl)) (hl : listed.setIfInBounds i true = l' := by (first | (simp only [List.setIfInBounds_toArray, List.set_cons_zero, List.set_cons_succ] <;> rfl) | rfl))
 (hs : Region.noSelect ops = true := by kernel_rfl) (hf : Region.free md ops listed i = true := by kernel_rfl) (hb : behind md ops nf i = true := by kernel_rfl) (hr : (Region.ready md ops listed).contains i = true := by kernel_rfl)
 (hQ : ∀ c a w, Q (.panic c) (a.put oi.dst v) w -> Q (.panic c) a w := by exact fun _ _ _ h => h) (hS : S w := by assumption) : wpAnyN P md ops Q S nf (fuel + 1) listed a w :=
 wpAnyN_take hi hs hf hb hr hQ (Or.inl ⟨hw, hy⟩) hS (by rw [hd, hp, hl]; exact h)
theorem s1_ {α : Type _} (l : List α) (i : Nat) (a : α) : l.toArray.setIfInBounds i a = (l.set i a).toArray := by simp
theorem s2_ {α : Type _} (a b : α) (l : List α) : (a :: l).set 0 b = b :: l := rfl
theorem s3_ {α : Type _} (a b : α) (l : List α) (n : Nat) : (a :: l).set (n + 1) b = a :: l.set n b := rfl
end Go.Proofs.YtncbebfhakcgdaaGreat
namespace Go.Proofs.YtncbebfhakcgdaaGreat
open Go.RowKit
section
variable {P : Program} {ops : Array Oper} {Q : Exit -> Act -> World -> Prop} {md : Region.Mode} {S : World -> Prop} {nf : List Nat}
def wpAnyM (P : Program) (md : Region.Mode) (ops : Array Oper) (Q : Exit -> Act -> World -> Prop) (S : World -> Prop) (nf : List Nat) : Nat -> Array Bool -> Act -> World -> Prop
 | 0, listed, a, w => Region.ready md ops listed = [] /\ Q .normal a w
 | fuel + 1, listed, a, w =>
   (Region.ready md ops listed = [] -> Q .normal a w) /\
   ∀ i ∈ Region.ready md ops listed, wpOp P ops Q i (fun a' w' => (S w -> nf.contains i = false -> S w') /\ wpAnyM P md ops Q S nf fuel (listed.setIfInBounds i true) a' w') a w
theorem wpAny_of_M : ∀ (fuel : Nat) (listed : Array Bool) (a : Act) (w : World), wpAnyM P md ops Q S nf fuel listed a w -> wpAny P md ops Q fuel listed a w
 | 0, _, _, _, h => h
 | fuel + 1, _, _, _, h => ⟨h.1, fun i hi => wpOp_mono (fun a' w' h' => wpAny_of_M fuel _ a' w' h'.2) (h.2 i hi)⟩
theorem wpAnyM_first {i : Nat} {oi : Oper} {v : Value} (hi : ops[i]? = some oi) (hsel : ∀ (j : Nat) (o : Oper) cs b, ops[j]? = some o -> o.op ≠ .select cs b)
 (hQ : ∀ c a w, Q (.panic c) (a.put oi.dst v) w -> Q (.panic c) a w) (hbe : behind md ops nf i = true) :
 ∀ (fuel : Nat) (listed : Array Bool) (a : Act) (w : World),
   (∀ j oj, ops[j]? = some oj -> j ≠ i -> listed.getD j true = false -> (∀ e ∈ oj.after, Region.binds md e = true -> e.on ≠ i) -> oi.apart ops oj = true) ->
   i ∈ Region.ready md ops listed -> YieldsIf P ops S oi v a -> S w ->
   wpAnyM P md ops Q S nf fuel (listed.setIfInBounds i true) (a.put oi.dst v) w -> wpAnyM P md ops Q S nf (fuel + 1) listed a w := by
 intro fuel
 induction fuel with
 | zero =>
   intro listed a w _ hr hy hS H
   refine ⟨fun h => (by rw [h] at hr; cases hr), fun j hj => ?_⟩
   by_cases hji : j = i
   ·subst hji; exact hy.wpOp hi hS ⟨fun _ _ => hS, H⟩
   ·have := ready_mono hj hji
    rw [H.1] at this
    cases this
 | succ fuel ih =>
   intro listed a w hfree hr hy hS H
   refine ⟨fun h => (by rw [h] at hr; cases hr), fun j hj => ?_⟩
   by_cases hji : j = i
   ·subst hji; exact hy.wpOp hi hS ⟨fun _ _ => hS, H⟩
   ·have h1 := H.2 j (ready_mono hj hji)
    obtain ⟨hjun, oj, hoj, hall⟩ := mem_ready.1 hj
    have hnot : ∀ e ∈ oj.after, Region.binds md e = true -> e.on ≠ i := fun e he hb heq => by
     have h1 := hall e he hb
     have h0 := (mem_ready.1 hr).1
     rw [heq] at h1
     rcases Nat.lt_or_ge i listed.size with h' | h'
     ·simp [h'] at h0 h1; rw [h0] at h1; cases h1
     ·simp [Array.getElem?_eq_none h'] at h1
    have hnf : nf.contains j = false := by
     cases hc : nf.contains j with
     | false => rfl
     | true =>
       have hm : j ∈ nf := by simpa using hc
       have hb := List.all_eq_true.1 hbe j hm
       rw [hoj] at hb
       simp only [Array.any_eq_true] at hb
       obtain ⟨k, hk, hb⟩ := hb
       rw [Bool.and_eq_true] at hb
       exact absurd (by simpa using hb.2) (hnot _ (Array.getElem_mem hk) hb.1)
    have h2 := wpOp_putIf hoj (hfree j oj hoj hji hjun hnot) (fun cs b => hsel i oi cs b hi) (fun cs b => hsel j oj cs b hoj) hQ hy h1
    have hfree' : ∀ k ok, ops[k]? = some ok -> k ≠ i -> (listed.setIfInBounds j true).getD k true = false ->
     (∀ e ∈ ok.after, Region.binds md e = true -> e.on ≠ i) -> oi.apart ops ok = true := fun k ok hk hki hun hno => by
     refine hfree k ok hk hki ?_ hno
     by_cases hjk : j = k
     ·subst hjk; exact hjun
     ·rw [getD_set_ne true hjk] at hun; exact hun
    refine wpOp_mono (fun a' w' h3 => ⟨h3.2.1, ih (listed.setIfInBounds j true) a' w' hfree' (ready_mono hr (Ne.symm hji)) h3.1 (h3.2.1 hS hnf) ?_⟩) h2
    rw [Array.setIfInBounds_comm _ _ hji]
    exact h3.2.2
theorem wpAnyM_take {i : Nat} {oi : Oper} {v : Value} {fuel : Nat} {listed : Array Bool} {a : Act} {w : World} (hi : ops[i]? = some oi)
 (hs : Region.noSelect ops = true) (hf : Region.free md ops listed i = true) (hb : behind md ops nf i = true) (hr : (Region.ready md ops listed).contains i = true)
 (hQ : ∀ c a w, Q (.panic c) (a.put oi.dst v) w -> Q (.panic c) a w) (hy : YieldsIf P ops S oi v a) (hS : S w)
 (h : wpAnyM P md ops Q S nf fuel (listed.setIfInBounds i true) (a.put oi.dst v) w) : wpAnyM P md ops Q S nf (fuel + 1) listed a w :=
 wpAnyM_first hi (Region.noSelect_spec hs) hQ hb fuel listed a w (Region.free_spec hi hf) (by simpa using hr) hy hS h
theorem wpAnyM_firstP {i : Nat} {oi : Oper} {v : Value} (hi : ops[i]? = some oi) (hsel : ∀ (j : Nat) (o : Oper) cs b, ops[j]? = some o -> o.op ≠ .select cs b)
 (hQ : ∀ c a w, Q (.panic c) (a.put oi.dst v) w -> Q (.panic c) a w) :
 ∀ (fuel : Nat) (listed : Array Bool) (a : Act) (w : World),
   (∀ j oj, ops[j]? = some oj -> j ≠ i -> listed.getD j true = false -> (∀ e ∈ oj.after, Region.binds md e = true -> e.on ≠ i) -> oi.apart ops oj = true) ->
   i ∈ Region.ready md ops listed -> YieldsIf P ops (fun _ => True) oi v a ->
   wpAnyM P md ops Q S nf fuel (listed.setIfInBounds i true) (a.put oi.dst v) w -> wpAnyM P md ops Q S nf (fuel + 1) listed a w := by
 intro fuel
 induction fuel with
 | zero =>
   intro listed a w _ hr hy H
   refine ⟨fun h => (by rw [h] at hr; cases hr), fun j hj => ?_⟩
   by_cases hji : j = i
   ·subst hji; exact hy.wpOp hi trivial ⟨fun h _ => h, H⟩
   ·have := ready_mono hj hji
    rw [H.1] at this
    cases this
 | succ fuel ih =>
   intro listed a w hfree hr hy H
   refine ⟨fun h => (by rw [h] at hr; cases hr), fun j hj => ?_⟩
   by_cases hji : j = i
   ·subst hji; exact hy.wpOp hi trivial ⟨fun h _ => h, H⟩
   ·have h1 := H.2 j (ready_mono hj hji)
    obtain ⟨hjun, oj, hoj, hall⟩ := mem_ready.1 hj
    have hnot : ∀ e ∈ oj.after, Region.binds md e = true -> e.on ≠ i := fun e he hb heq => by
     have h1 := hall e he hb
     have h0 := (mem_ready.1 hr).1
     rw [heq] at h1
     rcases Nat.lt_or_ge i listed.size with h' | h'
     ·simp [h'] at h0 h1; rw [h0] at h1; cases h1
     ·simp [Array.getElem?_eq_none h'] at h1
    have h2 := wpOp_putIf hoj (hfree j oj hoj hji hjun hnot) (fun cs b => hsel i oi cs b hi) (fun cs b => hsel j oj cs b hoj) hQ hy h1
    have hfree' : ∀ k ok, ops[k]? = some ok -> k ≠ i -> (listed.setIfInBounds j true).getD k true = false ->
     (∀ e ∈ ok.after, Region.binds md e = true -> e.on ≠ i) -> oi.apart ops ok = true := fun k ok hk hki hun hno => by
     refine hfree k ok hk hki ?_ hno
     by_cases hjk : j = k
     ·subst hjk; exact hjun
     ·rw [getD_set_ne true hjk] at hun; exact hun
    refine wpOp_mono (fun a' w' h3 => ⟨h3.2.1, ih (listed.setIfInBounds j true) a' w' hfree' (ready_mono hr (Ne.symm hji)) h3.1 ?_⟩) h2
    rw [Array.setIfInBounds_comm _ _ hji]
    exact h3.2.2
theorem wpAnyM_takeD {i : Nat} {oi : Oper} {v : Value} {fuel : Nat} {listed : Array Bool} {a : Act} {w : World} (d : Option Nat) (hd : oi.dst = d) (hi : ops[i]? = some oi)
 (hs : Region.noSelect ops = true) (hf : Region.free md ops listed i = true) (hb : behind md ops nf i = true) (hr : (Region.ready md ops listed).contains i = true)
 (hQ : ∀ c a w, Q (.panic c) (a.put oi.dst v) w -> Q (.panic c) a w) (hy : YieldsIf P ops S oi v a) (hS : S w)
 (h : wpAnyM P md ops Q S nf fuel (listed.setIfInBounds i true) (a.put d v) w) : wpAnyM P md ops Q S nf (fuel + 1) listed a w :=
 wpAnyM_take hi hs hf hb hr hQ hy hS (by rw [hd]; exact h)
theorem wpAnyM_takeP {i : Nat} {oi : Oper} {v : Value} {fuel : Nat} {listed : Array Bool} {a : Act} {w : World} (d : Option Nat) (hd : oi.dst = d) (hi : ops[i]? = some oi)
 (hs : Region.noSelect ops = true) (hf : Region.free md ops listed i = true) (hr : (Region.ready md ops listed).contains i = true)
 (hQ : ∀ c a w, Q (.panic c) (a.put oi.dst v) w -> Q (.panic c) a w) (hy : YieldsIf P ops (fun _ => True) oi v a)
 (h : wpAnyM P md ops Q S nf fuel (listed.setIfInBounds i true) (a.put d v) w) : wpAnyM P md ops Q S nf (fuel + 1) listed a w :=
 wpAnyM_firstP hi (Region.noSelect_spec hs) hQ fuel listed a w (Region.free_spec hi hf) (by simpa using hr) hy (by rw [hd]; exact h)
def AllReadyM (P : Program) (md : Region.Mode) (ops : Array Oper) (Q : Exit -> Act -> World -> Prop) (S : World -> Prop) (nf : List Nat) (fuel : Nat) (listed : Array Bool) (a : Act) (w : World) (rs : List Nat) : Prop :=
 ∀ i ∈ rs, wpOp P ops Q i (fun a' w' => (S w -> nf.contains i = false -> S w') /\ wpAnyM P md ops Q S nf fuel (listed.setIfInBounds i true) a' w') a w
theorem AllReadyM.nil {fuel : Nat} {listed : Array Bool} {a : Act} {w : World} : AllReadyM P md ops Q S nf fuel listed a w [] := fun _ h => by cases h
theorem AllReadyM.held {fuel : Nat} {listed : Array Bool} {a : Act} {w : World} {i : Nat} {o : Oper} {rs : List Nat} (ho : ops[i]? = some o) (hw : Region.wanted o (yielded ops a.tmps) = true)
 (h : ∀ K : Act -> World -> Prop, Hid (∀ a' w', S w' -> (S w' -> wpAnyM P md ops Q S nf fuel (listed.setIfInBounds i true) a' w') -> K a' w') -> o.wp P a w K Q)
 (hs : AllReadyM P md ops Q S nf fuel listed a w rs) : AllReadyM P md ops Q S nf fuel listed a w (i :: rs) := fun j hj => by
 rcases List.mem_cons.1 hj with rfl | hj
 ·unfold wpOp
  simp only [ho, hw, if_true]
  exact .inl (h _ (fun a' w' hS hk => ⟨fun _ _ => hS, hk hS⟩))
 ·exact hs j hj
theorem AllReadyM.free {fuel : Nat} {listed : Array Bool} {a : Act} {w : World} {i : Nat} {o : Oper} {rs : List Nat} (ho : ops[i]? = some o) (hw : Region.wanted o (yielded ops a.tmps) = true) (hnf : nf.contains i = true)
 (h : ∀ K : Act -> World -> Prop, Hid (∀ a' w', wpAnyM P md ops Q S nf fuel (listed.setIfInBounds i true) a' w' -> K a' w') -> o.wp P a w K Q)
 (hs : AllReadyM P md ops Q S nf fuel listed a w rs) : AllReadyM P md ops Q S nf fuel listed a w (i :: rs) := fun j hj => by
 rcases List.mem_cons.1 hj with rfl | hj
 ·unfold wpOp
  simp only [ho, hw, if_true]
  exact .inl (h _ (fun a' w' hk => ⟨fun _ hc => (by rw [hnf] at hc; cases hc), hk⟩))
 ·exact hs j hj
theorem wpAnyM_ready {rs : List Nat} {fuel : Nat} {listed : Array Bool} {a : Act} {w : World} (hr : Region.ready md ops listed = rs) (hne : rs ≠ [])
 (h : AllReadyM P md ops Q S nf fuel listed a w rs) : wpAnyM P md ops Q S nf (fuel + 1) listed a w :=
 ⟨fun h0 => absurd (hr ▸ h0) hne, hr ▸ h⟩
theorem wpAnyM_done {listed : Array Bool} {a : Act} {w : World} (hr : Region.ready md ops listed = []) (h : Q .normal a w) :
 ∀ fuel, wpAnyM P md ops Q S nf fuel listed a w
 | 0 => ⟨hr, h⟩
 | _ + 1 => ⟨fun _ => h, by rw [hr]; simp⟩
theorem wp_region_M {id : Nat} {a : Act} {w : World} (S : World -> Prop) (nf : List Nat) (hm : P.follows .mixedOrders = true) (hS : S w.drew)
 (h : S w.drew -> wpAnyM P .any ops Q S nf ops.size (Array.replicate ops.size false) a w.drew) : (Code.region id ops true).wp P Q a w :=
 wp_region_any hm (wpAny_of_M _ _ _ _ (h hS))
end
end Go.Proofs.YtncbebfhakcgdaaGreat
namespace Go.Proofs.YtncbebfhakcgdaaGreat
open Go.RowKit
attribute [local go_sem ↓] Go.wp_at_zero Go.wp_at_succ
def decL : List Nat -> Nat
 | [] => 0
 | x :: l => x + 10 * decL l
theorem decL_snoc (l : List Nat) (x : Nat) : decL (l ++ [x]) = decL l + 10 ^ l.length * x := by
 induction l with
 | nil => simp [decL]
 | cons y l ih => simp only [List.cons_append, decL, ih, List.length_cons, Nat.pow_succ, Nat.mul_add]; rw [Nat.mul_comm (10 ^ l.length) 10, Nat.mul_assoc]; omega
theorem decL_drop (l : List Nat) (k x : Nat) (hx : l[k]? = some x) : decL (l.drop k) = x + 10 * decL (l.drop (k+1)) := by
 rw [List.getElem?_eq_some_iff] at hx
 obtain ⟨h1, h2⟩ := hx
 rw [List.drop_eq_getElem_cons h1, h2]; rfl
theorem decL_drop_le (l : List Nat) (k : Nat) : decL (l.drop k) <= decL l := by
 induction l generalizing k with
 | nil => simp
 | cons x l ih =>
   cases k with
   | zero => exact Nat.le_refl _
   | succ k => simp only [List.drop_succ_cons, decL]; have := ih k; omega
def OfA (w : World) (n m : Int) (l : Value) (wr : World) : Prop :=
 ∃ L : List Nat, n.natAbs = decL L + 10 ^ L.length * m.natAbs /\ (m < 0 -> n < 0) /\ (0 < m -> 0 < n) /\ (∀ x ∈ L, x < 10) /\ L.length <= 20 /\ OwnNums .u32 160 wr (w.heap.size + 2) l L /\ Later w wr /\
   Row wr w.heap.size 65 [.bool false, .slice none 0 0] /\ Row wr (w.heap.size + 1) 65 [.bool (decide (n < 0)), .slice none 0 0] /\ w.heap.size + 2 <= wr.heap.size
def OfB (w : World) (n : Int) (L : List Nat) (l : Value) (z : Int) (wr : World) : Prop :=
 ∃ A q c, OwnNums .u32 160 wr (w.heap.size + 2) l L /\ Later w wr /\ Row wr w.heap.size 65 [.bool false, .slice none 0 0] /\ Row wr (w.heap.size + 1) 65 [.bool (decide (n < 0)), .slice A q c] /\
   Own32 160 wr (w.heap.size + 2) (.slice A q c) (limbs (decL (L.drop (z+1).toNat))) /\ w.heap.size + 2 <= wr.heap.size
theorem u32_new (W : World) (d : Nat) (hd : d < 4294967296) : U32s (W.alloc (Obj.cells #[Value.int IntKind.u32 (d : Int)] 160)) (.slice (some ⟨W.heap.size, 0, none⟩) 1 1) [d] :=
 ⟨AllLt.cons hd AllLt.nil, (OwnNums.of_row (B := 0) (Row.new W 160 (nums .u32 [d])) (Nat.zero_le _) rfl (by simp [maxLen])).reads⟩
theorem u32_new1 (W : World) (o : Obj) (d : Nat) (hd : d < 4294967296) : U32s ((W.alloc o).alloc (Obj.cells #[Value.int IntKind.u32 (d : Int)] 160)) (.slice (some ⟨W.heap.size + 1, 0, none⟩) 1 1) [d] := by
 have := u32_new (W.alloc o) d hd
 rw [World.size_alloc] at this; exact this
theorem u32_ten (W : World) : U32s (W.alloc (Obj.cells #[Value.int IntKind.u32 10] 160)) (.slice (some ⟨W.heap.size, 0, none⟩) 1 1) [10] := u32_new W 10 (by omega)
theorem u32_ten1 (W : World) (o : Obj) : U32s ((W.alloc o).alloc (Obj.cells #[Value.int IntKind.u32 10] 160)) (.slice (some ⟨W.heap.size + 1, 0, none⟩) 1 1) [10] := u32_new1 W o 10 (by omega)
theorem ownNums_only {q : IntKind} {T : TypeId} {w w' : World} {B g : Nat} {v : Value} {l : List Nat} (h : OwnNums q T w B v l) (o : Only g w w') (hg : g < B) : OwnNums q T w' B v l := ownsRow_only h o hg
theorem Later.size_le {a b : World} (h : Later a b) : a.heap.size <= b.heap.size := Below.size h
theorem small_limbs {x : Nat} (h : x < 9223372036854775809 * 10) : (limbs x).length <= 3 := length_limbs_le (by omega)
set_option maxHeartbeats 4000000 in
theorem zof_calls (w : World) (n : Int) (h1 : -9223372036854775808 <= n) (h2 : n < 9223372036854775808) :
 Calls Tryz.prog 118 #[.int .i64 n] w (Ret w fun w' v => OwnI w' w.heap.size v n) := by
 obtain ⟨neg, hneg⟩ : ∃ neg, neg = decide (n < 0) := ⟨_, rfl⟩
 have hN : n.natAbs < 9223372036854775809 := by omega
 obtain ⟨n0, hn0⟩ : ∃ n0, n0 = n := ⟨_, rfl⟩
 have HN0 := hide hn0
 have hneg0 : neg = decide (n0 < 0) := by rw [hn0]; exact hneg
 have HNEG := hide hneg0
 have hN0 : n0.natAbs < 9223372036854775809 := by rw [hn0]; exact hN
 have hst : ∀ W, W = ((w.alloc (Obj.cells #[Value.bool false, Value.slice none 0 0] 65)).alloc (Obj.cells #[Value.bool neg, Value.slice none 0 0] 65)) -> OfA w n0 n (.slice none 0 0) W := by
  intro W hW
  obtain ⟨hb0, r1, r2, hsz⟩ := boxes2 w [.bool false, .slice none 0 0] [.bool neg, .slice none 0 0] 65 65 hW
  exact ⟨[], by simp [decL, hn0], by rw [hn0]; exact id, by rw [hn0]; exact id, by simp, by simp, OwnNums.nil _ _ _ _, hb0, r1, by rw [<- hneg0]; exact r2, by omega⟩
 have HST := hide hst
 have hneg1 : decide (n < 0) = neg := hneg.symm
 clear hneg hn0 hneg0 hst hN
 suffices HS : Calls Tryz.prog 118 #[.int .i64 n] w (Ret w fun w' v => OwnI w' w.heap.size v n0) by
  rw [HN0.out] at HS; exact HS
 clear HN0
 go_enter Tryz.func118, Tryz.ntmps118
 go_wp2
 go_loopw [0, 4] (fun m l wr => ∃ z : Int, -9223372036854775808 <= z /\ z < 9223372036854775808 /\ m = .int .i64 z /\ Hid (OfA w n0 z l wr)) (fun m _ _ => (intOf m).natAbs)
 case atStart => exact ⟨n, h1, h2, rfl, hide (HST.out _ rfl)⟩
 case round =>
  obtain ⟨m, hm1, hm2, rfl, hA⟩ := hrel
  obtain ⟨L, hsum, hlt, hgt, hL, hL20, hout, hb, r1, r2, hsz⟩ := hA.out
  by_cases hm0 : m = 0
  ·subst hm0
   have hsum2 : n0.natAbs = decL L := by simpa using hsum
   obtain ⟨A0, nl, c0, rfl, hnl⟩ : ∃ A n c, u4 = .slice A n c /\ n = L.length := by
    obtain ⟨A, c, e⟩ := own_len hout; exact ⟨A, _, c, e, rfl⟩
   have HB : Hid (OfB w n0 L (.slice A0 nl c0) ((nl : Int) - 1) wr) := hide ⟨none, 0, 0, hout, hb, r1, r2, by rw [List.drop_eq_nil_of_le (by omega)]; show Own32 _ _ _ _ (limbs 0); rw [limbs_zero]; exact own_nil _ _ _, hsz⟩
   have HSUM := hide hsum2; have HNL := hide hnl
   clear hA hsum hsum2 hout r1 r2 hlt hgt
   rw [<- hnl] at hL20
   clear hnl
   go_wp2_with fail
   go_loopw [6] (fun i wr => ∃ z : Int, -1 <= z /\ z < nl /\ i = .int .i64 z /\ Hid (OfB w n0 L (.slice A0 nl c0) z wr)) (fun i _ => (intOf i + 1).toNat)
   case atStart => exact ⟨_, by omega, by omega, rfl, HB⟩
   case round =>
    obtain ⟨z, hz1, hz2, rfl, hrel⟩ := hrel
    obtain ⟨A, q, c, ol, hbb, r1, r2, ox, hsz2⟩ := hrel.out
    obtain ⟨d1, d2, d3, d4⟩ := row_cells2 r1
    obtain ⟨d5, d6, d7, d8⟩ := row_cells2 r2
    by_cases hz0 : 0 <= z
    ·obtain ⟨k, rfl⟩ := Int.eq_ofNat_of_zero_le hz0
     obtain ⟨-, ca, f1, -, -, hcA⟩ := ol.reads.form
     obtain ⟨A2, c2, f1, hcl, hcm, hcA⟩ := ol.reads.form
     injection f1 with f1 f2 f3
     subst f1 f3
     clear f2
     obtain ⟨b', off, d, rfl, hd, hcell⟩ := num_at hcA (k := k) (by rw [<- HNL.out]; omega)
     have hd10 : d < 10 := hL d (List.mem_of_getElem? hd.out)
     obtain ⟨X, hX⟩ : ∃ X, X = decL (L.drop (k+1)) := ⟨_, rfl⟩
     have hX1 : X < 9223372036854775809 := by rw [hX]; have := decL_drop_le L (k+1); have := HSUM.out; omega
     have hX2 : X * 10 + d = decL (L.drop k) := by rw [decL_drop L k d hd.out, <- hX]; omega
     have hX3 : X * 10 + d < 9223372036854775809 := by rw [hX2]; have := decL_drop_le L k; have := HSUM.out; omega
     have ox2 : Own32 160 wr (w.heap.size + 2) (.slice A q c) (limbs X) := by rw [hX]; exact ox
     have HCC : Hid (∀ w', Later wr w' -> w'.cell? ⟨w.heap.size + 1, 1, none⟩ = some (.slice A q c) /\ w'.cell? ⟨b', off + k, none⟩ = some (.int .u32 (d : Int))) :=
      hide fun w' hb => ⟨(r2.later hb).cell rfl, by exact Later.cell hb hcell⟩
     have OX := hide ox2; have OL := hide ol; have R1 := hide r1; have R2 := hide r2; have HX2 := hide hX2
     have hk0 : (0 : Int) <= (k : Int) := by omega
     have hk1 : (k : Int) < nl := hz2
     have HD := hide hd10
     have D0 : Hid (Later wr wr.drew) := hide (Later.refl wr).drew
     clear hrel ol ox ox2 hX hX2 hcA hcell r1 r2 d1 d2 d3 d4 d5 d6 d7 d8
     go_upto_region 12 with fail
     refine wp_region_N (fun w' => w'.cell? ⟨w.heap.size + 1, 1, none⟩ = some (.slice A q c) /\ w'.cell? ⟨b', off + k, none⟩ = some (.int .u32 (d : Int))) [11] (by kernel_rfl) (HCC.out _ (Later.refl _).drew) (fun hHeld => ?_)
     refine wpAnyN_take (i := 0) (oi := _) (v := ?_) rfl (by kernel_rfl) (by kernel_rfl) (by kernel_rfl) (by kernel_rfl) (fun _ _ _ h => h) (Or.inl ⟨by rfl, ?_⟩) (by assumption) ?_
     rotate_left
     ·intro w hSw; (try dsimp only at hSw); go_simp
      first | done | with_reducible rfl
     try simp only [Act.put, s1_, s2_, s3_]
     refine wpAnyN_take (i := 1) (oi := _) (v := ?_) rfl (by kernel_rfl) (by kernel_rfl) (by kernel_rfl) (by kernel_rfl) (fun _ _ _ h => h) (Or.inl ⟨by rfl, ?_⟩) (by assumption) ?_
     rotate_left
     ·intro w hSw; (try dsimp only at hSw); go_simp
      first | done | with_reducible rfl
     try simp only [Act.put, s1_, s2_, s3_]
     refine wpAnyN_take (i := 4) (oi := _) (v := ?_) rfl (by kernel_rfl) (by kernel_rfl) (by kernel_rfl) (by kernel_rfl) (fun _ _ _ h => h) (Or.inl ⟨by rfl, ?_⟩) (by assumption) ?_
     rotate_left
     ·intro w hSw; (try dsimp only at hSw); go_simp
      first | done | with_reducible rfl
     try simp only [Act.put, s1_, s2_, s3_]
     refine wpAnyN_take (i := 5) (oi := _) (v := ?_) rfl (by kernel_rfl) (by kernel_rfl) (by kernel_rfl) (by kernel_rfl) (fun _ _ _ h => h) (Or.inl ⟨by rfl, ?_⟩) (by assumption) ?_
     rotate_left
     ·intro w hSw; (try dsimp only at hSw); go_simp
      first | done | with_reducible rfl
     try simp only [Act.put, s1_, s2_, s3_]
     refine wpAnyN_take (i := 6) (oi := _) (v := ?_) rfl (by kernel_rfl) (by kernel_rfl) (by kernel_rfl) (by kernel_rfl) (fun _ _ _ h => h) (Or.inl ⟨by rfl, ?_⟩) (by assumption) ?_
     rotate_left
     ·intro w hSw; (try dsimp only at hSw); go_simp
      first | done | with_reducible rfl
     try simp only [Act.put, s1_, s2_, s3_]
     refine wpAnyN_take (i := 7) (oi := _) (v := ?_) rfl (by kernel_rfl) (by kernel_rfl) (by kernel_rfl) (by kernel_rfl) (fun _ _ _ h => h) (Or.inl ⟨by rfl, ?_⟩) (by assumption) ?_
     rotate_left
     ·intro w hSw; (try dsimp only at hSw); go_simp
      first | done | with_reducible rfl
     try simp only [Act.put, s1_, s2_, s3_]
     refine wpAnyN_ready (rs := [2, 8]) (by kernel_rfl) (by simp) ?_
     refine AllReadyN.held rfl (by rfl) (fun K hK => ?_) ?_
     ·go_simp
      refine hK.out _ _ ?_ (fun hHeld => ?_)
      ·exact HCC.out _ (((Later.refl wr).alloc _).drew)
      clear hK K
      try simp only [Act.put, s1_, s2_, s3_]
      refine wpAnyN_ready (rs := [3, 8]) (by kernel_rfl) (by simp) ?_
      refine AllReadyN.held rfl (by rfl) (fun K hK => ?_) ?_
      ·go_simp
       (with_reducible refine (rnmul_calls _ _ _ (limbs X) [10] (OX.out.reads.later ((Later.refl wr).alloc _).drew) ((u32_ten _).later (Later.refl _).drew) (by have := small_limbs (x := X) (by omega); omega) (by simp)).mono ?_)
       rintro e w1 ⟨v1, rfl, o1, b1⟩
       have k1 : Later wr w1 := Later.trans (((Later.refl wr).alloc _).drew) b1
       rw [val_limbs, show val [10] = 10 from rfl] at o1
       obtain ⟨P1, q1, e1, rfl, o1, -⟩ := o1.open_
       have O1 := hide o1
       clear o1
       refine hK.out _ _ ?_ (fun hHeld => ?_)
       ·exact HCC.out _ (k1)
       clear hK K
       try simp only [Act.put, s1_, s2_, s3_]
       refine wpAnyN_ready (rs := [8]) (by kernel_rfl) (by simp) ?_
       refine AllReadyN.held rfl (by rfl) (fun K hK => ?_) AllReadyN.nil
       go_simp
       refine hK.out _ _ ?_ (fun hHeld => ?_)
       ·exact HCC.out _ ((k1.alloc _))
       clear hK K
       try simp only [Act.put, s1_, s2_, s3_]
       refine wpAnyN_ready (rs := [9]) (by kernel_rfl) (by simp) ?_
       refine AllReadyN.held rfl (by rfl) (fun K hK => ?_) AllReadyN.nil
       go_simp
       (with_reducible refine (rnadd_calls _ _ _ (limbs (X * 10)) [d] (O1.out.reads.later ((Later.refl _).alloc _)) (u32_new _ d (by have := HD.out; omega)) (by have := small_limbs (x := X * 10) (by omega); omega) (by simp)).mono ?_)
       rintro e w2 ⟨v2, rfl, o2, b2⟩
       have k2 : Later wr w2 := Later.trans ((k1.alloc _)) b2
       rw [val_limbs, show val [d] = d by simp] at o2
       obtain ⟨P2, q2, e2, rfl, o2, -⟩ := o2.open_
       have O2 := hide o2
       clear o2
       have hsz1 : w.heap.size + 2 <= (w1.alloc (Obj.cells #[Value.int IntKind.u32 (d : Int)] 160)).heap.size := Nat.le_trans hsz2 (Later.size_le ((k1.alloc _)))
       obtain ⟨f1, f2, f3, f4⟩ := row_cells2 (R2.out.later k2)
       refine hK.out _ _ ?_ (fun hHeld => ?_)
       ·exact HCC.out _ (k2)
       clear hK K
       try simp only [Act.put, s1_, s2_, s3_]
       refine wpAnyN_take (i := 10) (oi := _) (v := ?_) rfl (by kernel_rfl) (by kernel_rfl) (by kernel_rfl) (by kernel_rfl) (fun _ _ _ h => h) (Or.inl ⟨by rfl, ?_⟩) (by assumption) ?_
       rotate_left
       ·intro w hSw; (try dsimp only at hSw); go_simp
        first | done | with_reducible rfl
       try simp only [Act.put, s1_, s2_, s3_]
       refine wpAnyN_ready (rs := [11]) (by kernel_rfl) (by simp) ?_
       refine AllReadyN.free rfl (by rfl) (by kernel_rfl) (fun K hK => ?_) AllReadyN.nil
       go_simp
       refine hK.out _ _ ?_
       clear hK K
       try simp only [Act.put, s1_, s2_, s3_]
       refine wpAnyN_done (by kernel_rfl) ?_ _
       have hszk : w.heap.size + 2 <= w2.heap.size := Nat.le_trans hsz2 k2.size
       have HRR := hide (R2.out.later k2)
       clear f1 f2 f3 f4 hHeld
       go_wp2_with fail
       refine ⟨⟨(k : Int) - 1, by omega, by omega, rfl, hide ?_⟩, by simp [intOf]⟩
       have oo := Only.one (w.heap.size + 1) w2 1 (.slice P2 q2 e2)
       refine ⟨P2, q2, e2, ownNums_only (OL.out.later k2) oo (by omega), (hbb.trans k2).only oo (by omega), (R1.out.later k2).only oo (by omega), HRR.out.set_ 1 _, ?_, by rw [oo.size]; exact hszk⟩
       rw [show ((k : Int) - 1 + 1).toNat = k by omega, <- HX2.out]
       exact (O2.out.only oo (by omega)).weaken hsz1
      refine AllReadyN.held rfl (by rfl) (fun K hK => ?_) AllReadyN.nil
      go_simp
      refine hK.out _ _ ?_ (fun hHeld => ?_)
      ·exact HCC.out _ ((((Later.refl wr).alloc _).alloc _).drew)
      clear hK K
      try simp only [Act.put, s1_, s2_, s3_]
      refine wpAnyN_ready (rs := [3]) (by kernel_rfl) (by simp) ?_
      refine AllReadyN.held rfl (by rfl) (fun K hK => ?_) AllReadyN.nil
      go_simp
      (with_reducible refine (rnmul_calls _ _ _ (limbs X) [10] (OX.out.reads.later (((Later.refl wr).alloc _).alloc _).drew) ((u32_ten _).later ((Later.refl _).alloc _).drew) (by have := small_limbs (x := X) (by omega); omega) (by simp)).mono ?_)
      rintro e w1 ⟨v1, rfl, o1, b1⟩
      have k1 : Later wr w1 := Later.trans ((((Later.refl wr).alloc _).alloc _).drew) b1
      rw [val_limbs, show val [10] = 10 from rfl] at o1
      obtain ⟨P1, q1, e1, rfl, o1, -⟩ := o1.open_
      have O1 := hide o1
      clear o1
      refine hK.out _ _ ?_ (fun hHeld => ?_)
      ·exact HCC.out _ (k1)
      clear hK K
      try simp only [Act.put, s1_, s2_, s3_]
      refine wpAnyN_ready (rs := [9]) (by kernel_rfl) (by simp) ?_
      refine AllReadyN.held rfl (by rfl) (fun K hK => ?_) AllReadyN.nil
      go_simp
      (with_reducible refine (rnadd_calls _ _ _ (limbs (X * 10)) [d] (O1.out.reads) (((u32_new1 wr _ d (by have := HD.out; omega)).later (Later.refl _).drew).later b1) (by have := small_limbs (x := X * 10) (by omega); omega) (by simp)).mono ?_)
      rintro e w2 ⟨v2, rfl, o2, b2⟩
      have k2 : Later wr w2 := Later.trans (k1) b2
      rw [val_limbs, show val [d] = d by simp] at o2
      obtain ⟨P2, q2, e2, rfl, o2, -⟩ := o2.open_
      have O2 := hide o2
      clear o2
      have hsz1 : w.heap.size + 2 <= w1.heap.size := Nat.le_trans hsz2 (Later.size_le (k1))
      obtain ⟨f1, f2, f3, f4⟩ := row_cells2 (R2.out.later k2)
      refine hK.out _ _ ?_ (fun hHeld => ?_)
      ·exact HCC.out _ (k2)
      clear hK K
      try simp only [Act.put, s1_, s2_, s3_]
      refine wpAnyN_take (i := 10) (oi := _) (v := ?_) rfl (by kernel_rfl) (by kernel_rfl) (by kernel_rfl) (by kernel_rfl) (fun _ _ _ h => h) (Or.inl ⟨by rfl, ?_⟩) (by assumption) ?_
      rotate_left
      ·intro w hSw; (try dsimp only at hSw); go_simp
       first | done | with_reducible rfl
      try simp only [Act.put, s1_, s2_, s3_]
      refine wpAnyN_ready (rs := [11]) (by kernel_rfl) (by simp) ?_
      refine AllReadyN.free rfl (by rfl) (by kernel_rfl) (fun K hK => ?_) AllReadyN.nil
      go_simp
      refine hK.out _ _ ?_
      clear hK K
      try simp only [Act.put, s1_, s2_, s3_]
      refine wpAnyN_done (by kernel_rfl) ?_ _
      have hszk : w.heap.size + 2 <= w2.heap.size := Nat.le_trans hsz2 k2.size
      have HRR := hide (R2.out.later k2)
      clear f1 f2 f3 f4 hHeld
      go_wp2_with fail
      refine ⟨⟨(k : Int) - 1, by omega, by omega, rfl, hide ?_⟩, by simp [intOf]⟩
      have oo := Only.one (w.heap.size + 1) w2 1 (.slice P2 q2 e2)
      refine ⟨P2, q2, e2, ownNums_only (OL.out.later k2) oo (by omega), (hbb.trans k2).only oo (by omega), (R1.out.later k2).only oo (by omega), HRR.out.set_ 1 _, ?_, by rw [oo.size]; exact hszk⟩
      rw [show ((k : Int) - 1 + 1).toNat = k by omega, <- HX2.out]
      exact (O2.out.only oo (by omega)).weaken hsz1
     refine AllReadyN.held rfl (by rfl) (fun K hK => ?_) AllReadyN.nil
     go_simp
     refine hK.out _ _ ?_ (fun hHeld => ?_)
     ·exact HCC.out _ (((Later.refl wr).alloc _).drew)
     clear hK K
     try simp only [Act.put, s1_, s2_, s3_]
     refine wpAnyN_ready (rs := [2]) (by kernel_rfl) (by simp) ?_
     refine AllReadyN.held rfl (by rfl) (fun K hK => ?_) AllReadyN.nil
     go_simp
     refine hK.out _ _ ?_ (fun hHeld => ?_)
     ·exact HCC.out _ ((((Later.refl wr).alloc _).alloc _).drew)
     clear hK K
     try simp only [Act.put, s1_, s2_, s3_]
     refine wpAnyN_ready (rs := [3]) (by kernel_rfl) (by simp) ?_
     refine AllReadyN.held rfl (by rfl) (fun K hK => ?_) AllReadyN.nil
     go_simp
     (with_reducible refine (rnmul_calls _ _ _ (limbs X) [10] (OX.out.reads.later (((Later.refl wr).alloc _).alloc _).drew) ((u32_ten1 _ _).later (Later.refl _).drew) (by have := small_limbs (x := X) (by omega); omega) (by simp)).mono ?_)
     rintro e w1 ⟨v1, rfl, o1, b1⟩
     have k1 : Later wr w1 := Later.trans ((((Later.refl wr).alloc _).alloc _).drew) b1
     rw [val_limbs, show val [10] = 10 from rfl] at o1
     obtain ⟨P1, q1, e1, rfl, o1, -⟩ := o1.open_
     have O1 := hide o1
     clear o1
     refine hK.out _ _ ?_ (fun hHeld => ?_)
     ·exact HCC.out _ (k1)
     clear hK K
     try simp only [Act.put, s1_, s2_, s3_]
     refine wpAnyN_ready (rs := [9]) (by kernel_rfl) (by simp) ?_
     refine AllReadyN.held rfl (by rfl) (fun K hK => ?_) AllReadyN.nil
     go_simp
     (with_reducible refine (rnadd_calls _ _ _ (limbs (X * 10)) [d] (O1.out.reads) (((u32_new wr d (by have := HD.out; omega)).later (((Later.refl _).alloc _).drew)).later b1) (by have := small_limbs (x := X * 10) (by omega); omega) (by simp)).mono ?_)
     rintro e w2 ⟨v2, rfl, o2, b2⟩
     have k2 : Later wr w2 := Later.trans (k1) b2
     rw [val_limbs, show val [d] = d by simp] at o2
     obtain ⟨P2, q2, e2, rfl, o2, -⟩ := o2.open_
     have O2 := hide o2
     clear o2
     have hsz1 : w.heap.size + 2 <= w1.heap.size := Nat.le_trans hsz2 (Later.size_le (k1))
     obtain ⟨f1, f2, f3, f4⟩ := row_cells2 (R2.out.later k2)
     refine hK.out _ _ ?_ (fun hHeld => ?_)
     ·exact HCC.out _ (k2)
     clear hK K
     try simp only [Act.put, s1_, s2_, s3_]
     refine wpAnyN_take (i := 10) (oi := _) (v := ?_) rfl (by kernel_rfl) (by kernel_rfl) (by kernel_rfl) (by kernel_rfl) (fun _ _ _ h => h) (Or.inl ⟨by rfl, ?_⟩) (by assumption) ?_
     rotate_left
     ·intro w hSw; (try dsimp only at hSw); go_simp
      first | done | with_reducible rfl
     try simp only [Act.put, s1_, s2_, s3_]
     refine wpAnyN_ready (rs := [11]) (by kernel_rfl) (by simp) ?_
     refine AllReadyN.free rfl (by rfl) (by kernel_rfl) (fun K hK => ?_) AllReadyN.nil
     go_simp
     refine hK.out _ _ ?_
     clear hK K
     try simp only [Act.put, s1_, s2_, s3_]
     refine wpAnyN_done (by kernel_rfl) ?_ _
     have hszk : w.heap.size + 2 <= w2.heap.size := Nat.le_trans hsz2 k2.size
     have HRR := hide (R2.out.later k2)
     clear f1 f2 f3 f4 hHeld
     go_wp2_with fail
     refine ⟨⟨(k : Int) - 1, by omega, by omega, rfl, hide ?_⟩, by simp [intOf]⟩
     have oo := Only.one (w.heap.size + 1) w2 1 (.slice P2 q2 e2)
     refine ⟨P2, q2, e2, ownNums_only (OL.out.later k2) oo (by omega), (hbb.trans k2).only oo (by omega), (R1.out.later k2).only oo (by omega), HRR.out.set_ 1 _, ?_, by rw [oo.size]; exact hszk⟩
     rw [show ((k : Int) - 1 + 1).toNat = k by omega, <- HX2.out]
     exact (O2.out.only oo (by omega)).weaken hsz1
    ·have hz3 : z = -1 := by omega
     subst hz3
     have ox2 : Own32 160 wr (w.heap.size + 2) (.slice A q c) (limbs n0.natAbs) := by rw [HSUM.out]; exact ox
     have OX := hide ox2
     have HR := hide r1
     have HNN := hide HNEG.out
     rw [<- HNEG.out] at d5
     clear ox ox2 ol r1 r2 hrel
     go_wp2_with fail
     refine bodyPost_ret (results_int rfl rfl (HR.out.two _ _)) rfl ?_
     have oo := Only.two w.heap.size wr (.bool neg) (.slice A q c)
     exact ⟨_, rfl, OwnI.weaken (OwnI.mk_ HNN.out (OX.out.only oo (by omega))) (by omega), hbb.only oo (by omega)⟩
  ·have hbig : 10 ^ L.length * m.natAbs <= n0.natAbs := by omega
   have hlen18 : L.length <= 18 := by
    refine Classical.byContradiction fun hc => ?_
    have h3 : 10 ^ 19 <= 10 ^ L.length := Nat.pow_le_pow_right (by omega) (by omega)
    have h4 : 10 ^ L.length * 1 <= 10 ^ L.length * m.natAbs := Nat.mul_le_mul_left _ (by omega)
    omega
   have HOUT := hide hout; have HL := hide hL
   have hlen9 : L.length + 1 <= 4000000000 := by omega
   have t0 : (m != 0) = true := by simpa using hm0
   obtain ⟨d, hd⟩ : ∃ d, d = m.natAbs % 10 := ⟨_, rfl⟩
   obtain ⟨p, hp⟩ : ∃ p, p = m.natAbs / 10 := ⟨_, rfl⟩
   have hd10 : d < 10 := by omega
   have hp9 : p < 9223372036854775808 := by omega
   have hrow : n0.natAbs = decL (L ++ [d]) + 10 ^ (L ++ [d]).length * p := by
    have hmm : m.natAbs = d + 10 * p := by omega
    rw [decL_snoc, List.length_append, hsum, hmm, Nat.mul_add, List.length_singleton, Nat.pow_succ, Nat.mul_assoc]; omega
   have hpm : p < m.natAbs := by omega
   have hpp : 0 < m -> m % 10 = (d : Int) /\ m / 10 = (p : Int) := fun h => by omega
   have hnn : m < 0 -> m.tmod 10 = -(d : Int) /\ m.tdiv 10 = -(p : Int) := fun h => by
    have hm : m = -((m.natAbs : Nat) : Int) := by omega
    constructor
    ·conv => lhs; rw [hm, Int.neg_tmod]
     rw [hd]; rfl
    ·conv => lhs; rw [hm, Int.neg_tdiv]
     rw [hp]; rfl
   have HPP := hide hpp; have HNN := hide hnn
   have hg1 := World.ownsRow.lt hout
   have key : ∀ (m' : Int) (v' : Value) (w1 : World), m'.natAbs = p -> (m' < 0 -> m < 0) -> (0 < m' -> 0 < m) -> w1.ownsRow (w.heap.size + 2) 160 1 v' (L.length + 1) (nums .u32 L ++ nums .u32 [d]) -> (wr.alloc (Obj.cells #[Value.int IntKind.u32 (d : Int)] 160)).grownBy w1 u4.ownBlock -> OfA w n0 m' v' w1 := by
    intro m' v' w1 h1 h2 h3 hown hg
    have hblk : ∀ j, u4.ownBlock = some j -> w.heap.size + 2 <= j := fun j hj => (hg1 j hj).1
    have hw : Later w w1 := (hb.alloc _).grown hg (fun j hj => by have := hblk j hj; omega)
    have hrow' : ∀ g t cs, g < w.heap.size + 2 -> Row wr g t cs -> Row w1 g t cs := fun g t cs hg2 hr => (hr.alloc _).grown hg (fun e => by have := hblk g e.symm; omega)
    refine ⟨L ++ [d], by rw [h1]; exact hrow, fun h => hlt (h2 h), fun h => hgt (h3 h), ?_, by simp; omega, ?_, hw, hrow' _ _ _ (by omega) r1, hrow' _ _ _ (by omega) r2, ?_⟩
    ·intro x hx
     rcases List.mem_append.1 hx with hx | hx
     ·exact hL x hx
     ·simp at hx; omega
    ·unfold OwnNums; rw [nums_append, List.length_append]; exact hown
    ·have := hg.size; simp at this; omega
   have KEY := hide key
   clear key hpp hnn hA hsum hout r1 r2 hL hd hp hrow hbig hlt hgt hg1 hb
   rcases (by omega : 0 < m ∨ m < 0) with hpos | hnegm
   ·have e1 : m % 10 = (d : Int) := (HPP.out hpos).1
    have e2 : m / 10 = (p : Int) := (HPP.out hpos).2
    have e3 : m.tmod 10 = (d : Int) := by rw [Int.tmod_eq_emod_of_nonneg (by omega)]; exact e1
    have e4 : m.tdiv 10 = (p : Int) := by rw [Int.tdiv_eq_ediv_of_nonneg (by omega)]; exact e2
    go_wp2_with (at_builtin; refine wpList_append_src rfl _ _ 63 rfl (w.heap.size + 2) 160 (.int .u32 0) 1 4 Tryz.underlying63 info_u32 rfl (by omega) (by omega) _ _ _ rfl (HOUT.out.later ((Later.refl _).alloc _)) _ 1 (nums .u32 [d]) rfl (Src.row (Row.new _ _ (nums .u32 [d])) rfl (nums_one _)) hlen9 (Nat.le_trans hsz (by simp)) ?_; intro v' w1 hown hg hblk)
    have HA2 := hide (KEY.out (p : Int) v' w1 (by simp) (by omega) (by omega) hown hg)
    clear hown hg hblk
    go_wp2
    go_roundw
    case rel => exact ⟨(p : Int), by omega, by omega, rfl, HA2⟩
    case measure => simp [intOf]; omega
   ·have e1 : m.tmod 10 = -(d : Int) := (HNN.out hnegm).1
    have e2 : m.tdiv 10 = -(p : Int) := (HNN.out hnegm).2
    by_cases hd0 : d = 0
    ·subst hd0
     go_wp2_with (at_builtin; refine wpList_append_src rfl _ _ 63 rfl (w.heap.size + 2) 160 (.int .u32 0) 1 4 Tryz.underlying63 info_u32 rfl (by omega) (by omega) _ _ _ rfl (HOUT.out.later ((Later.refl _).alloc _)) _ 1 (nums .u32 [0]) rfl (Src.row (Row.new _ _ (nums .u32 [0])) rfl (nums_one _)) hlen9 (Nat.le_trans hsz (by simp)) ?_; intro v' w1 hown hg hblk)
     have HA2 := hide (KEY.out (-(p : Int)) v' w1 (by simp) (by omega) (by omega) hown hg)
     clear hown hg hblk
     go_wp2
     go_roundw
     case rel => exact ⟨-(p : Int), by omega, by omega, rfl, HA2⟩
     case measure => simp [intOf]; omega
    ·have t1 : decide (-(d : Int) < 0) = true := by simp; omega
     go_wp2_with (at_builtin; refine wpList_append_src rfl _ _ 63 rfl (w.heap.size + 2) 160 (.int .u32 0) 1 4 Tryz.underlying63 info_u32 rfl (by omega) (by omega) _ _ _ rfl (HOUT.out.later ((Later.refl _).alloc _)) _ 1 (nums .u32 [d]) rfl (Src.row (Row.new _ _ (nums .u32 [d])) rfl (nums_one _)) hlen9 (Nat.le_trans hsz (by simp)) ?_; intro v' w1 hown hg hblk)
     have HA2 := hide (KEY.out (-(p : Int)) v' w1 (by simp) (by omega) (by omega) hown hg)
     clear hown hg hblk
     go_wp2
     go_roundw
     case rel => exact ⟨-(p : Int), by omega, by omega, rfl, HA2⟩
     case measure => simp [intOf]; omega
end Go.Proofs.YtncbebfhakcgdaaGreat
