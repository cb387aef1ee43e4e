/- Problems: Cost (the program). -/
import Derived.Test.YtfokplidiboabaaGreatS20
import Derived.Test.YtfokplidiboabaaGreatS15
import Derived.Test.YtfokplidiboabaaGreatS8
import Derived.Test.YtfokplidiboabaaGreatS18
import Derived.Test.YtfokplidiboabaaGreatS3
set_option linter.unusedVariables false
set_option linter.unusedSimpArgs false
set_option maxRecDepth 100000
namespace Go.Proofs.YtfokplidiboabaaGreat
open Go.RowKit Go.Shelf
attribute [local go_sem ↓] Go.wp_at_zero Go.wp_at_succ
noncomputable def lpCost (P : PLp) (x : List Rat) : Rat := if lpB P = true then dotD P.cost x else 0
set_option maxHeartbeats 4000000 in
theorem pcost_calls (w : World) (A1 A2 A3 A4 A5 : Option Addr) (n1 n2 n3 n4 n5 c1 c2 c3 c4 c5 : Nat) (k : Nat) (P : PLp) (h : LpIn w (.slice A1 n1 c1) (.slice A2 n2 c2) (.slice A3 n3 c3) (.slice A4 n4 c4) (.slice A5 n5 c5) k P) (vx : Value) (x : List Rat) (m : Nat) (hx : Rats (ERaw m) w vx x) (hm : m <= 1000) :
 Calls Tryz.prog 28 #[.agg #[.slice A1 n1 c1, .slice A2 n2 c2, .slice A3 n3 c3, .slice A4 n4 c4, .slice A5 n5 c5], vx] w (Ret2 w fun w' v o => OwnR w' 0 v (lpCost P x) /\ o = .bool (lpB P && decide (x.length = P.cost.length))) := by
 obtain ⟨Ax, nx, cx, rfl, hnx, -⟩ := hx.form
 have HX := hide hx
 clear hx hnx
 have H := hide h
 have hc1 := h.cost; have hr1 := h.rows; have hl1 := h.lo; have hh1 := h.hi; have ho1 := h.opn
 have L1 := hide hc1.len_; have L2 := hide hr1.len_; have L3 := hide hl1.len_; have L4 := hide hh1.len_; have L5 := hide ho1.len_
 have hn1 : n1 <= 1000 := by have := h.cl; have := L1.out; omega
 have hn2 : n2 <= 1000 := by have := h.rl; have := L2.out; omega
 have hn3 : n3 <= 1000 := by have := h.ll; have := L3.out; omega
 have hn4 : n4 <= 1000 := by have := h.hl; have := L4.out; omega
 have hn5 : n5 <= 1000 := by have := h.ol; have := L5.out; omega
 have hkk := h.kk
 clear h hc1 hr1 hl1 hh1 ho1
 have HCL := H.out.cl
 obtain ⟨u, hu⟩ : ∃ u, lpB P = u := ⟨_, rfl⟩
 obtain ⟨z, hz⟩ : ∃ z, lpCost P x = z := ⟨_, rfl⟩
 obtain ⟨ub, hub⟩ : ∃ b, (lpB P && decide (x.length = P.cost.length)) = b := ⟨_, rfl⟩
 rw [hub, hz]
 have HUB := hide hub
 clear hub
 have HU := hide hu; have HZ := hide hz
 clear hu hz
 obtain ⟨W0, hW0⟩ : ∃ W0, W0 = ((w.alloc (Obj.cells #[Value.slice A1 n1 c1, Value.slice A2 n2 c2, Value.slice A3 n3 c3, Value.slice A4 n4 c4, Value.slice A5 n5 c5] 26)).alloc (Obj.cells #[Value.bool false, Value.slice none 0 0, Value.bool false, Value.slice none 0 0] 36)) := ⟨_, rfl⟩
 obtain ⟨hb0, r0, r1, hsz0⟩ := boxes2 w [.slice A1 n1 c1, .slice A2 n2 c2, .slice A3 n3 c3, .slice A4 n4 c4, .slice A5 n5 c5] [.bool false, .slice none 0 0, .bool false, .slice none 0 0] 26 36 hW0
 have B0 := hide hb0; have HW0 := hide hW0; have HSZ0 := hide hsz0
 have R0 := hide r0; have R1 := hide r1
 clear hb0 hW0 hsz0 r0 r1
 go_enter Tryz.func28, Tryz.ntmps28
 go_upto_region 1 with fail
 rw [<- HW0.out]
 have r_d := R0.out.later (Later.refl W0)
 have d0 := r_d.cell (i := 0) rfl; have d1 := r_d.cell (i := 1) rfl; have d2 := r_d.cell (i := 2) rfl; have d3 := r_d.cell (i := 3) rfl; have d4 := r_d.cell (i := 4) rfl
 clear r_d
 go_wp2_with fail
 ((with_reducible refine (pmay_calls _ _ _ _ _ _ _ _ _ _ _ _ _ _ _ _ k P (H.out.later B0.out)).mono ?_); rintro e w1 ⟨rfl, b1⟩)
 rw [HU.out]
 have HL1 := hide b1
 clear b1 d0 d1 d2 d3 d4
 have r_d := R0.out.later HL1.out
 have d0 := r_d.cell (i := 0) rfl; have d1 := r_d.cell (i := 1) rfl; have d2 := r_d.cell (i := 2) rfl; have d3 := r_d.cell (i := 3) rfl; have d4 := r_d.cell (i := 4) rfl
 clear r_d
 cases u with
 | false =>
   have HF : Hid (z = 0) := hide (by rw [<- HZ.out]; unfold lpCost; rw [HU.out]; rfl)
   go_wp2_with fail
   ((with_reducible refine (pzero_calls _).mono ?_); rintro e w2 ⟨v2, rfl, o2, b2⟩)
   obtain ⟨s2, P2, q2, e2, P2', q2', e2', rfl, o2⟩ := o2.open_; have O2 := hide o2; clear o2
   have HLX := hide (HL1.out.trans b2)
   clear b2 d0 d1 d2 d3 d4
   have hrow := R1.out.later HLX.out
   obtain ⟨y1, y2, y3, y4, y5, y6, y7, y8⟩ := row_cells4 hrow
   have HR := hide hrow
   clear hrow
   go_wp2_with fail
   refine bodyPost_ret (results_rat_bool rfl rfl rfl (HR.out.four _ _ _ _)) rfl ?_
   have oo := Only.four (w.heap.size + 1) w2 (.bool s2) (.slice P2 q2 e2) (.bool false) (.slice P2' q2' e2')
   exact ⟨_, _, rfl, ⟨by rw [HF.out]; exact (OwnR.apart O2.out oo HR.out).at0_, by rw [<- HUB.out, HU.out]; rfl⟩, (B0.out.trans HLX.out).only oo (by omega)⟩
 | true =>
   have HF : Hid (z = dotD P.cost x) := hide (by rw [<- HZ.out]; unfold lpCost; rw [HU.out]; rfl)
   have HSZ : Hid ((P.cost.length + 1) * (k + m + 4) <= 50000000) := hide (dot_bound HCL hkk hm)
   have HUL : Hid (decide (P.cost.length = x.length) = ub) := hide (by rw [<- HUB.out, HU.out, Bool.true_and]; exact decide_eq_decide.2 ⟨fun h => h.symm, fun h => h.symm⟩)
   go_wp2_with fail
   ((with_reducible refine (dotd_calls _ _ _ P.cost x k m (Rats.later ERaw.later H.out.cost (B0.out.trans HL1.out)) (Rats.later ERaw.later HX.out (B0.out.trans HL1.out)) HSZ.out).mono ?_); rintro e w3 ⟨v3, ok, rfl, ⟨o3, rfl⟩, b3⟩)
   rw [HUL.out]
   obtain ⟨s3, P3, q3, e3, P3', q3', e3', rfl, o3⟩ := o3.open_; have O3 := hide o3; clear o3
   have HLX := hide (HL1.out.trans b3)
   clear b3 d0 d1 d2 d3 d4
   have hrow := R1.out.later HLX.out
   obtain ⟨y1, y2, y3, y4, y5, y6, y7, y8⟩ := row_cells4 hrow
   have HR := hide hrow
   clear hrow
   go_wp2_with fail
   refine bodyPost_ret (results_rat_bool rfl rfl rfl (HR.out.four _ _ _ _)) rfl ?_
   have oo := Only.four (w.heap.size + 1) w3 (.bool s3) (.slice P3 q3 e3) (.bool false) (.slice P3' q3' e3')
   exact ⟨_, _, rfl, ⟨by rw [HF.out]; exact (OwnR.apart O3.out oo HR.out).at0_, rfl⟩, (B0.out.trans HLX.out).only oo (by omega)⟩
end Go.Proofs.YtfokplidiboabaaGreat
namespace Go.Proofs.YtfokplidiboabaaGreat
open Go.RowKit Go.Shelf
attribute [local go_sem ↓] Go.wp_at_zero Go.wp_at_succ
theorem Rats.pre {E : Elem} {w : World} {A : Option Addr} {n c m : Nat} {l : List Rat} (h : Rats E w (.slice A n c) l) (hm : m <= l.length) : Rats E w (.slice A m c) (l.take m) := by
 obtain ⟨A', c', e, h1, h2, h3⟩ := h
 injection e with e1 e2 e3
 subst e1 e3
 refine ⟨A, c, by rw [List.length_take, Nat.min_eq_left hm], by rw [List.length_take]; omega, h2, fun i q hi => ?_⟩
 have hlt := (List.getElem?_eq_some_iff.1 hi).1
 rw [List.length_take] at hlt
 rw [List.getElem?_take_of_lt (by omega)] at hi
 exact h3 i q hi
noncomputable def backB (P : PLp) (y : List Rat) : Bool := lpB P && decide (y.length = P.cost.length + (extraL P).length)
def PBack (w : World) (P : PLp) (y : List Rat) (e : Ending) (w' : World) : Prop := ∃ v, e = .returned (.tuple #[v, .int .i64 (if backB P y then 0 else 1)]) /\ (backB P y = true -> OwnRats w' w.heap.size v (backL P y)) /\ (backB P y = false -> v = .slice none 0 0) /\ Later w w'
set_option maxHeartbeats 4000000 in
theorem pback_calls (w : World) (A1 A2 A3 A4 A5 : Option Addr) (n1 n2 n3 n4 n5 c1 c2 c3 c4 c5 : Nat) (k : Nat) (P : PLp) (h : LpIn w (.slice A1 n1 c1) (.slice A2 n2 c2) (.slice A3 n3 c3) (.slice A4 n4 c4) (.slice A5 n5 c5) k P) (vy : Value) (y : List Rat) (m : Nat) (hy : Rats (ERaw m) w vy y) (hm : m <= 1000) (hyl : y.length <= 1000) :
 Calls Tryz.prog 26 #[.agg #[.slice A1 n1 c1, .slice A2 n2 c2, .slice A3 n3 c3, .slice A4 n4 c4, .slice A5 n5 c5], vy] w (PBack w P y) := by
 obtain ⟨Ay, ny, cy, rfl, hny, hcy, -⟩ := hy.form
 have HY := hide hy; have HNY := hide hny
 have hny9 : ny <= 1000 := by omega
 clear hy hny
 have H := hide h
 have hc1 := h.cost; have hr1 := h.rows; have hl1 := h.lo; have hh1 := h.hi; have ho1 := h.opn
 have L1 := hide hc1.len_; have L2 := hide hr1.len_; have L3 := hide hl1.len_; have L4 := hide hh1.len_; have L5 := hide ho1.len_
 have hn1 : n1 <= 1000 := by have := h.cl; have := L1.out; omega
 have hn2 : n2 <= 1000 := by have := h.rl; have := L2.out; omega
 have hn3 : n3 <= 1000 := by have := h.ll; have := L3.out; omega
 have hn4 : n4 <= 1000 := by have := h.hl; have := L4.out; omega
 have hn5 : n5 <= 1000 := by have := h.ol; have := L5.out; omega
 have hkk := h.kk
 clear h hc1 hr1 hl1 hh1 ho1
 obtain ⟨u, hu⟩ : ∃ u, lpB P = u := ⟨_, rfl⟩
 have HU := hide hu
 clear hu
 obtain ⟨W0, hW0⟩ : ∃ W0, W0 = (w.alloc (Obj.cells #[Value.slice A1 n1 c1, Value.slice A2 n2 c2, Value.slice A3 n3 c3, Value.slice A4 n4 c4, Value.slice A5 n5 c5] 26)) := ⟨_, rfl⟩
 obtain ⟨hb0, r0, hsz0⟩ := boxes1 w [.slice A1 n1 c1, .slice A2 n2 c2, .slice A3 n3 c3, .slice A4 n4 c4, .slice A5 n5 c5] 26 hW0
 have B0 := hide hb0; have HW0 := hide hW0; have HSZ0 := hide hsz0
 have R0 := hide r0
 clear hb0 hW0 hsz0 r0
 go_enter Tryz.func26, Tryz.ntmps26
 go_upto_region 1 with fail
 rw [<- HW0.out]
 have r_d := R0.out.later (Later.refl W0)
 have d0 := r_d.cell (i := 0) rfl; have d1 := r_d.cell (i := 1) rfl; have d2 := r_d.cell (i := 2) rfl; have d3 := r_d.cell (i := 3) rfl; have d4 := r_d.cell (i := 4) rfl
 clear r_d
 go_wp2_with fail
 ((with_reducible refine (pmay_calls _ _ _ _ _ _ _ _ _ _ _ _ _ _ _ _ k P (H.out.later B0.out)).mono ?_); rintro e w1 ⟨rfl, b1⟩)
 rw [HU.out]
 have HL1 := hide b1
 clear b1 d0 d1 d2 d3 d4
 have r_d := R0.out.later HL1.out
 have d0 := r_d.cell (i := 0) rfl; have d1 := r_d.cell (i := 1) rfl; have d2 := r_d.cell (i := 2) rfl; have d3 := r_d.cell (i := 3) rfl; have d4 := r_d.cell (i := 4) rfl
 clear r_d
 cases u with
 | false =>
   have HBB : Hid (backB P y = false) := hide (by unfold backB; rw [HU.out]; rfl)
   go_wp2_with fail
   go_ret2
   exact ⟨_, by rw [HBB.out]; rfl, fun h => (by rw [HBB.out] at h; cases h), fun _ => rfl, B0.out.trans HL1.out⟩
 | true =>
   have HP := hide (lpB_iff.1 HU.out)
   obtain ⟨N, hN⟩ : ∃ N, N = P.cost.length + (extraL P).length := ⟨_, rfl⟩
   have HN := hide hN
   go_wp2_with fail
   ((with_reducible refine (pcolumns_calls _ _ _ _ _ _ _ _ _ _ _ _ _ _ _ _ k P (H.out.later (B0.out.trans HL1.out)) HP.out).mono ?_); rintro e w2 ⟨rfl, b2⟩)
   rw [<- HN.out]
   have HL2 := hide (HL1.out.trans b2)
   clear b2 hN d0 d1 d2 d3 d4
   have r_d := R0.out.later HL2.out
   have d0 := r_d.cell (i := 0) rfl; have d1 := r_d.cell (i := 1) rfl; have d2 := r_d.cell (i := 2) rfl; have d3 := r_d.cell (i := 3) rfl; have d4 := r_d.cell (i := 4) rfl
   clear r_d
   by_cases g : ny = N
   ·have HBB : Hid (backB P y = true) := hide (by unfold backB; rw [HU.out, Bool.true_and, decide_eq_true_iff, <- HN.out, <- HNY.out]; exact g)
    have t1 : ((ny : Int) != (N : Int)) = false := by rw [bne_eq_false_iff_eq, g]
    have hle : n3 <= y.length := by have h1 := HN.out; have h2 := HNY.out; have h3 := HP.out.lo; have h4 := L3.out; omega
    have HYT : Hid (Rats (ERaw m) w (.slice Ay n3 cy) (y.take n3)) := hide (HY.out.pre hle)
    have HLE : Hid (P.lo.length = (y.take n3).length) := hide (by rw [List.length_take, <- L3.out]; omega)
    have HBK : Hid (backL P y = axpyL P.lo (y.take n3) 1) := hide (by unfold backL; rw [L3.out])
    have hcap : (n3 : Int) <= cy := by have := HNY.out; omega
    have hcap2 : n3 <= cy := by have := HNY.out; omega
    have hn30 : (0 : Int) <= n3 := by omega
    clear g
    go_upto_region 3 with fail
    have HT1 : Hid (∀ w', Later w2 w' -> w'.cell? ⟨w.heap.size, 2, none⟩ = some (.slice A3 n3 c3)) := hide fun w' hb => (R0.out.later (HL2.out.trans hb)).cell rfl
    have hmx : Tryz.prog.follows .mixedOrders = true := by kernel_rfl
    refine wp_region_N (fun w' => w'.cell? ⟨w.heap.size, 2, none⟩ = some (.slice A3 n3 c3)) [] hmx (HT1.out _ lt_) (fun hHeld => ?_)
    refine tkB 19 0 ?_
    refine tkB 20 1 ?_
    refine tkB 21 2 ?_
    refine tkB 22 3 ?_
    refine tkB 23 4 ?_
    refine tkB 24 5 ?_
    refine tkB 25 6 ?_
    refine wpAnyN_ready (rs := [7]) (by kernel_rfl) (by simp) ?_
    refine AllReadyN.held rfl (by rfl) (fun K hK => ?_) AllReadyN.nil
    go_simp
    refine (pone_calls _).mono ?_
    rintro e w7 ⟨v7, rfl, o7, b7⟩
    obtain ⟨s7, P7, q7, e7, P7', q7', e7', rfl, o7⟩ := o7.open_; have O7 := hide o7; clear o7
    have l7 : Later w2 w7 := Later.trans lt_ b7
    clear b7
    refine hK.out _ _ ?_ (fun hHeld => ?_)
    ·exact HT1.out _ lt_
    clear hK K
    try simp only [Act.put, s1_, s2_, s3_]
    refine wpAnyN_ready (rs := [8]) (by kernel_rfl) (by simp) ?_
    refine AllReadyN.held rfl (by rfl) (fun K hK => ?_) AllReadyN.nil
    go_simp
    refine (addtimes_calls _ _ _ _ P.lo (y.take n3) 1 k m 1 (Rats.later ERaw.later H.out.lo (B0.out.trans (HL2.out.trans lt_))) (Rats.later ERaw.later HYT.out (B0.out.trans (HL2.out.trans lt_))) (OwnR.raw (OwnR.later O7.out lt_) sized_1) HLE.out (by have := H.out.ll; omega) (by omega)).mono ?_
    rintro e w8 ⟨v8, ok, rfl, ⟨o8, rfl⟩, b8⟩
    have l8 : Later w2 w8 := Later.trans lt_ b8
    have hsz7 : W0.heap.size <= w7.heap.size := by have h1 := HL2.out.size; have h2 := l7.size; omega
    have HO8 : Hid (OwnRats w8 W0.heap.size v8 (axpyL P.lo (y.take n3) 1)) := hide (OwnRats.weaken o8 hsz7)
    clear b8 o8 hsz7
    refine hK.out _ _ ?_ (fun hHeld => ?_)
    ·exact HT1.out _ lt_
    clear hK K
    try simp only [Act.put, s1_, s2_, s3_]
    refine tkB 18 9 ?_
    refine tkB 28 10 ?_
    refine tkB 29 11 ?_
    refine tkB 6 12 ?_
    refine tkB 7 13 ?_
    refine wpAnyN_done (by kernel_rfl) ?_ _
    have HLZ := hide (HL2.out.trans l8)
    clear hHeld l7 l8
    go_wp2_with fail
    go_ret2
    exact ⟨_, by rw [HBB.out]; rfl, fun _ => (OwnRats.weaken (by rw [HBK.out]; exact HO8.out) B0.out.size), fun h => (by rw [HBB.out] at h; cases h), B0.out.trans HLZ.out⟩
   ·have HBB : Hid (backB P y = false) := hide (by unfold backB; rw [HU.out, Bool.true_and, decide_eq_false_iff_not, <- HN.out, <- HNY.out]; exact g)
    have t1 : ((ny : Int) != (N : Int)) = true := by rw [bne_iff_ne]; omega
    go_wp2_with fail
    go_ret2
    exact ⟨_, by rw [HBB.out]; rfl, fun h => (by rw [HBB.out] at h; cases h), fun _ => rfl, B0.out.trans HL2.out⟩
end Go.Proofs.YtfokplidiboabaaGreat
namespace Go.Proofs.YtfokplidiboabaaGreat
open Go.RowKit Go.Shelf
attribute [local go_sem ↓] Go.wp_at_zero Go.wp_at_succ
set_option maxHeartbeats 4000000 in
theorem pholds_calls (w : World) (r : WCells) (x : PRow) (k : Nat) (he : ERowS k w r x) (hk : k <= 1000) (vx : Value) (z : List Rat) (m : Nat) (hx : Rats (ERaw m) w vx z) (hm : m <= 1000) (hlen : x.coef.length = z.length) (hs : 0 <= x.sense /\ x.sense <= 2) :
 Calls Tryz.prog 88 #[.agg #[.slice r.A r.n r.c, .int .i64 x.sense, .bool r.e.a, .slice r.e.A r.e.n r.e.c, .bool r.e.a', .slice r.e.A' r.e.n' r.e.c'], vx] w (RetV w (.bool (rowHolds x z))) := by
 obtain ⟨Ax, nx, cx, rfl, hnx, -⟩ := hx.form
 have HX := hide hx; have HE := hide he; have HLEN := hide hlen; have HS := hide hs
 have hcl := he.cl
 have HCO : Hid (Rats (ERaw k) w (.slice r.A r.n r.c) x.coef) := hide he.coef
 have HRH : Hid (RawR w (.agg #[.bool r.e.a, .slice r.e.A r.e.n r.e.c, .bool r.e.a', .slice r.e.A' r.e.n' r.e.c']) x.rhs k) := hide he.rhs
 have HSD : Hid (Sized (dotL x.coef z) 4000000) := hide ((sized_dotL (Rats.sized HCO.out) (Rats.sized HX.out)).mono (Nat.le_trans (dot_bound2 hcl hk hm) (by omega)))
 have HSZ : Hid ((x.coef.length + 1) * (k + m + 4) <= 50000000) := hide (dot_bound hcl hk hm)
 obtain ⟨ub, hub⟩ : ∃ b, rowHolds x z = b := ⟨_, rfl⟩
 rw [hub]
 have HUB := hide hub
 clear hx he hlen hs hnx hub hcl
 obtain ⟨W0, hW0⟩ : ∃ W0, W0 = (w.alloc (Obj.cells #[Value.slice r.A r.n r.c, Value.int .i64 x.sense, Value.bool r.e.a, Value.slice r.e.A r.e.n r.e.c, Value.bool r.e.a', Value.slice r.e.A' r.e.n' r.e.c'] 60)) := ⟨_, rfl⟩
 obtain ⟨hb0, r0, hsz0⟩ := boxes1 w [.slice r.A r.n r.c, .int .i64 x.sense, .bool r.e.a, .slice r.e.A r.e.n r.e.c, .bool r.e.a', .slice r.e.A' r.e.n' r.e.c'] 60 hW0
 have B0 := hide hb0; have HW0 := hide hW0; have HSZ0 := hide hsz0
 have R0 := hide r0
 clear hb0 hW0 hsz0 r0
 go_enter Tryz.func88, Tryz.ntmps88
 go_upto_region 1 with fail
 rw [<- HW0.out]
 have r_d := R0.out.later (Later.refl W0)
 have d0 := r_d.cell (i := 0) rfl; have d1 := r_d.cell (i := 1) rfl; have d2 := r_d.cell (i := 2) rfl; have d3 := r_d.cell (i := 3) rfl; have d4 := r_d.cell (i := 4) rfl; have d5 := r_d.cell (i := 5) rfl
 clear r_d
 go_wp2_with fail
 ((with_reducible refine (dot_calls _ _ _ x.coef z k m (Rats.later ERaw.later HCO.out B0.out) (Rats.later ERaw.later HX.out B0.out) HLEN.out HSZ.out).mono ?_); rintro e w1 ⟨v1, ok, rfl, ⟨o1, rfl⟩, b1⟩)
 obtain ⟨s1, P1, q1, e1, P1', q1', e1', rfl, o1⟩ := o1.open_; have O1 := hide o1; clear o1
 have HL1 := hide b1
 clear b1 d0 d1 d2 d3 d4 d5
 go_upto_region 2 with fail
 obtain ⟨wl, hwl⟩ : ∃ wl, wl = w1.alloc (Obj.cells #[Value.bool s1, Value.slice P1 q1 e1, Value.bool false, Value.slice P1' q1' e1'] 36) := ⟨_, rfl⟩
 obtain ⟨gl, hgl⟩ : ∃ gl, gl = w1.heap.size := ⟨_, rfl⟩
 have bwl : Later w1 wl := by rw [hwl]; exact (Later.refl _).alloc _
 have rgl : Row wl gl 36 [.bool s1, .slice P1 q1 e1, .bool false, .slice P1' q1' e1'] := by rw [hwl, hgl]; exact Row.new _ _ _
 rw [<- hwl, <- hgl]
 have HLl := hide (HL1.out.trans bwl); have RL := hide rgl; have O1b := hide (OwnR.later O1.out bwl)
 clear hwl hgl bwl rgl O1
 have r_d := R0.out.later HLl.out
 have d0 := r_d.cell (i := 0) rfl; have d1 := r_d.cell (i := 1) rfl; have d2 := r_d.cell (i := 2) rfl; have d3 := r_d.cell (i := 3) rfl; have d4 := r_d.cell (i := 4) rfl; have d5 := r_d.cell (i := 5) rfl
 clear r_d
 have f0 := RL.out.cell (i := 0) rfl; have f1 := RL.out.cell (i := 1) rfl; have f2 := RL.out.cell (i := 2) rfl; have f3 := RL.out.cell (i := 3) rfl
 obtain ⟨cz, hcz⟩ : ∃ cz, cmpQ (dotL x.coef z) x.rhs = cz := ⟨_, rfl⟩
 have HCZ := hide hcz
 clear hcz
 go_wp2_with fail
 ((with_reducible refine (rcmp_calls _ _ _ (dotL x.coef z) x.rhs 4000000 k (OwnR.raw O1b.out HSD.out) (RawR.later HRH.out (B0.out.trans HLl.out)) (by omega)).mono ?_); rintro e w2 ⟨rfl, b2⟩)
 rw [HCZ.out]
 have HLZ := hide (HLl.out.trans b2)
 clear b2 d0 d1 d2 d3 d4 d5 f0 f1 f2 f3
 have r_d := R0.out.later HLZ.out
 have d0 := r_d.cell (i := 0) rfl; have d1 := r_d.cell (i := 1) rfl; have d2 := r_d.cell (i := 2) rfl; have d3 := r_d.cell (i := 3) rfl; have d4 := r_d.cell (i := 4) rfl; have d5 := r_d.cell (i := 5) rfl
 clear r_d
 have HV : Hid (ub = (cz == 0 || (decide (cz < 0) && x.sense == 0) || (decide (0 < cz) && x.sense == 2))) := hide (by
  rw [<- HUB.out, <- HCZ.out]
  have hs := HS.out
  unfold rowHolds cmpQ
  by_cases h1 : dotL x.coef z < x.rhs
  ·have h2 : dotL x.coef z <= x.rhs := by grind
   have h3 : ¬ x.rhs <= dotL x.coef z := by grind
   simp [h1, h2, h3] <;> rfl
  ·by_cases h4 : x.rhs < dotL x.coef z
   ·have h2 : ¬ dotL x.coef z <= x.rhs := by grind
    have h3 : x.rhs <= dotL x.coef z := by grind
    simp [h1, h4, h2, h3] <;> rfl
   ·have h2 : dotL x.coef z <= x.rhs := by grind
    have h3 : x.rhs <= dotL x.coef z := by grind
    simp [h1, h4, h2, h3])
 obtain ⟨t0, ht0⟩ : ∃ b, (cz == 0) = b := ⟨_, rfl⟩
 obtain ⟨t1, ht1⟩ : ∃ b, decide (cz < 0) = b := ⟨_, rfl⟩
 obtain ⟨t2, ht2⟩ : ∃ b, decide (0 < cz) = b := ⟨_, rfl⟩
 obtain ⟨t3, ht3⟩ : ∃ b, (x.sense == 0) = b := ⟨_, rfl⟩
 obtain ⟨t4, ht4⟩ : ∃ b, (x.sense == 2) = b := ⟨_, rfl⟩
 rw [ht0, ht1, ht2, ht3, ht4] at HV
 cases t0 <;> cases t1 <;> cases t2 <;> cases t3 <;> cases t4 <;>
  (go_wp2_with fail
   go_ret
   exact ⟨by rw [HV.out]; rfl, B0.out.trans HLZ.out⟩)
end Go.Proofs.YtfokplidiboabaaGreat
namespace Go.Proofs.YtfokplidiboabaaGreat
open Go.RowKit Go.Shelf
theorem TabX.cells {w w' : World} {lo : Nat} {v : Value} {hs xs : List Value} {t ls : List (List Rat)} (h : TabX w lo v hs t xs ls) (hsz : w.heap.size <= w'.heap.size) (hk : ∀ (b : Nat) (cs : Array Value) (T : TypeId) (z : Nat × Nat), w.heap[b]? = some (Obj.cells cs T z) -> w'.heap[b]? = w.heap[b]?) : TabX w' lo v hs t xs ls := by
 refine ⟨?_, h.tab.keep ⟨hsz, fun b hb => ?_⟩ fun u hu g hg => ?_, h.lx, h.sl⟩
 ·obtain ⟨k1, k2⟩ := h.own
  refine ⟨k1, ?_⟩
  rcases k2 with k2 | ⟨g, cap, cur, hv, hb, hg, rest⟩
  ·exact .inl k2
  ·exact .inr ⟨g, cap, cur, hv, hb, (hk _ _ _ _ hg).trans hg, rest⟩
 ·obtain ⟨cs, z, hb⟩ := hb
  exact hk _ _ _ _ hb
 ·obtain ⟨cs, r⟩ := h.tab.ratBlock hu hg
  exact hk _ _ _ _ r
theorem TabX.own_ {X Y : World} {row : Option Nat} {lo : Nat} {v : Value} {hs xs : List Value} {t ls : List (List Rat)} (h : TabX X lo v hs t xs ls) (hg : X.grownBy Y row) (hr : ∀ r, row = some r -> ∃ o : Obj, X.heap[r]? = some o /\ o.isCells = false) : TabX Y lo v hs t xs ls :=
 h.cells hg.size fun b cs T z e => hg.block b (Array.getElem?_eq_some_iff.1 e).1 fun e2 => by
  obtain ⟨o, ho, hc⟩ := hr b e2.symm
  rw [e] at ho; injection ho with ho; subst ho; cases hc
theorem RowU.of_out {w : World} {P : Nat -> Prop} {lo : Nat} {v : Value} {l : List Rat} (h : OutRats EOwn w P lo v l) : RowU w lo v l := by
 obtain ⟨es, h1, h2, h3, h4⟩ := h
 refine ⟨es, h1, h2, h3, ?_⟩
 have hn := h4.now
 have key : On w (fun b => U32B w b /\ some b ≠ v.ownBlock) (fun W => ∀ x ∈ es.zip l, EOwn W (.agg #[.bool x.1.1, x.1.2.1, .bool x.1.2.2.1, x.1.2.2.2]) x.2) := by
  refine On.all _ fun x hx => ?_
  obtain ⟨i, hi⟩ := List.mem_iff_getElem?.1 hx
  rw [List.getElem?_zip_eq_some] at hi
  have ho : OwnR w 0 (.agg #[.bool x.1.1, x.1.2.1, .bool x.1.2.2.1, x.1.2.2.2]) x.2 := hn i x.1 x.2 hi.1 hi.2
  exact ho.onU.mono fun b hb _ => ⟨hb, hb.ne_own h2 tRat_u32⟩
 refine key.map fun W hW i e q he hq => ?_
 exact hW (e, q) (List.mem_iff_getElem?.2 ⟨i, by rw [List.getElem?_zip_eq_some]; exact ⟨he, hq⟩⟩)
theorem TabX.older {w : World} {lo lo' : Nat} {v u : Value} {hs xs : List Value} {t ls : List (List Rat)} {l : List Rat} (h : TabX w lo' v hs t xs ls) (hr : RowU w lo u l) (hlo : lo <= lo') (hlt : ∀ k, u.ownBlock = some k -> k < lo') : TabX w lo v hs t (u :: xs) (l :: ls) := by
 have hw := TabX.weaken h hlo
 have hge : ∀ (j : Nat) (v' : Value), (xs ++ hs)[j]? = some v' -> ∀ k, v'.ownBlock = some k -> lo' <= k := fun j v' hj k hk => by
  have hjl := (List.getElem?_eq_some_iff.1 hj).1
  exact (OutRats.lt (h.tab.row j v' _ hj (List.getElem?_eq_getElem (by rw [<- h.tab.len]; exact hjl))) k hk).1
 refine ⟨hw.own, ⟨by rw [List.cons_append, List.cons_append, List.length_cons, List.length_cons, h.tab.len], fun i v' l' e1 e2 => ?_, fun i j v1 v2 hij e1 e2 k hk1 hk2 => ?_⟩, by rw [List.length_cons, List.length_cons, h.lx], h.sl⟩
 ·cases i with
  | zero =>
    have e1' : u = v' := by simpa using e1
    have e2' : l = l' := by simpa using e2
    subst e1' e2'; exact hr
  | succ i => exact hw.tab.row i v' l' (by simpa using e1) (by simpa using e2)
 ·cases i with
  | zero =>
    have e1' : u = v1 := by simpa using e1
    subst e1'
    cases j with
    | zero => exact hij rfl
    | succ j =>
      have h1 := hlt k hk1
      have h2 := hge j v2 (by simpa using e2) k hk2
      omega
  | succ i =>
    cases j with
    | zero =>
      have e2' : u = v2 := by simpa using e2
      subst e2'
      have h1 := hlt k hk2
      have h2 := hge i v1 (by simpa using e1) k hk1
      omega
    | succ j => exact hw.tab.apart i j v1 v2 (by omega) (by simpa using e1) (by simpa using e2) k hk1 hk2
theorem TabX.putX {w : World} {lo B g cap n a i j : Nat} {v : Value} {hs xs : List Value} {t ls : List (List Rat)} {bl : List Rat} {q : Rat} {s s' : Bool} {A A' : Option Addr} {m c m' c' : Nat} (h : TabX w lo v hs t xs ls)
 (hi : xs[i]? = some (.slice (some ⟨g, 0, none⟩) n cap)) (hl : ls[i]? = some bl) (hj : j < bl.length) (ha : a = j * 4) (hq : OwnR w B (.agg #[.bool s, .slice A m c, .bool s', .slice A' m' c']) q) :
 TabX ((((w.setCell ⟨g, a, none⟩ (.bool s)).setCell ⟨g, a + 1, none⟩ (.slice A m c)).setCell ⟨g, a + 2, none⟩ (.bool s')).setCell ⟨g, a + 3, none⟩ (.slice A' m' c')) lo v hs t xs (ls.set i (bl.set j q)) := by
 have hb := h.x hi hl
 have hp := hb.put hj ha hq
 obtain ⟨W, hW⟩ : ∃ W, W = ((((w.setCell ⟨g, a, none⟩ (.bool s)).setCell ⟨g, a + 1, none⟩ (.slice A m c)).setCell ⟨g, a + 2, none⟩ (.bool s')).setCell ⟨g, a + 3, none⟩ (.slice A' m' c')) := ⟨_, rfl⟩
 have oo : Only g w W := by rw [hW]; exact (((Only.one g w _ _).set _ _).set _ _).set _ _
 rw [<- hW] at hp ⊢
 clear hW
 obtain ⟨cs, r0⟩ := h.tab.ratBlock (u := .slice (some ⟨g, 0, none⟩) n cap) (g := g) (List.mem_append_left _ (List.mem_of_getElem? hi)) rfl
 have hg : w.grownBy W (some g) := ⟨oo.os, oo.tape, oo.output, by rw [oo.size]; exact Nat.le_refl _, fun k _ hk => oo.block k fun e => hk (by rw [e])⟩
 have hil := (List.getElem?_eq_some_iff.1 hi).1
 have h1 := h.tab.put (i := i) (v := .slice (some ⟨g, 0, none⟩) n cap) (v' := .slice (some ⟨g, 0, none⟩) n cap) (l' := bl.set j q) (w' := W) (by rw [List.getElem?_append_left hil]; exact hi) hp hg (KeepU.only oo r0 tRat_u32) (.inl rfl)
 rw [List.set_append_left _ _ hil, List.set_append_left _ _ (by rw [<- h.lx]; exact hil)] at h1
 have e1 : xs.set i (.slice (some ⟨g, 0, none⟩) n cap) = xs := by
  refine List.ext_getElem? fun k => ?_
  by_cases hk : k = i
  ·subst hk; rw [List.getElem?_set_self hil, hi]
  ·rw [List.getElem?_set_ne (Ne.symm hk)]
 rw [e1] at h1
 exact ⟨ownsRow_apart h.own oo r0 (fun e => tRow_rat e.symm), h1, by rw [List.length_set]; exact h.lx, h.sl⟩
def Boxes (W : World) (l : List (Nat × TypeId × List Value)) : Prop := ∀ r ∈ l, Row W r.1 r.2.1 r.2.2
section
variable {w w' : World} {l : List (Nat × TypeId × List Value)}
theorem Boxes.later (h : Boxes w l) (hb : Later w w') : Boxes w' l := fun r hr => (h r hr).later hb
theorem Boxes.only {g : Nat} {T : TypeId} {cs : List Value} (h : Boxes w l) (o : Only g w w') (r : Row w g T cs) (hT : ∀ r ∈ l, r.2.1 ≠ T ∨ r.1 ≠ g) : Boxes w' l := fun x hx => (h x hx).only o (by
 rintro rfl
 rcases hT x hx with e | e
 ·have h1 := h x hx
  unfold Row at h1 r
  rw [r] at h1; injection h1 with h1; injection h1 with _ h1 _; exact e h1.symm
 ·exact e rfl)
theorem Boxes.grown {B size n : Nat} {T : TypeId} {v : Value} {xs : List Value} (h : Boxes w l) (hg : w.grownBy w' v.ownBlock) (k : w.ownsRow B T size v n xs) (hT : ∀ r ∈ l, r.2.1 ≠ T ∨ some r.1 ≠ v.ownBlock) : Boxes w' l := fun x hx => (h x hx).grown hg fun e => by
 rcases hT x hx with e2 | e2
 ·obtain ⟨-, k2⟩ := k
  rcases k2 with ⟨rfl, -⟩ | ⟨g, c, cur, rfl, -, hg, -⟩
  ·cases e
  ·injection e with e
   have h1 := h x hx
   unfold Row at h1
   rw [e, hg] at h1; injection h1 with h1; injection h1 with _ h1 _; exact e2 h1.symm
 ·exact e2 e
theorem Boxes.own_ {row : Option Nat} (h : Boxes w l) (hg : w.grownBy w' row) (hr : ∀ r, row = some r -> ∃ o : Obj, w.heap[r]? = some o /\ o.isCells = false) : Boxes w' l := fun x hx => row_own_ (h x hx) hg hr
end
theorem TabX.only_low {w w' : World} {lo g : Nat} {T : TypeId} {cs : List Value} {v : Value} {hs xs : List Value} {t ls : List (List Rat)} (h : TabX w lo v hs t xs ls) (o : Only g w w') (r : Row w g T cs) (hT : T ≠ 160) (hg : g < lo) : TabX w' lo v hs t xs ls := by
 refine ⟨?_, h.tab.keep (KeepU.only o r hT) fun u hu k hk => o.block k ?_, h.lx, h.sl⟩
 ·obtain ⟨k1, k2⟩ := h.own
  refine ⟨k1, ?_⟩
  rcases k2 with k2 | ⟨g', cap, cur, hv, hb, hg', rest⟩
  ·exact .inl k2
  ·exact .inr ⟨g', cap, cur, hv, hb, (o.block g' (by omega)).trans hg', rest⟩
 ·obtain ⟨i, hi⟩ := List.mem_iff_getElem?.1 hu
  have hil := (List.getElem?_eq_some_iff.1 hi).1
  have := (OutRats.lt (h.tab.row i u _ hi (List.getElem?_eq_getElem (by rw [<- h.tab.len]; exact hil))) k hk).1
  omega
structure KK (B : Nat) (X Y : World) : Prop where
 oth : KeepsOthers X Y
 kp : KpF B X Y
theorem KK.refl (B : Nat) (X : World) : KK B X X := ⟨KeepsOthers.refl _, KpF.refl _ _⟩
theorem KK.trans {B : Nat} {X Y Z : World} (h : KK B X Y) (k : KK B Y Z) : KK B X Z := ⟨h.oth.trans k.oth, h.kp.trans k.kp⟩
theorem KK.later {B : Nat} {X Y : World} (hB : B <= X.heap.size) (h : Later X Y) : KK B X Y :=
 ⟨⟨h.size, fun k o hk _ => (h.block k (Array.getElem?_eq_some_iff.1 hk).1).trans hk⟩, KpF.later hB h⟩
theorem KK.grown {B lo size n : Nat} {T : TypeId} {v : Value} {xs : List Value} {X Y : World} (hg : X.grownBy Y v.ownBlock) (k : X.ownsRow lo T size v n xs) (hB : B <= lo) (hBX : B <= X.heap.size) (h1 : T ≠ 60) (h2 : T ≠ 26) : KK B X Y := by
 have hb : ∀ j, v.ownBlock = some j -> lo <= j /\ ∃ cs z, X.heap[j]? = some (.cells cs T z) := fun j hj => by
  obtain ⟨-, k2⟩ := k
  rcases k2 with ⟨rfl, -⟩ | ⟨g, c, cur, rfl, hb, hg, -⟩
  ·cases hj
  ·injection hj with hj; subst hj; exact ⟨hb, _, _, hg⟩
 refine ⟨KeepsOthers.of_grownBy hg fun j o e ho => ?_, ⟨hg.os, hg.tape, hg.output, hg.size, fun b hb2 => hg.block b (by omega) fun e => ?_⟩, fun b cs z e => ?_⟩
 ·obtain ⟨-, cs, z, h3⟩ := hb j e
  rw [h3] at ho; injection ho with ho; subst ho; rfl
 ·have := (hb b e.symm).1; omega
 ·refine hg.block b (by rcases e with e | e <;> exact (Array.getElem?_eq_some_iff.1 e).1) fun e2 => ?_
  obtain ⟨-, cs', z', h3⟩ := hb b e2.symm
  rcases e with e | e <;> (rw [h3] at e; injection e with e; injection e with _ e _; first | exact h1 e | exact h2 e)
theorem KK.set {B g i : Nat} {W : World} {T : TypeId} {cs : List Value} {u : Value} (hB : B <= g) (r : Row W g T cs) (h1 : T ≠ 60) (h2 : T ≠ 26) : KK B W (W.setCell ⟨g, i, none⟩ u) :=
 ⟨KeepsOthers.setCell _ _ _, KpF.set hB r h1 h2⟩
theorem KK.size {B : Nat} {X Y : World} (h : KK B X Y) : X.heap.size <= Y.heap.size := h.oth.size
theorem wpIn_region_round_N {P : Program} {n l id : Nat} {ops : Array Oper} {Q : Exit -> Act -> World -> Prop} {a : Act} {w : World} (S : World -> Prop) (nf : List Nat) (hm : P.follows .mixedOrders = true) (hd : noDefer ops = true) (hQ : ∀ a w, ¬ Q .outgrown a w) (hS : S w.drew)
 (h : S w.drew -> wpAnyN P .any ops Q S nf ops.size (Array.replicate ops.size false) a w.drew) : (Code.region id ops true).wpIn (Fence.wide.inRound l) n P Q a w := by
 refine wpIn_region_draw fun t => wpOpsIn_of_wpOps hd hQ _ _ _ ?_
 simp only [Region.schedule, hm, Bool.true_or, if_true]
 exact wpAny_sound ops.size t _ a _ (wpAny_of_N _ _ _ _ (h hS))
theorem mix_get {α : Type} {A B : List α} {j : Nat} (h : A.length = B.length) (hj : j < B.length) : (A.take j ++ B.drop j)[j]? = B[j]? := by
 have hl : (A.take j).length = j := by rw [List.length_take]; omega
 rw [List.getElem?_append_right (by omega), hl, Nat.sub_self, List.getElem?_drop, Nat.add_zero]
theorem mix_set {α : Type} {A B : List α} {j : Nat} {a : α} (h : A.length = B.length) (hj : A[j]? = some a) : (A.take j ++ B.drop j).set j a = A.take (j+1) ++ B.drop (j+1) := by
 have hjl := (List.getElem?_eq_some_iff.1 hj).1
 have hl : (A.take j).length = j := by rw [List.length_take]; omega
 rw [List.set_append_right _ _ (by omega), hl, Nat.sub_self, List.take_add_one, hj, List.append_assoc]
 congr 1
 rw [List.drop_eq_getElem_cons (by omega)]; rfl
theorem mix_skip {α : Type} {A B : List α} {j : Nat} {a : α} (h : A.length = B.length) (ha : A[j]? = some a) (hb : B[j]? = some a) : A.take (j+1) ++ B.drop (j+1) = A.take j ++ B.drop j := by
 rw [<- mix_set h ha]
 have hjl := (List.getElem?_eq_some_iff.1 hb).1
 have h1 : (A.take j ++ B.drop j)[j]? = some a := by rw [mix_get h hjl]; exact hb
 refine List.ext_getElem? fun k => ?_
 by_cases hk : k = j
 ·subst hk
  rw [List.getElem?_set_self (List.getElem?_eq_some_iff.1 h1).1, h1]
 ·rw [List.getElem?_set_ne (Ne.symm hk)]
theorem mix_all {α : Type} {A B : List α} (h : A.length = B.length) : A.take B.length ++ B.drop B.length = A := by
 rw [List.drop_length, List.append_nil, <- h, List.take_length]
def wideW (ex : List (Nat × Rat)) (t : List (List Rat)) : List (List Rat) := (List.range t.length).map fun i => exRow ex i (t.getD i [])
theorem wideW_len (ex : List (Nat × Rat)) (t : List (List Rat)) : (wideW ex t).length = t.length := by unfold wideW; rw [List.length_map, List.length_range]
theorem wideW_get (ex : List (Nat × Rat)) (t : List (List Rat)) {i : Nat} (hi : i < t.length) : (wideW ex t)[i]? = some (exRow ex i (t.getD i [])) := by
 unfold wideW; rw [List.getElem?_map, List.getElem?_range hi]; rfl
theorem exRow_snoc (ex : List (Nat × Rat)) (x : Nat × Rat) (i : Nat) (row : List Rat) : exRow (ex ++ [x]) i row = exRow ex i row ++ [if i = x.1 then x.2 else 0] := by
 unfold exRow; rw [List.map_append, <- List.append_assoc]; rfl
theorem wideW_nil (t : List (List Rat)) : wideW [] t = t := by
 refine List.ext_getElem? fun i => ?_
 by_cases hi : i < t.length
 ·rw [wideW_get _ _ hi, List.getElem?_eq_getElem hi]
  unfold exRow; rw [List.map_nil, List.append_nil, List.getD_eq_getElem?_getD, List.getElem?_eq_getElem hi]; rfl
 ·rw [List.getElem?_eq_none (by rw [wideW_len]; omega), List.getElem?_eq_none (by omega)]
theorem wideA_W (P : PLp) : wideA P = wideW (extraL P) (baseA P) := rfl
theorem flip_pos {row : List Rat} {b : Rat} (h : ¬ b < 0) : flipR row b = row := by
 unfold flipR sgq; rw [if_neg h]
 refine List.ext_getElem? fun i => ?_
 rw [List.getElem?_map]
 cases row[i]? with
 | none => rfl
 | some x => show some (x * 1) = some x; congr 1; grind
theorem flip_neg {row : List Rat} {b : Rat} (h : b < 0) : flipR row b = axpyL (List.replicate row.length 0) row (-1) := by
 unfold flipR sgq; rw [if_pos h]
 induction row with
 | nil => rfl
 | cons x row ih =>
   rw [List.map_cons, ih, List.length_cons, List.replicate_succ, axpy_cons]
   congr 1; grind
theorem stdA_get {P : PLp} {j : Nat} (hj : j < (wideA P).length) : (stdA P)[j]? = some (flipR ((wideA P).getD j []) ((baseB P).getD j 0)) := by
 have h := (std_at j hj).1
 rw [<- h, List.getD_eq_getElem?_getD, List.getElem?_eq_getElem (by rw [stdA_len, <- wideA_len]; exact hj)]; rfl
theorem stdB_get {P : PLp} {j : Nat} (hj : j < (wideA P).length) : (stdB P)[j]? = some ((baseB P).getD j 0 * sgq ((baseB P).getD j 0)) := by
 have h := (std_at j hj).2
 rw [<- h, List.getD_eq_getElem?_getD, List.getElem?_eq_getElem (by rw [stdB_len, <- wideA_len]; exact hj)]; rfl
theorem sized_row {k : Nat} {ex : List (Nat × Rat)} {i : Nat} {row : List Rat} (h : ∀ q ∈ row, Sized q (k+1)) (hx : ∀ p ∈ ex, Sized p.2 (k+1)) : ∀ q ∈ exRow ex i row, Sized q (k+1) := by
 intro q hq
 unfold exRow at hq
 rcases List.mem_append.1 hq with hq | hq
 ·exact h q hq
 ·obtain ⟨p, hp, rfl⟩ := List.mem_map.1 hq
  split
  ·exact hx p hp
  ·exact Sized.zero k
theorem extra_one {P : PLp} : ∀ p ∈ extraL P, p.2 = 1 ∨ p.2 = -1 := by
 have hR : ∀ (rs : List PRow) i, ∀ p ∈ extraR rs i, p.2 = 1 ∨ p.2 = -1 := by
  intro rs
  induction rs with
  | nil => intro i p hp; cases hp
  | cons r rs ih =>
    intro i p hp
    rw [extraR_cons] at hp
    rcases List.mem_append.1 hp with hp | hp
    ·obtain ⟨x, hx, rfl⟩ := List.mem_map.1 hp
     rcases senX_cases r.sense with e | e | e <;> rw [e] at hx <;> simp at hx <;> subst hx
     ·exact .inl rfl
     ·exact .inr rfl
    ·exact ih _ p hp
 have hE : ∀ (os : List Bool) k, ∀ p ∈ extraE os k, p.2 = 1 ∨ p.2 = -1 := by
  intro os
  induction os with
  | nil => intro i p hp; cases hp
  | cons o os ih =>
    intro i p hp
    rw [extraE_cons] at hp
    split at hp
    ·exact ih _ p hp
    ·rcases List.mem_cons.1 hp with rfl | hp
     ·exact .inl rfl
     ·exact ih _ p hp
 intro p hp
 unfold extraL at hp
 rcases List.mem_append.1 hp with hp | hp
 ·exact hR _ _ p hp
 ·exact hE _ _ p hp
theorem LRows.get {E : RowE} {w : World} {v : Value} {l : List PRow} (h : LRows E w v l) {x : PRow} (hx : x ∈ l) : ∃ r, E w r x := by
 obtain ⟨A, c, e, h1, h2, h3⟩ := h
 obtain ⟨i, hi⟩ := List.mem_iff_getElem?.1 hx
 obtain ⟨b, off, ha, r, -, he⟩ := h3 i x hi
 exact ⟨r, he⟩
theorem sized_getD {l : List Rat} {k j : Nat} (h : ∀ q ∈ l, Sized q (k+1)) : Sized (l.getD j 0) (k+1) := by
 rw [List.getD_eq_getElem?_getD]
 cases hj : l[j]? with
 | none => exact Sized.zero k
 | some x => exact h x (List.mem_of_getElem? hj)
theorem baseA_sized {w : World} {vC vR vL vH vO : Value} {k : Nat} {P : PLp} (h : LpIn w vC vR vL vH vO k P) (hP : LpP P) : ∀ row ∈ baseA P, ∀ q ∈ row, Sized q (k+1) := by
 intro row hr q hq
 unfold baseA at hr
 rcases List.mem_append.1 hr with hr | hr
 ·obtain ⟨x, hx, rfl⟩ := List.mem_map.1 hr
  obtain ⟨r, he⟩ := h.rows.get hx
  exact Rats.sized he.coef q hq
 ·obtain ⟨j, hj, rfl⟩ := List.mem_map.1 hr
  unfold unitL at hq
  rcases List.mem_or_eq_of_mem_set hq with hq | rfl
  ·rw [(List.mem_replicate.1 hq).2]; exact Sized.zero k
  ·exact sized_1.mono (by omega)
theorem wideA_sized {w : World} {vC vR vL vH vO : Value} {k : Nat} {P : PLp} (h : LpIn w vC vR vL vH vO k P) (hP : LpP P) : ∀ row ∈ wideA P, ∀ q ∈ row, Sized q (k+1) := by
 intro row hr
 unfold wideA at hr
 obtain ⟨i, hi, rfl⟩ := List.mem_map.1 hr
 have hi := List.mem_range.1 hi
 refine sized_row (fun q hq => ?_) fun p hp => ?_
 ·rw [List.getD_eq_getElem?_getD, List.getElem?_eq_getElem hi] at hq
  exact baseA_sized h hP _ (List.getElem_mem hi) q hq
 ·rcases extra_one p hp with e | e <;> rw [e]
  ·exact sized_1.mono (by omega)
  ·exact sized_m1.mono (by omega)
theorem baseB_sized {w : World} {vC vR vL vH vO : Value} {k : Nat} {P : PLp} (h : LpIn w vC vR vL vH vO k P) (hP : LpP P) : ∀ b ∈ baseB P, Sized b 200000 := by
 intro b hb
 have hk := h.kk
 have hl := Rats.sized h.lo; have hh := Rats.sized h.hi
 unfold baseB at hb
 rcases List.mem_append.1 hb with hb | hb
 ·obtain ⟨x, hx, rfl⟩ := List.mem_map.1 hb
  obtain ⟨r, he⟩ := h.rows.get hx
  have h1 := sized_dotL (Rats.sized he.coef) hl
  have h2 := he.rhs.sized
  have hlen := (hP.rows x hx).1
  have h24 := hP.n24
  refine (h2.sub h1).mono ?_
  have : x.coef.length * (k + 1 + (k + 1) + 1) <= 24 * 2003 := Nat.mul_le_mul (by omega) (by omega)
  omega
 ·obtain ⟨j, hj, rfl⟩ := List.mem_map.1 hb
  exact ((sized_getD hh).sub (sized_getD hl)).mono (by omega)
end Go.Proofs.YtfokplidiboabaaGreat
