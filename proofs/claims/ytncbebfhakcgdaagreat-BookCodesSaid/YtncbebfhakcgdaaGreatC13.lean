/- Plans: whether a book's head may be (the program). -/
import Derived.Test.YtncbebfhakcgdaaGreatC12
import Derived.Test.YtncbebfhakcgdaaGreatC7
set_option linter.unusedVariables false
set_option linter.unusedSimpArgs false
set_option maxRecDepth 100000
namespace Go.Proofs.YtncbebfhakcgdaaGreat
open Go.RowKit Go.Shelf
attribute [local go_sem ↓] Go.wp_at_zero Go.wp_at_succ
set_option maxHeartbeats 4000000 in
theorem head_calls (w : World) (A1 A2 A3 A4 : Option Addr) (n1 n2 n3 n4 c1 c2 c3 c4 : Nat) (D : PBook) (h : BookIn w (.slice A1 n1 c1) (.slice A2 n2 c2) (.slice A3 n3 c3) (.slice A4 n4 c4) D) (u : Bool) (hu : headB D = u) :
 Calls Tryz.prog 57 #[.agg #[.slice A1 n1 c1, .int .i64 D.hor, .int .i64 D.now, .slice A2 n2 c2, .slice A3 n3 c3, .slice A4 n4 c4]] w (RetV w (.bool u)) := by
 have H := hide h; have HU := hide hu
 obtain ⟨l1, l2, l3, l4⟩ := h.lens
 have L1 := hide l1; have L2 := hide l2
 have hil := h.il; have hcl := h.cl
 have hn1 : n1 <= 1000 := by omega
 have hn2 : n2 <= 1000 := by omega
 have HH := hide h.hfit; have HN := hide h.nfit
 obtain ⟨u1, hu1⟩ : ∃ u, D.items.any (fun x => !x.okB) = u := ⟨_, rfl⟩
 obtain ⟨u2, hu2⟩ : ∃ u, D.caps.any (fun x => !decide (0 <= x /\ x <= 100)) = u := ⟨_, rfl⟩
 have HU1 := hide hu1; have HU2 := hide hu2
 have HI := hide hil; have HC := hide hcl
 clear h hu l1 l2 l3 l4 hil hcl hu1 hu2
 obtain ⟨W0, hW0⟩ : ∃ W0, W0 = (w.alloc (Obj.cells #[Value.slice A1 n1 c1, Value.int .i64 D.hor, Value.int .i64 D.now, Value.slice A2 n2 c2, Value.slice A3 n3 c3, Value.slice A4 n4 c4] 27)) := ⟨_, rfl⟩
 obtain ⟨hb0, r0, hsz0⟩ := boxes1 w [.slice A1 n1 c1, .int .i64 D.hor, .int .i64 D.now, .slice A2 n2 c2, .slice A3 n3 c3, .slice A4 n4 c4] 27 hW0
 have B0 := hide hb0; have HW0 := hide hW0
 have R0 := hide r0
 clear hb0 hW0 hsz0 r0
 go_enter Tryz.func57, Tryz.ntmps57
 go_upto_region 1 with fail
 rw [<- HW0.out]
 have r_d := R0.out.later (Later.refl W0)
 have d0 := r_d.cell (i := 0) rfl; have d1 := r_d.cell (i := 1) rfl; have d2 := r_d.cell (i := 2) rfl; have d3 := r_d.cell (i := 3) rfl; have d4 := r_d.cell (i := 4) rfl; have d5 := r_d.cell (i := 5) rfl
 clear r_d
 go_wp2_with fail
 refine (contT0_calls _ _ _ (H.out.later B0.out).its (by have := HI.out; omega) _ ⟨fun _ _ => by kernel_rfl⟩ (fun x => !x.okB) (fun W e1 e2 e3 x hW h1 h2 h3 hx => head1_calls W e1 e2 e3 x h1 h2 h3) u1 HU1.out).mono ?_
 rintro e w1 ⟨rfl, b1⟩
 have HL1 := hide b1
 clear b1 d0 d1 d2 d3 d4 d5
 have r_d := R0.out.later HL1.out
 have d0 := r_d.cell (i := 0) rfl; have d1 := r_d.cell (i := 1) rfl; have d2 := r_d.cell (i := 2) rfl; have d3 := r_d.cell (i := 3) rfl; have d4 := r_d.cell (i := 4) rfl; have d5 := r_d.cell (i := 5) rfl
 clear r_d
 go_wp2_with fail
 refine (contI0_calls _ _ _ (H.out.later (B0.out.trans HL1.out)).caps (by have := HC.out; omega) _ ⟨fun _ _ => by kernel_rfl⟩ (fun x => !decide (0 <= x /\ x <= 100)) (fun W x hW hx => head2_calls W x) u2 HU2.out).mono ?_
 rintro e w2 ⟨rfl, b2⟩
 have HL2 := hide (HL1.out.trans b2)
 clear b2 d0 d1 d2 d3 d4 d5
 have HP : Hid (u = true ↔ (u1 = false /\ u2 = false /\ (1 <= (n1 : Int) /\ (n1 : Int) <= 3) /\ (1 <= D.hor /\ D.hor * n1 <= 6) /\ (0 <= D.now /\ D.now <= 40) /\ (n2 : Int) <= 40)) := hide (by
  rw [<- HU.out, headB_iff, any_not_all HU1.out, any_not_all HU2.out, L1.out, L2.out]
  constructor
  ·intro h
   exact ⟨h.items, fun x hx => by simpa using h.caps x hx, ⟨by have := h.n1; omega, by have := h.n3; omega⟩, ⟨h.h1, h.h6⟩, ⟨h.t0, h.t40⟩, by have := h.cl; omega⟩
  ·rintro ⟨a, b, ⟨c1, c2⟩, ⟨d1, d2⟩, ⟨e1, e2⟩, f⟩
   exact ⟨a, fun x hx => by simpa using b x hx, by omega, by omega, d1, d2, e1, e2, by omega⟩)
 have r_d := R0.out.later HL2.out
 have d0 := r_d.cell (i := 0) rfl; have d1 := r_d.cell (i := 1) rfl; have d2 := r_d.cell (i := 2) rfl; have d3 := r_d.cell (i := 3) rfl; have d4 := r_d.cell (i := 4) rfl; have d5 := r_d.cell (i := 5) rfl
 clear r_d
 have HFIN := hide (B0.out.trans HL2.out)
 go_upto_region 4 with fail
 clear d0 d1 d2 d3 d4 d5
 have hr4 := R0.out.later HL2.out.drew
 have HT4 : Hid (∀ w', Later w2.drew w' -> w'.cell? ⟨w.heap.size, 0, none⟩ = some (.slice A1 n1 c1) /\ w'.cell? ⟨w.heap.size, 1, none⟩ = some (.int .i64 D.hor) /\ w'.cell? ⟨w.heap.size, 2, none⟩ = some (.int .i64 D.now) /\ w'.cell? ⟨w.heap.size, 3, none⟩ = some (.slice A2 n2 c2) /\ w'.cell? ⟨w.heap.size, 4, none⟩ = some (.slice A3 n3 c3) /\ w'.cell? ⟨w.heap.size, 5, none⟩ = some (.slice A4 n4 c4)) := hide fun w' hb => ⟨(hr4.later hb).cell rfl, (hr4.later hb).cell rfl, (hr4.later hb).cell rfl, (hr4.later hb).cell rfl, (hr4.later hb).cell rfl, (hr4.later hb).cell rfl⟩
 clear hr4
 have hmx : Tryz.prog.follows .mixedOrders = true := by kernel_rfl
 cases u1 with
 | true =>
   have hu9 : u = false := Bool.eq_false_iff.2 (fun h => by have := (HP.out.1 h).1; cases this)
   refine wp_region_N (fun w' => w'.cell? ⟨w.heap.size, 0, none⟩ = some (.slice A1 n1 c1) /\ w'.cell? ⟨w.heap.size, 1, none⟩ = some (.int .i64 D.hor) /\ w'.cell? ⟨w.heap.size, 2, none⟩ = some (.int .i64 D.now) /\ w'.cell? ⟨w.heap.size, 3, none⟩ = some (.slice A2 n2 c2) /\ w'.cell? ⟨w.heap.size, 4, none⟩ = some (.slice A3 n3 c3) /\ w'.cell? ⟨w.heap.size, 5, none⟩ = some (.slice A4 n4 c4)) [] hmx (HT4.out _ (Later.refl _)) (fun hHeld => ?_)
   refine tkB 15 0 ?_
   refine tkB 16 1 ?_
   refine tkB 17 2 ?_
   refine tkU 18 3 ?_
   try simp only [Act.put, s1_, s2_, s3_]
   refine tkU 19 4 ?_
   try simp only [Act.put, s1_, s2_, s3_]
   refine tkB 20 5 ?_
   refine tkB 21 6 ?_
   refine tkU 22 7 ?_
   try simp only [Act.put, s1_, s2_, s3_]
   refine tkU 23 8 ?_
   try simp only [Act.put, s1_, s2_, s3_]
   refine tkB 24 9 ?_
   refine tkB 25 10 ?_
   refine tkU 26 11 ?_
   try simp only [Act.put, s1_, s2_, s3_]
   refine tkU 27 12 ?_
   try simp only [Act.put, s1_, s2_, s3_]
   refine tkU 28 13 ?_
   try simp only [Act.put, s1_, s2_, s3_]
   refine tkU 29 14 ?_
   try simp only [Act.put, s1_, s2_, s3_]
   refine tkU 30 15 ?_
   try simp only [Act.put, s1_, s2_, s3_]
   refine tkB 31 16 ?_
   refine tkB 32 17 ?_
   refine tkU 33 18 ?_
   try simp only [Act.put, s1_, s2_, s3_]
   refine tkU 34 19 ?_
   try simp only [Act.put, s1_, s2_, s3_]
   refine tkU 35 20 ?_
   try simp only [Act.put, s1_, s2_, s3_]
   refine tkB 36 21 ?_
   refine tkB 37 22 ?_
   refine tkU 38 23 ?_
   try simp only [Act.put, s1_, s2_, s3_]
   refine tkU 39 24 ?_
   try simp only [Act.put, s1_, s2_, s3_]
   refine tkU 40 25 ?_
   try simp only [Act.put, s1_, s2_, s3_]
   refine tkU 41 26 ?_
   try simp only [Act.put, s1_, s2_, s3_]
   refine tkB 42 27 ?_
   refine tkB 2 28 ?_
   refine wpAnyN_done (by kernel_rfl) ?_ _
   clear hHeld
   go_wp2_with fail
   go_ret
   exact ⟨by first | rfl | (rw [hu9]; rfl), HFIN.out.drew⟩
 | false =>
 cases u2 with
 | true =>
   have hu9 : u = false := Bool.eq_false_iff.2 (fun h => by have := (HP.out.1 h).2.1; cases this)
   refine wp_region_N (fun w' => w'.cell? ⟨w.heap.size, 0, none⟩ = some (.slice A1 n1 c1) /\ w'.cell? ⟨w.heap.size, 1, none⟩ = some (.int .i64 D.hor) /\ w'.cell? ⟨w.heap.size, 2, none⟩ = some (.int .i64 D.now) /\ w'.cell? ⟨w.heap.size, 3, none⟩ = some (.slice A2 n2 c2) /\ w'.cell? ⟨w.heap.size, 4, none⟩ = some (.slice A3 n3 c3) /\ w'.cell? ⟨w.heap.size, 5, none⟩ = some (.slice A4 n4 c4)) [] hmx (HT4.out _ (Later.refl _)) (fun hHeld => ?_)
   refine tkB 15 0 ?_
   refine tkB 16 1 ?_
   refine tkB 17 2 ?_
   refine tkB 18 3 ?_
   refine tkB 19 4 ?_
   refine tkB 20 5 ?_
   refine tkB 21 6 ?_
   refine tkU 22 7 ?_
   try simp only [Act.put, s1_, s2_, s3_]
   refine tkU 23 8 ?_
   try simp only [Act.put, s1_, s2_, s3_]
   refine tkB 24 9 ?_
   refine tkB 25 10 ?_
   refine tkU 26 11 ?_
   try simp only [Act.put, s1_, s2_, s3_]
   refine tkU 27 12 ?_
   try simp only [Act.put, s1_, s2_, s3_]
   refine tkU 28 13 ?_
   try simp only [Act.put, s1_, s2_, s3_]
   refine tkU 29 14 ?_
   try simp only [Act.put, s1_, s2_, s3_]
   refine tkU 30 15 ?_
   try simp only [Act.put, s1_, s2_, s3_]
   refine tkB 31 16 ?_
   refine tkB 32 17 ?_
   refine tkU 33 18 ?_
   try simp only [Act.put, s1_, s2_, s3_]
   refine tkU 34 19 ?_
   try simp only [Act.put, s1_, s2_, s3_]
   refine tkU 35 20 ?_
   try simp only [Act.put, s1_, s2_, s3_]
   refine tkB 36 21 ?_
   refine tkB 37 22 ?_
   refine tkU 38 23 ?_
   try simp only [Act.put, s1_, s2_, s3_]
   refine tkU 39 24 ?_
   try simp only [Act.put, s1_, s2_, s3_]
   refine tkU 40 25 ?_
   try simp only [Act.put, s1_, s2_, s3_]
   refine tkU 41 26 ?_
   try simp only [Act.put, s1_, s2_, s3_]
   refine tkB 42 27 ?_
   refine tkB 2 28 ?_
   refine wpAnyN_done (by kernel_rfl) ?_ _
   clear hHeld
   go_wp2_with fail
   go_ret
   exact ⟨by first | rfl | (rw [hu9]; rfl), HFIN.out.drew⟩
 | false =>
 by_cases g1 : 1 <= (n1 : Int) /\ (n1 : Int) <= 3
 rotate_left
 ·have k1 : decide (1 <= (n1 : Int) /\ (n1 : Int) <= 3) = false := by simpa using g1
  have hu9 : u = false := Bool.eq_false_iff.2 (fun h => g1 (HP.out.1 h).2.2.1)
  refine wp_region_N (fun w' => w'.cell? ⟨w.heap.size, 0, none⟩ = some (.slice A1 n1 c1) /\ w'.cell? ⟨w.heap.size, 1, none⟩ = some (.int .i64 D.hor) /\ w'.cell? ⟨w.heap.size, 2, none⟩ = some (.int .i64 D.now) /\ w'.cell? ⟨w.heap.size, 3, none⟩ = some (.slice A2 n2 c2) /\ w'.cell? ⟨w.heap.size, 4, none⟩ = some (.slice A3 n3 c3) /\ w'.cell? ⟨w.heap.size, 5, none⟩ = some (.slice A4 n4 c4)) [] hmx (HT4.out _ (Later.refl _)) (fun hHeld => ?_)
  refine tkB 15 0 ?_
  refine tkB 16 1 ?_
  refine tkB 17 2 ?_
  refine tkB 18 3 ?_
  refine tkB 19 4 ?_
  refine tkB 20 5 ?_
  refine tkB 21 6 ?_
  refine tkB 22 7 ?_
  refine wpAnyN_ready (rs := [8]) (by kernel_rfl) (by simp) ?_
  refine AllReadyN.held rfl (by rfl) (fun K hK => ?_) AllReadyN.nil
  go_simp
  refine (pin_calls _ _ _ _ _ k1).mono ?_
  rintro e w8 ⟨rfl, rfl⟩
  refine hK.out _ _ ?_ (fun hHeld => ?_)
  ·exact hHeld
  clear hK K
  try simp only [Act.put, s1_, s2_, s3_]
  refine tkB 24 9 ?_
  refine tkB 25 10 ?_
  refine tkU 26 11 ?_
  try simp only [Act.put, s1_, s2_, s3_]
  refine tkU 27 12 ?_
  try simp only [Act.put, s1_, s2_, s3_]
  refine tkU 28 13 ?_
  try simp only [Act.put, s1_, s2_, s3_]
  refine tkU 29 14 ?_
  try simp only [Act.put, s1_, s2_, s3_]
  refine tkU 30 15 ?_
  try simp only [Act.put, s1_, s2_, s3_]
  refine tkB 31 16 ?_
  refine tkB 32 17 ?_
  refine tkU 33 18 ?_
  try simp only [Act.put, s1_, s2_, s3_]
  refine tkU 34 19 ?_
  try simp only [Act.put, s1_, s2_, s3_]
  refine tkU 35 20 ?_
  try simp only [Act.put, s1_, s2_, s3_]
  refine tkB 36 21 ?_
  refine tkB 37 22 ?_
  refine tkU 38 23 ?_
  try simp only [Act.put, s1_, s2_, s3_]
  refine tkU 39 24 ?_
  try simp only [Act.put, s1_, s2_, s3_]
  refine tkU 40 25 ?_
  try simp only [Act.put, s1_, s2_, s3_]
  refine tkU 41 26 ?_
  try simp only [Act.put, s1_, s2_, s3_]
  refine tkB 42 27 ?_
  refine tkB 2 28 ?_
  refine wpAnyN_done (by kernel_rfl) ?_ _
  clear hHeld
  go_wp2_with fail
  go_ret
  exact ⟨by first | rfl | (rw [hu9]; rfl), HFIN.out.drew⟩
 have k1 : decide (1 <= (n1 : Int) /\ (n1 : Int) <= 3) = true := by simpa using g1
 obtain ⟨z, hz⟩ : ∃ z, IntKind.i64.wrap (Int.tdiv 6 (n1 : Int)) = z := ⟨_, rfl⟩
 have hzz : n1 ≠ 0 := by omega
 have HZ : Hid (D.hor <= z ↔ D.hor * n1 <= 6) := hide (by
  have : n1 = 1 ∨ n1 = 2 ∨ n1 = 3 := by omega
  rcases this with rfl | rfl | rfl
  ·rw [show z = 6 by rw [<- hz]; decide]; omega
  ·rw [show z = 3 by rw [<- hz]; decide]; omega
  ·rw [show z = 2 by rw [<- hz]; decide]; omega)
 by_cases g2 : 1 <= D.hor /\ D.hor <= z
 rotate_left
 ·have k2 : decide (1 <= D.hor /\ D.hor <= z) = false := by simpa using g2
  rw [HZ.out] at g2
  have hu9 : u = false := Bool.eq_false_iff.2 (fun h => g2 (HP.out.1 h).2.2.2.1)
  refine wp_region_N (fun w' => w'.cell? ⟨w.heap.size, 0, none⟩ = some (.slice A1 n1 c1) /\ w'.cell? ⟨w.heap.size, 1, none⟩ = some (.int .i64 D.hor) /\ w'.cell? ⟨w.heap.size, 2, none⟩ = some (.int .i64 D.now) /\ w'.cell? ⟨w.heap.size, 3, none⟩ = some (.slice A2 n2 c2) /\ w'.cell? ⟨w.heap.size, 4, none⟩ = some (.slice A3 n3 c3) /\ w'.cell? ⟨w.heap.size, 5, none⟩ = some (.slice A4 n4 c4)) [] hmx (HT4.out _ (Later.refl _)) (fun hHeld => ?_)
  refine tkB 15 0 ?_
  refine tkB 16 1 ?_
  refine tkB 17 2 ?_
  refine tkB 18 3 ?_
  refine tkB 19 4 ?_
  refine tkB 20 5 ?_
  refine tkB 21 6 ?_
  refine tkB 22 7 ?_
  refine wpAnyN_ready (rs := [8]) (by kernel_rfl) (by simp) ?_
  refine AllReadyN.held rfl (by rfl) (fun K hK => ?_) AllReadyN.nil
  go_simp
  refine (pin_calls _ _ _ _ _ k1).mono ?_
  rintro e w8 ⟨rfl, rfl⟩
  refine hK.out _ _ ?_ (fun hHeld => ?_)
  ·exact hHeld
  clear hK K
  try simp only [Act.put, s1_, s2_, s3_]
  refine tkB 24 9 ?_
  refine tkB 25 10 ?_
  refine tkB 26 11 ?_
  refine tkB 27 12 ?_
  refine tkB 28 13 ?_
  refine tkB 29 14 ?_
  refine wpAnyN_ready (rs := [15]) (by kernel_rfl) (by simp) ?_
  refine AllReadyN.held rfl (by rfl) (fun K hK => ?_) AllReadyN.nil
  go_simp
  refine (pin_calls _ _ _ _ _ k2).mono ?_
  rintro e w15 ⟨rfl, rfl⟩
  refine hK.out _ _ ?_ (fun hHeld => ?_)
  ·exact hHeld
  clear hK K
  try simp only [Act.put, s1_, s2_, s3_]
  refine tkB 31 16 ?_
  refine tkB 32 17 ?_
  refine tkU 33 18 ?_
  try simp only [Act.put, s1_, s2_, s3_]
  refine tkU 34 19 ?_
  try simp only [Act.put, s1_, s2_, s3_]
  refine tkU 35 20 ?_
  try simp only [Act.put, s1_, s2_, s3_]
  refine tkB 36 21 ?_
  refine tkB 37 22 ?_
  refine tkU 38 23 ?_
  try simp only [Act.put, s1_, s2_, s3_]
  refine tkU 39 24 ?_
  try simp only [Act.put, s1_, s2_, s3_]
  refine tkU 40 25 ?_
  try simp only [Act.put, s1_, s2_, s3_]
  refine tkU 41 26 ?_
  try simp only [Act.put, s1_, s2_, s3_]
  refine tkB 42 27 ?_
  refine tkB 2 28 ?_
  refine wpAnyN_done (by kernel_rfl) ?_ _
  clear hHeld
  go_wp2_with fail
  go_ret
  exact ⟨by first | rfl | (rw [hu9]; rfl), HFIN.out.drew⟩
 have k2 : decide (1 <= D.hor /\ D.hor <= z) = true := by simpa using g2
 rw [HZ.out] at g2
 by_cases g3 : 0 <= D.now /\ D.now <= 40
 rotate_left
 ·have k3 : decide (0 <= D.now /\ D.now <= 40) = false := by simpa using g3
  have hu9 : u = false := Bool.eq_false_iff.2 (fun h => g3 (HP.out.1 h).2.2.2.2.1)
  refine wp_region_N (fun w' => w'.cell? ⟨w.heap.size, 0, none⟩ = some (.slice A1 n1 c1) /\ w'.cell? ⟨w.heap.size, 1, none⟩ = some (.int .i64 D.hor) /\ w'.cell? ⟨w.heap.size, 2, none⟩ = some (.int .i64 D.now) /\ w'.cell? ⟨w.heap.size, 3, none⟩ = some (.slice A2 n2 c2) /\ w'.cell? ⟨w.heap.size, 4, none⟩ = some (.slice A3 n3 c3) /\ w'.cell? ⟨w.heap.size, 5, none⟩ = some (.slice A4 n4 c4)) [] hmx (HT4.out _ (Later.refl _)) (fun hHeld => ?_)
  refine tkB 15 0 ?_
  refine tkB 16 1 ?_
  refine tkB 17 2 ?_
  refine tkB 18 3 ?_
  refine tkB 19 4 ?_
  refine tkB 20 5 ?_
  refine tkB 21 6 ?_
  refine tkB 22 7 ?_
  refine wpAnyN_ready (rs := [8]) (by kernel_rfl) (by simp) ?_
  refine AllReadyN.held rfl (by rfl) (fun K hK => ?_) AllReadyN.nil
  go_simp
  refine (pin_calls _ _ _ _ _ k1).mono ?_
  rintro e w8 ⟨rfl, rfl⟩
  refine hK.out _ _ ?_ (fun hHeld => ?_)
  ·exact hHeld
  clear hK K
  try simp only [Act.put, s1_, s2_, s3_]
  refine tkB 24 9 ?_
  refine tkB 25 10 ?_
  refine tkB 26 11 ?_
  refine tkB 27 12 ?_
  refine tkB 28 13 ?_
  refine tkB 29 14 ?_
  refine wpAnyN_ready (rs := [15]) (by kernel_rfl) (by simp) ?_
  refine AllReadyN.held rfl (by rfl) (fun K hK => ?_) AllReadyN.nil
  go_simp
  refine (pin_calls _ _ _ _ _ k2).mono ?_
  rintro e w15 ⟨rfl, rfl⟩
  refine hK.out _ _ ?_ (fun hHeld => ?_)
  ·exact hHeld
  clear hK K
  try simp only [Act.put, s1_, s2_, s3_]
  refine tkB 31 16 ?_
  refine tkB 32 17 ?_
  refine tkB 33 18 ?_
  refine tkB 34 19 ?_
  refine wpAnyN_ready (rs := [20]) (by kernel_rfl) (by simp) ?_
  refine AllReadyN.held rfl (by rfl) (fun K hK => ?_) AllReadyN.nil
  go_simp
  refine (pin_calls _ _ _ _ _ k3).mono ?_
  rintro e w20 ⟨rfl, rfl⟩
  refine hK.out _ _ ?_ (fun hHeld => ?_)
  ·exact hHeld
  clear hK K
  try simp only [Act.put, s1_, s2_, s3_]
  refine tkB 36 21 ?_
  refine tkB 37 22 ?_
  refine tkU 38 23 ?_
  try simp only [Act.put, s1_, s2_, s3_]
  refine tkU 39 24 ?_
  try simp only [Act.put, s1_, s2_, s3_]
  refine tkU 40 25 ?_
  try simp only [Act.put, s1_, s2_, s3_]
  refine tkU 41 26 ?_
  try simp only [Act.put, s1_, s2_, s3_]
  refine tkB 42 27 ?_
  refine tkB 2 28 ?_
  refine wpAnyN_done (by kernel_rfl) ?_ _
  clear hHeld
  go_wp2_with fail
  go_ret
  exact ⟨by first | rfl | (rw [hu9]; rfl), HFIN.out.drew⟩
 have k3 : decide (0 <= D.now /\ D.now <= 40) = true := by simpa using g3
 by_cases g4 : (n2 : Int) <= 40
 ·have k4 : decide ((n2 : Int) <= 40) = true := by simpa using g4
  have hu9 : u = true := HP.out.2 ⟨rfl, rfl, g1, g2, g3, g4⟩
  refine wp_region_N (fun w' => w'.cell? ⟨w.heap.size, 0, none⟩ = some (.slice A1 n1 c1) /\ w'.cell? ⟨w.heap.size, 1, none⟩ = some (.int .i64 D.hor) /\ w'.cell? ⟨w.heap.size, 2, none⟩ = some (.int .i64 D.now) /\ w'.cell? ⟨w.heap.size, 3, none⟩ = some (.slice A2 n2 c2) /\ w'.cell? ⟨w.heap.size, 4, none⟩ = some (.slice A3 n3 c3) /\ w'.cell? ⟨w.heap.size, 5, none⟩ = some (.slice A4 n4 c4)) [] hmx (HT4.out _ (Later.refl _)) (fun hHeld => ?_)
  refine tkB 15 0 ?_
  refine tkB 16 1 ?_
  refine tkB 17 2 ?_
  refine tkB 18 3 ?_
  refine tkB 19 4 ?_
  refine tkB 20 5 ?_
  refine tkB 21 6 ?_
  refine tkB 22 7 ?_
  refine wpAnyN_ready (rs := [8]) (by kernel_rfl) (by simp) ?_
  refine AllReadyN.held rfl (by rfl) (fun K hK => ?_) AllReadyN.nil
  go_simp
  refine (pin_calls _ _ _ _ _ k1).mono ?_
  rintro e w8 ⟨rfl, rfl⟩
  refine hK.out _ _ ?_ (fun hHeld => ?_)
  ·exact hHeld
  clear hK K
  try simp only [Act.put, s1_, s2_, s3_]
  refine tkB 24 9 ?_
  refine tkB 25 10 ?_
  refine tkB 26 11 ?_
  refine tkB 27 12 ?_
  refine tkB 28 13 ?_
  refine tkB 29 14 ?_
  refine wpAnyN_ready (rs := [15]) (by kernel_rfl) (by simp) ?_
  refine AllReadyN.held rfl (by rfl) (fun K hK => ?_) AllReadyN.nil
  go_simp
  refine (pin_calls _ _ _ _ _ k2).mono ?_
  rintro e w15 ⟨rfl, rfl⟩
  refine hK.out _ _ ?_ (fun hHeld => ?_)
  ·exact hHeld
  clear hK K
  try simp only [Act.put, s1_, s2_, s3_]
  refine tkB 31 16 ?_
  refine tkB 32 17 ?_
  refine tkB 33 18 ?_
  refine tkB 34 19 ?_
  refine wpAnyN_ready (rs := [20]) (by kernel_rfl) (by simp) ?_
  refine AllReadyN.held rfl (by rfl) (fun K hK => ?_) AllReadyN.nil
  go_simp
  refine (pin_calls _ _ _ _ _ k3).mono ?_
  rintro e w20 ⟨rfl, rfl⟩
  refine hK.out _ _ ?_ (fun hHeld => ?_)
  ·exact hHeld
  clear hK K
  try simp only [Act.put, s1_, s2_, s3_]
  refine tkB 36 21 ?_
  refine tkB 37 22 ?_
  refine tkB 38 23 ?_
  refine tkB 39 24 ?_
  refine tkB 40 25 ?_
  refine tkB 41 26 ?_
  refine tkB 42 27 ?_
  refine tkB 2 28 ?_
  refine wpAnyN_done (by kernel_rfl) ?_ _
  clear hHeld
  go_wp2_with fail
  go_ret
  exact ⟨by first | rfl | (rw [hu9]; rfl), HFIN.out.drew⟩
 ·have k4 : decide ((n2 : Int) <= 40) = false := by simpa using g4
  have hu9 : u = false := Bool.eq_false_iff.2 (fun h => g4 (HP.out.1 h).2.2.2.2.2)
  refine wp_region_N (fun w' => w'.cell? ⟨w.heap.size, 0, none⟩ = some (.slice A1 n1 c1) /\ w'.cell? ⟨w.heap.size, 1, none⟩ = some (.int .i64 D.hor) /\ w'.cell? ⟨w.heap.size, 2, none⟩ = some (.int .i64 D.now) /\ w'.cell? ⟨w.heap.size, 3, none⟩ = some (.slice A2 n2 c2) /\ w'.cell? ⟨w.heap.size, 4, none⟩ = some (.slice A3 n3 c3) /\ w'.cell? ⟨w.heap.size, 5, none⟩ = some (.slice A4 n4 c4)) [] hmx (HT4.out _ (Later.refl _)) (fun hHeld => ?_)
  refine tkB 15 0 ?_
  refine tkB 16 1 ?_
  refine tkB 17 2 ?_
  refine tkB 18 3 ?_
  refine tkB 19 4 ?_
  refine tkB 20 5 ?_
  refine tkB 21 6 ?_
  refine tkB 22 7 ?_
  refine wpAnyN_ready (rs := [8]) (by kernel_rfl) (by simp) ?_
  refine AllReadyN.held rfl (by rfl) (fun K hK => ?_) AllReadyN.nil
  go_simp
  refine (pin_calls _ _ _ _ _ k1).mono ?_
  rintro e w8 ⟨rfl, rfl⟩
  refine hK.out _ _ ?_ (fun hHeld => ?_)
  ·exact hHeld
  clear hK K
  try simp only [Act.put, s1_, s2_, s3_]
  refine tkB 24 9 ?_
  refine tkB 25 10 ?_
  refine tkB 26 11 ?_
  refine tkB 27 12 ?_
  refine tkB 28 13 ?_
  refine tkB 29 14 ?_
  refine wpAnyN_ready (rs := [15]) (by kernel_rfl) (by simp) ?_
  refine AllReadyN.held rfl (by rfl) (fun K hK => ?_) AllReadyN.nil
  go_simp
  refine (pin_calls _ _ _ _ _ k2).mono ?_
  rintro e w15 ⟨rfl, rfl⟩
  refine hK.out _ _ ?_ (fun hHeld => ?_)
  ·exact hHeld
  clear hK K
  try simp only [Act.put, s1_, s2_, s3_]
  refine tkB 31 16 ?_
  refine tkB 32 17 ?_
  refine tkB 33 18 ?_
  refine tkB 34 19 ?_
  refine wpAnyN_ready (rs := [20]) (by kernel_rfl) (by simp) ?_
  refine AllReadyN.held rfl (by rfl) (fun K hK => ?_) AllReadyN.nil
  go_simp
  refine (pin_calls _ _ _ _ _ k3).mono ?_
  rintro e w20 ⟨rfl, rfl⟩
  refine hK.out _ _ ?_ (fun hHeld => ?_)
  ·exact hHeld
  clear hK K
  try simp only [Act.put, s1_, s2_, s3_]
  refine tkB 36 21 ?_
  refine tkB 37 22 ?_
  refine tkB 38 23 ?_
  refine tkB 39 24 ?_
  refine tkB 40 25 ?_
  refine tkB 41 26 ?_
  refine tkB 42 27 ?_
  refine tkB 2 28 ?_
  refine wpAnyN_done (by kernel_rfl) ?_ _
  clear hHeld
  go_wp2_with fail
  go_ret
  exact ⟨by first | rfl | (rw [hu9]; rfl), HFIN.out.drew⟩
end Go.Proofs.YtncbebfhakcgdaaGreat
namespace Go.Proofs.YtncbebfhakcgdaaGreat
open Go.RowKit Go.Shelf
attribute [local go_sem ↓] Go.wp_at_zero Go.wp_at_succ
set_option maxHeartbeats 4000000 in
theorem may1_calls (w : World) (x : POrd) (G : Nat) (m : Int) (hc : w.cell? ⟨G, 0, none⟩ = some (.int .i64 m)) :
 Calls Tryz.prog 59 #[.agg #[.int .i64 x.id, .int .i64 x.item, .int .i64 x.due, .int .i64 x.qty], .pointer (some ⟨G, 0, none⟩)] w (RetV w (.bool (!decide ((1 <= x.id /\ x.id <= 1000000) /\ (0 <= x.item /\ x.item <= m) /\ (0 <= x.due /\ x.due <= 39) /\ (1 <= x.qty /\ x.qty <= 100))))) := by
 have HC := hide hc
 clear hc
 obtain ⟨W0, hW0⟩ : ∃ W0, W0 = (w.alloc (Obj.cells #[Value.int .i64 x.id, Value.int .i64 x.item, Value.int .i64 x.due, Value.int .i64 x.qty] 29)) := ⟨_, rfl⟩
 obtain ⟨hb0, r0, hsz0⟩ := boxes1 w [.int .i64 x.id, .int .i64 x.item, .int .i64 x.due, .int .i64 x.qty] 29 hW0
 have B0 := hide hb0; have HW0 := hide hW0
 have R0 := hide r0
 clear hb0 hW0 hsz0 r0
 go_enter Tryz.func59, Tryz.ntmps59
 go_upto_region 1 with fail
 rw [<- HW0.out]
 have hm := Later.cell B0.out HC.out
 have r_d := R0.out.later (Later.refl W0)
 have d0 := r_d.cell (i := 0) rfl; have d1 := r_d.cell (i := 1) rfl; have d2 := r_d.cell (i := 2) rfl; have d3 := r_d.cell (i := 3) rfl
 clear r_d
 by_cases g0 : 1 <= x.id /\ x.id <= 1000000
 rotate_left
 ·have k0 : decide (1 <= x.id /\ x.id <= 1000000) = false := by simpa using g0
  have hu9 : (!decide ((1 <= x.id /\ x.id <= 1000000) /\ (0 <= x.item /\ x.item <= m) /\ (0 <= x.due /\ x.due <= 39) /\ (1 <= x.qty /\ x.qty <= 100))) = true := by
   rw [Bool.not_eq_true', decide_eq_false_iff_not]; exact fun h => g0 h.1
  have HU9 := hide hu9
  clear hu9
  go_wp2_with (first | ((with_reducible refine (pin_calls _ _ _ _ _ k0).mono ?_); rintro e w9 ⟨rfl, rfl⟩) | ((with_reducible refine (pin_calls _ _ _ _ _ k1).mono ?_); rintro e w9 ⟨rfl, rfl⟩) | ((with_reducible refine (pin_calls _ _ _ _ _ k2).mono ?_); rintro e w9 ⟨rfl, rfl⟩) | ((with_reducible refine (pin_calls _ _ _ _ _ k3).mono ?_); rintro e w9 ⟨rfl, rfl⟩))
  go_ret
  exact ⟨by first | rfl | (rw [HU9.out]; rfl), B0.out⟩
 have k0 : decide (1 <= x.id /\ x.id <= 1000000) = true := by simpa using g0
 by_cases g1 : 0 <= x.item /\ x.item <= m
 rotate_left
 ·have k1 : decide (0 <= x.item /\ x.item <= m) = false := by simpa using g1
  have hu9 : (!decide ((1 <= x.id /\ x.id <= 1000000) /\ (0 <= x.item /\ x.item <= m) /\ (0 <= x.due /\ x.due <= 39) /\ (1 <= x.qty /\ x.qty <= 100))) = true := by
   rw [Bool.not_eq_true', decide_eq_false_iff_not]; exact fun h => g1 h.2.1
  have HU9 := hide hu9
  clear hu9
  go_wp2_with (first | ((with_reducible refine (pin_calls _ _ _ _ _ k0).mono ?_); rintro e w9 ⟨rfl, rfl⟩) | ((with_reducible refine (pin_calls _ _ _ _ _ k1).mono ?_); rintro e w9 ⟨rfl, rfl⟩) | ((with_reducible refine (pin_calls _ _ _ _ _ k2).mono ?_); rintro e w9 ⟨rfl, rfl⟩) | ((with_reducible refine (pin_calls _ _ _ _ _ k3).mono ?_); rintro e w9 ⟨rfl, rfl⟩))
  go_ret
  exact ⟨by first | rfl | (rw [HU9.out]; rfl), B0.out⟩
 have k1 : decide (0 <= x.item /\ x.item <= m) = true := by simpa using g1
 by_cases g2 : 0 <= x.due /\ x.due <= 39
 rotate_left
 ·have k2 : decide (0 <= x.due /\ x.due <= 39) = false := by simpa using g2
  have hu9 : (!decide ((1 <= x.id /\ x.id <= 1000000) /\ (0 <= x.item /\ x.item <= m) /\ (0 <= x.due /\ x.due <= 39) /\ (1 <= x.qty /\ x.qty <= 100))) = true := by
   rw [Bool.not_eq_true', decide_eq_false_iff_not]; exact fun h => g2 h.2.2.1
  have HU9 := hide hu9
  clear hu9
  go_wp2_with (first | ((with_reducible refine (pin_calls _ _ _ _ _ k0).mono ?_); rintro e w9 ⟨rfl, rfl⟩) | ((with_reducible refine (pin_calls _ _ _ _ _ k1).mono ?_); rintro e w9 ⟨rfl, rfl⟩) | ((with_reducible refine (pin_calls _ _ _ _ _ k2).mono ?_); rintro e w9 ⟨rfl, rfl⟩) | ((with_reducible refine (pin_calls _ _ _ _ _ k3).mono ?_); rintro e w9 ⟨rfl, rfl⟩))
  go_ret
  exact ⟨by first | rfl | (rw [HU9.out]; rfl), B0.out⟩
 have k2 : decide (0 <= x.due /\ x.due <= 39) = true := by simpa using g2
 by_cases g3 : 1 <= x.qty /\ x.qty <= 100
 rotate_left
 ·have k3 : decide (1 <= x.qty /\ x.qty <= 100) = false := by simpa using g3
  have hu9 : (!decide ((1 <= x.id /\ x.id <= 1000000) /\ (0 <= x.item /\ x.item <= m) /\ (0 <= x.due /\ x.due <= 39) /\ (1 <= x.qty /\ x.qty <= 100))) = true := by
   rw [Bool.not_eq_true', decide_eq_false_iff_not]; exact fun h => g3 h.2.2.2
  have HU9 := hide hu9
  clear hu9
  go_wp2_with (first | ((with_reducible refine (pin_calls _ _ _ _ _ k0).mono ?_); rintro e w9 ⟨rfl, rfl⟩) | ((with_reducible refine (pin_calls _ _ _ _ _ k1).mono ?_); rintro e w9 ⟨rfl, rfl⟩) | ((with_reducible refine (pin_calls _ _ _ _ _ k2).mono ?_); rintro e w9 ⟨rfl, rfl⟩) | ((with_reducible refine (pin_calls _ _ _ _ _ k3).mono ?_); rintro e w9 ⟨rfl, rfl⟩))
  go_ret
  exact ⟨by first | rfl | (rw [HU9.out]; rfl), B0.out⟩
 have k3 : decide (1 <= x.qty /\ x.qty <= 100) = true := by simpa using g3
 have hu9 : (!decide ((1 <= x.id /\ x.id <= 1000000) /\ (0 <= x.item /\ x.item <= m) /\ (0 <= x.due /\ x.due <= 39) /\ (1 <= x.qty /\ x.qty <= 100))) = false := by
  rw [Bool.not_eq_false', decide_eq_true_iff]; exact ⟨g0, g1, g2, g3⟩
 have HU9 := hide hu9
 clear hu9
 go_wp2_with (first | ((with_reducible refine (pin_calls _ _ _ _ _ k0).mono ?_); rintro e w9 ⟨rfl, rfl⟩) | ((with_reducible refine (pin_calls _ _ _ _ _ k1).mono ?_); rintro e w9 ⟨rfl, rfl⟩) | ((with_reducible refine (pin_calls _ _ _ _ _ k2).mono ?_); rintro e w9 ⟨rfl, rfl⟩) | ((with_reducible refine (pin_calls _ _ _ _ _ k3).mono ?_); rintro e w9 ⟨rfl, rfl⟩))
 go_ret
 exact ⟨by first | rfl | (rw [HU9.out]; rfl), B0.out⟩
set_option maxHeartbeats 4000000 in
theorem may2_calls (w : World) (x : PMk) (G : Nat) (m : Int) (hc : w.cell? ⟨G, 0, none⟩ = some (.int .i64 m)) :
 Calls Tryz.prog 62 #[.agg #[.int .i64 x.item, .int .i64 x.period, .int .i64 x.qty], .pointer (some ⟨G, 0, none⟩)] w (RetV w (.bool (!decide ((0 <= x.item /\ x.item <= m) /\ (0 <= x.period /\ x.period <= 39) /\ (0 <= x.qty /\ x.qty <= 100))))) := by
 have HC := hide hc
 clear hc
 obtain ⟨W0, hW0⟩ : ∃ W0, W0 = (w.alloc (Obj.cells #[Value.int .i64 x.item, Value.int .i64 x.period, Value.int .i64 x.qty] 43)) := ⟨_, rfl⟩
 obtain ⟨hb0, r0, hsz0⟩ := boxes1 w [.int .i64 x.item, .int .i64 x.period, .int .i64 x.qty] 43 hW0
 have B0 := hide hb0; have HW0 := hide hW0
 have R0 := hide r0
 clear hb0 hW0 hsz0 r0
 go_enter Tryz.func62, Tryz.ntmps62
 go_upto_region 1 with fail
 rw [<- HW0.out]
 have hm := Later.cell B0.out HC.out
 have r_d := R0.out.later (Later.refl W0)
 have d0 := r_d.cell (i := 0) rfl; have d1 := r_d.cell (i := 1) rfl; have d2 := r_d.cell (i := 2) rfl
 clear r_d
 by_cases g0 : 0 <= x.item /\ x.item <= m
 rotate_left
 ·have k0 : decide (0 <= x.item /\ x.item <= m) = false := by simpa using g0
  have hu9 : (!decide ((0 <= x.item /\ x.item <= m) /\ (0 <= x.period /\ x.period <= 39) /\ (0 <= x.qty /\ x.qty <= 100))) = true := by
   rw [Bool.not_eq_true', decide_eq_false_iff_not]; exact fun h => g0 h.1
  have HU9 := hide hu9
  clear hu9
  go_wp2_with (first | ((with_reducible refine (pin_calls _ _ _ _ _ k0).mono ?_); rintro e w9 ⟨rfl, rfl⟩) | ((with_reducible refine (pin_calls _ _ _ _ _ k1).mono ?_); rintro e w9 ⟨rfl, rfl⟩) | ((with_reducible refine (pin_calls _ _ _ _ _ k2).mono ?_); rintro e w9 ⟨rfl, rfl⟩))
  go_ret
  exact ⟨by first | rfl | (rw [HU9.out]; rfl), B0.out⟩
 have k0 : decide (0 <= x.item /\ x.item <= m) = true := by simpa using g0
 by_cases g1 : 0 <= x.period /\ x.period <= 39
 rotate_left
 ·have k1 : decide (0 <= x.period /\ x.period <= 39) = false := by simpa using g1
  have hu9 : (!decide ((0 <= x.item /\ x.item <= m) /\ (0 <= x.period /\ x.period <= 39) /\ (0 <= x.qty /\ x.qty <= 100))) = true := by
   rw [Bool.not_eq_true', decide_eq_false_iff_not]; exact fun h => g1 h.2.1
  have HU9 := hide hu9
  clear hu9
  go_wp2_with (first | ((with_reducible refine (pin_calls _ _ _ _ _ k0).mono ?_); rintro e w9 ⟨rfl, rfl⟩) | ((with_reducible refine (pin_calls _ _ _ _ _ k1).mono ?_); rintro e w9 ⟨rfl, rfl⟩) | ((with_reducible refine (pin_calls _ _ _ _ _ k2).mono ?_); rintro e w9 ⟨rfl, rfl⟩))
  go_ret
  exact ⟨by first | rfl | (rw [HU9.out]; rfl), B0.out⟩
 have k1 : decide (0 <= x.period /\ x.period <= 39) = true := by simpa using g1
 by_cases g2 : 0 <= x.qty /\ x.qty <= 100
 rotate_left
 ·have k2 : decide (0 <= x.qty /\ x.qty <= 100) = false := by simpa using g2
  have hu9 : (!decide ((0 <= x.item /\ x.item <= m) /\ (0 <= x.period /\ x.period <= 39) /\ (0 <= x.qty /\ x.qty <= 100))) = true := by
   rw [Bool.not_eq_true', decide_eq_false_iff_not]; exact fun h => g2 h.2.2
  have HU9 := hide hu9
  clear hu9
  go_wp2_with (first | ((with_reducible refine (pin_calls _ _ _ _ _ k0).mono ?_); rintro e w9 ⟨rfl, rfl⟩) | ((with_reducible refine (pin_calls _ _ _ _ _ k1).mono ?_); rintro e w9 ⟨rfl, rfl⟩) | ((with_reducible refine (pin_calls _ _ _ _ _ k2).mono ?_); rintro e w9 ⟨rfl, rfl⟩))
  go_ret
  exact ⟨by first | rfl | (rw [HU9.out]; rfl), B0.out⟩
 have k2 : decide (0 <= x.qty /\ x.qty <= 100) = true := by simpa using g2
 have hu9 : (!decide ((0 <= x.item /\ x.item <= m) /\ (0 <= x.period /\ x.period <= 39) /\ (0 <= x.qty /\ x.qty <= 100))) = false := by
  rw [Bool.not_eq_false', decide_eq_true_iff]; exact ⟨g0, g1, g2⟩
 have HU9 := hide hu9
 clear hu9
 go_wp2_with (first | ((with_reducible refine (pin_calls _ _ _ _ _ k0).mono ?_); rintro e w9 ⟨rfl, rfl⟩) | ((with_reducible refine (pin_calls _ _ _ _ _ k1).mono ?_); rintro e w9 ⟨rfl, rfl⟩) | ((with_reducible refine (pin_calls _ _ _ _ _ k2).mono ?_); rintro e w9 ⟨rfl, rfl⟩))
 go_ret
 exact ⟨by first | rfl | (rw [HU9.out]; rfl), B0.out⟩
set_option maxHeartbeats 2000000 in
theorem may3_calls (w : World) (x y : POrd) (z : Int) (hz : cmpI x.id y.id = z) :
 Calls Tryz.prog 64 #[.agg #[.int .i64 x.id, .int .i64 x.item, .int .i64 x.due, .int .i64 x.qty], .agg #[.int .i64 y.id, .int .i64 y.item, .int .i64 y.due, .int .i64 y.qty]] w (RetV w (.int .i64 z)) := by
 have HZ := hide hz
 clear hz
 obtain ⟨W0, hW0⟩ : ∃ W0, W0 = ((w.alloc (Obj.cells #[Value.int .i64 x.id, Value.int .i64 x.item, Value.int .i64 x.due, Value.int .i64 x.qty] 29)).alloc (Obj.cells #[Value.int .i64 y.id, Value.int .i64 y.item, Value.int .i64 y.due, Value.int .i64 y.qty] 29)) := ⟨_, rfl⟩
 obtain ⟨hb0, r0, r1, hsz0⟩ := boxes2 w [.int .i64 x.id, .int .i64 x.item, .int .i64 x.due, .int .i64 x.qty] [.int .i64 y.id, .int .i64 y.item, .int .i64 y.due, .int .i64 y.qty] 29 29 hW0
 have B0 := hide hb0; have HW0 := hide hW0
 have R0 := hide r0; have R1 := hide r1
 clear hb0 hW0 hsz0 r0 r1
 go_enter Tryz.func64, Tryz.ntmps64
 go_upto_region 1 with fail
 rw [<- HW0.out]
 have r_d := R0.out.later (Later.refl W0)
 have d0 := r_d.cell (i := 0) rfl; have d1 := r_d.cell (i := 1) rfl; have d2 := r_d.cell (i := 2) rfl; have d3 := r_d.cell (i := 3) rfl
 clear r_d
 have r_e := R1.out.later (Later.refl W0)
 have e0 := r_e.cell (i := 0) rfl; have e1 := r_e.cell (i := 1) rfl; have e2 := r_e.cell (i := 2) rfl; have e3 := r_e.cell (i := 3) rfl
 clear r_e
 go_wp2_with ((with_reducible refine (icompare_calls _ _ _ _ HZ.out).mono ?_); rintro e w9 ⟨rfl, rfl⟩)
 go_ret
 exact ⟨rfl, B0.out⟩
theorem sq_two {w : World} {g : Nat} {T : TypeId} {x y : Int} (hr : Row w g T [.int .i64 x, .int .i64 y]) : Sq 1 iCells w (.slice (some ⟨g, 0, none⟩) 2 2) [x, y] := by
 refine ⟨_, 2, rfl, Nat.le_refl _, by decide, fun i q hi => ?_⟩
 match i, hi with
 | 0, hi => simp at hi; subst hi; exact ⟨g, 0, rfl, fun j u hj => by
  match j, hj with
  | 0, hj => simp [iCells] at hj; subst hj; exact hr.cell rfl
  | j+1, hj => simp [iCells] at hj⟩
 | 1, hi => simp at hi; subst hi; exact ⟨g, 0, rfl, fun j u hj => by
  match j, hj with
  | 0, hj => simp [iCells] at hj; subst hj; exact hr.cell rfl
  | j+1, hj => simp [iCells] at hj⟩
 | i+2, hi => simp at hi
def cmpM (x y : PMk) : Int := orI [cmpI x.period y.period, cmpI x.item y.item]
theorem cmpI_neg (a b : Int) : cmpI a b < 0 ↔ a < b := by unfold cmpI; split <;> (try split) <;> omega
theorem cmpI_zero (a b : Int) : cmpI a b = 0 ↔ a = b := by unfold cmpI; split <;> (try split) <;> omega
theorem cmpM_neg (x y : PMk) : cmpM x y < 0 ↔ (x.period < y.period ∨ (x.period = y.period /\ x.item < y.item)) := by
 unfold cmpM orI orI orI
 by_cases h : cmpI x.period y.period = 0
 ·rw [if_pos h]
  rw [cmpI_zero] at h
  by_cases h2 : cmpI x.item y.item = 0
  ·rw [if_pos h2]; rw [cmpI_zero] at h2; omega
  ·rw [if_neg h2, cmpI_neg]; omega
 ·rw [if_neg h, cmpI_neg]
  rw [cmpI_zero] at h; omega
set_option maxHeartbeats 4000000 in
theorem may4_calls (w : World) (x y : PMk) (z : Int) (hz : cmpM x y = z) :
 Calls Tryz.prog 67 #[.agg #[.int .i64 x.item, .int .i64 x.period, .int .i64 x.qty], .agg #[.int .i64 y.item, .int .i64 y.period, .int .i64 y.qty]] w (RetV w (.int .i64 z)) := by
 obtain ⟨z1, h1⟩ : ∃ z1, cmpI x.period y.period = z1 := ⟨_, rfl⟩
 obtain ⟨z2, h2⟩ : ∃ z2, cmpI x.item y.item = z2 := ⟨_, rfl⟩
 unfold cmpM at hz
 rw [h1, h2] at hz
 have HZ := hide hz; have H1 := hide h1; have H2 := hide h2
 clear hz h1 h2
 obtain ⟨W0, hW0⟩ : ∃ W0, W0 = ((w.alloc (Obj.cells #[Value.int .i64 x.item, Value.int .i64 x.period, Value.int .i64 x.qty] 43)).alloc (Obj.cells #[Value.int .i64 y.item, Value.int .i64 y.period, Value.int .i64 y.qty] 43)) := ⟨_, rfl⟩
 obtain ⟨hb0, r0, r1, hsz0⟩ := boxes2 w [.int .i64 x.item, .int .i64 x.period, .int .i64 x.qty] [.int .i64 y.item, .int .i64 y.period, .int .i64 y.qty] 43 43 hW0
 have B0 := hide hb0; have HW0 := hide hW0
 have R0 := hide r0; have R1 := hide r1
 clear hb0 hW0 hsz0 r0 r1
 go_enter Tryz.func67, Tryz.ntmps67
 go_upto_region 1 with fail
 rw [<- HW0.out]
 have hr0 := R0.out.later (Later.refl W0).drew; have hr1 := R1.out.later (Later.refl W0).drew
 have HT1 : Hid (∀ w', Later W0.drew w' -> w'.cell? ⟨w.heap.size, 0, none⟩ = some (.int .i64 x.item) /\ w'.cell? ⟨w.heap.size, 1, none⟩ = some (.int .i64 x.period) /\ w'.cell? ⟨w.heap.size, 2, none⟩ = some (.int .i64 x.qty) /\ w'.cell? ⟨w.heap.size + 1, 0, none⟩ = some (.int .i64 y.item) /\ w'.cell? ⟨w.heap.size + 1, 1, none⟩ = some (.int .i64 y.period) /\ w'.cell? ⟨w.heap.size + 1, 2, none⟩ = some (.int .i64 y.qty)) := hide fun w' hb => ⟨(hr0.later hb).cell rfl, (hr0.later hb).cell rfl, (hr0.later hb).cell rfl, (hr1.later hb).cell rfl, (hr1.later hb).cell rfl, (hr1.later hb).cell rfl⟩
 clear hr0 hr1
 have hmx : Tryz.prog.follows .mixedOrders = true := by kernel_rfl
 refine wp_region_N (fun w' => w'.cell? ⟨w.heap.size, 0, none⟩ = some (.int .i64 x.item) /\ w'.cell? ⟨w.heap.size, 1, none⟩ = some (.int .i64 x.period) /\ w'.cell? ⟨w.heap.size, 2, none⟩ = some (.int .i64 x.qty) /\ w'.cell? ⟨w.heap.size + 1, 0, none⟩ = some (.int .i64 y.item) /\ w'.cell? ⟨w.heap.size + 1, 1, none⟩ = some (.int .i64 y.period) /\ w'.cell? ⟨w.heap.size + 1, 2, none⟩ = some (.int .i64 y.qty)) [] hmx (HT1.out _ (Later.refl _)) (fun hHeld => ?_)
 refine tkB 5 0 ?_
 refine tkB 6 1 ?_
 refine tkB 7 2 ?_
 refine tkB 8 3 ?_
 refine tkB 10 5 ?_
 refine tkB 11 6 ?_
 refine tkB 12 7 ?_
 refine tkB 13 8 ?_
 refine wpAnyN_ready (rs := [4]) (by kernel_rfl) (by simp) ?_
 refine AllReadyN.held rfl (by rfl) (fun K hK => ?_) AllReadyN.nil
 go_simp
 refine (icompare_calls _ _ _ _ H1.out).mono ?_
 rintro e w4 ⟨rfl, rfl⟩
 refine hK.out _ _ ?_ (fun hHeld => ?_)
 ·exact HT1.out _ (Later.refl _)
 clear hK K
 try simp only [Act.put, s1_, s2_, s3_]
 refine wpAnyN_ready (rs := [9]) (by kernel_rfl) (by simp) ?_
 refine AllReadyN.held rfl (by rfl) (fun K hK => ?_) AllReadyN.nil
 go_simp
 refine (icompare_calls _ _ _ _ H2.out).mono ?_
 rintro e w9 ⟨rfl, rfl⟩
 refine hK.out _ _ ?_ (fun hHeld => ?_)
 ·exact HT1.out _ (Later.refl _)
 clear hK K
 try simp only [Act.put, s1_, s2_, s3_]
 refine wpAnyN_ready (rs := [10]) (by kernel_rfl) (by simp) ?_
 refine AllReadyN.held rfl (by rfl) (fun K hK => ?_) AllReadyN.nil
 go_simp
 refine hK.out _ _ ?_ (fun hHeld => ?_)
 ·exact HT1.out _ ((Later.refl _).alloc _)
 clear hK K
 try simp only [Act.put, s1_, s2_, s3_]
 refine wpAnyN_ready (rs := [11]) (by kernel_rfl) (by simp) ?_
 refine AllReadyN.held rfl (by rfl) (fun K hK => ?_) AllReadyN.nil
 go_simp
 refine (cor_calls _ _ _ _ [z1, z2] (sq_two (Row.new W0.drew 3 [.int .i64 z1, .int .i64 z2])) (by simp) _ HZ.out).mono ?_
 rintro e w11 ⟨rfl, rfl⟩
 refine hK.out _ _ ?_ (fun hHeld => ?_)
 ·exact HT1.out _ ((Later.refl _).alloc _)
 clear hK K
 try simp only [Act.put, s1_, s2_, s3_]
 refine tkB 4 12 ?_
 refine wpAnyN_done (by kernel_rfl) ?_ _
 clear hHeld
 go_wp2_with fail
 go_ret
 exact ⟨rfl, B0.out.trans ((Later.refl W0).drew.alloc _)⟩
set_option maxHeartbeats 4000000 in
theorem risesO_calls (w : World) (v : Value) (l : List POrd) (h : Sq 4 oCells w v l) (hl : l.length <= 1000000000) (f : FuncId) (hf : Enters f) (c : POrd -> POrd -> Int) (hp : ∀ W x y, Later w W -> x ∈ l -> y ∈ l -> Calls Tryz.prog f #[.agg #[.int .i64 x.id, .int .i64 x.item, .int .i64 x.due, .int .i64 x.qty], .agg #[.int .i64 y.id, .int .i64 y.item, .int .i64 y.due, .int .i64 y.qty]] W (RetV W (.int .i64 (c x y)))) (u : Bool) (hu : u = true ↔ ∀ (i : Nat) x y, l[i]? = some x -> l[i+1]? = some y -> c x y < 0) :
 Calls Tryz.prog 63 #[v, .func (.func f) #[] #[]] w (RetV w (.bool u)) := by
 have H := hide h; have HP := hide hp; have HU := hide hu
 have hen := hf.out
 obtain ⟨A0, nt, ct, rfl, hnt, -, -, -⟩ := h.form
 have HNT := hide hnt
 have hn9 : nt <= 1000000000 := by omega
 clear h hp hnt hl hu
 go_enter Tryz.func63, Tryz.ntmps63
 go_wp2_with fail
 go_loopw [5] (fun i wr => ∃ j : Nat, (j < nt ∨ j = 0) /\ i = .int .i64 ((j : Int) + 1) /\ Hid (∀ (i : Nat) x y, i < j -> l[i]? = some x -> l[i+1]? = some y -> c x y < 0) /\ Later w wr) (fun i _ => (nt - intOf i).toNat)
 case atStart => exact ⟨0, by omega, rfl, hide fun i x y hi => by omega, Later.refl w⟩
 case round =>
  obtain ⟨j, hj, rfl, hpre, hL⟩ := hrel
  by_cases hjn : j + 1 < nt
  ·obtain ⟨x, hx⟩ : ∃ x, l[j]? = some x := ⟨l[j]'(by have := HNT.out; omega), List.getElem?_eq_getElem _⟩
   obtain ⟨y, hy⟩ : ∃ y, l[j+1]? = some y := ⟨l[j+1]'(by have := HNT.out; omega), List.getElem?_eq_getElem _⟩
   obtain ⟨b1, off1, e1, x0, x1, x2, x3⟩ := (H.out.later hL.drew).at4 hx
   obtain ⟨b2, off2, e2, y0, y1, y2, y3⟩ := (H.out.later hL.drew).at4 hy
   subst e1
   injection e2 with e2; injection e2 with e2 e3
   subst e2 e3
   have HX := hide hx; have HY := hide hy; have HL := hide hL
   obtain ⟨z, hz⟩ : ∃ z, c x y = z := ⟨_, rfl⟩
   have HZ := hide hz
   have hj0 : (0 : Int) <= (j : Int) := by omega
   have hj1 : (j : Int) + 1 < nt := by omega
   have hw1 : IntKind.i64.wrap (j : Int) = (j : Int) := IntWalk.i64_in _ (by omega)
   have hj2 : ((j : Int) + 1).toNat = j + 1 := by omega
   have hj3 : ((j : Int)).toNat = j := by omega
   have hj4 : (0 : Int) <= (j : Int) + 1 := by omega
   have hj5 : (j : Int) < nt := by omega
   have HT1 : Hid (∀ w', Later wr.drew w' -> w'.cell? ⟨b1, off1 + j * 4, none⟩ = some (.int .i64 x.id) /\ w'.cell? ⟨b1, off1 + j * 4 + 1, none⟩ = some (.int .i64 x.item) /\ w'.cell? ⟨b1, off1 + j * 4 + 2, none⟩ = some (.int .i64 x.due) /\ w'.cell? ⟨b1, off1 + j * 4 + 3, none⟩ = some (.int .i64 x.qty) /\ w'.cell? ⟨b1, off1 + (j + 1) * 4, none⟩ = some (.int .i64 y.id) /\ w'.cell? ⟨b1, off1 + (j + 1) * 4 + 1, none⟩ = some (.int .i64 y.item) /\ w'.cell? ⟨b1, off1 + (j + 1) * 4 + 2, none⟩ = some (.int .i64 y.due) /\ w'.cell? ⟨b1, off1 + (j + 1) * 4 + 3, none⟩ = some (.int .i64 y.qty)) := hide fun w' hb => ⟨Later.cell hb x0, Later.cell hb x1, Later.cell hb x2, Later.cell hb x3, Later.cell hb y0, Later.cell hb y1, Later.cell hb y2, Later.cell hb y3⟩
   clear hx hy hz hL x0 x1 x2 x3 y0 y1 y2 y3
   go_upto_region 4 with fail
   have hmx : Tryz.prog.follows .mixedOrders = true := by kernel_rfl
   obtain ⟨u9, t9⟩ : ∃ u9, decide (0 <= z) = u9 := ⟨_, rfl⟩
   refine wp_region_N (fun w' => w'.cell? ⟨b1, off1 + j * 4, none⟩ = some (.int .i64 x.id) /\ w'.cell? ⟨b1, off1 + j * 4 + 1, none⟩ = some (.int .i64 x.item) /\ w'.cell? ⟨b1, off1 + j * 4 + 2, none⟩ = some (.int .i64 x.due) /\ w'.cell? ⟨b1, off1 + j * 4 + 3, none⟩ = some (.int .i64 x.qty) /\ w'.cell? ⟨b1, off1 + (j + 1) * 4, none⟩ = some (.int .i64 y.id) /\ w'.cell? ⟨b1, off1 + (j + 1) * 4 + 1, none⟩ = some (.int .i64 y.item) /\ w'.cell? ⟨b1, off1 + (j + 1) * 4 + 2, none⟩ = some (.int .i64 y.due) /\ w'.cell? ⟨b1, off1 + (j + 1) * 4 + 3, none⟩ = some (.int .i64 y.qty)) [] hmx (HT1.out _ (Later.refl _)) (fun hHeld => ?_)
   refine tkB 12 0 ?_
   refine tkB 13 1 ?_
   refine tkB 14 2 ?_
   refine tkB 15 3 ?_
   refine tkB 16 4 ?_
   refine tkB 17 5 ?_
   refine tkB 18 6 ?_
   refine tkB 19 7 ?_
   refine tkB 20 8 ?_
   refine tkB 21 9 ?_
   refine wpAnyN_ready (rs := [10]) (by kernel_rfl) (by simp) ?_
   refine AllReadyN.held rfl (by rfl) (fun K hK => ?_) AllReadyN.nil
   go_simp
   refine (HP.out _ x y (HL.out.drew) (List.mem_of_getElem? HX.out) (List.mem_of_getElem? HY.out)).mono ?_
   rintro e w10 ⟨rfl, b10⟩
   rw [HZ.out]
   refine hK.out _ _ ?_ (fun hHeld => ?_)
   ·exact HT1.out _ b10
   clear hK K
   try simp only [Act.put, s1_, s2_, s3_]
   refine tkB 23 11 ?_
   refine wpAnyN_done (by kernel_rfl) ?_ _
   clear hHeld
   have HLW := hide (HL.out.drew.trans b10)
   clear b10
   cases u9 with
   | true =>
     have HF : Hid (u = false) := hide (Bool.eq_false_iff.2 (fun h => by
      have h5 := HU.out.1 h j x y HX.out HY.out
      rw [HZ.out] at h5
      rw [decide_eq_true_iff] at t9; omega))
     clear t9
     go_wp2_with fail
     go_ret
     exact ⟨by rw [HF.out]; rfl, HLW.out⟩
   | false =>
     have HN : Hid (∀ (i : Nat) x y, i < j + 1 -> l[i]? = some x -> l[i+1]? = some y -> c x y < 0) := hide fun i x' y' hi hx hy => by
      by_cases hij : i < j
      ·exact hpre.out i x' y' hij hx hy
      ·obtain rfl : i = j := by omega
       rw [HX.out] at hx; rw [HY.out] at hy
       injection hx with hx; injection hy with hy
       rw [<- hx, <- hy, HZ.out]
       rw [decide_eq_false_iff_not] at t9; omega
     clear t9 hw1 hj2 hj3
     go_wp2_with fail
     exact ⟨⟨j+1, by omega, by go_num, HN, HLW.out⟩, by simp [intOf]; omega⟩
  ·have HF : Hid (u = true) := hide (HU.out.2 fun i x y hx hy => hpre.out i x y (by
    have := (List.getElem?_eq_some_iff.1 hy).1
    have := HNT.out; omega) hx hy)
   have hj1 : ¬ (j : Int) + 1 < nt := by omega
   go_wp2_with fail
   go_ret
   exact ⟨by rw [HF.out]; rfl, hL⟩
set_option maxHeartbeats 4000000 in
theorem risesM_calls (w : World) (v : Value) (l : List PMk) (h : Sq 3 mCells w v l) (hl : l.length <= 1000000000) (f : FuncId) (hf : Enters f) (c : PMk -> PMk -> Int) (hp : ∀ W x y, Later w W -> x ∈ l -> y ∈ l -> Calls Tryz.prog f #[.agg #[.int .i64 x.item, .int .i64 x.period, .int .i64 x.qty], .agg #[.int .i64 y.item, .int .i64 y.period, .int .i64 y.qty]] W (RetV W (.int .i64 (c x y)))) (u : Bool) (hu : u = true ↔ ∀ (i : Nat) x y, l[i]? = some x -> l[i+1]? = some y -> c x y < 0) :
 Calls Tryz.prog 66 #[v, .func (.func f) #[] #[]] w (RetV w (.bool u)) := by
 have H := hide h; have HP := hide hp; have HU := hide hu
 have hen := hf.out
 obtain ⟨A0, nt, ct, rfl, hnt, -, -, -⟩ := h.form
 have HNT := hide hnt
 have hn9 : nt <= 1000000000 := by omega
 clear h hp hnt hl hu
 go_enter Tryz.func66, Tryz.ntmps66
 go_wp2_with fail
 go_loopw [5] (fun i wr => ∃ j : Nat, (j < nt ∨ j = 0) /\ i = .int .i64 ((j : Int) + 1) /\ Hid (∀ (i : Nat) x y, i < j -> l[i]? = some x -> l[i+1]? = some y -> c x y < 0) /\ Later w wr) (fun i _ => (nt - intOf i).toNat)
 case atStart => exact ⟨0, by omega, rfl, hide fun i x y hi => by omega, Later.refl w⟩
 case round =>
  obtain ⟨j, hj, rfl, hpre, hL⟩ := hrel
  by_cases hjn : j + 1 < nt
  ·obtain ⟨x, hx⟩ : ∃ x, l[j]? = some x := ⟨l[j]'(by have := HNT.out; omega), List.getElem?_eq_getElem _⟩
   obtain ⟨y, hy⟩ : ∃ y, l[j+1]? = some y := ⟨l[j+1]'(by have := HNT.out; omega), List.getElem?_eq_getElem _⟩
   obtain ⟨b1, off1, e1, x0, x1, x2⟩ := (H.out.later hL.drew).at3 hx
   obtain ⟨b2, off2, e2, y0, y1, y2⟩ := (H.out.later hL.drew).at3 hy
   subst e1
   injection e2 with e2; injection e2 with e2 e3
   subst e2 e3
   have HX := hide hx; have HY := hide hy; have HL := hide hL
   obtain ⟨z, hz⟩ : ∃ z, c x y = z := ⟨_, rfl⟩
   have HZ := hide hz
   have hj0 : (0 : Int) <= (j : Int) := by omega
   have hj1 : (j : Int) + 1 < nt := by omega
   have hw1 : IntKind.i64.wrap (j : Int) = (j : Int) := IntWalk.i64_in _ (by omega)
   have hj2 : ((j : Int) + 1).toNat = j + 1 := by omega
   have hj3 : ((j : Int)).toNat = j := by omega
   have hj4 : (0 : Int) <= (j : Int) + 1 := by omega
   have hj5 : (j : Int) < nt := by omega
   have HT1 : Hid (∀ w', Later wr.drew w' -> w'.cell? ⟨b1, off1 + j * 3, none⟩ = some (.int .i64 x.item) /\ w'.cell? ⟨b1, off1 + j * 3 + 1, none⟩ = some (.int .i64 x.period) /\ w'.cell? ⟨b1, off1 + j * 3 + 2, none⟩ = some (.int .i64 x.qty) /\ w'.cell? ⟨b1, off1 + (j + 1) * 3, none⟩ = some (.int .i64 y.item) /\ w'.cell? ⟨b1, off1 + (j + 1) * 3 + 1, none⟩ = some (.int .i64 y.period) /\ w'.cell? ⟨b1, off1 + (j + 1) * 3 + 2, none⟩ = some (.int .i64 y.qty)) := hide fun w' hb => ⟨Later.cell hb x0, Later.cell hb x1, Later.cell hb x2, Later.cell hb y0, Later.cell hb y1, Later.cell hb y2⟩
   clear hx hy hz hL x0 x1 x2 y0 y1 y2
   go_upto_region 4 with fail
   have hmx : Tryz.prog.follows .mixedOrders = true := by kernel_rfl
   obtain ⟨u9, t9⟩ : ∃ u9, decide (0 <= z) = u9 := ⟨_, rfl⟩
   refine wp_region_N (fun w' => w'.cell? ⟨b1, off1 + j * 3, none⟩ = some (.int .i64 x.item) /\ w'.cell? ⟨b1, off1 + j * 3 + 1, none⟩ = some (.int .i64 x.period) /\ w'.cell? ⟨b1, off1 + j * 3 + 2, none⟩ = some (.int .i64 x.qty) /\ w'.cell? ⟨b1, off1 + (j + 1) * 3, none⟩ = some (.int .i64 y.item) /\ w'.cell? ⟨b1, off1 + (j + 1) * 3 + 1, none⟩ = some (.int .i64 y.period) /\ w'.cell? ⟨b1, off1 + (j + 1) * 3 + 2, none⟩ = some (.int .i64 y.qty)) [] hmx (HT1.out _ (Later.refl _)) (fun hHeld => ?_)
   refine tkB 12 0 ?_
   refine tkB 13 1 ?_
   refine tkB 14 2 ?_
   refine tkB 15 3 ?_
   refine tkB 16 4 ?_
   refine tkB 17 5 ?_
   refine tkB 18 6 ?_
   refine tkB 19 7 ?_
   refine tkB 20 8 ?_
   refine tkB 21 9 ?_
   refine wpAnyN_ready (rs := [10]) (by kernel_rfl) (by simp) ?_
   refine AllReadyN.held rfl (by rfl) (fun K hK => ?_) AllReadyN.nil
   go_simp
   refine (HP.out _ x y (HL.out.drew) (List.mem_of_getElem? HX.out) (List.mem_of_getElem? HY.out)).mono ?_
   rintro e w10 ⟨rfl, b10⟩
   rw [HZ.out]
   refine hK.out _ _ ?_ (fun hHeld => ?_)
   ·exact HT1.out _ b10
   clear hK K
   try simp only [Act.put, s1_, s2_, s3_]
   refine tkB 23 11 ?_
   refine wpAnyN_done (by kernel_rfl) ?_ _
   clear hHeld
   have HLW := hide (HL.out.drew.trans b10)
   clear b10
   cases u9 with
   | true =>
     have HF : Hid (u = false) := hide (Bool.eq_false_iff.2 (fun h => by
      have h5 := HU.out.1 h j x y HX.out HY.out
      rw [HZ.out] at h5
      rw [decide_eq_true_iff] at t9; omega))
     clear t9
     go_wp2_with fail
     go_ret
     exact ⟨by rw [HF.out]; rfl, HLW.out⟩
   | false =>
     have HN : Hid (∀ (i : Nat) x y, i < j + 1 -> l[i]? = some x -> l[i+1]? = some y -> c x y < 0) := hide fun i x' y' hi hx hy => by
      by_cases hij : i < j
      ·exact hpre.out i x' y' hij hx hy
      ·obtain rfl : i = j := by omega
       rw [HX.out] at hx; rw [HY.out] at hy
       injection hx with hx; injection hy with hy
       rw [<- hx, <- hy, HZ.out]
       rw [decide_eq_false_iff_not] at t9; omega
     clear t9 hw1 hj2 hj3
     go_wp2_with fail
     exact ⟨⟨j+1, by omega, by go_num, HN, HLW.out⟩, by simp [intOf]; omega⟩
  ·have HF : Hid (u = true) := hide (HU.out.2 fun i x y hx hy => hpre.out i x y (by
    have := (List.getElem?_eq_some_iff.1 hy).1
    have := HNT.out; omega) hx hy)
   have hj1 : ¬ (j : Int) + 1 < nt := by omega
   go_wp2_with fail
   go_ret
   exact ⟨by rw [HF.out]; rfl, hL⟩
end Go.Proofs.YtncbebfhakcgdaaGreat
namespace Go.Proofs.YtncbebfhakcgdaaGreat
open Go.RowKit Go.Shelf
attribute [local go_sem ↓] Go.wp_at_zero Go.wp_at_succ
theorem exists_bool (p : Prop) : ∃ u : Bool, u = true ↔ p := by classical exact ⟨decide p, by simp⟩
set_option maxHeartbeats 4000000 in
theorem plmay_calls (w : World) (A1 A2 A3 A4 : Option Addr) (n1 n2 n3 n4 c1 c2 c3 c4 : Nat) (D : PBook) (h : BookIn w (.slice A1 n1 c1) (.slice A2 n2 c2) (.slice A3 n3 c3) (.slice A4 n4 c4) D) (u : Bool) (hu : mayB D = u) :
 Calls Tryz.prog 30 #[.agg #[.slice A1 n1 c1, .int .i64 D.hor, .int .i64 D.now, .slice A2 n2 c2, .slice A3 n3 c3, .slice A4 n4 c4]] w (RetV w (.bool u)) := by
 have H := hide h
 obtain ⟨l1, l2, l3, l4⟩ := h.lens
 have hn1 : n1 <= 1000 := by have := h.il; omega
 have hn3 : n3 <= 1000 := by have := h.ol; omega
 have hn4 : n4 <= 1000 := by have := h.ml; omega
 obtain ⟨u0, hu0⟩ : ∃ u, headB D = u := ⟨_, rfl⟩
 obtain ⟨u1, hu1⟩ : ∃ u, D.ords.any (fun x : POrd => !decide ((1 <= x.id /\ x.id <= 1000000) /\ (0 <= x.item /\ x.item <= ((n1 : Int) - 1)) /\ (0 <= x.due /\ x.due <= 39) /\ (1 <= x.qty /\ x.qty <= 100))) = u := ⟨_, rfl⟩
 obtain ⟨u2, hu2⟩ : ∃ u, D.mks.any (fun x : PMk => !decide ((0 <= x.item /\ x.item <= ((n1 : Int) - 1)) /\ (0 <= x.period /\ x.period <= 39) /\ (0 <= x.qty /\ x.qty <= 100))) = u := ⟨_, rfl⟩
 obtain ⟨u3, hu3⟩ := exists_bool (∀ (i : Nat) x y, D.ords[i]? = some x -> D.ords[i+1]? = some y -> cmpI x.id y.id < 0)
 obtain ⟨u4, hu4⟩ := exists_bool (∀ (i : Nat) x y, D.mks[i]? = some x -> D.mks[i+1]? = some y -> cmpM x y < 0)
 have HP : Hid (u = true ↔ (u0 = true /\ (n3 : Int) <= 30 /\ (n4 : Int) <= 120 /\ u1 = false /\ u2 = false /\ u3 = true /\ u4 = true)) := hide (by
  rw [<- hu, mayB_iff, <- hu0, headB_iff, any_not_all hu1, any_not_all hu2, hu3, hu4]
  simp only [decide_eq_true_iff, cmpI_neg, cmpM_neg]
  constructor
  ·intro h
   refine ⟨h.head, by have := h.ol; omega, by have := h.ml; omega, fun x hx => ?_, fun x hx => ?_, h.oris, fun i x y hx hy => ?_⟩
   ·have := h.ords x hx; unfold POrd.okP at this; omega
   ·have := h.mks x hx; unfold PMk.okP at this; omega
   ·have h1 := h.mris i x y hx hy
    have h2 := h.mks x (List.mem_of_getElem? hx); have h3 := h.mks y (List.mem_of_getElem? hy)
    have := h.head.n3
    unfold PMk.okP at h2 h3; unfold PMk.key at h1; omega
  ·rintro ⟨a, b, c, d, e, f, g⟩
   refine ⟨a, by omega, by omega, fun x hx => ?_, fun x hx => ?_, f, fun i x y hx hy => ?_⟩
   ·have := d x hx; unfold POrd.okP; omega
   ·have := e x hx; unfold PMk.okP; omega
   ·have h1 := g i x y hx hy
    have h2 := e x (List.mem_of_getElem? hx); have h3 := e y (List.mem_of_getElem? hy)
    have := a.n3
    unfold PMk.key; omega)
 have HU0 := hide hu0; have HU1 := hide hu1; have HU2 := hide hu2; have HU3 := hide hu3; have HU4 := hide hu4
 have hol : D.ords.length <= 1000000000 := by have := h.ol; omega
 have hml : D.mks.length <= 1000000000 := by have := h.ml; omega
 clear h hu hu0 hu1 hu2 hu3 hu4 l1 l2 l3 l4
 obtain ⟨W0, hW0⟩ : ∃ W0, W0 = (w.alloc (Obj.cells #[Value.slice A1 n1 c1, Value.int .i64 D.hor, Value.int .i64 D.now, Value.slice A2 n2 c2, Value.slice A3 n3 c3, Value.slice A4 n4 c4] 27)) := ⟨_, rfl⟩
 obtain ⟨hb0, r0, hsz0⟩ := boxes1 w [.slice A1 n1 c1, .int .i64 D.hor, .int .i64 D.now, .slice A2 n2 c2, .slice A3 n3 c3, .slice A4 n4 c4] 27 hW0
 have B0 := hide hb0; have HW0 := hide hW0
 have R0 := hide r0
 clear hb0 hW0 hsz0 r0
 go_enter Tryz.func30, Tryz.ntmps30
 go_upto_region 1 with fail
 rw [<- HW0.out]
 have r_d := R0.out.later (Later.refl W0)
 have d0 := r_d.cell (i := 0) rfl; have d1 := r_d.cell (i := 1) rfl; have d2 := r_d.cell (i := 2) rfl; have d3 := r_d.cell (i := 3) rfl; have d4 := r_d.cell (i := 4) rfl; have d5 := r_d.cell (i := 5) rfl
 clear r_d
 go_wp2_with fail
 ((with_reducible refine (head_calls _ _ _ _ _ _ _ _ _ _ _ _ _ D (H.out.later B0.out) u0 HU0.out).mono ?_); rintro e w1 ⟨rfl, b1⟩)
 have HL1 := hide b1
 clear b1 d0 d1 d2 d3 d4 d5
 have r_d := R0.out.later HL1.out
 have d0 := r_d.cell (i := 0) rfl; have d1 := r_d.cell (i := 1) rfl; have d2 := r_d.cell (i := 2) rfl; have d3 := r_d.cell (i := 3) rfl; have d4 := r_d.cell (i := 4) rfl; have d5 := r_d.cell (i := 5) rfl
 clear r_d
 cases u0 with
 | false =>
   have HF : Hid (u = false) := hide (Bool.eq_false_iff.2 (fun h => by have := (HP.out.1 h).1; cases this))
   go_wp2_with fail
   go_ret
   exact ⟨by first | rfl | (rw [HF.out]; rfl), B0.out.trans HL1.out⟩
 | true =>
 by_cases g1 : (30 : Int) < (n3 : Int)
 ·have k1 : decide ((30 : Int) < (n3 : Int)) = true := by simpa using g1
  have HF : Hid (u = false) := hide (Bool.eq_false_iff.2 (fun h => by have := (HP.out.1 h).2.1; omega))
  go_wp2_with fail
  go_ret
  exact ⟨by first | rfl | (rw [HF.out]; rfl), B0.out.trans HL1.out⟩
 by_cases g2 : (120 : Int) < (n4 : Int)
 ·have k2 : decide ((120 : Int) < (n4 : Int)) = true := by simpa using g2
  have HF : Hid (u = false) := hide (Bool.eq_false_iff.2 (fun h => by have := (HP.out.1 h).2.2.1; omega))
  go_wp2_with fail
  go_ret
  exact ⟨by first | rfl | (rw [HF.out]; rfl), B0.out.trans HL1.out⟩
 have HG1 := hide g1; have HG2 := hide g2
 go_upto_region 4 with fail
 clear d0 d1 d2 d3 d4 d5
 obtain ⟨W2, hW2⟩ : ∃ W2, W2 = w1.alloc (Obj.cells #[Value.int .i64 ((n1 : Int) - 1)] 3) := ⟨_, rfl⟩
 obtain ⟨gn, hgn⟩ : ∃ gn, gn = w1.heap.size := ⟨_, rfl⟩
 have hb : Later w1 W2 := by rw [hW2]; exact (Later.refl _).alloc _
 have hr : Row W2 gn 3 [.int .i64 ((n1 : Int) - 1)] := by rw [hW2, hgn]; exact Row.new _ _ _
 rw [<- hW2, <- hgn]
 have HL2 := hide (HL1.out.trans hb)
 have HRN := hide hr
 clear hb hr hW2 hgn
 have r_d := R0.out.later HL2.out
 have d0 := r_d.cell (i := 0) rfl; have d1 := r_d.cell (i := 1) rfl; have d2 := r_d.cell (i := 2) rfl; have d3 := r_d.cell (i := 3) rfl; have d4 := r_d.cell (i := 4) rfl; have d5 := r_d.cell (i := 5) rfl
 clear r_d
 go_wp2_with fail
 ((with_reducible refine (contO1_calls _ _ D.ords (H.out.later (B0.out.trans HL2.out)).ords hol _ ⟨fun _ _ => by kernel_rfl⟩ gn (fun x : POrd => !decide ((1 <= x.id /\ x.id <= 1000000) /\ (0 <= x.item /\ x.item <= ((n1 : Int) - 1)) /\ (0 <= x.due /\ x.due <= 39) /\ (1 <= x.qty /\ x.qty <= 100))) (fun W x hW hx => may1_calls W x gn _ ((HRN.out.later hW).cell rfl)) u1 HU1.out).mono ?_); rintro e w3 ⟨rfl, b3⟩)
 have HL3 := hide (HL2.out.trans b3); have HRN3 := hide (HRN.out.later b3)
 clear b3 d0 d1 d2 d3 d4 d5
 have r_d := R0.out.later HL3.out
 have d0 := r_d.cell (i := 0) rfl; have d1 := r_d.cell (i := 1) rfl; have d2 := r_d.cell (i := 2) rfl; have d3 := r_d.cell (i := 3) rfl; have d4 := r_d.cell (i := 4) rfl; have d5 := r_d.cell (i := 5) rfl
 clear r_d
 go_wp2_with fail
 ((with_reducible refine (contM1_calls _ _ D.mks (H.out.later (B0.out.trans HL3.out)).mks hml _ ⟨fun _ _ => by kernel_rfl⟩ gn (fun x : PMk => !decide ((0 <= x.item /\ x.item <= ((n1 : Int) - 1)) /\ (0 <= x.period /\ x.period <= 39) /\ (0 <= x.qty /\ x.qty <= 100))) (fun W x hW hx => may2_calls W x gn _ ((HRN3.out.later hW).cell rfl)) u2 HU2.out).mono ?_); rintro e w4 ⟨rfl, b4⟩)
 have HL4 := hide (HL3.out.trans b4)
 clear b4 d0 d1 d2 d3 d4 d5
 have r_d := R0.out.later HL4.out
 have d0 := r_d.cell (i := 0) rfl; have d1 := r_d.cell (i := 1) rfl; have d2 := r_d.cell (i := 2) rfl; have d3 := r_d.cell (i := 3) rfl; have d4 := r_d.cell (i := 4) rfl; have d5 := r_d.cell (i := 5) rfl
 clear r_d
 cases u1 with
 | true =>
   have HF : Hid (u = false) := hide (Bool.eq_false_iff.2 (fun h => by have := (HP.out.1 h).2.2.2.1; cases this))
   go_wp2_with fail
   go_ret
   exact ⟨by first | rfl | (rw [HF.out]; rfl), B0.out.trans HL4.out⟩
 | false =>
 cases u2 with
 | true =>
   have HF : Hid (u = false) := hide (Bool.eq_false_iff.2 (fun h => by have := (HP.out.1 h).2.2.2.2.1; cases this))
   go_wp2_with fail
   go_ret
   exact ⟨by first | rfl | (rw [HF.out]; rfl), B0.out.trans HL4.out⟩
 | false =>
 go_wp2_with fail
 ((with_reducible refine (risesO_calls _ _ D.ords (H.out.later (B0.out.trans HL4.out)).ords hol _ ⟨fun _ _ => by kernel_rfl⟩ (fun x y => cmpI x.id y.id) (fun W x y hW hx hy => may3_calls W x y _ rfl) u3 HU3.out).mono ?_); rintro e w5 ⟨rfl, b5⟩)
 have HL5 := hide (HL4.out.trans b5)
 clear b5 d0 d1 d2 d3 d4 d5
 have r_d := R0.out.later HL5.out
 have d0 := r_d.cell (i := 0) rfl; have d1 := r_d.cell (i := 1) rfl; have d2 := r_d.cell (i := 2) rfl; have d3 := r_d.cell (i := 3) rfl; have d4 := r_d.cell (i := 4) rfl; have d5 := r_d.cell (i := 5) rfl
 clear r_d
 cases u3 with
 | false =>
   have HF : Hid (u = false) := hide (Bool.eq_false_iff.2 (fun h => by have := (HP.out.1 h).2.2.2.2.2.1; cases this))
   go_wp2_with fail
   go_ret
   exact ⟨by first | rfl | (rw [HF.out]; rfl), B0.out.trans HL5.out⟩
 | true =>
 go_wp2_with fail
 ((with_reducible refine (risesM_calls _ _ D.mks (H.out.later (B0.out.trans HL5.out)).mks hml _ ⟨fun _ _ => by kernel_rfl⟩ (fun x y => cmpM x y) (fun W x y hW hx hy => may4_calls W x y _ rfl) u4 HU4.out).mono ?_); rintro e w6 ⟨rfl, b6⟩)
 have HL6 := hide (HL5.out.trans b6)
 clear b6 d0 d1 d2 d3 d4 d5
 cases u4 with
 | false =>
   have HF : Hid (u = false) := hide (Bool.eq_false_iff.2 (fun h => by have := (HP.out.1 h).2.2.2.2.2.2; cases this))
   go_wp2_with fail
   go_ret
   exact ⟨by first | rfl | (rw [HF.out]; rfl), B0.out.trans HL6.out⟩
 | true =>
   have HF : Hid (u = true) := hide (HP.out.2 (by refine ⟨?_, ?_, ?_, ?_, ?_, ?_, ?_⟩ <;> first | rfl | trivial | exact HG1.out | exact HG2.out | (have := HG1.out; have := HG2.out; omega)))
   go_wp2_with fail
   go_ret
   exact ⟨by first | rfl | (rw [HF.out]; rfl), B0.out.trans HL6.out⟩
set_option maxHeartbeats 2000000 in
theorem plcap_calls (w : World) (A1 A2 A3 A4 : Option Addr) (n1 n2 n3 n4 c1 c2 c3 c4 : Nat) (D : PBook) (h : BookIn w (.slice A1 n1 c1) (.slice A2 n2 c2) (.slice A3 n3 c3) (.slice A4 n4 c4) D) (period : Int) :
 Calls Tryz.prog 81 #[.agg #[.slice A1 n1 c1, .int .i64 D.hor, .int .i64 D.now, .slice A2 n2 c2, .slice A3 n3 c3, .slice A4 n4 c4], .int .i64 period] w (RetV w (.int .i64 (capV D period))) := by
 have H := hide h
 obtain ⟨l1, l2, l3, l4⟩ := h.lens
 have hn2 : n2 <= 1000 := by have := h.cl; omega
 obtain ⟨u0, hu0⟩ : ∃ u, mayB D = u := ⟨_, rfl⟩
 obtain ⟨z, hz⟩ : ∃ z, capV D period = z := ⟨_, rfl⟩
 rw [hz]
 have HU0 := hide hu0; have HZ := hide hz; have L2 := hide l2
 clear h hu0 hz l1 l2 l3 l4
 obtain ⟨W0, hW0⟩ : ∃ W0, W0 = (w.alloc (Obj.cells #[Value.slice A1 n1 c1, Value.int .i64 D.hor, Value.int .i64 D.now, Value.slice A2 n2 c2, Value.slice A3 n3 c3, Value.slice A4 n4 c4] 27)) := ⟨_, rfl⟩
 obtain ⟨hb0, r0, hsz0⟩ := boxes1 w [.slice A1 n1 c1, .int .i64 D.hor, .int .i64 D.now, .slice A2 n2 c2, .slice A3 n3 c3, .slice A4 n4 c4] 27 hW0
 have B0 := hide hb0; have HW0 := hide hW0
 have R0 := hide r0
 clear hb0 hW0 hsz0 r0
 go_enter Tryz.func81, Tryz.ntmps81
 go_upto_region 1 with fail
 rw [<- HW0.out]
 have r_d := R0.out.later (Later.refl W0)
 have d0 := r_d.cell (i := 0) rfl; have d1 := r_d.cell (i := 1) rfl; have d2 := r_d.cell (i := 2) rfl; have d3 := r_d.cell (i := 3) rfl; have d4 := r_d.cell (i := 4) rfl; have d5 := r_d.cell (i := 5) rfl
 clear r_d
 go_wp2_with fail
 ((with_reducible refine (plmay_calls _ _ _ _ _ _ _ _ _ _ _ _ _ D (H.out.later B0.out) u0 HU0.out).mono ?_); rintro e w1 ⟨rfl, b1⟩)
 have HL1 := hide b1
 clear b1 d0 d1 d2 d3 d4 d5
 have r_d := R0.out.later HL1.out
 have d0 := r_d.cell (i := 0) rfl; have d1 := r_d.cell (i := 1) rfl; have d2 := r_d.cell (i := 2) rfl; have d3 := r_d.cell (i := 3) rfl; have d4 := r_d.cell (i := 4) rfl; have d5 := r_d.cell (i := 5) rfl
 clear r_d
 cases u0 with
 | false =>
   have HF : Hid (z = 0) := hide (by rw [<- HZ.out]; unfold capV; rw [if_neg (by rw [HU0.out]; simp)])
   go_wp2_with fail
   go_ret
   exact ⟨by first | rfl | (rw [HF.out]; rfl), B0.out.trans HL1.out⟩
 | true =>
 by_cases g1 : 0 <= period /\ period <= (n2 : Int) - 1
 rotate_left
 ·have k1 : decide (0 <= period /\ period <= (n2 : Int) - 1) = false := by simpa using g1
  have HF : Hid (z = 0) := hide (by rw [<- HZ.out]; unfold capV; rw [if_neg (by rintro ⟨-, h1, h2⟩; have := L2.out; omega)])
  go_wp2_with ((with_reducible refine (pin_calls _ _ _ _ _ k1).mono ?_); rintro e w2 ⟨rfl, rfl⟩)
  go_ret
  exact ⟨by first | rfl | (rw [HF.out]; rfl), B0.out.trans HL1.out⟩
 have k1 : decide (0 <= period /\ period <= (n2 : Int) - 1) = true := by simpa using g1
 obtain ⟨k, rfl⟩ := Int.eq_ofNat_of_zero_le g1.1
 obtain ⟨x, hx⟩ : ∃ x, D.caps[k]? = some x := ⟨D.caps[k]'(by have := L2.out; omega), List.getElem?_eq_getElem _⟩
 have HF : Hid (x = z) := hide (by
  rw [<- HZ.out]; unfold capV; rw [if_pos ⟨HU0.out, by omega, by have := L2.out; omega⟩, Int.toNat_natCast, List.getD_eq_getElem?_getD, hx]; rfl)
 obtain ⟨b1, off1, rfl, x1⟩ := (H.out.later (B0.out.trans HL1.out)).caps.at1 hx
 have hk1 : (k : Int) < n2 := by omega
 have hk0 : (0 : Int) <= (k : Int) := by omega
 clear g1 hx
 go_wp2_with ((with_reducible refine (pin_calls _ _ _ _ _ k1).mono ?_); rintro e w2 ⟨rfl, rfl⟩)
 go_ret
 exact ⟨by first | rfl | (rw [HF.out]; rfl), B0.out.trans HL1.out⟩
end Go.Proofs.YtncbebfhakcgdaaGreat
