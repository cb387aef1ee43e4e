/- BookApplies: the walk. -/
import Derived.Test.YtncbebfhakcgdaaGreatA31
import Derived.Test.YtncbebfhakcgdaaGreatA7
import Derived.Test.YtncbebfhakcgdaaGreatA16
import Derived.Test.YtncbebfhakcgdaaGreatA17
import Derived.Test.YtncbebfhakcgdaaGreatA19
set_option linter.unusedVariables false
set_option linter.unusedSimpArgs false
set_option maxRecDepth 100000
namespace Go.Proofs.YtncbebfhakcgdaaGreat
open Go.RowKit Go.Shelf
attribute [local go_sem ↓] Go.wp_at_zero Go.wp_at_succ
set_option maxHeartbeats 2000000 in
theorem bookapplies_walk (w : World) (v vo : Value) (h0 : ArgBook w v) (h1 : ArgOp w vo) :
 Calls Tryz.prog 3 #[v, vo] w (RetV w (.bool true)) := by
 obtain ⟨A1, A2, A3, A4, n1, n2, n3, n4, c1, c2, c3, c4, hor, now, caps, ords, mks, rfl, hi, hcp, hor', hmk, hft⟩ := h0
 obtain ⟨Aq, nq, cq, o, rfl, hQ, hof, -⟩ := h1
 have HI := hide hi; have HCP := hide hcp; have HOR := hide hor'; have HMK := hide hmk; have HFT := hide hft; have HOF := hide hof; have HQ := hide hQ
 have hnq : nq = o.qtys.length := by
  obtain ⟨_, _, _, e, e2, -⟩ := hQ.form
  injection e with _ e3 _; omega
 have HNQ := hide hnq
 clear hi hcp hor' hmk hft hof hQ hnq
 obtain ⟨W0, hW0⟩ : ∃ W0, W0 = ((w.alloc (Obj.cells #[Value.slice A1 n1 c1, Value.int .i64 hor, Value.int .i64 now, Value.slice A2 n2 c2, Value.slice A3 n3 c3, Value.slice A4 n4 c4] 27)).alloc (Obj.cells #[Value.int .i64 o.kind, Value.int .i64 o.ord.id, Value.int .i64 o.ord.item, Value.int .i64 o.ord.due, Value.int .i64 o.ord.qty, Value.int .i64 o.id, Value.int .i64 o.period, Value.int .i64 o.qty, Value.slice Aq nq cq] 31)) := ⟨_, rfl⟩
 obtain ⟨hb0, r0, r1, hsz0⟩ := boxes2 w [.slice A1 n1 c1, .int .i64 hor, .int .i64 now, .slice A2 n2 c2, .slice A3 n3 c3, .slice A4 n4 c4] [.int .i64 o.kind, .int .i64 o.ord.id, .int .i64 o.ord.item, .int .i64 o.ord.due, .int .i64 o.ord.qty, .int .i64 o.id, .int .i64 o.period, .int .i64 o.qty, .slice Aq nq cq] 27 31 hW0
 have B0 := hide hb0; have HW0 := hide hW0; have HSZ0 := hide hsz0
 have R0 := hide r0; have R1 := hide r1
 clear hb0 hW0 hsz0 r0 r1
 go_enter Tryz.func3, Tryz.ntmps3
 go_upto_region 1 with fail
 rw [<- HW0.out]
 go_wp2_with fail
 ((with_reducible refine (awake20_calls W0).mono ?_); rintro e w1 ⟨rfl, b1⟩)
 have HL1 := hide b1
 clear b1
 have r_d := R0.out.later HL1.out
 have d0 := r_d.cell (i := 0) rfl; have d1 := r_d.cell (i := 1) rfl; have d2 := r_d.cell (i := 2) rfl; have d3 := r_d.cell (i := 3) rfl; have d4 := r_d.cell (i := 4) rfl; have d5 := r_d.cell (i := 5) rfl
 clear r_d
 go_wp2_with fail
 ((with_reducible refine (few17_calls w1 _ _ _ _ _ _ _ _ _ _ _ _ hor now caps ords mks (HI.out.later (B0.out.trans HL1.out)) (HCP.out.later (B0.out.trans HL1.out)) (HOR.out.later (B0.out.trans HL1.out)) (HMK.out.later (B0.out.trans HL1.out)) HFT.out.1 HFT.out.2.1 HFT.out.2.2.1 HFT.out.2.2.2.1 HFT.out.2.2.2.2).mono ?_); rintro e w2 ⟨uf, rfl, b2, hf⟩)
 have HF := hide hf; have HL2 := hide (HL1.out.trans b2)
 have HLB := hide b2
 clear b2 hf d0 d1 d2 d3 d4 d5
 cases uf with
 | false =>
   go_wp2_with fail
   go_ret
   exact ⟨rfl, B0.out.trans HL2.out⟩
 | true =>
 obtain ⟨D, rfl, rfl, rfl, rfl, rfl, hbk⟩ := HF.out (by first | rfl | trivial)
 have H := hide (hbk.later HLB.out)
 have HRB := hide (R0.out.later HL2.out); have HRO := hide (R1.out.later HL2.out)
 have HQ2 := hide (HQ.out.later (B0.out.trans HL2.out))
 clear hbk HF HI HCP HOR HMK HFT HLB R0 R1 HQ
 obtain ⟨uq, huq⟩ : ∃ u, decide (nq <= 100) = u := ⟨_, rfl⟩
 have HUQ := hide huq
 clear huq
 have r_y := HRO.out.later (Later.refl _)
 have y0 := r_y.cell (i := 0) rfl; have y1 := r_y.cell (i := 1) rfl; have y2 := r_y.cell (i := 2) rfl; have y3 := r_y.cell (i := 3) rfl; have y4 := r_y.cell (i := 4) rfl; have y5 := r_y.cell (i := 5) rfl; have y6 := r_y.cell (i := 6) rfl; have y7 := r_y.cell (i := 7) rfl; have y8 := r_y.cell (i := 8) rfl
 clear r_y
 go_wp2_with fail
 ((refine (fewop2_calls _ Aq nq cq o _ HUQ.out).mono ?_); rintro e w3 ⟨rfl, b3⟩)
 have L3 := hide b3
 clear b3 y0 y1 y2 y3 y4 y5 y6 y7 y8
 cases uq with
 | false =>
   go_wp2_with fail
   go_ret
   exact ⟨rfl, (B0.out.trans HL2.out).trans L3.out⟩
 | true =>
 have HQL : Hid (o.qtys.length <= 1000) := hide (by have := HUQ.out; have := HNQ.out; simp at *; omega)
 obtain ⟨r, hr⟩ : ∃ r, applyV D o = r := ⟨_, rfl⟩
 have HR := hide hr
 have HC1 : Hid (∀ W, Later w2 W -> Calls Tryz.prog 12 #[.agg #[.slice A1 n1 c1, .int .i64 D.hor, .int .i64 D.now, .slice A2 n2 c2, .slice A3 n3 c3, .slice A4 n4 c4], .agg #[.int .i64 o.kind, .int .i64 o.ord.id, .int .i64 o.ord.item, .int .i64 o.ord.due, .int .i64 o.ord.qty, .int .i64 o.id, .int .i64 o.period, .int .i64 o.qty, .slice Aq nq cq]] W (CauP W r)) := hide (fun W hW => by rw [<- hr]; exact apply_calls W A1 A2 A3 A4 Aq n1 n2 n3 n4 nq c1 c2 c3 c4 cq D o (H.out.later hW) HOF.out (HQ2.out.later hW) HQL.out)
 have HC2 : Hid (∀ W, Later w2 W -> Calls Tryz.prog 13 #[.agg #[.slice A1 n1 c1, .int .i64 D.hor, .int .i64 D.now, .slice A2 n2 c2, .slice A3 n3 c3, .slice A4 n4 c4], .agg #[.int .i64 o.kind, .int .i64 o.ord.id, .int .i64 o.ord.item, .int .i64 o.ord.due, .int .i64 o.ord.qty, .int .i64 o.id, .int .i64 o.period, .int .i64 o.qty, .slice Aq nq cq]] W (RefP (fun b => b < W.heap.size) W r)) := hide (fun W hW => by rw [<- hr]; exact rapply_calls W A1 A2 A3 A4 n1 n2 n3 n4 c1 c2 c3 c4 D Aq nq cq o (H.out.later hW) HOF.out (HQ2.out.later hW))
 clear hr
 have r_x := HRB.out.later L3.out
 have x0 := r_x.cell (i := 0) rfl; have x1 := r_x.cell (i := 1) rfl; have x2 := r_x.cell (i := 2) rfl; have x3 := r_x.cell (i := 3) rfl; have x4 := r_x.cell (i := 4) rfl; have x5 := r_x.cell (i := 5) rfl
 clear r_x
 have r_y := HRO.out.later L3.out
 have y0 := r_y.cell (i := 0) rfl; have y1 := r_y.cell (i := 1) rfl; have y2 := r_y.cell (i := 2) rfl; have y3 := r_y.cell (i := 3) rfl; have y4 := r_y.cell (i := 4) rfl; have y5 := r_y.cell (i := 5) rfl; have y6 := r_y.cell (i := 6) rfl; have y7 := r_y.cell (i := 7) rfl; have y8 := r_y.cell (i := 8) rfl
 clear r_y
 go_upto_region 6 with (go_at_call 12; (refine (HC1.out _ L3.out).mono ?_); rintro e a4 h1; obtain ⟨b4, B1x, B2x, B3x, B4x, m1x, m2x, m3x, m4x, d1x, d2x, d3x, d4x, rfl, hk4⟩ := res_cau h1; clear h1)
 obtain ⟨W4, hW4⟩ : ∃ W4, W4 = a4.alloc (Obj.cells #[Value.slice B1x m1x d1x, Value.int .i64 (resB r).hor, Value.int .i64 (resB r).now, Value.slice B2x m2x d2x, Value.slice B3x m3x d3x, Value.slice B4x m4x d4x] 27) := ⟨_, rfl⟩
 obtain ⟨gx, hgx⟩ : ∃ gx, gx = a4.heap.size := ⟨_, rfl⟩
 have bW4 : Later a4 W4 := by rw [hW4]; exact (Later.refl _).alloc _
 have rgx : Row W4 gx 27 [.slice B1x m1x d1x, .int .i64 (resB r).hor, .int .i64 (resB r).now, .slice B2x m2x d2x, .slice B3x m3x d3x, .slice B4x m4x d4x] := by rw [hW4, hgx]; exact Row.new _ _ _
 rw [<- hW4, <- hgx]
 have L4 := hide (L3.out.trans (b4.trans bW4)); have HX := hide (hk4.later bW4); have HRX := hide rgx
 clear hW4 hgx b4 bW4 rgx hk4 x0 x1 x2 x3 x4 x5 y0 y1 y2 y3 y4 y5 y6 y7 y8
 have r_x := HRB.out.later L4.out
 have x0 := r_x.cell (i := 0) rfl; have x1 := r_x.cell (i := 1) rfl; have x2 := r_x.cell (i := 2) rfl; have x3 := r_x.cell (i := 3) rfl; have x4 := r_x.cell (i := 4) rfl; have x5 := r_x.cell (i := 5) rfl
 clear r_x
 have r_y := HRO.out.later L4.out
 have y0 := r_y.cell (i := 0) rfl; have y1 := r_y.cell (i := 1) rfl; have y2 := r_y.cell (i := 2) rfl; have y3 := r_y.cell (i := 3) rfl; have y4 := r_y.cell (i := 4) rfl; have y5 := r_y.cell (i := 5) rfl; have y6 := r_y.cell (i := 6) rfl; have y7 := r_y.cell (i := 7) rfl; have y8 := r_y.cell (i := 8) rfl
 clear r_y
 go_upto_region 7 with (go_at_call 13; (refine (HC2.out _ L4.out).mono ?_); rintro e a5 h1; obtain ⟨b5, B1y, B2y, B3y, B4y, m1y, m2y, m3y, m4y, d1y, d2y, d3y, d4y, rfl, hk5⟩ := res_ref h1; clear h1)
 obtain ⟨W5, hW5⟩ : ∃ W5, W5 = a5.alloc (Obj.cells #[Value.slice B1y m1y d1y, Value.int .i64 (resB r).hor, Value.int .i64 (resB r).now, Value.slice B2y m2y d2y, Value.slice B3y m3y d3y, Value.slice B4y m4y d4y] 27) := ⟨_, rfl⟩
 obtain ⟨gy, hgy⟩ : ∃ gy, gy = a5.heap.size := ⟨_, rfl⟩
 have bW5 : Later a5 W5 := by rw [hW5]; exact (Later.refl _).alloc _
 have rgy : Row W5 gy 27 [.slice B1y m1y d1y, .int .i64 (resB r).hor, .int .i64 (resB r).now, .slice B2y m2y d2y, .slice B3y m3y d3y, .slice B4y m4y d4y] := by rw [hW5, hgy]; exact Row.new _ _ _
 rw [<- hW5, <- hgy]
 have L45 := hide (b5.trans bW5)
 have L5 := hide (L4.out.trans L45.out); have HY := hide (hk5.later bW5); have HRY := hide rgy
 clear hW5 hgy b5 bW5 rgy hk5 x0 x1 x2 x3 x4 x5 y0 y1 y2 y3 y4 y5 y6 y7 y8
 have r_x := HRB.out.later L5.out
 have x0 := r_x.cell (i := 0) rfl; have x1 := r_x.cell (i := 1) rfl; have x2 := r_x.cell (i := 2) rfl; have x3 := r_x.cell (i := 3) rfl; have x4 := r_x.cell (i := 4) rfl; have x5 := r_x.cell (i := 5) rfl
 clear r_x
 go_upto_region 8 with (go_at_call 14; (refine (new_calls _ A1 n1 c1 D.items D.hor (H.out.later L5.out).its (by have := H.out.il; omega) H.out.hfit).mono ?_); rintro e a6 h1; obtain ⟨b6, B1n, B2n, B3n, B4n, m1n, m2n, m3n, m4n, d1n, d2n, d3n, d4n, rfl, hk6⟩ := res_cau h1; clear h1)
 obtain ⟨W6, hW6⟩ : ∃ W6, W6 = a6.alloc (Obj.cells #[Value.slice B1n m1n d1n, Value.int .i64 (resB (newV D.items D.hor)).hor, Value.int .i64 (resB (newV D.items D.hor)).now, Value.slice B2n m2n d2n, Value.slice B3n m3n d3n, Value.slice B4n m4n d4n] 27) := ⟨_, rfl⟩
 obtain ⟨gn, hgn⟩ : ∃ gn, gn = a6.heap.size := ⟨_, rfl⟩
 have bW6 : Later a6 W6 := by rw [hW6]; exact (Later.refl _).alloc _
 have rgn : Row W6 gn 27 [.slice B1n m1n d1n, .int .i64 (resB (newV D.items D.hor)).hor, .int .i64 (resB (newV D.items D.hor)).now, .slice B2n m2n d2n, .slice B3n m3n d3n, .slice B4n m4n d4n] := by rw [hW6, hgn]; exact Row.new _ _ _
 rw [<- hW6, <- hgn]
 have LYN := hide (b6.trans bW6)
 have LXN := hide (L45.out.trans LYN.out); have L7 := hide (L5.out.trans LYN.out); have HRN := hide rgn
 have HNB := hide (new_bare D.items D.hor); have HNC := hide (new_code D.items D.hor)
 have HML : Hid (m4n = 0) := hide (by
  have h1 := (bk_lens hk6).2.2.2
  rw [HNB.out.2] at h1; simpa using h1)
 clear hW6 hgn b6 bW6 rgn hk6 x0 x1 x2 x3 x4 x5
 have hm4 := HML.out
 subst hm4
 have hn0 := HNB.out.1
 have hnc := HNC.out
 have r_x := HRX.out.later LXN.out
 have x0 := r_x.cell (i := 0) rfl; have x1 := r_x.cell (i := 1) rfl; have x2 := r_x.cell (i := 2) rfl; have x3 := r_x.cell (i := 3) rfl; have x4 := r_x.cell (i := 4) rfl; have x5 := r_x.cell (i := 5) rfl
 clear r_x
 have r_y := HRY.out.later LYN.out
 have y0 := r_y.cell (i := 0) rfl; have y1 := r_y.cell (i := 1) rfl; have y2 := r_y.cell (i := 2) rfl; have y3 := r_y.cell (i := 3) rfl; have y4 := r_y.cell (i := 4) rfl; have y5 := r_y.cell (i := 5) rfl
 clear r_y
 go_upto_region 10 with (first | (go_at_call 15; (refine (refsame_calls _ B1x B2x B3x B4x B1y B2y B3y B4y m1x m2x m3x m4x d1x d2x d3x d4x m1y m2y m3y m4y d1y d2y d3y d4y (resB r) (HX.out.later LXN.out) (HY.out.later LYN.out)).mono ?_); rintro e a8 ⟨rfl, b8⟩; have x0 := (HRB.out.later (L7.out.trans b8)).cell (i := 0) rfl; have x1 := (HRB.out.later (L7.out.trans b8)).cell (i := 1) rfl; have z2 := (HRN.out.later b8).cell (i := 2) rfl; have z5 := (HRN.out.later b8).cell (i := 5) rfl) | (go_at_call 16; (refine (rmay_calls _ A1 none none none n1 0 0 0 c1 0 0 0 (newD D.items D.hor) ((H.out.later (L7.out.trans b8)).newD) _ rfl).mono ?_); rintro e a9 ⟨rfl, b9⟩; replace z2 := Later.cell b9 z2; replace z5 := Later.cell b9 z5))
 have LA := hide (L7.out.trans (b8.trans b9)); have LXA := hide (LXN.out.trans (b8.trans b9))
 clear b8 b9 x0 x1 x2 x3 x4 x5 y0 y1 y2 y3 y4 y5 z2 z5 hn0 hnc
 cases r with
 | error c =>
   have hc : c ≠ 0 := apply_err HR.out
   have t1 : (c != 0) = true := by simpa using hc
   have t2 : (resC (.error c) != 0) = true := t1
   go_wp2_with fail
   go_ret
   exact ⟨rfl, (B0.out.trans HL2.out).trans LA.out⟩
 | ok D' =>
 have t2 : (resC (.ok D') != 0) = false := rfl
 have HX : Hid (BookIn W4 (.slice B1x m1x d1x) (.slice B2x m2x d2x) (.slice B3x m3x d3x) (.slice B4x m4x d4x) D') := HX
 have HRX : Hid (Row W4 gx 27 [.slice B1x m1x d1x, .int .i64 D'.hor, .int .i64 D'.now, .slice B2x m2x d2x, .slice B3x m3x d3x, .slice B4x m4x d4x]) := HRX
 have HMD := hide (apply_may HR.out); have HKP := hide (apply_keeps HR.out)
 have HN4 : Hid (n4 = D.mks.length) := hide (bk_lens H.out).2.2.2
 have hn49 : n4 <= 1000 := by have := HN4.out; have := H.out.ml; omega
 clear HR HRY HY HC1 HC2 HRN HNB HNC HML
 go_wp2_with fail
 go_loopw [11] (fun iv wr => ∃ j : Nat, iv = .int .i64 (j : Int) /\ j <= n4 /\ Hid (Later a9 wr)) (fun iv _ => (n4 - intOf iv).toNat)
 case atStart => exact ⟨0, rfl, Nat.zero_le _, hide (Later.refl _)⟩
 case round =>
  obtain ⟨j, rfl, hj, HL⟩ := hrel
  have LXR := hide (LXA.out.trans HL.out); have LBR := hide (LA.out.trans HL.out)
  have x5 := (HRB.out.later LBR.out).cell (i := 5) rfl
  by_cases hjn : j < n4
  ·obtain ⟨x, hx⟩ : ∃ x, D.mks[j]? = some x := ⟨D.mks[j]'(by have := HN4.out; omega), List.getElem?_eq_getElem _⟩
   obtain ⟨gm, om, rfl, c0, c1, c2⟩ := mkat H.out.mks hx
   have HFX : fixedV D' x.item x.period = some x.qty := fixedV_mem HMD.out (HKP.out x (List.mem_of_getElem? hx))
   have HFIX : Hid (∀ W, Later wr W -> Calls Tryz.prog 17 #[.agg #[.slice B1x m1x d1x, .int .i64 D'.hor, .int .i64 D'.now, .slice B2x m2x d2x, .slice B3x m3x d3x, .slice B4x m4x d4x], .int .i64 x.item, .int .i64 x.period] W (fun e w' => e = .returned (.tuple #[.int .i64 x.qty, .bool true]) /\ Later W w')) := hide (fun W hW => by
    have h2 := rfixed_calls W B1x B2x B3x B4x m1x m2x m3x m4x d1x d2x d3x d4x D' (HX.out.later (LXR.out.trans hW)) x.item x.period
    rw [HFX] at h2; exact h2)
   have cm2 := Later.cell LBR.out c2
   have HT : Hid (∀ w', Later wr w' -> w'.cell? ⟨w.heap.size, 5, none⟩ = some (.slice (some ⟨gm, om, none⟩) n4 c4) /\ w'.cell? ⟨gx, 0, none⟩ = some (.slice B1x m1x d1x) /\ w'.cell? ⟨gx, 1, none⟩ = some (.int .i64 D'.hor) /\ w'.cell? ⟨gx, 2, none⟩ = some (.int .i64 D'.now) /\ w'.cell? ⟨gx, 3, none⟩ = some (.slice B2x m2x d2x) /\ w'.cell? ⟨gx, 4, none⟩ = some (.slice B3x m3x d3x) /\ w'.cell? ⟨gx, 5, none⟩ = some (.slice B4x m4x d4x) /\ w'.cell? ⟨gm, om + j * 3, none⟩ = some (.int .i64 x.item) /\ w'.cell? ⟨gm, om + j * 3 + 1, none⟩ = some (.int .i64 x.period)) := hide (fun w' hb => ⟨(HRB.out.later (LBR.out.trans hb)).cell rfl, (HRX.out.later (LXR.out.trans hb)).cell rfl, (HRX.out.later (LXR.out.trans hb)).cell rfl, (HRX.out.later (LXR.out.trans hb)).cell rfl, (HRX.out.later (LXR.out.trans hb)).cell rfl, (HRX.out.later (LXR.out.trans hb)).cell rfl, (HRX.out.later (LXR.out.trans hb)).cell rfl, Later.cell (LBR.out.trans hb) c0, Later.cell (LBR.out.trans hb) c1⟩)
   have hj0 : (0 : Int) <= (j : Int) := by omega
   have hj1 : (j : Int) < n4 := by omega
   have hmx : Tryz.prog.follows .mixedOrders = true := by kernel_rfl
   clear hx c0 c1 c2 HFX
   go_upto_region 15 with fail
   refine wp_region_N (fun w' => w'.cell? ⟨w.heap.size, 5, none⟩ = some (.slice (some ⟨gm, om, none⟩) n4 c4) /\ w'.cell? ⟨gx, 0, none⟩ = some (.slice B1x m1x d1x) /\ w'.cell? ⟨gx, 1, none⟩ = some (.int .i64 D'.hor) /\ w'.cell? ⟨gx, 2, none⟩ = some (.int .i64 D'.now) /\ w'.cell? ⟨gx, 3, none⟩ = some (.slice B2x m2x d2x) /\ w'.cell? ⟨gx, 4, none⟩ = some (.slice B3x m3x d3x) /\ w'.cell? ⟨gx, 5, none⟩ = some (.slice B4x m4x d4x) /\ w'.cell? ⟨gm, om + j * 3, none⟩ = some (.int .i64 x.item) /\ w'.cell? ⟨gm, om + j * 3 + 1, none⟩ = some (.int .i64 x.period)) [] hmx (HT.out _ lt_) (fun hHeld => ?_)
   refine tkB 85 0 ?_
   refine tkB 86 1 ?_
   refine tkB 87 2 ?_
   refine tkB 88 3 ?_
   refine tkB 89 4 ?_
   refine tkB 90 5 ?_
   refine tkB 91 6 ?_
   refine tkB 92 7 ?_
   refine tkB 93 8 ?_
   refine tkB 94 9 ?_
   refine tkB 95 10 ?_
   refine tkB 96 11 ?_
   refine tkB 97 12 ?_
   refine wpAnyN_ready (rs := [13]) (by kernel_rfl) (by simp) ?_
   refine AllReadyN.held rfl (by rfl) (fun K hK => ?_) AllReadyN.nil
   go_simp
   refine (HFIX.out _ lt_).mono ?_
   rintro e u9 ⟨rfl, bu9⟩
   have lu9 : Later wr u9 := Later.trans lt_ bu9
   refine hK.out _ _ ?_ (fun hHeld => ?_)
   ·exact HT.out _ lt_
   clear hK K
   try simp only [Act.put, s1_, s2_, s3_]
   refine tkB 84 14 ?_
   refine tkB 99 15 ?_
   refine tkB 100 16 ?_
   refine tkB 12 17 ?_
   refine tkB 13 18 ?_
   refine wpAnyN_done (by kernel_rfl) ?_ _
   clear hHeld
   have y5 := (HRB.out.later (LBR.out.trans lu9)).cell (i := 5) rfl
   have y2 := Later.cell lu9 cm2
   go_wp2_with fail
   exact ⟨⟨j+1, by go_num, by omega, hide (HL.out.trans lu9)⟩, by simp [intOf]; omega⟩
  ·have hj1 : ¬ (j : Int) < n4 := by omega
   have r_y := HRX.out.later LXR.out
   have y0 := r_y.cell (i := 0) rfl; have y1 := r_y.cell (i := 1) rfl; have y2 := r_y.cell (i := 2) rfl; have y3 := r_y.cell (i := 3) rfl; have y4 := r_y.cell (i := 4) rfl; have y5 := r_y.cell (i := 5) rfl
   clear r_y
   have HMB := hide (mayB_iff.2 HMD.out)
   go_wp2_with (go_at_call 16; (refine (rmay_calls _ B1x B2x B3x B4x m1x m2x m3x m4x d1x d2x d3x d4x D' (HX.out.later LXR.out) _ HMB.out).mono ?_); rintro e a10 ⟨rfl, b10⟩)
   go_ret
   exact ⟨rfl, ((B0.out.trans HL2.out).trans LBR.out).trans b10⟩
end Go.Proofs.YtncbebfhakcgdaaGreat
