/- Plans: whether a book may be (the reference). -/
import Derived.Test.YtncbebfhakcgdaaGreatA15
set_option linter.unusedVariables false
set_option linter.unusedSimpArgs false
set_option maxRecDepth 100000
namespace Go.Proofs.YtncbebfhakcgdaaGreat
open Go.RowKit Go.Shelf
attribute [local go_sem ↓] Go.wp_at_zero Go.wp_at_succ
theorem ord_fit {D : PBook} {w : World} {vI vC vO vM : Value} (h : BookIn w vI vC vO vM D) : ∀ o ∈ D.ords, (-9223372036854775808 <= o.id /\ o.id < 9223372036854775808) /\ (-9223372036854775808 <= o.item /\ o.item < 9223372036854775808) /\ (-9223372036854775808 <= o.due /\ o.due < 9223372036854775808) /\ (-9223372036854775808 <= o.qty /\ o.qty < 9223372036854775808) := fun o ho => h.ofit o ho
theorem mk_fit {D : PBook} {w : World} {vI vC vO vM : Value} (h : BookIn w vI vC vO vM D) : ∀ o ∈ D.mks, (-9223372036854775808 <= o.item /\ o.item < 9223372036854775808) /\ (-9223372036854775808 <= o.period /\ o.period < 9223372036854775808) /\ (-9223372036854775808 <= o.qty /\ o.qty < 9223372036854775808) := fun o ho => h.mfit o ho
def cFst : Code -> Code
 | .seq a _ => a
 | c => c
def cSnd : Code -> Code
 | .seq _ b => b
 | c => c
set_option maxHeartbeats 16000000 in
theorem rmay_tail (w W0 wr : World) (A1 A2 A3 A4 : Option Addr) (n1 n2 n3 n4 c1 c2 c3 c4 : Nat) (D : PBook) (u : Bool) (h : BookIn w (.slice A1 n1 c1) (.slice A2 n2 c2) (.slice A3 n3 c3) (.slice A4 n4 c4) D) (hu : mayB D = u) (b0 : Later w W0) (r0 : Row W0 w.heap.size 27 [.slice A1 n1 c1, .int .i64 D.hor, .int .i64 D.now, .slice A2 n2 c2, .slice A3 n3 c3, .slice A4 n4 c4]) (hlo : Later W0 wr) (hhp : HeadP D) (ho30 : D.ords.length <= 30) (hm120 : D.mks.length <= 120)
 (hord : (∀ x ∈ D.ords, x.okP D.items.length) /\ ∀ (i : Nat) a b, D.ords[i]? = some a -> D.ords[i+1]? = some b -> a.id < b.id) (v0 v2 v4 v5 v6 v7 v8 v9 v10 v11 v12 v13 v14 v15 v16 v17 v18 v19 v20 v21 v22 v23 v24 v25 v26 v27 v28 v29 v30 v31 v32 v33 v34 v35 v36 v37 v38 v39 v40 v41 v42 v43 v44 v45 v46 v47 v48 v49 v50 v51 v52 v53 v54 v55 v56 v57 v58 v59 v60 v61 v62 v63 v64 v65 v66 v67 v68 v69 v70 v71 v72 v73 v74 v75 v76 v77 v78 v79 v80 v81 v82 v83 v84 v85 v86 v87 v88 v89 v90 v91 v92 v93 v94 v95 v96 v97 v98 v99 v100 v101 v102 v103 v104 v105 v106 v107 v108 v109 v110 v111 v112 v113 v114 v115 v116 v117 v118 v119 v120 v121 v122 v123 v124 v125 v126 v127 v128 v129 v130 v131 v132 v133 v134 v135 v136 v137 v138 v139 v140 v141 v142 v143 v144 v145 v146 v147 v148 v149 v150 v151 v152 v153 v154 v155 v156 v157 v158 v159 v160 v161 v162 : Value) (K K1 : Act -> World -> Prop)
 (hK : ∀ a w', Code.wp Tryz.prog (cSnd (cFst (cSnd (cSnd (cSnd (cSnd (Tryz.f16.body.getD .skip))))))) (Exit.then K1 (bodyPost Tryz.prog Tryz.f16 (RetV w (.bool u)))) a w' -> K a w') (hK1 : ∀ a w', Code.wp Tryz.prog (cSnd (cSnd (cSnd (cSnd (cSnd (Tryz.f16.body.getD .skip)))))) (bodyPost Tryz.prog Tryz.f16 (RetV w (.bool u))) a w' -> K1 a w') :
 Code.wp Tryz.prog (cFst (cFst (cSnd (cSnd (cSnd (cSnd (Tryz.f16.body.getD .skip))))))) (Exit.then K (Exit.then K1 (bodyPost Tryz.prog Tryz.f16 (RetV w (.bool u))))) { tmps := #[v0, .pointer (some ⟨w.heap.size, 0, none⟩), v2, .int .i64 (n1 : Int), v4, v5, v6, v7, v8, v9, v10, v11, v12, v13, v14, v15, v16, v17, v18, v19, v20, v21, v22, v23, v24, v25, v26, v27, v28, v29, v30, v31, v32, v33, v34, v35, v36, v37, v38, v39, v40, v41, v42, v43, v44, v45, v46, v47, v48, v49, v50, v51, v52, v53, v54, v55, v56, v57, v58, v59, v60, v61, v62, v63, v64, v65, v66, v67, v68, v69, v70, v71, v72, v73, v74, v75, v76, v77, v78, v79, v80, v81, v82, v83, v84, v85, v86, v87, v88, v89, v90, v91, v92, v93, v94, v95, v96, v97, v98, v99, v100, v101, v102, v103, v104, v105, v106, v107, v108, v109, v110, v111, v112, v113, v114, v115, v116, v117, v118, v119, v120, v121, v122, v123, v124, v125, v126, v127, v128, v129, v130, v131, v132, v133, v134, v135, v136, v137, v138, v139, v140, v141, v142, v143, v144, v145, v146, v147, v148, v149, v150, v151, v152, v153, v154, v155, v156, v157, v158, v159, v160, v161, v162], defers := [] } wr := by
 have H := hide h; have HU := hide hu; have B0 := hide b0; have R0 := hide r0; have HLO := hide hlo; have HHP := hide hhp; have HO30 := hide ho30; have HM120 := hide hm120; have HORD := hide hord
 obtain ⟨l1, l2, l3, l4⟩ := h.lens
 have L1 := hide l1; have L4 := hide l4
 have hn1 : n1 <= 1000 := by have := h.il; omega
 have hn4 : n4 <= 120 := by omega
 clear h hu b0 r0 hlo hhp ho30 hm120 hord l1 l2 l3 l4
 obtain ⟨C1, hC1⟩ : ∃ C, C = cSnd (cFst (cSnd (cSnd (cSnd (cSnd (Tryz.f16.body.getD .skip)))))) := ⟨_, rfl⟩
 obtain ⟨C2, hC2⟩ : ∃ C, C = cSnd (cSnd (cSnd (cSnd (cSnd (Tryz.f16.body.getD .skip))))) := ⟨_, rfl⟩
 obtain ⟨C3, hC3⟩ : ∃ C, C = cFst (cFst (cSnd (cSnd (cSnd (cSnd (Tryz.f16.body.getD .skip)))))) := ⟨_, rfl⟩
 rw [<- hC1] at hK; rw [<- hC2] at hK1; rw [<- hC3]
 conv at hC1 => rhs; whnf
 conv at hC2 => rhs; whnf
 conv at hC3 => rhs; whnf
 subst hC1 hC2 hC3
 have r_d := R0.out.later HLO.out
 have d0 := r_d.cell (i := 0) rfl; have d1 := r_d.cell (i := 1) rfl; have d2 := r_d.cell (i := 2) rfl; have d3 := r_d.cell (i := 3) rfl; have d4 := r_d.cell (i := 4) rfl; have d5 := r_d.cell (i := 5) rfl
 clear r_d
 go_wp2_with fail
 clear d0 d1 d2 d3 d4 d5
 go_loopw [6] (fun i wr => ∃ j : Nat, j <= n4 /\ i = .int .i64 (j : Int) /\ Hid ((∀ (i : Nat) x, i < j -> D.mks[i]? = some x -> x.okP D.items.length) /\ (∀ (i : Nat) x y, i + 1 < j -> D.mks[i]? = some x -> D.mks[i+1]? = some y -> x.key < y.key)) /\ Later W0 wr) (fun i _ => (n4 - intOf i).toNat)
 case atStart => exact ⟨0, by omega, rfl, hide ⟨fun i x hi => by omega, fun i x y hi => by omega⟩, HLO.out⟩
 case round =>
  obtain ⟨j, hj, rfl, hpre, hL⟩ := hrel
  have HL := hide hL
  clear hL
  have r_d := R0.out.later HL.out
  have d0 := r_d.cell (i := 0) rfl; have d1 := r_d.cell (i := 1) rfl; have d2 := r_d.cell (i := 2) rfl; have d3 := r_d.cell (i := 3) rfl; have d4 := r_d.cell (i := 4) rfl; have d5 := r_d.cell (i := 5) rfl
  clear r_d
  by_cases hjn : j < n4
  ·obtain ⟨x, hx⟩ : ∃ x, D.mks[j]? = some x := ⟨D.mks[j]'(by have := L4.out; omega), List.getElem?_eq_getElem _⟩
   obtain ⟨b1, off1, rfl, x0, x1, x2⟩ := (H.out.later (B0.out.trans HL.out)).mks.at3 hx
   have HX := hide hx
   have hfx := mk_fit H.out x (List.mem_of_getElem? hx)
   have hj0 : (0 : Int) <= (j : Int) := by omega
   have hj1 : (j : Int) < n4 := by omega
   clear hx
   have HNO : Hid (¬ x.okP D.items.length -> u = false) := hide (fun hk => Bool.eq_false_iff.2 (fun h => hk ((mayB_iff.1 (HU.out.trans h)).mks x (List.mem_of_getElem? HX.out))))
   rw [<- L1.out] at HNO
   go_upto_region 14 with fail
   obtain ⟨W3, hW3⟩ : ∃ W3, W3 = (wr.alloc (Obj.cells #[Value.int .i64 x.item, Value.int .i64 x.period, Value.int .i64 x.qty] 43)) := ⟨_, rfl⟩
   have hb3 : Later wr W3 := by rw [hW3]; exact (Later.refl _).alloc _
   have hr3 : Row W3 wr.heap.size 43 [.int .i64 x.item, .int .i64 x.period, .int .i64 x.qty] := by rw [hW3]; exact Row.new _ _ _
   rw [<- hW3]
   have HL3 := hide (HL.out.trans hb3)
   have HB3 := hide hb3
   clear hW3 d0 d1 d2 d3 d4 d5 x0 x1 x2 hb3
   have r_d := R0.out.later HL3.out
   have d0 := r_d.cell (i := 0) rfl; have d1 := r_d.cell (i := 1) rfl; have d2 := r_d.cell (i := 2) rfl; have d3 := r_d.cell (i := 3) rfl; have d4 := r_d.cell (i := 4) rfl; have d5 := r_d.cell (i := 5) rfl
   clear r_d
   have x0 := hr3.cell (i := 0) rfl; have x1 := hr3.cell (i := 1) rfl; have x2 := hr3.cell (i := 2) rfl
   clear hr3
   cases j with
   | zero =>
     by_cases g0 : x.item < 0
     ·have k0 : decide (x.item < 0) = true := by simpa using g0
      have HF : Hid (u = false) := hide (HNO.out (by unfold PMk.okP; omega))
      go_quiet (fail)
      all_goals
       go_wp2_with fail
       go_ret
       exact ⟨by rw [HF.out]; rfl, B0.out.trans (HL3.out.drewN _)⟩
     have k0 : decide (x.item < 0) = false := by simpa using g0
     by_cases g1 : (n1 : Int) <= x.item
     ·have k1 : decide ((n1 : Int) <= x.item) = true := by simpa using g1
      have HF : Hid (u = false) := hide (HNO.out (by unfold PMk.okP; omega))
      go_quiet (fail)
      all_goals
       go_wp2_with fail
       go_ret
       exact ⟨by rw [HF.out]; rfl, B0.out.trans (HL3.out.drewN _)⟩
     have k1 : decide ((n1 : Int) <= x.item) = false := by simpa using g1
     by_cases g2 : x.period < 0
     ·have k2 : decide (x.period < 0) = true := by simpa using g2
      have HF : Hid (u = false) := hide (HNO.out (by unfold PMk.okP; omega))
      go_quiet (fail)
      all_goals
       go_wp2_with fail
       go_ret
       exact ⟨by rw [HF.out]; rfl, B0.out.trans (HL3.out.drewN _)⟩
     have k2 : decide (x.period < 0) = false := by simpa using g2
     by_cases g3 : (39 : Int) < x.period
     ·have k3 : decide ((39 : Int) < x.period) = true := by simpa using g3
      have HF : Hid (u = false) := hide (HNO.out (by unfold PMk.okP; omega))
      go_quiet (fail)
      all_goals
       go_wp2_with fail
       go_ret
       exact ⟨by rw [HF.out]; rfl, B0.out.trans (HL3.out.drewN _)⟩
     have k3 : decide ((39 : Int) < x.period) = false := by simpa using g3
     by_cases g4 : x.qty < 0
     ·have k4 : decide (x.qty < 0) = true := by simpa using g4
      have HF : Hid (u = false) := hide (HNO.out (by unfold PMk.okP; omega))
      go_quiet (fail)
      all_goals
       go_wp2_with fail
       go_ret
       exact ⟨by rw [HF.out]; rfl, B0.out.trans (HL3.out.drewN _)⟩
     have k4 : decide (x.qty < 0) = false := by simpa using g4
     by_cases g5 : (100 : Int) < x.qty
     ·have k5 : decide ((100 : Int) < x.qty) = true := by simpa using g5
      have HF : Hid (u = false) := hide (HNO.out (by unfold PMk.okP; omega))
      go_quiet (fail)
      all_goals
       go_wp2_with fail
       go_ret
       exact ⟨by rw [HF.out]; rfl, B0.out.trans (HL3.out.drewN _)⟩
     have k5 : decide ((100 : Int) < x.qty) = false := by simpa using g5
     have HOK : Hid (x.okP D.items.length) := hide (by rw [<- L1.out]; unfold PMk.okP; omega)
     have HN : Hid ((∀ (i : Nat) y, i < 0 + 1 -> D.mks[i]? = some y -> y.okP D.items.length) /\ (∀ (i : Nat) x y, i + 1 < 0 + 1 -> D.mks[i]? = some x -> D.mks[i+1]? = some y -> x.key < y.key)) := hide ⟨fun i y hi hy => by
      obtain rfl : i = 0 := by omega
      rw [HX.out] at hy; injection hy with hy; rw [<- hy]; exact HOK.out, fun i x y hi => by omega⟩
     go_quiet (fail)
     all_goals
      go_wp2_with fail
      exact ⟨⟨0+1, by omega, by go_num, HN, HL3.out.drewN _⟩, by simp [intOf]; omega⟩
   | succ k =>
     obtain ⟨y, hy⟩ : ∃ y, D.mks[k]? = some y := ⟨D.mks[k]'(by have := L4.out; omega), List.getElem?_eq_getElem _⟩
     obtain ⟨b2, off2, e2, y0, y1, y2⟩ := (H.out.later (B0.out.trans HL3.out)).mks.at3 hy
     injection e2 with e2; injection e2 with e2 e3
     subst e2 e3
     have HY := hide hy
     have hfy := (hpre.out.1 k y (by omega) hy)
     rw [<- L1.out] at hfy
     unfold PMk.okP at hfy
     clear hy
     have hw1 : IntKind.i64.wrap (k : Int) = (k : Int) := IntWalk.i64_in _ (by omega)
     have hk0 : (0 : Int) <= (k : Int) := by omega
     have hk1 : (k : Int) < n4 := by omega
     have hk2 : ((k : Int)).toNat = k := by omega
     by_cases g0 : x.item < 0
     ·have k0 : decide (x.item < 0) = true := by simpa using g0
      have HF : Hid (u = false) := hide (HNO.out (by unfold PMk.okP; omega))
      go_quiet (fail)
      all_goals
       go_wp2_with fail
       go_ret
       exact ⟨by rw [HF.out]; rfl, B0.out.trans (HL3.out.drewN _)⟩
     have k0 : decide (x.item < 0) = false := by simpa using g0
     by_cases g1 : (n1 : Int) <= x.item
     ·have k1 : decide ((n1 : Int) <= x.item) = true := by simpa using g1
      have HF : Hid (u = false) := hide (HNO.out (by unfold PMk.okP; omega))
      go_quiet (fail)
      all_goals
       go_wp2_with fail
       go_ret
       exact ⟨by rw [HF.out]; rfl, B0.out.trans (HL3.out.drewN _)⟩
     have k1 : decide ((n1 : Int) <= x.item) = false := by simpa using g1
     by_cases g2 : x.period < 0
     ·have k2 : decide (x.period < 0) = true := by simpa using g2
      have HF : Hid (u = false) := hide (HNO.out (by unfold PMk.okP; omega))
      go_quiet (fail)
      all_goals
       go_wp2_with fail
       go_ret
       exact ⟨by rw [HF.out]; rfl, B0.out.trans (HL3.out.drewN _)⟩
     have k2 : decide (x.period < 0) = false := by simpa using g2
     by_cases g3 : (39 : Int) < x.period
     ·have k3 : decide ((39 : Int) < x.period) = true := by simpa using g3
      have HF : Hid (u = false) := hide (HNO.out (by unfold PMk.okP; omega))
      go_quiet (fail)
      all_goals
       go_wp2_with fail
       go_ret
       exact ⟨by rw [HF.out]; rfl, B0.out.trans (HL3.out.drewN _)⟩
     have k3 : decide ((39 : Int) < x.period) = false := by simpa using g3
     by_cases g4 : x.qty < 0
     ·have k4 : decide (x.qty < 0) = true := by simpa using g4
      have HF : Hid (u = false) := hide (HNO.out (by unfold PMk.okP; omega))
      go_quiet (fail)
      all_goals
       go_wp2_with fail
       go_ret
       exact ⟨by rw [HF.out]; rfl, B0.out.trans (HL3.out.drewN _)⟩
     have k4 : decide (x.qty < 0) = false := by simpa using g4
     by_cases g5 : (100 : Int) < x.qty
     ·have k5 : decide ((100 : Int) < x.qty) = true := by simpa using g5
      have HF : Hid (u = false) := hide (HNO.out (by unfold PMk.okP; omega))
      go_quiet (fail)
      all_goals
       go_wp2_with fail
       go_ret
       exact ⟨by rw [HF.out]; rfl, B0.out.trans (HL3.out.drewN _)⟩
     have k5 : decide ((100 : Int) < x.qty) = false := by simpa using g5
     have hp1 : IntKind.i64.wrap (10 * x.period) = 10 * x.period := IntWalk.i64_in _ (by omega)
     have hp2 : IntKind.i64.wrap (10 * x.period + x.item) = 10 * x.period + x.item := IntWalk.i64_in _ (by omega)
     have hp3 : IntKind.i64.wrap (10 * y.period) = 10 * y.period := IntWalk.i64_in _ (by omega)
     have hp4 : IntKind.i64.wrap (10 * y.period + y.item) = 10 * y.period + y.item := IntWalk.i64_in _ (by omega)
     have HNR : Hid (¬ (y.key < x.key) -> u = false) := hide (fun hk => Bool.eq_false_iff.2 (fun h => hk ((mayB_iff.1 (HU.out.trans h)).mris k y x HY.out HX.out)))
     have HOK : Hid (x.okP D.items.length) := hide (by rw [<- L1.out]; unfold PMk.okP; omega)
     by_cases g9 : 10 * x.period + x.item <= 10 * y.period + y.item
     ·have k9 : decide (10 * x.period + x.item <= 10 * y.period + y.item) = true := by simpa using g9
      have HF : Hid (u = false) := hide (HNR.out (by unfold PMk.key; omega))
      go_quiet (fail)
      all_goals
       go_wp2_with fail
       go_ret
       exact ⟨by rw [HF.out]; rfl, B0.out.trans (HL3.out.drewN _)⟩
     ·have k9 : decide (10 * x.period + x.item <= 10 * y.period + y.item) = false := by simpa using g9
      have HN : Hid ((∀ (i : Nat) y, i < k + 1 + 1 -> D.mks[i]? = some y -> y.okP D.items.length) /\ (∀ (i : Nat) x y, i + 1 < k + 1 + 1 -> D.mks[i]? = some x -> D.mks[i+1]? = some y -> x.key < y.key)) := hide ⟨fun i z hi hz => by
       by_cases hij : i < k + 1
       ·exact hpre.out.1 i z hij hz
       ·obtain rfl : i = k + 1 := by omega
        rw [HX.out] at hz; injection hz with hz; rw [<- hz]; exact HOK.out, fun i z z' hi hz hz' => by
       by_cases hij : i + 1 < k + 1
       ·exact hpre.out.2 i z z' hij hz hz'
       ·obtain rfl : i = k := by omega
        rw [HX.out] at hz'; injection hz' with hz'
        rw [HY.out] at hz; injection hz with hz
        rw [<- hz, <- hz']; unfold PMk.key; omega⟩
      go_quiet (fail)
      all_goals
       go_wp2_with fail
       exact ⟨⟨(k+1)+1, by omega, by go_num, HN, HL3.out.drewN _⟩, by simp [intOf]; omega⟩
  ·have HF : Hid (u = true) := hide (by
    rw [<- HU.out, mayB_iff]
    exact ⟨HHP.out, HO30.out, HM120.out, HORD.out.1, fun x hx => by
     obtain ⟨i, hi⟩ := List.getElem?_of_mem hx
     exact hpre.out.1 i x (by have := (List.getElem?_eq_some_iff.1 hi).1; have := L4.out; omega) hi, HORD.out.2, fun i a b ha hb => hpre.out.2 i a b (by have := (List.getElem?_eq_some_iff.1 hb).1; have := L4.out; omega) ha hb⟩)
   have hj1 : ¬ (j : Int) < n4 := by omega
   clear hpre
   go_wp2_with fail
   go_ret
   exact ⟨by rw [HF.out]; rfl, B0.out.trans HL.out⟩
set_option maxHeartbeats 16000000 in
theorem rmay_calls (w : World) (A1 A2 A3 A4 : Option Addr) (n1 n2 n3 n4 c1 c2 c3 c4 : Nat) (D : PBook) (h : BookIn w (.slice A1 n1 c1) (.slice A2 n2 c2) (.slice A3 n3 c3) (.slice A4 n4 c4) D) (u : Bool) (hu : mayB D = u) :
 Calls Tryz.prog 16 #[.agg #[.slice A1 n1 c1, .int .i64 D.hor, .int .i64 D.now, .slice A2 n2 c2, .slice A3 n3 c3, .slice A4 n4 c4]] w (RetV w (.bool u)) := by
 have H := hide h; have HU := hide hu
 obtain ⟨l1, l2, l3, l4⟩ := h.lens
 have L1 := hide l1; have L3 := hide l3; have L4 := hide l4
 have hn1 : n1 <= 1000 := by have := h.il; omega
 have hn3 : n3 <= 1000 := by have := h.ol; omega
 have hn4 : n4 <= 1000 := by have := h.ml; omega
 obtain ⟨u0, hu0⟩ : ∃ u, headB D = u := ⟨_, rfl⟩
 have HU0 := hide hu0
 clear h hu hu0 l1 l2 l3 l4
 obtain ⟨W0, hW0⟩ : ∃ W0, W0 = (w.alloc (Obj.cells #[Value.slice A1 n1 c1, Value.int .i64 D.hor, Value.int .i64 D.now, Value.slice A2 n2 c2, Value.slice A3 n3 c3, Value.slice A4 n4 c4] 27)) := ⟨_, rfl⟩
 obtain ⟨hb0, r0, hsz0⟩ := boxes1 w [.slice A1 n1 c1, .int .i64 D.hor, .int .i64 D.now, .slice A2 n2 c2, .slice A3 n3 c3, .slice A4 n4 c4] 27 hW0
 have B0 := hide hb0; have HW0 := hide hW0
 have R0 := hide r0
 clear hb0 hW0 hsz0 r0
 go_enter Tryz.func16, Tryz.ntmps16
 go_upto_region 1 with fail
 rw [<- HW0.out]
 have r_d := R0.out.later (Later.refl W0)
 have d0 := r_d.cell (i := 0) rfl; have d1 := r_d.cell (i := 1) rfl; have d2 := r_d.cell (i := 2) rfl; have d3 := r_d.cell (i := 3) rfl; have d4 := r_d.cell (i := 4) rfl; have d5 := r_d.cell (i := 5) rfl
 clear r_d
 go_wp2_with fail
 ((with_reducible refine (rhead_calls _ _ _ _ _ _ _ _ _ _ _ _ _ D (H.out.later B0.out) u0 HU0.out).mono ?_); rintro e w1 ⟨rfl, b1⟩)
 have HL1 := hide b1
 clear b1 d0 d1 d2 d3 d4 d5
 have r_d := R0.out.later HL1.out
 have d0 := r_d.cell (i := 0) rfl; have d1 := r_d.cell (i := 1) rfl; have d2 := r_d.cell (i := 2) rfl; have d3 := r_d.cell (i := 3) rfl; have d4 := r_d.cell (i := 4) rfl; have d5 := r_d.cell (i := 5) rfl
 clear r_d
 cases u0 with
 | false =>
   have HF : Hid (u = false) := hide (Bool.eq_false_iff.2 (fun h => by
    have h5 := headB_iff.2 (mayB_iff.1 (HU.out.trans h)).head
    rw [HU0.out] at h5; cases h5))
   go_wp2_with fail
   go_ret
   exact ⟨by rw [HF.out]; rfl, B0.out.trans HL1.out⟩
 | true =>
 have HHP := hide (headB_iff.1 HU0.out)
 by_cases g1 : (30 : Int) < n3
 ·have k1 : decide ((30 : Int) < n3) = true := by simpa using g1
  have HF : Hid (u = false) := hide (Bool.eq_false_iff.2 (fun h => by have h5 := (mayB_iff.1 (HU.out.trans h)).ol; have := L3.out; omega))
  go_wp2_with fail
  go_ret
  exact ⟨by rw [HF.out]; rfl, B0.out.trans HL1.out⟩
 have k1 : decide ((30 : Int) < n3) = false := by simpa using g1
 by_cases g2 : (120 : Int) < n4
 ·have k2 : decide ((120 : Int) < n4) = true := by simpa using g2
  have HF : Hid (u = false) := hide (Bool.eq_false_iff.2 (fun h => by have h5 := (mayB_iff.1 (HU.out.trans h)).ml; have := L4.out; omega))
  go_wp2_with fail
  go_ret
  exact ⟨by rw [HF.out]; rfl, B0.out.trans HL1.out⟩
 have k2 : decide ((120 : Int) < n4) = false := by simpa using g2
 have HO30 : Hid (D.ords.length <= 30) := hide (by have := L3.out; omega)
 have HM120 : Hid (D.mks.length <= 120) := hide (by have := L4.out; omega)
 clear hn3 hn4
 have hn3 : n3 <= 30 := by have := HO30.out; have := L3.out; omega
 have hn4 : n4 <= 120 := by have := HM120.out; have := L4.out; omega
 go_wp2_with fail
 clear g1 g2 k1 k2 d0 d1 d2 d3 d4 d5
 go_loopw [4] (fun i wr => ∃ j : Nat, j <= n3 /\ i = .int .i64 (j : Int) /\ Hid ((∀ (i : Nat) x, i < j -> D.ords[i]? = some x -> x.okP D.items.length) /\ (∀ (i : Nat) x y, i + 1 < j -> D.ords[i]? = some x -> D.ords[i+1]? = some y -> x.id < y.id)) /\ Later W0 wr) (fun i _ => (n3 - intOf i).toNat)
 case atStart => exact ⟨0, by omega, rfl, hide ⟨fun i x hi => by omega, fun i x y hi => by omega⟩, HL1.out⟩
 case round =>
  obtain ⟨j, hj, rfl, hpre, hL⟩ := hrel
  have HL := hide hL
  clear hL
  have r_d := R0.out.later HL.out
  have d0 := r_d.cell (i := 0) rfl; have d1 := r_d.cell (i := 1) rfl; have d2 := r_d.cell (i := 2) rfl; have d3 := r_d.cell (i := 3) rfl; have d4 := r_d.cell (i := 4) rfl; have d5 := r_d.cell (i := 5) rfl
  clear r_d
  by_cases hjn : j < n3
  ·obtain ⟨x, hx⟩ : ∃ x, D.ords[j]? = some x := ⟨D.ords[j]'(by have := L3.out; omega), List.getElem?_eq_getElem _⟩
   obtain ⟨b1, off1, rfl, x0, x1, x2, x3⟩ := (H.out.later (B0.out.trans HL.out)).ords.at4 hx
   have HX := hide hx
   have hfx := ord_fit H.out x (List.mem_of_getElem? hx)
   have hj0 : (0 : Int) <= (j : Int) := by omega
   have hj1 : (j : Int) < n3 := by omega
   clear hx
   have HNO : Hid (¬ x.okP D.items.length -> u = false) := hide (fun hk => Bool.eq_false_iff.2 (fun h => hk ((mayB_iff.1 (HU.out.trans h)).ords x (List.mem_of_getElem? HX.out))))
   rw [<- L1.out] at HNO
   go_upto_region 8 with fail
   obtain ⟨W3, hW3⟩ : ∃ W3, W3 = (wr.alloc (Obj.cells #[Value.int .i64 x.id, Value.int .i64 x.item, Value.int .i64 x.due, Value.int .i64 x.qty] 29)) := ⟨_, rfl⟩
   have hb3 : Later wr W3 := by rw [hW3]; exact (Later.refl _).alloc _
   have hr3 : Row W3 wr.heap.size 29 [.int .i64 x.id, .int .i64 x.item, .int .i64 x.due, .int .i64 x.qty] := by rw [hW3]; exact Row.new _ _ _
   rw [<- hW3]
   have HL3 := hide (HL.out.trans hb3)
   have HB3 := hide hb3
   clear hW3 d0 d1 d2 d3 d4 d5 x0 x1 x2 x3 hb3
   have r_d := R0.out.later HL3.out
   have d0 := r_d.cell (i := 0) rfl; have d1 := r_d.cell (i := 1) rfl; have d2 := r_d.cell (i := 2) rfl; have d3 := r_d.cell (i := 3) rfl; have d4 := r_d.cell (i := 4) rfl; have d5 := r_d.cell (i := 5) rfl
   clear r_d
   have x0 := hr3.cell (i := 0) rfl; have x1 := hr3.cell (i := 1) rfl; have x2 := hr3.cell (i := 2) rfl; have x3 := hr3.cell (i := 3) rfl
   clear hr3
   cases j with
   | zero =>
     by_cases g0 : x.id < 1
     ·have k0 : decide (x.id < 1) = true := by simpa using g0
      have HF : Hid (u = false) := hide (HNO.out (by unfold POrd.okP; omega))
      go_quiet (fail)
      all_goals
       go_wp2_with fail
       go_ret
       exact ⟨by rw [HF.out]; rfl, B0.out.trans (HL3.out.drewN _)⟩
     have k0 : decide (x.id < 1) = false := by simpa using g0
     by_cases g1 : (1000000 : Int) < x.id
     ·have k1 : decide ((1000000 : Int) < x.id) = true := by simpa using g1
      have HF : Hid (u = false) := hide (HNO.out (by unfold POrd.okP; omega))
      go_quiet (fail)
      all_goals
       go_wp2_with fail
       go_ret
       exact ⟨by rw [HF.out]; rfl, B0.out.trans (HL3.out.drewN _)⟩
     have k1 : decide ((1000000 : Int) < x.id) = false := by simpa using g1
     by_cases g2 : x.item < 0
     ·have k2 : decide (x.item < 0) = true := by simpa using g2
      have HF : Hid (u = false) := hide (HNO.out (by unfold POrd.okP; omega))
      go_quiet (fail)
      all_goals
       go_wp2_with fail
       go_ret
       exact ⟨by rw [HF.out]; rfl, B0.out.trans (HL3.out.drewN _)⟩
     have k2 : decide (x.item < 0) = false := by simpa using g2
     by_cases g3 : (n1 : Int) <= x.item
     ·have k3 : decide ((n1 : Int) <= x.item) = true := by simpa using g3
      have HF : Hid (u = false) := hide (HNO.out (by unfold POrd.okP; omega))
      go_quiet (fail)
      all_goals
       go_wp2_with fail
       go_ret
       exact ⟨by rw [HF.out]; rfl, B0.out.trans (HL3.out.drewN _)⟩
     have k3 : decide ((n1 : Int) <= x.item) = false := by simpa using g3
     by_cases g4 : x.due < 0
     ·have k4 : decide (x.due < 0) = true := by simpa using g4
      have HF : Hid (u = false) := hide (HNO.out (by unfold POrd.okP; omega))
      go_quiet (fail)
      all_goals
       go_wp2_with fail
       go_ret
       exact ⟨by rw [HF.out]; rfl, B0.out.trans (HL3.out.drewN _)⟩
     have k4 : decide (x.due < 0) = false := by simpa using g4
     by_cases g5 : (39 : Int) < x.due
     ·have k5 : decide ((39 : Int) < x.due) = true := by simpa using g5
      have HF : Hid (u = false) := hide (HNO.out (by unfold POrd.okP; omega))
      go_quiet (fail)
      all_goals
       go_wp2_with fail
       go_ret
       exact ⟨by rw [HF.out]; rfl, B0.out.trans (HL3.out.drewN _)⟩
     have k5 : decide ((39 : Int) < x.due) = false := by simpa using g5
     by_cases g6 : x.qty < 1
     ·have k6 : decide (x.qty < 1) = true := by simpa using g6
      have HF : Hid (u = false) := hide (HNO.out (by unfold POrd.okP; omega))
      go_quiet (fail)
      all_goals
       go_wp2_with fail
       go_ret
       exact ⟨by rw [HF.out]; rfl, B0.out.trans (HL3.out.drewN _)⟩
     have k6 : decide (x.qty < 1) = false := by simpa using g6
     by_cases g7 : (100 : Int) < x.qty
     ·have k7 : decide ((100 : Int) < x.qty) = true := by simpa using g7
      have HF : Hid (u = false) := hide (HNO.out (by unfold POrd.okP; omega))
      go_quiet (fail)
      all_goals
       go_wp2_with fail
       go_ret
       exact ⟨by rw [HF.out]; rfl, B0.out.trans (HL3.out.drewN _)⟩
     have k7 : decide ((100 : Int) < x.qty) = false := by simpa using g7
     have HOK : Hid (x.okP D.items.length) := hide (by rw [<- L1.out]; unfold POrd.okP; omega)
     have HN : Hid ((∀ (i : Nat) y, i < 0 + 1 -> D.ords[i]? = some y -> y.okP D.items.length) /\ (∀ (i : Nat) x y, i + 1 < 0 + 1 -> D.ords[i]? = some x -> D.ords[i+1]? = some y -> x.id < y.id)) := hide ⟨fun i y hi hy => by
      obtain rfl : i = 0 := by omega
      rw [HX.out] at hy; injection hy with hy; rw [<- hy]; exact HOK.out, fun i x y hi => by omega⟩
     go_quiet (fail)
     all_goals
      go_wp2_with fail
      exact ⟨⟨0+1, by omega, by go_num, HN, HL3.out.drewN _⟩, by simp [intOf]; omega⟩
   | succ k =>
     obtain ⟨y, hy⟩ : ∃ y, D.ords[k]? = some y := ⟨D.ords[k]'(by have := L3.out; omega), List.getElem?_eq_getElem _⟩
     obtain ⟨b2, off2, e2, y0, y1, y2, y3⟩ := (H.out.later (B0.out.trans HL3.out)).ords.at4 hy
     injection e2 with e2; injection e2 with e2 e3
     subst e2 e3
     have HY := hide hy
     have hfy := (hpre.out.1 k y (by omega) hy)
     rw [<- L1.out] at hfy
     unfold POrd.okP at hfy
     clear hy
     have hw1 : IntKind.i64.wrap (k : Int) = (k : Int) := IntWalk.i64_in _ (by omega)
     have hk0 : (0 : Int) <= (k : Int) := by omega
     have hk1 : (k : Int) < n3 := by omega
     have hk2 : ((k : Int)).toNat = k := by omega
     by_cases g0 : x.id < 1
     ·have k0 : decide (x.id < 1) = true := by simpa using g0
      have HF : Hid (u = false) := hide (HNO.out (by unfold POrd.okP; omega))
      go_quiet (fail)
      all_goals
       go_wp2_with fail
       go_ret
       exact ⟨by rw [HF.out]; rfl, B0.out.trans (HL3.out.drewN _)⟩
     have k0 : decide (x.id < 1) = false := by simpa using g0
     by_cases g1 : (1000000 : Int) < x.id
     ·have k1 : decide ((1000000 : Int) < x.id) = true := by simpa using g1
      have HF : Hid (u = false) := hide (HNO.out (by unfold POrd.okP; omega))
      go_quiet (fail)
      all_goals
       go_wp2_with fail
       go_ret
       exact ⟨by rw [HF.out]; rfl, B0.out.trans (HL3.out.drewN _)⟩
     have k1 : decide ((1000000 : Int) < x.id) = false := by simpa using g1
     by_cases g2 : x.item < 0
     ·have k2 : decide (x.item < 0) = true := by simpa using g2
      have HF : Hid (u = false) := hide (HNO.out (by unfold POrd.okP; omega))
      go_quiet (fail)
      all_goals
       go_wp2_with fail
       go_ret
       exact ⟨by rw [HF.out]; rfl, B0.out.trans (HL3.out.drewN _)⟩
     have k2 : decide (x.item < 0) = false := by simpa using g2
     by_cases g3 : (n1 : Int) <= x.item
     ·have k3 : decide ((n1 : Int) <= x.item) = true := by simpa using g3
      have HF : Hid (u = false) := hide (HNO.out (by unfold POrd.okP; omega))
      go_quiet (fail)
      all_goals
       go_wp2_with fail
       go_ret
       exact ⟨by rw [HF.out]; rfl, B0.out.trans (HL3.out.drewN _)⟩
     have k3 : decide ((n1 : Int) <= x.item) = false := by simpa using g3
     by_cases g4 : x.due < 0
     ·have k4 : decide (x.due < 0) = true := by simpa using g4
      have HF : Hid (u = false) := hide (HNO.out (by unfold POrd.okP; omega))
      go_quiet (fail)
      all_goals
       go_wp2_with fail
       go_ret
       exact ⟨by rw [HF.out]; rfl, B0.out.trans (HL3.out.drewN _)⟩
     have k4 : decide (x.due < 0) = false := by simpa using g4
     by_cases g5 : (39 : Int) < x.due
     ·have k5 : decide ((39 : Int) < x.due) = true := by simpa using g5
      have HF : Hid (u = false) := hide (HNO.out (by unfold POrd.okP; omega))
      go_quiet (fail)
      all_goals
       go_wp2_with fail
       go_ret
       exact ⟨by rw [HF.out]; rfl, B0.out.trans (HL3.out.drewN _)⟩
     have k5 : decide ((39 : Int) < x.due) = false := by simpa using g5
     by_cases g6 : x.qty < 1
     ·have k6 : decide (x.qty < 1) = true := by simpa using g6
      have HF : Hid (u = false) := hide (HNO.out (by unfold POrd.okP; omega))
      go_quiet (fail)
      all_goals
       go_wp2_with fail
       go_ret
       exact ⟨by rw [HF.out]; rfl, B0.out.trans (HL3.out.drewN _)⟩
     have k6 : decide (x.qty < 1) = false := by simpa using g6
     by_cases g7 : (100 : Int) < x.qty
     ·have k7 : decide ((100 : Int) < x.qty) = true := by simpa using g7
      have HF : Hid (u = false) := hide (HNO.out (by unfold POrd.okP; omega))
      go_quiet (fail)
      all_goals
       go_wp2_with fail
       go_ret
       exact ⟨by rw [HF.out]; rfl, B0.out.trans (HL3.out.drewN _)⟩
     have k7 : decide ((100 : Int) < x.qty) = false := by simpa using g7
     have HNR : Hid (¬ (y.id < x.id) -> u = false) := hide (fun hk => Bool.eq_false_iff.2 (fun h => hk ((mayB_iff.1 (HU.out.trans h)).oris k y x HY.out HX.out)))
     have HOK : Hid (x.okP D.items.length) := hide (by rw [<- L1.out]; unfold POrd.okP; omega)
     by_cases g9 : x.id <= y.id
     ·have k9 : decide (x.id <= y.id) = true := by simpa using g9
      have HF : Hid (u = false) := hide (HNR.out (by omega))
      go_quiet (fail)
      all_goals
       go_wp2_with fail
       go_ret
       exact ⟨by rw [HF.out]; rfl, B0.out.trans (HL3.out.drewN _)⟩
     ·have k9 : decide (x.id <= y.id) = false := by simpa using g9
      have HN : Hid ((∀ (i : Nat) y, i < k + 1 + 1 -> D.ords[i]? = some y -> y.okP D.items.length) /\ (∀ (i : Nat) x y, i + 1 < k + 1 + 1 -> D.ords[i]? = some x -> D.ords[i+1]? = some y -> x.id < y.id)) := hide ⟨fun i z hi hz => by
       by_cases hij : i < k + 1
       ·exact hpre.out.1 i z hij hz
       ·obtain rfl : i = k + 1 := by omega
        rw [HX.out] at hz; injection hz with hz; rw [<- hz]; exact HOK.out, fun i z z' hi hz hz' => by
       by_cases hij : i + 1 < k + 1
       ·exact hpre.out.2 i z z' hij hz hz'
       ·obtain rfl : i = k := by omega
        rw [HX.out] at hz'; injection hz' with hz'
        rw [HY.out] at hz; injection hz with hz
        rw [<- hz, <- hz']; omega⟩
      go_quiet (fail)
      all_goals
       go_wp2_with fail
       exact ⟨⟨(k+1)+1, by omega, by go_num, HN, HL3.out.drewN _⟩, by simp [intOf]; omega⟩
  ·have HORD : Hid ((∀ x ∈ D.ords, x.okP D.items.length) /\ ∀ (i : Nat) a b, D.ords[i]? = some a -> D.ords[i+1]? = some b -> a.id < b.id) := hide ⟨fun x hx => by
    obtain ⟨i, hi⟩ := List.getElem?_of_mem hx
    exact hpre.out.1 i x (by have := (List.getElem?_eq_some_iff.1 hi).1; have := L3.out; omega) hi, fun i a b ha hb => hpre.out.2 i a b (by have := (List.getElem?_eq_some_iff.1 hb).1; have := L3.out; omega) ha hb⟩
   have HLO := hide HL.out
   have hj1 : ¬ (j : Int) < n3 := by omega
   clear hpre
   go_upto_region 10 with fail
   clear hj1 hjn hj HL d0 d1 d2 d3 d4 d5
   exact rmay_tail w W0 wr _ _ _ _ _ _ _ _ _ _ _ _  D u H.out HU.out B0.out R0.out HLO.out HHP.out HO30.out HM120.out HORD.out _ _ _ _ _ _ _ _ _ _ _ _ _ _ _ _ _ _ _ _ _ _ _ _ _ _ _ _ _ _ _ _ _ _ _ _ _ _ _ _ _ _ _ _ _ _ _ _ _ _ _ _ _ _ _ _ _ _ _ _ _ _ _ _ _ _ _ _ _ _ _ _ _ _ _ _ _ _ _ _ _ _ _ _ _ _ _ _ _ _ _ _ _ _ _ _ _ _ _ _ _ _ _ _ _ _ _ _ _ _ _ _ _ _ _ _ _ _ _ _ _ _ _ _ _ _ _ _ _ _ _ _ _ _ _ _ _ _ _ _ _ _ _ _ _ _ _ _ _ _ _ _ _ _ _ _ _ _ _ _ _ _ _ (by assumption) (by assumption)
end Go.Proofs.YtncbebfhakcgdaaGreat
