/- PlanSums: the walk. -/
import Derived.Test.YthncinngkfflgaaGreatRows
import Derived.Test.YthncinngkfflgaaGreatQ12
import Derived.Test.YthncinngkfflgaaGreatQ25
import Derived.SizedLaws
import Derived.WalkKit
import Derived.ProofKit
import Derived.OpenShut
import Derived.ShutString
import Derived.ChangeOld
import Derived.Below
set_option linter.unusedVariables false
set_option linter.unusedSimpArgs false
set_option maxRecDepth 100000
namespace Go.Proofs.YthncinngkfflgaaGreat
open Go.RowKit Go.Shelf
attribute [local go_sem ↓] Go.wp_at_zero Go.wp_at_succ

theorem may_now {D : PBook} (h : mayB D = true) (j : Nat) (hj : j ≤ 40) : mayB { D with now := (j : Int) } = true := by
  have h1 := mayB_iff.1 h
  exact mayB_iff.2 { h1 with head := { h1.head with t0 := by show (0 : Int) ≤ j; omega, t40 := by show (j : Int) ≤ 40; omega } }
theorem plthere_now (w : World) (A1 A2 A3 A4 : Option Addr) (n1 n2 n3 n4 c1 c2 c3 c4 : Nat) (D : PBook) (h : BookIn w (.slice A1 n1 c1) (.slice A2 n2 c2) (.slice A3 n3 c3) (.slice A4 n4 c4) D) (item : Int) (j : Nat) (hm : mayB D = true) (hj : j ≤ 40) :
    Calls Tryz.prog 29 #[.agg #[.slice A1 n1 c1, .int .i64 D.hor, .int .i64 (j : Int), .slice A2 n2 c2, .slice A3 n3 c3, .slice A4 n4 c4], .int .i64 item] w (RetV w (.int .i64 (thereR D item j))) := by
  have hb : BookIn w (.slice A1 n1 c1) (.slice A2 n2 c2) (.slice A3 n3 c3) (.slice A4 n4 c4) { D with now := (j : Int) } :=
    { h with nfit := by unfold IFit; show (-9223372036854775808 : Int) ≤ (j : Int) ∧ (j : Int) < 9223372036854775808; omega, its := h.its, caps := h.caps, ords := h.ords, mks := h.mks }
  have := plthere2_calls _ _ _ _ _ _ _ _ _ _ _ _ _ _ hb item
  have e : thereV { D with now := (j : Int) } item = thereR D item j := by
    rw [thereR_may (mayB_iff.1 hm)]
    unfold thereV
    rw [if_pos (may_now hm j hj)]
  rw [e] at this
  exact this

set_option maxHeartbeats 8000000 in
theorem plansums_walk (w : World) (v0 : Value) (item : Int) (h0 : ArgBook w v0) :
    Calls Tryz.prog 9 #[v0, .int .i64 item] w (RetV w (.bool true)) := by
  obtain ⟨A1, A2, A3, A4, n1, n2, n3, n4, c1, c2, c3, c4, hor, now, caps, ords, mks, rfl, hi, hcp, hor', hmk, hft⟩ := h0
  have HI := hide hi; have HCP := hide hcp; have HOR := hide hor'; have HMK := hide hmk; have HFT := hide hft
  clear hi hcp hor' hmk hft
  obtain ⟨W0, hW0⟩ : ∃ W0, W0 = (w.alloc (Obj.cells #[Value.slice A1 n1 c1, Value.int .i64 hor, Value.int .i64 now, Value.slice A2 n2 c2, Value.slice A3 n3 c3, Value.slice A4 n4 c4] 47)) := ⟨_, rfl⟩
  obtain ⟨hb0, r0, hsz0⟩ := boxes1 w [.slice A1 n1 c1, .int .i64 hor, .int .i64 now, .slice A2 n2 c2, .slice A3 n3 c3, .slice A4 n4 c4] 47 hW0
  have B0 := hide hb0; have HW0 := hide hW0
  have R0 := hide r0
  clear hb0 hW0 hsz0 r0
  go_enter Tryz.func9, Tryz.ntmps9
  go_upto_region 1 with fail
  rw [← HW0.out]
  go_wp2_with fail
  ((with_reducible refine (awake17_calls W0).mono ?_); rintro e w1 ⟨rfl, b1⟩)
  have HL1 := hide b1
  clear b1
  have r_d := R0.out.later HL1.out
  have d0 := r_d.cell (i := 0) rfl; have d1 := r_d.cell (i := 1) rfl; have d2 := r_d.cell (i := 2) rfl; have d3 := r_d.cell (i := 3) rfl; have d4 := r_d.cell (i := 4) rfl; have d5 := r_d.cell (i := 5) rfl
  clear r_d
  go_wp2_with fail
  ((with_reducible refine (few17_calls w1 _ _ _ _ _ _ _ _ _ _ _ _ hor now caps ords mks (HI.out.later (B0.out.trans HL1.out)) (HCP.out.later (B0.out.trans HL1.out)) (HOR.out.later (B0.out.trans HL1.out)) (HMK.out.later (B0.out.trans HL1.out)) HFT.out.1 HFT.out.2.1 HFT.out.2.2.1 HFT.out.2.2.2.1 HFT.out.2.2.2.2).mono ?_); rintro e w2 ⟨uf, rfl, b2, hf⟩)
  have HF := hide hf; have HL2 := hide (HL1.out.trans b2)
  have HLB := hide b2
  clear b2 hf d0 d1 d2 d3 d4 d5
  have r_d := R0.out.later HL2.out
  have d0 := r_d.cell (i := 0) rfl; have d1 := r_d.cell (i := 1) rfl; have d2 := r_d.cell (i := 2) rfl; have d3 := r_d.cell (i := 3) rfl; have d4 := r_d.cell (i := 4) rfl; have d5 := r_d.cell (i := 5) rfl
  clear r_d
  cases uf with
  | false =>
    go_wp2_with fail
    go_ret
    exact ⟨rfl, B0.out.trans HL2.out⟩
  | true =>
  obtain ⟨D, rfl, rfl, rfl, rfl, rfl, hbk⟩ := HF.out (by first | rfl | trivial)
  have H := hide (hbk.later HLB.out)
  clear hbk HF HI HCP HOR HMK HFT HLB
  obtain ⟨u0, hu0⟩ : ∃ u, mayB D = u := ⟨_, rfl⟩
  have HU0 := hide hu0
  clear hu0
  have HLEN := hide H.out.lens.1
  have hol := H.out.ol
  go_wp2_with fail
  ((with_reducible refine (rmay_calls _ _ _ _ _ _ _ _ _ _ _ _ _ D H.out u0 HU0.out).mono ?_); rintro e w3 ⟨rfl, b3⟩)
  have HL3 := hide (HL2.out.trans b3); have HL23 := hide b3
  clear b3 d0 d1 d2 d3 d4 d5
  have r_d := R0.out.later HL3.out
  have d0 := r_d.cell (i := 0) rfl; have d1 := r_d.cell (i := 1) rfl; have d2 := r_d.cell (i := 2) rfl; have d3 := r_d.cell (i := 3) rfl; have d4 := r_d.cell (i := 4) rfl; have d5 := r_d.cell (i := 5) rfl
  clear r_d
  cases u0 with
  | false =>
    go_wp2_with fail
    go_ret
    exact ⟨rfl, B0.out.trans HL3.out⟩
  | true =>
  by_cases g1 : item < 0
  · have k1 : decide (item < 0) = true := by simpa using g1
    go_wp2_with fail
    go_ret
    exact ⟨rfl, B0.out.trans HL3.out⟩
  have k1 : decide (item < 0) = false := by simpa using g1
  by_cases g2 : (n1 : Int) ≤ item
  · have k2 : decide ((n1 : Int) ≤ item) = true := by simpa using g2
    go_wp2_with fail
    go_ret
    exact ⟨rfl, B0.out.trans HL3.out⟩
  have k2 : decide ((n1 : Int) ≤ item) = false := by simpa using g2
  go_upto_region 6 with fail
  obtain ⟨w4, hw4⟩ : ∃ w4, w4 = w3.alloc (Obj.cells #[Value.slice A1 n1 c1, Value.int .i64 D.hor, Value.int .i64 D.now, Value.slice A2 n2 c2, Value.slice A3 n3 c3, Value.slice A4 n4 c4] 47) := ⟨_, rfl⟩
  obtain ⟨G, hG⟩ : ∃ G, G = w3.heap.size := ⟨_, rfl⟩
  have bw4 : Later w3 w4 := by rw [hw4]; exact (Later.refl _).alloc _
  have rG : Row w4 G 47 [.slice A1 n1 c1, .int .i64 D.hor, .int .i64 D.now, .slice A2 n2 c2, .slice A3 n3 c3, .slice A4 n4 c4] := by rw [hw4, hG]; exact Row.new _ _ _
  rw [← hw4, ← hG]
  have HG : Hid (w3.heap.size ≤ G) := hide (by rw [hG]; exact Nat.le_refl _)
  clear hw4 hG
  have f0 := rG.cell (i := 0) rfl; have f1 := rG.cell (i := 1) rfl; have f2 := rG.cell (i := 2) rfl; have f3 := rG.cell (i := 3) rfl; have f4 := rG.cell (i := 4) rfl; have f5 := rG.cell (i := 5) rfl; have z2 := rG.frozen 2
  go_upto_region 7 with fail
  obtain ⟨w5, hw5⟩ : ∃ w5, w5 = w4.setCell ⟨G, 2, none⟩ (.int .i64 0) := ⟨_, rfl⟩
  have r5 : Row w5 G 47 [.slice A1 n1 c1, .int .i64 D.hor, .int .i64 0, .slice A2 n2 c2, .slice A3 n3 c3, .slice A4 n4 c4] := by rw [hw5]; exact rG.set_ 2 _
  have b5 : Later w3 w5 := by rw [hw5]; exact bw4.only (Only.one G w4 2 _) HG.out
  rw [← hw5]
  have R5 := hide r5; have HL5 := hide b5
  clear r5 b5 hw5 bw4 rG d0 d1 d2 d3 d4 d5 f0 f1 f2 f3 f4 f5 z2 k1 k2
  go_wp2_with fail
  go_loopw [6, 7] (fun s i wr => ∃ j : Nat, j ≤ 41 ∧ s = .int .i64 (thereR D item j) ∧ i = .int .i64 (j : Int) ∧ (∃ nv, Row wr G 47 [.slice A1 n1 c1, .int .i64 D.hor, .int .i64 nv, .slice A2 n2 c2, .slice A3 n3 c3, .slice A4 n4 c4]) ∧ Later w3 wr) (fun _ i _ => (41 - intOf i).toNat)
  case atStart => exact ⟨0, by omega, rfl, rfl, ⟨0, R5.out⟩, HL5.out⟩
  case round =>
    obtain ⟨j, hj, rfl, rfl, ⟨nv, hR⟩, hL⟩ := hrel
    have HL := hide hL; have RG := hide hR
    clear hL hR
    have r_d := R0.out.later (HL3.out.trans HL.out)
    have d0 := r_d.cell (i := 0) rfl; have d1 := r_d.cell (i := 1) rfl; have d2 := r_d.cell (i := 2) rfl; have d3 := r_d.cell (i := 3) rfl; have d4 := r_d.cell (i := 4) rfl; have d5 := r_d.cell (i := 5) rfl
    clear r_d
    by_cases hjn : j < 41
    · have t1 : decide ((j : Int) ≤ 40) = true := by simp; omega
      have hj9 : (j : Int) ≤ 40 := by omega
      have f0 := RG.out.cell (i := 0) rfl; have f1 := RG.out.cell (i := 1) rfl; have f2 := RG.out.cell (i := 2) rfl; have f3 := RG.out.cell (i := 3) rfl; have f4 := RG.out.cell (i := 4) rfl; have f5 := RG.out.cell (i := 5) rfl; have z2 := RG.out.frozen 2
      go_upto_region 12 with fail
      obtain ⟨w6, hw6⟩ : ∃ w6, w6 = wr.setCell ⟨G, 2, none⟩ (.int .i64 (j : Int)) := ⟨_, rfl⟩
      have r6 : Row w6 G 47 [.slice A1 n1 c1, .int .i64 D.hor, .int .i64 (j : Int), .slice A2 n2 c2, .slice A3 n3 c3, .slice A4 n4 c4] := by rw [hw6]; exact RG.out.set_ 2 _
      have b6 : Later w3 w6 := by rw [hw6]; exact HL.out.only (Only.one G wr 2 _) HG.out
      rw [← hw6]
      have RG6 := hide r6; have HL6 := hide b6
      clear r6 b6 hw6 d0 d1 d2 d3 d4 d5 f0 f1 f2 f3 f4 f5 z2
      have f0 := RG6.out.cell (i := 0) rfl; have f1 := RG6.out.cell (i := 1) rfl; have f2 := RG6.out.cell (i := 2) rfl; have f3 := RG6.out.cell (i := 3) rfl; have f4 := RG6.out.cell (i := 4) rfl; have f5 := RG6.out.cell (i := 5) rfl; have z2 := RG6.out.frozen 2
      have hb := thereR_bound D item hol j
      have hf := fixedV_bound D item j
      have hd := dueV_bound D item j hol
      have hst : thereR D item (j+1) = thereR D item j + (fixedV D item j).getD 0 - dueV D item j := rfl
      obtain ⟨s, hs⟩ : ∃ s, thereR D item j = s := ⟨_, rfl⟩
      obtain ⟨fo, hfo⟩ : ∃ f, fixedV D item j = f := ⟨_, rfl⟩
      have hn9 : fo.isSome = false → fo.getD 0 = 0 := by cases fo <;> simp
      obtain ⟨f, hf1⟩ : ∃ f, fo.getD 0 = f := ⟨_, rfl⟩
      obtain ⟨zs, hf2⟩ : ∃ f, fo.isSome = f := ⟨_, rfl⟩
      obtain ⟨d, hd1⟩ : ∃ d, dueV D item j = d := ⟨_, rfl⟩
      rw [hf1, hf2] at hn9
      rw [hs, hfo, hf1, hd1] at hst
      rw [hfo, hf1] at hf
      rw [hs] at hb
      rw [hd1] at hd
      rw [hs]
      have hb2 : -10000000 ≤ s ∧ s ≤ 100000 := by omega
      have HST := hide hst; have HFO := hide hfo; have HF1 := hide hf1; have HF2 := hide hf2; have HD1 := hide hd1; have HS := hide hs; have HN9 := hide hn9
      clear hst hs hfo hf1 hf2 hd1 hb hn9
      go_wp2_with fail
      ((with_reducible refine (plthere_now w6 _ _ _ _ _ _ _ _ _ _ _ _ D (H.out.later (HL23.out.trans HL6.out)) item j HU0.out (by omega)).mono ?_); rintro e w7 ⟨rfl, b7⟩)
      rw [HS.out]
      have HL7 := hide (HL6.out.trans b7)
      have RG7 := hide (RG6.out.later b7)
      clear b7 f0 f1 f2 f3 f4 f5 z2
      have r_d := R0.out.later (HL3.out.trans HL7.out)
      have d0 := r_d.cell (i := 0) rfl; have d1 := r_d.cell (i := 1) rfl; have d2 := r_d.cell (i := 2) rfl; have d3 := r_d.cell (i := 3) rfl; have d4 := r_d.cell (i := 4) rfl; have d5 := r_d.cell (i := 5) rfl
      clear r_d
      go_wp2_with fail
      ((with_reducible refine (plfixed_calls _ _ _ _ _ _ _ _ _ _ _ _ _ D (H.out.later (HL23.out.trans HL7.out)) item j).mono ?_); rintro e w8 ⟨rfl, b8⟩)
      rw [HFO.out, HF1.out, HF2.out]
      have HL8 := hide (HL7.out.trans b8)
      have RG8 := hide (RG7.out.later b8)
      clear b8 d0 d1 d2 d3 d4 d5
      have r_d := R0.out.later (HL3.out.trans HL8.out)
      have d0 := r_d.cell (i := 0) rfl; have d1 := r_d.cell (i := 1) rfl; have d2 := r_d.cell (i := 2) rfl; have d3 := r_d.cell (i := 3) rfl; have d4 := r_d.cell (i := 4) rfl; have d5 := r_d.cell (i := 5) rfl
      clear r_d
      cases zs with
      | true =>
        go_wp2_with fail
        ((with_reducible refine (pldue_calls _ _ _ _ _ _ _ _ _ _ _ _ _ D (H.out.later (HL23.out.trans HL8.out)) item j).mono ?_); rintro e w9 ⟨rfl, b9⟩)
        rw [HD1.out]
        have HL9 := hide (HL8.out.trans b9)
        have RG9 := hide (RG8.out.later b9)
        clear b9
        have hw1 : IntKind.i64.wrap (s + f) = s + f := IntWalk.i64_in _ (by omega)
        have hw2 : IntKind.i64.wrap (s + f - d) = s + f - d := IntWalk.i64_in _ (by omega)
        go_wp2_with fail
        exact ⟨⟨j+1, by omega, by (rw [HST.out]), by go_num, ⟨_, RG9.out⟩, HL9.out⟩, by simp [intOf]; omega⟩
      | false =>
        have hf0 : f = 0 := HN9.out rfl
        subst hf0
        go_wp2_with fail
        ((with_reducible refine (pldue_calls _ _ _ _ _ _ _ _ _ _ _ _ _ D (H.out.later (HL23.out.trans HL8.out)) item j).mono ?_); rintro e w9 ⟨rfl, b9⟩)
        rw [HD1.out]
        have HL9 := hide (HL8.out.trans b9)
        have RG9 := hide (RG8.out.later b9)
        clear b9
        have hw1 : IntKind.i64.wrap (s) = s := IntWalk.i64_in _ (by omega)
        have hw2 : IntKind.i64.wrap (s - d) = s - d := IntWalk.i64_in _ (by omega)
        go_wp2_with fail
        exact ⟨⟨j+1, by omega, by (rw [HST.out, Int.add_zero]), by go_num, ⟨_, RG9.out⟩, HL9.out⟩, by simp [intOf]; omega⟩
    · have t1 : decide ((j : Int) ≤ 40) = false := by simp; omega
      have hj9 : ¬ (j : Int) ≤ 40 := by omega
      go_wp2_with fail
      ((with_reducible refine (plthere2_calls _ _ _ _ _ _ _ _ _ _ _ _ _ D (H.out.later (HL23.out.trans HL.out)) (n1 : Int)).mono ?_); rintro e w7 ⟨rfl, b7⟩)
      rw [thereV_out (by have := HLEN.out; omega)]
      have HL7 := hide (HL.out.trans b7)
      clear b7 d0 d1 d2 d3 d4 d5
      have r_d := R0.out.later (HL3.out.trans HL7.out)
      have d0 := r_d.cell (i := 0) rfl; have d1 := r_d.cell (i := 1) rfl; have d2 := r_d.cell (i := 2) rfl; have d3 := r_d.cell (i := 3) rfl; have d4 := r_d.cell (i := 4) rfl; have d5 := r_d.cell (i := 5) rfl
      clear r_d
      go_wp2_with fail
      ((refine (plthere2_calls _ _ _ _ _ _ _ _ _ _ _ _ _ D (H.out.later (HL23.out.trans HL7.out)) (-1)).mono ?_); rintro e w8 ⟨rfl, b8⟩)
      rw [thereV_out (by have := HLEN.out; omega)]
      have HL8 := hide (HL7.out.trans b8)
      clear b8 d0 d1 d2 d3 d4 d5
      go_wp2_with fail
      go_ret
      exact ⟨rfl, B0.out.trans (HL3.out.trans HL8.out)⟩
end Go.Proofs.YthncinngkfflgaaGreat

/- PlanSums returns true for every input, and each argument reads behind the call as it read before. No condition. -/
set_option linter.unusedVariables false
namespace Go.Proofs.YthncinngkfflgaaGreat
open Go.ChangeShapes Go.WideShapes Go.ChangeAt Go.RowKit

theorem plansums_own : ownKnob Tryz.prog.godebug = none := by kernel_rfl
theorem plansums_laid : laidOutB Tryz.prog = true := by kernel_rfl

set_option maxRecDepth 100000 in
theorem plansums_lifted (os : Os) (started : os.Started) (H : Type) (enc : TypeId × Value → H) :
    ReturnsInHanded {} Tryz.checked os 9 .any (Rows.planSumsSpec.pre6 enc Tryz.prog Tryz.f9 Rows.planSumsRow.domain false) (Rows.planSumsSpec.post enc Tryz.prog Tryz.f9 false true false false) := by
  refine returnsInHanded_of_change_sized (C := Tryz.checked) plansums_own started (by kernel_rfl) Tryz.func9
    (ChangeSpec.witness6 (enc := enc) (C := Tryz.checked) false ⟨#[], #[.agg #[.slice none 0 0, .int .i64 0, .int .i64 0, .slice none 0 0, .slice none 0 0, .slice none 0 0], .int .i64 0], []⟩ 8 (by kernel_rfl) (by kernel_rfl) (by kernel_rfl) (by kernel_rfl)) ?_
  intro W base args ds gs before hval0 hW hcnd hwt0 _
  have hval : ∀ (j : Nat) t v, Tryz.f9.params[j]? = some t → args[j]? = some v → Value.okWide Tryz.prog W .any base t v := hval0
  have hW' := hW
  obtain ⟨p, q, hA0, hV, rfl, hfz, hnd⟩ := hW
  have hA : DataW.TrodAll enc Tryz.prog W 0 (fun _ => true) true Tryz.f9.params.toList args.toList ds p := hA0
  have hwt : ∀ n ∈ DataW.weightsEach Tryz.prog (Tryz.f9.params.toList ++ Rows.planSumsSpec.plain.varTypes Tryz.prog) (ds ++ gs), n ≤ reachBytes := fun n hn => by simpa using List.all_eq_true.1 hwt0 n hn
  rw [Tryz.params9] at hA hval hwt
  obtain ⟨v0, vs0, d0, ds0, p0, q0, hargs, rfl, rfl, h0, r0⟩ := trodAll_cons hA
  obtain ⟨v1, vs1, d1, ds1, p1, q1, rfl, rfl, rfl, h1, r1⟩ := trodAll_cons r0
  obtain ⟨rfl, rfl, rfl⟩ := trodAll_nil r1
  obtain rfl : args = #[v0, v1] := by cases args; simp_all
  obtain ⟨rfl, rfl⟩ := trodVars_none hV
  have k0 := h0
  have lt0 : ∀ x ∈ p0, x.block < W.heap.size := by obtain ⟨m, hm⟩ := k0; exact DataW.trod_lt m _ _ _ hm
  have ha0 := arg_book (hval 0 _ v0 rfl rfl) h0 (Wt.each hwt (j := 0) rfl rfl)
  obtain ⟨z1, rfl, rfl, rfl, wf1⟩ := open_int Tryz.underlying3 (hval 1 _ v1 rfl rfl) h1
  clear hA0 hval0 hwt hwt0
  refine (plansums_walk W v0 z1 ha0).mono fun e W' ⟨he, bel⟩ => ?_
  subst he
  exact ⟨_, rfl, _, _, _, [], _, [], hW', trodAll_mk1 (shut_bool Tryz.underlying4 _), (trodAll_cons_mk (Below.trod plansums_laid (by kernel_rfl) (of_decide_eq_true (by kernel_rfl)) k0 bel lt0) (trodAll_cons_mk (shut_int Tryz.underlying3 wf1) trodAll_mk0)), rfl, Below.frame bel _, fun h => by cases h⟩

/-- the statement -/
theorem plansums_holds : Rows.PlanSumsSaid :=
  OpenClaim.holds_of_wide 9 Tryz.f9 rfl rfl rfl rfl rfl rfl rfl ⟨rfl, rfl, rfl, rfl, rfl⟩ rfl rfl rfl rfl rfl (by kernel_rfl) Tryz.func9 (by kernel_rfl)
    (of_decide_eq_true (by kernel_rfl)) (by unfold Func.isWrapper; first | (rw [if_pos (by decide +kernel)]; kernel_rfl) | (rw [if_neg (by decide +kernel)]; exact ⟨rfl, rfl⟩))
    (fun os started H enc _ => plansums_lifted os started H enc)
#print axioms plansums_holds
end Go.Proofs.YthncinngkfflgaaGreat
