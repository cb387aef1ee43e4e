/- FormSizes, walk. -/
import Derived.Test.YtfokplidiboabaaGreatQ25
set_option linter.unusedVariables false
set_option linter.unusedSimpArgs false
set_option maxRecDepth 100000
namespace Go.Proofs.YtfokplidiboabaaGreat
open Go.RowKit Go.Shelf
attribute [local go_sem ↓] Go.wp_at_zero Go.wp_at_succ

/-! ### sizes of a small problem's standard form -/
theorem sized_sgq (b : Rat) : Sized (sgq b) 1 := by unfold sgq; split <;> first | exact sized_m1 | exact sized_1
theorem baseB_small {w : World} {vC vR vL vH vO : Value} {P : PLp} (h : LpIn w vC vR vL vH vO 1 P) (hP : LpP P) (h5 : P.cost.length ≤ 5) : ∀ b ∈ baseB P, Sized b 100 := by
  intro b hb
  have hl := Rats.sized h.lo; have hh := Rats.sized h.hi
  unfold baseB at hb
  rcases List.mem_append.1 hb with hb | hb
  · obtain ⟨x, hx, rfl⟩ := List.mem_map.1 hb
    obtain ⟨r, he⟩ := h.rows.get hx
    have h1 := sized_dotL (Rats.sized he.coef) hl
    have h2 := he.rhs.sized
    have hlen := (hP.rows x hx).1
    refine (h2.sub h1).mono ?_
    have : x.coef.length * (1 + 1 + (1 + 1) + 1) ≤ 5 * 5 := Nat.mul_le_mul (by omega) (by omega)
    omega
  · obtain ⟨j, hj, rfl⟩ := List.mem_map.1 hb
    exact ((sized_getD hh).sub (sized_getD hl)).mono (by omega)
theorem std_small {w : World} {vC vR vL vH vO : Value} {P : PLp} (h : LpIn w vC vR vL vH vO 1 P) (hP : LpP P) (h5 : P.cost.length ≤ 5) : (∀ r ∈ stdA P, ∀ q ∈ r, Sized q 200) ∧ (∀ q ∈ stdB P, Sized q 200) ∧ (∀ q ∈ stdC P, Sized q 200) ∧ Sized (restV P) 100 := by
  refine ⟨fun r hr q hq => ?_, fun q hq => ?_, fun q hq => ?_, ?_⟩
  · obtain ⟨i, hi⟩ := List.mem_iff_getElem?.1 hr
    unfold stdA at hi
    rw [List.getElem?_zipWith] at hi
    cases e1 : (wideA P)[i]? with
    | none => rw [e1] at hi; cases hi
    | some a =>
      cases e2 : (baseB P)[i]? with
      | none => rw [e1, e2] at hi; cases hi
      | some b =>
        rw [e1, e2] at hi; injection hi with hi; subst hi
        unfold flipR at hq
        obtain ⟨y, hy, rfl⟩ := List.mem_map.1 hq
        exact ((wideA_sized h hP a (List.mem_of_getElem? e1) y hy).mul (sized_sgq b)).mono (by omega)
  · unfold stdB at hq
    obtain ⟨b, hb, rfl⟩ := List.mem_map.1 hq
    exact ((baseB_small h hP h5 b hb).mul (sized_sgq b)).mono (by omega)
  · unfold stdC at hq
    rcases List.mem_append.1 hq with hq | hq
    · exact (Rats.sized h.cost q hq).mono (by omega)
    · rw [(List.mem_replicate.1 hq).2]; exact sized_0.mono (by omega)
  · unfold restV
    refine (sized_dotL (Rats.sized h.cost) (Rats.sized h.lo)).mono ?_
    have : P.cost.length * (1 + 1 + (1 + 1) + 1) ≤ 5 * 5 := Nat.mul_le_mul (by omega) (by omega)
    omega
theorem std_lens {P : PLp} (hP : LpP P) : (stdA P).length ≤ 48 ∧ (∀ r ∈ stdA P, r.length ≤ 72) ∧ (stdB P).length ≤ 48 ∧ (stdC P).length ≤ 72 := by
  have h1 := extraL_len_le hP; have h2 := endsL_len_le hP; have h3 := hP.rl; have h4 := hP.n24
  refine ⟨by rw [stdA_len]; omega, fun r hr => by rw [stdA_rows hP r hr]; omega, by rw [stdB_len]; omega, by rw [stdC_len]; omega⟩
theorem std_in11 {w w' : World} {vC vR vL vH vO vA vB vC' vr : Value} {P : PLp} (h : LpIn w vC vR vL vH vO 1 P) (hP : LpP P) (h5 : P.cost.length ≤ 5) (hs : StdV w' P vA vB vC' vr) : StdIn w' vA vB vC' 200 (stdA P) (stdB P) (stdC P) true := by
  obtain ⟨a1, a2, a3, -⟩ := std_small h hP h5
  obtain ⟨b1, b2, b3, b4⟩ := std_lens hP
  exact std_ownk (by omega) hs.a hs.b hs.c a1 a2 a3 (by omega) (fun r hr => by have := b2 r hr; omega) (by omega) (by omega)
theorem std_ss11 {w w' : World} {vC vR vL vH vO vA vB vC' vr : Value} {P : PLp} (h : LpIn w vC vR vL vH vO 1 P) (hP : LpP P) (h5 : P.cost.length ≤ 5) (hs : StdV w' P vA vB vC' vr) : StdS w' vA vB vC' (stdA P) (stdB P) (stdC P) := by
  obtain ⟨a1, a2, a3, -⟩ := std_small h hP h5
  obtain ⟨b1, b2, b3, b4⟩ := std_lens hP
  exact ⟨hs.a, hs.b, hs.c, fun r hr q hq => (a1 r hr q hq).mono (by omega), fun q hq => (a2 q hq).mono (by omega), fun q hq => (a3 q hq).mono (by omega), by omega, fun r hr => by have := b2 r hr; omega, by omega, by omega⟩
theorem ends_take {os : List Bool} {j : Nat} {o : Bool} (h : os[j]? = some o) : (endsFrom (os.take (j+1)) 0).length = (endsFrom (os.take j) 0).length + (if o then 0 else 1) := by
  rw [List.take_add_one, h, Option.toList_some, endsFrom_append, List.length_append]
  cases o <;> rfl
theorem extra_take {rs : List PRow} {j : Nat} {r : PRow} (h : rs[j]? = some r) (hs : 0 ≤ r.sense ∧ r.sense ≤ 2) : (extraR (rs.take (j+1)) 0).length = (extraR (rs.take j) 0).length + (if r.sense = 1 then 0 else 1) := by
  rw [List.take_add_one, h, Option.toList_some, extraR_append, List.length_append]
  congr 1
  rw [extraR_cons]
  show (List.map _ (senX r.sense) ++ []).length = _
  rw [List.append_nil, List.length_map]
  rcases (by omega : r.sense = 0 ∨ r.sense = 1 ∨ r.sense = 2) with e | e | e <;> rw [e] <;> rfl

set_option maxHeartbeats 16000000 in
theorem formsizes_walk (w : World) (v : Value) (h : ArgLp w v) : Calls Tryz.prog 7 #[v] w (RetV w (.bool true)) := by
  obtain ⟨A1, n1, c1, A2, n2, c2, A3, n3, c3, A4, n4, c4, A5, n5, c5, cost, rows, lo, hi, opn, rfl, h1, h2, h3, h4, h5⟩ := h
  have H1 := hide h1; have H2 := hide h2; have H3 := hide h3; have H4 := hide h4; have H5 := hide h5
  clear h1 h2 h3 h4 h5
  obtain ⟨W0, hW0⟩ : ∃ W0, W0 = (w.alloc (Obj.cells #[Value.slice A1 n1 c1, Value.slice A2 n2 c2, Value.slice A3 n3 c3, Value.slice A4 n4 c4, Value.slice A5 n5 c5] 26)) := ⟨_, rfl⟩
  obtain ⟨hb0, r0, hsz0⟩ := boxes1 w [.slice A1 n1 c1, .slice A2 n2 c2, .slice A3 n3 c3, .slice A4 n4 c4, .slice A5 n5 c5] 26 hW0
  have B0 := hide hb0; have HW0 := hide hW0; have HSZ0 := hide hsz0
  have R0 := hide r0
  clear hb0 hW0 hsz0 r0
  go_enter Tryz.func7, Tryz.ntmps7
  go_upto_region 1 with fail
  rw [← HW0.out]
  go_wp2_with fail
  refine (awake11_calls _).mono ?_
  rintro e w1 ⟨rfl, b1⟩
  have HL1 := hide b1
  clear b1
  have r_d := R0.out.later HL1.out
  have d0 := r_d.cell (i := 0) rfl; have d1 := r_d.cell (i := 1) rfl; have d2 := r_d.cell (i := 2) rfl; have d3 := r_d.cell (i := 3) rfl; have d4 := r_d.cell (i := 4) rfl
  clear r_d
  go_wp2_with fail
  have hl1 := hide (B0.out.trans HL1.out)
  refine (fewlp_calls _ _ _ _ _ _ _ _ _ _ _ _ _ _ _ _ cost rows lo hi opn 5 (by omega) (H1.out.later EAny.later hl1.out) (H2.out.later EAnyRow.later hl1.out) (H3.out.later EAny.later hl1.out) (H4.out.later EAny.later hl1.out) (H5.out.later hl1.out)).mono ?_
  rintro e w2 ⟨t, rfl, hP, b2⟩
  have HL2 := hide (HL1.out.trans b2)
  clear b2 hl1 d0 d1 d2 d3 d4 H1 H2 H3 H4 H5
  have r_d := R0.out.later HL2.out
  have d0 := r_d.cell (i := 0) rfl; have d1 := r_d.cell (i := 1) rfl; have d2 := r_d.cell (i := 2) rfl; have d3 := r_d.cell (i := 3) rfl; have d4 := r_d.cell (i := 4) rfl
  clear r_d
  cases t with
  | false =>
    go_wp2_with fail
    go_ret
    exact ⟨rfl, B0.out.trans HL2.out⟩
  | true =>
    obtain ⟨P, hI, hc5, hlo5, hhi5, hr5, hrc5⟩ := hP rfl
    have HI := hide hI
    have L2 := hide hI.rows.len_; have L5 := hide hI.opn.len_; have L1 := hide hI.cost.len_
    obtain ⟨u, hu⟩ : ∃ u, lpB P = u := ⟨_, rfl⟩
    have HU := hide hu
    clear hP hI hu
    go_wp2_with fail
    refine (pstd_calls _ _ _ _ _ _ _ _ _ _ _ _ _ _ _ _ 1 P HI.out).mono ?_
    rintro e w3 ⟨vA, vB, vC, vr, rfl, hv, hn, b3⟩
    have HL3 := hide (HL2.out.trans b3)
    cases u with
    | false =>
      obtain ⟨rfl, rfl, rfl, o3⟩ := hn HU.out
      obtain ⟨s6, P6, q6, e6, P6', q6', e6', rfl, o6⟩ := o3.open_
      have hcode : (if lpB P then (0 : Int) else 1) = 1 := by rw [HU.out]; rfl
      rw [hcode]
      clear hv hn o3 o6 b3 hcode d0 d1 d2 d3 d4
      go_upto_region 6 with fail
      obtain ⟨wn, hwn⟩ : ∃ W, W = (w3.alloc (Obj.cells #[Value.slice none 0 0, Value.slice none 0 0, Value.slice none 0 0] 31)).alloc (Obj.cells #[Value.bool s6, Value.slice P6 q6 e6, Value.bool false, Value.slice P6' q6' e6'] 36) := ⟨_, rfl⟩
      obtain ⟨gs, hgs⟩ : ∃ g, g = w3.heap.size := ⟨_, rfl⟩
      have bn : Later w3 wn := by rw [hwn]; exact ((Later.refl _).alloc _).alloc _
      have rn : Row wn gs 31 [.slice none 0 0, .slice none 0 0, .slice none 0 0] := by rw [hwn, hgs]; exact (Row.new _ _ _).alloc _
      rw [← hwn, ← hgs]
      have f0 := rn.cell (i := 0) rfl; have f1 := rn.cell (i := 1) rfl; have f2 := rn.cell (i := 2) rfl
      clear hwn hgs rn
      go_wp2_with fail
      go_ret
      exact ⟨rfl, B0.out.trans (HL3.out.trans bn)⟩
    | true =>
      have hP := lpB_iff.1 HU.out
      have HP := hide hP
      have hv := hv HU.out
      obtain ⟨A6, n6, c6, rfl, hn6, -⟩ := hv.a.form
      obtain ⟨A7, n7, c7, rfl, hn7, -⟩ := hv.b.form
      obtain ⟨A8, n8, c8, rfl, hn8, -⟩ := hv.c.form
      obtain ⟨s6, P6, q6, e6, P6', q6', e6', rfl, o6⟩ := hv.r.open_
      have hcode : (if lpB P then (0 : Int) else 1) = 0 := by rw [HU.out]; rfl
      rw [hcode]
      have HN6 := hide hn6; have HN7 := hide hn7; have HN8 := hide hn8; have HV := hide hv
      have HI3 := hide (HI.out.later b3)
      clear hv hn o6 b3 hcode d0 d1 d2 d3 d4 hn6 hn7 hn8 hP
      go_upto_region 6 with fail
      obtain ⟨wn, hwn⟩ : ∃ W, W = (w3.alloc (Obj.cells #[Value.slice A6 n6 c6, Value.slice A7 n7 c7, Value.slice A8 n8 c8] 31)).alloc (Obj.cells #[Value.bool s6, Value.slice P6 q6 e6, Value.bool false, Value.slice P6' q6' e6'] 36) := ⟨_, rfl⟩
      obtain ⟨gs, hgs⟩ : ∃ g, g = w3.heap.size := ⟨_, rfl⟩
      have bn : Later w3 wn := by rw [hwn]; exact ((Later.refl _).alloc _).alloc _
      have rn : Row wn gs 31 [.slice A6 n6 c6, .slice A7 n7 c7, .slice A8 n8 c8] := by rw [hwn, hgs]; exact (Row.new _ _ _).alloc _
      rw [← hwn, ← hgs]
      have RN := hide rn
      clear hwn hgs rn
      have HLn := hide (HL3.out.trans bn); have HVn := hide (HV.out.later bn); have HIn := hide (HI3.out.later bn)
      clear bn HV HI3
      have RP := hide (R0.out.later HLn.out)
      have d0 := RP.out.cell (i := 0) rfl; have d1 := RP.out.cell (i := 1) rfl; have d4 := RP.out.cell (i := 4) rfl
      have f0 := RN.out.cell (i := 0) rfl; have f1 := RN.out.cell (i := 1) rfl; have f2 := RN.out.cell (i := 2) rfl
      have hn1 : n1 ≤ 24 := by have := L1.out; have := HP.out.n24; omega
      have hn2 : n2 ≤ 24 := by have := L2.out; have := HP.out.rl; omega
      have hn5 : n5 ≤ 24 := by have := L5.out; have := HP.out.n24; have := HP.out.opn; omega
      go_wp2_with fail
      go_loopw [6, 7] (fun ev i wr' => ∃ j : Nat, j ≤ n5 ∧ i = .int .i64 (j : Int) ∧ ∃ E : Nat, E = (endsFrom (P.opn.take j) 0).length ∧ E ≤ j ∧ ev = .int .i64 (E : Int) ∧ wr' = wn) (fun _ i _ => (n5 - intOf i).toNat)
      case atStart => exact ⟨0, by omega, rfl, 0, rfl, by omega, rfl, rfl⟩
      case round =>
        obtain ⟨j, hj, rfl, E, hE, hEj, rfl, rfl⟩ := hrel
        have HE := hide hE
        clear hE
        by_cases hjn : j < n5
        · obtain ⟨o, ho⟩ : ∃ o, P.opn[j]? = some o := ⟨P.opn[j]'(by have := L5.out; omega), List.getElem?_eq_getElem _⟩
          obtain ⟨b5, off5, rfl, z5⟩ := HIn.out.opn.at_ ho
          have HT := hide (ends_take ho)
          have hj0 : (0 : Int) ≤ (j : Int) := by omega
          have hj1 : (j : Int) < n5 := by omega
          clear ho
          cases o with
          | true =>
            go_wp2_with fail
            exact ⟨⟨j+1, by omega, by go_num, E, by rw [HT.out, ← HE.out]; rfl, by omega, rfl, trivial⟩, by simp [intOf]; omega⟩
          | false =>
            go_wp2_with fail
            exact ⟨⟨j+1, by omega, by go_num, E+1, by rw [HT.out, ← HE.out]; rfl, by omega, by go_num, trivial⟩, by simp [intOf]; omega⟩
        · have hj1 : ¬ (j : Int) < n5 := by omega
          have HEE : Hid (E = (endsL P).length) := hide (by rw [HE.out, List.take_of_length_le (by have := L5.out; omega)]; rfl)
          have hE24 : E ≤ 24 := by omega
          clear HE
          go_wp2_with fail
          go_loopw [8, 9] (fun sv i wr' => ∃ j : Nat, j ≤ n2 ∧ i = .int .i64 (j : Int) ∧ ∃ F : Nat, F = (extraR (P.rows.take j) 0).length ∧ F ≤ j ∧ sv = .int .i64 (F : Int) ∧ wr' = wr) (fun _ i _ => (n2 - intOf i).toNat)
          case atStart => exact ⟨0, by omega, rfl, 0, rfl, by omega, rfl, rfl⟩
          case round =>
            obtain ⟨i, hi, rfl, F, hF, hFj, rfl, rfl⟩ := hrel
            have HF := hide hF
            clear hF
            by_cases hin : i < n2
            · obtain ⟨x, hx⟩ : ∃ o, P.rows[i]? = some o := ⟨P.rows[i]'(by have := L2.out; omega), List.getElem?_eq_getElem _⟩
              obtain ⟨b2, off2, rfl, r, x0, x1, x2, x3, x4, x5, -⟩ := HIn.out.rows.at6 hx
              have HT := hide (extra_take hx (HP.out.rows x (List.mem_of_getElem? hx)).2.1)
              have hi0 : (0 : Int) ≤ (i : Int) := by omega
              have hi1 : (i : Int) < n2 := by omega
              clear hx x0 x2 x3 x4 x5
              by_cases hs : x.sense = 1
              · have ts : (x.sense != 1) = false := by rw [hs]; rfl
                have HT2 : Hid ((extraR (P.rows.take (i+1)) 0).length = F) := hide (by rw [HT.out, if_pos hs, ← HF.out]; rfl)
                clear hs
                go_wp2_with fail
                exact ⟨⟨i+1, by omega, by go_num, F, HT2.out.symm, by omega, rfl, trivial⟩, by simp [intOf]; omega⟩
              · have ts : (x.sense != 1) = true := by rw [bne_iff_ne]; exact hs
                have HT2 : Hid ((extraR (P.rows.take (i+1)) 0).length = F + 1) := hide (by rw [HT.out, if_neg hs, ← HF.out])
                clear hs
                go_wp2_with fail
                exact ⟨⟨i+1, by omega, by go_num, F+1, HT2.out.symm, by omega, by go_num, trivial⟩, by simp [intOf]; omega⟩
            · have hi1 : ¬ (i : Int) < n2 := by omega
              have HFF : Hid (F = (extraR P.rows 0).length) := hide (by rw [HF.out, List.take_of_length_le (by have := L2.out; omega)])
              have hF24 : F ≤ 24 := by omega
              have hA6 : n6 = n2 + E := by have h1 := HN6.out; rw [stdA_len] at h1; have := HEE.out; have := L2.out; omega
              have hA7 : n7 = n6 := by have h1 := HN7.out; rw [stdB_len] at h1; have h2 := HN6.out; rw [stdA_len] at h2; omega
              have hA8 : n8 = n1 + F + E := by
                have h1 := HN8.out; rw [stdC_len] at h1
                unfold extraL at h1; rw [List.length_append, extraE_len P.opn P.rows.length 0] at h1
                have := HEE.out; have := HFF.out; have := L1.out; unfold endsL at *; omega
              have e1 : ((n6 : Int) == (n2 : Int) + (E : Int)) = true := by rw [hA6]; simp
              have e2 : ((n7 : Int) == (n6 : Int)) = true := by rw [hA7]; simp
              have e3 : ((n8 : Int) == (n1 : Int) + (F : Int) + (E : Int)) = true := by rw [hA8]; simp
              have hw1 : IntKind.i64.wrap ((n2 : Int) + (E : Int)) = (n2 : Int) + (E : Int) := IntWalk.i64_in _ (by omega)
              have hw2 : IntKind.i64.wrap ((n1 : Int) + (F : Int)) = (n1 : Int) + (F : Int) := IntWalk.i64_in _ (by omega)
              have hw3 : IntKind.i64.wrap ((n1 : Int) + (F : Int) + (E : Int)) = (n1 : Int) + (F : Int) + (E : Int) := IntWalk.i64_in _ (by omega)
              clear HF hA6 hA7 hA8
              go_wp2_with fail
              refine (right_std (std_in11 HIn.out HP.out hc5 HVn.out)).mono ?_
              rintro e w9 ⟨rfl, b9⟩
              rw [std_right HP.out]
              have HL9 := hide (HLn.out.trans b9)
              clear b9
              go_wp2_with fail
              go_ret
              exact ⟨rfl, B0.out.trans HL9.out⟩
end Go.Proofs.YtfokplidiboabaaGreat
