import Derived.Test.YtkendajmnmchoaaGreatM19
import Derived.Test.YtkendajmnmchoaaGreatM16
import Derived.Test.YtkendajmnmchoaaGreatM17

/- LinSolves: the walk. -/
set_option linter.unusedVariables false
set_option linter.unusedSimpArgs false
set_option maxRecDepth 100000
namespace Go.Proofs.YtkendajmnmchoaaGreat
open Go.RowKit Go.Shelf
attribute [local go_sem ↓] Go.wp_at_zero Go.wp_at_succ

theorem rectT {t : List (List Rat)} {n : Nat} (h : rectB t n = true) : ∀ row ∈ t, row.length = n := by
  intro row hr
  unfold rectB at h
  rw [List.all_eq_true] at h
  simpa using h row hr
def SolvedX (t : List (List Rat)) (b : List Rat) (o : Bool) (x : List Rat) : Prop :=
  (o = false ∧ x = [] ∧ (¬ (b.length = t.length ∧ rectB t t.length = true) ∨ SingF t.length (ent t))) ∨
  (o = true ∧ b.length = t.length ∧ rectB t t.length = true ∧ x.length = t.length ∧ SolF t.length (ent t) (fun i => b.getD i 0) (fun i => x.getD i 0) ∧ ¬ SingF t.length (ent t))
/-- what Solve answers, whatever it is handed -/
def SolveAny (w : World) (t : List (List Rat)) (b : List Rat) (K : Nat) (e : Ending) (w' : World) : Prop :=
  ∃ v o x, e = .returned (.tuple #[v, .bool o]) ∧ Later w w' ∧ OutRats EOwn w' (fun k => w.heap.size ≤ k) w.heap.size v x ∧ (∀ q ∈ x, Sized q (K + 1)) ∧ x.length ≤ t.length ∧ SolvedX t b o x
theorem solved_same {t : List (List Rat)} {b x y : List Rat} {o p : Bool} (h : SolvedX t b o x) (k : SolvedX t b p y) : p = o ∧ y = x := by
  rcases h with ⟨rfl, rfl, h⟩ | ⟨rfl, h1, h2, h3, h4, h5⟩
  · rcases k with ⟨rfl, rfl, -⟩ | ⟨rfl, k1, k2, k3, k4, k5⟩
    · exact ⟨rfl, rfl⟩
    · rcases h with h | h
      · exact absurd ⟨k1, k2⟩ h
      · exact absurd h k5
  · rcases k with ⟨rfl, rfl, k⟩ | ⟨rfl, k1, k2, k3, k4, k5⟩
    · rcases k with k | k
      · exact absurd ⟨h1, h2⟩ k
      · exact absurd k h5
    · exact ⟨rfl, list_eq_of_getD k3 h3 fun j hj => sol_unique h5 k4 h4 hj⟩
theorem dotL_sum : ∀ (a b : List Rat) (n : Nat), a.length = n → b.length = n → dotL a b = sumTo n (fun k => a.getD k 0 * b.getD k 0) := by
  intro a
  induction a with
  | nil => intro b n ha hb; subst ha; rfl
  | cons x a ih =>
    intro b n ha hb
    cases b with
    | nil => simp at ha hb; omega
    | cons y b =>
      obtain ⟨m, rfl⟩ : ∃ m, n = m + 1 := ⟨a.length, by simpa using ha.symm⟩
      have h := ih b m (by simpa using ha) (by simpa using hb)
      rw [sumTo_front]
      unfold dotL at h ⊢
      rw [List.zipWith_cons_cons, sumR_cons, h]
      rfl
theorem cmpQ_same (a : Rat) : cmpQ a a = 0 := by unfold cmpQ; simp
theorem qcmp_eq0 (w : World) (va vb : Value) (a : Rat) (k m : Nat) (ha : RawR w va a k) (hb : RawR w vb a m) (hkm : k + m ≤ 80000000) :
    Calls Tryz.prog 17 #[va, vb] w (RetV w (.int .i64 0)) := by
  have h := qcmp_calls w va vb a a k m ha hb hkm
  rwa [cmpQ_same] at h

set_option maxHeartbeats 4000000 in
theorem solve_bad (w : World) (va vb : Value) (t : List (List Rat)) (b : List Rat) (k : Nat) (ha : Tab (ERaw k) w va t) (hb : Rats (ERaw k) w vb b) (hl : t.length ≤ 1000000) (hl2 : ∀ row ∈ t, row.length ≤ 1000000) (hbad : ¬ (b.length = t.length ∧ rectB t t.length = true)) :
    Calls Tryz.prog 13 #[va, vb] w (Ret2 w fun w' v' o => v' = .slice none 0 0 ∧ o = .bool false) := by
  have H := hide ha; have HL2 := hide hl2
  obtain ⟨A0, nt, ct, rfl, hnt, -, -, -⟩ := ha.form
  obtain ⟨B0, nb, cb, rfl, hnb, -⟩ := hb.form
  have HNT := hide hnt
  by_cases h1 : nb = nt
  · have hu : rectB t nt = false := by
      rw [Bool.eq_false_iff]; intro e; exact hbad ⟨by omega, by rw [← hnt]; exact e⟩
    have t1 : ((nb : Int) != (nt : Int)) = false := by simp; omega
    have HU := hide hu
    clear ha hb hl2 hbad hnt hnb h1 hu
    go_enter Tryz.func13, Tryz.ntmps13
    go_wp2_with fail
    refine (rect_calls w _ t (ERaw k) ERaw.later H.out nt (by omega) (fun row hr => by have := HL2.out row hr; omega) false HU.out).mono ?_
    rintro e w1 ⟨rfl, b1⟩
    go_wp2_with fail
    go_ret2
    exact ⟨_, _, rfl, ⟨rfl, rfl⟩, b1⟩
  · have t1 : ((nb : Int) != (nt : Int)) = true := by rw [bne_iff_ne]; omega
    clear ha hb hl2 hbad hnt hnb h1
    go_enter Tryz.func13, Tryz.ntmps13
    go_wp2_with fail
    go_ret2
    exact ⟨_, _, rfl, ⟨rfl, rfl⟩, Later.refl w⟩
theorem solve_any (w : World) (va vb : Value) (t : List (List Rat)) (b : List Rat) (k : Nat) (ha : Tab (ERaw k) w va t) (hb : Rats (ERaw k) w vb b) (hl : t.length ≤ 100000) (hl2 : ∀ row ∈ t, row.length ≤ 1000000) (hk : grow k t.length ≤ 10000000) :
    Calls Tryz.prog 13 #[va, vb] w (SolveAny w t b (grow k t.length)) := by
  by_cases hsq : b.length = t.length ∧ rectB t t.length = true
  · refine (solve_calls w va vb t b k t.length ha hb rfl hsq.1 (rectT hsq.2) hl hk).mono ?_
    rintro e w' ⟨v, o, rfl, b3, (⟨rfl, rfl, hs⟩ | ⟨rfl, x, hxl, hx, hxs, hsol, hns⟩)⟩
    · exact ⟨_, _, [], rfl, b3, OutRats.nil _ _ _ _, by simp, by simp, .inl ⟨rfl, rfl, .inr hs⟩⟩
    · exact ⟨_, _, x, rfl, b3, hx, hxs, by omega, .inr ⟨rfl, hsq.1, hsq.2, hxl, hsol, hns⟩⟩
  · refine (solve_bad w va vb t b k ha hb (by omega) hl2 hsq).mono ?_
    rintro e w' ⟨v, o, rfl, ⟨rfl, rfl⟩, b3⟩
    exact ⟨_, _, [], rfl, b3, OutRats.nil _ _ _ _, by simp, by simp, .inl ⟨rfl, rfl, .inl hsq⟩⟩

set_option maxHeartbeats 4000000 in
theorem qsolve_bad (w : World) (va vb : Value) (t : List (List Rat)) (b : List Rat) (k : Nat) (ha : Tab (ERaw k) w va t) (hb : Rats (ERaw k) w vb b) (hl : t.length ≤ 1000000) (hl2 : ∀ row ∈ t, row.length ≤ 1000000) (hbad : ¬ (b.length = t.length ∧ rectB t t.length = true)) :
    Calls Tryz.prog 14 #[va, vb] w (Ret2 w fun w' v' o => v' = .slice none 0 0 ∧ o = .bool false) := by
  have H := hide ha; have HL2 := hide hl2
  obtain ⟨A0, nt, ct, rfl, hnt, -, -, -⟩ := ha.form
  obtain ⟨B0, nb, cb, rfl, hnb, -⟩ := hb.form
  have HNT := hide hnt
  by_cases h1 : nb = nt
  · have hu : rectB t nt = false := by
      rw [Bool.eq_false_iff]; intro e; exact hbad ⟨by omega, by rw [← hnt]; exact e⟩
    have t1 : ((nb : Int) != (nt : Int)) = false := by simp; omega
    have HU := hide hu
    clear ha hb hl2 hbad hnt hnb h1 hu
    go_enter Tryz.func14, Tryz.ntmps14
    go_wp2_with fail
    refine (qrect_calls w _ t (ERaw k) H.out nt (by omega) false HU.out).mono ?_
    rintro e w1 ⟨rfl, b1⟩
    go_wp2_with fail
    go_ret2
    exact ⟨_, _, rfl, ⟨rfl, rfl⟩, b1⟩
  · have t1 : ((nb : Int) != (nt : Int)) = true := by rw [bne_iff_ne]; omega
    clear ha hb hl2 hbad hnt hnb h1
    go_enter Tryz.func14, Tryz.ntmps14
    go_wp2_with fail
    go_ret2
    exact ⟨_, _, rfl, ⟨rfl, rfl⟩, Later.refl w⟩
theorem qsolve_any (w : World) (va vb : Value) (t : List (List Rat)) (b : List Rat) (k : Nat) (ha : Tab (ERaw k) w va t) (hb : Rats (ERaw k) w vb b) (hl : t.length ≤ 100000) (hl2 : ∀ row ∈ t, row.length ≤ 1000000) (hk : grow k t.length ≤ 10000000) :
    Calls Tryz.prog 14 #[va, vb] w (SolveAny w t b (grow k t.length)) := by
  by_cases hsq : b.length = t.length ∧ rectB t t.length = true
  · refine (qsolve_calls w va vb t b k t.length ha hb rfl hsq.1 (rectT hsq.2) hl hk).mono ?_
    rintro e w' ⟨v, o, rfl, b3, (⟨rfl, rfl, hs⟩ | ⟨rfl, x, hxl, hx, hxs, hsol, hns⟩)⟩
    · exact ⟨_, _, [], rfl, b3, OutRats.nil _ _ _ _, by simp, by simp, .inl ⟨rfl, rfl, .inr hs⟩⟩
    · exact ⟨_, _, x, rfl, b3, hx, hxs, by omega, .inr ⟨rfl, hsq.1, hsq.2, hxl, hsol, hns⟩⟩
  · refine (qsolve_bad w va vb t b k ha hb (by omega) hl2 hsq).mono ?_
    rintro e w' ⟨v, o, rfl, ⟨rfl, rfl⟩, b3⟩
    exact ⟨_, _, [], rfl, b3, OutRats.nil _ _ _ _, by simp, by simp, .inl ⟨rfl, rfl, .inl hsq⟩⟩

set_option maxHeartbeats 16000000 in
theorem linsolves_walk (w : World) (va vb : Value) (t : List (List Rat)) (b : List Rat) (ha : Tab EAny w va t) (hb : Rats EAny w vb b) : Calls Tryz.prog 4 #[va, vb] w (RetV w (.bool true)) := by
  have HA := hide ha; have HB := hide hb
  obtain ⟨A0, nt, ca, rfl, hnt, -⟩ := ha.form
  obtain ⟨B0, nb, cb, rfl, hnb, -⟩ := hb.form
  have HNB := hide hnb; have HNT := hide hnt
  clear ha hb hnb hnt
  go_enter Tryz.func4, Tryz.ntmps4
  go_wp2_with fail
  refine (awake_calls _).mono ?_
  rintro e w1 ⟨rfl, b1⟩
  have HL1 := hide b1
  clear b1
  go_wp2_with fail
  refine (fewrows_calls w1 _ t 4 (HA.out.later EAny.later HL1.out) (by omega)).mono ?_
  rintro e w2 ⟨u, rfl, hf, hw⟩
  subst hw
  cases u with
  | false =>
    go_wp2_with fail
    go_ret
    exact ⟨rfl, HL1.out⟩
  | true =>
  have HFT := hide (hf rfl)
  clear hf
  go_wp2_with fail
  refine (few_calls w1 _ b 4 (HB.out.later EAny.later HL1.out) (by omega)).mono ?_
  rintro e w2 ⟨u, rfl, hf, hw⟩
  subst hw
  cases u with
  | false =>
    go_wp2_with fail
    go_ret
    exact ⟨rfl, HL1.out⟩
  | true =>
  have HFB := hide (hf rfl)
  have htl : t.length ≤ 4 := HFT.out.1
  have hnt4 : nt ≤ 4 := by rw [HNT.out]; exact htl
  have HG : Hid (grow 1 t.length ≤ 100000) := hide (Nat.le_trans (grow_mono htl) (by decide))
  have HTW : Hid (∀ W, Later w1 W → Tab (ERaw 1) W (.slice A0 nt ca) t) := hide fun W hW => HFT.out.2.2.later ERaw.later hW
  have HBW : Hid (∀ W, Later w1 W → Rats (ERaw 1) W (.slice B0 nb cb) b) := hide fun W hW => HFB.out.2.later ERaw.later hW
  clear hf
  go_wp2_with fail
  refine (solve_any w1 _ _ t b 1 (HTW.out _ (Later.refl _)) (HBW.out _ (Later.refl _)) (by omega) (fun row hr => by have := HFT.out.2.1 row hr; omega) (by have := HG.out; omega)).mono ?_
  rintro e w2 ⟨v2, o2, x, rfl, b2, hx, hxs, hxl, hX⟩
  have HX := hide hx; have HXS := hide hxs; have HXX := hide hX; have HB2 := hide b2; have HXL := hide hxl
  obtain ⟨A2, n2, c2, rfl, -⟩ := hx.rats.now.form
  clear hx hxs hX b2 hxl
  go_wp2_with fail
  refine (qsolve_any w2 _ _ t b 1 (HTW.out _ HB2.out) (HBW.out _ HB2.out) (by omega) (fun row hr => by have := HFT.out.2.1 row hr; omega) (by have := HG.out; omega)).mono ?_
  rintro e w3 ⟨v3, o3, y, rfl, b3, hy, -, -, hY⟩
  obtain ⟨e1, e2⟩ := solved_same HXX.out hY
  subst e1
  subst e2
  have HY := hide hy; have HB3 := hide b3
  clear hy hY b3
  go_wp2_with fail
  refine (lsame_calls w3 _ _ y y (grow 1 t.length + 1) (grow 1 t.length + 1) (HX.out.rats.now.later EOwn.later HB3.out) HY.out.rats.now HXS.out HXS.out (by have := HG.out; omega) (by have := HG.out; omega) (by have := HXL.out; omega) true (by simp)).mono ?_
  rintro e w4 ⟨rfl, b4⟩
  have HB24 := hide (HB3.out.trans b4)
  clear b4
  cases o3 with
  | false =>
    go_wp2_with fail
    go_loopw [9] (fun iv wr => iv = .int .i64 0 ∧ Later w2 wr) (fun _ _ => 0)
    case atStart => exact ⟨rfl, HB24.out⟩
    case round =>
      obtain ⟨rfl, hL⟩ := hrel
      have HLR := hide hL
      clear hL
      by_cases h0 : 0 < nt
      · go_wp2_with fail
        go_ret
        exact ⟨rfl, (HL1.out.trans HB2.out).trans HLR.out⟩
      · go_wp2_with fail
        go_ret
        exact ⟨rfl, (HL1.out.trans HB2.out).trans HLR.out⟩
  | true =>
    obtain ⟨hbl, hrb, hyl, hsol, -⟩ : b.length = t.length ∧ rectB t t.length = true ∧ y.length = t.length ∧ SolF t.length (ent t) (fun i => b.getD i 0) (fun i => y.getD i 0) ∧ True := by
      rcases HXX.out with ⟨h, -⟩ | ⟨-, h1, h2, h3, h4, -⟩
      · cases h
      · exact ⟨h1, h2, h3, h4, trivial⟩
    have HRT := hide (rectT hrb); have HYL := hide hyl; have HSOL := hide hsol; have HBL := hide hbl
    have HYR : Hid (Rats (ERaw (grow 1 t.length + 1)) w2 (.slice A2 n2 c2) y) := hide (HX.out.rats.now.map fun v q hq he => OwnR.raw (B := 0) he (HXS.out q hq))
    have hnbt : nb = nt := by rw [HNB.out, HNT.out]; exact hbl
    clear hbl hrb hyl hsol
    go_wp2_with fail
    go_loopw [9] (fun iv wr => ∃ i : Nat, i ≤ nt ∧ iv = .int .i64 (i : Int) ∧ Later w2 wr) (fun iv _ => (nt - intOf iv).toNat)
    case atStart => exact ⟨0, by omega, rfl, HB24.out⟩
    case round =>
      obtain ⟨i, hi, rfl, hL⟩ := hrel
      have HLR := hide hL
      by_cases hin : i < nt
      · obtain ⟨row, hrow⟩ : ∃ row, t[i]? = some row := ⟨t[i]'(by have := HNT.out; omega), List.getElem?_eq_getElem _⟩
        obtain ⟨z, hz⟩ : ∃ z, b[i]? = some z := ⟨b[i]'(by have := HNT.out; have := HBL.out; omega), List.getElem?_eq_getElem _⟩
        have hlw := HB2.out.trans hL
        obtain ⟨bt, ot, R1, rn, rc, rfl, x1, ex⟩ := (HTW.out wr hlw).at_ hrow
        obtain ⟨b2, off2, sx, A1, n1, c1, sx', A2', n2', c2', rfl, y1, y2, y3, y4, ey⟩ := (HBW.out wr hlw).at_ hz
        have hrl := HRT.out row (List.mem_of_getElem? hrow)
        have hdot : dotL row y = z := by
          rw [dotL_sum row y t.length hrl HYL.out]
          have h1 := HSOL.out i (by rw [← HNT.out]; exact hin)
          rw [show (fun i => b.getD i 0) i = z from getD_of hz] at h1
          rw [← h1]
          refine sumTo_congr fun k hk => ?_
          unfold ent
          rw [getD_of hrow]
        have HDOT := hide hdot; have HEX := hide ex; have HRL := hide hrl
        have HEY := hide (show RawR wr (.agg #[.bool sx, .slice A1 n1 c1, .bool sx', .slice A2' n2' c2']) z 1 from ey)
        have hi0 : (0 : Int) ≤ (i : Int) := by omega
        have hi1 : (i : Int) < (nt : Int) := by omega
        have hi2 : (i : Int) < (nb : Int) := by omega
        clear hrow hz hlw ex ey hrl hdot hL
        go_wp2_with fail
        refine (dot_calls wr _ _ row y 1 (grow 1 t.length + 1) HEX.out (HYR.out.later ERaw.later HLR.out) (by rw [HRL.out, HYL.out]) (by
          rw [HRL.out]
          have hg := HG.out
          calc (t.length + 1) * (1 + (grow 1 t.length + 1) + 4) ≤ 5 * (1 + (grow 1 t.length + 1) + 4) := Nat.mul_le_mul_right _ (by omega)
            _ ≤ 50000000 := by omega)).mono ?_
        rintro e w5 ⟨v5, o5, rfl, ⟨o4, rfl⟩, b5⟩
        rw [HDOT.out] at o4
        obtain ⟨s4, P4, q4, e4, P4', q4', e4', rfl, o4⟩ := o4.open_; have O4 := hide o4; clear o4
        go_upto_region 13 with fail
        obtain ⟨wa, hwa⟩ : ∃ wa, wa = w5.alloc (Obj.cells #[Value.bool s4, Value.slice P4 q4 e4, Value.bool false, Value.slice P4' q4' e4'] 32) := ⟨_, rfl⟩
        have hra : Row wa.drew w5.heap.size 32 [.bool s4, .slice P4 q4 e4, .bool false, .slice P4' q4' e4'] := by rw [hwa]; exact (Row.new w5 _ _).drew
        have hla : Later wr wa.drew := by rw [hwa]; exact (b5.alloc _).drew
        have hoa : OwnR wa.drew 0 (.agg #[.bool s4, .slice P4 q4 e4, .bool false, .slice P4' q4' e4']) z := by rw [hwa]; exact OwnR.weaken (OwnR.later O4.out ((Later.refl _).alloc _).drew) (Nat.zero_le _)
        rw [← hwa]
        obtain ⟨g4, hg4⟩ : ∃ g4, g4 = w5.heap.size := ⟨_, rfl⟩
        rw [← hg4] at hra ⊢
        have HOA : Hid (RawR wa.drew (.agg #[.bool s4, .slice P4 q4 e4, .bool false, .slice P4' q4' e4']) z 2) := hide (OwnR.raw hoa HEY.out.sized)
        have HEA := hide (HEY.out.later hla)
        have HLA := hide (HLR.out.trans hla)
        have HT1 : Hid (∀ w', Later wa.drew w' → w'.cell? ⟨g4, 0, none⟩ = some (.bool s4) ∧ w'.cell? ⟨g4, 1, none⟩ = some (.slice P4 q4 e4) ∧ w'.cell? ⟨g4, 2, none⟩ = some (.bool false) ∧ w'.cell? ⟨g4, 3, none⟩ = some (.slice P4' q4' e4') ∧ w'.cell? ⟨b2, off2 + i * 4, none⟩ = some (.bool sx) ∧ w'.cell? ⟨b2, off2 + i * 4 + 1, none⟩ = some (.slice A1 n1 c1) ∧ w'.cell? ⟨b2, off2 + i * 4 + 2, none⟩ = some (.bool sx') ∧ w'.cell? ⟨b2, off2 + i * 4 + 3, none⟩ = some (.slice A2' n2' c2')) := hide fun w' hb => ⟨(hra.later hb).cell rfl, (hra.later hb).cell rfl, (hra.later hb).cell rfl, (hra.later hb).cell rfl, Later.cell (hla.trans hb) y1, Later.cell (hla.trans hb) y2, Later.cell (hla.trans hb) y3, Later.cell (hla.trans hb) y4⟩
        clear hwa hra hla hoa hg4 x1 y1 y2 y3 y4 b5 O4
        go_region_held3 (fun w' => w'.cell? ⟨g4, 0, none⟩ = some (.bool s4) ∧ w'.cell? ⟨g4, 1, none⟩ = some (.slice P4 q4 e4) ∧ w'.cell? ⟨g4, 2, none⟩ = some (.bool false) ∧ w'.cell? ⟨g4, 3, none⟩ = some (.slice P4' q4' e4') ∧ w'.cell? ⟨b2, off2 + i * 4, none⟩ = some (.bool sx) ∧ w'.cell? ⟨b2, off2 + i * 4 + 1, none⟩ = some (.slice A1 n1 c1) ∧ w'.cell? ⟨b2, off2 + i * 4 + 2, none⟩ = some (.bool sx') ∧ w'.cell? ⟨b2, off2 + i * 4 + 3, none⟩ = some (.slice A2' n2' c2'))
          (first | exact HT1.out _ (Later.refl _) | exact HT1.out _ b6)
          (first
            | ((with_reducible refine (qcmp_eq0 _ _ _ z 2 1 HOA.out HEA.out (by omega)).mono ?_); rintro e w6 ⟨rfl, b6⟩))
        all_goals
          have hL6 := HLA.out.trans b6
          go_wp2_with fail
          exact ⟨⟨i+1, by omega, by go_num, hL6⟩, by simp [intOf]; omega⟩
      · obtain rfl : nt = i := by omega
        go_wp2_with fail
        go_ret
        exact ⟨rfl, (HL1.out.trans HB2.out).trans HLR.out⟩
end Go.Proofs.YtkendajmnmchoaaGreat
