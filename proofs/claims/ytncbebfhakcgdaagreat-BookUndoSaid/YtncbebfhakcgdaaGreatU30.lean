/- BookUndo: the walk. -/
import Derived.Test.YtncbebfhakcgdaaGreatU29
import Derived.Test.YtncbebfhakcgdaaGreatU7
import Derived.Test.YtncbebfhakcgdaaGreatU16
import Derived.Test.YtncbebfhakcgdaaGreatU17
import Derived.Test.YtncbebfhakcgdaaGreatU19
set_option linter.unusedVariables false
set_option linter.unusedSimpArgs false
set_option maxRecDepth 100000
namespace Go.Proofs.YtncbebfhakcgdaaGreat
open Go.RowKit Go.Shelf
attribute [local go_sem ↓] Go.wp_at_zero Go.wp_at_succ
def ArgOrd (v : Value) : Prop := ∃ o : POrd, v = .agg #[.int .i64 o.id, .int .i64 o.item, .int .i64 o.due, .int .i64 o.qty] /\ o.fit
def ArgPair (v : Value) : Prop := ∃ p q : Int, v = .agg #[.int .i64 p, .int .i64 q] /\ IFit p /\ IFit q
def CauU (w : World) (r : Except Int PBook) (e : Ending) (w' : World) : Prop := ∃ B1 B2 B3 B4 m1 m2 m3 m4 d1 d2 d3 d4 h n code, e = .returned (.tuple #[.agg #[.slice B1 m1 d1, .int .i64 h, .int .i64 n, .slice B2 m2 d2, .slice B3 m3 d3, .slice B4 m4 d4], .int .i64 code]) /\ Later w w' /\
 ((code ≠ 0 /\ ∃ c, r = .error c) ∨ (code = 0 /\ ∃ D', r = .ok D' /\ MayP D' /\ h = D'.hor /\ n = D'.now /\ BkN w.heap.size w' (.slice B1 m1 d1) (.slice B2 m2 d2) (.slice B3 m3 d3) (.slice B4 m4 d4) D'))
theorem cauU {w w' : World} {D : PBook} {o : POp} {e : Ending} (h : CauP w (applyV D o) e w') : CauU w (applyV D o) e w' := by
 obtain ⟨h1, h2⟩ := h
 cases hr : applyV D o with
 | error c =>
   rw [hr] at h2
   exact ⟨none, none, none, none, 0, 0, 0, 0, 0, 0, 0, 0, 0, 0, c, h2, h1, .inl ⟨apply_err hr, c, rfl⟩⟩
 | ok D' =>
   rw [hr] at h2
   obtain ⟨hm, A1, A2, A3, A4, n1, n2, n3, n4, c1, c2, c3, c4, e1, hk⟩ := h2
   exact ⟨A1, A2, A3, A4, n1, n2, n3, n4, c1, c2, c3, c4, D'.hor, D'.now, 0, e1, h1, .inr ⟨rfl, D', rfl, hm, rfl, rfl, hk⟩⟩
set_option maxHeartbeats 2000000 in
theorem bookundo_walk (w : World) (v vo vp : Value) (h0 : ArgBook w v) (h1 : ArgOrd vo) (h2 : ArgPair vp) :
 Calls Tryz.prog 6 #[v, vo, vp] w (RetV w (.bool true)) := by
 obtain ⟨A1, A2, A3, A4, n1, n2, n3, n4, c1, c2, c3, c4, hor, now, caps, ords, mks, rfl, hi, hcp, hor', hmk, hft⟩ := h0
 obtain ⟨o, rfl, hof⟩ := h1
 obtain ⟨p, q, rfl, hpf, hqf⟩ := h2
 have HI := hide hi; have HCP := hide hcp; have HOR := hide hor'; have HMK := hide hmk; have HFT := hide hft; have HOF := hide hof
 clear hi hcp hor' hmk hft hof hpf hqf
 obtain ⟨W0, hW0⟩ : ∃ W0, W0 = (((w.alloc (Obj.cells #[Value.slice A1 n1 c1, Value.int .i64 hor, Value.int .i64 now, Value.slice A2 n2 c2, Value.slice A3 n3 c3, Value.slice A4 n4 c4] 27)).alloc (Obj.cells #[Value.int .i64 o.id, Value.int .i64 o.item, Value.int .i64 o.due, Value.int .i64 o.qty] 29)).alloc (Obj.cells #[Value.int .i64 p, Value.int .i64 q] 58)) := ⟨_, rfl⟩
 obtain ⟨hb0, r0, r1, r2, hsz0⟩ := boxes3 w [.slice A1 n1 c1, .int .i64 hor, .int .i64 now, .slice A2 n2 c2, .slice A3 n3 c3, .slice A4 n4 c4] [.int .i64 o.id, .int .i64 o.item, .int .i64 o.due, .int .i64 o.qty] [.int .i64 p, .int .i64 q] 27 29 58 hW0
 have B0 := hide hb0; have HW0 := hide hW0; have HSZ0 := hide hsz0
 have R0 := hide r0; have R1 := hide r1; have R2 := hide r2
 clear hb0 hW0 hsz0 r0 r1 r2
 go_enter Tryz.func6, Tryz.ntmps6
 go_upto_region 1 with fail
 rw [<- HW0.out]
 go_wp2_with fail
 ((with_reducible refine (awake20_calls W0).mono ?_); rintro e w1 ⟨rfl, b1⟩)
 have HL1 := hide b1
 clear b1
 have r_d := R0.out.later HL1.out
 have d0 := r_d.cell (i := 0) rfl; have d1 := r_d.cell (i := 1) rfl; have d2 := r_d.cell (i := 2) rfl; have d3 := r_d.cell (i := 3) rfl; have d4 := r_d.cell (i := 4) rfl; have d5 := r_d.cell (i := 5) rfl
 clear r_d
 go_wp2_with fail
 ((with_reducible refine (few17_calls w1 _ _ _ _ _ _ _ _ _ _ _ _ hor now caps ords mks (HI.out.later (B0.out.trans HL1.out)) (HCP.out.later (B0.out.trans HL1.out)) (HOR.out.later (B0.out.trans HL1.out)) (HMK.out.later (B0.out.trans HL1.out)) HFT.out.1 HFT.out.2.1 HFT.out.2.2.1 HFT.out.2.2.2.1 HFT.out.2.2.2.2).mono ?_); rintro e w2 ⟨uf, rfl, b2, hf⟩)
 have HF := hide hf; have HL2 := hide (HL1.out.trans b2)
 have HLB := hide b2
 clear b2 hf d0 d1 d2 d3 d4 d5
 have r_d := R0.out.later HL2.out
 have d0 := r_d.cell (i := 0) rfl; have d1 := r_d.cell (i := 1) rfl; have d2 := r_d.cell (i := 2) rfl; have d3 := r_d.cell (i := 3) rfl; have d4 := r_d.cell (i := 4) rfl; have d5 := r_d.cell (i := 5) rfl
 clear r_d
 cases uf with
 | false =>
   go_wp2_with fail
   go_ret
   exact ⟨rfl, B0.out.trans HL2.out⟩
 | true =>
 obtain ⟨D, rfl, rfl, rfl, rfl, rfl, hbk⟩ := HF.out (by first | rfl | trivial)
 have H := hide (hbk.later HLB.out)
 have HR02 := hide (R0.out.later HL2.out); have HR12 := hide (R1.out.later HL2.out); have HR22 := hide (R2.out.later HL2.out)
 clear hbk HF HI HCP HOR HMK HFT HLB R0 R1 R2
 obtain ⟨um, hum⟩ : ∃ u, mayB D = u := ⟨_, rfl⟩
 have HUM := hide hum
 clear hum
 go_wp2_with fail
 ((with_reducible refine (rmay_calls w2 _ _ _ _ _ _ _ _ _ _ _ _ D H.out um HUM.out).mono ?_); rintro e w3 ⟨rfl, b3⟩)
 have HL3 := hide b3
 clear b3 d0 d1 d2 d3 d4 d5
 cases um with
 | false =>
   go_wp2_with fail
   go_ret
   exact ⟨rfl, (B0.out.trans HL2.out).trans HL3.out⟩
 | true =>
 have HMAY := hide (mayB_iff.1 HUM.out)
 have HC5 : Hid (∀ W, Later w2 W -> Calls Tryz.prog 12 #[.agg #[.slice A1 n1 c1, .int .i64 D.hor, .int .i64 D.now, .slice A2 n2 c2, .slice A3 n3 c3, .slice A4 n4 c4], .agg #[.int .i64 1, .int .i64 o.id, .int .i64 o.item, .int .i64 o.due, .int .i64 o.qty, .int .i64 0, .int .i64 0, .int .i64 0, .slice none 0 0]] W (CauU W (applyV D (mkOrd o)))) := hide (fun W hW =>
  (apply_calls W A1 A2 A3 A4 none n1 n2 n3 n4 0 c1 c2 c3 c4 0 D (mkOrd o) (H.out.later hW) HOF.out (Sq.nil _ _ _) (by simp [mkOrd])).mono fun e w' h => cauU h)
 have HC10 : Hid (∀ W, Later w2 W -> Calls Tryz.prog 12 #[.agg #[.slice A1 n1 c1, .int .i64 D.hor, .int .i64 D.now, .slice A2 n2 c2, .slice A3 n3 c3, .slice A4 n4 c4], .agg #[.int .i64 3, .int .i64 0, .int .i64 0, .int .i64 0, .int .i64 0, .int .i64 0, .int .i64 p, .int .i64 q, .slice none 0 0]] W (CauU W (applyV D (mkCap p q)))) := hide (fun W hW =>
  (apply_calls W A1 A2 A3 A4 none n1 n2 n3 n4 0 c1 c2 c3 c4 0 D (mkCap p q) (H.out.later hW) fit0 (Sq.nil _ _ _) (by simp [mkCap])).mono fun e w' h => cauU h)
 have x0 := (HR02.out.later HL3.out).cell (i := 0) rfl; have x1 := (HR02.out.later HL3.out).cell (i := 1) rfl; have x2 := (HR02.out.later HL3.out).cell (i := 2) rfl; have x3 := (HR02.out.later HL3.out).cell (i := 3) rfl; have x4 := (HR02.out.later HL3.out).cell (i := 4) rfl; have x5 := (HR02.out.later HL3.out).cell (i := 5) rfl
 have y0 := (HR12.out.later HL3.out).cell (i := 0) rfl; have y1 := (HR12.out.later HL3.out).cell (i := 1) rfl; have y2 := (HR12.out.later HL3.out).cell (i := 2) rfl; have y3 := (HR12.out.later HL3.out).cell (i := 3) rfl
 go_upto_region 6 with (go_at_call 12; (refine (HC5.out _ HL3.out).mono ?_); rintro e a5 h1; obtain ⟨B1c, B2c, B3c, B4c, m1c, m2c, m3c, m4c, d1c, d2c, d3c, d4c, hc, nc, codec, rfl, b5, horc⟩ := h1; have HOc := hide horc; clear horc)
 obtain ⟨W5, hW5⟩ : ∃ W5, W5 = a5.alloc (Obj.cells #[Value.slice B1c m1c d1c, Value.int .i64 hc, Value.int .i64 nc, Value.slice B2c m2c d2c, Value.slice B3c m3c d3c, Value.slice B4c m4c d4c] 27) := ⟨_, rfl⟩
 obtain ⟨g7, hg7⟩ : ∃ g7, g7 = a5.heap.size := ⟨_, rfl⟩
 have bW5 : Later a5 W5 := by rw [hW5]; exact (Later.refl _).alloc _
 have rg7 : Row W5 g7 27 [.slice B1c m1c d1c, .int .i64 hc, .int .i64 nc, .slice B2c m2c d2c, .slice B3c m3c d3c, .slice B4c m4c d4c] := by rw [hW5, hg7]; exact Row.new _ _ _
 rw [<- hW5, <- hg7]
 have HL5 := hide (HL3.out.trans (b5.trans bW5)); have HRC := hide rg7
 have HKC : Hid ((codec ≠ 0 /\ ∃ c, applyV D (mkOrd o) = .error c) ∨ (codec = 0 /\ ∃ C, applyV D (mkOrd o) = .ok C /\ MayP C /\ hc = C.hor /\ nc = C.now /\ BkN w3.heap.size W5 (.slice B1c m1c d1c) (.slice B2c m2c d2c) (.slice B3c m3c d3c) (.slice B4c m4c d4c) C)) := hide (by
  rcases HOc.out with h | ⟨h1, C, h2, h3, h4, h5, h6⟩
  ·exact .inl h
  ·exact .inr ⟨h1, C, h2, h3, h4, h5, h6.later bW5⟩)
 clear hW5 hg7 b5 bW5 rg7 HOc x0 x1 x2 x3 x4 x5 y0 y1 y2 y3
 go_upto_if 34 with fail
 go_cut [] (fun wx => Later W5 wx)
 case first =>
  rcases HKC.out with ⟨h0, -⟩ | ⟨h0, C, h2, h3, h4, h5, h6⟩
  ·have t1 : (codec == 0) = false := by simpa using h0
   have t2 : decide (codec = 0) = false := by simpa using h0
   clear h0
   go_wp2_with fail
   go_meet
   exact Later.refl _
  ·subst h0 h4 h5
   obtain ⟨hu1, hu2⟩ := undo_ord HMAY.out h2
   have HKN := hide h6; have HMC := hide h3; have HU1 := hide hu1
   have hm3 : m3c = n3 + 1 := by
    have e1 := (own_len3 h6.ords).1
    obtain ⟨_, _, _, e, e2, -⟩ := H.out.ords.form
    injection e with _ e3 _; omega
   have hn3 : n3 <= 1000 := by
    have := H.out.ol
    obtain ⟨_, _, _, e, e2, -⟩ := H.out.ords.form
    injection e with _ e3 _; omega
   clear h2 h3 h6 hu1 hu2
   subst hm3
   have x0 := (HRC.out.later (Later.refl _)).cell (i := 0) rfl; have x1 := (HRC.out.later (Later.refl _)).cell (i := 1) rfl; have x2 := (HRC.out.later (Later.refl _)).cell (i := 2) rfl; have x3 := (HRC.out.later (Later.refl _)).cell (i := 3) rfl; have x4 := (HRC.out.later (Later.refl _)).cell (i := 4) rfl; have x5 := (HRC.out.later (Later.refl _)).cell (i := 5) rfl
   have y0 := (HR12.out.later HL5.out).cell (i := 0) rfl; have y1 := (HR12.out.later HL5.out).cell (i := 1) rfl; have y2 := (HR12.out.later HL5.out).cell (i := 2) rfl; have y3 := (HR12.out.later HL5.out).cell (i := 3) rfl
   have HC7 : Hid (Calls Tryz.prog 12 #[.agg #[.slice B1c m1c d1c, .int .i64 C.hor, .int .i64 C.now, .slice B2c m2c d2c, .slice B3c (n3 + 1) d3c, .slice B4c m4c d4c], .agg #[.int .i64 2, .int .i64 0, .int .i64 0, .int .i64 0, .int .i64 0, .int .i64 o.id, .int .i64 0, .int .i64 0, .slice none 0 0]] W5 (CauP W5 (.ok D))) := hide (by
    have h2 := apply_calls W5 B1c B2c B3c B4c none m1c m2c (n3 + 1) m4c 0 d1c d2c d3c d4c 0 C (mkCan o.id) (HKN.out.book (fit_of_may HMC.out)) fit0 (Sq.nil _ _ _) (by simp [mkCan])
    rw [HU1.out] at h2; exact h2)
   go_upto_region 8 with (go_at_call 12; (refine (HC7.out).mono ?_); rintro e a7 h1; unfold CauP at h1; dsimp only at h1; obtain ⟨b7, hm7, B1d, B2d, B3d, B4d, m1d, m2d, m3d, m4d, d1d, d2d, d3d, d4d, rfl, hk7⟩ := h1)
   obtain ⟨W7, hW7⟩ : ∃ W7, W7 = a7.alloc (Obj.cells #[Value.slice B1d m1d d1d, Value.int .i64 D.hor, Value.int .i64 D.now, Value.slice B2d m2d d2d, Value.slice B3d m3d d3d, Value.slice B4d m4d d4d] 27) := ⟨_, rfl⟩
   obtain ⟨g9, hg9⟩ : ∃ g9, g9 = a7.heap.size := ⟨_, rfl⟩
   have bW7 : Later a7 W7 := by rw [hW7]; exact (Later.refl _).alloc _
   have rg9 : Row W7 g9 27 [.slice B1d m1d d1d, .int .i64 D.hor, .int .i64 D.now, .slice B2d m2d d2d, .slice B3d m3d d3d, .slice B4d m4d d4d] := by rw [hW7, hg9]; exact Row.new _ _ _
   rw [<- hW7, <- hg9]
   have HL7 := hide (b7.trans bW7); have HRD := hide rg9; have HKD := hide ((hk7.later bW7).book (fit_of_may HMAY.out))
   clear hW7 hg9 b7 bW7 rg9 hk7 hm7 x0 x1 x2 x3 x4 x5 y0 y1 y2 y3
   have x0 := (HRD.out.later (Later.refl _)).cell (i := 0) rfl; have x1 := (HRD.out.later (Later.refl _)).cell (i := 1) rfl; have x2 := (HRD.out.later (Later.refl _)).cell (i := 2) rfl; have x3 := (HRD.out.later (Later.refl _)).cell (i := 3) rfl; have x4 := (HRD.out.later (Later.refl _)).cell (i := 4) rfl; have x5 := (HRD.out.later (Later.refl _)).cell (i := 5) rfl
   have y0 := (HR02.out.later (HL5.out.trans HL7.out)).cell (i := 0) rfl; have y1 := (HR02.out.later (HL5.out.trans HL7.out)).cell (i := 1) rfl; have y2 := (HR02.out.later (HL5.out.trans HL7.out)).cell (i := 2) rfl; have y3 := (HR02.out.later (HL5.out.trans HL7.out)).cell (i := 3) rfl; have y4 := (HR02.out.later (HL5.out.trans HL7.out)).cell (i := 4) rfl; have y5 := (HR02.out.later (HL5.out.trans HL7.out)).cell (i := 5) rfl
   go_wp2_with (go_at_call 15; (with_reducible refine (refsame_calls _ B1d B2d B3d B4d A1 A2 A3 A4 m1d m2d m3d m4d d1d d2d d3d d4d n1 n2 n3 n4 c1 c2 c3 c4 D HKD.out (H.out.later (HL5.out.trans HL7.out))).mono ?_); rintro e a8 ⟨rfl, b8⟩; have z4 := (HRC.out.later (HL7.out.trans b8)).cell (i := 4) rfl; have v4 := (HR02.out.later ((HL5.out.trans HL7.out).trans b8)).cell (i := 4) rfl)
   go_meet
   exact HL7.out.trans b8
 case rest =>
 rename World => wx
 have HLX5 : Hid (Later w2 wx) := hide (HL5.out.trans (by assumption))
 have x0 := (HR02.out.later HLX5.out).cell (i := 0) rfl; have x1 := (HR02.out.later HLX5.out).cell (i := 1) rfl; have x2 := (HR02.out.later HLX5.out).cell (i := 2) rfl; have x3 := (HR02.out.later HLX5.out).cell (i := 3) rfl; have x4 := (HR02.out.later HLX5.out).cell (i := 4) rfl; have x5 := (HR02.out.later HLX5.out).cell (i := 5) rfl
 have y0 := (HR22.out.later HLX5.out).cell (i := 0) rfl
 have y1 := (HR22.out.later HLX5.out).cell (i := 1) rfl
 go_upto_region 11 with (go_at_call 12; (refine (HC10.out _ HLX5.out).mono ?_); rintro e a10 h1; obtain ⟨B1g, B2g, B3g, B4g, m1g, m2g, m3g, m4g, d1g, d2g, d3g, d4g, hg, ng, codeg, rfl, b10, horg⟩ := h1; have HOg := hide horg; clear horg)
 obtain ⟨W10, hW10⟩ : ∃ W10, W10 = a10.alloc (Obj.cells #[Value.slice B1g m1g d1g, Value.int .i64 hg, Value.int .i64 ng, Value.slice B2g m2g d2g, Value.slice B3g m3g d3g, Value.slice B4g m4g d4g] 27) := ⟨_, rfl⟩
 obtain ⟨g11, hg11⟩ : ∃ g11, g11 = a10.heap.size := ⟨_, rfl⟩
 have bW10 : Later a10 W10 := by rw [hW10]; exact (Later.refl _).alloc _
 have rg11 : Row W10 g11 27 [.slice B1g m1g d1g, .int .i64 hg, .int .i64 ng, .slice B2g m2g d2g, .slice B3g m3g d3g, .slice B4g m4g d4g] := by rw [hW10, hg11]; exact Row.new _ _ _
 rw [<- hW10, <- hg11]
 rcases HOg.out with ⟨h0, -⟩ | ⟨h0, G, hG1, hG2, hG3, hG4, hG5⟩
 ·have t1 : (codeg == 0) = false := by simpa using h0
  have t2 : decide (codeg = 0) = false := by simpa using h0
  have LE := ((B0.out.trans HL2.out).trans HLX5.out).trans (b10.trans bW10)
  clear h0 hW10 hg11
  go_wp2_with fail
  go_ret
  exact ⟨rfl, LE⟩
 subst h0 hG3 hG4
 obtain ⟨U, hU1, hU2, hU3⟩ := undo_cap HMAY.out hG1
 have HU3 := hide hU3; have HQ1 := hide hU2
 have HKN := hide (hG5.later bW10); have HMG := hide hG2
 have HKG : Hid (BookIn W10 (.slice B1g m1g d1g) (.slice B2g m2g d2g) (.slice B3g m3g d3g) (.slice B4g m4g d4g) G) := hide (HKN.out.book (fit_of_may hG2))
 have HRG := hide rg11
 have HLX : Hid (Later w2 W10) := hide (HLX5.out.trans (b10.trans bW10))
 have HLW : Hid (Later w W10) := hide ((B0.out.trans HL2.out).trans HLX.out)
 have HCA13 : Hid (∀ W, Later W10 W -> Calls Tryz.prog 12 #[.agg #[.slice B1g m1g d1g, .int .i64 G.hor, .int .i64 G.now, .slice B2g m2g d2g, .slice B3g m3g d3g, .slice B4g m4g d4g], .agg #[.int .i64 3, .int .i64 0, .int .i64 0, .int .i64 0, .int .i64 0, .int .i64 0, .int .i64 p, .int .i64 (capV D p), .slice none 0 0]] W (CauP W (.ok U))) := hide (fun W hW => by
  have h2 := apply_calls W B1g B2g B3g B4g none m1g m2g m3g m4g 0 d1g d2g d3g d4g 0 G (mkCap p (capV D p)) (HKG.out.later hW) fit0 (Sq.nil _ _ _) (by simp [mkCap])
  rw [hU1] at h2; exact h2)
 clear hW10 hg11 b10 bW10 rg11 HOg hG1 hG2 hG5 hU1 hU2 hU3 x0 x1 x2 x3 x4 x5 y0 y1
 obtain ⟨wy, hwy⟩ : ∃ wy, wy = W10 := ⟨_, rfl⟩
 have L10X : Hid (Later W10 wy) := hide (by rw [hwy]; exact Later.refl _)
 have HT13 : Hid (∀ w', Later W10 w' -> w'.cell? ⟨g11, 0, none⟩ = some (.slice B1g m1g d1g) /\ w'.cell? ⟨g11, 1, none⟩ = some (.int .i64 G.hor) /\ w'.cell? ⟨g11, 2, none⟩ = some (.int .i64 G.now) /\ w'.cell? ⟨g11, 3, none⟩ = some (.slice B2g m2g d2g) /\ w'.cell? ⟨g11, 4, none⟩ = some (.slice B3g m3g d3g) /\ w'.cell? ⟨g11, 5, none⟩ = some (.slice B4g m4g d4g) /\ w'.cell? ⟨w.heap.size + 2, 0, none⟩ = some (.int .i64 p) /\ w'.cell? ⟨w.heap.size, 0, none⟩ = some (.slice A1 n1 c1) /\ w'.cell? ⟨w.heap.size, 1, none⟩ = some (.int .i64 D.hor) /\ w'.cell? ⟨w.heap.size, 2, none⟩ = some (.int .i64 D.now) /\ w'.cell? ⟨w.heap.size, 3, none⟩ = some (.slice A2 n2 c2) /\ w'.cell? ⟨w.heap.size, 4, none⟩ = some (.slice A3 n3 c3) /\ w'.cell? ⟨w.heap.size, 5, none⟩ = some (.slice A4 n4 c4)) := hide (fun w' hb => ⟨(HRG.out.later hb).cell rfl, (HRG.out.later hb).cell rfl, (HRG.out.later hb).cell rfl, (HRG.out.later hb).cell rfl, (HRG.out.later hb).cell rfl, (HRG.out.later hb).cell rfl, (HR22.out.later (HLX.out.trans hb)).cell rfl, (HR02.out.later (HLX.out.trans hb)).cell rfl, (HR02.out.later (HLX.out.trans hb)).cell rfl, (HR02.out.later (HLX.out.trans hb)).cell rfl, (HR02.out.later (HLX.out.trans hb)).cell rfl, (HR02.out.later (HLX.out.trans hb)).cell rfl, (HR02.out.later (HLX.out.trans hb)).cell rfl⟩)
 have hmx : Tryz.prog.follows .mixedOrders = true := by kernel_rfl
 clear hwy L10X
 have L10X : Hid (Later W10 W10) := hide (Later.refl _)
 go_upto_region 13 with fail
 refine wp_region_N (fun w' => w'.cell? ⟨g11, 0, none⟩ = some (.slice B1g m1g d1g) /\ w'.cell? ⟨g11, 1, none⟩ = some (.int .i64 G.hor) /\ w'.cell? ⟨g11, 2, none⟩ = some (.int .i64 G.now) /\ w'.cell? ⟨g11, 3, none⟩ = some (.slice B2g m2g d2g) /\ w'.cell? ⟨g11, 4, none⟩ = some (.slice B3g m3g d3g) /\ w'.cell? ⟨g11, 5, none⟩ = some (.slice B4g m4g d4g) /\ w'.cell? ⟨w.heap.size + 2, 0, none⟩ = some (.int .i64 p) /\ w'.cell? ⟨w.heap.size, 0, none⟩ = some (.slice A1 n1 c1) /\ w'.cell? ⟨w.heap.size, 1, none⟩ = some (.int .i64 D.hor) /\ w'.cell? ⟨w.heap.size, 2, none⟩ = some (.int .i64 D.now) /\ w'.cell? ⟨w.heap.size, 3, none⟩ = some (.slice A2 n2 c2) /\ w'.cell? ⟨w.heap.size, 4, none⟩ = some (.slice A3 n3 c3) /\ w'.cell? ⟨w.heap.size, 5, none⟩ = some (.slice A4 n4 c4)) [] hmx (HT13.out _ lt_) (fun hHeld => ?_)
 refine tkB 74 0 ?_
 refine tkB 75 1 ?_
 refine tkB 76 2 ?_
 refine tkB 77 3 ?_
 refine tkB 78 4 ?_
 refine tkB 79 5 ?_
 refine wpAnyN_ready (rs := [6, 12]) (by kernel_rfl) (by simp) ?_
 refine AllReadyN.held rfl (by rfl) (fun K hK => ?_) ?_
 ·go_simp
  refine (rcap_calls _ A1 A2 A3 A4 n1 n2 n3 n4 c1 c2 c3 c4 D (H.out.later (HLX.out.trans lt_)) p).mono ?_
  rintro e a6 ⟨rfl, ba6⟩
  have l6 : Later W10 a6 := Later.trans lt_ ba6
  refine hK.out _ _ ?_ (fun hHeld => ?_)
  ·exact HT13.out _ lt_
  clear hK K
  try simp only [Act.put, s1_, s2_, s3_]
  refine tkB 81 7 ?_
  refine wpAnyN_ready (rs := [8, 12]) (by kernel_rfl) (by simp) ?_
  refine AllReadyN.held rfl (by rfl) (fun K hK => ?_) ?_
  ·go_simp
   refine (HCA13.out _ lt_).mono ?_
   rintro e a5 h1
   unfold CauP at h1
   dsimp only at h1
   obtain ⟨b5, hm5, B1u, B2u, B3u, B4u, m1u, m2u, m3u, m4u, d1u, d2u, d3u, d4u, rfl, hk5⟩ := h1
   have HK5 := hide (hk5.weaken (Below.size (Later.trans HLW.out lt_))); have HM5 := hide hm5
   clear hk5 hm5
   have l5 : Later W10 a5 := Later.trans lt_ b5
   refine hK.out _ _ ?_ (fun hHeld => ?_)
   ·exact HT13.out _ lt_
   clear hK K
   try simp only [Act.put, s1_, s2_, s3_]
   refine tkB 73 9 ?_
   refine tkB 83 10 ?_
   refine tkB 84 11 ?_
   refine wpAnyN_ready (rs := [12]) (by kernel_rfl) (by simp) ?_
   refine AllReadyN.held rfl (by rfl) (fun K hK => ?_) AllReadyN.nil
   go_simp
   obtain ⟨g8, hg8⟩ : ∃ g, g = a5.heap.size := ⟨_, rfl⟩
   rw [<- hg8]
   have hgl : W10.heap.size <= g8 := by rw [hg8]; exact l5.size
   have hz8 : Row (a5.alloc (Obj.cells #[Value.slice none 0 0, Value.int .i64 0, Value.int .i64 0, Value.slice none 0 0, Value.slice none 0 0, Value.slice none 0 0] 27)) g8 27 [.slice none 0 0, .int .i64 0, .int .i64 0, .slice none 0 0, .slice none 0 0, .slice none 0 0] := by rw [hg8]; exact Row.new _ _ _
   have q0 := hz8.cell (i := 0) rfl; have qz0 := hz8.frozen 0; have q1 := hz8.cell (i := 1) rfl; have qz1 := hz8.frozen 1; have q2 := hz8.cell (i := 2) rfl; have qz2 := hz8.frozen 2; have q3 := hz8.cell (i := 3) rfl; have qz3 := hz8.frozen 3; have q4 := hz8.cell (i := 4) rfl; have qz4 := hz8.frozen 4; have q5 := hz8.cell (i := 5) rfl; have qz5 := hz8.frozen 5
   have HZ9 := hide hz8
   clear hz8 hg8
   refine hK.out _ _ ?_ (fun hHeld => ?_)
   ·exact HT13.out _ lt_
   clear hK K
   try simp only [Act.put, s1_, s2_, s3_]
   refine wpAnyN_ready (rs := [13]) (by kernel_rfl) (by simp) ?_
   refine AllReadyN.held rfl (by rfl) (fun K hK => ?_) AllReadyN.nil
   go_simp
   refine hK.out _ _ ?_ (fun hHeld => ?_)
   ·exact HT13.out _ (Later.setCell (Later.setCell (Later.setCell (Later.setCell (Later.setCell (Later.setCell (l5.alloc _) hgl _) hgl _) hgl _) hgl _) hgl _) hgl _)
   clear hK K
   try simp only [Act.put, s1_, s2_, s3_]
   refine tkB 14 14 ?_
   refine wpAnyN_done (by kernel_rfl) ?_ _
   clear hHeld
   obtain ⟨W8, hW8⟩ : ∃ W, W = (((((((a5.alloc (Obj.cells #[Value.slice none 0 0, Value.int .i64 0, Value.int .i64 0, Value.slice none 0 0, Value.slice none 0 0, Value.slice none 0 0] 27)).setCell ⟨g8, 0, none⟩ (.slice B1u m1u d1u)).setCell ⟨g8, 1, none⟩ (.int .i64 U.hor)).setCell ⟨g8, 2, none⟩ (.int .i64 U.now)).setCell ⟨g8, 3, none⟩ (.slice B2u m2u d2u)).setCell ⟨g8, 4, none⟩ (.slice B3u m3u d3u)).setCell ⟨g8, 5, none⟩ (.slice B4u m4u d4u)) := ⟨_, rfl⟩
   have oo8 : Only g8 (a5.alloc (Obj.cells #[Value.slice none 0 0, Value.int .i64 0, Value.int .i64 0, Value.slice none 0 0, Value.slice none 0 0, Value.slice none 0 0] 27)) W8 := by rw [hW8]; exact only6 g8 (.slice B1u m1u d1u) (.int .i64 U.hor) (.int .i64 U.now) (.slice B2u m2u d2u) (.slice B3u m3u d3u) (.slice B4u m4u d4u)
   have R8 : Hid (Row W8 g8 27 [.slice B1u m1u d1u, .int .i64 U.hor, .int .i64 U.now, .slice B2u m2u d2u, .slice B3u m3u d3u, .slice B4u m4u d4u]) := hide (by rw [hW8]; exact HZ9.out.put6 _ _ _ _ _ _)
   have L8 : Hid (Later W10 W8) := hide (Later.only (l5.alloc _) oo8 hgl)
   have HKU : Hid (BookIn W8 (.slice B1u m1u d1u) (.slice B2u m2u d2u) (.slice B3u m3u d3u) (.slice B4u m4u d4u) U) := hide (((HK5.out.later ((Later.refl _).alloc _)).box (IsBox.book HZ9.out) oo8).book (fit_of_may HM5.out))
   rw [<- hW8]
   clear hW8 oo8 q0 q1 q2 q3 q4 q5 qz0 qz1 qz2 qz3 qz4 qz5 l5 b5 HZ9 hgl
   have HT14 : Hid (∀ w', Later W8 w' -> w'.cell? ⟨g11, 0, none⟩ = some (.slice B1g m1g d1g) /\ w'.cell? ⟨g11, 1, none⟩ = some (.int .i64 G.hor) /\ w'.cell? ⟨g11, 2, none⟩ = some (.int .i64 G.now) /\ w'.cell? ⟨g11, 3, none⟩ = some (.slice B2g m2g d2g) /\ w'.cell? ⟨g11, 4, none⟩ = some (.slice B3g m3g d3g) /\ w'.cell? ⟨g11, 5, none⟩ = some (.slice B4g m4g d4g) /\ w'.cell? ⟨w.heap.size + 2, 0, none⟩ = some (.int .i64 p) /\ w'.cell? ⟨w.heap.size + 2, 1, none⟩ = some (.int .i64 q)) := hide (fun w' hb => ⟨(HRG.out.later (L10X.out.trans (L8.out.trans hb))).cell rfl, (HRG.out.later (L10X.out.trans (L8.out.trans hb))).cell rfl, (HRG.out.later (L10X.out.trans (L8.out.trans hb))).cell rfl, (HRG.out.later (L10X.out.trans (L8.out.trans hb))).cell rfl, (HRG.out.later (L10X.out.trans (L8.out.trans hb))).cell rfl, (HRG.out.later (L10X.out.trans (L8.out.trans hb))).cell rfl, (HR22.out.later (HLX.out.trans (L8.out.trans hb))).cell rfl, (HR22.out.later (HLX.out.trans (L8.out.trans hb))).cell rfl⟩)
   go_upto_region 14 with fail
   refine wp_region_N (fun w' => w'.cell? ⟨g11, 0, none⟩ = some (.slice B1g m1g d1g) /\ w'.cell? ⟨g11, 1, none⟩ = some (.int .i64 G.hor) /\ w'.cell? ⟨g11, 2, none⟩ = some (.int .i64 G.now) /\ w'.cell? ⟨g11, 3, none⟩ = some (.slice B2g m2g d2g) /\ w'.cell? ⟨g11, 4, none⟩ = some (.slice B3g m3g d3g) /\ w'.cell? ⟨g11, 5, none⟩ = some (.slice B4g m4g d4g) /\ w'.cell? ⟨w.heap.size + 2, 0, none⟩ = some (.int .i64 p) /\ w'.cell? ⟨w.heap.size + 2, 1, none⟩ = some (.int .i64 q)) [] hmx (HT14.out _ lt_) (fun hHeld => ?_)
   refine tkB 85 0 ?_
   refine tkB 86 1 ?_
   refine tkB 87 2 ?_
   refine tkB 88 3 ?_
   refine tkB 89 4 ?_
   refine tkB 90 5 ?_
   refine tkB 92 7 ?_
   refine tkB 93 8 ?_
   refine wpAnyN_ready (rs := [6]) (by kernel_rfl) (by simp) ?_
   refine AllReadyN.held rfl (by rfl) (fun K hK => ?_) AllReadyN.nil
   go_simp
   refine (rcap_calls _ B1g B2g B3g B4g m1g m2g m3g m4g d1g d2g d3g d4g G (HKG.out.later (L10X.out.trans (L8.out.trans lt_))) p).mono ?_
   rintro e a7 ⟨rfl, ba7⟩
   have l7 : Later W8 a7 := Later.trans lt_ ba7
   rw [HQ1.out]
   refine hK.out _ _ ?_ (fun hHeld => ?_)
   ·exact HT14.out _ lt_
   clear hK K
   try simp only [Act.put, s1_, s2_, s3_]
   refine tkB 94 9 ?_
   refine tkB 95 10 ?_
   refine wpAnyN_done (by kernel_rfl) ?_ _
   clear hHeld
   go_wp2_with fail
   have HLA7 := hide l7
   clear l7
   go_loopw [15] (fun iv wr => ∃ t : Nat, iv = .int .i64 (t : Int) /\ t <= 40 /\ Hid (Later W8 wr)) (fun iv _ => (40 - intOf iv).toNat)
   case atStart => exact ⟨0, rfl, Nat.zero_le _, HLA7⟩
   case round =>
    obtain ⟨t, rfl, ht, HLR⟩ := hrel
    by_cases ht4 : t < 40
    ·have t1 : decide ((t : Int) < 40) = true := by simp; omega
     have HUT : Hid (capV U (t : Int) = capV D (t : Int) /\ ((t : Int) ≠ p -> capV G (t : Int) = capV D (t : Int))) := hide (HU3.out (t : Int) (by omega))
     have HLXR : Hid (Later w2 wr) := hide (HLX.out.trans (L8.out.trans HLR.out))
     have HLGR : Hid (Later W10 wr) := hide (L10X.out.trans (L8.out.trans HLR.out))
     have HT19 : Hid (∀ w', Later wr w' -> w'.cell? ⟨g8, 0, none⟩ = some (.slice B1u m1u d1u) /\ w'.cell? ⟨g8, 1, none⟩ = some (.int .i64 U.hor) /\ w'.cell? ⟨g8, 2, none⟩ = some (.int .i64 U.now) /\ w'.cell? ⟨g8, 3, none⟩ = some (.slice B2u m2u d2u) /\ w'.cell? ⟨g8, 4, none⟩ = some (.slice B3u m3u d3u) /\ w'.cell? ⟨g8, 5, none⟩ = some (.slice B4u m4u d4u) /\ w'.cell? ⟨w.heap.size, 0, none⟩ = some (.slice A1 n1 c1) /\ w'.cell? ⟨w.heap.size, 1, none⟩ = some (.int .i64 D.hor) /\ w'.cell? ⟨w.heap.size, 2, none⟩ = some (.int .i64 D.now) /\ w'.cell? ⟨w.heap.size, 3, none⟩ = some (.slice A2 n2 c2) /\ w'.cell? ⟨w.heap.size, 4, none⟩ = some (.slice A3 n3 c3) /\ w'.cell? ⟨w.heap.size, 5, none⟩ = some (.slice A4 n4 c4) /\ w'.cell? ⟨w.heap.size + 2, 0, none⟩ = some (.int .i64 p) /\ w'.cell? ⟨g11, 0, none⟩ = some (.slice B1g m1g d1g) /\ w'.cell? ⟨g11, 1, none⟩ = some (.int .i64 G.hor) /\ w'.cell? ⟨g11, 2, none⟩ = some (.int .i64 G.now) /\ w'.cell? ⟨g11, 3, none⟩ = some (.slice B2g m2g d2g) /\ w'.cell? ⟨g11, 4, none⟩ = some (.slice B3g m3g d3g) /\ w'.cell? ⟨g11, 5, none⟩ = some (.slice B4g m4g d4g)) := hide (fun w' hb => ⟨(R8.out.later (HLR.out.trans hb)).cell rfl, (R8.out.later (HLR.out.trans hb)).cell rfl, (R8.out.later (HLR.out.trans hb)).cell rfl, (R8.out.later (HLR.out.trans hb)).cell rfl, (R8.out.later (HLR.out.trans hb)).cell rfl, (R8.out.later (HLR.out.trans hb)).cell rfl, (HR02.out.later (HLXR.out.trans hb)).cell rfl, (HR02.out.later (HLXR.out.trans hb)).cell rfl, (HR02.out.later (HLXR.out.trans hb)).cell rfl, (HR02.out.later (HLXR.out.trans hb)).cell rfl, (HR02.out.later (HLXR.out.trans hb)).cell rfl, (HR02.out.later (HLXR.out.trans hb)).cell rfl, (HR22.out.later (HLXR.out.trans hb)).cell rfl, (HRG.out.later (HLGR.out.trans hb)).cell rfl, (HRG.out.later (HLGR.out.trans hb)).cell rfl, (HRG.out.later (HLGR.out.trans hb)).cell rfl, (HRG.out.later (HLGR.out.trans hb)).cell rfl, (HRG.out.later (HLGR.out.trans hb)).cell rfl, (HRG.out.later (HLGR.out.trans hb)).cell rfl⟩)
     by_cases hne : (t : Int) = p
     ·have t2 : ((t : Int) == p) = true := by simpa using hne
      have t3 : decide ((t : Int) = p) = true := by simpa using hne
      have t4 : ((t : Int) != p) = false := by simpa using hne
      clear hne
      go_upto_region 19 with fail
      refine wp_region_N (fun w' => w'.cell? ⟨g8, 0, none⟩ = some (.slice B1u m1u d1u) /\ w'.cell? ⟨g8, 1, none⟩ = some (.int .i64 U.hor) /\ w'.cell? ⟨g8, 2, none⟩ = some (.int .i64 U.now) /\ w'.cell? ⟨g8, 3, none⟩ = some (.slice B2u m2u d2u) /\ w'.cell? ⟨g8, 4, none⟩ = some (.slice B3u m3u d3u) /\ w'.cell? ⟨g8, 5, none⟩ = some (.slice B4u m4u d4u) /\ w'.cell? ⟨w.heap.size, 0, none⟩ = some (.slice A1 n1 c1) /\ w'.cell? ⟨w.heap.size, 1, none⟩ = some (.int .i64 D.hor) /\ w'.cell? ⟨w.heap.size, 2, none⟩ = some (.int .i64 D.now) /\ w'.cell? ⟨w.heap.size, 3, none⟩ = some (.slice A2 n2 c2) /\ w'.cell? ⟨w.heap.size, 4, none⟩ = some (.slice A3 n3 c3) /\ w'.cell? ⟨w.heap.size, 5, none⟩ = some (.slice A4 n4 c4) /\ w'.cell? ⟨w.heap.size + 2, 0, none⟩ = some (.int .i64 p) /\ w'.cell? ⟨g11, 0, none⟩ = some (.slice B1g m1g d1g) /\ w'.cell? ⟨g11, 1, none⟩ = some (.int .i64 G.hor) /\ w'.cell? ⟨g11, 2, none⟩ = some (.int .i64 G.now) /\ w'.cell? ⟨g11, 3, none⟩ = some (.slice B2g m2g d2g) /\ w'.cell? ⟨g11, 4, none⟩ = some (.slice B3g m3g d3g) /\ w'.cell? ⟨g11, 5, none⟩ = some (.slice B4g m4g d4g)) [] hmx (HT19.out _ lt_) (fun hHeld => ?_)
      refine tkB 100 0 ?_
      refine tkB 101 1 ?_
      refine tkB 103 3 ?_
      refine tkB 104 4 ?_
      refine wpAnyN_ready (rs := [2]) (by kernel_rfl) (by simp) ?_
      refine AllReadyN.held rfl (by rfl) (fun K hK => ?_) AllReadyN.nil
      go_simp
      refine (rcap_calls _ B1u B2u B3u B4u m1u m2u m3u m4u d1u d2u d3u d4u U (HKU.out.later (HLR.out.trans lt_)) (t : Int)).mono ?_
      rintro e u2 ⟨rfl, bu2⟩
      have lu2 : Later wr u2 := Later.trans lt_ bu2
      refine hK.out _ _ ?_ (fun hHeld => ?_)
      ·exact HT19.out _ lt_
      clear hK K
      try simp only [Act.put, s1_, s2_, s3_]
      refine wpAnyN_ready (rs := [5]) (by kernel_rfl) (by simp) ?_
      refine AllReadyN.held rfl (by rfl) (fun K hK => ?_) AllReadyN.nil
      go_simp
      refine (rcap_calls _ A1 A2 A3 A4 n1 n2 n3 n4 c1 c2 c3 c4 D (H.out.later (HLXR.out.trans lt_)) (t : Int)).mono ?_
      rintro e u5 ⟨rfl, bu5⟩
      have lu5 : Later wr u5 := Later.trans lt_ bu5
      rw [HUT.out.1]
      refine hK.out _ _ ?_ (fun hHeld => ?_)
      ·exact HT19.out _ lt_
      clear hK K
      try simp only [Act.put, s1_, s2_, s3_]
      refine tkB 106 6 ?_
      refine tkB 107 7 ?_
      refine tkB 108 8 ?_
      refine tkB 109 9 ?_
      refine tkB 110 10 ?_
      refine tkB 111 11 ?_
      refine tkB 112 12 ?_
      refine tkU 113 13 ?_
      try simp only [Act.put, s1_, s2_, s3_]
      refine tkU 114 14 ?_
      try simp only [Act.put, s1_, s2_, s3_]
      refine tkU 115 15 ?_
      try simp only [Act.put, s1_, s2_, s3_]
      refine tkU 116 16 ?_
      try simp only [Act.put, s1_, s2_, s3_]
      refine tkU 117 17 ?_
      try simp only [Act.put, s1_, s2_, s3_]
      refine tkU 118 18 ?_
      try simp only [Act.put, s1_, s2_, s3_]
      refine tkU 119 19 ?_
      try simp only [Act.put, s1_, s2_, s3_]
      refine tkB 120 20 ?_
      refine tkB 121 21 ?_
      refine wpAnyN_done (by kernel_rfl) ?_ _
      clear hHeld
      go_wp2_with fail
      exact ⟨⟨t+1, by go_num, by omega, hide (HLR.out.trans lu5)⟩, by simp [intOf]; omega⟩
     ·have t2 : ((t : Int) == p) = false := by simpa using hne
      have t3 : decide ((t : Int) = p) = false := by simpa using hne
      have t4 : ((t : Int) != p) = true := by simpa using hne
      have HNE : Hid ((t : Int) ≠ p) := hide hne
      clear hne
      go_upto_region 19 with fail
      refine wp_region_N (fun w' => w'.cell? ⟨g8, 0, none⟩ = some (.slice B1u m1u d1u) /\ w'.cell? ⟨g8, 1, none⟩ = some (.int .i64 U.hor) /\ w'.cell? ⟨g8, 2, none⟩ = some (.int .i64 U.now) /\ w'.cell? ⟨g8, 3, none⟩ = some (.slice B2u m2u d2u) /\ w'.cell? ⟨g8, 4, none⟩ = some (.slice B3u m3u d3u) /\ w'.cell? ⟨g8, 5, none⟩ = some (.slice B4u m4u d4u) /\ w'.cell? ⟨w.heap.size, 0, none⟩ = some (.slice A1 n1 c1) /\ w'.cell? ⟨w.heap.size, 1, none⟩ = some (.int .i64 D.hor) /\ w'.cell? ⟨w.heap.size, 2, none⟩ = some (.int .i64 D.now) /\ w'.cell? ⟨w.heap.size, 3, none⟩ = some (.slice A2 n2 c2) /\ w'.cell? ⟨w.heap.size, 4, none⟩ = some (.slice A3 n3 c3) /\ w'.cell? ⟨w.heap.size, 5, none⟩ = some (.slice A4 n4 c4) /\ w'.cell? ⟨w.heap.size + 2, 0, none⟩ = some (.int .i64 p) /\ w'.cell? ⟨g11, 0, none⟩ = some (.slice B1g m1g d1g) /\ w'.cell? ⟨g11, 1, none⟩ = some (.int .i64 G.hor) /\ w'.cell? ⟨g11, 2, none⟩ = some (.int .i64 G.now) /\ w'.cell? ⟨g11, 3, none⟩ = some (.slice B2g m2g d2g) /\ w'.cell? ⟨g11, 4, none⟩ = some (.slice B3g m3g d3g) /\ w'.cell? ⟨g11, 5, none⟩ = some (.slice B4g m4g d4g)) [] hmx (HT19.out _ lt_) (fun hHeld => ?_)
      refine tkB 100 0 ?_
      refine tkB 101 1 ?_
      refine tkB 103 3 ?_
      refine tkB 104 4 ?_
      refine wpAnyN_ready (rs := [2]) (by kernel_rfl) (by simp) ?_
      refine AllReadyN.held rfl (by rfl) (fun K hK => ?_) AllReadyN.nil
      go_simp
      refine (rcap_calls _ B1u B2u B3u B4u m1u m2u m3u m4u d1u d2u d3u d4u U (HKU.out.later (HLR.out.trans lt_)) (t : Int)).mono ?_
      rintro e u2 ⟨rfl, bu2⟩
      have lu2 : Later wr u2 := Later.trans lt_ bu2
      refine hK.out _ _ ?_ (fun hHeld => ?_)
      ·exact HT19.out _ lt_
      clear hK K
      try simp only [Act.put, s1_, s2_, s3_]
      refine wpAnyN_ready (rs := [5]) (by kernel_rfl) (by simp) ?_
      refine AllReadyN.held rfl (by rfl) (fun K hK => ?_) AllReadyN.nil
      go_simp
      refine (rcap_calls _ A1 A2 A3 A4 n1 n2 n3 n4 c1 c2 c3 c4 D (H.out.later (HLXR.out.trans lt_)) (t : Int)).mono ?_
      rintro e u5 ⟨rfl, bu5⟩
      have lu5 : Later wr u5 := Later.trans lt_ bu5
      rw [HUT.out.1]
      refine hK.out _ _ ?_ (fun hHeld => ?_)
      ·exact HT19.out _ lt_
      clear hK K
      try simp only [Act.put, s1_, s2_, s3_]
      refine tkB 106 6 ?_
      refine tkB 107 7 ?_
      refine tkB 108 8 ?_
      refine tkB 109 9 ?_
      refine tkB 110 10 ?_
      refine tkB 111 11 ?_
      refine tkB 112 12 ?_
      refine tkB 113 13 ?_
      refine tkB 114 14 ?_
      refine tkB 116 16 ?_
      refine tkB 117 17 ?_
      refine wpAnyN_ready (rs := [15]) (by kernel_rfl) (by simp) ?_
      refine AllReadyN.held rfl (by rfl) (fun K hK => ?_) AllReadyN.nil
      go_simp
      refine (rcap_calls _ B1g B2g B3g B4g m1g m2g m3g m4g d1g d2g d3g d4g G (HKG.out.later (HLGR.out.trans lt_)) (t : Int)).mono ?_
      rintro e u15 ⟨rfl, bu15⟩
      have lu15 : Later wr u15 := Later.trans lt_ bu15
      refine hK.out _ _ ?_ (fun hHeld => ?_)
      ·exact HT19.out _ lt_
      clear hK K
      try simp only [Act.put, s1_, s2_, s3_]
      refine wpAnyN_ready (rs := [18]) (by kernel_rfl) (by simp) ?_
      refine AllReadyN.held rfl (by rfl) (fun K hK => ?_) AllReadyN.nil
      go_simp
      refine (rcap_calls _ A1 A2 A3 A4 n1 n2 n3 n4 c1 c2 c3 c4 D (H.out.later (HLXR.out.trans lt_)) (t : Int)).mono ?_
      rintro e u18 ⟨rfl, bu18⟩
      have lu18 : Later wr u18 := Later.trans lt_ bu18
      rw [HUT.out.2 HNE.out]
      refine hK.out _ _ ?_ (fun hHeld => ?_)
      ·exact HT19.out _ lt_
      clear hK K
      try simp only [Act.put, s1_, s2_, s3_]
      refine tkB 119 19 ?_
      refine tkB 120 20 ?_
      refine tkB 121 21 ?_
      refine wpAnyN_done (by kernel_rfl) ?_ _
      clear hHeld
      go_wp2_with fail
      exact ⟨⟨t+1, by go_num, by omega, hide (HLR.out.trans lu18)⟩, by simp [intOf]; omega⟩
    ·have t1 : decide ((t : Int) < 40) = false := by simp; omega
     go_wp2_with fail
     go_ret
     exact ⟨rfl, (HLW.out.trans L8.out).trans HLR.out⟩
  refine AllReadyN.held rfl (by rfl) (fun K hK => ?_) AllReadyN.nil
  go_simp
  obtain ⟨g8, hg8⟩ : ∃ g, g = a6.heap.size := ⟨_, rfl⟩
  rw [<- hg8]
  have hgl : W10.heap.size <= g8 := by rw [hg8]; exact l6.size
  have HZ8 : Hid (Row (a6.alloc (Obj.cells #[Value.slice none 0 0, Value.int .i64 0, Value.int .i64 0, Value.slice none 0 0, Value.slice none 0 0, Value.slice none 0 0] 27)) g8 27 [.slice none 0 0, .int .i64 0, .int .i64 0, .slice none 0 0, .slice none 0 0, .slice none 0 0]) := hide (by rw [hg8]; exact Row.new a6 _ _)
  clear hg8
  refine hK.out _ _ ?_ (fun hHeld => ?_)
  ·exact HT13.out _ lt_
  clear hK K
  try simp only [Act.put, s1_, s2_, s3_]
  refine wpAnyN_ready (rs := [8]) (by kernel_rfl) (by simp) ?_
  refine AllReadyN.held rfl (by rfl) (fun K hK => ?_) AllReadyN.nil
  go_simp
  refine (HCA13.out _ lt_).mono ?_
  rintro e a5 h1
  unfold CauP at h1
  dsimp only at h1
  obtain ⟨b5, hm5, B1u, B2u, B3u, B4u, m1u, m2u, m3u, m4u, d1u, d2u, d3u, d4u, rfl, hk5⟩ := h1
  have HK5 := hide (hk5.weaken (Below.size (Later.trans HLW.out lt_))); have HM5 := hide hm5
  clear hk5 hm5
  have hz8 := HZ8.out.later b5
  have q0 := hz8.cell (i := 0) rfl; have qz0 := hz8.frozen 0; have q1 := hz8.cell (i := 1) rfl; have qz1 := hz8.frozen 1; have q2 := hz8.cell (i := 2) rfl; have qz2 := hz8.frozen 2; have q3 := hz8.cell (i := 3) rfl; have qz3 := hz8.frozen 3; have q4 := hz8.cell (i := 4) rfl; have qz4 := hz8.frozen 4; have q5 := hz8.cell (i := 5) rfl; have qz5 := hz8.frozen 5
  have HZ9 := hide hz8
  clear hz8
  have l5 : Later W10 a5 := Later.trans lt_ b5
  refine hK.out _ _ ?_ (fun hHeld => ?_)
  ·exact HT13.out _ lt_
  clear hK K
  try simp only [Act.put, s1_, s2_, s3_]
  refine tkB 73 9 ?_
  refine tkB 83 10 ?_
  refine tkB 84 11 ?_
  refine wpAnyN_ready (rs := [13]) (by kernel_rfl) (by simp) ?_
  refine AllReadyN.held rfl (by rfl) (fun K hK => ?_) AllReadyN.nil
  go_simp
  refine hK.out _ _ ?_ (fun hHeld => ?_)
  ·exact HT13.out _ (Later.setCell (Later.setCell (Later.setCell (Later.setCell (Later.setCell (Later.setCell l5 hgl _) hgl _) hgl _) hgl _) hgl _) hgl _)
  clear hK K
  try simp only [Act.put, s1_, s2_, s3_]
  refine tkB 14 14 ?_
  refine wpAnyN_done (by kernel_rfl) ?_ _
  clear hHeld
  obtain ⟨W8, hW8⟩ : ∃ W, W = ((((((a5.setCell ⟨g8, 0, none⟩ (.slice B1u m1u d1u)).setCell ⟨g8, 1, none⟩ (.int .i64 U.hor)).setCell ⟨g8, 2, none⟩ (.int .i64 U.now)).setCell ⟨g8, 3, none⟩ (.slice B2u m2u d2u)).setCell ⟨g8, 4, none⟩ (.slice B3u m3u d3u)).setCell ⟨g8, 5, none⟩ (.slice B4u m4u d4u)) := ⟨_, rfl⟩
  have oo8 : Only g8 a5 W8 := by rw [hW8]; exact only6 g8 (.slice B1u m1u d1u) (.int .i64 U.hor) (.int .i64 U.now) (.slice B2u m2u d2u) (.slice B3u m3u d3u) (.slice B4u m4u d4u)
  have R8 : Hid (Row W8 g8 27 [.slice B1u m1u d1u, .int .i64 U.hor, .int .i64 U.now, .slice B2u m2u d2u, .slice B3u m3u d3u, .slice B4u m4u d4u]) := hide (by rw [hW8]; exact HZ9.out.put6 _ _ _ _ _ _)
  have L8 : Hid (Later W10 W8) := hide (Later.only l5 oo8 hgl)
  have HKU : Hid (BookIn W8 (.slice B1u m1u d1u) (.slice B2u m2u d2u) (.slice B3u m3u d3u) (.slice B4u m4u d4u) U) := hide (((HK5.out).box (IsBox.book HZ9.out) oo8).book (fit_of_may HM5.out))
  rw [<- hW8]
  clear hW8 oo8 q0 q1 q2 q3 q4 q5 qz0 qz1 qz2 qz3 qz4 qz5 l5 b5 HZ9 hgl
  have HT14 : Hid (∀ w', Later W8 w' -> w'.cell? ⟨g11, 0, none⟩ = some (.slice B1g m1g d1g) /\ w'.cell? ⟨g11, 1, none⟩ = some (.int .i64 G.hor) /\ w'.cell? ⟨g11, 2, none⟩ = some (.int .i64 G.now) /\ w'.cell? ⟨g11, 3, none⟩ = some (.slice B2g m2g d2g) /\ w'.cell? ⟨g11, 4, none⟩ = some (.slice B3g m3g d3g) /\ w'.cell? ⟨g11, 5, none⟩ = some (.slice B4g m4g d4g) /\ w'.cell? ⟨w.heap.size + 2, 0, none⟩ = some (.int .i64 p) /\ w'.cell? ⟨w.heap.size + 2, 1, none⟩ = some (.int .i64 q)) := hide (fun w' hb => ⟨(HRG.out.later (L10X.out.trans (L8.out.trans hb))).cell rfl, (HRG.out.later (L10X.out.trans (L8.out.trans hb))).cell rfl, (HRG.out.later (L10X.out.trans (L8.out.trans hb))).cell rfl, (HRG.out.later (L10X.out.trans (L8.out.trans hb))).cell rfl, (HRG.out.later (L10X.out.trans (L8.out.trans hb))).cell rfl, (HRG.out.later (L10X.out.trans (L8.out.trans hb))).cell rfl, (HR22.out.later (HLX.out.trans (L8.out.trans hb))).cell rfl, (HR22.out.later (HLX.out.trans (L8.out.trans hb))).cell rfl⟩)
  go_upto_region 14 with fail
  refine wp_region_N (fun w' => w'.cell? ⟨g11, 0, none⟩ = some (.slice B1g m1g d1g) /\ w'.cell? ⟨g11, 1, none⟩ = some (.int .i64 G.hor) /\ w'.cell? ⟨g11, 2, none⟩ = some (.int .i64 G.now) /\ w'.cell? ⟨g11, 3, none⟩ = some (.slice B2g m2g d2g) /\ w'.cell? ⟨g11, 4, none⟩ = some (.slice B3g m3g d3g) /\ w'.cell? ⟨g11, 5, none⟩ = some (.slice B4g m4g d4g) /\ w'.cell? ⟨w.heap.size + 2, 0, none⟩ = some (.int .i64 p) /\ w'.cell? ⟨w.heap.size + 2, 1, none⟩ = some (.int .i64 q)) [] hmx (HT14.out _ lt_) (fun hHeld => ?_)
  refine tkB 85 0 ?_
  refine tkB 86 1 ?_
  refine tkB 87 2 ?_
  refine tkB 88 3 ?_
  refine tkB 89 4 ?_
  refine tkB 90 5 ?_
  refine tkB 92 7 ?_
  refine tkB 93 8 ?_
  refine wpAnyN_ready (rs := [6]) (by kernel_rfl) (by simp) ?_
  refine AllReadyN.held rfl (by rfl) (fun K hK => ?_) AllReadyN.nil
  go_simp
  refine (rcap_calls _ B1g B2g B3g B4g m1g m2g m3g m4g d1g d2g d3g d4g G (HKG.out.later (L10X.out.trans (L8.out.trans lt_))) p).mono ?_
  rintro e a7 ⟨rfl, ba7⟩
  have l7 : Later W8 a7 := Later.trans lt_ ba7
  rw [HQ1.out]
  refine hK.out _ _ ?_ (fun hHeld => ?_)
  ·exact HT14.out _ lt_
  clear hK K
  try simp only [Act.put, s1_, s2_, s3_]
  refine tkB 94 9 ?_
  refine tkB 95 10 ?_
  refine wpAnyN_done (by kernel_rfl) ?_ _
  clear hHeld
  go_wp2_with fail
  have HLA7 := hide l7
  clear l7
  go_loopw [15] (fun iv wr => ∃ t : Nat, iv = .int .i64 (t : Int) /\ t <= 40 /\ Hid (Later W8 wr)) (fun iv _ => (40 - intOf iv).toNat)
  case atStart => exact ⟨0, rfl, Nat.zero_le _, HLA7⟩
  case round =>
   obtain ⟨t, rfl, ht, HLR⟩ := hrel
   by_cases ht4 : t < 40
   ·have t1 : decide ((t : Int) < 40) = true := by simp; omega
    have HUT : Hid (capV U (t : Int) = capV D (t : Int) /\ ((t : Int) ≠ p -> capV G (t : Int) = capV D (t : Int))) := hide (HU3.out (t : Int) (by omega))
    have HLXR : Hid (Later w2 wr) := hide (HLX.out.trans (L8.out.trans HLR.out))
    have HLGR : Hid (Later W10 wr) := hide (L10X.out.trans (L8.out.trans HLR.out))
    have HT19 : Hid (∀ w', Later wr w' -> w'.cell? ⟨g8, 0, none⟩ = some (.slice B1u m1u d1u) /\ w'.cell? ⟨g8, 1, none⟩ = some (.int .i64 U.hor) /\ w'.cell? ⟨g8, 2, none⟩ = some (.int .i64 U.now) /\ w'.cell? ⟨g8, 3, none⟩ = some (.slice B2u m2u d2u) /\ w'.cell? ⟨g8, 4, none⟩ = some (.slice B3u m3u d3u) /\ w'.cell? ⟨g8, 5, none⟩ = some (.slice B4u m4u d4u) /\ w'.cell? ⟨w.heap.size, 0, none⟩ = some (.slice A1 n1 c1) /\ w'.cell? ⟨w.heap.size, 1, none⟩ = some (.int .i64 D.hor) /\ w'.cell? ⟨w.heap.size, 2, none⟩ = some (.int .i64 D.now) /\ w'.cell? ⟨w.heap.size, 3, none⟩ = some (.slice A2 n2 c2) /\ w'.cell? ⟨w.heap.size, 4, none⟩ = some (.slice A3 n3 c3) /\ w'.cell? ⟨w.heap.size, 5, none⟩ = some (.slice A4 n4 c4) /\ w'.cell? ⟨w.heap.size + 2, 0, none⟩ = some (.int .i64 p) /\ w'.cell? ⟨g11, 0, none⟩ = some (.slice B1g m1g d1g) /\ w'.cell? ⟨g11, 1, none⟩ = some (.int .i64 G.hor) /\ w'.cell? ⟨g11, 2, none⟩ = some (.int .i64 G.now) /\ w'.cell? ⟨g11, 3, none⟩ = some (.slice B2g m2g d2g) /\ w'.cell? ⟨g11, 4, none⟩ = some (.slice B3g m3g d3g) /\ w'.cell? ⟨g11, 5, none⟩ = some (.slice B4g m4g d4g)) := hide (fun w' hb => ⟨(R8.out.later (HLR.out.trans hb)).cell rfl, (R8.out.later (HLR.out.trans hb)).cell rfl, (R8.out.later (HLR.out.trans hb)).cell rfl, (R8.out.later (HLR.out.trans hb)).cell rfl, (R8.out.later (HLR.out.trans hb)).cell rfl, (R8.out.later (HLR.out.trans hb)).cell rfl, (HR02.out.later (HLXR.out.trans hb)).cell rfl, (HR02.out.later (HLXR.out.trans hb)).cell rfl, (HR02.out.later (HLXR.out.trans hb)).cell rfl, (HR02.out.later (HLXR.out.trans hb)).cell rfl, (HR02.out.later (HLXR.out.trans hb)).cell rfl, (HR02.out.later (HLXR.out.trans hb)).cell rfl, (HR22.out.later (HLXR.out.trans hb)).cell rfl, (HRG.out.later (HLGR.out.trans hb)).cell rfl, (HRG.out.later (HLGR.out.trans hb)).cell rfl, (HRG.out.later (HLGR.out.trans hb)).cell rfl, (HRG.out.later (HLGR.out.trans hb)).cell rfl, (HRG.out.later (HLGR.out.trans hb)).cell rfl, (HRG.out.later (HLGR.out.trans hb)).cell rfl⟩)
    by_cases hne : (t : Int) = p
    ·have t2 : ((t : Int) == p) = true := by simpa using hne
     have t3 : decide ((t : Int) = p) = true := by simpa using hne
     have t4 : ((t : Int) != p) = false := by simpa using hne
     clear hne
     go_upto_region 19 with fail
     refine wp_region_N (fun w' => w'.cell? ⟨g8, 0, none⟩ = some (.slice B1u m1u d1u) /\ w'.cell? ⟨g8, 1, none⟩ = some (.int .i64 U.hor) /\ w'.cell? ⟨g8, 2, none⟩ = some (.int .i64 U.now) /\ w'.cell? ⟨g8, 3, none⟩ = some (.slice B2u m2u d2u) /\ w'.cell? ⟨g8, 4, none⟩ = some (.slice B3u m3u d3u) /\ w'.cell? ⟨g8, 5, none⟩ = some (.slice B4u m4u d4u) /\ w'.cell? ⟨w.heap.size, 0, none⟩ = some (.slice A1 n1 c1) /\ w'.cell? ⟨w.heap.size, 1, none⟩ = some (.int .i64 D.hor) /\ w'.cell? ⟨w.heap.size, 2, none⟩ = some (.int .i64 D.now) /\ w'.cell? ⟨w.heap.size, 3, none⟩ = some (.slice A2 n2 c2) /\ w'.cell? ⟨w.heap.size, 4, none⟩ = some (.slice A3 n3 c3) /\ w'.cell? ⟨w.heap.size, 5, none⟩ = some (.slice A4 n4 c4) /\ w'.cell? ⟨w.heap.size + 2, 0, none⟩ = some (.int .i64 p) /\ w'.cell? ⟨g11, 0, none⟩ = some (.slice B1g m1g d1g) /\ w'.cell? ⟨g11, 1, none⟩ = some (.int .i64 G.hor) /\ w'.cell? ⟨g11, 2, none⟩ = some (.int .i64 G.now) /\ w'.cell? ⟨g11, 3, none⟩ = some (.slice B2g m2g d2g) /\ w'.cell? ⟨g11, 4, none⟩ = some (.slice B3g m3g d3g) /\ w'.cell? ⟨g11, 5, none⟩ = some (.slice B4g m4g d4g)) [] hmx (HT19.out _ lt_) (fun hHeld => ?_)
     refine tkB 100 0 ?_
     refine tkB 101 1 ?_
     refine tkB 103 3 ?_
     refine tkB 104 4 ?_
     refine wpAnyN_ready (rs := [2]) (by kernel_rfl) (by simp) ?_
     refine AllReadyN.held rfl (by rfl) (fun K hK => ?_) AllReadyN.nil
     go_simp
     refine (rcap_calls _ B1u B2u B3u B4u m1u m2u m3u m4u d1u d2u d3u d4u U (HKU.out.later (HLR.out.trans lt_)) (t : Int)).mono ?_
     rintro e u2 ⟨rfl, bu2⟩
     have lu2 : Later wr u2 := Later.trans lt_ bu2
     refine hK.out _ _ ?_ (fun hHeld => ?_)
     ·exact HT19.out _ lt_
     clear hK K
     try simp only [Act.put, s1_, s2_, s3_]
     refine wpAnyN_ready (rs := [5]) (by kernel_rfl) (by simp) ?_
     refine AllReadyN.held rfl (by rfl) (fun K hK => ?_) AllReadyN.nil
     go_simp
     refine (rcap_calls _ A1 A2 A3 A4 n1 n2 n3 n4 c1 c2 c3 c4 D (H.out.later (HLXR.out.trans lt_)) (t : Int)).mono ?_
     rintro e u5 ⟨rfl, bu5⟩
     have lu5 : Later wr u5 := Later.trans lt_ bu5
     rw [HUT.out.1]
     refine hK.out _ _ ?_ (fun hHeld => ?_)
     ·exact HT19.out _ lt_
     clear hK K
     try simp only [Act.put, s1_, s2_, s3_]
     refine tkB 106 6 ?_
     refine tkB 107 7 ?_
     refine tkB 108 8 ?_
     refine tkB 109 9 ?_
     refine tkB 110 10 ?_
     refine tkB 111 11 ?_
     refine tkB 112 12 ?_
     refine tkU 113 13 ?_
     try simp only [Act.put, s1_, s2_, s3_]
     refine tkU 114 14 ?_
     try simp only [Act.put, s1_, s2_, s3_]
     refine tkU 115 15 ?_
     try simp only [Act.put, s1_, s2_, s3_]
     refine tkU 116 16 ?_
     try simp only [Act.put, s1_, s2_, s3_]
     refine tkU 117 17 ?_
     try simp only [Act.put, s1_, s2_, s3_]
     refine tkU 118 18 ?_
     try simp only [Act.put, s1_, s2_, s3_]
     refine tkU 119 19 ?_
     try simp only [Act.put, s1_, s2_, s3_]
     refine tkB 120 20 ?_
     refine tkB 121 21 ?_
     refine wpAnyN_done (by kernel_rfl) ?_ _
     clear hHeld
     go_wp2_with fail
     exact ⟨⟨t+1, by go_num, by omega, hide (HLR.out.trans lu5)⟩, by simp [intOf]; omega⟩
    ·have t2 : ((t : Int) == p) = false := by simpa using hne
     have t3 : decide ((t : Int) = p) = false := by simpa using hne
     have t4 : ((t : Int) != p) = true := by simpa using hne
     have HNE : Hid ((t : Int) ≠ p) := hide hne
     clear hne
     go_upto_region 19 with fail
     refine wp_region_N (fun w' => w'.cell? ⟨g8, 0, none⟩ = some (.slice B1u m1u d1u) /\ w'.cell? ⟨g8, 1, none⟩ = some (.int .i64 U.hor) /\ w'.cell? ⟨g8, 2, none⟩ = some (.int .i64 U.now) /\ w'.cell? ⟨g8, 3, none⟩ = some (.slice B2u m2u d2u) /\ w'.cell? ⟨g8, 4, none⟩ = some (.slice B3u m3u d3u) /\ w'.cell? ⟨g8, 5, none⟩ = some (.slice B4u m4u d4u) /\ w'.cell? ⟨w.heap.size, 0, none⟩ = some (.slice A1 n1 c1) /\ w'.cell? ⟨w.heap.size, 1, none⟩ = some (.int .i64 D.hor) /\ w'.cell? ⟨w.heap.size, 2, none⟩ = some (.int .i64 D.now) /\ w'.cell? ⟨w.heap.size, 3, none⟩ = some (.slice A2 n2 c2) /\ w'.cell? ⟨w.heap.size, 4, none⟩ = some (.slice A3 n3 c3) /\ w'.cell? ⟨w.heap.size, 5, none⟩ = some (.slice A4 n4 c4) /\ w'.cell? ⟨w.heap.size + 2, 0, none⟩ = some (.int .i64 p) /\ w'.cell? ⟨g11, 0, none⟩ = some (.slice B1g m1g d1g) /\ w'.cell? ⟨g11, 1, none⟩ = some (.int .i64 G.hor) /\ w'.cell? ⟨g11, 2, none⟩ = some (.int .i64 G.now) /\ w'.cell? ⟨g11, 3, none⟩ = some (.slice B2g m2g d2g) /\ w'.cell? ⟨g11, 4, none⟩ = some (.slice B3g m3g d3g) /\ w'.cell? ⟨g11, 5, none⟩ = some (.slice B4g m4g d4g)) [] hmx (HT19.out _ lt_) (fun hHeld => ?_)
     refine tkB 100 0 ?_
     refine tkB 101 1 ?_
     refine tkB 103 3 ?_
     refine tkB 104 4 ?_
     refine wpAnyN_ready (rs := [2]) (by kernel_rfl) (by simp) ?_
     refine AllReadyN.held rfl (by rfl) (fun K hK => ?_) AllReadyN.nil
     go_simp
     refine (rcap_calls _ B1u B2u B3u B4u m1u m2u m3u m4u d1u d2u d3u d4u U (HKU.out.later (HLR.out.trans lt_)) (t : Int)).mono ?_
     rintro e u2 ⟨rfl, bu2⟩
     have lu2 : Later wr u2 := Later.trans lt_ bu2
     refine hK.out _ _ ?_ (fun hHeld => ?_)
     ·exact HT19.out _ lt_
     clear hK K
     try simp only [Act.put, s1_, s2_, s3_]
     refine wpAnyN_ready (rs := [5]) (by kernel_rfl) (by simp) ?_
     refine AllReadyN.held rfl (by rfl) (fun K hK => ?_) AllReadyN.nil
     go_simp
     refine (rcap_calls _ A1 A2 A3 A4 n1 n2 n3 n4 c1 c2 c3 c4 D (H.out.later (HLXR.out.trans lt_)) (t : Int)).mono ?_
     rintro e u5 ⟨rfl, bu5⟩
     have lu5 : Later wr u5 := Later.trans lt_ bu5
     rw [HUT.out.1]
     refine hK.out _ _ ?_ (fun hHeld => ?_)
     ·exact HT19.out _ lt_
     clear hK K
     try simp only [Act.put, s1_, s2_, s3_]
     refine tkB 106 6 ?_
     refine tkB 107 7 ?_
     refine tkB 108 8 ?_
     refine tkB 109 9 ?_
     refine tkB 110 10 ?_
     refine tkB 111 11 ?_
     refine tkB 112 12 ?_
     refine tkB 113 13 ?_
     refine tkB 114 14 ?_
     refine tkB 116 16 ?_
     refine tkB 117 17 ?_
     refine wpAnyN_ready (rs := [15]) (by kernel_rfl) (by simp) ?_
     refine AllReadyN.held rfl (by rfl) (fun K hK => ?_) AllReadyN.nil
     go_simp
     refine (rcap_calls _ B1g B2g B3g B4g m1g m2g m3g m4g d1g d2g d3g d4g G (HKG.out.later (HLGR.out.trans lt_)) (t : Int)).mono ?_
     rintro e u15 ⟨rfl, bu15⟩
     have lu15 : Later wr u15 := Later.trans lt_ bu15
     refine hK.out _ _ ?_ (fun hHeld => ?_)
     ·exact HT19.out _ lt_
     clear hK K
     try simp only [Act.put, s1_, s2_, s3_]
     refine wpAnyN_ready (rs := [18]) (by kernel_rfl) (by simp) ?_
     refine AllReadyN.held rfl (by rfl) (fun K hK => ?_) AllReadyN.nil
     go_simp
     refine (rcap_calls _ A1 A2 A3 A4 n1 n2 n3 n4 c1 c2 c3 c4 D (H.out.later (HLXR.out.trans lt_)) (t : Int)).mono ?_
     rintro e u18 ⟨rfl, bu18⟩
     have lu18 : Later wr u18 := Later.trans lt_ bu18
     rw [HUT.out.2 HNE.out]
     refine hK.out _ _ ?_ (fun hHeld => ?_)
     ·exact HT19.out _ lt_
     clear hK K
     try simp only [Act.put, s1_, s2_, s3_]
     refine tkB 119 19 ?_
     refine tkB 120 20 ?_
     refine tkB 121 21 ?_
     refine wpAnyN_done (by kernel_rfl) ?_ _
     clear hHeld
     go_wp2_with fail
     exact ⟨⟨t+1, by go_num, by omega, hide (HLR.out.trans lu18)⟩, by simp [intOf]; omega⟩
   ·have t1 : decide ((t : Int) < 40) = false := by simp; omega
    go_wp2_with fail
    go_ret
    exact ⟨rfl, (HLW.out.trans L8.out).trans HLR.out⟩
 refine AllReadyN.held rfl (by rfl) (fun K hK => ?_) AllReadyN.nil
 go_simp
 obtain ⟨g8, hg8⟩ : ∃ g, g = W10.heap.size := ⟨_, rfl⟩
 rw [<- hg8]
 have hgl : W10.heap.size <= g8 := by rw [hg8]; exact Nat.le_refl _
 have HZ8 : Hid (Row (W10.drew.alloc (Obj.cells #[Value.slice none 0 0, Value.int .i64 0, Value.int .i64 0, Value.slice none 0 0, Value.slice none 0 0, Value.slice none 0 0] 27)) g8 27 [.slice none 0 0, .int .i64 0, .int .i64 0, .slice none 0 0, .slice none 0 0, .slice none 0 0]) := hide (by rw [hg8]; exact Row.new W10.drew _ _)
 clear hg8
 refine hK.out _ _ ?_ (fun hHeld => ?_)
 ·exact HT13.out _ lt_
 clear hK K
 try simp only [Act.put, s1_, s2_, s3_]
 refine wpAnyN_ready (rs := [6]) (by kernel_rfl) (by simp) ?_
 refine AllReadyN.held rfl (by rfl) (fun K hK => ?_) AllReadyN.nil
 go_simp
 refine (rcap_calls _ A1 A2 A3 A4 n1 n2 n3 n4 c1 c2 c3 c4 D (H.out.later (HLX.out.trans lt_)) p).mono ?_
 rintro e a6 ⟨rfl, ba6⟩
 have l6 : Later W10 a6 := Later.trans lt_ ba6
 have HZ8 := hide (HZ8.out.later ba6)
 refine hK.out _ _ ?_ (fun hHeld => ?_)
 ·exact HT13.out _ lt_
 clear hK K
 try simp only [Act.put, s1_, s2_, s3_]
 refine tkB 81 7 ?_
 refine wpAnyN_ready (rs := [8]) (by kernel_rfl) (by simp) ?_
 refine AllReadyN.held rfl (by rfl) (fun K hK => ?_) AllReadyN.nil
 go_simp
 refine (HCA13.out _ lt_).mono ?_
 rintro e a5 h1
 unfold CauP at h1
 dsimp only at h1
 obtain ⟨b5, hm5, B1u, B2u, B3u, B4u, m1u, m2u, m3u, m4u, d1u, d2u, d3u, d4u, rfl, hk5⟩ := h1
 have HK5 := hide (hk5.weaken (Below.size (Later.trans HLW.out lt_))); have HM5 := hide hm5
 clear hk5 hm5
 have hz8 := HZ8.out.later b5
 have q0 := hz8.cell (i := 0) rfl; have qz0 := hz8.frozen 0; have q1 := hz8.cell (i := 1) rfl; have qz1 := hz8.frozen 1; have q2 := hz8.cell (i := 2) rfl; have qz2 := hz8.frozen 2; have q3 := hz8.cell (i := 3) rfl; have qz3 := hz8.frozen 3; have q4 := hz8.cell (i := 4) rfl; have qz4 := hz8.frozen 4; have q5 := hz8.cell (i := 5) rfl; have qz5 := hz8.frozen 5
 have HZ9 := hide hz8
 clear hz8
 have l5 : Later W10 a5 := Later.trans lt_ b5
 refine hK.out _ _ ?_ (fun hHeld => ?_)
 ·exact HT13.out _ lt_
 clear hK K
 try simp only [Act.put, s1_, s2_, s3_]
 refine tkB 73 9 ?_
 refine tkB 83 10 ?_
 refine tkB 84 11 ?_
 refine wpAnyN_ready (rs := [13]) (by kernel_rfl) (by simp) ?_
 refine AllReadyN.held rfl (by rfl) (fun K hK => ?_) AllReadyN.nil
 go_simp
 refine hK.out _ _ ?_ (fun hHeld => ?_)
 ·exact HT13.out _ (Later.setCell (Later.setCell (Later.setCell (Later.setCell (Later.setCell (Later.setCell l5 hgl _) hgl _) hgl _) hgl _) hgl _) hgl _)
 clear hK K
 try simp only [Act.put, s1_, s2_, s3_]
 refine tkB 14 14 ?_
 refine wpAnyN_done (by kernel_rfl) ?_ _
 clear hHeld
 obtain ⟨W8, hW8⟩ : ∃ W, W = ((((((a5.setCell ⟨g8, 0, none⟩ (.slice B1u m1u d1u)).setCell ⟨g8, 1, none⟩ (.int .i64 U.hor)).setCell ⟨g8, 2, none⟩ (.int .i64 U.now)).setCell ⟨g8, 3, none⟩ (.slice B2u m2u d2u)).setCell ⟨g8, 4, none⟩ (.slice B3u m3u d3u)).setCell ⟨g8, 5, none⟩ (.slice B4u m4u d4u)) := ⟨_, rfl⟩
 have oo8 : Only g8 a5 W8 := by rw [hW8]; exact only6 g8 (.slice B1u m1u d1u) (.int .i64 U.hor) (.int .i64 U.now) (.slice B2u m2u d2u) (.slice B3u m3u d3u) (.slice B4u m4u d4u)
 have R8 : Hid (Row W8 g8 27 [.slice B1u m1u d1u, .int .i64 U.hor, .int .i64 U.now, .slice B2u m2u d2u, .slice B3u m3u d3u, .slice B4u m4u d4u]) := hide (by rw [hW8]; exact HZ9.out.put6 _ _ _ _ _ _)
 have L8 : Hid (Later W10 W8) := hide (Later.only l5 oo8 hgl)
 have HKU : Hid (BookIn W8 (.slice B1u m1u d1u) (.slice B2u m2u d2u) (.slice B3u m3u d3u) (.slice B4u m4u d4u) U) := hide (((HK5.out).box (IsBox.book HZ9.out) oo8).book (fit_of_may HM5.out))
 rw [<- hW8]
 clear hW8 oo8 q0 q1 q2 q3 q4 q5 qz0 qz1 qz2 qz3 qz4 qz5 l5 b5 HZ9 hgl
 have HT14 : Hid (∀ w', Later W8 w' -> w'.cell? ⟨g11, 0, none⟩ = some (.slice B1g m1g d1g) /\ w'.cell? ⟨g11, 1, none⟩ = some (.int .i64 G.hor) /\ w'.cell? ⟨g11, 2, none⟩ = some (.int .i64 G.now) /\ w'.cell? ⟨g11, 3, none⟩ = some (.slice B2g m2g d2g) /\ w'.cell? ⟨g11, 4, none⟩ = some (.slice B3g m3g d3g) /\ w'.cell? ⟨g11, 5, none⟩ = some (.slice B4g m4g d4g) /\ w'.cell? ⟨w.heap.size + 2, 0, none⟩ = some (.int .i64 p) /\ w'.cell? ⟨w.heap.size + 2, 1, none⟩ = some (.int .i64 q)) := hide (fun w' hb => ⟨(HRG.out.later (L10X.out.trans (L8.out.trans hb))).cell rfl, (HRG.out.later (L10X.out.trans (L8.out.trans hb))).cell rfl, (HRG.out.later (L10X.out.trans (L8.out.trans hb))).cell rfl, (HRG.out.later (L10X.out.trans (L8.out.trans hb))).cell rfl, (HRG.out.later (L10X.out.trans (L8.out.trans hb))).cell rfl, (HRG.out.later (L10X.out.trans (L8.out.trans hb))).cell rfl, (HR22.out.later (HLX.out.trans (L8.out.trans hb))).cell rfl, (HR22.out.later (HLX.out.trans (L8.out.trans hb))).cell rfl⟩)
 go_upto_region 14 with fail
 refine wp_region_N (fun w' => w'.cell? ⟨g11, 0, none⟩ = some (.slice B1g m1g d1g) /\ w'.cell? ⟨g11, 1, none⟩ = some (.int .i64 G.hor) /\ w'.cell? ⟨g11, 2, none⟩ = some (.int .i64 G.now) /\ w'.cell? ⟨g11, 3, none⟩ = some (.slice B2g m2g d2g) /\ w'.cell? ⟨g11, 4, none⟩ = some (.slice B3g m3g d3g) /\ w'.cell? ⟨g11, 5, none⟩ = some (.slice B4g m4g d4g) /\ w'.cell? ⟨w.heap.size + 2, 0, none⟩ = some (.int .i64 p) /\ w'.cell? ⟨w.heap.size + 2, 1, none⟩ = some (.int .i64 q)) [] hmx (HT14.out _ lt_) (fun hHeld => ?_)
 refine tkB 85 0 ?_
 refine tkB 86 1 ?_
 refine tkB 87 2 ?_
 refine tkB 88 3 ?_
 refine tkB 89 4 ?_
 refine tkB 90 5 ?_
 refine tkB 92 7 ?_
 refine tkB 93 8 ?_
 refine wpAnyN_ready (rs := [6]) (by kernel_rfl) (by simp) ?_
 refine AllReadyN.held rfl (by rfl) (fun K hK => ?_) AllReadyN.nil
 go_simp
 refine (rcap_calls _ B1g B2g B3g B4g m1g m2g m3g m4g d1g d2g d3g d4g G (HKG.out.later (L10X.out.trans (L8.out.trans lt_))) p).mono ?_
 rintro e a7 ⟨rfl, ba7⟩
 have l7 : Later W8 a7 := Later.trans lt_ ba7
 rw [HQ1.out]
 refine hK.out _ _ ?_ (fun hHeld => ?_)
 ·exact HT14.out _ lt_
 clear hK K
 try simp only [Act.put, s1_, s2_, s3_]
 refine tkB 94 9 ?_
 refine tkB 95 10 ?_
 refine wpAnyN_done (by kernel_rfl) ?_ _
 clear hHeld
 go_wp2_with fail
 have HLA7 := hide l7
 clear l7
 go_loopw [15] (fun iv wr => ∃ t : Nat, iv = .int .i64 (t : Int) /\ t <= 40 /\ Hid (Later W8 wr)) (fun iv _ => (40 - intOf iv).toNat)
 case atStart => exact ⟨0, rfl, Nat.zero_le _, HLA7⟩
 case round =>
  obtain ⟨t, rfl, ht, HLR⟩ := hrel
  by_cases ht4 : t < 40
  ·have t1 : decide ((t : Int) < 40) = true := by simp; omega
   have HUT : Hid (capV U (t : Int) = capV D (t : Int) /\ ((t : Int) ≠ p -> capV G (t : Int) = capV D (t : Int))) := hide (HU3.out (t : Int) (by omega))
   have HLXR : Hid (Later w2 wr) := hide (HLX.out.trans (L8.out.trans HLR.out))
   have HLGR : Hid (Later W10 wr) := hide (L10X.out.trans (L8.out.trans HLR.out))
   have HT19 : Hid (∀ w', Later wr w' -> w'.cell? ⟨g8, 0, none⟩ = some (.slice B1u m1u d1u) /\ w'.cell? ⟨g8, 1, none⟩ = some (.int .i64 U.hor) /\ w'.cell? ⟨g8, 2, none⟩ = some (.int .i64 U.now) /\ w'.cell? ⟨g8, 3, none⟩ = some (.slice B2u m2u d2u) /\ w'.cell? ⟨g8, 4, none⟩ = some (.slice B3u m3u d3u) /\ w'.cell? ⟨g8, 5, none⟩ = some (.slice B4u m4u d4u) /\ w'.cell? ⟨w.heap.size, 0, none⟩ = some (.slice A1 n1 c1) /\ w'.cell? ⟨w.heap.size, 1, none⟩ = some (.int .i64 D.hor) /\ w'.cell? ⟨w.heap.size, 2, none⟩ = some (.int .i64 D.now) /\ w'.cell? ⟨w.heap.size, 3, none⟩ = some (.slice A2 n2 c2) /\ w'.cell? ⟨w.heap.size, 4, none⟩ = some (.slice A3 n3 c3) /\ w'.cell? ⟨w.heap.size, 5, none⟩ = some (.slice A4 n4 c4) /\ w'.cell? ⟨w.heap.size + 2, 0, none⟩ = some (.int .i64 p) /\ w'.cell? ⟨g11, 0, none⟩ = some (.slice B1g m1g d1g) /\ w'.cell? ⟨g11, 1, none⟩ = some (.int .i64 G.hor) /\ w'.cell? ⟨g11, 2, none⟩ = some (.int .i64 G.now) /\ w'.cell? ⟨g11, 3, none⟩ = some (.slice B2g m2g d2g) /\ w'.cell? ⟨g11, 4, none⟩ = some (.slice B3g m3g d3g) /\ w'.cell? ⟨g11, 5, none⟩ = some (.slice B4g m4g d4g)) := hide (fun w' hb => ⟨(R8.out.later (HLR.out.trans hb)).cell rfl, (R8.out.later (HLR.out.trans hb)).cell rfl, (R8.out.later (HLR.out.trans hb)).cell rfl, (R8.out.later (HLR.out.trans hb)).cell rfl, (R8.out.later (HLR.out.trans hb)).cell rfl, (R8.out.later (HLR.out.trans hb)).cell rfl, (HR02.out.later (HLXR.out.trans hb)).cell rfl, (HR02.out.later (HLXR.out.trans hb)).cell rfl, (HR02.out.later (HLXR.out.trans hb)).cell rfl, (HR02.out.later (HLXR.out.trans hb)).cell rfl, (HR02.out.later (HLXR.out.trans hb)).cell rfl, (HR02.out.later (HLXR.out.trans hb)).cell rfl, (HR22.out.later (HLXR.out.trans hb)).cell rfl, (HRG.out.later (HLGR.out.trans hb)).cell rfl, (HRG.out.later (HLGR.out.trans hb)).cell rfl, (HRG.out.later (HLGR.out.trans hb)).cell rfl, (HRG.out.later (HLGR.out.trans hb)).cell rfl, (HRG.out.later (HLGR.out.trans hb)).cell rfl, (HRG.out.later (HLGR.out.trans hb)).cell rfl⟩)
   by_cases hne : (t : Int) = p
   ·have t2 : ((t : Int) == p) = true := by simpa using hne
    have t3 : decide ((t : Int) = p) = true := by simpa using hne
    have t4 : ((t : Int) != p) = false := by simpa using hne
    clear hne
    go_upto_region 19 with fail
    refine wp_region_N (fun w' => w'.cell? ⟨g8, 0, none⟩ = some (.slice B1u m1u d1u) /\ w'.cell? ⟨g8, 1, none⟩ = some (.int .i64 U.hor) /\ w'.cell? ⟨g8, 2, none⟩ = some (.int .i64 U.now) /\ w'.cell? ⟨g8, 3, none⟩ = some (.slice B2u m2u d2u) /\ w'.cell? ⟨g8, 4, none⟩ = some (.slice B3u m3u d3u) /\ w'.cell? ⟨g8, 5, none⟩ = some (.slice B4u m4u d4u) /\ w'.cell? ⟨w.heap.size, 0, none⟩ = some (.slice A1 n1 c1) /\ w'.cell? ⟨w.heap.size, 1, none⟩ = some (.int .i64 D.hor) /\ w'.cell? ⟨w.heap.size, 2, none⟩ = some (.int .i64 D.now) /\ w'.cell? ⟨w.heap.size, 3, none⟩ = some (.slice A2 n2 c2) /\ w'.cell? ⟨w.heap.size, 4, none⟩ = some (.slice A3 n3 c3) /\ w'.cell? ⟨w.heap.size, 5, none⟩ = some (.slice A4 n4 c4) /\ w'.cell? ⟨w.heap.size + 2, 0, none⟩ = some (.int .i64 p) /\ w'.cell? ⟨g11, 0, none⟩ = some (.slice B1g m1g d1g) /\ w'.cell? ⟨g11, 1, none⟩ = some (.int .i64 G.hor) /\ w'.cell? ⟨g11, 2, none⟩ = some (.int .i64 G.now) /\ w'.cell? ⟨g11, 3, none⟩ = some (.slice B2g m2g d2g) /\ w'.cell? ⟨g11, 4, none⟩ = some (.slice B3g m3g d3g) /\ w'.cell? ⟨g11, 5, none⟩ = some (.slice B4g m4g d4g)) [] hmx (HT19.out _ lt_) (fun hHeld => ?_)
    refine tkB 100 0 ?_
    refine tkB 101 1 ?_
    refine tkB 103 3 ?_
    refine tkB 104 4 ?_
    refine wpAnyN_ready (rs := [2]) (by kernel_rfl) (by simp) ?_
    refine AllReadyN.held rfl (by rfl) (fun K hK => ?_) AllReadyN.nil
    go_simp
    refine (rcap_calls _ B1u B2u B3u B4u m1u m2u m3u m4u d1u d2u d3u d4u U (HKU.out.later (HLR.out.trans lt_)) (t : Int)).mono ?_
    rintro e u2 ⟨rfl, bu2⟩
    have lu2 : Later wr u2 := Later.trans lt_ bu2
    refine hK.out _ _ ?_ (fun hHeld => ?_)
    ·exact HT19.out _ lt_
    clear hK K
    try simp only [Act.put, s1_, s2_, s3_]
    refine wpAnyN_ready (rs := [5]) (by kernel_rfl) (by simp) ?_
    refine AllReadyN.held rfl (by rfl) (fun K hK => ?_) AllReadyN.nil
    go_simp
    refine (rcap_calls _ A1 A2 A3 A4 n1 n2 n3 n4 c1 c2 c3 c4 D (H.out.later (HLXR.out.trans lt_)) (t : Int)).mono ?_
    rintro e u5 ⟨rfl, bu5⟩
    have lu5 : Later wr u5 := Later.trans lt_ bu5
    rw [HUT.out.1]
    refine hK.out _ _ ?_ (fun hHeld => ?_)
    ·exact HT19.out _ lt_
    clear hK K
    try simp only [Act.put, s1_, s2_, s3_]
    refine tkB 106 6 ?_
    refine tkB 107 7 ?_
    refine tkB 108 8 ?_
    refine tkB 109 9 ?_
    refine tkB 110 10 ?_
    refine tkB 111 11 ?_
    refine tkB 112 12 ?_
    refine tkU 113 13 ?_
    try simp only [Act.put, s1_, s2_, s3_]
    refine tkU 114 14 ?_
    try simp only [Act.put, s1_, s2_, s3_]
    refine tkU 115 15 ?_
    try simp only [Act.put, s1_, s2_, s3_]
    refine tkU 116 16 ?_
    try simp only [Act.put, s1_, s2_, s3_]
    refine tkU 117 17 ?_
    try simp only [Act.put, s1_, s2_, s3_]
    refine tkU 118 18 ?_
    try simp only [Act.put, s1_, s2_, s3_]
    refine tkU 119 19 ?_
    try simp only [Act.put, s1_, s2_, s3_]
    refine tkB 120 20 ?_
    refine tkB 121 21 ?_
    refine wpAnyN_done (by kernel_rfl) ?_ _
    clear hHeld
    go_wp2_with fail
    exact ⟨⟨t+1, by go_num, by omega, hide (HLR.out.trans lu5)⟩, by simp [intOf]; omega⟩
   ·have t2 : ((t : Int) == p) = false := by simpa using hne
    have t3 : decide ((t : Int) = p) = false := by simpa using hne
    have t4 : ((t : Int) != p) = true := by simpa using hne
    have HNE : Hid ((t : Int) ≠ p) := hide hne
    clear hne
    go_upto_region 19 with fail
    refine wp_region_N (fun w' => w'.cell? ⟨g8, 0, none⟩ = some (.slice B1u m1u d1u) /\ w'.cell? ⟨g8, 1, none⟩ = some (.int .i64 U.hor) /\ w'.cell? ⟨g8, 2, none⟩ = some (.int .i64 U.now) /\ w'.cell? ⟨g8, 3, none⟩ = some (.slice B2u m2u d2u) /\ w'.cell? ⟨g8, 4, none⟩ = some (.slice B3u m3u d3u) /\ w'.cell? ⟨g8, 5, none⟩ = some (.slice B4u m4u d4u) /\ w'.cell? ⟨w.heap.size, 0, none⟩ = some (.slice A1 n1 c1) /\ w'.cell? ⟨w.heap.size, 1, none⟩ = some (.int .i64 D.hor) /\ w'.cell? ⟨w.heap.size, 2, none⟩ = some (.int .i64 D.now) /\ w'.cell? ⟨w.heap.size, 3, none⟩ = some (.slice A2 n2 c2) /\ w'.cell? ⟨w.heap.size, 4, none⟩ = some (.slice A3 n3 c3) /\ w'.cell? ⟨w.heap.size, 5, none⟩ = some (.slice A4 n4 c4) /\ w'.cell? ⟨w.heap.size + 2, 0, none⟩ = some (.int .i64 p) /\ w'.cell? ⟨g11, 0, none⟩ = some (.slice B1g m1g d1g) /\ w'.cell? ⟨g11, 1, none⟩ = some (.int .i64 G.hor) /\ w'.cell? ⟨g11, 2, none⟩ = some (.int .i64 G.now) /\ w'.cell? ⟨g11, 3, none⟩ = some (.slice B2g m2g d2g) /\ w'.cell? ⟨g11, 4, none⟩ = some (.slice B3g m3g d3g) /\ w'.cell? ⟨g11, 5, none⟩ = some (.slice B4g m4g d4g)) [] hmx (HT19.out _ lt_) (fun hHeld => ?_)
    refine tkB 100 0 ?_
    refine tkB 101 1 ?_
    refine tkB 103 3 ?_
    refine tkB 104 4 ?_
    refine wpAnyN_ready (rs := [2]) (by kernel_rfl) (by simp) ?_
    refine AllReadyN.held rfl (by rfl) (fun K hK => ?_) AllReadyN.nil
    go_simp
    refine (rcap_calls _ B1u B2u B3u B4u m1u m2u m3u m4u d1u d2u d3u d4u U (HKU.out.later (HLR.out.trans lt_)) (t : Int)).mono ?_
    rintro e u2 ⟨rfl, bu2⟩
    have lu2 : Later wr u2 := Later.trans lt_ bu2
    refine hK.out _ _ ?_ (fun hHeld => ?_)
    ·exact HT19.out _ lt_
    clear hK K
    try simp only [Act.put, s1_, s2_, s3_]
    refine wpAnyN_ready (rs := [5]) (by kernel_rfl) (by simp) ?_
    refine AllReadyN.held rfl (by rfl) (fun K hK => ?_) AllReadyN.nil
    go_simp
    refine (rcap_calls _ A1 A2 A3 A4 n1 n2 n3 n4 c1 c2 c3 c4 D (H.out.later (HLXR.out.trans lt_)) (t : Int)).mono ?_
    rintro e u5 ⟨rfl, bu5⟩
    have lu5 : Later wr u5 := Later.trans lt_ bu5
    rw [HUT.out.1]
    refine hK.out _ _ ?_ (fun hHeld => ?_)
    ·exact HT19.out _ lt_
    clear hK K
    try simp only [Act.put, s1_, s2_, s3_]
    refine tkB 106 6 ?_
    refine tkB 107 7 ?_
    refine tkB 108 8 ?_
    refine tkB 109 9 ?_
    refine tkB 110 10 ?_
    refine tkB 111 11 ?_
    refine tkB 112 12 ?_
    refine tkB 113 13 ?_
    refine tkB 114 14 ?_
    refine tkB 116 16 ?_
    refine tkB 117 17 ?_
    refine wpAnyN_ready (rs := [15]) (by kernel_rfl) (by simp) ?_
    refine AllReadyN.held rfl (by rfl) (fun K hK => ?_) AllReadyN.nil
    go_simp
    refine (rcap_calls _ B1g B2g B3g B4g m1g m2g m3g m4g d1g d2g d3g d4g G (HKG.out.later (HLGR.out.trans lt_)) (t : Int)).mono ?_
    rintro e u15 ⟨rfl, bu15⟩
    have lu15 : Later wr u15 := Later.trans lt_ bu15
    refine hK.out _ _ ?_ (fun hHeld => ?_)
    ·exact HT19.out _ lt_
    clear hK K
    try simp only [Act.put, s1_, s2_, s3_]
    refine wpAnyN_ready (rs := [18]) (by kernel_rfl) (by simp) ?_
    refine AllReadyN.held rfl (by rfl) (fun K hK => ?_) AllReadyN.nil
    go_simp
    refine (rcap_calls _ A1 A2 A3 A4 n1 n2 n3 n4 c1 c2 c3 c4 D (H.out.later (HLXR.out.trans lt_)) (t : Int)).mono ?_
    rintro e u18 ⟨rfl, bu18⟩
    have lu18 : Later wr u18 := Later.trans lt_ bu18
    rw [HUT.out.2 HNE.out]
    refine hK.out _ _ ?_ (fun hHeld => ?_)
    ·exact HT19.out _ lt_
    clear hK K
    try simp only [Act.put, s1_, s2_, s3_]
    refine tkB 119 19 ?_
    refine tkB 120 20 ?_
    refine tkB 121 21 ?_
    refine wpAnyN_done (by kernel_rfl) ?_ _
    clear hHeld
    go_wp2_with fail
    exact ⟨⟨t+1, by go_num, by omega, hide (HLR.out.trans lu18)⟩, by simp [intOf]; omega⟩
  ·have t1 : decide ((t : Int) < 40) = false := by simp; omega
   go_wp2_with fail
   go_ret
   exact ⟨rfl, (HLW.out.trans L8.out).trans HLR.out⟩
end Go.Proofs.YtncbebfhakcgdaaGreat
