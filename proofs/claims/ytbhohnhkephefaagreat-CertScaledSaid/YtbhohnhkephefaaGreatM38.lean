import Derived.Test.YtbhohnhkephefaaGreatM37
import Derived.Test.YtbhohnhkephefaaGreatM20
import Derived.Test.YtbhohnhkephefaaGreatM17
import Derived.Deep.Strs
import Derived.Test.YtbhohnhkephefaaGreatM36

/- CertTells: the walk. -/
set_option linter.unusedVariables false
set_option linter.unusedSimpArgs false
set_option maxRecDepth 100000
namespace Go.Proofs.YtbhohnhkephefaaGreat
open Go.RowKit Go.Shelf
attribute [local go_sem ↓] Go.wp_at_zero Go.wp_at_succ

/-- what a problem came to, as it came in -/
def ArgSol (w : World) (v : Value) : Prop := ∃ how A5 n5 c5 vY sv A7 n7 c7 sv' A8 n8 c8 vU vR y z u r, v = .agg #[.int .i64 how, .slice A5 n5 c5, vY, .bool sv, .slice A7 n7 c7, .bool sv', .slice A8 n8 c8, vU, vR] ∧ Rats EAny w vY y ∧ EAny w (.agg #[.bool sv, .slice A7 n7 c7, .bool sv', .slice A8 n8 c8]) z ∧ Rats EAny w vU u ∧ Rats EAny w vR r
def colD (A : List (List Rat)) (B C : List Rat) (ok : Bool) (u : List Rat) : List Rat := if colOk A B C ok u = true then colsL A u C.length else []
theorem colD_len (A : List (List Rat)) (B C : List Rat) (ok : Bool) (u : List Rat) : (colD A B C ok u).length ≤ C.length := by
  unfold colD
  split
  · rename_i h
    unfold colOk at h
    rw [Bool.and_eq_true] at h
    rw [colsL_len (rightB_facts h.1).2.2.2.1]; exact Nat.le_refl _
  · simp
theorem colpost_any {w w' : World} {A : List (List Rat)} {B C u : List Rat} {ok : Bool} {K : Nat} {e : Ending} (h : ColPost w A B C ok u K e w') :
    ∃ A1 n c, e = .returned (.tuple #[.slice A1 n c, .bool (colOk A B C ok u)]) ∧ Rats EOwn w' (.slice A1 n c) (colD A B C ok u) ∧ (∀ x ∈ colD A B C ok u, Sized x K) ∧ Later w w' := by
  obtain ⟨hb, ⟨h1, v, rfl, h2, h3⟩ | ⟨h1, rfl⟩⟩ := h
  · have h4 := On.now h2
    obtain ⟨A1, n, c, rfl, -⟩ := h4.form
    rw [h1]
    have e : colD A B C ok u = colsL A u C.length := by unfold colD; rw [if_pos h1]
    rw [e]
    exact ⟨A1, n, c, rfl, h4, h3, hb⟩
  · rw [h1]
    have e : colD A B C ok u = [] := by unfold colD; rw [h1]; rfl
    rw [e]
    exact ⟨none, 0, 0, rfl, rats_nil _ _, fun x hx => by simp at hx, hb⟩
set_option maxHeartbeats 16000000 in
theorem certtells_walk (w : World) (v0 v1 v2 : Value) (h0 : ArgStd w v0) (h1 : ArgProof w v1) (h2 : ArgSol w v2) :
    Calls Tryz.prog 3 #[v0, v1, v2] w (RetV w (.bool true)) := by
  obtain ⟨vA, vB, vC, A, B, C, rfl, ha, hb, hc⟩ := h0
  have HA := hide ha; have HB := hide hb; have HC := hide hc
  obtain ⟨A1, n1, c1, rfl, -⟩ := ha.form
  obtain ⟨A2, n2, c2, rfl, -⟩ := hb.form
  obtain ⟨A3, n3, c3, rfl, -⟩ := hc.form
  clear ha hb hc
  obtain ⟨vY, vU, vR, y, u, r, rfl, hy, hu, hr⟩ := h1
  have HY := hide hy; have HU := hide hu; have HR := hide hr
  obtain ⟨A14, n14, c14, rfl, -⟩ := hy.form
  obtain ⟨A15, n15, c15, rfl, -⟩ := hu.form
  obtain ⟨A16, n16, c16, rfl, -⟩ := hr.form
  clear hy hu hr
  obtain ⟨how, A5, n5, c5, vY', sv, A7, n7, c7, sv', A8, n8, c8, vU', vR', y', zz, u', r', rfl, hy, hz, hu, hr⟩ := h2
  have HY' := hide hy; have HU' := hide hu; have HR' := hide hr; have HZ := hide hz
  obtain ⟨A6, n6, c6, rfl, -⟩ := hy.form
  obtain ⟨A9, n9, c9, rfl, -⟩ := hu.form
  obtain ⟨A10, n10, c10, rfl, -⟩ := hr.form
  clear hy hu hr hz
  obtain ⟨W0, hW0⟩ : ∃ W0, W0 = (((w.alloc (Obj.cells #[Value.slice A1 n1 c1, Value.slice A2 n2 c2, Value.slice A3 n3 c3] 25)).alloc (Obj.cells #[Value.slice A14 n14 c14, Value.slice A15 n15 c15, Value.slice A16 n16 c16] 27)).alloc (Obj.cells #[Value.int .i64 how, Value.slice A5 n5 c5, Value.slice A6 n6 c6, Value.bool sv, Value.slice A7 n7 c7, Value.bool sv', Value.slice A8 n8 c8, Value.slice A9 n9 c9, Value.slice A10 n10 c10] 35)) := ⟨_, rfl⟩
  obtain ⟨hb0, r0, r1, r2, hsz0⟩ := boxes3 w [.slice A1 n1 c1, .slice A2 n2 c2, .slice A3 n3 c3] [.slice A14 n14 c14, .slice A15 n15 c15, .slice A16 n16 c16] [.int .i64 how, .slice A5 n5 c5, .slice A6 n6 c6, .bool sv, .slice A7 n7 c7, .bool sv', .slice A8 n8 c8, .slice A9 n9 c9, .slice A10 n10 c10] 25 27 35 hW0
  have B0 := hide hb0; have HW0 := hide hW0
  have R0 := hide r0; have R1 := hide r1; have R2 := hide r2
  clear hb0 hW0 hsz0 r0 r1 r2
  go_enter Tryz.func3, Tryz.ntmps3
  go_upto_region 1 with fail
  rw [← HW0.out]
  go_wp2_with fail
  ((with_reducible refine (awake12_calls W0).mono ?_); rintro e w1 ⟨rfl, b1⟩)
  have HL1 := hide b1
  clear b1
  have r_d := R0.out.later HL1.out
  have d0 := r_d.cell (i := 0) rfl; have d1 := r_d.cell (i := 1) rfl; have d2 := r_d.cell (i := 2) rfl
  clear r_d
  have r_e := R1.out.later HL1.out
  have e0 := r_e.cell (i := 0) rfl; have e1 := r_e.cell (i := 1) rfl; have e2 := r_e.cell (i := 2) rfl
  clear r_e
  have r_f := R2.out.later HL1.out
  have f0 := r_f.cell (i := 0) rfl; have f1 := r_f.cell (i := 1) rfl; have f2 := r_f.cell (i := 2) rfl; have f3 := r_f.cell (i := 3) rfl; have f4 := r_f.cell (i := 4) rfl; have f5 := r_f.cell (i := 5) rfl; have f6 := r_f.cell (i := 6) rfl; have f7 := r_f.cell (i := 7) rfl; have f8 := r_f.cell (i := 8) rfl
  clear r_f
  go_wp2_with fail
  ((refine (fewstd_calls w1 _ _ _ A B C 6 (HA.out.later EAny.later (B0.out.trans HL1.out)) (HB.out.later EAny.later (B0.out.trans HL1.out)) (HC.out.later EAny.later (B0.out.trans HL1.out)) (by omega)).mono ?_); rintro e w2 ⟨t, rfl, hf, b2⟩)
  have HF := hide hf; have HL2 := hide (HL1.out.trans b2)
  clear hf b2 d0 d1 d2 e0 e1 e2 f0 f1 f2 f3 f4 f5 f6 f7 f8
  have r_d := R0.out.later HL2.out
  have d0 := r_d.cell (i := 0) rfl; have d1 := r_d.cell (i := 1) rfl; have d2 := r_d.cell (i := 2) rfl
  clear r_d
  have r_e := R1.out.later HL2.out
  have e0 := r_e.cell (i := 0) rfl; have e1 := r_e.cell (i := 1) rfl; have e2 := r_e.cell (i := 2) rfl
  clear r_e
  have r_f := R2.out.later HL2.out
  have f0 := r_f.cell (i := 0) rfl; have f1 := r_f.cell (i := 1) rfl; have f2 := r_f.cell (i := 2) rfl; have f3 := r_f.cell (i := 3) rfl; have f4 := r_f.cell (i := 4) rfl; have f5 := r_f.cell (i := 5) rfl; have f6 := r_f.cell (i := 6) rfl; have f7 := r_f.cell (i := 7) rfl; have f8 := r_f.cell (i := 8) rfl
  clear r_f
  cases t with
  | false =>
    go_wp2_with fail
    go_ret
    exact ⟨rfl, B0.out.trans HL2.out⟩
  | true =>
  obtain ⟨hl1, hl2, hl3, ok, hs⟩ := HF.out rfl
  have HS2 := hide hs; have HLA := hide hl1; have HLB := hide hl2; have HLC := hide hl3
  clear hs hl1 hl2 hl3 HF HA HB HC
  go_wp2_with fail
  ((with_reducible refine (fewproof_calls w2 _ _ _ y u r (HY.out.later EAny.later (B0.out.trans HL2.out)) (HU.out.later EAny.later (B0.out.trans HL2.out)) (HR.out.later EAny.later (B0.out.trans HL2.out))).mono ?_); rintro e w3 ⟨t, rfl, hf, b3⟩)
  have HF := hide hf; have HL3 := hide (HL2.out.trans b3); have HK3 := hide b3
  clear hf b3 d0 d1 d2 e0 e1 e2 f0 f1 f2 f3 f4 f5 f6 f7 f8
  have r_d := R0.out.later HL3.out
  have d0 := r_d.cell (i := 0) rfl; have d1 := r_d.cell (i := 1) rfl; have d2 := r_d.cell (i := 2) rfl
  clear r_d
  have r_e := R1.out.later HL3.out
  have e0 := r_e.cell (i := 0) rfl; have e1 := r_e.cell (i := 1) rfl; have e2 := r_e.cell (i := 2) rfl
  clear r_e
  have r_f := R2.out.later HL3.out
  have f0 := r_f.cell (i := 0) rfl; have f1 := r_f.cell (i := 1) rfl; have f2 := r_f.cell (i := 2) rfl; have f3 := r_f.cell (i := 3) rfl; have f4 := r_f.cell (i := 4) rfl; have f5 := r_f.cell (i := 5) rfl; have f6 := r_f.cell (i := 6) rfl; have f7 := r_f.cell (i := 7) rfl; have f8 := r_f.cell (i := 8) rfl
  clear r_f
  cases t with
  | false =>
    go_wp2_with fail
    go_ret
    exact ⟨rfl, B0.out.trans HL3.out⟩
  | true =>
  obtain ⟨⟨hy1, hy2⟩, ⟨hu1, hu2⟩, ⟨hr1, hr2⟩⟩ := HF.out rfl
  have HYL := hide hy1; have HUL := hide hu1; have HRL := hide hr1
  clear HY HU HR
  have HY := hide hy2; have HU := hide hu2; have HR := hide hr2
  clear hy1 hy2 hu1 hu2 hr1 hr2 HF
  go_wp2_with fail
  ((with_reducible refine (fewproof_calls w3 _ _ _ y' u' r' (HY'.out.later EAny.later (B0.out.trans HL3.out)) (HU'.out.later EAny.later (B0.out.trans HL3.out)) (HR'.out.later EAny.later (B0.out.trans HL3.out))).mono ?_); rintro e w4 ⟨t, rfl, hf, b4⟩)
  have HF := hide hf; have HL4 := hide (HL3.out.trans b4); have HK4 := hide b4
  clear hf b4 d0 d1 d2 e0 e1 e2 f0 f1 f2 f3 f4 f5 f6 f7 f8
  have r_d := R0.out.later HL4.out
  have d0 := r_d.cell (i := 0) rfl; have d1 := r_d.cell (i := 1) rfl; have d2 := r_d.cell (i := 2) rfl
  clear r_d
  have r_e := R1.out.later HL4.out
  have e0 := r_e.cell (i := 0) rfl; have e1 := r_e.cell (i := 1) rfl; have e2 := r_e.cell (i := 2) rfl
  clear r_e
  have r_f := R2.out.later HL4.out
  have f0 := r_f.cell (i := 0) rfl; have f1 := r_f.cell (i := 1) rfl; have f2 := r_f.cell (i := 2) rfl; have f3 := r_f.cell (i := 3) rfl; have f4 := r_f.cell (i := 4) rfl; have f5 := r_f.cell (i := 5) rfl; have f6 := r_f.cell (i := 6) rfl; have f7 := r_f.cell (i := 7) rfl; have f8 := r_f.cell (i := 8) rfl
  clear r_f
  cases t with
  | false =>
    go_wp2_with fail
    go_ret
    exact ⟨rfl, B0.out.trans HL4.out⟩
  | true =>
  obtain ⟨⟨hy1, hy2⟩, ⟨hu1, hu2⟩, ⟨hr1, hr2⟩⟩ := HF.out rfl
  have HYL' := hide hy1; have HUL' := hide hu1; have HRL' := hide hr1
  clear HY' HU' HR'
  have HY' := hide hy2; have HU' := hide hu2; have HR' := hide hr2
  clear hy1 hy2 hu1 hu2 hr1 hr2 HF
  go_wp2_with fail
  obtain ⟨W5, hW5⟩ : ∃ W5, W5 = w4.alloc (Obj.cells #[Value.bool sv, Value.slice A7 n7 c7, Value.bool sv', Value.slice A8 n8 c8] 33) := ⟨_, rfl⟩
  obtain ⟨g5, hg5⟩ : ∃ g5, g5 = w4.heap.size := ⟨_, rfl⟩
  have hb : Later w4 W5 := by rw [hW5]; exact (Later.refl _).alloc _
  have hr : Row W5 g5 33 [.bool sv, .slice A7 n7 c7, .bool sv', .slice A8 n8 c8] := by rw [hW5, hg5]; exact Row.new _ _ _
  rw [← hW5, ← hg5]
  have HR5 := hide hr
  have HB5 := hide hb
  clear hb hr hW5 hg5
  refine (few_calls W5 _ [zz] 1 (rats_one HR5.out (EAny.later _ _ _ _ HZ.out (B0.out.trans (HL4.out.trans HB5.out)))) (by omega)).mono ?_
  rintro e w9 ⟨t, rfl, hf, hw9⟩
  subst hw9
  have HF := hide hf
  have HLW := hide (HL4.out.trans HB5.out)
  clear hf
  cases t with
  | false =>
    go_wp2_with fail
    go_ret
    exact ⟨rfl, B0.out.trans HLW.out⟩
  | true =>
  have HZZ : Hid (RawR W5 (.agg #[.bool sv, .slice A7 n7 c7, .bool sv', .slice A8 n8 c8]) zz 1) := hide (rats_one_inv HR5.out (HF.out rfl).2)
  have HS := hide (HS2.out.later (HK3.out.trans (HK4.out.trans HB5.out)))
  have hy := HY.out.later ERaw.later (HK4.out.trans HB5.out); have hu := HU.out.later ERaw.later (HK4.out.trans HB5.out); have hr := HR.out.later ERaw.later (HK4.out.trans HB5.out)
  have hy2 := HY'.out.later ERaw.later HB5.out; have hu2 := HU'.out.later ERaw.later HB5.out; have hr2 := HR'.out.later ERaw.later HB5.out
  clear HS2 HY HU HR HY' HU' HR' HK3 HK4 HF HR5 d0 d1 d2 e0 e1 e2 f0 f1 f2 f3 f4 f5 f6 f7 f8
  have HY := hide hy; have HU := hide hu; have HR := hide hr
  have HY' := hide hy2; have HU' := hide hu2; have HR' := hide hr2
  clear hy hu hr hy2 hu2 hr2
  have HWW := hide (B0.out.trans HLW.out)
  have r_d := R0.out.later HLW.out
  have d0 := r_d.cell (i := 0) rfl; have d1 := r_d.cell (i := 1) rfl; have d2 := r_d.cell (i := 2) rfl
  clear r_d
  have r_e := R1.out.later HLW.out
  have e0 := r_e.cell (i := 0) rfl; have e1 := r_e.cell (i := 1) rfl; have e2 := r_e.cell (i := 2) rfl
  clear r_e
  have r_f := R2.out.later HLW.out
  have f0 := r_f.cell (i := 0) rfl; have f1 := r_f.cell (i := 1) rfl; have f2 := r_f.cell (i := 2) rfl; have f3 := r_f.cell (i := 3) rfl; have f4 := r_f.cell (i := 4) rfl; have f5 := r_f.cell (i := 5) rfl; have f6 := r_f.cell (i := 6) rfl; have f7 := r_f.cell (i := 7) rfl; have f8 := r_f.cell (i := 8) rfl
  clear r_f
  go_wp2_with fail
  refine (columns_calls W5 _ _ _ _ 1 1 A B C u ok HS.out HU.out (by omega) (by have := HUL.out; omega)).mono ?_
  rintro e w6 hcp
  obtain ⟨B1, m1, d1', rfl, ho, hz1, b6⟩ := colpost_any hcp
  have HO1 := hide ho; have HZ1 := hide hz1; have HK6 := hide b6
  clear hcp ho hz1 b6 d0 d1 d2 e0 e1 e2 f0 f1 f2 f3 f4 f5 f6 f7 f8
  have r_d := R0.out.later (HLW.out.trans HK6.out)
  have d0 := r_d.cell (i := 0) rfl; have d1 := r_d.cell (i := 1) rfl; have d2 := r_d.cell (i := 2) rfl
  clear r_d
  have r_e := R1.out.later (HLW.out.trans HK6.out)
  have e0 := r_e.cell (i := 0) rfl; have e1 := r_e.cell (i := 1) rfl; have e2 := r_e.cell (i := 2) rfl
  clear r_e
  have r_f := R2.out.later (HLW.out.trans HK6.out)
  have f0 := r_f.cell (i := 0) rfl; have f1 := r_f.cell (i := 1) rfl; have f2 := r_f.cell (i := 2) rfl; have f3 := r_f.cell (i := 3) rfl; have f4 := r_f.cell (i := 4) rfl; have f5 := r_f.cell (i := 5) rfl; have f6 := r_f.cell (i := 6) rfl; have f7 := r_f.cell (i := 7) rfl; have f8 := r_f.cell (i := 8) rfl
  clear r_f
  go_wp2_with fail
  refine (rcolumns_calls w6 _ _ _ _ 1 1 A B C u ok (HS.out.later HK6.out) (HU.out.later ERaw.later HK6.out) (by omega) (by have := HUL.out; omega)).mono ?_
  rintro e w7 hcp
  obtain ⟨B2, m2, d2', rfl, ho, -, b7⟩ := colpost_any hcp
  have hd : Later w7 w7.drew := (Later.refl w7).drew
  have HO2 := hide (ho.later EOwn.later hd)
  have ho1 := HO1.out.later EOwn.later (b7.trans hd)
  clear HO1
  have HO1 := hide ho1
  have HD7 := hide (HK6.out.trans (b7.trans hd))
  clear hcp ho b7 ho1 hd d0 d1 d2 e0 e1 e2 f0 f1 f2 f3 f4 f5 f6 f7 f8
  go_upto_region 7 with fail
  obtain ⟨uf, huf⟩ : ∃ u, fulfB A B C ok y = u := ⟨_, rfl⟩
  obtain ⟨ub, hub⟩ : ∃ x, bestB A B C ok y u = x := ⟨_, rfl⟩
  obtain ⟨un, hun⟩ : ∃ x, noneB A B C ok u = x := ⟨_, rfl⟩
  obtain ⟨ue, hue⟩ : ∃ x, endlessB A B C ok y r = x := ⟨_, rfl⟩
  obtain ⟨up, hup⟩ : ∃ x, provesB A B C ok how y' zz u' r' = x := ⟨_, rfl⟩
  obtain ⟨uc, huc⟩ : ∃ x, colOk A B C ok u = x := ⟨_, rfl⟩
  have HUF := hide huf; have HUB := hide hub; have HUN := hide hun; have HUE := hide hue; have HUP := hide hup
  rw [huc]
  clear huf hub hun hue hup huc
  have h0 := R0.out.later (HLW.out.trans HD7.out)
  have h1 := R1.out.later (HLW.out.trans HD7.out)
  have HT7 : Hid (∀ w', Later w7.drew w' → w'.cell? ⟨w.heap.size, 0, none⟩ = some (.slice A1 n1 c1) ∧ w'.cell? ⟨w.heap.size, 1, none⟩ = some (.slice A2 n2 c2) ∧ w'.cell? ⟨w.heap.size, 2, none⟩ = some (.slice A3 n3 c3) ∧ w'.cell? ⟨w.heap.size + 1, 0, none⟩ = some (.slice A14 n14 c14) ∧ w'.cell? ⟨w.heap.size + 1, 1, none⟩ = some (.slice A15 n15 c15)) := hide fun w' hb => ⟨(h0.later hb).cell rfl, (h0.later hb).cell rfl, (h0.later hb).cell rfl, (h1.later hb).cell rfl, (h1.later hb).cell rfl⟩
  clear h0 h1
  have hmx : Tryz.prog.follows .mixedOrders = true := by kernel_rfl
  refine wp_region_N (fun w' => w'.cell? ⟨w.heap.size, 0, none⟩ = some (.slice A1 n1 c1) ∧ w'.cell? ⟨w.heap.size, 1, none⟩ = some (.slice A2 n2 c2) ∧ w'.cell? ⟨w.heap.size, 2, none⟩ = some (.slice A3 n3 c3) ∧ w'.cell? ⟨w.heap.size + 1, 0, none⟩ = some (.slice A14 n14 c14) ∧ w'.cell? ⟨w.heap.size + 1, 1, none⟩ = some (.slice A15 n15 c15)) [] hmx (HT7.out _ (Later.refl _)) (fun hHeld => ?_)
  refine wpAnyN_takeD (some 53) (by rfl) (i := 0) (oi := _) (v := ?_) rfl (by kernel_rfl) (by kernel_rfl) (by kernel_rfl) (by kernel_rfl) (fun _ _ _ h => h) (Or.inl ⟨by rfl, ?_⟩) (by assumption) ?_
  rotate_left
  · intro w hSw; (try dsimp only at hSw); go_simp
    first | done | with_reducible rfl
  try simp only [Act.put, List.setIfInBounds_toArray, List.set_cons_zero, List.set_cons_succ]
  refine wpAnyN_takeD (some 54) (by rfl) (i := 1) (oi := _) (v := ?_) rfl (by kernel_rfl) (by kernel_rfl) (by kernel_rfl) (by kernel_rfl) (fun _ _ _ h => h) (Or.inl ⟨by rfl, ?_⟩) (by assumption) ?_
  rotate_left
  · intro w hSw; (try dsimp only at hSw); go_simp
    first | done | with_reducible rfl
  try simp only [Act.put, List.setIfInBounds_toArray, List.set_cons_zero, List.set_cons_succ]
  refine wpAnyN_ready (rs := [2]) (by kernel_rfl) (by simp) ?_
  refine AllReadyN.held rfl (by rfl) (fun K hK => ?_) AllReadyN.nil
  go_simp
  refine (lsame_calls _ _ _ (colD A B C ok u) (colD A B C ok u) 200000 200000 (HO1.out.later EOwn.later (Later.refl w7.drew)) (HO2.out.later EOwn.later (Later.refl w7.drew)) HZ1.out HZ1.out (by omega) (by omega) (by have := colD_len A B C ok u; have := HLC.out; omega) true (by simp)).mono ?_
  rintro e w202 ⟨rfl, b202⟩

  have l2 : Later w7.drew w202 := Later.trans (Later.refl w7.drew) b202
  refine hK.out _ _ ?_ (fun hHeld => ?_)
  · exact HT7.out _ l2
  clear hK K
  try simp only [Act.put, List.setIfInBounds_toArray, List.set_cons_zero, List.set_cons_succ]
  refine wpAnyN_takeD (some 56) (by rfl) (i := 3) (oi := _) (v := ?_) rfl (by kernel_rfl) (by kernel_rfl) (by kernel_rfl) (by kernel_rfl) (fun _ _ _ h => h) (Or.inl ⟨by rfl, ?_⟩) (by assumption) ?_
  rotate_left
  · intro w hSw; (try dsimp only at hSw); go_simp
    first | done | with_reducible rfl
  try simp only [Act.put, List.setIfInBounds_toArray, List.set_cons_zero, List.set_cons_succ]
  refine wpAnyN_takeD (some 57) (by rfl) (i := 4) (oi := _) (v := ?_) rfl (by kernel_rfl) (by kernel_rfl) (by kernel_rfl) (by kernel_rfl) (fun _ _ _ h => h) (Or.inl ⟨by rfl, ?_⟩) (by assumption) ?_
  rotate_left
  · intro w hSw; (try dsimp only at hSw); go_simp
    first | done | with_reducible rfl
  try simp only [Act.put, List.setIfInBounds_toArray, List.set_cons_zero, List.set_cons_succ]
  refine wpAnyN_takeD (some 58) (by rfl) (i := 5) (oi := _) (v := ?_) rfl (by kernel_rfl) (by kernel_rfl) (by kernel_rfl) (by kernel_rfl) (fun _ _ _ h => h) (Or.inl ⟨by rfl, ?_⟩) (by assumption) ?_
  rotate_left
  · intro w hSw; (try dsimp only at hSw); go_simp
    first | done | with_reducible rfl
  try simp only [Act.put, List.setIfInBounds_toArray, List.set_cons_zero, List.set_cons_succ]
  refine wpAnyN_takeD (some 59) (by rfl) (i := 6) (oi := _) (v := ?_) rfl (by kernel_rfl) (by kernel_rfl) (by kernel_rfl) (by kernel_rfl) (fun _ _ _ h => h) (Or.inl ⟨by rfl, ?_⟩) (by assumption) ?_
  rotate_left
  · intro w hSw; (try dsimp only at hSw); go_simp
    first | done | with_reducible rfl
  try simp only [Act.put, List.setIfInBounds_toArray, List.set_cons_zero, List.set_cons_succ]
  refine wpAnyN_takeD (some 60) (by rfl) (i := 7) (oi := _) (v := ?_) rfl (by kernel_rfl) (by kernel_rfl) (by kernel_rfl) (by kernel_rfl) (fun _ _ _ h => h) (Or.inl ⟨by rfl, ?_⟩) (by assumption) ?_
  rotate_left
  · intro w hSw; (try dsimp only at hSw); go_simp
    first | done | with_reducible rfl
  try simp only [Act.put, List.setIfInBounds_toArray, List.set_cons_zero, List.set_cons_succ]
  refine wpAnyN_takeD (some 61) (by rfl) (i := 8) (oi := _) (v := ?_) rfl (by kernel_rfl) (by kernel_rfl) (by kernel_rfl) (by kernel_rfl) (fun _ _ _ h => h) (Or.inl ⟨by rfl, ?_⟩) (by assumption) ?_
  rotate_left
  · intro w hSw; (try dsimp only at hSw); go_simp
    first | done | with_reducible rfl
  try simp only [Act.put, List.setIfInBounds_toArray, List.set_cons_zero, List.set_cons_succ]
  refine wpAnyN_takeD (some 62) (by rfl) (i := 9) (oi := _) (v := ?_) rfl (by kernel_rfl) (by kernel_rfl) (by kernel_rfl) (by kernel_rfl) (fun _ _ _ h => h) (Or.inl ⟨by rfl, ?_⟩) (by assumption) ?_
  rotate_left
  · intro w hSw; (try dsimp only at hSw); go_simp
    first | done | with_reducible rfl
  try simp only [Act.put, List.setIfInBounds_toArray, List.set_cons_zero, List.set_cons_succ]
  refine wpAnyN_takeD (some 63) (by rfl) (i := 10) (oi := _) (v := ?_) rfl (by kernel_rfl) (by kernel_rfl) (by kernel_rfl) (by kernel_rfl) (fun _ _ _ h => h) (Or.inl ⟨by rfl, ?_⟩) (by assumption) ?_
  rotate_left
  · intro w hSw; (try dsimp only at hSw); go_simp
    first | done | with_reducible rfl
  try simp only [Act.put, List.setIfInBounds_toArray, List.set_cons_zero, List.set_cons_succ]
  refine wpAnyN_takeD (some 64) (by rfl) (i := 11) (oi := _) (v := ?_) rfl (by kernel_rfl) (by kernel_rfl) (by kernel_rfl) (by kernel_rfl) (fun _ _ _ h => h) (Or.inl ⟨by rfl, ?_⟩) (by assumption) ?_
  rotate_left
  · intro w hSw; (try dsimp only at hSw); go_simp
    first | done | with_reducible rfl
  try simp only [Act.put, List.setIfInBounds_toArray, List.set_cons_zero, List.set_cons_succ]
  refine wpAnyN_takeD (some 65) (by rfl) (i := 12) (oi := _) (v := ?_) rfl (by kernel_rfl) (by kernel_rfl) (by kernel_rfl) (by kernel_rfl) (fun _ _ _ h => h) (Or.inl ⟨by rfl, ?_⟩) (by assumption) ?_
  rotate_left
  · intro w hSw; (try dsimp only at hSw); go_simp
    first | done | with_reducible rfl
  try simp only [Act.put, List.setIfInBounds_toArray, List.set_cons_zero, List.set_cons_succ]
  refine wpAnyN_takeD (some 67) (by rfl) (i := 14) (oi := _) (v := ?_) rfl (by kernel_rfl) (by kernel_rfl) (by kernel_rfl) (by kernel_rfl) (fun _ _ _ h => h) (Or.inl ⟨by rfl, ?_⟩) (by assumption) ?_
  rotate_left
  · intro w hSw; (try dsimp only at hSw); go_simp
    first | done | with_reducible rfl
  try simp only [Act.put, List.setIfInBounds_toArray, List.set_cons_zero, List.set_cons_succ]
  refine wpAnyN_takeD (some 68) (by rfl) (i := 15) (oi := _) (v := ?_) rfl (by kernel_rfl) (by kernel_rfl) (by kernel_rfl) (by kernel_rfl) (fun _ _ _ h => h) (Or.inl ⟨by rfl, ?_⟩) (by assumption) ?_
  rotate_left
  · intro w hSw; (try dsimp only at hSw); go_simp
    first | done | with_reducible rfl
  try simp only [Act.put, List.setIfInBounds_toArray, List.set_cons_zero, List.set_cons_succ]
  refine wpAnyN_takeD (some 69) (by rfl) (i := 16) (oi := _) (v := ?_) rfl (by kernel_rfl) (by kernel_rfl) (by kernel_rfl) (by kernel_rfl) (fun _ _ _ h => h) (Or.inl ⟨by rfl, ?_⟩) (by assumption) ?_
  rotate_left
  · intro w hSw; (try dsimp only at hSw); go_simp
    first | done | with_reducible rfl
  try simp only [Act.put, List.setIfInBounds_toArray, List.set_cons_zero, List.set_cons_succ]
  refine wpAnyN_ready (rs := [13]) (by kernel_rfl) (by simp) ?_
  refine AllReadyN.held rfl (by rfl) (fun K hK => ?_) AllReadyN.nil
  go_simp
  refine (fulfils_calls _ _ _ _ _ 1 1 A B C y ok (HS.out.later (HD7.out.trans l2)) (HY.out.later ERaw.later (HD7.out.trans l2)) (by omega) (by have := HYL.out; omega)).mono ?_
  rintro e w213 ⟨rfl, b213⟩
  rw [HUF.out]
  have l13 : Later w7.drew w213 := Later.trans l2 b213
  refine hK.out _ _ ?_ (fun hHeld => ?_)
  · exact HT7.out _ l13
  clear hK K
  try simp only [Act.put, List.setIfInBounds_toArray, List.set_cons_zero, List.set_cons_succ]
  refine wpAnyN_ready (rs := [17]) (by kernel_rfl) (by simp) ?_
  refine AllReadyN.held rfl (by rfl) (fun K hK => ?_) AllReadyN.nil
  go_simp
  refine (rfulfils_calls _ _ _ _ _ 1 1 A B C y ok (HS.out.later (HD7.out.trans l13)) (HY.out.later ERaw.later (HD7.out.trans l13)) (by omega) (by have := HYL.out; omega)).mono ?_
  rintro e w217 ⟨rfl, b217⟩
  rw [HUF.out]
  have l17 : Later w7.drew w217 := Later.trans l13 b217
  refine hK.out _ _ ?_ (fun hHeld => ?_)
  · exact HT7.out _ l17
  clear hK K
  try simp only [Act.put, List.setIfInBounds_toArray, List.set_cons_zero, List.set_cons_succ]
  refine wpAnyN_takeD (some 71) (by rfl) (i := 18) (oi := _) (v := ?_) rfl (by kernel_rfl) (by kernel_rfl) (by kernel_rfl) (by kernel_rfl) (fun _ _ _ h => h) (Or.inl ⟨by rfl, ?_⟩) (by assumption) ?_
  rotate_left
  · intro w hSw; (try dsimp only at hSw); go_simp
    first | done | with_reducible rfl
  try simp only [Act.put, List.setIfInBounds_toArray, List.set_cons_zero, List.set_cons_succ]
  refine wpAnyN_takeD (some 72) (by rfl) (i := 19) (oi := _) (v := ?_) rfl (by kernel_rfl) (by kernel_rfl) (by kernel_rfl) (by kernel_rfl) (fun _ _ _ h => h) (Or.inl ⟨by rfl, ?_⟩) (by assumption) ?_
  rotate_left
  · intro w hSw; (try dsimp only at hSw); go_simp
    first | done | with_reducible rfl
  try simp only [Act.put, List.setIfInBounds_toArray, List.set_cons_zero, List.set_cons_succ]
  refine wpAnyN_takeD (some 73) (by rfl) (i := 20) (oi := _) (v := ?_) rfl (by kernel_rfl) (by kernel_rfl) (by kernel_rfl) (by kernel_rfl) (fun _ _ _ h => h) (Or.inl ⟨by rfl, ?_⟩) (by assumption) ?_
  rotate_left
  · intro w hSw; (try dsimp only at hSw); go_simp
    first | done | with_reducible rfl
  try simp only [Act.put, List.setIfInBounds_toArray, List.set_cons_zero, List.set_cons_succ]
  refine wpAnyN_takeD (some 74) (by rfl) (i := 21) (oi := _) (v := ?_) rfl (by kernel_rfl) (by kernel_rfl) (by kernel_rfl) (by kernel_rfl) (fun _ _ _ h => h) (Or.inl ⟨by rfl, ?_⟩) (by assumption) ?_
  rotate_left
  · intro w hSw; (try dsimp only at hSw); go_simp
    first | done | with_reducible rfl
  try simp only [Act.put, List.setIfInBounds_toArray, List.set_cons_zero, List.set_cons_succ]
  refine wpAnyN_takeD (some 75) (by rfl) (i := 22) (oi := _) (v := ?_) rfl (by kernel_rfl) (by kernel_rfl) (by kernel_rfl) (by kernel_rfl) (fun _ _ _ h => h) (Or.inl ⟨by rfl, ?_⟩) (by assumption) ?_
  rotate_left
  · intro w hSw; (try dsimp only at hSw); go_simp
    first | done | with_reducible rfl
  try simp only [Act.put, List.setIfInBounds_toArray, List.set_cons_zero, List.set_cons_succ]
  refine wpAnyN_takeD (some 76) (by rfl) (i := 23) (oi := _) (v := ?_) rfl (by kernel_rfl) (by kernel_rfl) (by kernel_rfl) (by kernel_rfl) (fun _ _ _ h => h) (Or.inl ⟨by rfl, ?_⟩) (by assumption) ?_
  rotate_left
  · intro w hSw; (try dsimp only at hSw); go_simp
    first | done | with_reducible rfl
  try simp only [Act.put, List.setIfInBounds_toArray, List.set_cons_zero, List.set_cons_succ]
  refine wpAnyN_takeD (some 77) (by rfl) (i := 24) (oi := _) (v := ?_) rfl (by kernel_rfl) (by kernel_rfl) (by kernel_rfl) (by kernel_rfl) (fun _ _ _ h => h) (Or.inl ⟨by rfl, ?_⟩) (by assumption) ?_
  rotate_left
  · intro w hSw; (try dsimp only at hSw); go_simp
    first | done | with_reducible rfl
  try simp only [Act.put, List.setIfInBounds_toArray, List.set_cons_zero, List.set_cons_succ]
  refine wpAnyN_takeD (some 78) (by rfl) (i := 25) (oi := _) (v := ?_) rfl (by kernel_rfl) (by kernel_rfl) (by kernel_rfl) (by kernel_rfl) (fun _ _ _ h => h) (Or.inl ⟨by rfl, ?_⟩) (by assumption) ?_
  rotate_left
  · intro w hSw; (try dsimp only at hSw); go_simp
    first | done | with_reducible rfl
  try simp only [Act.put, List.setIfInBounds_toArray, List.set_cons_zero, List.set_cons_succ]
  refine wpAnyN_takeD (some 80) (by rfl) (i := 27) (oi := _) (v := ?_) rfl (by kernel_rfl) (by kernel_rfl) (by kernel_rfl) (by kernel_rfl) (fun _ _ _ h => h) (Or.inl ⟨by rfl, ?_⟩) (by assumption) ?_
  rotate_left
  · intro w hSw; (try dsimp only at hSw); go_simp
    first | done | with_reducible rfl
  try simp only [Act.put, List.setIfInBounds_toArray, List.set_cons_zero, List.set_cons_succ]
  refine wpAnyN_takeD (some 81) (by rfl) (i := 28) (oi := _) (v := ?_) rfl (by kernel_rfl) (by kernel_rfl) (by kernel_rfl) (by kernel_rfl) (fun _ _ _ h => h) (Or.inl ⟨by rfl, ?_⟩) (by assumption) ?_
  rotate_left
  · intro w hSw; (try dsimp only at hSw); go_simp
    first | done | with_reducible rfl
  try simp only [Act.put, List.setIfInBounds_toArray, List.set_cons_zero, List.set_cons_succ]
  refine wpAnyN_takeD (some 82) (by rfl) (i := 29) (oi := _) (v := ?_) rfl (by kernel_rfl) (by kernel_rfl) (by kernel_rfl) (by kernel_rfl) (fun _ _ _ h => h) (Or.inl ⟨by rfl, ?_⟩) (by assumption) ?_
  rotate_left
  · intro w hSw; (try dsimp only at hSw); go_simp
    first | done | with_reducible rfl
  try simp only [Act.put, List.setIfInBounds_toArray, List.set_cons_zero, List.set_cons_succ]
  refine wpAnyN_takeD (some 83) (by rfl) (i := 30) (oi := _) (v := ?_) rfl (by kernel_rfl) (by kernel_rfl) (by kernel_rfl) (by kernel_rfl) (fun _ _ _ h => h) (Or.inl ⟨by rfl, ?_⟩) (by assumption) ?_
  rotate_left
  · intro w hSw; (try dsimp only at hSw); go_simp
    first | done | with_reducible rfl
  try simp only [Act.put, List.setIfInBounds_toArray, List.set_cons_zero, List.set_cons_succ]
  refine wpAnyN_takeD (some 84) (by rfl) (i := 31) (oi := _) (v := ?_) rfl (by kernel_rfl) (by kernel_rfl) (by kernel_rfl) (by kernel_rfl) (fun _ _ _ h => h) (Or.inl ⟨by rfl, ?_⟩) (by assumption) ?_
  rotate_left
  · intro w hSw; (try dsimp only at hSw); go_simp
    first | done | with_reducible rfl
  try simp only [Act.put, List.setIfInBounds_toArray, List.set_cons_zero, List.set_cons_succ]
  refine wpAnyN_ready (rs := [26]) (by kernel_rfl) (by simp) ?_
  refine AllReadyN.held rfl (by rfl) (fun K hK => ?_) AllReadyN.nil
  go_simp
  refine (best_calls _ _ _ _ _ _ 1 1 1 A B C y u ok (HS.out.later (HD7.out.trans l17)) (HY.out.later ERaw.later (HD7.out.trans l17)) (HU.out.later ERaw.later (HD7.out.trans l17)) (by omega) (by omega) (by have := HYL.out; omega) (by have := HUL.out; omega)).mono ?_
  rintro e w226 ⟨rfl, b226⟩
  rw [HUB.out]
  have l26 : Later w7.drew w226 := Later.trans l17 b226
  refine hK.out _ _ ?_ (fun hHeld => ?_)
  · exact HT7.out _ l26
  clear hK K
  try simp only [Act.put, List.setIfInBounds_toArray, List.set_cons_zero, List.set_cons_succ]
  refine wpAnyN_ready (rs := [32]) (by kernel_rfl) (by simp) ?_
  refine AllReadyN.held rfl (by rfl) (fun K hK => ?_) AllReadyN.nil
  go_simp
  refine (rbest_calls _ _ _ _ _ _ 1 1 1 A B C y u ok (HS.out.later (HD7.out.trans l26)) (HY.out.later ERaw.later (HD7.out.trans l26)) (HU.out.later ERaw.later (HD7.out.trans l26)) (by omega) (by omega) (by have := HYL.out; omega) (by have := HUL.out; omega)).mono ?_
  rintro e w232 ⟨rfl, b232⟩
  rw [HUB.out]
  have l32 : Later w7.drew w232 := Later.trans l26 b232
  refine hK.out _ _ ?_ (fun hHeld => ?_)
  · exact HT7.out _ l32
  clear hK K
  try simp only [Act.put, List.setIfInBounds_toArray, List.set_cons_zero, List.set_cons_succ]
  refine wpAnyN_takeD (some 86) (by rfl) (i := 33) (oi := _) (v := ?_) rfl (by kernel_rfl) (by kernel_rfl) (by kernel_rfl) (by kernel_rfl) (fun _ _ _ h => h) (Or.inl ⟨by rfl, ?_⟩) (by assumption) ?_
  rotate_left
  · intro w hSw; (try dsimp only at hSw); go_simp
    first | done | with_reducible rfl
  try simp only [Act.put, List.setIfInBounds_toArray, List.set_cons_zero, List.set_cons_succ]
  refine wpAnyN_takeD (some 87) (by rfl) (i := 34) (oi := _) (v := ?_) rfl (by kernel_rfl) (by kernel_rfl) (by kernel_rfl) (by kernel_rfl) (fun _ _ _ h => h) (Or.inl ⟨by rfl, ?_⟩) (by assumption) ?_
  rotate_left
  · intro w hSw; (try dsimp only at hSw); go_simp
    first | done | with_reducible rfl
  try simp only [Act.put, List.setIfInBounds_toArray, List.set_cons_zero, List.set_cons_succ]
  refine wpAnyN_done (by kernel_rfl) ?_ _
  have HK8 := hide (HD7.out.trans l32)
  clear hHeld
  go_wp2_with fail
  clear HT7 HO1 HO2 HZ1
  obtain ⟨w8, hw8⟩ : ∃ w8, w8 = w232 := ⟨_, rfl⟩
  rw [← hw8] at HK8 ⊢
  clear hw8
  have hd : Later w8 w8.drew := (Later.refl w8).drew
  have HD8 := hide (HK8.out.trans hd)
  have h0 := R0.out.later (HLW.out.trans HD8.out)
  have h1 := R1.out.later (HLW.out.trans HD8.out)
  have h2 := R2.out.later (HLW.out.trans HD8.out)
  have HT9 : Hid (∀ w', Later w8.drew w' → w'.cell? ⟨w.heap.size, 0, none⟩ = some (.slice A1 n1 c1) ∧ w'.cell? ⟨w.heap.size, 1, none⟩ = some (.slice A2 n2 c2) ∧ w'.cell? ⟨w.heap.size, 2, none⟩ = some (.slice A3 n3 c3) ∧ w'.cell? ⟨w.heap.size + 1, 0, none⟩ = some (.slice A14 n14 c14) ∧ w'.cell? ⟨w.heap.size + 1, 1, none⟩ = some (.slice A15 n15 c15) ∧ w'.cell? ⟨w.heap.size + 1, 2, none⟩ = some (.slice A16 n16 c16) ∧ w'.cell? ⟨w.heap.size + 1 + 1, 0, none⟩ = some (.int .i64 how) ∧ w'.cell? ⟨w.heap.size + 1 + 1, 1, none⟩ = some (.slice A5 n5 c5) ∧ w'.cell? ⟨w.heap.size + 1 + 1, 2, none⟩ = some (.slice A6 n6 c6) ∧ w'.cell? ⟨w.heap.size + 1 + 1, 3, none⟩ = some (.bool sv) ∧ w'.cell? ⟨w.heap.size + 1 + 1, 4, none⟩ = some (.slice A7 n7 c7) ∧ w'.cell? ⟨w.heap.size + 1 + 1, 5, none⟩ = some (.bool sv') ∧ w'.cell? ⟨w.heap.size + 1 + 1, 6, none⟩ = some (.slice A8 n8 c8) ∧ w'.cell? ⟨w.heap.size + 1 + 1, 7, none⟩ = some (.slice A9 n9 c9) ∧ w'.cell? ⟨w.heap.size + 1 + 1, 8, none⟩ = some (.slice A10 n10 c10)) := hide fun w' hb => ⟨(h0.later hb).cell rfl, (h0.later hb).cell rfl, (h0.later hb).cell rfl, (h1.later hb).cell rfl, (h1.later hb).cell rfl, (h1.later hb).cell rfl, (h2.later hb).cell rfl, (h2.later hb).cell rfl, (h2.later hb).cell rfl, (h2.later hb).cell rfl, (h2.later hb).cell rfl, (h2.later hb).cell rfl, (h2.later hb).cell rfl, (h2.later hb).cell rfl, (h2.later hb).cell rfl⟩
  clear hd h0 h1 h2
  refine wp_region_N (fun w' => w'.cell? ⟨w.heap.size, 0, none⟩ = some (.slice A1 n1 c1) ∧ w'.cell? ⟨w.heap.size, 1, none⟩ = some (.slice A2 n2 c2) ∧ w'.cell? ⟨w.heap.size, 2, none⟩ = some (.slice A3 n3 c3) ∧ w'.cell? ⟨w.heap.size + 1, 0, none⟩ = some (.slice A14 n14 c14) ∧ w'.cell? ⟨w.heap.size + 1, 1, none⟩ = some (.slice A15 n15 c15) ∧ w'.cell? ⟨w.heap.size + 1, 2, none⟩ = some (.slice A16 n16 c16) ∧ w'.cell? ⟨w.heap.size + 1 + 1, 0, none⟩ = some (.int .i64 how) ∧ w'.cell? ⟨w.heap.size + 1 + 1, 1, none⟩ = some (.slice A5 n5 c5) ∧ w'.cell? ⟨w.heap.size + 1 + 1, 2, none⟩ = some (.slice A6 n6 c6) ∧ w'.cell? ⟨w.heap.size + 1 + 1, 3, none⟩ = some (.bool sv) ∧ w'.cell? ⟨w.heap.size + 1 + 1, 4, none⟩ = some (.slice A7 n7 c7) ∧ w'.cell? ⟨w.heap.size + 1 + 1, 5, none⟩ = some (.bool sv') ∧ w'.cell? ⟨w.heap.size + 1 + 1, 6, none⟩ = some (.slice A8 n8 c8) ∧ w'.cell? ⟨w.heap.size + 1 + 1, 7, none⟩ = some (.slice A9 n9 c9) ∧ w'.cell? ⟨w.heap.size + 1 + 1, 8, none⟩ = some (.slice A10 n10 c10)) [] hmx (HT9.out _ (Later.refl _)) (fun hHeld => ?_)
  refine wpAnyN_takeD (some 88) (by rfl) (i := 0) (oi := _) (v := ?_) rfl (by kernel_rfl) (by kernel_rfl) (by kernel_rfl) (by kernel_rfl) (fun _ _ _ h => h) (Or.inl ⟨by rfl, ?_⟩) (by assumption) ?_
  rotate_left
  · intro w hSw; (try dsimp only at hSw); go_simp
    first | done | with_reducible rfl
  try simp only [Act.put, List.setIfInBounds_toArray, List.set_cons_zero, List.set_cons_succ]
  refine wpAnyN_takeD (some 89) (by rfl) (i := 1) (oi := _) (v := ?_) rfl (by kernel_rfl) (by kernel_rfl) (by kernel_rfl) (by kernel_rfl) (fun _ _ _ h => h) (Or.inl ⟨by rfl, ?_⟩) (by assumption) ?_
  rotate_left
  · intro w hSw; (try dsimp only at hSw); go_simp
    first | done | with_reducible rfl
  try simp only [Act.put, List.setIfInBounds_toArray, List.set_cons_zero, List.set_cons_succ]
  refine wpAnyN_takeD (some 90) (by rfl) (i := 2) (oi := _) (v := ?_) rfl (by kernel_rfl) (by kernel_rfl) (by kernel_rfl) (by kernel_rfl) (fun _ _ _ h => h) (Or.inl ⟨by rfl, ?_⟩) (by assumption) ?_
  rotate_left
  · intro w hSw; (try dsimp only at hSw); go_simp
    first | done | with_reducible rfl
  try simp only [Act.put, List.setIfInBounds_toArray, List.set_cons_zero, List.set_cons_succ]
  refine wpAnyN_takeD (some 92) (by rfl) (i := 4) (oi := _) (v := ?_) rfl (by kernel_rfl) (by kernel_rfl) (by kernel_rfl) (by kernel_rfl) (fun _ _ _ h => h) (Or.inl ⟨by rfl, ?_⟩) (by assumption) ?_
  rotate_left
  · intro w hSw; (try dsimp only at hSw); go_simp
    first | done | with_reducible rfl
  try simp only [Act.put, List.setIfInBounds_toArray, List.set_cons_zero, List.set_cons_succ]
  refine wpAnyN_takeD (some 93) (by rfl) (i := 5) (oi := _) (v := ?_) rfl (by kernel_rfl) (by kernel_rfl) (by kernel_rfl) (by kernel_rfl) (fun _ _ _ h => h) (Or.inl ⟨by rfl, ?_⟩) (by assumption) ?_
  rotate_left
  · intro w hSw; (try dsimp only at hSw); go_simp
    first | done | with_reducible rfl
  try simp only [Act.put, List.setIfInBounds_toArray, List.set_cons_zero, List.set_cons_succ]
  refine wpAnyN_takeD (some 94) (by rfl) (i := 6) (oi := _) (v := ?_) rfl (by kernel_rfl) (by kernel_rfl) (by kernel_rfl) (by kernel_rfl) (fun _ _ _ h => h) (Or.inl ⟨by rfl, ?_⟩) (by assumption) ?_
  rotate_left
  · intro w hSw; (try dsimp only at hSw); go_simp
    first | done | with_reducible rfl
  try simp only [Act.put, List.setIfInBounds_toArray, List.set_cons_zero, List.set_cons_succ]
  refine wpAnyN_ready (rs := [3]) (by kernel_rfl) (by simp) ?_
  refine AllReadyN.held rfl (by rfl) (fun K hK => ?_) AllReadyN.nil
  go_simp
  refine (none_calls _ _ _ _ _ 1 1 A B C u ok (HS.out.later (HD8.out.trans (Later.refl w8.drew))) (HU.out.later ERaw.later (HD8.out.trans (Later.refl w8.drew))) (by omega) (by have := HUL.out; omega)).mono ?_
  rintro e w203 ⟨rfl, b203⟩
  rw [HUN.out]
  have l3 : Later w8.drew w203 := Later.trans (Later.refl w8.drew) b203
  refine hK.out _ _ ?_ (fun hHeld => ?_)
  · exact HT9.out _ l3
  clear hK K
  try simp only [Act.put, List.setIfInBounds_toArray, List.set_cons_zero, List.set_cons_succ]
  refine wpAnyN_ready (rs := [7]) (by kernel_rfl) (by simp) ?_
  refine AllReadyN.held rfl (by rfl) (fun K hK => ?_) AllReadyN.nil
  go_simp
  refine (rnone_calls _ _ _ _ _ 1 1 A B C u ok (HS.out.later (HD8.out.trans l3)) (HU.out.later ERaw.later (HD8.out.trans l3)) (by omega) (by have := HUL.out; omega)).mono ?_
  rintro e w207 ⟨rfl, b207⟩
  rw [HUN.out]
  have l7 : Later w8.drew w207 := Later.trans l3 b207
  refine hK.out _ _ ?_ (fun hHeld => ?_)
  · exact HT9.out _ l7
  clear hK K
  try simp only [Act.put, List.setIfInBounds_toArray, List.set_cons_zero, List.set_cons_succ]
  refine wpAnyN_takeD (some 96) (by rfl) (i := 8) (oi := _) (v := ?_) rfl (by kernel_rfl) (by kernel_rfl) (by kernel_rfl) (by kernel_rfl) (fun _ _ _ h => h) (Or.inl ⟨by rfl, ?_⟩) (by assumption) ?_
  rotate_left
  · intro w hSw; (try dsimp only at hSw); go_simp
    first | done | with_reducible rfl
  try simp only [Act.put, List.setIfInBounds_toArray, List.set_cons_zero, List.set_cons_succ]
  refine wpAnyN_takeD (some 97) (by rfl) (i := 9) (oi := _) (v := ?_) rfl (by kernel_rfl) (by kernel_rfl) (by kernel_rfl) (by kernel_rfl) (fun _ _ _ h => h) (Or.inl ⟨by rfl, ?_⟩) (by assumption) ?_
  rotate_left
  · intro w hSw; (try dsimp only at hSw); go_simp
    first | done | with_reducible rfl
  try simp only [Act.put, List.setIfInBounds_toArray, List.set_cons_zero, List.set_cons_succ]
  refine wpAnyN_takeD (some 98) (by rfl) (i := 10) (oi := _) (v := ?_) rfl (by kernel_rfl) (by kernel_rfl) (by kernel_rfl) (by kernel_rfl) (fun _ _ _ h => h) (Or.inl ⟨by rfl, ?_⟩) (by assumption) ?_
  rotate_left
  · intro w hSw; (try dsimp only at hSw); go_simp
    first | done | with_reducible rfl
  try simp only [Act.put, List.setIfInBounds_toArray, List.set_cons_zero, List.set_cons_succ]
  refine wpAnyN_takeD (some 99) (by rfl) (i := 11) (oi := _) (v := ?_) rfl (by kernel_rfl) (by kernel_rfl) (by kernel_rfl) (by kernel_rfl) (fun _ _ _ h => h) (Or.inl ⟨by rfl, ?_⟩) (by assumption) ?_
  rotate_left
  · intro w hSw; (try dsimp only at hSw); go_simp
    first | done | with_reducible rfl
  try simp only [Act.put, List.setIfInBounds_toArray, List.set_cons_zero, List.set_cons_succ]
  refine wpAnyN_takeD (some 100) (by rfl) (i := 12) (oi := _) (v := ?_) rfl (by kernel_rfl) (by kernel_rfl) (by kernel_rfl) (by kernel_rfl) (fun _ _ _ h => h) (Or.inl ⟨by rfl, ?_⟩) (by assumption) ?_
  rotate_left
  · intro w hSw; (try dsimp only at hSw); go_simp
    first | done | with_reducible rfl
  try simp only [Act.put, List.setIfInBounds_toArray, List.set_cons_zero, List.set_cons_succ]
  refine wpAnyN_takeD (some 101) (by rfl) (i := 13) (oi := _) (v := ?_) rfl (by kernel_rfl) (by kernel_rfl) (by kernel_rfl) (by kernel_rfl) (fun _ _ _ h => h) (Or.inl ⟨by rfl, ?_⟩) (by assumption) ?_
  rotate_left
  · intro w hSw; (try dsimp only at hSw); go_simp
    first | done | with_reducible rfl
  try simp only [Act.put, List.setIfInBounds_toArray, List.set_cons_zero, List.set_cons_succ]
  refine wpAnyN_takeD (some 102) (by rfl) (i := 14) (oi := _) (v := ?_) rfl (by kernel_rfl) (by kernel_rfl) (by kernel_rfl) (by kernel_rfl) (fun _ _ _ h => h) (Or.inl ⟨by rfl, ?_⟩) (by assumption) ?_
  rotate_left
  · intro w hSw; (try dsimp only at hSw); go_simp
    first | done | with_reducible rfl
  try simp only [Act.put, List.setIfInBounds_toArray, List.set_cons_zero, List.set_cons_succ]
  refine wpAnyN_takeD (some 104) (by rfl) (i := 16) (oi := _) (v := ?_) rfl (by kernel_rfl) (by kernel_rfl) (by kernel_rfl) (by kernel_rfl) (fun _ _ _ h => h) (Or.inl ⟨by rfl, ?_⟩) (by assumption) ?_
  rotate_left
  · intro w hSw; (try dsimp only at hSw); go_simp
    first | done | with_reducible rfl
  try simp only [Act.put, List.setIfInBounds_toArray, List.set_cons_zero, List.set_cons_succ]
  refine wpAnyN_takeD (some 105) (by rfl) (i := 17) (oi := _) (v := ?_) rfl (by kernel_rfl) (by kernel_rfl) (by kernel_rfl) (by kernel_rfl) (fun _ _ _ h => h) (Or.inl ⟨by rfl, ?_⟩) (by assumption) ?_
  rotate_left
  · intro w hSw; (try dsimp only at hSw); go_simp
    first | done | with_reducible rfl
  try simp only [Act.put, List.setIfInBounds_toArray, List.set_cons_zero, List.set_cons_succ]
  refine wpAnyN_takeD (some 106) (by rfl) (i := 18) (oi := _) (v := ?_) rfl (by kernel_rfl) (by kernel_rfl) (by kernel_rfl) (by kernel_rfl) (fun _ _ _ h => h) (Or.inl ⟨by rfl, ?_⟩) (by assumption) ?_
  rotate_left
  · intro w hSw; (try dsimp only at hSw); go_simp
    first | done | with_reducible rfl
  try simp only [Act.put, List.setIfInBounds_toArray, List.set_cons_zero, List.set_cons_succ]
  refine wpAnyN_takeD (some 107) (by rfl) (i := 19) (oi := _) (v := ?_) rfl (by kernel_rfl) (by kernel_rfl) (by kernel_rfl) (by kernel_rfl) (fun _ _ _ h => h) (Or.inl ⟨by rfl, ?_⟩) (by assumption) ?_
  rotate_left
  · intro w hSw; (try dsimp only at hSw); go_simp
    first | done | with_reducible rfl
  try simp only [Act.put, List.setIfInBounds_toArray, List.set_cons_zero, List.set_cons_succ]
  refine wpAnyN_takeD (some 108) (by rfl) (i := 20) (oi := _) (v := ?_) rfl (by kernel_rfl) (by kernel_rfl) (by kernel_rfl) (by kernel_rfl) (fun _ _ _ h => h) (Or.inl ⟨by rfl, ?_⟩) (by assumption) ?_
  rotate_left
  · intro w hSw; (try dsimp only at hSw); go_simp
    first | done | with_reducible rfl
  try simp only [Act.put, List.setIfInBounds_toArray, List.set_cons_zero, List.set_cons_succ]
  refine wpAnyN_ready (rs := [15]) (by kernel_rfl) (by simp) ?_
  refine AllReadyN.held rfl (by rfl) (fun K hK => ?_) AllReadyN.nil
  go_simp
  refine (endless_calls _ _ _ _ _ _ 1 1 1 A B C y r ok (HS.out.later (HD8.out.trans l7)) (HY.out.later ERaw.later (HD8.out.trans l7)) (HR.out.later ERaw.later (HD8.out.trans l7)) (by omega) (by omega) (by have := HYL.out; omega) (by have := HRL.out; omega)).mono ?_
  rintro e w215 ⟨rfl, b215⟩
  rw [HUE.out]
  have l15 : Later w8.drew w215 := Later.trans l7 b215
  refine hK.out _ _ ?_ (fun hHeld => ?_)
  · exact HT9.out _ l15
  clear hK K
  try simp only [Act.put, List.setIfInBounds_toArray, List.set_cons_zero, List.set_cons_succ]
  refine wpAnyN_ready (rs := [21]) (by kernel_rfl) (by simp) ?_
  refine AllReadyN.held rfl (by rfl) (fun K hK => ?_) AllReadyN.nil
  go_simp
  refine (rendless_calls _ _ _ _ _ _ 1 1 1 A B C y r ok (HS.out.later (HD8.out.trans l15)) (HY.out.later ERaw.later (HD8.out.trans l15)) (HR.out.later ERaw.later (HD8.out.trans l15)) (by omega) (by omega) (by have := HYL.out; omega) (by have := HRL.out; omega)).mono ?_
  rintro e w221 ⟨rfl, b221⟩
  rw [HUE.out]
  have l21 : Later w8.drew w221 := Later.trans l15 b221
  refine hK.out _ _ ?_ (fun hHeld => ?_)
  · exact HT9.out _ l21
  clear hK K
  try simp only [Act.put, List.setIfInBounds_toArray, List.set_cons_zero, List.set_cons_succ]
  refine wpAnyN_takeD (some 110) (by rfl) (i := 22) (oi := _) (v := ?_) rfl (by kernel_rfl) (by kernel_rfl) (by kernel_rfl) (by kernel_rfl) (fun _ _ _ h => h) (Or.inl ⟨by rfl, ?_⟩) (by assumption) ?_
  rotate_left
  · intro w hSw; (try dsimp only at hSw); go_simp
    first | done | with_reducible rfl
  try simp only [Act.put, List.setIfInBounds_toArray, List.set_cons_zero, List.set_cons_succ]
  refine wpAnyN_takeD (some 111) (by rfl) (i := 23) (oi := _) (v := ?_) rfl (by kernel_rfl) (by kernel_rfl) (by kernel_rfl) (by kernel_rfl) (fun _ _ _ h => h) (Or.inl ⟨by rfl, ?_⟩) (by assumption) ?_
  rotate_left
  · intro w hSw; (try dsimp only at hSw); go_simp
    first | done | with_reducible rfl
  try simp only [Act.put, List.setIfInBounds_toArray, List.set_cons_zero, List.set_cons_succ]
  refine wpAnyN_takeD (some 112) (by rfl) (i := 24) (oi := _) (v := ?_) rfl (by kernel_rfl) (by kernel_rfl) (by kernel_rfl) (by kernel_rfl) (fun _ _ _ h => h) (Or.inl ⟨by rfl, ?_⟩) (by assumption) ?_
  rotate_left
  · intro w hSw; (try dsimp only at hSw); go_simp
    first | done | with_reducible rfl
  try simp only [Act.put, List.setIfInBounds_toArray, List.set_cons_zero, List.set_cons_succ]
  refine wpAnyN_takeD (some 113) (by rfl) (i := 25) (oi := _) (v := ?_) rfl (by kernel_rfl) (by kernel_rfl) (by kernel_rfl) (by kernel_rfl) (fun _ _ _ h => h) (Or.inl ⟨by rfl, ?_⟩) (by assumption) ?_
  rotate_left
  · intro w hSw; (try dsimp only at hSw); go_simp
    first | done | with_reducible rfl
  try simp only [Act.put, List.setIfInBounds_toArray, List.set_cons_zero, List.set_cons_succ]
  refine wpAnyN_takeD (some 114) (by rfl) (i := 26) (oi := _) (v := ?_) rfl (by kernel_rfl) (by kernel_rfl) (by kernel_rfl) (by kernel_rfl) (fun _ _ _ h => h) (Or.inl ⟨by rfl, ?_⟩) (by assumption) ?_
  rotate_left
  · intro w hSw; (try dsimp only at hSw); go_simp
    first | done | with_reducible rfl
  try simp only [Act.put, List.setIfInBounds_toArray, List.set_cons_zero, List.set_cons_succ]
  refine wpAnyN_takeD (some 116) (by rfl) (i := 28) (oi := _) (v := ?_) rfl (by kernel_rfl) (by kernel_rfl) (by kernel_rfl) (by kernel_rfl) (fun _ _ _ h => h) (Or.inl ⟨by rfl, ?_⟩) (by assumption) ?_
  rotate_left
  · intro w hSw; (try dsimp only at hSw); go_simp
    first | done | with_reducible rfl
  try simp only [Act.put, List.setIfInBounds_toArray, List.set_cons_zero, List.set_cons_succ]
  refine wpAnyN_takeD (some 117) (by rfl) (i := 29) (oi := _) (v := ?_) rfl (by kernel_rfl) (by kernel_rfl) (by kernel_rfl) (by kernel_rfl) (fun _ _ _ h => h) (Or.inl ⟨by rfl, ?_⟩) (by assumption) ?_
  rotate_left
  · intro w hSw; (try dsimp only at hSw); go_simp
    first | done | with_reducible rfl
  try simp only [Act.put, List.setIfInBounds_toArray, List.set_cons_zero, List.set_cons_succ]
  refine wpAnyN_ready (rs := [27]) (by kernel_rfl) (by simp) ?_
  refine AllReadyN.held rfl (by rfl) (fun K hK => ?_) AllReadyN.nil
  go_simp
  refine (proves_calls _ _ _ _ 1 A B C ok (HS.out.later (HD8.out.trans l21)) how _ _ _ _ _ _ _ _ _ _ _ _ _ _ _ _ _ _ _ _ y' u' r' zz (HY'.out.later ERaw.later (HD8.out.trans l21)) (RawR.later HZZ.out (HD8.out.trans l21)) (HU'.out.later ERaw.later (HD8.out.trans l21)) (HR'.out.later ERaw.later (HD8.out.trans l21)) (by have := HYL'.out; omega) (by have := HUL'.out; omega) (by have := HRL'.out; omega)).mono ?_
  rintro e w227 ⟨rfl, b227⟩
  rw [HUP.out]
  have l27 : Later w8.drew w227 := Later.trans l21 b227
  refine hK.out _ _ ?_ (fun hHeld => ?_)
  · exact HT9.out _ l27
  clear hK K
  try simp only [Act.put, List.setIfInBounds_toArray, List.set_cons_zero, List.set_cons_succ]
  refine wpAnyN_ready (rs := [30]) (by kernel_rfl) (by simp) ?_
  refine AllReadyN.held rfl (by rfl) (fun K hK => ?_) AllReadyN.nil
  go_simp
  refine (rproves_calls _ _ _ _ 1 A B C ok (HS.out.later (HD8.out.trans l27)) how _ _ _ _ _ _ _ _ _ _ _ _ _ _ _ _ _ _ _ _ y' u' r' zz (HY'.out.later ERaw.later (HD8.out.trans l27)) (RawR.later HZZ.out (HD8.out.trans l27)) (HU'.out.later ERaw.later (HD8.out.trans l27)) (HR'.out.later ERaw.later (HD8.out.trans l27)) (by have := HYL'.out; omega) (by have := HUL'.out; omega) (by have := HRL'.out; omega)).mono ?_
  rintro e w230 ⟨rfl, b230⟩
  rw [HUP.out]
  have l30 : Later w8.drew w230 := Later.trans l27 b230
  refine hK.out _ _ ?_ (fun hHeld => ?_)
  · exact HT9.out _ l30
  clear hK K
  try simp only [Act.put, List.setIfInBounds_toArray, List.set_cons_zero, List.set_cons_succ]
  refine wpAnyN_takeD (some 119) (by rfl) (i := 31) (oi := _) (v := ?_) rfl (by kernel_rfl) (by kernel_rfl) (by kernel_rfl) (by kernel_rfl) (fun _ _ _ h => h) (Or.inl ⟨by rfl, ?_⟩) (by assumption) ?_
  rotate_left
  · intro w hSw; (try dsimp only at hSw); go_simp
    first | done | with_reducible rfl
  try simp only [Act.put, List.setIfInBounds_toArray, List.set_cons_zero, List.set_cons_succ]
  refine wpAnyN_takeD (some 120) (by rfl) (i := 32) (oi := _) (v := ?_) rfl (by kernel_rfl) (by kernel_rfl) (by kernel_rfl) (by kernel_rfl) (fun _ _ _ h => h) (Or.inl ⟨by rfl, ?_⟩) (by assumption) ?_
  rotate_left
  · intro w hSw; (try dsimp only at hSw); go_simp
    first | done | with_reducible rfl
  try simp only [Act.put, List.setIfInBounds_toArray, List.set_cons_zero, List.set_cons_succ]
  refine wpAnyN_takeD (some 6) (by rfl) (i := 33) (oi := _) (v := ?_) rfl (by kernel_rfl) (by kernel_rfl) (by kernel_rfl) (by kernel_rfl) (fun _ _ _ h => h) (Or.inl ⟨by rfl, ?_⟩) (by assumption) ?_
  rotate_left
  · intro w hSw; (try dsimp only at hSw); go_simp
    first | done | with_reducible rfl
  try simp only [Act.put, List.setIfInBounds_toArray, List.set_cons_zero, List.set_cons_succ]
  refine wpAnyN_done (by kernel_rfl) ?_ _
  have HK9 := hide (HD8.out.trans l30)
  clear hHeld
  go_wp2_with fail
  go_ret
  exact ⟨rfl, HWW.out.trans HK9.out⟩

end Go.Proofs.YtbhohnhkephefaaGreat


/- A problem in standard form, a proof's numbers and an answer that came in read as such, of whatever size. -/
set_option linter.unusedVariables false
set_option linter.unusedSimpArgs false
set_option maxRecDepth 100000
namespace Go.Proofs.YtbhohnhkephefaaGreat
open Go.RowKit Go.Shelf Go.ChangeShapes Go.WideShapes Go.Deep
section
variable {H : Type} {enc : TypeId × Value → H} {w : World} {base : Nat} {spare : Nat → Bool} {held : Bool}
theorem cellsTab : Tryz.prog.cellsOf 22 = 1 := by kernel_rfl
theorem cellsStd : Tryz.prog.cellsOf 25 = 3 := by kernel_rfl
theorem cellsPrf : Tryz.prog.cellsOf 27 = 3 := by kernel_rfl
theorem cellsSol : Tryz.prog.cellsOf 35 = 9 := by kernel_rfl
theorem cellsI1 : Tryz.prog.cellsOf 3 = 1 := by kernel_rfl
theorem cellsIs : Tryz.prog.cellsOf 28 = 1 := by kernel_rfl
theorem arg_std {r : Reach} {b0 : Nat} {v : Value} {d : DataW H} {p : List MemPlace} (hv : Value.okWide Tryz.prog w r b0 25 v) (h : DataW.Trod enc Tryz.prog w base spare held 25 v d p) : ArgStd w v := by
  obtain ⟨cs, rfl, hsz⟩ := okWide_struct Tryz.underlying25 hv
  obtain ⟨fuel, hf⟩ := h
  obtain ⟨y0, y1, y2, m, -, hlen, h0, h1, h2⟩ := trod_struct3 Tryz.underlying25 hf
  rw [cellsStd] at hlen
  obtain ⟨l⟩ := cs
  match l, hlen with
  | [c0, c1, c2], _ =>
    simp only [Value.cells, cellsTab, cellsRats, List.drop_zero, List.drop_succ_cons, List.take_succ_cons, List.take_zero] at h0 h1 h2
    obtain ⟨A1, n1, c1, t, e0, ht⟩ := tab_open h0
    obtain ⟨A2, n2, c2, b, e1, hb⟩ := rats_open h1
    obtain ⟨A3, n3, c3, c, e2, hc⟩ := rats_open h2
    simp at e0 e1 e2
    subst e0 e1 e2
    exact ⟨_, _, _, t, b, c, rfl, ht, hb, hc⟩
theorem arg_proof {r : Reach} {b0 : Nat} {v : Value} {d : DataW H} {p : List MemPlace} (hv : Value.okWide Tryz.prog w r b0 27 v) (h : DataW.Trod enc Tryz.prog w base spare held 27 v d p) : ArgProof w v := by
  obtain ⟨cs, rfl, hsz⟩ := okWide_struct Tryz.underlying27 hv
  obtain ⟨fuel, hf⟩ := h
  obtain ⟨y0, y1, y2, m, -, hlen, h0, h1, h2⟩ := trod_struct3 Tryz.underlying27 hf
  rw [cellsPrf] at hlen
  obtain ⟨l⟩ := cs
  match l, hlen with
  | [c0, c1, c2], _ =>
    simp only [Value.cells, cellsRats, List.drop_zero, List.drop_succ_cons, List.take_succ_cons, List.take_zero] at h0 h1 h2
    obtain ⟨A1, n1, c1, a, e0, ha⟩ := rats_open h0
    obtain ⟨A2, n2, c2, b, e1, hb⟩ := rats_open h1
    obtain ⟨A3, n3, c3, c, e2, hc⟩ := rats_open h2
    simp at e0 e1 e2
    subst e0 e1 e2
    exact ⟨_, _, _, a, b, c, rfl, ha, hb, hc⟩
theorem arg_sol {r : Reach} {b0 : Nat} {v : Value} {d : DataW H} {p : List MemPlace} (hv : Value.okWide Tryz.prog w r b0 35 v) (h : DataW.Trod enc Tryz.prog w base spare held 35 v d p) : ArgSol w v := by
  obtain ⟨cs, rfl, hsz⟩ := okWide_struct Tryz.underlying35 hv
  obtain ⟨fuel, hf⟩ := h
  obtain ⟨xs, m, -, -, hlen, hxl, hx⟩ := DataW.trod_struct Tryz.underlying35 hf
  have h0 := hx 0 _ rfl
  have h1 := hx 1 _ rfl
  have h2 := hx 2 _ rfl
  have h3 := hx 3 _ rfl
  have h4 := hx 4 _ rfl
  have h5 := hx 5 _ rfl
  rw [cellsSol] at hlen
  obtain ⟨l⟩ := cs
  match l, hlen, xs, hxl with
  | [c0, c1, c2, c3, c4, c5, c6, c7, c8], _, [y0, y1, y2, y3, y4, y5], _ =>
    simp only [List.getElem_toArray, List.getElem_cons_zero, List.getElem_cons_succ, List.getElem?_cons_zero, List.getElem?_cons_succ, Value.cells, cellsRats, cellsRat, cellsI1, cellsIs, List.drop_zero, List.drop_succ_cons, List.take_succ_cons, List.take_zero] at h0 h1 h2 h3 h4 h5
    obtain ⟨k, e0, -⟩ := DataW.trod_int Tryz.underlying3 h0
    obtain ⟨A2, n2, c2', b, e2, hb⟩ := rats_open h2
    obtain ⟨s, A, n, c, s', A', n', c', q, e3, hq⟩ := rat_open h3
    obtain ⟨A4, n4, c4', b4, e4, hb4⟩ := rats_open h4
    obtain ⟨A5, n5, c5', b5, e5, hb5⟩ := rats_open h5
    have e1 : ∃ A1 n1 c1', c1 = .slice A1 n1 c1' := by
      rcases open_slice Tryz.underlying28 h1 with ⟨e, -⟩ | ⟨a, n, c, m, f, D, Pl, e, -⟩
      · simp at e; exact ⟨_, _, _, e⟩
      · simp at e; exact ⟨_, _, _, e⟩
    obtain ⟨A1, n1, c1', e1⟩ := e1
    simp at e0 e2 e3 e4 e5
    obtain ⟨rfl, rfl, rfl, rfl⟩ := e3
    subst e0 e1 e2 e4 e5
    exact ⟨k, A1, n1, c1', _, s, A, n, c, s', A', n', c', _, _, b, q, b4, b5, rfl, hb, hq, hb4, hb5⟩
end
end Go.Proofs.YtbhohnhkephefaaGreat


/- Proofs of standard forms, so many times, and with more rows; with no program in sight. -/
set_option linter.unusedVariables false
set_option linter.unusedSimpArgs false
set_option maxRecDepth 100000
namespace Go.Proofs.YtbhohnhkephefaaGreat

def colOf (A : List (List Rat)) (j : Nat) : List Rat := A.map fun r => r.getD j 0
theorem colP_dot (A : List (List Rat)) (u : List Rat) (j : Nat) : sumR (colP A u j) = dotL (colOf A j) u := by
  unfold colP dotL colOf
  rw [List.zipWith_map_left]
theorem colsL_at {A : List (List Rat)} {u : List Rat} {n j : Nat} (hA : ∀ r ∈ A, r.length = n) (hl : u.length = A.length) (hj : j < n) : (colsL A u n)[j]? = some (dotL (colOf A j) u) := by
  rw [colsL_eq hA hl, List.getElem?_map, List.getElem?_range hj, Option.map_some, colP_dot]
theorem underB_iff {A : List (List Rat)} {B C u c : List Rat} {ok : Bool} (hc : c.length = C.length) : underB A B C ok u c = true ↔ (colOk A B C ok u = true ∧ ∀ j, j < C.length → ¬ c.getD j 0 < dotL (colOf A j) u) := by
  constructor
  · intro h
    obtain ⟨h1, h2, h3⟩ := underB_parts h
    have hr := (rightB_facts h1).2.2.2.1
    refine ⟨by unfold colOk; rw [h1, h2]; simp, fun j hj => ?_⟩
    have e1 := colsL_at hr h2 hj
    have e2 : c[j]? = some (c.getD j 0) := by rw [List.getD_eq_getElem?_getD, List.getElem?_eq_getElem (by omega)]; rfl
    have := h3 _ (List.mem_of_getElem? (axpy_at (q := -1) e1 e2))
    grind
  · rintro ⟨h1, h2⟩
    have h1' := h1
    unfold colOk at h1'
    rw [Bool.and_eq_true, decide_eq_true_eq] at h1'
    have hr := (rightB_facts h1'.1).2.2.2.1
    refine under_true h1 fun i x z hx hz => ?_
    have hi : i < C.length := by
      have := (List.getElem?_eq_some_iff.1 hx).1
      rwa [colsL_len hr] at this
    rw [colsL_at hr h1'.2 hi] at hx
    injection hx with hx
    have := h2 i hi
    rw [List.getD_eq_getElem?_getD, hz, hx] at this
    exact this
theorem rightB_mk {A : List (List Rat)} {B C : List Rat} {ok : Bool} (h1 : A.length ≤ 64) (h2 : C.length ≤ 80) (h3 : B.length = A.length) (h4 : ∀ r ∈ A, r.length = C.length) (h5 : ok = true) (h6 : ∀ x ∈ B, ¬ x < 0) : rightB A B C ok = true := by
  unfold rightB rectB
  simp only [Bool.and_eq_true, decide_eq_true_eq, List.all_eq_true, Bool.not_eq_true', List.any_eq_false]
  exact ⟨h1, h2, h3, h4, h5, fun x hx => by simpa using h6 x hx⟩
theorem zeros_len {u : List Rat} {q : Rat} : (axpyL (List.replicate u.length 0) u q).length = u.length := by
  unfold axpyL; rw [List.length_zipWith, List.length_replicate, Nat.min_self]
theorem dot_zeros (a u : List Rat) (q : Rat) : dotL a (axpyL (List.replicate u.length 0) u q) = q * dotL a u := by
  rw [dotL_comm, dotL_axpy, dotL_comm]
theorem pos_mul {q x : Rat} (hq : 0 < q) : 0 < q * x ↔ 0 < x := by
  constructor
  · intro h
    rcases Std.lt_trichotomy x 0 with h1 | h1 | h1
    · have := Rat.mul_pos hq (by grind : 0 < -x)
      grind
    · subst h1; grind
    · exact h1
  · exact fun h => Rat.mul_pos hq h
theorem bool_eq_of_iff {a b : Bool} (h : a = true ↔ b = true) : a = b := by
  cases a <;> cases b <;> simp_all
/-- so many times -/
theorem none_scaled {A : List (List Rat)} {B C u : List Rat} {ok : Bool} {q : Rat} (hq : 0 < q) : noneB A B C ok (axpyL (List.replicate u.length 0) u q) = noneB A B C ok u := by
  have hk : colOk A B C ok (axpyL (List.replicate u.length 0) u q) = colOk A B C ok u := by unfold colOk; rw [zeros_len]
  unfold noneB
  have h1 : underB A B C ok (axpyL (List.replicate u.length 0) u q) (List.replicate C.length 0) = underB A B C ok u (List.replicate C.length 0) := by
    refine bool_eq_of_iff ?_
    rw [underB_iff (by simp), underB_iff (by simp), hk]
    refine and_congr_right fun _ => forall_congr' fun j => forall_congr' fun hj => ?_
    rw [dot_zeros]
    have e : (List.replicate C.length (0 : Rat)).getD j 0 = 0 := by rw [List.getD_eq_getElem?_getD, List.getElem?_replicate, if_pos hj]; rfl
    rw [e, pos_mul hq]
  rw [h1, dot_zeros]
  congr 1
  exact decide_eq_decide.2 (pos_mul hq)
theorem dbl_len {u : List Rat} : (axpyL u u 1).length = u.length := by unfold axpyL; rw [List.length_zipWith, Nat.min_self]
theorem dot_dbl (a u : List Rat) : dotL a (axpyL u u 1) = dotL a u + dotL a u := by
  rw [dotL_comm, dotL_add u u a 1 rfl, dotL_comm u a]; grind
theorem best_doubled {A : List (List Rat)} {B C y u : List Rat} {ok ok' : Bool} (h : bestB A B C ok y u = true) (ho : ok = true → ok' = true) : bestB A B (axpyL C C 1) ok' y (axpyL u u 1) = true := by
  obtain ⟨h1, h2, h3⟩ := bestB_parts h
  obtain ⟨k1, k2, k3, k4⟩ := fulfB_facts h1
  obtain ⟨r1, r2, r3, r4, r5, r6⟩ := rightB_facts k1
  have hr : rightB A B (axpyL C C 1) ok' = true := rightB_mk r1 (by rw [dbl_len]; exact r2) r3 (fun r hr => by rw [dbl_len]; exact r4 r hr) (ho r5) r6
  rw [underB_iff rfl] at h2
  obtain ⟨h2, h4⟩ := h2
  unfold colOk at h2
  rw [Bool.and_eq_true, decide_eq_true_eq] at h2
  unfold bestB
  rw [Bool.and_eq_true, Bool.and_eq_true, decide_eq_true_eq]
  refine ⟨?_, ?_, ?_⟩
  · unfold fulfB
    simp only [Bool.and_eq_true, decide_eq_true_eq, Bool.not_eq_true', List.any_eq_false]
    exact ⟨hr, by rw [dbl_len]; exact k2, fun x hx => by simpa using k3 x hx, k4⟩
  · rw [underB_iff rfl]
    refine ⟨by unfold colOk; rw [hr, dbl_len, h2.2]; simp, fun j hj => ?_⟩
    rw [dbl_len] at hj
    have := h4 j hj
    rw [dot_dbl, axpy_get hj hj]
    grind
  · rw [dot_dbl, h3, dotL_comm (axpyL C C 1) y, dot_dbl, dotL_comm y C]
theorem dotL_snoc (a b : List Rat) (x y : Rat) (h : a.length = b.length) : dotL (a ++ [x]) (b ++ [y]) = dotL a b + x * y := by
  unfold dotL
  rw [List.zipWith_append h, sumR_append_one]
where sumR_append_one : sumR (List.zipWith (fun x y => x * y) a b ++ List.zipWith (fun x y => x * y) [x] [y]) = sumR (List.zipWith (fun x y => x * y) a b) + x * y := sumR_snoc _ _
/-- with a row more, 0 for it -/
theorem none_more {A : List (List Rat)} {B C u r : List Rat} {b : Rat} {ok ok' : Bool} (h : noneB A B C ok u = true) (ho : ok' = true) (hA : A.length ≤ 63) (hr : r.length = C.length) (hb : ¬ b < 0) : noneB (A ++ [r]) (B ++ [b]) C ok' (u ++ [0]) = true := by
  unfold noneB at h ⊢
  rw [Bool.and_eq_true, decide_eq_true_eq] at h ⊢
  obtain ⟨h1, h2⟩ := h
  rw [underB_iff (by simp)] at h1 ⊢
  obtain ⟨h1, h4⟩ := h1
  unfold colOk at h1
  rw [Bool.and_eq_true, decide_eq_true_eq] at h1
  obtain ⟨r1, r2, r3, r4, r5, r6⟩ := rightB_facts h1.1
  have hk : rightB (A ++ [r]) (B ++ [b]) C ok' = true := rightB_mk (by simp; omega) r2 (by simp [r3]) (fun s hs => by
    rw [List.mem_append, List.mem_singleton] at hs
    rcases hs with hs | rfl
    · exact r4 s hs
    · exact hr) ho (fun x hx => by
    rw [List.mem_append, List.mem_singleton] at hx
    rcases hx with hx | rfl
    · exact r6 x hx
    · exact hb)
  refine ⟨⟨by unfold colOk; rw [hk]; simp [h1.2], fun j hj => ?_⟩, ?_⟩
  · have := h4 j hj
    have e : colOf (A ++ [r]) j = colOf A j ++ [r.getD j 0] := by unfold colOf; simp
    rw [e, dotL_snoc _ _ _ _ (by unfold colOf; rw [List.length_map, h1.2])]
    grind
  · rw [dotL_snoc _ _ _ _ (by rw [r3, h1.2])]
    grind
/-- other costs of one's own -/
theorem std_newc {w : World} {vA vB vC vC' : Value} {A : List (List Rat)} {B C C' : List Rat} {ok : Bool} (h : StdIn w vA vB vC 1 A B C ok) (hc : Rats EOwn w vC' C') (hs : ∀ q ∈ C', Sized q 10) (hl : C'.length ≤ 1000) : ∃ ok', StdIn w vA vB vC' 10 A B C' ok' ∧ (ok = true → ok' = true) := by
  obtain ⟨fA, fB, fC, h1, h2, h3, h4, h5, h6, rfl, h7, h8, h9, h10, h11, h12⟩ := h
  refine ⟨_, ⟨fA, fB, _, h1.map (fun row hr v q hq he => RawR.mono he (by omega)), h2.map (fun v q hq he => RawR.mono he (by omega)), hc.map (fun v q hq he => OwnR.raw (B := 0) he (hs q hq)), h4, h5, rats_own_flags hc (fun q hq => (hs q hq).mono (by omega)), rfl, by omega, h8, h9, h10, h11, hl⟩, ?_⟩
  rw [allF_ones]
  simp only [Bool.and_eq_true]
  exact fun h => ⟨h.1, h.2.1, trivial⟩
end Go.Proofs.YtbhohnhkephefaaGreat
