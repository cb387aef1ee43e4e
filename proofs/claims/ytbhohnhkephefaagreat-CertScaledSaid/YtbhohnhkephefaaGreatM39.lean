import Derived.Test.YtbhohnhkephefaaGreatM38

/- CertScaled: the walk. -/
set_option linter.unusedVariables false
set_option linter.unusedSimpArgs false
set_option maxRecDepth 100000
namespace Go.Proofs.YtbhohnhkephefaaGreat
open Go.RowKit Go.Shelf
attribute [local go_sem ↓] Go.wp_at_zero Go.wp_at_succ

theorem div1 (n : Int) : Rat.divInt n 1 = (n : Rat) := by
  have h := Rat.divInt_ofNat n 1
  have e : ((1 : Nat) : Int) = 1 := rfl
  rw [e] at h
  rw [h]
  exact Rat.mkRat_one n
set_option maxHeartbeats 16000000 in
theorem certscaled_walk (w : World) (v0 v1 : Value) (z : Int) (h0 : ArgStd w v0) (h1 : ArgProof w v1) (hz : (Lit.int .u8 z).wf = true) :
    Calls Tryz.prog 6 #[v0, v1, .int .u8 z] w (RetV w (.bool true)) := by
  have hz0 : 0 ≤ z := by simp [Lit.wf, IntKind.min, IntKind.max, IntKind.bits, IntKind.signed] at hz; omega
  have hz1 : z ≤ 255 := by simp [Lit.wf, IntKind.min, IntKind.max, IntKind.bits, IntKind.signed] at hz; omega
  clear hz
  obtain ⟨q9, hq9⟩ : ∃ q, Rat.divInt (1 + z) 1 = q := ⟨_, rfl⟩
  have HQ9 := hide hq9
  have HQP : Hid (0 < q9) := hide (by rw [← hq9, div1, Rat.intCast_pos]; omega)
  have HQS : Hid (Sized q9 1) := hide (by rw [← hq9, div1]; exact sized_small (by rw [Rat.num_intCast]; omega) (by rw [Rat.den_intCast]; omega))
  clear hq9
  obtain ⟨vA, vB, vC, A, B, C, rfl, ha, hb, hc⟩ := h0
  have HA := hide ha; have HB := hide hb; have HC := hide hc
  obtain ⟨A1, n1, c1, rfl, -⟩ := ha.form
  obtain ⟨A2, n2, c2, rfl, -⟩ := hb.form
  obtain ⟨A3, n3, c3, rfl, -⟩ := hc.form
  clear ha hb hc
  obtain ⟨vY, vU, vR, y, u, r, rfl, hy, hu, hr⟩ := h1
  have HY := hide hy; have HU := hide hu; have HR := hide hr
  obtain ⟨A4, n4, c4, rfl, -⟩ := hy.form
  obtain ⟨A5, n5, c5, rfl, -⟩ := hu.form
  obtain ⟨A6, n6, c6, rfl, -⟩ := hr.form
  clear hy hu hr
  obtain ⟨W0, hW0⟩ : ∃ W0, W0 = ((w.alloc (Obj.cells #[Value.slice A1 n1 c1, Value.slice A2 n2 c2, Value.slice A3 n3 c3] 25)).alloc (Obj.cells #[Value.slice A4 n4 c4, Value.slice A5 n5 c5, Value.slice A6 n6 c6] 27)) := ⟨_, rfl⟩
  obtain ⟨hb0, r0, r1, hsz0⟩ := boxes2 w [.slice A1 n1 c1, .slice A2 n2 c2, .slice A3 n3 c3] [.slice A4 n4 c4, .slice A5 n5 c5, .slice A6 n6 c6] 25 27 hW0
  have B0 := hide hb0; have HW0 := hide hW0
  have R0 := hide r0; have R1 := hide r1
  clear hb0 hW0 hsz0 r0 r1
  go_enter Tryz.func6, Tryz.ntmps6
  go_upto_region 1 with fail
  rw [← HW0.out]
  go_wp2_with fail
  ((with_reducible refine (awake12_calls W0).mono ?_); rintro e w1 ⟨rfl, b1⟩)
  have HL1 := hide b1
  clear b1
  have r_d := R0.out.later HL1.out
  have d0 := r_d.cell (i := 0) rfl; have d1 := r_d.cell (i := 1) rfl; have d2 := r_d.cell (i := 2) rfl
  clear r_d
  have r_e := R1.out.later HL1.out
  have e0 := r_e.cell (i := 0) rfl; have e1 := r_e.cell (i := 1) rfl; have e2 := r_e.cell (i := 2) rfl
  clear r_e
  go_wp2_with fail
  ((refine (fewstd_calls w1 _ _ _ A B C 6 (HA.out.later EAny.later (B0.out.trans HL1.out)) (HB.out.later EAny.later (B0.out.trans HL1.out)) (HC.out.later EAny.later (B0.out.trans HL1.out)) (by omega)).mono ?_); rintro e w2 ⟨t, rfl, hf, b2⟩)
  have HF := hide hf; have HL2 := hide (HL1.out.trans b2)
  clear hf b2 d0 d1 d2 e0 e1 e2
  have r_d := R0.out.later HL2.out
  have d0 := r_d.cell (i := 0) rfl; have d1 := r_d.cell (i := 1) rfl; have d2 := r_d.cell (i := 2) rfl
  clear r_d
  have r_e := R1.out.later HL2.out
  have e0 := r_e.cell (i := 0) rfl; have e1 := r_e.cell (i := 1) rfl; have e2 := r_e.cell (i := 2) rfl
  clear r_e
  cases t with
  | false =>
    go_wp2_with fail
    go_ret
    exact ⟨rfl, B0.out.trans HL2.out⟩
  | true =>
  obtain ⟨hl1, hl2, hl3, ok, hs⟩ := HF.out rfl
  have HS2 := hide hs; have HLA := hide hl1; have HLB := hide hl2; have HLC := hide hl3
  clear hs hl1 hl2 hl3 HF HA HB HC
  go_wp2_with fail
  ((with_reducible refine (fewproof_calls w2 _ _ _ y u r (HY.out.later EAny.later (B0.out.trans HL2.out)) (HU.out.later EAny.later (B0.out.trans HL2.out)) (HR.out.later EAny.later (B0.out.trans HL2.out))).mono ?_); rintro e w3 ⟨t, rfl, hf, b3⟩)
  have HF := hide hf; have HL3 := hide (HL2.out.trans b3); have HK3 := hide b3
  clear hf b3 d0 d1 d2 e0 e1 e2
  have r_d := R0.out.later HL3.out
  have d0 := r_d.cell (i := 0) rfl; have d1 := r_d.cell (i := 1) rfl; have d2 := r_d.cell (i := 2) rfl
  clear r_d
  have r_e := R1.out.later HL3.out
  have e0 := r_e.cell (i := 0) rfl; have e1 := r_e.cell (i := 1) rfl; have e2 := r_e.cell (i := 2) rfl
  clear r_e
  cases t with
  | false =>
    go_wp2_with fail
    go_ret
    exact ⟨rfl, B0.out.trans HL3.out⟩
  | true =>
  obtain ⟨⟨hy1, hy2⟩, ⟨hu1, hu2⟩, ⟨hr1, hr2⟩⟩ := HF.out rfl
  have HYL := hide hy1; have HUL := hide hu1; have HRL := hide hr1
  clear HY HU HR
  have HY := hide hy2; have HU := hide hu2; have HR := hide hr2
  clear hy1 hy2 hu1 hu2 hr1 hr2 HF
  go_wp2_with fail
  have HS := hide (HS2.out.later HK3.out)
  clear HS2 HK3
  refine (of12_calls w3 (1 + z) (by omega) (by omega) q9 HQ9.out).mono ?_
  rintro e w4 ⟨v4, rfl, o4, b4⟩
  obtain ⟨s4, P4, q4, e4, P4', q4', e4', rfl, o4⟩ := o4.open_; have O4 := hide o4; clear o4
  go_upto_region 6 with fail
  obtain ⟨W4, hW4⟩ : ∃ W4, W4 = w4.alloc (Obj.cells #[Value.bool s4, Value.slice P4 q4 e4, Value.bool false, Value.slice P4' q4' e4'] 33) := ⟨_, rfl⟩
  obtain ⟨g4, hg4⟩ : ∃ g4, g4 = w4.heap.size := ⟨_, rfl⟩
  have hb : Later w4 W4 := by rw [hW4]; exact (Later.refl _).alloc _
  have hr : Row W4 g4 33 [.bool s4, .slice P4 q4 e4, .bool false, .slice P4' q4' e4'] := by rw [hW4, hg4]; exact Row.new _ _ _
  rw [← hW4, ← hg4]
  have HR4 := hide hr
  have HO4 := hide (OwnR.later O4.out hb)
  have HK4 := hide (b4.trans hb)
  clear hb hr hW4 hg4 b4 d0 d1 d2 e0 e1 e2
  have r_d := R0.out.later (HL3.out.trans HK4.out)
  have d0 := r_d.cell (i := 0) rfl; have d1 := r_d.cell (i := 1) rfl; have d2 := r_d.cell (i := 2) rfl
  clear r_d
  have r_e := R1.out.later (HL3.out.trans HK4.out)
  have e0 := r_e.cell (i := 0) rfl; have e1 := r_e.cell (i := 1) rfl; have e2 := r_e.cell (i := 2) rfl
  clear r_e
  have HN5 : Hid (n5 = u.length) := hide HU.out.len_
  go_upto_region 7 with (at_make; refine wpList_make_rats rfl (.tmp 30) rfl _ n5 rfl rfl (by have := HN5.out; have := HUL.out; omega) ?_; intro g5 w5 hg5 ho5 b5)
  have HZ5 : Hid (Rats (ERaw 1) w5 (.slice (some ⟨g5, 0, none⟩) n5 n5) (List.replicate u.length 0)) := hide (by have := ho5.rats.now; rw [← HN5.out]; exact this)
  have HK5 := hide (HK4.out.trans b5)
  obtain ⟨x1, x2, x3, x4, -⟩ := row_cells4 (HR4.out.later b5)
  have HQ5 : Hid (RawR w5 (.agg #[.bool s4, .slice P4 q4 e4, .bool false, .slice P4' q4' e4']) q9 1) := hide (OwnR.raw (OwnR.later HO4.out b5) HQS.out)
  clear ho5 hg5 b5 d0 d1 d2 e0 e1 e2
  have r_d := R0.out.later (HL3.out.trans HK5.out)
  have d0 := r_d.cell (i := 0) rfl; have d1 := r_d.cell (i := 1) rfl; have d2 := r_d.cell (i := 2) rfl
  clear r_d
  have r_e := R1.out.later (HL3.out.trans HK5.out)
  have e0 := r_e.cell (i := 0) rfl; have e1 := r_e.cell (i := 1) rfl; have e2 := r_e.cell (i := 2) rfl
  clear r_e
  go_wp2_with fail
  refine (qaddtimes_calls w5 _ _ _ (List.replicate u.length 0) u q9 1 1 1 HZ5.out (HU.out.later ERaw.later HK5.out) HQ5.out (by rw [List.length_replicate]) (by rw [List.length_replicate]; have := HUL.out; omega) (by omega)).mono ?_
  rintro e w6 ⟨v6, ok6, rfl, ⟨o6, rfl⟩, b6⟩
  have ho6 := On.now o6
  obtain ⟨A20, n20, c20, rfl, -⟩ := ho6.form
  have hus : ∀ x ∈ axpyL (List.replicate u.length 0) u q9, Sized x 10 := fun x hx => (sized_axpy HZ5.out.sized HU.out.sized HQS.out x hx).mono (by omega)
  have HU6 : Hid (Rats (ERaw 10) w6 (.slice A20 n20 c20) (axpyL (List.replicate u.length 0) u q9)) := hide (ho6.map fun v q hq he => OwnR.raw (B := 0) he (hus q hq))
  have HK6 := hide (HK5.out.trans b6)
  clear o6 ho6 hus b6 x1 x2 x3 x4 HZ5 HQ5 d0 d1 d2 e0 e1 e2
  have r_d := R0.out.later (HL3.out.trans HK6.out)
  have d0 := r_d.cell (i := 0) rfl; have d1 := r_d.cell (i := 1) rfl; have d2 := r_d.cell (i := 2) rfl
  clear r_d
  have r_e := R1.out.later (HL3.out.trans HK6.out)
  have e0 := r_e.cell (i := 0) rfl; have e1 := r_e.cell (i := 1) rfl; have e2 := r_e.cell (i := 2) rfl
  clear r_e
  go_upto_region 9 with fail
  obtain ⟨w7, hw7⟩ : ∃ w7, w7 = w6.alloc (Obj.cells #[Value.slice A1 n1 c1, Value.slice A2 n2 c2, Value.slice A3 n3 c3] 25) := ⟨_, rfl⟩
  obtain ⟨g7, hg7⟩ : ∃ g7, g7 = w6.heap.size := ⟨_, rfl⟩
  have hb : Later w6 w7 := by rw [hw7]; exact (Later.refl _).alloc _
  have hr : Row w7 g7 25 [.slice A1 n1 c1, .slice A2 n2 c2, .slice A3 n3 c3] := by rw [hw7, hg7]; exact Row.new _ _ _
  rw [← hw7, ← hg7]
  have HR7 := hide hr
  have HG7 : Hid (w6.heap.size ≤ g7) := hide (by rw [hg7]; exact Nat.le_refl _)
  have HM7 := hide hb
  have HK7 := hide (HK6.out.trans hb)
  clear hb hr hw7 hg7 d0 d1 d2 e0 e1 e2
  have hd : Later w7 w7.drew := (Later.refl w7).drew
  have HD7 := hide hd
  have hra := R0.out.later (HL3.out.trans HK6.out)
  have HT9 : Hid (∀ w', Later w6 w' → w'.cell? ⟨w.heap.size, 2, none⟩ = some (.slice A3 n3 c3)) := hide fun w' hb => (hra.later hb).cell rfl
  clear hd hra
  have hmx : Tryz.prog.follows .mixedOrders = true := by kernel_rfl
  refine wp_region_N (fun w' => w'.cell? ⟨w.heap.size, 2, none⟩ = some (.slice A3 n3 c3)) [] hmx (HT9.out _ (HM7.out.trans HD7.out)) (fun hHeld => ?_)
  refine wpAnyN_takeD (some 42) (by rfl) (i := 0) (oi := _) (v := ?_) rfl (by kernel_rfl) (by kernel_rfl) (by kernel_rfl) (by kernel_rfl) (fun _ _ _ h => h) (Or.inl ⟨by rfl, ?_⟩) (by assumption) ?_
  rotate_left
  · intro w hSw; (try dsimp only at hSw); go_simp
    first | done | with_reducible rfl
  try simp only [Act.put, List.setIfInBounds_toArray, List.set_cons_zero, List.set_cons_succ]
  refine wpAnyN_takeD (some 43) (by rfl) (i := 1) (oi := _) (v := ?_) rfl (by kernel_rfl) (by kernel_rfl) (by kernel_rfl) (by kernel_rfl) (fun _ _ _ h => h) (Or.inl ⟨by rfl, ?_⟩) (by assumption) ?_
  rotate_left
  · intro w hSw; (try dsimp only at hSw); go_simp
    first | done | with_reducible rfl
  try simp only [Act.put, List.setIfInBounds_toArray, List.set_cons_zero, List.set_cons_succ]
  refine wpAnyN_takeD (some 44) (by rfl) (i := 2) (oi := _) (v := ?_) rfl (by kernel_rfl) (by kernel_rfl) (by kernel_rfl) (by kernel_rfl) (fun _ _ _ h => h) (Or.inl ⟨by rfl, ?_⟩) (by assumption) ?_
  rotate_left
  · intro w hSw; (try dsimp only at hSw); go_simp
    first | done | with_reducible rfl
  try simp only [Act.put, List.setIfInBounds_toArray, List.set_cons_zero, List.set_cons_succ]
  refine wpAnyN_takeD (some 45) (by rfl) (i := 3) (oi := _) (v := ?_) rfl (by kernel_rfl) (by kernel_rfl) (by kernel_rfl) (by kernel_rfl) (fun _ _ _ h => h) (Or.inl ⟨by rfl, ?_⟩) (by assumption) ?_
  rotate_left
  · intro w hSw; (try dsimp only at hSw); go_simp
    first | done | with_reducible rfl
  try simp only [Act.put, List.setIfInBounds_toArray, List.set_cons_zero, List.set_cons_succ]
  refine wpAnyN_ready (rs := [4]) (by kernel_rfl) (by simp) ?_
  refine AllReadyN.held rfl (by rfl) (fun K hK => ?_) AllReadyN.nil
  go_simp
  refine (of12_calls _ 1 (by omega) (by omega) 1 div_1).mono ?_
  rintro e w104 ⟨v104, rfl, o104, b104⟩
  obtain ⟨s104, P104, q104, e104, P104', q104', e104', rfl, o104⟩ := o104.open_; have O104 := hide o104; clear o104
  have l4 : Later w7.drew w104 := b104
  refine hK.out _ _ ?_ (fun hHeld => ?_)
  · exact HT9.out _ (HM7.out.trans (HD7.out.trans l4))
  clear hK K
  try simp only [Act.put, List.setIfInBounds_toArray, List.set_cons_zero, List.set_cons_succ]
  refine wpAnyN_ready (rs := [5]) (by kernel_rfl) (by simp) ?_
  refine AllReadyN.held rfl (by rfl) (fun K hK => ?_) AllReadyN.nil
  go_simp
  refine (qaddtimes_calls w104 _ _ _ C C 1 1 1 1 (HS.out.later (HK7.out.trans (HD7.out.trans l4))).c (HS.out.later (HK7.out.trans (HD7.out.trans l4))).c (OwnR.raw O104.out sized_1) rfl (by have := HLC.out; omega) (by omega)).mono ?_
  rintro e w105 ⟨v105, ok105, rfl, ⟨o105, rfl⟩, b105⟩
  have ho5 := On.now o105
  obtain ⟨A105, n105, c105, rfl, -⟩ := ho5.form
  have HO5 := hide o105
  clear o105 ho5
  have l5 : Later w7.drew w105 := l4.trans b105
  have hs5 := l4.size_le
  have hr5 := HR7.out.later (HD7.out.trans l5)
  have k2 := hr5.cell (i := 2) rfl
  have kf := hr5.frozen 2
  refine hK.out _ _ ?_ (fun hHeld => ?_)
  · exact HT9.out _ (HM7.out.trans (HD7.out.trans l5))
  clear hK K
  try simp only [Act.put, List.setIfInBounds_toArray, List.set_cons_zero, List.set_cons_succ]
  refine wpAnyN_takeD (some 41) (by rfl) (i := 6) (oi := _) (v := ?_) rfl (by kernel_rfl) (by kernel_rfl) (by kernel_rfl) (by kernel_rfl) (fun _ _ _ h => h) (Or.inl ⟨by rfl, ?_⟩) (by assumption) ?_
  rotate_left
  · intro w hSw; (try dsimp only at hSw); go_simp
    first | done | with_reducible rfl
  try simp only [Act.put, List.setIfInBounds_toArray, List.set_cons_zero, List.set_cons_succ]
  refine wpAnyN_takeD (some 48) (by rfl) (i := 7) (oi := _) (v := ?_) rfl (by kernel_rfl) (by kernel_rfl) (by kernel_rfl) (by kernel_rfl) (fun _ _ _ h => h) (Or.inl ⟨by rfl, ?_⟩) (by assumption) ?_
  rotate_left
  · intro w hSw; (try dsimp only at hSw); go_simp
    first | done | with_reducible rfl
  try simp only [Act.put, List.setIfInBounds_toArray, List.set_cons_zero, List.set_cons_succ]
  refine wpAnyN_takeD (some 49) (by rfl) (i := 8) (oi := _) (v := ?_) rfl (by kernel_rfl) (by kernel_rfl) (by kernel_rfl) (by kernel_rfl) (fun _ _ _ h => h) (Or.inl ⟨by rfl, ?_⟩) (by assumption) ?_
  rotate_left
  · intro w hSw; (try dsimp only at hSw); go_simp
    first | done | with_reducible rfl
  try simp only [Act.put, List.setIfInBounds_toArray, List.set_cons_zero, List.set_cons_succ]
  refine wpAnyN_takeD (some 50) (by rfl) (i := 9) (oi := _) (v := ?_) rfl (by kernel_rfl) (by kernel_rfl) (by kernel_rfl) (by kernel_rfl) (fun _ _ _ h => h) (Or.inl ⟨by rfl, ?_⟩) (by assumption) ?_
  rotate_left
  · intro w hSw; (try dsimp only at hSw); go_simp
    first | done | with_reducible rfl
  try simp only [Act.put, List.setIfInBounds_toArray, List.set_cons_zero, List.set_cons_succ]
  refine wpAnyN_ready (rs := [10]) (by kernel_rfl) (by simp) ?_
  refine AllReadyN.held rfl (by rfl) (fun K hK => ?_) AllReadyN.nil
  go_simp
  refine hK.out _ _ ?_ (fun hHeld => ?_)
  · exact HT9.out _ ((HM7.out.trans (HD7.out.trans l5)).only (Only.one g7 w105 2 _) HG7.out)
  clear hK K
  try simp only [Act.put, List.setIfInBounds_toArray, List.set_cons_zero, List.set_cons_succ]
  refine wpAnyN_done (by kernel_rfl) ?_ _
  clear hHeld k2 kf
  have hlt7 : g7 < w104.heap.size := Nat.lt_of_lt_of_le (HR7.out.later HD7.out).lt hs5
  obtain ⟨w9, hw9⟩ : ∃ w9, w9 = w105.setCell ⟨g7, 2, none⟩ (.slice A105 n105 c105) := ⟨_, rfl⟩
  have oo : Only g7 w105 w9 := by rw [hw9]; exact Only.one g7 w105 2 _
  have hk9 : Later w6 w9 := (HM7.out.trans (HD7.out.trans l5)).only oo HG7.out
  have hr9 : Row w9 g7 25 [.slice A1 n1 c1, .slice A2 n2 c2, .slice A105 n105 c105] := by rw [hw9]; exact hr5.set_ 2 _
  have hc9 : Rats EOwn w9 (.slice A105 n105 c105) (axpyL C C 1) := On.now (OwnRats.only HO5.out oo hlt7)
  rw [← hw9]
  have HK9 := hide (HK6.out.trans hk9); have HR9 := hide hr9; have HC9 := hide hc9
  have HU9 := hide (HU6.out.later ERaw.later hk9)
  clear hlt7 hw9 oo hk9 hr9 hc9 HO5 O104 hr5 hs5 l4 l5 b104 b105 HM7 HD7 HR7 HG7 HK7 HT9 HU6
  go_upto_region 10 with fail
  have hd : Later w9 w9.drew := (Later.refl w9).drew
  have HD9 := hide hd
  have hrb := R1.out.later (HL3.out.trans (HK9.out.trans hd))
  have HT1 : Hid (∀ w', Later w9.drew w' → w'.cell? ⟨w.heap.size + 1, 1, none⟩ = some (.slice A5 n5 c5)) := hide fun w' hb => (hrb.later hb).cell rfl
  clear hd hrb
  go_region_held3 (fun w' => w'.cell? ⟨w.heap.size + 1, 1, none⟩ = some (.slice A5 n5 c5))
    (first | exact HT1.out _ (Later.refl _) | exact HT1.out _ b10 | exact HT1.out _ (b10.trans b11))
    (first
      | ((with_reducible refine (of12_calls _ 1 (by omega) (by omega) 1 div_1).mono ?_); rintro e w10 ⟨v10, rfl, o10, b10⟩; obtain ⟨s10, P10, q10, e10, P10', q10', e10', rfl, o10⟩ := o10.open_; have O10 := hide o10; clear o10)
      | ((with_reducible refine (qaddtimes_calls _ _ _ _ u u 1 1 1 1 (HU.out.later ERaw.later (HK9.out.trans (HD9.out.trans b10))) (HU.out.later ERaw.later (HK9.out.trans (HD9.out.trans b10))) (OwnR.raw O10.out sized_1) rfl (by have := HUL.out; omega) (by omega)).mono ?_); rintro e w11 ⟨v11, ok11, rfl, ⟨o11, rfl⟩, b11⟩; have O11 := hide (On.now o11); clear o11; obtain ⟨A11, n11, c11, rfl, -⟩ := O11.out.form))
  have HM11 := hide (HD9.out.trans (b10.trans b11))
  have HK11 := hide (HK9.out.trans HM11.out)
  clear b10 b11 O10 HT1
  have HVS : Hid (∀ x ∈ axpyL u u 1, Sized x 10) := hide fun x hx => (sized_axpy HU.out.sized HU.out.sized sized_1 x hx).mono (by omega)
  have HV : Hid (Rats (ERaw 10) w11 (.slice A11 n11 c11) (axpyL u u 1)) := hide (O11.out.map fun v q hq he => OwnR.raw (B := 0) he (HVS.out q hq))
  have HU11 := hide (HU9.out.later ERaw.later HM11.out)
  have HR11 := hide (HR9.out.later HM11.out)
  have HC11 := hide (HC9.out.later EOwn.later HM11.out)
  clear O11 HU9 HR9 HC9 HD9 HM11
  go_upto_region 11 with fail
  obtain ⟨un, hun⟩ : ∃ x, noneB A B C ok u = x := ⟨_, rfl⟩
  have HUN := hide hun
  have HUN2 : Hid (noneB A B C ok (axpyL (List.replicate u.length 0) u q9) = un) := hide (by rw [none_scaled HQP.out]; exact hun)
  clear hun
  have hd : Later w11 w11.drew := (Later.refl w11).drew
  have HD11 := hide hd
  have hra := R0.out.later (HL3.out.trans (HK11.out.trans hd))
  have hrb := R1.out.later (HL3.out.trans (HK11.out.trans hd))
  have HT1 : Hid (∀ w', Later w11.drew w' → w'.cell? ⟨w.heap.size, 0, none⟩ = some (.slice A1 n1 c1) ∧ w'.cell? ⟨w.heap.size, 1, none⟩ = some (.slice A2 n2 c2) ∧ w'.cell? ⟨w.heap.size, 2, none⟩ = some (.slice A3 n3 c3) ∧ w'.cell? ⟨w.heap.size + 1, 1, none⟩ = some (.slice A5 n5 c5)) := hide fun w' hb => ⟨(hra.later hb).cell rfl, (hra.later hb).cell rfl, (hra.later hb).cell rfl, (hrb.later hb).cell rfl⟩
  clear hd hra hrb
  go_region_held3 (fun w' => w'.cell? ⟨w.heap.size, 0, none⟩ = some (.slice A1 n1 c1) ∧ w'.cell? ⟨w.heap.size, 1, none⟩ = some (.slice A2 n2 c2) ∧ w'.cell? ⟨w.heap.size, 2, none⟩ = some (.slice A3 n3 c3) ∧ w'.cell? ⟨w.heap.size + 1, 1, none⟩ = some (.slice A5 n5 c5))
    (first | exact HT1.out _ (Later.refl _) | exact HT1.out _ b12 | exact HT1.out _ (b12.trans b13))
    (first
      | ((with_reducible refine (none_calls _ _ _ _ _ 1 1 A B C u ok (HS.out.later (HK11.out.trans HD11.out)) (HU.out.later ERaw.later (HK11.out.trans HD11.out)) (by omega) (by have := HUL.out; omega)).mono ?_); rintro e w12 ⟨rfl, b12⟩; rw [HUN.out])
      | ((with_reducible refine (none_calls _ _ _ _ _ 1 10 A B C (axpyL (List.replicate u.length 0) u q9) ok (HS.out.later (HK11.out.trans (HD11.out.trans b12))) (HU11.out.later ERaw.later (HD11.out.trans b12)) (by omega) (by rw [zeros_len]; have := HUL.out; omega)).mono ?_); rintro e w13 ⟨rfl, b13⟩; rw [HUN2.out]))
  have HM13 := hide (HD11.out.trans (b12.trans b13))
  have HK13 := hide (HK11.out.trans HM13.out)
  clear b12 b13 HT1 HUN HUN2 HD11
  have r_d := R0.out.later (HL3.out.trans HK13.out)
  have d0 := r_d.cell (i := 0) rfl; have d1 := r_d.cell (i := 1) rfl; have d2 := r_d.cell (i := 2) rfl
  clear r_d
  have r_e := R1.out.later (HL3.out.trans HK13.out)
  have e0 := r_e.cell (i := 0) rfl; have e1 := r_e.cell (i := 1) rfl; have e2 := r_e.cell (i := 2) rfl
  clear r_e
  go_wp2_with fail
  obtain ⟨ub, hub⟩ : ∃ x, bestB A B C ok y u = x := ⟨_, rfl⟩
  have HUB := hide hub
  clear hub
  refine (best_calls w13 _ _ _ _ _ 1 1 1 A B C y u ok (HS.out.later HK13.out) (HY.out.later ERaw.later HK13.out) (HU.out.later ERaw.later HK13.out) (by omega) (by omega) (by have := HYL.out; omega) (by have := HUL.out; omega)).mono ?_
  rintro e w14 ⟨rfl, b14⟩
  rw [HUB.out]
  have HM14 := hide (HM13.out.trans b14)
  have HK14 := hide (HK13.out.trans b14)
  clear b14 d0 d1 d2 e0 e1 e2
  cases ub with
  | false =>
    go_wp2_with fail
    go_ret
    exact ⟨rfl, B0.out.trans (HL3.out.trans HK14.out)⟩
  | true =>
  have r_d := R0.out.later (HL3.out.trans HK14.out)
  have d0 := r_d.cell (i := 0) rfl; have d1 := r_d.cell (i := 1) rfl; have d2 := r_d.cell (i := 2) rfl
  clear r_d
  have r_e := R1.out.later (HL3.out.trans HK14.out)
  have e0 := r_e.cell (i := 0) rfl; have e1 := r_e.cell (i := 1) rfl; have e2 := r_e.cell (i := 2) rfl
  clear r_e
  have hr14 := HR11.out.later HM14.out
  have z0 := hr14.cell (i := 0) rfl; have z1 := hr14.cell (i := 1) rfl; have z2 := hr14.cell (i := 2) rfl
  clear hr14
  have hcs : ∀ x ∈ axpyL C C 1, Sized x 10 := fun x hx => (sized_axpy (HS.out.c).sized (HS.out.c).sized sized_1 x hx).mono (by omega)
  obtain ⟨ok2, hs2, hok2⟩ := std_newc (HS.out.later HK14.out) (HC11.out.later EOwn.later HM14.out) hcs (by rw [dbl_len]; have := HLC.out; omega)
  have HS2 := hide hs2
  have HUB2 := hide (best_doubled HUB.out hok2)
  clear hcs hs2 hok2
  go_wp2_with fail
  refine (best_calls w14 _ _ _ _ _ 10 1 10 A B (axpyL C C 1) y (axpyL u u 1) ok2 HS2.out (HY.out.later ERaw.later HK14.out) (HV.out.later ERaw.later HM14.out) (by omega) (by omega) (by have := HYL.out; omega) (by rw [dbl_len]; have := HUL.out; omega)).mono ?_
  rintro e w15 ⟨rfl, b15⟩
  rw [HUB2.out]
  have HK15 := hide (HK14.out.trans b15)
  clear b15
  go_wp2_with fail
  go_ret
  exact ⟨rfl, B0.out.trans (HL3.out.trans HK15.out)⟩

end Go.Proofs.YtbhohnhkephefaaGreat
