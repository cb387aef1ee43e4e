/- LinDots: the walk. -/
import Derived.Test.YtkendajmnmchoaaM17
set_option linter.unusedVariables false
set_option linter.unusedSimpArgs false
set_option maxRecDepth 100000
namespace Go.Proofs.Ytkendajmnmchoaa
open Go.RowKit Go.Shelf
attribute [local go_sem ↓] Go.wp_at_zero Go.wp_at_succ

theorem made_flat (n : Nat) : (madeCells (#[.bool false, .slice none 0 0, .bool false, .slice none 0 0] : Array Value) (n * 4)).toList = (List.replicate n ((false, .slice none 0 0, false, .slice none 0 0) : Bool × Value × Bool × Value)).flatMap fun (e : Bool × Value × Bool × Value) => [.bool e.1, e.2.1, .bool e.2.2.1, e.2.2.2] := by
  induction n with
  | zero => simp [madeCells]
  | succ n ih =>
    rw [List.replicate_succ', List.flatMap_append, ← ih]
    apply List.ext_getElem
    · simp [madeCells]; omega
    · intro k h1 h2
      by_cases hk : k < n * 4
      · rw [List.getElem_append_left (by simpa [madeCells] using hk)]
        simp [madeCells]
      · have h3 : k < (n + 1) * 4 := by simpa [madeCells] using h1
        rw [List.getElem_append_right (by simpa [madeCells] using hk)]
        obtain ⟨j, hj, rfl⟩ : ∃ j, j < 4 ∧ k = n * 4 + j := ⟨k - n * 4, by omega, by omega⟩
        simp only [madeCells, Array.toList_map, Array.toList_range, List.getElem_map, List.getElem_range, List.length_map, List.length_range]
        match j, hj with
        | 0, _ => simp
        | 1, _ => simp
        | 2, _ => simp
        | 3, _ => simp

theorem cmpQ_self (a : Rat) : cmpQ a a = 0 := by
  unfold cmpQ; simp
theorem qcmp_same (w : World) (va vb : Value) (a : Rat) (k m : Nat) (ha : RawR w va a k) (hb : RawR w vb a m) (hkm : k + m ≤ 80000000) :
    Calls Try.prog 27 #[va, vb] w (RetV w (.int .i64 0)) := by
  have h := qcmp_calls w va vb a a k m ha hb hkm
  rwa [cmpQ_self] at h

theorem raw_zero (W : World) : RawR W (.agg #[.bool false, .slice none 0 0, .bool false, .slice none 0 0]) 0 1 := by
  refine ⟨false, none, 0, 0, false, none, 0, 0, 0, 0, rfl, ?_, ?_, rfl⟩
  · exact ⟨false, none, 0, 0, [], rfl, U32s.nil W, rfl, by simp⟩
  · exact ⟨false, none, 0, 0, [], rfl, U32s.nil W, rfl, by simp⟩

theorem wpList_make_rats {w : World} {ops : Array Oper} {rest : List Oper} {o : Oper} {a : Act} {Q : Exit → Act → World → Prop}
    (hg : o.guard = none) (l : Operand) (hop : o.op = Op.makeSlice 22 l l) (L : Int) (n : Nat) (hl : a.eval l = .int .i64 L) (hL : L = (n : Int)) (b2 : n ≤ 1000000000)
    (hK : ∀ g w', w.heap.size ≤ g → OutRats (ERaw 1) w' (fun _ => False) w.heap.size (.slice (some ⟨g, 0, none⟩) n n) (List.replicate n 0) → Later w w' → wpList Try.prog ops Q rest (a.put o.dst (.slice (some ⟨g, 0, none⟩) n n)) w') :
    wpList Try.prog ops Q (o :: rest) a w := by
  obtain ⟨i, hi, hz, hs, hb⟩ := info_parts info_rat
  refine wpList_make_full w hg l l 22 hop w.heap.size 27 i (.agg #[.bool false, .slice none 0 0, .bool false, .slice none 0 0]) 4 Try.underlying22 hi hz hs .i64 .i64 L L n hl hl hL hL (by rw [hb]; omega) (by unfold maxLen; omega) (Nat.le_refl _) ?_
  intro w' hown hgr
  refine hK _ w' (Nat.le_refl _) ?_ (Later.grown (Later.refl w) hgr (fun k hk => by cases hk))
  refine ⟨List.replicate n (false, .slice none 0 0, false, .slice none 0 0), by simp, ?_, ?_, ?_⟩
  · rw [List.length_replicate, ← made_flat]; exact hown
  · intro e he
    rw [List.mem_replicate] at he
    obtain ⟨-, rfl⟩ := he
    exact ⟨⟨_, _, _, rfl⟩, ⟨_, _, _, rfl⟩⟩
  · refine On.pure fun W i e q he hq => ?_
    rw [List.getElem?_replicate] at he hq
    split at he
    · rename_i hin
      rw [if_pos hin] at hq
      injection he with he; injection hq with hq
      subst he hq
      exact raw_zero W
    · cases he

set_option maxHeartbeats 8000000 in
theorem lindots_walk (w : World) (va vb vk : Value) (a b : List Rat) (q : Rat) (ha : Rats EAny w va a) (hb : Rats EAny w vb b) (hk : EAny w vk q) :
    Calls Try.prog 5 #[va, vb, vk] w (RetV w (.bool true)) := by
  have HA := hide ha; have HB := hide hb
  obtain ⟨kk, hk⟩ := hk
  obtain ⟨A0, na, ca, rfl, hna, -⟩ := ha.form
  obtain ⟨B0, nb, cb, rfl, hnb, -⟩ := hb.form
  obtain ⟨sk, A5, n5, c5, sk', A6, n6, c6, rfl⟩ := hk.open_
  have HNA := hide hna; have HNB := hide hnb; have HK : Hid (EAny w (.agg #[.bool sk, .slice A5 n5 c5, .bool sk', .slice A6 n6 c6]) q) := hide ⟨kk, hk⟩
  clear ha hb hk hna hnb
  obtain ⟨W0, hW0⟩ : ∃ W0, W0 = w.alloc (Obj.cells #[Value.bool sk, Value.slice A5 n5 c5, Value.bool sk', Value.slice A6 n6 c6] 27) := ⟨_, rfl⟩
  obtain ⟨hb0, r1, hsz0⟩ := boxes1 w [.bool sk, .slice A5 n5 c5, .bool sk', .slice A6 n6 c6] 27 hW0
  have R1 := hide r1; have B0' := hide hb0; have HW0 := hide hW0
  clear r1 hb0 hW0
  go_enter Try.func5, Try.ntmps5
  go_wp2_with fail
  rw [← HW0.out]
  refine (awake_calls _).mono ?_
  rintro e w1 ⟨rfl, b1⟩
  have HL1 := hide (B0'.out.trans b1)
  have HR1 := hide (R1.out.later b1)
  clear b1
  go_wp2_with fail
  refine (few_calls w1 _ a 10 (HA.out.later EAny.later HL1.out) (by omega)).mono ?_
  rintro e w2 ⟨t, rfl, hf, hw⟩
  subst hw
  cases t with
  | false =>
    go_wp2_with fail
    go_ret
    exact ⟨rfl, HL1.out⟩
  | true =>
    have HFA := hide (hf rfl)
    clear hf
    go_wp2_with fail
    refine (few_calls w1 _ b 10 (HB.out.later EAny.later HL1.out) (by omega)).mono ?_
    rintro e w2 ⟨t, rfl, hf, hw⟩
    subst hw
    cases t with
    | false =>
      obtain ⟨d1, d2, d3, d4, d5, d6, d7, d8⟩ := row_cells4 HR1.out
      go_wp2_with fail
      go_ret
      exact ⟨rfl, HL1.out⟩
    | true =>
      have HFB := hide (hf rfl)
      clear hf
      obtain ⟨d1, d2, d3, d4, d5, d6, d7, d8⟩ := row_cells4 HR1.out
      go_wp2_with fail
      have HB2 : Hid (Later w1 (w1.alloc (Obj.cells #[Value.bool sk, Value.slice A5 n5 c5, Value.bool sk', Value.slice A6 n6 c6] 27))) := hide ((Later.refl w1).alloc _)
      obtain ⟨w2, hw2⟩ : ∃ w2, w2 = w1.alloc (Obj.cells #[Value.bool sk, Value.slice A5 n5 c5, Value.bool sk', Value.slice A6 n6 c6] 27) := ⟨_, rfl⟩
      have hrn : Row w2 w1.heap.size 27 [.bool sk, .slice A5 n5 c5, .bool sk', .slice A6 n6 c6] := by rw [hw2]; exact Row.new w1 _ _
      rw [← hw2] at HB2 ⊢
      have HRN := hide hrn
      have HL2 := hide (HL1.out.trans HB2.out)
      clear hw2 hrn
      refine (few_calls w2 _ [q] 1 (rats_one HRN.out (EAny.later _ _ _ _ HK.out HL2.out)) (by omega)).mono ?_
      rintro e w3 ⟨t, rfl, hf, hw⟩
      subst hw
      cases t with
      | false =>
        go_wp2_with fail
        go_ret
        exact ⟨rfl, HL2.out⟩
      | true =>
        have HFK : Hid (RawR w2 (.agg #[.bool sk, .slice A5 n5 c5, .bool sk', .slice A6 n6 c6]) q 1) := hide (rats_one_inv HRN.out (hf rfl).2)
        have HRA : Hid (∀ W, Later w1 W → Rats (ERaw 1) W (.slice A0 na ca) a) := hide fun W hW => HFA.out.2.later ERaw.later hW
        have HRB : Hid (∀ W, Later w1 W → Rats (ERaw 1) W (.slice B0 nb cb) b) := hide fun W hW => HFB.out.2.later ERaw.later hW
        have HR2 := hide (HR1.out.later HB2.out)
        have HSA := hide HFA.out.2.sized; have HSB := hide HFB.out.2.sized; have HSK := hide HFK.out.sized
        clear hf d1 d2 d3 d4 d5 d6 d7 d8
        by_cases hlen : na = nb
        · have hab : a.length = b.length := by rw [← HNA.out, ← HNB.out]; exact hlen
          have hal : a.length ≤ 10 := HFA.out.1
          have HAB := hide hab; have HAL := hide hal
          have hzn : na ≤ 10 := by rw [HNA.out]; exact hal
          have t1 : ((na : Int) != (nb : Int)) = false := by rw [hlen]; simp
          have hD : Sized (dotL a b) 100 := by
            unfold dotL
            refine (sized_sumR (sized_zip HSA.out HSB.out)).mono ?_
            rw [List.length_zipWith]; omega
          have HD := hide hD
          have HQD : Hid (Sized (q * dotL a b) 102) := hide ((HSK.out.mul hD).mono (by omega))
          have HZN := hide hzn
          clear hlen hab hal hD hzn
          go_wp2_with fail
          refine (dot_calls w2 _ _ a b 1 1 (HRA.out _ HB2.out) (HRB.out _ HB2.out) HAB.out (by have := HAL.out; omega)).mono ?_
          rintro e w4 ⟨v4, ok4, rfl, ⟨o4, rfl⟩, b4⟩
          obtain ⟨s4, P4, q4, e4, P4', q4', e4', rfl, o4⟩ := o4.open_; have O4 := hide o4; clear o4
          go_wp2_with fail
          obtain ⟨wa, hwa⟩ : ∃ wa, wa = w4.alloc (Obj.cells #[Value.bool s4, Value.slice P4 q4 e4, Value.bool false, Value.slice P4' q4' e4'] 27) := ⟨_, rfl⟩
          have hra : Row wa w4.heap.size 27 [.bool s4, .slice P4 q4 e4, .bool false, .slice P4' q4' e4'] := by rw [hwa]; exact Row.new w4 _ _
          have hoa : OwnR wa 0 (.agg #[.bool s4, .slice P4 q4 e4, .bool false, .slice P4' q4' e4']) (dotL a b) := by rw [hwa]; exact OwnR.weaken (OwnR.later O4.out ((Later.refl _).alloc _)) (Nat.zero_le _)
          have hla : Later w2 wa := by rw [hwa]; exact b4.alloc _
          rw [← hwa]
          obtain ⟨g4, hg4⟩ : ∃ g, g = w4.heap.size := ⟨_, rfl⟩
          rw [← hg4] at hra ⊢
          have HRA4 := hide hra; have HOA := hide hoa; have HLA := hide hla
          clear hwa hra hoa hla hg4 b4 O4
          refine (dot_calls wa _ _ b a 1 1 (HRB.out _ (HB2.out.trans HLA.out)) (HRA.out _ (HB2.out.trans HLA.out)) HAB.out.symm (by have := HAL.out; have := HAB.out; omega)).mono ?_
          rintro e w5 ⟨v5, ok5, rfl, ⟨o5, rfl⟩, b5⟩
          obtain ⟨s5, P5, q5, e5, P5', q5', e5', rfl, o5⟩ := o5.open_; have O5 := hide o5; clear o5
          go_upto_region 7 with fail
          obtain ⟨wb, hwb⟩ : ∃ wb, wb = w5.alloc (Obj.cells #[Value.bool s5, Value.slice P5 q5 e5, Value.bool false, Value.slice P5' q5' e5'] 27) := ⟨_, rfl⟩
          have hrb : Row wb w5.heap.size 27 [.bool s5, .slice P5 q5 e5, .bool false, .slice P5' q5' e5'] := by rw [hwb]; exact Row.new w5 _ _
          have hob : OwnR wb 0 (.agg #[.bool s5, .slice P5 q5 e5, .bool false, .slice P5' q5' e5']) (dotL a b) := by rw [hwb, dotL_comm a b]; exact OwnR.weaken (OwnR.later O5.out ((Later.refl _).alloc _)) (Nat.zero_le _)
          have hlb : Later wa wb := by rw [hwb]; exact b5.alloc _
          rw [← hwb]
          obtain ⟨g5, hg5⟩ : ∃ g, g = w5.heap.size := ⟨_, rfl⟩
          rw [← hg5] at hrb ⊢
          have HRB5 := hide hrb; have HOB := hide hob; have HLB := hide hlb
          clear hwb hrb hob hlb hg5 b5 O5
          go_wp2_with (at_make; refine wpList_make_rats rfl (.tmp 52) rfl _ na rfl rfl (by have := HZN.out; omega) ?_; intro g6 w6 hg6 ho6 b6; have hr2 := HR2.out.later ((HLA.out.trans HLB.out).trans b6); obtain ⟨d1, d2, d3, d4, d5, d6, d7, d8⟩ := row_cells4 hr2; have HB6 := hide b6; have HO6 := hide ho6; clear hr2 hg6 b6 ho6)
          have HL6 := hide ((HLA.out.trans HLB.out).trans HB6.out)
          have HZ6 := hide (HO6.out.rats.now)
          refine (addtimes_calls w6 _ _ _ (List.replicate na 0) a q 1 1 1 HZ6.out (HRA.out _ (HB2.out.trans HL6.out)) (HFK.out.later HL6.out) (by rw [List.length_replicate]; exact HNA.out) (by rw [List.length_replicate]; have := HZN.out; omega) (by omega)).mono ?_
          rintro e w7 ⟨v7, ok7, rfl, ⟨o7, rfl⟩, b7⟩
          have HO7 := hide (o7.now)
          obtain ⟨A7', n7', c7', rfl, -⟩ := HO7.out.form
          have HB7 := hide b7
          clear d1 d2 d3 d4 d5 d6 d7 d8 o7 b7
          have hsz : ∀ x ∈ axpyL (List.replicate na 0) a q, Sized x 10 := fun x hx => (sized_axpy HZ6.out.sized HSA.out HSK.out x hx).mono (by omega)
          have hal7 : (axpyL (List.replicate na 0) a q).length = b.length := by
            unfold axpyL; rw [List.length_zipWith, List.length_replicate, HNA.out, Nat.min_self]; exact HAB.out
          have HR7 : Hid (Rats (ERaw 10) w7 (.slice A7' n7' c7') (axpyL (List.replicate na 0) a q)) := hide (HO7.out.map fun v q hq he => OwnR.raw (B := 0) he (hsz q hq))
          have HAL7 := hide hal7
          clear hsz hal7
          go_wp2_with fail
          refine (dot_calls w7 _ _ (axpyL (List.replicate na 0) a q) b 10 1 HR7.out (HRB.out _ ((HB2.out.trans HL6.out).trans HB7.out)) HAL7.out (by have := HAL.out; have := HAB.out; have := HAL7.out; omega)).mono ?_
          rintro e w9 ⟨v9, ok9, rfl, ⟨o9, rfl⟩, b9⟩
          obtain ⟨s9, P9, q9, e9, P9', q9', e9', rfl, o9⟩ := o9.open_; have O9 := hide o9; clear o9
          go_upto_region 10 with fail
          obtain ⟨wc, hwc⟩ : ∃ wc, wc = w9.alloc (Obj.cells #[Value.bool s9, Value.slice P9 q9 e9, Value.bool false, Value.slice P9' q9' e9'] 27) := ⟨_, rfl⟩
          have hx9 : Row wc w9.heap.size 27 [.bool s9, .slice P9 q9 e9, .bool false, .slice P9' q9' e9'] := by rw [hwc]; exact Row.new w9 _ _
          have hoc : OwnR wc 0 (.agg #[.bool s9, .slice P9 q9 e9, .bool false, .slice P9' q9' e9']) (q * dotL a b) := by
            have e1 : dotL (axpyL (List.replicate na 0) a q) b = q * dotL a b := by rw [HNA.out]; exact dotL_axpy a q b
            rw [hwc, ← e1]; exact OwnR.weaken (OwnR.later O9.out ((Later.refl _).alloc _)) (Nat.zero_le _)
          have hlc7 : Later w6 wc := by rw [hwc]; exact (HB7.out.trans b9).alloc _
          rw [← hwc]
          obtain ⟨g9, hg9⟩ : ∃ g, g = w9.heap.size := ⟨_, rfl⟩
          rw [← hg9] at hx9 ⊢
          have hlc : Later wb wc.drew := (HB6.out.trans hlc7).drew
          have HLC := hide hlc
          have hx4 := HRA4.out.later (HLB.out.trans hlc)
          have hx5 := HRB5.out.later hlc
          have hx9 := hx9.later (Later.refl wc).drew
          have hr2 := HR2.out.later ((HLA.out.trans HLB.out).trans hlc)
          have HO4C := hide (HOA.out.later (HLB.out.trans hlc)); have HO5C := hide (HOB.out.later hlc); have HO9C := hide (OwnR.later hoc (Later.refl wc).drew)
          have HKC := hide (HFK.out.later ((HLA.out.trans HLB.out).trans hlc))
          have HT1 : Hid (∀ w', Later wc.drew w' → w'.cell? ⟨w.heap.size, 0, none⟩ = some (.bool sk) ∧ w'.cell? ⟨w.heap.size, 1, none⟩ = some (.slice A5 n5 c5) ∧ w'.cell? ⟨w.heap.size, 2, none⟩ = some (.bool sk') ∧ w'.cell? ⟨w.heap.size, 3, none⟩ = some (.slice A6 n6 c6) ∧ w'.cell? ⟨g4, 0, none⟩ = some (.bool s4) ∧ w'.cell? ⟨g4, 1, none⟩ = some (.slice P4 q4 e4) ∧ w'.cell? ⟨g4, 2, none⟩ = some (.bool false) ∧ w'.cell? ⟨g4, 3, none⟩ = some (.slice P4' q4' e4') ∧ w'.cell? ⟨g5, 0, none⟩ = some (.bool s5) ∧ w'.cell? ⟨g5, 1, none⟩ = some (.slice P5 q5 e5) ∧ w'.cell? ⟨g5, 2, none⟩ = some (.bool false) ∧ w'.cell? ⟨g5, 3, none⟩ = some (.slice P5' q5' e5') ∧ w'.cell? ⟨g9, 0, none⟩ = some (.bool s9) ∧ w'.cell? ⟨g9, 1, none⟩ = some (.slice P9 q9 e9) ∧ w'.cell? ⟨g9, 2, none⟩ = some (.bool false) ∧ w'.cell? ⟨g9, 3, none⟩ = some (.slice P9' q9' e9')) :=
            hide fun w' hb => ⟨(hr2.later hb).cell rfl, (hr2.later hb).cell rfl, (hr2.later hb).cell rfl, (hr2.later hb).cell rfl, (hx4.later hb).cell rfl, (hx4.later hb).cell rfl, (hx4.later hb).cell rfl, (hx4.later hb).cell rfl, (hx5.later hb).cell rfl, (hx5.later hb).cell rfl, (hx5.later hb).cell rfl, (hx5.later hb).cell rfl, (hx9.later hb).cell rfl, (hx9.later hb).cell rfl, (hx9.later hb).cell rfl, (hx9.later hb).cell rfl⟩

          have HLF := hide (HL2.out.trans ((HLA.out.trans HLB.out).trans hlc))
          clear hwc hx9 hoc hlc7 hg9 hlc hx4 hx5 hr2 b9 O9
          rename_i K2 hK2
          go_region_held3 (fun w' => w'.cell? ⟨w.heap.size, 0, none⟩ = some (.bool sk) ∧ w'.cell? ⟨w.heap.size, 1, none⟩ = some (.slice A5 n5 c5) ∧ w'.cell? ⟨w.heap.size, 2, none⟩ = some (.bool sk') ∧ w'.cell? ⟨w.heap.size, 3, none⟩ = some (.slice A6 n6 c6) ∧ w'.cell? ⟨g4, 0, none⟩ = some (.bool s4) ∧ w'.cell? ⟨g4, 1, none⟩ = some (.slice P4 q4 e4) ∧ w'.cell? ⟨g4, 2, none⟩ = some (.bool false) ∧ w'.cell? ⟨g4, 3, none⟩ = some (.slice P4' q4' e4') ∧ w'.cell? ⟨g5, 0, none⟩ = some (.bool s5) ∧ w'.cell? ⟨g5, 1, none⟩ = some (.slice P5 q5 e5) ∧ w'.cell? ⟨g5, 2, none⟩ = some (.bool false) ∧ w'.cell? ⟨g5, 3, none⟩ = some (.slice P5' q5' e5') ∧ w'.cell? ⟨g9, 0, none⟩ = some (.bool s9) ∧ w'.cell? ⟨g9, 1, none⟩ = some (.slice P9 q9 e9) ∧ w'.cell? ⟨g9, 2, none⟩ = some (.bool false) ∧ w'.cell? ⟨g9, 3, none⟩ = some (.slice P9' q9' e9'))
            (first | exact HT1.out _ (Later.refl _) | exact HT1.out _ b10 | exact HT1.out _ (b10.trans b11) | exact HT1.out _ ((b10.trans b11).trans b12))
            (first
              | ((with_reducible refine (qsame_calls _ _ _ (dotL a b) (dotL a b) 0 0 100 100 HO4C.out HO5C.out HD.out HD.out (by omega) (by omega) true (by simp)).mono ?_); rintro e w10 ⟨rfl, b10⟩)
              | ((with_reducible refine (qmul_calls _ _ _ q (dotL a b) 1 100 (RawR.later HKC.out b10) (OwnR.raw (OwnR.later HO4C.out b10) HD.out) (by omega)).mono ?_); rintro e w11 ⟨v11, rfl, o11, b11⟩; obtain ⟨s11, P11, q11, e11, P11', q11', e11', rfl, o11⟩ := o11.open_; have O11 := hide o11; clear o11)
              | ((with_reducible refine (qcmp_same _ _ _ (q * dotL a b) 102 102 (OwnR.raw (OwnR.later HO9C.out (b10.trans b11)) HQD.out) (OwnR.raw O11.out HQD.out) (by omega)).mono ?_); rintro e w12 ⟨rfl, b12⟩))
          show K2 _ _
          refine hK2 _ _ ?_
          go_wp2_with fail
          go_ret
          exact ⟨rfl, (HLF.out.trans b10).trans (b11.trans b12)⟩
        · have t1 : ((na : Int) != (nb : Int)) = true := by rw [bne_iff_ne]; omega
          clear hlen
          go_wp2_with fail
          go_ret
          exact ⟨rfl, HL2.out⟩
end Go.Proofs.Ytkendajmnmchoaa

/- LinUnit: the walk. -/
set_option linter.unusedVariables false
set_option linter.unusedSimpArgs false
set_option maxRecDepth 100000
namespace Go.Proofs.Ytkendajmnmchoaa
open Go.RowKit Go.Shelf
attribute [local go_sem ↓] Go.wp_at_zero Go.wp_at_succ

/-- 1 at one place -/
def unitRow (n i : Nat) : List Rat := (List.range n).map fun k => if k = i then 1 else 0
def unitTo (n j : Nat) : List (List Rat) := (List.range j).map (unitRow n)
theorem unitTo_succ (n j : Nat) : unitTo n (j+1) = unitTo n j ++ [unitRow n j] := by simp [unitTo, List.range_succ]
theorem unitTo_len (n j : Nat) : (unitTo n j).length = j := by simp [unitTo]
theorem unitRow_len (n j : Nat) : (unitRow n j).length = n := by simp [unitRow]
theorem unitRow_at {n i k : Nat} (hk : k < n) : (unitRow n i)[k]? = some (if k = i then 1 else 0) := by simp [unitRow, hk]
theorem unitRow_take {n i k : Nat} (hk : k < n) : (unitRow n i).take (k+1) = (unitRow n i).take k ++ [if k = i then 1 else 0] := by
  rw [List.take_add_one, unitRow_at hk]; rfl
theorem unit_rect (n j : Nat) : ∀ row ∈ unitTo n j, row.length = n := by
  intro row h
  obtain ⟨i, -, rfl⟩ := List.mem_map.1 h
  exact unitRow_len n i
theorem unit_sized (n j : Nat) : ∀ row ∈ unitTo n j, ∀ q ∈ row, Sized q 1 := by
  intro row h
  obtain ⟨i, -, rfl⟩ := List.mem_map.1 h
  exact sized_list1 (fun q hq => by
    obtain ⟨k, -, rfl⟩ := List.mem_map.1 hq
    split
    · exact .inr (.inl rfl)
    · exact .inl rfl)
theorem unit_ent {n i k : Nat} (hi : i < n) (hk : k < n) : ent (unitTo n n) i k = if k = i then 1 else 0 := by
  unfold ent unitTo
  rw [List.getD_eq_getElem?_getD (l := List.map _ _), List.getElem?_map, List.getElem?_range hi]
  simp only [Option.map_some, Option.getD_some]
  rw [List.getD_eq_getElem?_getD, unitRow_at hk]; rfl
theorem tab_ext {t u : List (List Rat)} {n m : Nat} (ht : t.length = n) (hu : u.length = n) (hr : ∀ row ∈ t, row.length = m) (hs : ∀ row ∈ u, row.length = m) (h : ∀ i k, i < n → k < m → ent t i k = ent u i k) : t = u := by
  apply List.ext_getElem (by omega)
  intro i h1 h2
  have e1 := hr _ (List.getElem_mem h1)
  have e2 := hs _ (List.getElem_mem h2)
  refine list_eq_of_getD e1 e2 fun k hk => ?_
  have h3 := h i k (by omega) hk
  unfold ent at h3
  rwa [List.getD_eq_getElem?_getD (l := t), List.getD_eq_getElem?_getD (l := u), List.getElem?_eq_getElem h1, List.getElem?_eq_getElem h2] at h3
theorem pivL_rect {t : List (List Rat)} {r c m : Nat} (hr : r < t.length) (h : ∀ row ∈ t, row.length = m) : ∀ row ∈ pivL t r c, row.length = m := by
  have hg : ∀ a, a < t.length → (t.getD a []).length = m := fun a ha => h _ (by rw [List.getD_eq_getElem?_getD, List.getElem?_eq_getElem ha]; exact List.getElem_mem ha)
  intro row hrow
  obtain ⟨i, hi, rfl⟩ := List.mem_map.1 hrow
  have hi2 := List.mem_range.1 hi
  unfold pivRow ownL axpyL
  split
  · rw [List.length_map]; exact hg r hr
  · rw [List.length_zipWith, List.length_map, hg r hr, hg i hi2, Nat.min_self]
theorem unit_piv {n i : Nat} (hi : i < n) : pivL (unitTo n n) i i = unitTo n n := by
  have hl := unitTo_len n n
  have hr := unit_rect n n
  refine tab_ext (n := n) (m := n) (by simp [pivL, hl]) hl (pivL_rect (by omega) hr) hr fun a k ha hk => ?_
  rw [piv_ent (by omega) hr (by omega) hk]
  unfold piv
  rw [unit_ent hi hk, unit_ent hi hi, unit_ent ha hk, unit_ent ha hi, if_pos rfl]
  by_cases e : a = i
  · subst e; rw [if_pos rfl]; split <;> grind
  · have e2 : ¬ i = a := fun h => e h.symm
    simp only [if_neg e2]; grind

set_option maxHeartbeats 8000000 in
theorem linunit_walk (w : World) (vb : Value) (b : List Rat) (hb : Rats EAny w vb b) : Calls Try.prog 4 #[vb] w (RetV w (.bool true)) := by
  have HB := hide hb
  obtain ⟨B0, nb, cb, rfl, hnb, -⟩ := hb.form
  have HNB := hide hnb
  clear hb hnb
  go_enter Try.func4, Try.ntmps4
  go_wp2_with fail
  refine (awake_calls _).mono ?_
  rintro e w1 ⟨rfl, b1⟩
  have HL1 := hide b1
  clear b1
  go_wp2_with fail
  refine (few_calls w1 _ b 6 (HB.out.later EAny.later HL1.out) (by omega)).mono ?_
  rintro e w2 ⟨t, rfl, hf, hw⟩
  subst hw
  cases t with
  | false =>
    go_wp2_with fail
    go_ret
    exact ⟨rfl, HL1.out⟩
  | true =>
    have HFB := hide (hf rfl)
    have hn6 : nb ≤ 6 := by rw [HNB.out]; exact HFB.out.1
    have HN6 := hide hn6
    have HRB : Hid (∀ W, Later w1 W → Rats (ERaw 1) W (.slice B0 nb cb) b) := hide fun W hW => HFB.out.2.later ERaw.later hW
    clear hf
    go_wp2_with fail
    go_loopw [4, 5, 6] (fun tv wv i wr => ∃ j : Nat, j ≤ nb ∧ i = .int .i64 (j : Int) ∧ OutTab EOwn wr (fun k => w1.heap.size ≤ k ∧ some k ≠ wv.ownBlock) w1.heap.size tv (unitTo nb j) ∧ OutRats EOwn wr (fun k => w1.heap.size ≤ k ∧ some k ≠ tv.ownBlock) w1.heap.size wv (b.take j) ∧ Later w1 wr) (fun _ _ i _ => (nb - intOf i).toNat)
    case atStart => exact ⟨0, by omega, rfl, OutTab.nil _ _ _ _, OutRats.nil _ _ _ _, Later.refl w1⟩
    case round =>
      obtain ⟨j, hj, rfl, ht, hw, hL⟩ := hrel
      by_cases hjn : j < nb
      · have HT := hide ht; have HW := hide hw; have HLO := hide hL
        have hwr := hL.size_le
        have htlt := ht.lt; have hwlt := hw.lt
        have HAP := hide (rats_tab_apart hw ht)
        clear ht hw hL
        go_wp2_with fail
        obtain ⟨wo, hwo⟩ : ∃ wo, wo = wr := ⟨_, rfl⟩
        rw [← hwo] at HT HW HLO hwr htlt hwlt ⊢
        clear hwo
        clear wr
        go_loopw [7, 8] (fun rv k wi => ∃ m : Nat, m ≤ nb ∧ k = .int .i64 (m : Int) ∧ OutRats EOwn wi (fun b => wo.heap.size ≤ b) wo.heap.size rv ((unitRow nb j).take m) ∧ Later wo wi) (fun _ k _ => (nb - intOf k).toNat)
        case atStart => exact ⟨0, by omega, rfl, OutRats.nil _ _ _ _, Later.refl _⟩
        case round =>
          obtain ⟨m, hm, rfl, hr, hi⟩ := hrel
          by_cases hmn : m < nb
          · have HROW := hide hr; have HLI := hide hi
            have hblt := hr.lt
            have hwi := hi.size_le
            clear hr hi
            obtain ⟨rv, hrv⟩ : ∃ rv, rv = u7 := ⟨_, rfl⟩
            rw [← hrv] at HROW hblt ⊢
            clear hrv
            by_cases e : m = j
            · have t2 : ((m : Int) == (j : Int)) = true := by simp; omega
              have HTK := hide (unitRow_take (i := j) hmn)
              rw [if_pos e] at HTK
              go_wp2_with fail
              refine (lawof_calls _ 1 (by omega) (by omega) 1 (by exact div_1)).mono ?_
              rintro e w5 ⟨v5, rfl, o5, b5⟩
              obtain ⟨s5, P5, q5, e5, P5', q5', e5', rfl, o5⟩ := o5.open_; have O5 := hide o5; clear o5
              have hs5 := b5.size_le
              have HOUT2 : Hid (∀ o, OutRats EOwn (w5.alloc o) (fun b => wo.heap.size ≤ b) wo.heap.size rv ((unitRow nb j).take m)) := hide fun o => HROW.out.later (b5.alloc o)
              have HEL : Hid (∀ o, On (w5.alloc o) (fun b => wo.heap.size ≤ b ∧ some b ≠ rv.ownBlock) (fun W => EOwn W (.agg #[.bool s5, .slice P5 q5 e5, .bool false, .slice P5' q5' e5']) 1)) := hide fun o =>
                (On.made (On.ownR O5.out) (by omega) (fun k hk => by have := (hblt k hk).2; omega)).later ((Later.refl _).alloc _)
              have hln : ((unitRow nb j).take m).length ≤ 3000000000 := by rw [List.length_take]; omega
              have HROWX : Hid (Row (w5.alloc (Obj.cells #[Value.bool s5, Value.slice P5 q5 e5, Value.bool false, Value.slice P5' q5' e5'] 27)) w5.heap.size 27 [.bool s5, .slice P5 q5 e5, .bool false, .slice P5' q5' e5']) := hide (Row.new w5 _ _)
              have HBASE : Hid (∀ o, wo.heap.size ≤ (w5.alloc o).heap.size) := hide fun o => by rw [World.size_alloc]; omega
              have HB5 := hide b5
              clear b5 t2
              go_wp2_with (at_builtin; refine wpList_append_rat rfl _ _ rfl rfl (HOUT2.out _) rfl HROWX.out (HEL.out _) hln (HBASE.out _) ?_; intro v9 w9 hout9 hg9)
              have kall := ((Later.grownBy HB5.out rv.ownBlock).trans (World.grownBy_alloc _ _ _)).trans hg9
              have HO2 : Hid (OutRats EOwn w9 (fun b => wo.heap.size ≤ b) wo.heap.size v9 ((unitRow nb j).take (m+1))) := hide (by rw [HTK.out]; exact hout9)
              have hL9 : Later wo w9 := HLI.out.grown kall fun k hk => by have := (hblt k hk).1; omega
              clear hout9 hg9 kall
              go_wp2_with fail
              exact ⟨⟨m+1, by omega, by go_num, HO2.out, hL9⟩, by simp [intOf]; omega⟩
            · have t2 : ((m : Int) == (j : Int)) = false := by simp; omega
              have HTK := hide (unitRow_take (i := j) hmn)
              rw [if_neg e] at HTK
              go_wp2_with fail
              refine (lawof_calls _ 0 (by omega) (by omega) 0 (by exact div_0)).mono ?_
              rintro e w5 ⟨v5, rfl, o5, b5⟩
              obtain ⟨s5, P5, q5, e5, P5', q5', e5', rfl, o5⟩ := o5.open_; have O5 := hide o5; clear o5
              have hs5 := b5.size_le
              have HOUT2 : Hid (∀ o, OutRats EOwn (w5.alloc o) (fun b => wo.heap.size ≤ b) wo.heap.size rv ((unitRow nb j).take m)) := hide fun o => HROW.out.later (b5.alloc o)
              have HEL : Hid (∀ o, On (w5.alloc o) (fun b => wo.heap.size ≤ b ∧ some b ≠ rv.ownBlock) (fun W => EOwn W (.agg #[.bool s5, .slice P5 q5 e5, .bool false, .slice P5' q5' e5']) 0)) := hide fun o =>
                (On.made (On.ownR O5.out) (by omega) (fun k hk => by have := (hblt k hk).2; omega)).later ((Later.refl _).alloc _)
              have hln : ((unitRow nb j).take m).length ≤ 3000000000 := by rw [List.length_take]; omega
              have HROWX : Hid (Row (w5.alloc (Obj.cells #[Value.bool s5, Value.slice P5 q5 e5, Value.bool false, Value.slice P5' q5' e5'] 27)) w5.heap.size 27 [.bool s5, .slice P5 q5 e5, .bool false, .slice P5' q5' e5']) := hide (Row.new w5 _ _)
              have HBASE : Hid (∀ o, wo.heap.size ≤ (w5.alloc o).heap.size) := hide fun o => by rw [World.size_alloc]; omega
              have HB5 := hide b5
              clear b5 t2
              go_wp2_with (at_builtin; refine wpList_append_rat rfl _ _ rfl rfl (HOUT2.out _) rfl HROWX.out (HEL.out _) hln (HBASE.out _) ?_; intro v9 w9 hout9 hg9)
              have kall := ((Later.grownBy HB5.out rv.ownBlock).trans (World.grownBy_alloc _ _ _)).trans hg9
              have HO2 : Hid (OutRats EOwn w9 (fun b => wo.heap.size ≤ b) wo.heap.size v9 ((unitRow nb j).take (m+1))) := hide (by rw [HTK.out]; exact hout9)
              have hL9 : Later wo w9 := HLI.out.grown kall fun k hk => by have := (hblt k hk).1; omega
              clear hout9 hg9 kall
              go_wp2_with fail
              exact ⟨⟨m+1, by omega, by go_num, HO2.out, hL9⟩, by simp [intOf]; omega⟩
          · obtain rfl : nb = m := by omega
            rw [List.take_of_length_le (by rw [unitRow_len]; exact Nat.le_refl _)] at hr
            obtain ⟨R0, rn, rc, hrv, -⟩ := hr.rats.now.form
            subst hrv
            have HROW := hide hr; have HLI := hide hi
            have hwi := hi.size_le
            obtain ⟨x, hx⟩ : ∃ x, b[j]? = some x := ⟨b[j]'(by have := HNB.out; omega), List.getElem?_eq_getElem _⟩
            have HTK : Hid (b.take (j+1) = b.take j ++ [x]) := hide (by rw [List.take_add_one, hx]; rfl)
            have HXJ := hide hx
            have hj0 : (0 : Int) ≤ (j : Int) := by omega
            have hj1 : (j : Int) < nb := by omega
            have HOUT2 : Hid (∀ o, OutTab EOwn (wr.alloc o) (fun k => w1.heap.size ≤ k ∧ some k ≠ u5.ownBlock) w1.heap.size u4 (unitTo nb j)) := hide fun o => HT.out.later (hi.alloc _)
            have HEL : Hid (∀ o, On (wr.alloc o) (fun k => (w1.heap.size ≤ k ∧ some k ≠ u5.ownBlock) ∧ some k ≠ u4.ownBlock) (fun W => Rats EOwn W (.slice R0 rn rc) (unitRow nb j))) := hide fun o =>
              (hr.rats.mono (P' := fun k => (w1.heap.size ≤ k ∧ some k ≠ u5.ownBlock) ∧ some k ≠ u4.ownBlock) (fun k hk _ => by
                have hk2 : wo.heap.size ≤ k := by rcases hk with h | h <;> exact h
                exact ⟨⟨by omega, fun e => by have := (hwlt k e.symm).2; omega⟩, fun e => by have := (htlt k e.symm).2; omega⟩)).later ((Later.refl _).alloc _)
            have HROWX : Hid (Row (wr.alloc (Obj.cells #[Value.slice R0 rn rc] 22)) wr.heap.size 22 [.slice R0 rn rc]) := hide (Row.new wr _ _)
            have hln : (unitTo nb j).length ≤ 3000000000 := by rw [unitTo_len]; omega
            have HBASE : Hid (∀ o, w1.heap.size ≤ (wr.alloc o).heap.size) := hide fun o => by rw [World.size_alloc]; omega
            clear hr hi hx
            go_upto_region 20 with (at_builtin; refine wpList_append_row3 rfl _ _ rfl rfl (HOUT2.out _) rfl HROWX.out (HEL.out _) hln (HBASE.out _) ?_; intro v9 w9 hout9 hg9 hblk9)
            have HW9 : Hid (OutRats EOwn w9 (fun k => w1.heap.size ≤ k ∧ some k ≠ v9.ownBlock) w1.heap.size u5 (b.take j)) := hide ((HW.out.later (HLI.out.alloc _)).beside hg9 HAP.out (fun k hk hlt => ⟨hk.2, hk.1, by
              rcases hblk9 with e | e
              · rw [e]; exact hk.2
              · rw [e]; intro e2; injection e2 with e2; omega⟩))
            have hL9 : Later w1 w9 := ((HLO.out.trans HLI.out).alloc _).grown hg9 fun k hk => (htlt k hk).1
            have hs9 : wr.heap.size + 1 ≤ w9.heap.size := by have := hg9.size; rw [World.size_alloc] at this; exact this
            have HT9 := hide hout9; have HL9 := hide hL9
            have h9lt := hout9.lt
            have HAP9 := hide (rats_tab_apart HW9.out hout9)
            obtain ⟨b1, off1, sx, A1, n1, c1, sx', A2, n2, c2, rfl, x1, x2, x3, x4, ex⟩ := (HRB.out _ hL9).at_ HXJ.out
            have HEX := hide (show RawR w9 (.agg #[.bool sx, .slice A1 n1 c1, .bool sx', .slice A2 n2 c2]) x 1 from ex)
            clear hout9 hg9 hblk9 hL9 ex
            go_wp2_with fail
            refine (qplain_calls _ _ x 1 HEX.out (by omega)).mono ?_
            rintro e w11 ⟨v11, rfl, o11, b11⟩
            obtain ⟨s11, P11, q11, e11, P11', q11', e11', rfl, o11⟩ := o11.open_; have O11 := hide o11; clear o11
            have hs11 := b11.size_le
            have HOUT3 : Hid (∀ o, OutRats EOwn (w11.alloc o) (fun k => w1.heap.size ≤ k ∧ some k ≠ v9.ownBlock) w1.heap.size u5 (b.take j)) := hide fun o => HW9.out.later (b11.alloc _)
            have HEL3 : Hid (∀ o, On (w11.alloc o) (fun k => (w1.heap.size ≤ k ∧ some k ≠ v9.ownBlock) ∧ some k ≠ u5.ownBlock) (fun W => EOwn W (.agg #[.bool s11, .slice P11 q11 e11, .bool false, .slice P11' q11' e11']) x)) := hide fun o =>
              ((On.ownR O11.out).mono (P' := fun k => (w1.heap.size ≤ k ∧ some k ≠ v9.ownBlock) ∧ some k ≠ u5.ownBlock) (fun k hk _ => ⟨⟨by omega, fun e => by have := (h9lt k e.symm).2; omega⟩, fun e => by have := (hwlt k e.symm).2; omega⟩)).later ((Later.refl _).alloc _)
            have HROWX3 : Hid (Row (w11.alloc (Obj.cells #[Value.bool s11, Value.slice P11 q11 e11, Value.bool false, Value.slice P11' q11' e11'] 27)) w11.heap.size 27 [.bool s11, .slice P11 q11 e11, .bool false, .slice P11' q11' e11']) := hide (Row.new w11 _ _)
            have hln3 : (b.take j).length ≤ 3000000000 := by rw [List.length_take]; omega
            have HBASE3 : Hid (∀ o, w1.heap.size ≤ (w11.alloc o).heap.size) := hide fun o => by rw [World.size_alloc]; omega
            have HB11 := hide b11
            clear b11
            go_wp2_with (at_builtin; refine wpList_append_rat3 rfl _ _ rfl rfl (HOUT3.out _) rfl HROWX3.out (HEL3.out _) hln3 (HBASE3.out _) ?_; intro v12 w12 hout12 hg12 hblk12)
            have HT12 : Hid (OutTab EOwn w12 (fun k => w1.heap.size ≤ k ∧ some k ≠ v12.ownBlock) w1.heap.size v9 (unitTo nb (j+1))) := hide (by
              rw [unitTo_succ]
              refine (HT9.out.later (HB11.out.alloc _)).beside hg12 (fun k hk e => HAP9.out k e.symm hk.symm) (fun k hk hlt => ⟨hk.2, hk.1, ?_⟩)
              rcases hblk12 with e | e
              · rw [e]; exact hk.2
              · rw [e]; intro e2; injection e2 with e2; omega)
            have HW12 : Hid (OutRats EOwn w12 (fun k => w1.heap.size ≤ k ∧ some k ≠ v9.ownBlock) w1.heap.size v12 (b.take (j+1))) := hide (by rw [HTK.out]; exact hout12)
            have hL12 : Later w1 w12 := ((HL9.out.trans HB11.out).alloc _).grown hg12 fun k hk => (hwlt k hk).1
            clear hout12 hg12 hblk12
            go_wp2_with fail
            exact ⟨⟨j+1, by omega, by go_num, HT12.out, HW12.out, hL12⟩, by simp [intOf]; omega⟩
      · obtain rfl : nb = j := by omega
        rw [List.take_of_length_le (by rw [← HNB.out]; exact Nat.le_refl _)] at hw
        have HTT := hide (ht.tab.now); have HWW := hide (hw.rats.now); have HLO := hide hL
        obtain ⟨A4, n4, c4, rfl, -⟩ := HTT.out.form
        obtain ⟨A5, n5, c5, rfl, -⟩ := HWW.out.form
        have HRAW : Hid (∀ W, Later wr W → Tab (ERaw 1) W (.slice A4 n4 c4) (unitTo nb nb)) := hide fun W hW => (HTT.out.later EOwn.later hW).map (fun row hr v q hq he => OwnR.raw (B := 0) he (unit_sized nb nb row hr q hq))
        clear ht hw hL
        go_wp2_with fail
        refine (solve_calls wr _ _ (unitTo nb nb) b 1 nb (HRAW.out _ (Later.refl _)) (HRB.out _ HLO.out) (unitTo_len _ _) HNB.out.symm (unit_rect nb nb) (by omega) (Nat.le_trans (grow_mono hn6) (by decide))).mono ?_
        rintro e w3 ⟨v3, o3, rfl, b3, (⟨rfl, rfl, hs⟩ | ⟨rfl, x, hxl, hx, hxs, hsol, -⟩)⟩
        · exact absurd hs (unit_not_sing fun i k hi hk => unit_ent hi hk)
        obtain rfl : b = x := (list_eq_of_getD hxl HNB.out.symm fun k hk => unit_sol (fun i k hi hk => unit_ent hi hk) hsol hk).symm
        have HX := hide (hx.rats.now); have HXS := hide hxs
        obtain ⟨A3, n3, c3, rfl, -⟩ := HX.out.form
        have HB3 := hide b3
        clear hx hxs hsol hxl b3
        go_wp2_with fail
        go_loopw [12] (fun i wi => ∃ m : Nat, m ≤ nb ∧ i = .int .i64 (m : Int) ∧ Later w3 wi) (fun i _ => (nb - intOf i).toNat)
        case atStart => exact ⟨0, by omega, rfl, Later.refl _⟩
        case round =>
          obtain ⟨m, hm, rfl, hi⟩ := hrel
          have HLI := hide hi
          clear hi
          by_cases hmn : m < nb
          · have hgm : (unitTo nb nb).getD m [] = unitRow nb m := by
              unfold unitTo
              rw [List.getD_eq_getElem?_getD, List.getElem?_map, List.getElem?_range hmn]; rfl
            have hgl : ((unitTo nb nb).getD m []).length = nb := by rw [hgm]; exact unitRow_len _ _
            have hgp : ((unitTo nb nb).getD m []).getD m 0 ≠ 0 := by
              have h1 := unit_ent hmn hmn
              unfold ent at h1
              rw [h1, if_pos rfl]; decide
            have HPC := hide (fun W h => pivot_calls W (.slice A4 n4 c4) (unitTo nb nb) 1 m m h (by rw [unitTo_len]; exact hmn) (by rw [unitTo_len]; omega) (fun row hr => by rw [hgl]; exact unit_rect nb nb row hr) (by rw [hgl]; exact hmn) (by rw [hgl]; omega) hgp (by omega))
            clear hgm hgl hgp
            go_wp2_with fail
            refine (HPC.out _ (HRAW.out _ (HB3.out.trans HLI.out))).mono ?_
            rintro e w5 ⟨v5, o5, rfl, ⟨ht5, rfl⟩, b5⟩
            rw [unit_piv hmn] at ht5
            have HT5 := hide (ht5.tab.now); have HB5 := hide b5
            obtain ⟨A6, n6, c6, rfl, -⟩ := HT5.out.form
            clear ht5 b5
            go_wp2_with fail
            refine (tsame_calls _ _ _ (unitTo nb nb) (unitTo nb nb) 1 1 HT5.out (HTT.out.later EOwn.later ((HB3.out.trans HLI.out).trans HB5.out)) (unit_sized nb nb) (unit_sized nb nb) (by omega) (by omega) (by rw [unitTo_len]; omega) (fun row hr => by rw [unit_rect nb nb row hr]; omega) true (by simp)).mono ?_
            rintro e w6 ⟨rfl, b6⟩
            have hL6 := (HLI.out.trans HB5.out).trans b6
            clear b6
            go_wp2_with fail
            exact ⟨⟨m+1, by omega, by go_num, hL6⟩, by simp [intOf]; omega⟩
          · go_wp2_with fail
            refine (lsame_calls _ _ _ b b (grow 1 nb + 1) 2 (HX.out.later EOwn.later HLI.out) (HWW.out.later EOwn.later (HB3.out.trans HLI.out)) HXS.out ((HRB.out _ (Later.refl _)).sized) (by have := Nat.le_trans (grow_mono (k := 1) hn6) (show grow 1 6 ≤ 10000000 by decide); omega) (by omega) (by rw [← HNB.out]; omega) true (by simp)).mono ?_
            rintro e w7 ⟨rfl, b7⟩
            go_wp2_with fail
            go_ret
            exact ⟨rfl, (((HL1.out.trans HLO.out).trans HB3.out).trans HLI.out).trans b7⟩
end Go.Proofs.Ytkendajmnmchoaa

/- LinTurned: the walk. -/
set_option linter.unusedVariables false
set_option linter.unusedSimpArgs false
set_option maxRecDepth 100000
namespace Go.Proofs.Ytkendajmnmchoaa
open Go.RowKit Go.Shelf
attribute [local go_sem ↓] Go.wp_at_zero Go.wp_at_succ

/-- what Solve answers, said of its row alone -/
def SolveP2 (w : World) (n : Nat) (t : List (List Rat)) (b : List Rat) (K : Nat) (e : Ending) (w' : World) : Prop :=
  ∃ v o x, e = .returned (.tuple #[v, .bool o]) ∧ Later w w' ∧ OutRats EOwn w' (fun k => w.heap.size ≤ k) w.heap.size v x ∧ (∀ q ∈ x, Sized q (K + 1)) ∧ x.length ≤ n ∧
    ((o = false ∧ x = [] ∧ SingF n (ent t)) ∨ (o = true ∧ x.length = n ∧ SolF n (ent t) (fun i => b.getD i 0) (fun i => x.getD i 0) ∧ ¬ SingF n (ent t)))
theorem solve_calls2 (w : World) (va vb : Value) (t : List (List Rat)) (b : List Rat) (k n : Nat) (ha : Tab (ERaw k) w va t) (hb : Rats (ERaw k) w vb b) (hn : t.length = n) (hbl : b.length = n) (hrect : ∀ row ∈ t, row.length = n) (hn9 : n ≤ 100000) (hk : grow k n ≤ 10000000) :
    Calls Try.prog 24 #[va, vb] w (SolveP2 w n t b (grow k n)) := by
  refine (solve_calls w va vb t b k n ha hb hn hbl hrect hn9 hk).mono ?_
  rintro e w' ⟨v, o, rfl, b3, (⟨rfl, rfl, hs⟩ | ⟨rfl, x, hxl, hx, hxs, hsol, hns⟩)⟩
  · exact ⟨_, _, [], rfl, b3, OutRats.nil _ _ _ _, by simp, by simp, .inl ⟨rfl, rfl, hs⟩⟩
  · exact ⟨_, _, x, rfl, b3, hx, hxs, by omega, .inr ⟨rfl, hxl, hsol, hns⟩⟩

def SolX (n : Nat) (t : List (List Rat)) (b : List Rat) (o : Bool) (x : List Rat) : Prop :=
  (o = false ∧ x = [] ∧ SingF n (ent t)) ∨ (o = true ∧ x.length = n ∧ SolF n (ent t) (fun i => b.getD i 0) (fun i => x.getD i 0) ∧ ¬ SingF n (ent t))

theorem turned_rows {n : Nat} {t : List (List Rat)} {b x y : List Rat} {o p : Bool} (ht : t.length = n) (hb : b.length = n) (h : SolX n t b o x) (k : SolX n t.reverse b.reverse p y) : p = o ∧ y = x := by
  have e1 : ∀ i j, i < n → j < n → ent t.reverse i j = ent t (n-1-i) j := fun i j hi hj => ent_rows ht hi j
  have e2 : ∀ i, i < n → (fun i => b.reverse.getD i 0) i = (fun i => b.getD i 0) (n-1-i) := fun i hi => getD_rev hb hi
  have e3 := sing_rows e1
  rcases h with ⟨rfl, rfl, hs⟩ | ⟨rfl, hl, hs, hn⟩
  · rcases k with ⟨rfl, rfl, -⟩ | ⟨rfl, -, -, kn⟩
    · exact ⟨rfl, rfl⟩
    · exact absurd (e3.2 hs) kn
  · rcases k with ⟨rfl, rfl, ks⟩ | ⟨rfl, kl, ks, kn⟩
    · exact absurd (e3.1 ks) hn
    · exact ⟨rfl, list_eq_of_getD kl hl fun j hj => sol_unique hn ((sol_rows (b := fun i => b.getD i 0) e1 e2).1 ks) hs hj⟩
theorem turned_cols {n : Nat} {t : List (List Rat)} {b x z : List Rat} {o p : Bool} (ht : t.length = n) (hr : ∀ row ∈ t, row.length = n) (h : SolX n t b o x) (k : SolX n (t.map List.reverse) b p z) : p = o ∧ z.reverse = x := by
  have e1 : ∀ i j, i < n → j < n → ent (t.map List.reverse) i j = ent t i (n-1-j) := fun i j hi hj => ent_cols ht hr hi hj
  have e3 := sing_cols e1
  rcases h with ⟨rfl, rfl, hs⟩ | ⟨rfl, hl, hs, hn⟩
  · rcases k with ⟨rfl, rfl, -⟩ | ⟨rfl, -, -, kn⟩
    · exact ⟨rfl, rfl⟩
    · exact absurd (e3.2 hs) kn
  · rcases k with ⟨rfl, rfl, ks⟩ | ⟨rfl, kl, ks, kn⟩
    · exact absurd (e3.1 ks) hn
    · refine ⟨rfl, list_eq_of_getD (by rw [List.length_reverse]; exact kl) hl fun j hj => ?_⟩
      rw [getD_rev kl hj]
      exact sol_unique hn ((sol_cols e1).1 ks) hs hj
theorem rev_at {α : Type} {l : List α} {n p j : Nat} {x : α} (hl : l.length = n) (hj : p + 1 + j = n) (hx : l[p]? = some x) : l.reverse.take (j+1) = l.reverse.take j ++ [x] := by
  rw [List.take_add_one, List.getElem?_reverse (by omega), hl, show n - 1 - j = p by omega, hx]; rfl
theorem rectB_true {t : List (List Rat)} {n : Nat} (h : rectB t n = true) : ∀ row ∈ t, row.length = n := by
  intro row hr
  unfold rectB at h
  rw [List.all_eq_true] at h
  simpa using h row hr

set_option maxHeartbeats 16000000 in
theorem linturned_walk (w : World) (va vb : Value) (t : List (List Rat)) (b : List Rat) (ha : Tab EAny w va t) (hb : Rats EAny w vb b) : Calls Try.prog 6 #[va, vb] w (RetV w (.bool true)) := by
  have HA := hide ha; have HB := hide hb
  obtain ⟨A0, nt, ca, rfl, hnt, -⟩ := ha.form
  obtain ⟨B0, nb, cb, rfl, hnb, -⟩ := hb.form
  have HNB := hide hnb; have HNT := hide hnt
  clear ha hb hnb hnt
  go_enter Try.func6, Try.ntmps6
  go_wp2_with fail
  refine (awake_calls _).mono ?_
  rintro e w1 ⟨rfl, b1⟩
  have HL1 := hide b1
  clear b1
  go_wp2_with fail
  refine (fewrows_calls w1 _ t 4 (HA.out.later EAny.later HL1.out) (by omega)).mono ?_
  rintro e w2 ⟨u, rfl, hf, hw⟩
  subst hw
  cases u with
  | false =>
    go_wp2_with fail
    go_ret
    exact ⟨rfl, HL1.out⟩
  | true =>
  have HFT := hide (hf rfl)
  clear hf
  go_wp2_with fail
  refine (few_calls w1 _ b 4 (HB.out.later EAny.later HL1.out) (by omega)).mono ?_
  rintro e w2 ⟨u, rfl, hf, hw⟩
  subst hw
  cases u with
  | false =>
    go_wp2_with fail
    go_ret
    exact ⟨rfl, HL1.out⟩
  | true =>
  have HFB := hide (hf rfl)
  clear hf
  by_cases hlen : nb = nt
  case neg =>
    have t1 : ((nb : Int) != (nt : Int)) = true := by rw [bne_iff_ne]; omega
    go_wp2_with fail
    go_ret
    exact ⟨rfl, HL1.out⟩
  case pos =>
  have t1 : ((nb : Int) != (nt : Int)) = false := by simp; omega
  have hn4 : nt ≤ 4 := by rw [HNT.out]; exact HFT.out.1
  have HLEN := hide hlen; have HN4 := hide hn4
  clear hlen
  go_wp2_with fail
  obtain ⟨u, hu⟩ : ∃ u, rectB t nt = u := ⟨_, rfl⟩
  refine (qrect_calls w1 _ t (ERaw 1) HFT.out.2.2 nt (by have := HFT.out.1; omega) u hu).mono ?_
  rintro e w2 ⟨rfl, b2⟩
  have HLA := hide (HL1.out.trans b2)
  have HB2 := hide b2
  clear b2
  cases u with
  | false =>
    go_wp2_with fail
    go_ret
    exact ⟨rfl, HLA.out⟩
  | true =>
  have HRT := hide (rectB_true hu)
  have HTW : Hid (∀ W, Later w2 W → Tab (ERaw 1) W (.slice A0 nt ca) t) := hide fun W hW => HFT.out.2.2.later ERaw.later (HB2.out.trans hW)
  have HRB : Hid (∀ W, Later w2 W → Rats (ERaw 1) W (.slice B0 nb cb) b) := hide fun W hW => HFB.out.2.later ERaw.later (HB2.out.trans hW)
  have hbl : b.length = nt := by rw [← HNB.out]; exact HLEN.out
  have htl : t.length = nt := HNT.out.symm
  have HBL := hide hbl; have HTL := hide htl
  clear hu t1 hbl htl
  go_wp2_with fail
  go_loopw [5, 6, 7, 9] (fun rv tv cv i wr => ∃ j : Nat, j ≤ nt ∧ i = .int .i64 (j : Int) ∧ OutTab (ERaw 1) wr (fun k => k < w2.heap.size) w2.heap.size rv (t.reverse.take j) ∧ OutRats (ERaw 1) wr (fun k => k < w2.heap.size) w2.heap.size tv (b.reverse.take j) ∧ OutTab (ERaw 1) wr (fun k => some k ≠ rv.ownBlock ∧ some k ≠ tv.ownBlock) w2.heap.size cv ((t.map List.reverse).take j) ∧ Hid (∀ g, cv.ownBlock = some g → some g ≠ rv.ownBlock) ∧ Later w2 wr) (fun _ _ _ i _ => (nt - intOf i).toNat)
  case atStart => exact ⟨0, by omega, rfl, OutTab.nil _ _ _ _, OutRats.nil _ _ _ _, OutTab.nil _ _ _ _, hide (fun g hg => by cases hg), Later.refl w2⟩
  case round =>
    obtain ⟨j, hj, rfl, hr, ht, hc, hcr, hL⟩ := hrel
    by_cases hjn : j < nt
    · obtain ⟨p, hp⟩ : ∃ p, p + 1 + j = nt := ⟨nt - 1 - j, by omega⟩
      have hw2 := hL.size_le
      obtain ⟨row, hrow⟩ : ∃ row, t[p]? = some row := ⟨t[p]'(by have := HTL.out; omega), List.getElem?_eq_getElem _⟩
      obtain ⟨y, hy⟩ : ∃ y, b[p]? = some y := ⟨b[p]'(by have := HBL.out; omega), List.getElem?_eq_getElem _⟩
      obtain ⟨rj, hrj⟩ : ∃ rj, t[j]? = some rj := ⟨t[j]'(by have := HTL.out; omega), List.getElem?_eq_getElem _⟩
      obtain ⟨bt, ot, R1, rn, rc, rfl, x1, ex⟩ := (HTW.out w2 (Later.refl _)).at_ hrow
      obtain ⟨bt', ot', S1, sn, sc, e0, y1, ey⟩ := (HTW.out w2 (Later.refl _)).at_ hrj
      injection e0 with e0; injection e0 with e1 e2
      subst e1; subst e2
      obtain ⟨b1, off1, sx, A1, n1, c1, sx', A2, n2, c2, rfl, z1, z2, z3, z4, ez⟩ := (HRB.out w2 (Later.refl _)).at_ hy
      have HROW := hide ex; have HRJ := hide ey; have HEZ := hide (show RawR w2 (.agg #[.bool sx, .slice A1 n1 c1, .bool sx', .slice A2 n2 c2]) y 1 from ez)
      have HRJL := hide (HRT.out rj (List.mem_of_getElem? hrj))
      have HTK := hide (rev_at HTL.out hp hrow); have HBK := hide (rev_at HBL.out hp hy)
      have HCK : Hid ((t.map List.reverse).take (j+1) = (t.map List.reverse).take j ++ [rj.reverse]) := hide (by
        rw [List.take_add_one, List.getElem?_map, hrj]; rfl)
      have p0 : (nt : Int) - 1 - (j : Int) = (p : Int) := by omega
      have p1 : (0 : Int) ≤ (p : Int) := by omega
      have p2 : (p : Int) < (nt : Int) := by omega
      have p3 : (p : Int) < (nb : Int) := by have := HLEN.out; omega
      have hj0 : (0 : Int) ≤ (j : Int) := by omega
      have hj1 : (j : Int) < (nt : Int) := by omega
      have HXC : Hid (∀ W, Later w2 W → W.cell? ⟨bt, ot + p, none⟩ = some (.slice R1 rn rc)) := hide fun W hW => Later.cell hW x1
      have HYC : Hid (∀ W, Later w2 W → W.cell? ⟨bt, ot + j, none⟩ = some (.slice S1 sn sc)) := hide fun W hW => Later.cell hW y1
      have HZC : Hid (∀ W, Later w2 W → W.cell? ⟨b1, off1 + p * 4, none⟩ = some (.bool sx) ∧ W.cell? ⟨b1, off1 + p * 4 + 1, none⟩ = some (.slice A1 n1 c1) ∧ W.cell? ⟨b1, off1 + p * 4 + 2, none⟩ = some (.bool sx') ∧ W.cell? ⟨b1, off1 + p * 4 + 3, none⟩ = some (.slice A2 n2 c2)) := hide fun W hW => ⟨Later.cell hW z1, Later.cell hW z2, Later.cell hW z3, Later.cell hW z4⟩
      have HR := hide hr; have HT := hide ht; have HC := hide hc; have HLW := hide hL
      have hrlt := hr.lt; have htlt := ht.lt; have hclt := hc.lt
      have HRAP := hide (rats_tab_apart ht hr); have HCAP := hide (rats_tab_apart ht hc)
      have hx1 := HXC.out wr hL
      -- a row of the table
      have HOUT2 : Hid (∀ o, OutTab (ERaw 1) (wr.alloc o) (fun k => k < w2.heap.size) w2.heap.size u5 (t.reverse.take j)) := hide fun o => hr.later ((Later.refl _).alloc _)
      have HEL : Hid (∀ o, On (wr.alloc o) (fun k => k < w2.heap.size ∧ some k ≠ u5.ownBlock) (fun W => Rats (ERaw 1) W (.slice R1 rn rc) row)) := hide fun o =>
        ((On.ratsRaw ex).mono (P' := fun k => k < w2.heap.size ∧ some k ≠ u5.ownBlock) (fun k hk _ => ⟨hk, fun e => by have := (hrlt k e.symm).1; omega⟩)).later (hL.alloc _)
      have HROWX : Hid (Row (wr.alloc (Obj.cells #[Value.slice R1 rn rc] 22)) wr.heap.size 22 [.slice R1 rn rc]) := hide (Row.new wr _ _)
      have hln : (t.reverse.take j).length ≤ 3000000000 := by rw [List.length_take]; omega
      have HBASE : Hid (∀ o, w2.heap.size ≤ (wr.alloc o).heap.size) := hide fun o => by rw [World.size_alloc]; omega
      clear x1 ex y1 ey z1 z2 z3 z4 ez hr ht hc hrow hy hrj hL
      go_upto_region 13 with (at_builtin; refine wpList_append_row3 rfl _ _ rfl rfl (HOUT2.out _) rfl HROWX.out (HEL.out _) hln (HBASE.out _) ?_; intro v9 w9 hout9 hg9 hblk9)
      have hs9 : wr.heap.size + 1 ≤ w9.heap.size := by have := hg9.size; rw [World.size_alloc] at this; exact this
      have hL9 : Later w2 w9 := (HLW.out.alloc _).grown hg9 fun k hk => (hrlt k hk).1
      have HR9 : Hid (OutTab (ERaw 1) w9 (fun k => k < w2.heap.size) w2.heap.size v9 (t.reverse.take (j+1))) := hide (by rw [HTK.out]; exact hout9)
      have HT9 : Hid (OutRats (ERaw 1) w9 (fun k => k < w2.heap.size) w2.heap.size u6 (b.reverse.take j)) := hide ((HT.out.later ((Later.refl _).alloc _)).beside hg9 HRAP.out (fun k hk hlt => ⟨fun e => by have := (hrlt k e.symm).1; omega, hk⟩))
      have HC9 : Hid (OutTab (ERaw 1) w9 (fun k => some k ≠ v9.ownBlock ∧ some k ≠ u6.ownBlock) w2.heap.size u7 ((t.map List.reverse).take j)) := hide ((HC.out.later ((Later.refl _).alloc _)).beside hg9 hcr.out (fun k hk hlt => ⟨hk.1, by
        rcases hblk9 with e | e
        · rw [e]; exact hk.1
        · rw [e]; intro e2; injection e2 with e2; omega, hk.2⟩))
      have HCR9 : Hid (∀ g, u7.ownBlock = some g → some g ≠ v9.ownBlock) := hide fun g hg => by
        rcases hblk9 with e | e
        · rw [e]; exact hcr.out g hg
        · rw [e]; intro e2; injection e2 with e2; have := (hclt g hg).2; rw [World.size_alloc] at *; omega
      have h9lt := HR9.out.lt
      have HL9 := hide hL9
      have HRAP9 := hide (rats_tab_apart HT9.out HR9.out); have HCAP9 := hide (rats_tab_apart HT9.out HC9.out)
      obtain ⟨z1, z2, z3, z4⟩ := HZC.out w9 hL9
      have HOUT3 : Hid (∀ o, OutRats (ERaw 1) (w9.alloc o) (fun k => k < w2.heap.size) w2.heap.size u6 (b.reverse.take j)) := hide fun o => HT9.out.later ((Later.refl _).alloc _)
      have HEL3 : Hid (∀ o, On (w9.alloc o) (fun k => k < w2.heap.size ∧ some k ≠ u6.ownBlock) (fun W => ERaw 1 W (.agg #[.bool sx, .slice A1 n1 c1, .bool sx', .slice A2 n2 c2]) y)) := hide fun o =>
        ((On.rawR HEZ.out).mono (P' := fun k => k < w2.heap.size ∧ some k ≠ u6.ownBlock) (fun k hk _ => ⟨hk, fun e => by have := (htlt k e.symm).1; omega⟩)).later (hL9.alloc _)
      have HROWX3 : Hid (Row (w9.alloc (Obj.cells #[Value.bool sx, Value.slice A1 n1 c1, Value.bool sx', Value.slice A2 n2 c2] 27)) w9.heap.size 27 [.bool sx, .slice A1 n1 c1, .bool sx', .slice A2 n2 c2]) := hide (Row.new w9 _ _)
      have hln3 : (b.reverse.take j).length ≤ 3000000000 := by rw [List.length_take]; omega
      have HBASE3 : Hid (∀ o, w2.heap.size ≤ (w9.alloc o).heap.size) := hide fun o => by rw [World.size_alloc]; omega
      clear hout9 hg9 hblk9 hL9 hx1 hcr
      go_upto_region 14 with (at_builtin; refine wpList_append_rat3 rfl _ _ rfl rfl (HOUT3.out _) rfl HROWX3.out (HEL3.out _) hln3 (HBASE3.out _) ?_; intro v8 w8 hout8 hg8 hblk8)
      have hs8 : w9.heap.size + 1 ≤ w8.heap.size := by have := hg8.size; rw [World.size_alloc] at this; exact this
      have hL8 : Later w2 w8 := (HL9.out.alloc _).grown hg8 fun k hk => (htlt k hk).1
      have HT8 : Hid (OutRats (ERaw 1) w8 (fun k => k < w2.heap.size) w2.heap.size v8 (b.reverse.take (j+1))) := hide (by rw [HBK.out]; exact hout8)
      have HR8 : Hid (OutTab (ERaw 1) w8 (fun k => k < w2.heap.size) w2.heap.size v9 (t.reverse.take (j+1))) := hide ((HR9.out.later ((Later.refl _).alloc _)).beside hg8 (fun k hk e => HRAP9.out k e.symm hk.symm) (fun k hk hlt => ⟨fun e => by have := (htlt k e.symm).1; omega, hk⟩))
      have HC8 : Hid (OutTab (ERaw 1) w8 (fun k => some k ≠ v9.ownBlock ∧ some k ≠ v8.ownBlock) w2.heap.size u7 ((t.map List.reverse).take j)) := hide ((HC9.out.later ((Later.refl _).alloc _)).beside hg8 (fun k hk e => HCAP9.out k e.symm hk.symm) (fun k hk hlt => ⟨hk.2, hk.1, by
        rcases hblk8 with e | e
        · rw [e]; exact hk.2
        · rw [e]; intro e2; injection e2 with e2; omega⟩))
      have HL8 := hide hL8
      have h8lt := HT8.out.lt; have hc8lt := HC8.out.lt; have hr8lt := HR8.out.lt
      clear hout8 hg8 hblk8 z1 z2 z3 z4 hL8 HOUT2 HEL HROWX HOUT3 HEL3 HROWX3 HBASE HBASE3 p0 p1 p2 p3
      obtain ⟨wo, hwo⟩ : ∃ wo, wo = w8 := ⟨_, rfl⟩
      rw [← hwo] at HT8 HR8 HC8 HL8 h8lt hc8lt hr8lt ⊢
      clear hwo
      have hw28 := HL8.out.size_le
      go_wp2_with fail
      go_loopw [10, 11] (fun ov k wi => ∃ m : Nat, m ≤ nt ∧ k = .int .i64 (m : Int) ∧ OutRats (ERaw 1) wi (fun k => k < w2.heap.size) wo.heap.size ov (rj.reverse.take m) ∧ Later wo wi) (fun _ k _ => (nt - intOf k).toNat)
      case atStart => exact ⟨0, by omega, rfl, OutRats.nil _ _ _ _, Later.refl _⟩
      case round =>
        obtain ⟨m, hm, rfl, hr, hi⟩ := hrel
        have hwi := hi.size_le
        have HI := hide hi
        by_cases hmn : m < nt
        · obtain ⟨p, hp⟩ : ∃ p, p + 1 + m = nt := ⟨nt - 1 - m, by omega⟩
          obtain ⟨y, hy⟩ : ∃ y, rj[p]? = some y := ⟨rj[p]'(by have := HRJL.out; omega), List.getElem?_eq_getElem _⟩
          have hsn : sn = nt := by
            obtain ⟨_, _, _, e0, e1, -⟩ := HRJ.out.form
            injection e0 with _ e0 _
            rw [e0, e1]; exact HRJL.out
          obtain ⟨b3, off3, sx, A1, n1, c1, sx', A2, n2, c2, rfl, z1, z2, z3, z4, ez⟩ := HRJ.out.at_ hy
          have HK := hide (rev_at HRJL.out hp hy)
          have HIL := HL8.out.trans hi
          have y1 := HYC.out wr HIL
          have z1 := Later.cell HIL z1; have z2 := Later.cell HIL z2; have z3 := Later.cell HIL z3; have z4 := Later.cell HIL z4
          have p0 : (nt : Int) - 1 - (m : Int) = (p : Int) := by omega
          have p1 : (0 : Int) ≤ (p : Int) := by omega
          have p2 : (p : Int) < (sn : Int) := by omega
          have HOUT2 : Hid (∀ o, OutRats (ERaw 1) (wr.alloc o) (fun k => k < w2.heap.size) wo.heap.size u10 (rj.reverse.take m)) := hide fun o => hr.later ((Later.refl _).alloc _)
          have hblt := hr.lt
          have HEL : Hid (∀ o, On (wr.alloc o) (fun k => k < w2.heap.size ∧ some k ≠ u10.ownBlock) (fun W => ERaw 1 W (.agg #[.bool sx, .slice A1 n1 c1, .bool sx', .slice A2 n2 c2]) y)) := hide fun o =>
            ((On.rawR (show RawR w2 _ y 1 from ez)).mono (P' := fun k => k < w2.heap.size ∧ some k ≠ u10.ownBlock) (fun k hk _ => ⟨hk, fun e => by have := (hblt k e.symm).1; omega⟩)).later (HIL.alloc _)
          have HROWX : Hid (Row (wr.alloc (Obj.cells #[Value.bool sx, Value.slice A1 n1 c1, Value.bool sx', Value.slice A2 n2 c2] 27)) wr.heap.size 27 [.bool sx, .slice A1 n1 c1, .bool sx', .slice A2 n2 c2]) := hide (Row.new wr _ _)
          have hln : (rj.reverse.take m).length ≤ 3000000000 := by rw [List.length_take]; omega
          have HBASE : Hid (∀ o, wo.heap.size ≤ (wr.alloc o).heap.size) := hide fun o => by rw [World.size_alloc]; omega
          clear hr hi ez HIL hy hsn
          go_wp2_with (at_builtin; refine wpList_append_rat rfl _ _ rfl rfl (HOUT2.out _) rfl HROWX.out (HEL.out _) hln (HBASE.out _) ?_; intro v7 w7 hout7 hg7)
          have HO7 : Hid (OutRats (ERaw 1) w7 (fun k => k < w2.heap.size) wo.heap.size v7 (rj.reverse.take (m+1))) := hide (by rw [HK.out]; exact hout7)
          have hL7 : Later wo w7 := (HI.out.alloc _).grown hg7 fun k hk => (hblt k hk).1
          clear hout7 hg7
          go_wp2_with fail
          exact ⟨⟨m+1, by omega, by go_num, HO7.out, hL7⟩, by simp [intOf]; omega⟩
        · obtain rfl : nt = m := by omega
          rw [List.take_of_length_le (by rw [List.length_reverse, HRJL.out]; exact Nat.le_refl _)] at hr
          obtain ⟨R3, rn3, rc3, hrv, -⟩ := hr.rats.now.form
          subst hrv
          have hblt := hr.lt
          have HOUT2 : Hid (∀ o, OutTab (ERaw 1) (wr.alloc o) (fun k => some k ≠ v9.ownBlock ∧ some k ≠ v8.ownBlock) w2.heap.size u7 ((t.map List.reverse).take j)) := hide fun o => HC8.out.later (hi.alloc _)
          have HEL : Hid (∀ o, On (wr.alloc o) (fun k => (some k ≠ v9.ownBlock ∧ some k ≠ v8.ownBlock) ∧ some k ≠ u7.ownBlock) (fun W => Rats (ERaw 1) W (.slice R3 rn3 rc3) rj.reverse)) := hide fun o =>
            (hr.rats.mono (P' := fun k => (some k ≠ v9.ownBlock ∧ some k ≠ v8.ownBlock) ∧ some k ≠ u7.ownBlock) (fun k hk _ => by
              have hk2 : k < w2.heap.size ∨ wo.heap.size ≤ k := hk
              refine ⟨⟨fun e => ?_, fun e => ?_⟩, fun e => ?_⟩
              · have := hr8lt k e.symm; omega
              · have := h8lt k e.symm; omega
              · have := hc8lt k e.symm; omega)).later ((Later.refl _).alloc _)
          have HROWX : Hid (Row (wr.alloc (Obj.cells #[Value.slice R3 rn3 rc3] 22)) wr.heap.size 22 [.slice R3 rn3 rc3]) := hide (Row.new wr _ _)
          have hln : ((t.map List.reverse).take j).length ≤ 3000000000 := by rw [List.length_take]; omega
          have HBASE : Hid (∀ o, w2.heap.size ≤ (wr.alloc o).heap.size) := hide fun o => by rw [World.size_alloc]; omega
          clear hr hi
          go_wp2_with (at_builtin; refine wpList_append_row3 rfl _ _ rfl rfl (HOUT2.out _) rfl HROWX.out (HEL.out _) hln (HBASE.out _) ?_; intro v7 w7 hout7 hg7 hblk7)
          have hCAP8 := rats_tab_apart HT8.out HC8.out
          have HC7 : Hid (OutTab (ERaw 1) w7 (fun k => some k ≠ v9.ownBlock ∧ some k ≠ v8.ownBlock) w2.heap.size v7 ((t.map List.reverse).take (j+1))) := hide (by rw [HCK.out]; exact hout7)
          have HR7 : Hid (OutTab (ERaw 1) w7 (fun k => k < w2.heap.size) w2.heap.size v9 (t.reverse.take (j+1))) := hide ((HR8.out.later (HI.out.alloc _)).beside hg7 (fun k hk e => HCR9.out k e.symm hk.symm) (fun k hk hlt => ⟨fun e => by have := (hc8lt k e.symm).1; omega, hk⟩))
          have HT7 : Hid (OutRats (ERaw 1) w7 (fun k => k < w2.heap.size) w2.heap.size v8 (b.reverse.take (j+1))) := hide ((HT8.out.later (HI.out.alloc _)).beside hg7 hCAP8 (fun k hk hlt => ⟨fun e => by have := (hc8lt k e.symm).1; omega, hk⟩))
          have HCR7 : Hid (∀ g, v7.ownBlock = some g → some g ≠ v9.ownBlock) := hide fun g hg => by
            rcases hblk7 with e | e
            · rw [e] at hg; exact HCR9.out g hg
            · rw [e] at hg; injection hg with hg; intro e2; have := (hr8lt g e2.symm).2; rw [World.size_alloc] at hg; omega
          have hL7 : Later w2 w7 := ((HL8.out.trans HI.out).alloc _).grown hg7 fun k hk => (hc8lt k hk).1
          clear hout7 hg7 hblk7 hCAP8
          go_wp2_with fail
          exact ⟨⟨j+1, by omega, by go_num, HR7.out, HT7.out, HC7.out, HCR7, hL7⟩, by simp [intOf]; omega⟩
    · obtain rfl : nt = j := by omega
      rw [List.take_of_length_le (by rw [List.length_reverse, HTL.out]; exact Nat.le_refl _)] at hr
      rw [List.take_of_length_le (by rw [List.length_reverse, HBL.out]; exact Nat.le_refl _)] at ht
      rw [List.take_of_length_le (by rw [List.length_map, HTL.out]; exact Nat.le_refl _)] at hc
      have HRN := hide hr.tab.now; have HTN := hide ht.rats.now; have HCN := hide hc.tab.now; have HLW := hide hL
      have HG : Hid (grow 1 nt ≤ 10000000) := hide (Nat.le_trans (grow_mono hn4) (by decide))
      clear hr ht hc hcr hL
      go_wp2_with fail
      refine (solve_calls2 wr _ _ t b 1 nt (HTW.out _ HLW.out) (HRB.out _ HLW.out) HTL.out HBL.out HRT.out (by omega) HG.out).mono ?_
      rintro e w3 ⟨v3, o3, x, rfl, b3, hx, hxs, hxl, hX⟩
      have HX := hide hx; have HXS := hide hxs; have HXX := hide hX; have HB3 := hide b3; have HXL := hide hxl
      clear hx hxs hX b3 hxl
      go_wp2_with fail
      refine (solve_calls2 w3 _ _ t.reverse b.reverse 1 nt (HRN.out.later ERaw.later HB3.out) (HTN.out.later ERaw.later HB3.out) (by rw [List.length_reverse]; exact HTL.out) (by rw [List.length_reverse]; exact HBL.out) (fun row hr => HRT.out row (List.mem_reverse.1 hr)) (by omega) HG.out).mono ?_
      rintro e w4 ⟨v4, o4, y, rfl, b4, hy, hys, hyl, hY⟩
      obtain ⟨e1, e2⟩ := turned_rows HTL.out HBL.out HXX.out hY
      subst e1
      subst e2
      have HY := hide hy; have HB4 := hide b4
      clear hy hys hyl hY b4
      go_wp2_with fail
      refine (solve_calls2 w4 _ _ (t.map List.reverse) b 1 nt (HCN.out.later ERaw.later (HB3.out.trans HB4.out)) (HRB.out _ (HLW.out.trans (HB3.out.trans HB4.out))) (by rw [List.length_map]; exact HTL.out) HBL.out (fun row hr => by
        obtain ⟨r2, h1, rfl⟩ := List.mem_map.1 hr
        rw [List.length_reverse]; exact HRT.out r2 h1) (by omega) HG.out).mono ?_
      rintro e w5 ⟨v5, o5, z, rfl, b5, hz, hzs, hzl, hZ⟩
      obtain ⟨e1, e2⟩ := turned_cols HTL.out HRT.out HXX.out hZ
      subst e1
      obtain ⟨A5, n5, c5, hv5, hn5, -⟩ := hz.rats.now.form
      subst hv5
      have HZR := hide e2; have HN5 := hide hn5
      have HZ := hide hz.ratsOn; have HB5 := hide b5
      have hn54 : n5 ≤ 4 := by omega
      clear e2 hz hzs hZ b5 hzl hn5
      go_wp2_with fail
      go_loopw [18, 19] (fun bv i wi => ∃ m : Nat, m ≤ n5 ∧ i = .int .i64 ((n5 : Int) - 1 - (m : Int)) ∧ OutRats EOwn wi (fun k => k < w5.heap.size) w5.heap.size bv (z.reverse.take m) ∧ Later w5 wi) (fun _ i _ => (intOf i + 1).toNat)
      case atStart => exact ⟨0, by omega, by simp, OutRats.nil _ _ _ _, Later.refl _⟩
      case round =>
        obtain ⟨m, hm, rfl, hr, hi⟩ := hrel
        have HI := hide hi
        have hwi := hi.size_le
        by_cases hmn : m < n5
        · obtain ⟨p, hp⟩ : ∃ p, p + 1 + m = n5 := ⟨n5 - 1 - m, by omega⟩
          rw [show (n5 : Int) - 1 - (m : Int) = (p : Int) by omega]
          obtain ⟨q, hq⟩ : ∃ q, z[p]? = some q := ⟨z[p]'(by have := HN5.out; omega), List.getElem?_eq_getElem _⟩
          obtain ⟨b3, off3, sx, A1, n1, c1, sx', A2, n2, c2, rfl, z1, z2, z3, z4, ez⟩ := HZ.out.at_ hq
          have HK := hide (rev_at HN5.out.symm hp hq)
          have z1 := Later.cell hi z1; have z2 := Later.cell hi z2; have z3 := Later.cell hi z3; have z4 := Later.cell hi z4
          have p1 : (0 : Int) ≤ (p : Int) := by omega
          have p2 : (p : Int) < (n5 : Int) := by omega
          have HOUT2 : Hid (∀ o, OutRats EOwn (wr.alloc o) (fun k => k < w5.heap.size) w5.heap.size u18 (z.reverse.take m)) := hide fun o => hr.later ((Later.refl _).alloc _)
          have hblt := hr.lt
          have HEL : Hid (∀ o, On (wr.alloc o) (fun k => k < w5.heap.size ∧ some k ≠ u18.ownBlock) (fun W => EOwn W (.agg #[.bool sx, .slice A1 n1 c1, .bool sx', .slice A2 n2 c2]) q)) := hide fun o =>
            ((show On w5 _ (fun W => EOwn W _ q) from ez).mono (P' := fun k => k < w5.heap.size ∧ some k ≠ u18.ownBlock) (fun k _ hk => ⟨hk, fun e => by have := (hblt k e.symm).1; omega⟩)).later (hi.alloc _)
          have HROWX : Hid (Row (wr.alloc (Obj.cells #[Value.bool sx, Value.slice A1 n1 c1, Value.bool sx', Value.slice A2 n2 c2] 27)) wr.heap.size 27 [.bool sx, .slice A1 n1 c1, .bool sx', .slice A2 n2 c2]) := hide (Row.new wr _ _)
          have hln : (z.reverse.take m).length ≤ 3000000000 := by rw [List.length_take]; omega
          have HBASE : Hid (∀ o, w5.heap.size ≤ (wr.alloc o).heap.size) := hide fun o => by rw [World.size_alloc]; omega
          clear hr hi ez hq
          go_wp2_with (at_builtin; refine wpList_append_rat rfl _ _ rfl rfl (HOUT2.out _) rfl HROWX.out (HEL.out _) hln (HBASE.out _) ?_; intro v7 w7 hout7 hg7)
          have HO7 : Hid (OutRats EOwn w7 (fun k => k < w5.heap.size) w5.heap.size v7 (z.reverse.take (m+1))) := hide (by rw [HK.out]; exact hout7)
          have hL7 : Later w5 w7 := (HI.out.alloc _).grown hg7 fun k hk => (hblt k hk).1
          have hpm : (p : Int) - 1 = (n5 : Int) - 1 - ((m + 1 : Nat) : Int) := by omega
          have HPM := hide hpm
          clear hout7 hg7 hpm
          go_wp2_with fail
          exact ⟨⟨m+1, by omega, by rw [← HPM.out], HO7.out, hL7⟩, by simp [intOf]⟩
        · obtain rfl : n5 = m := by omega
          rw [show (n5 : Int) - 1 - (n5 : Int) = -1 by omega]
          rw [List.take_of_length_le (by rw [List.length_reverse, ← HN5.out]; exact Nat.le_refl _), HZR.out] at hr
          have HBK := hide hr.rats.now
          obtain ⟨A6, n6, c6, hv6, -⟩ := hr.rats.now.form
          subst hv6
          have HXN := hide HX.out.rats.now; have HYN := hide HY.out.rats.now
          have h35 := HB4.out.trans HB5.out
          have H3I := hide (h35.trans hi); have H4I := hide (HB5.out.trans hi)
          clear hr hi h35
          have hg := HG.out
          go_wp2_with fail
          refine (lsame_calls _ _ _ y y (grow 1 nt + 1) (grow 1 nt + 1) (HXN.out.later EOwn.later H3I.out) (HYN.out.later EOwn.later H4I.out) HXS.out HXS.out (by omega) (by omega) (by have := HXL.out; omega) true (by simp)).mono ?_
          rintro e w6 ⟨rfl, b6⟩
          have HB6 := hide b6
          clear b6
          go_wp2_with fail
          refine (lsame_calls _ _ _ y y (grow 1 nt + 1) (grow 1 nt + 1) (HXN.out.later EOwn.later (H3I.out.trans HB6.out)) (HBK.out.later EOwn.later HB6.out) HXS.out HXS.out (by omega) (by omega) (by have := HXL.out; omega) true (by simp)).mono ?_
          rintro e w7 ⟨rfl, b7⟩
          go_wp2_with fail
          go_ret
          exact ⟨by simp, (((HLA.out.trans HLW.out).trans HB3.out).trans (H3I.out.trans HB6.out)).trans b7⟩
end Go.Proofs.Ytkendajmnmchoaa
