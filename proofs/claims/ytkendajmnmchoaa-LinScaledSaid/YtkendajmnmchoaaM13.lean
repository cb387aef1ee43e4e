/- Rows of fractions: Same, Few; and rows that are not of one length. -/
import Derived.Test.YtkendajmnmchoaaM12
set_option linter.unusedVariables false
set_option linter.unusedSimpArgs false
set_option maxRecDepth 100000
namespace Go.Proofs.Ytkendajmnmchoaa
open Go.RowKit Go.Shelf
attribute [local go_sem ↓] Go.wp_at_zero Go.wp_at_succ

set_option maxHeartbeats 4000000 in
theorem lsame_calls (w : World) (va vb : Value) (a b : List Rat) (k m : Nat) (ha : Rats EOwn w va a) (hb : Rats EOwn w vb b) (hA : ∀ q ∈ a, Sized q k) (hB : ∀ q ∈ b, Sized q m) (hk : k ≤ 1000000000) (hm : m ≤ 1000000000) (hla : a.length ≤ 1000000000) (t : Bool) (ht : decide (a = b) = t) :
    Calls Try.prog 20 #[va, vb] w (RetV w (.bool t)) := by
  have HA := hide ha; have HB := hide hb; have HT := hide ht; have SA := hide hA; have SB := hide hB
  obtain ⟨A0, na, ca, rfl, hna, -⟩ := ha.form
  obtain ⟨B0, nb, cb, rfl, hnb, -⟩ := hb.form
  have HNA := hide hna; have HNB := hide hnb
  have hna9 : na ≤ 1000000000 := by omega
  clear ha hb ht hna hnb hA hB hla
  by_cases hne : na = nb
  · subst hne
    have t1 : ((na : Int) != na) = false := by simp
    go_enter Try.func20, Try.ntmps20
    go_wp2_with fail
    go_loopw [5] (fun i wr => ∃ j : Nat, j ≤ na ∧ i = .int .i64 (j : Int) ∧ Hid (a.take j = b.take j) ∧ Later w wr) (fun i _ => (na - intOf i).toNat)
    case atStart => exact ⟨0, by omega, rfl, hide rfl, Later.refl w⟩
    case round =>
      obtain ⟨j, hj, rfl, hpre, hL⟩ := hrel
      by_cases hjn : j < na
      · obtain ⟨x, hx⟩ : ∃ x, a[j]? = some x := ⟨a[j]'(by have := HNA.out; omega), List.getElem?_eq_getElem _⟩
        obtain ⟨y, hy⟩ : ∃ y, b[j]? = some y := ⟨b[j]'(by have := HNB.out; omega), List.getElem?_eq_getElem _⟩
        obtain ⟨b1, off1, sx, A1, n1, c1, sx', A2, n2, c2, rfl, x1, x2, x3, x4, ex⟩ := (HA.out.later EOwn.later hL).at_ hx
        obtain ⟨b2, off2, sy, A3, n3, c3, sy', A4, n4, c4, rfl, y1, y2, y3, y4, ey⟩ := (HB.out.later EOwn.later hL).at_ hy
        have hstep : x = y ↔ a.take (j+1) = b.take (j+1) := by
          rw [List.take_add_one, List.take_add_one, hx, hy, hpre.out]; simp
        have HSX := hide (SA.out x (List.mem_of_getElem? hx)); have HSY := hide (SB.out y (List.mem_of_getElem? hy))
        have HST := hide hstep
        have EX : Hid (OwnR wr.drew 0 (.agg #[.bool sx, .slice A1 n1 c1, .bool sx', .slice A2 n2 c2]) x) := hide (OwnR.later ex (Later.refl wr).drew); have EY : Hid (OwnR wr.drew 0 (.agg #[.bool sy, .slice A3 n3 c3, .bool sy', .slice A4 n4 c4]) y) := hide (OwnR.later ey (Later.refl wr).drew)
        obtain ⟨u, hu⟩ : ∃ u, decide (x = y) = u := ⟨_, rfl⟩
        have HU := hide hu
        have hj0 : (0 : Int) ≤ (j : Int) := by omega
        have hj1 : (j : Int) < na := by omega
        have HS : Hid (∀ w', Later wr.drew w' → w'.cell? ⟨b1, off1 + j * 4, none⟩ = some (.bool sx) ∧ w'.cell? ⟨b1, off1 + j * 4 + 1, none⟩ = some (.slice A1 n1 c1) ∧ w'.cell? ⟨b1, off1 + j * 4 + 2, none⟩ = some (.bool sx') ∧ w'.cell? ⟨b1, off1 + j * 4 + 3, none⟩ = some (.slice A2 n2 c2) ∧ w'.cell? ⟨b2, off2 + j * 4, none⟩ = some (.bool sy) ∧ w'.cell? ⟨b2, off2 + j * 4 + 1, none⟩ = some (.slice A3 n3 c3) ∧ w'.cell? ⟨b2, off2 + j * 4 + 2, none⟩ = some (.bool sy') ∧ w'.cell? ⟨b2, off2 + j * 4 + 3, none⟩ = some (.slice A4 n4 c4)) := hide fun w' hb => ⟨Later.cell hb x1, Later.cell hb x2, Later.cell hb x3, Later.cell hb x4, Later.cell hb y1, Later.cell hb y2, Later.cell hb y3, Later.cell hb y4⟩
        clear hx hy hstep x1 x2 x3 x4 y1 y2 y3 y4 ex ey hu
        go_upto_region 6 with fail
        rename_i K2 hK2
        go_region_held3 (fun w' => w'.cell? ⟨b1, off1 + j * 4, none⟩ = some (.bool sx) ∧ w'.cell? ⟨b1, off1 + j * 4 + 1, none⟩ = some (.slice A1 n1 c1) ∧ w'.cell? ⟨b1, off1 + j * 4 + 2, none⟩ = some (.bool sx') ∧ w'.cell? ⟨b1, off1 + j * 4 + 3, none⟩ = some (.slice A2 n2 c2) ∧ w'.cell? ⟨b2, off2 + j * 4, none⟩ = some (.bool sy) ∧ w'.cell? ⟨b2, off2 + j * 4 + 1, none⟩ = some (.slice A3 n3 c3) ∧ w'.cell? ⟨b2, off2 + j * 4 + 2, none⟩ = some (.bool sy') ∧ w'.cell? ⟨b2, off2 + j * 4 + 3, none⟩ = some (.slice A4 n4 c4))
          (first | exact HS.out _ (Later.refl _) | exact HS.out _ b8)
          (first
            | ((with_reducible refine (qsame_calls _ _ _ x y 0 0 k m EX.out EY.out HSX.out HSY.out hk hm u HU.out).mono ?_); rintro e w8 ⟨rfl, b8⟩))
        show K2 _ _
        refine hK2 _ _ ?_
        have hL8 := hL.trans ((Later.refl wr).drew.trans b8)
        clear hK2
        cases u
        case true =>
          have HP := hide (HST.out.1 (by have := HU.out; simpa using this))
          go_wp2
          go_roundw
          case rel => exact ⟨j+1, by omega, by go_num, HP, hL8⟩
          case measure => simp [intOf]; omega
        case false =>
          have hf : t = false := by
            rw [← HT.out]; simp only [decide_eq_false_iff_not]
            intro e
            have h1 := HST.out.2 (by rw [e])
            have h2 := HU.out
            simp [h1] at h2
          subst hf
          go_wp2
          go_ret
          exact ⟨rfl, hL8⟩
      · obtain rfl : j = na := by omega
        have hf : t = true := by
          have h1 := hpre.out
          rw [List.take_of_length_le (by rw [← HNA.out]; exact Nat.le_refl _), List.take_of_length_le (by rw [← HNB.out]; exact Nat.le_refl _)] at h1
          rw [← HT.out]; simpa using h1
        subst hf
        go_wp2
        go_ret
        exact ⟨rfl, hL⟩
  · have hf : t = false := by
      rw [← HT.out]; simp only [decide_eq_false_iff_not]
      intro e; exact hne (by rw [HNA.out, HNB.out, e])
    subst hf
    have t1 : ((na : Int) != nb) = true := by rw [bne_iff_ne]; omega
    go_enter Try.func20, Try.ntmps20
    go_wp2_with fail
    go_ret
    exact ⟨rfl, Later.refl w⟩

/-- a fraction as it may come in, of whatever size -/
def EAny : Elem := fun w v q => ∃ k, RawR w v q k
theorem EAny.later (w w' : World) (v : Value) (q : Rat) (h : EAny w v q) (hb : Later w w') : EAny w' v q := by
  obtain ⟨k, h⟩ := h; exact ⟨k, h.later hb⟩
theorem rawI_small {w : World} {s : Bool} {A : Option Addr} {n c k m : Nat} {z : Int} (h : RawI w (.agg #[.bool s, .slice A n c]) z k) (hn : n ≤ m) : RawI w (.agg #[.bool s, .slice A n c]) z m := by
  obtain ⟨neg, A3, n3, c3, l, e3, hu, hz, hl⟩ := h
  injection e3 with e3; injection e3 with e3; injection e3 with e4 e3; injection e3 with e5 e3
  obtain ⟨A4, c4, e6, -, -, -, -⟩ := hu.form
  rw [← e5] at e6
  injection e6 with _ e7 _
  exact ⟨neg, A3, n3, c3, l, by rw [e4, e5], hu, hz, by omega⟩
theorem rawR_small {w : World} {s s' : Bool} {A A' : Option Addr} {n c n' c' m : Nat} {q : Rat} (h : EAny w (.agg #[.bool s, .slice A n c, .bool s', .slice A' n' c']) q) (hn : n ≤ m) (hn' : n' ≤ m) : RawR w (.agg #[.bool s, .slice A n c, .bool s', .slice A' n' c']) q m := by
  obtain ⟨k, a, A1, n1, c1, b, A2, n2, c2, x, y, e, h1, h2, h3⟩ := h
  injection e with e; injection e with e; injection e with e1 e; injection e with e2 e; injection e with e3 e; injection e with e4 e
  injection e1 with e1; injection e2 with e5 e6 e7; injection e3 with e3; injection e4 with e8 e9 e10
  subst e1 e3 e5 e6 e7 e8 e9 e10
  exact ⟨_, _, _, _, _, _, _, _, x, y, rfl, rawI_small h1 hn, rawI_small h2 hn', h3⟩

/-- the i-th element of a row -/
def RatAt (E : Elem) (w : World) (A : Option Addr) (i : Nat) (q : Rat) : Prop :=
  ∃ b off s A1 n1 c1 s' A2 n2 c2, A = some ⟨b, off, none⟩ ∧ w.cell? ⟨b, off + i * 4, none⟩ = some (.bool s) ∧ w.cell? ⟨b, off + i * 4 + 1, none⟩ = some (.slice A1 n1 c1) ∧
    w.cell? ⟨b, off + i * 4 + 2, none⟩ = some (.bool s') ∧ w.cell? ⟨b, off + i * 4 + 3, none⟩ = some (.slice A2 n2 c2) ∧ E w (.agg #[.bool s, .slice A1 n1 c1, .bool s', .slice A2 n2 c2]) q

/-- what Few tells -/
def FewPost (w : World) (v : Value) (l : List Rat) (most : Nat) (e : Ending) (w' : World) : Prop := ∃ t, e = .returned (.bool t) ∧ (t = true → l.length ≤ most ∧ Rats (ERaw 1) w v l) ∧ w = w'

set_option maxHeartbeats 4000000 in
theorem few_calls (w : World) (v : Value) (l : List Rat) (most : Nat) (h : Rats EAny w v l) (hm : most ≤ 1000000) :
    Calls Try.prog 14 #[v, .int .i64 (most : Int)] w (FewPost w v l most) := by
  have H := hide h
  obtain ⟨A0, na, ca, rfl, hna, hcap, hcm, -⟩ := h.form
  have HNA := hide hna
  clear h hna
  by_cases hle : most < na
  · have t1 : decide ((most : Int) < na) = true := by simp; omega
    go_enter Try.func14, Try.ntmps14
    go_wp2_with fail
    go_ret
    exact ⟨false, rfl, by simp, rfl⟩
  · have t1 : decide ((most : Int) < na) = false := by simp; omega
    go_enter Try.func14, Try.ntmps14
    go_wp2_with fail
    go_loop [5] (fun i => ∃ j : Nat, j ≤ na ∧ i = .int .i64 (j : Int) ∧ Hid (∀ i q, i < j → l[i]? = some q → RatAt (ERaw 1) w A0 i q)) (fun i => (na - intOf i).toNat)
    case atStart => exact ⟨0, by omega, rfl, hide fun i q hi => by omega⟩
    case round =>
      obtain ⟨j, hj, rfl, hpre⟩ := hrel
      by_cases hjn : j < na
      · obtain ⟨x, hx⟩ : ∃ x, l[j]? = some x := ⟨l[j]'(by have := HNA.out; omega), List.getElem?_eq_getElem _⟩
        obtain ⟨b1, off1, sx, A1, n1, c1, sx', A2, n2, c2, rfl, x1, x2, x3, x4, ex⟩ := H.out.at_ hx
        have EX := hide ex; have HX := hide hx
        have hj0 : (0 : Int) ≤ (j : Int) := by omega
        have hj1 : (j : Int) < na := by omega
        clear ex hx
        by_cases h1 : n1 ≤ 1
        · have u1 : decide ((1 : Int) < n1) = false := by simp; omega
          have u1' : decide (1 < n1) = false := by simp; omega
          by_cases h2 : n2 ≤ 1
          · have u2 : decide ((1 : Int) < n2) = false := by simp; omega
            have u2' : decide (1 < n2) = false := by simp; omega
            have HP : Hid (∀ i q, i < j + 1 → l[i]? = some q → RatAt (ERaw 1) w (some ⟨b1, off1, none⟩) i q) := hide fun i q hi hq => by
              by_cases hij : i < j
              · exact hpre.out i q hij hq
              · obtain rfl : i = j := by omega
                rw [HX.out] at hq
                injection hq with hq
                subst hq
                exact ⟨b1, off1, sx, A1, n1, c1, sx', A2, n2, c2, rfl, x1, x2, x3, x4, rawR_small EX.out h1 h2⟩
            go_wp2
            go_round
            case rel => exact ⟨j+1, by omega, by go_num, HP⟩
            case measure => simp [intOf]; omega
          · have u2 : decide ((1 : Int) < n2) = true := by simp; omega
            have u2' : decide (1 < n2) = true := by simp; omega
            go_wp2
            go_ret
            exact ⟨false, rfl, by simp, rfl⟩
        · have u1 : decide ((1 : Int) < n1) = true := by simp; omega
          have u1' : decide (1 < n1) = true := by simp; omega
          go_wp2
          go_ret
          exact ⟨false, rfl, by simp, rfl⟩
      · obtain rfl : j = na := by omega
        have HF : Hid (l.length ≤ most ∧ Rats (ERaw 1) w (.slice A0 j ca) l) := hide ⟨by rw [← HNA.out]; omega, A0, ca, by rw [HNA.out], by rw [← HNA.out]; exact hcap, hcm, fun i q hi => hpre.out i q (by rw [HNA.out]; exact (List.getElem?_eq_some_iff.1 hi).1) hi⟩
        go_wp2
        go_ret
        exact ⟨true, rfl, fun _ => HF.out, rfl⟩

set_option maxHeartbeats 1000000 in
theorem dot_ne (w : World) (va vb : Value) (a b : List Rat) (E1 E2 : Elem) (ha : Rats E1 w va a) (hb : Rats E2 w vb b) (hlen : a.length ≠ b.length) :
    Calls Try.prog 15 #[va, vb] w (Ret2 w fun w' v o => OwnR w' w.heap.size v 0 ∧ o = .bool false) := by
  obtain ⟨A0, na, ca, rfl, hna, -⟩ := ha.form
  obtain ⟨B0, nb, cb, rfl, hnb, -⟩ := hb.form
  have t1 : ((na : Int) != nb) = true := by rw [bne_iff_ne]; omega
  clear ha hb hlen hna hnb
  obtain ⟨W0, hW0⟩ : ∃ W0, W0 = w.alloc (Obj.cells #[Value.bool false, Value.slice none 0 0, Value.bool false, Value.slice none 0 0] 27) := ⟨_, rfl⟩
  obtain ⟨hb0, r1, hsz0⟩ := boxes1 w [.bool false, .slice none 0 0, .bool false, .slice none 0 0] 27 hW0
  have R1 := hide r1; have B0' := hide hb0; have HW0 := hide hW0
  clear r1 hb0 hW0
  go_enter Try.func15, Try.ntmps15
  go_wp2_with fail
  rw [← HW0.out]
  refine (lzero_calls _).mono ?_
  rintro e w1 ⟨v1, rfl, o1, b1⟩
  obtain ⟨s1, P1, q1, e1, P1', q1', e1', rfl, o1⟩ := o1.open_; have O1 := hide o1; clear o1
  have hs1 := b1.size
  have HR := hide (R1.out.later b1)
  have hL := B0'.out.trans b1
  obtain ⟨d1, d2, d3, d4, d5, d6, d7, d8⟩ := row_cells4 HR.out
  go_wp2_with fail
  refine bodyPost_ret (results_rat_bool rfl rfl rfl (HR.out.four _ _ _ _)) rfl ?_
  have oo := Only.four w.heap.size w1 (.bool s1) (.slice P1 q1 e1) (.bool false) (.slice P1' q1' e1')
  exact ⟨_, _, rfl, ⟨(O1.out.only oo (by omega)).weaken (by omega), rfl⟩, hL.only oo (Nat.le_refl _)⟩

set_option maxHeartbeats 1000000 in
theorem qdot_ne (w : World) (va vb : Value) (a b : List Rat) (E1 E2 : Elem) (ha : Rats E1 w va a) (hb : Rats E2 w vb b) (hlen : a.length ≠ b.length) :
    Calls Try.prog 16 #[va, vb] w (Ret2 w fun w' v o => OwnR w' w.heap.size v 0 ∧ o = .bool false) := by
  obtain ⟨A0, na, ca, rfl, hna, -⟩ := ha.form
  obtain ⟨B0, nb, cb, rfl, hnb, -⟩ := hb.form
  have t1 : ((na : Int) != nb) = true := by rw [bne_iff_ne]; omega
  clear ha hb hlen hna hnb
  obtain ⟨W0, hW0⟩ : ∃ W0, W0 = w.alloc (Obj.cells #[Value.bool false, Value.slice none 0 0, Value.bool false, Value.slice none 0 0] 27) := ⟨_, rfl⟩
  obtain ⟨hb0, r1, hsz0⟩ := boxes1 w [.bool false, .slice none 0 0, .bool false, .slice none 0 0] 27 hW0
  have R1 := hide r1; have B0' := hide hb0; have HW0 := hide hW0
  clear r1 hb0 hW0
  go_enter Try.func16, Try.ntmps16
  go_wp2_with fail
  rw [← HW0.out]
  refine (qzero_calls _).mono ?_
  rintro e w1 ⟨v1, rfl, o1, b1⟩
  obtain ⟨s1, P1, q1, e1, P1', q1', e1', rfl, o1⟩ := o1.open_; have O1 := hide o1; clear o1
  have hs1 := b1.size
  have hb2 := b1.alloc (Obj.cells #[Value.bool s1, Value.slice P1 q1 e1, Value.bool false, Value.slice P1' q1' e1'] 27)
  have HR := hide (R1.out.later hb2)
  have hL := hide (B0'.out.trans hb2)
  obtain ⟨d1, d2, d3, d4, d5, d6, d7, d8⟩ := row_cells4 HR.out
  go_wp2_with fail
  refine bodyPost_ret (results_rat_bool rfl rfl rfl (HR.out.four _ _ _ _)) rfl ?_
  have oo := Only.four w.heap.size (w1.alloc (Obj.cells #[Value.bool s1, Value.slice P1 q1 e1, Value.bool false, Value.slice P1' q1' e1'] 27)) (.bool s1) (.slice P1 q1 e1) (.bool false) (.slice P1' q1' e1')
  exact ⟨_, _, rfl, ⟨((O1.out.later ((Later.refl _).alloc _)).only oo (by omega)).weaken (by omega), rfl⟩, hL.out.only oo (Nat.le_refl _)⟩

set_option maxHeartbeats 1000000 in
theorem addtimes_ne (w : World) (va vb vk : Value) (a b : List Rat) (E1 E2 : Elem) (ha : Rats E1 w va a) (hb : Rats E2 w vb b) (hk : ∃ s A n c s' A' n' c', vk = .agg #[.bool s, .slice A n c, .bool s', .slice A' n' c']) (hlen : a.length ≠ b.length) :
    Calls Try.prog 17 #[va, vb, vk] w (Ret2 w fun w' v o => v = .slice none 0 0 ∧ o = .bool false) := by
  obtain ⟨A0, na, ca, rfl, hna, -⟩ := ha.form
  obtain ⟨B0, nb, cb, rfl, hnb, -⟩ := hb.form
  obtain ⟨s, A, n, c, s', A', n', c', rfl⟩ := hk
  have t1 : ((na : Int) != nb) = true := by rw [bne_iff_ne]; omega
  clear ha hb hlen hna hnb
  go_enter Try.func17, Try.ntmps17
  go_wp2_with fail
  go_ret2
  exact ⟨_, _, rfl, ⟨rfl, rfl⟩, (Later.refl w).alloc _⟩

set_option maxHeartbeats 1000000 in
theorem qaddtimes_ne (w : World) (va vb vk : Value) (a b : List Rat) (E1 E2 : Elem) (ha : Rats E1 w va a) (hb : Rats E2 w vb b) (hk : ∃ s A n c s' A' n' c', vk = .agg #[.bool s, .slice A n c, .bool s', .slice A' n' c']) (hlen : a.length ≠ b.length) :
    Calls Try.prog 18 #[va, vb, vk] w (Ret2 w fun w' v o => v = .slice none 0 0 ∧ o = .bool false) := by
  obtain ⟨A0, na, ca, rfl, hna, -⟩ := ha.form
  obtain ⟨B0, nb, cb, rfl, hnb, -⟩ := hb.form
  obtain ⟨s, A, n, c, s', A', n', c', rfl⟩ := hk
  have t1 : ((na : Int) != nb) = true := by rw [bne_iff_ne]; omega
  clear ha hb hlen hna hnb
  go_enter Try.func18, Try.ntmps18
  go_wp2_with fail
  go_ret2
  exact ⟨_, _, rfl, ⟨rfl, rfl⟩, (Later.refl w).alloc _⟩
end Go.Proofs.Ytkendajmnmchoaa

/- Tables of fractions in memory. -/
set_option linter.unusedVariables false
set_option linter.unusedSimpArgs false
namespace Go.Proofs.Ytkendajmnmchoaa
open Go.RowKit

/-- an element's fact that hangs on some blocks alone -/
def EOn (P : Nat → Prop) (E : Elem) : Elem := fun w v q => On w P (fun W => E W v q)
theorem EOn.later {P : Nat → Prop} {E : Elem} (w w' : World) (v : Value) (q : Rat) (h : EOn P E w v q) (hb : Later w w') : EOn P E w' v q := On.later h hb
theorem OutRats.ratsOn {E : Elem} {w : World} {P : Nat → Prop} {lo : Nat} {v : Value} {l : List Rat} (h : OutRats E w P lo v l) : Rats (EOn P E) w v l := by
  have h' : OutRats (EOn P E) w P lo v l := by
    obtain ⟨es, h1, h2, h3, h4⟩ := h
    refine ⟨es, h1, h2, h3, ?_⟩
    obtain ⟨F, f1, f2⟩ := h4
    exact ⟨F, f1, fun W hW i e q hi hq => ⟨F, fun b hb => ⟨(f1 b hb).1.1, by
      have h5 := hW b hb
      rw [Array.getElem?_eq_getElem (f1 b hb).2] at h5
      exact (Array.getElem?_eq_some_iff.1 h5).1⟩, fun W' hW' => f2 W' (fun b hb => (hW' b hb).trans (hW b hb)) i e q hi hq⟩⟩
  exact h'.rats.now

/-- a slice that reads as a table -/
def Tab (E : Elem) (w : World) (v : Value) (t : List (List Rat)) : Prop :=
  ∃ A c, v = .slice A t.length c ∧ t.length ≤ c ∧ c ≤ maxLen ∧ ∀ i row, t[i]? = some row → ∃ b off A' n' c', A = some ⟨b, off, none⟩ ∧ w.cell? ⟨b, off + i, none⟩ = some (.slice A' n' c') ∧ Rats E w (.slice A' n' c') row
theorem Tab.later {E : Elem} (hE : ∀ w w' v q, E w v q → Later w w' → E w' v q) {w w' : World} {v : Value} {t : List (List Rat)} (h : Tab E w v t) (hb : Later w w') : Tab E w' v t := by
  obtain ⟨A, c, e, h1, h2, h3⟩ := h
  refine ⟨A, c, e, h1, h2, fun i row hi => ?_⟩
  obtain ⟨b, off, A', n', c', ha, x1, x2⟩ := h3 i row hi
  exact ⟨b, off, A', n', c', ha, Later.cell hb x1, x2.later hE hb⟩
theorem Tab.map {E E' : Elem} {w : World} {v : Value} {t : List (List Rat)} (h : Tab E w v t) (hE : ∀ row ∈ t, ∀ v q, q ∈ row → E w v q → E' w v q) : Tab E' w v t := by
  obtain ⟨A, c, e, h1, h2, h3⟩ := h
  refine ⟨A, c, e, h1, h2, fun i row hi => ?_⟩
  obtain ⟨b, off, A', n', c', ha, x1, x2⟩ := h3 i row hi
  exact ⟨b, off, A', n', c', ha, x1, x2.map (hE row (List.mem_of_getElem? hi))⟩
theorem Tab.form {E : Elem} {w : World} {v : Value} {t : List (List Rat)} (h : Tab E w v t) : ∃ A n c, v = .slice A n c ∧ n = t.length ∧ n ≤ c ∧ c ≤ maxLen ∧ Tab E w (.slice A n c) t := by
  obtain ⟨A, c, rfl, h1, h2, h3⟩ := id h
  exact ⟨A, _, c, rfl, rfl, h1, h2, h⟩
theorem Tab.at_ {E : Elem} {w : World} {A : Option Addr} {n c : Nat} {t : List (List Rat)} (h : Tab E w (.slice A n c) t) {i : Nat} {row : List Rat} (hi : t[i]? = some row) :
    ∃ b off A' n' c', A = some ⟨b, off, none⟩ ∧ w.cell? ⟨b, off + i, none⟩ = some (.slice A' n' c') ∧ Rats E w (.slice A' n' c') row := by
  obtain ⟨A', c', e, -, -, h3⟩ := h
  injection e with e1 e2 e3
  subst e1
  exact h3 i row hi

/-- a table of one's own that is being built -/
def OutTab (E : Elem) (w : World) (P : Nat → Prop) (lo : Nat) (v : Value) (t : List (List Rat)) : Prop :=
  ∃ es : List Value, es.length = t.length ∧ w.ownsRow lo 22 1 v t.length es ∧ (∀ e ∈ es, ∃ A n c, e = .slice A n c) ∧
    On w (fun b => P b ∧ some b ≠ v.ownBlock) (fun W => ∀ (i : Nat) (e : Value) (row : List Rat), es[i]? = some e → t[i]? = some row → Rats E W e row)
theorem OutTab.nil (E : Elem) (w : World) (P : Nat → Prop) (lo : Nat) : OutTab E w P lo (.slice none 0 0) [] :=
  ⟨[], rfl, World.ownsRow_nil w lo _ 1, by simp, On.pure fun W i e q hi => by simp at hi⟩
theorem OutTab.later {E : Elem} {w w' : World} {P : Nat → Prop} {lo : Nat} {v : Value} {t : List (List Rat)} (h : OutTab E w P lo v t) (hb : Later w w') : OutTab E w' P lo v t := by
  obtain ⟨es, h1, h2, h3, h4⟩ := h
  exact ⟨es, h1, ownsRow_later h2 hb, h3, h4.later hb⟩
theorem OutTab.mono {E : Elem} {w : World} {P P' : Nat → Prop} {lo : Nat} {v : Value} {t : List (List Rat)} (h : OutTab E w P lo v t) (hp : ∀ b, P b → b < w.heap.size → P' b) : OutTab E w P' lo v t := by
  obtain ⟨es, h1, h2, h3, h4⟩ := h
  exact ⟨es, h1, h2, h3, h4.mono fun b hb hlt => ⟨hp b hb.1 hlt, hb.2⟩⟩
theorem ownsRow_weaken {w : World} {B C size n : Nat} {e : TypeId} {v : Value} {xs : List Value} (h : w.ownsRow B e size v n xs) (hC : C ≤ B) : w.ownsRow C e size v n xs := by
  obtain ⟨h2, h3⟩ := h
  refine ⟨h2, ?_⟩
  rcases h3 with h3 | ⟨g, cap, cur, rfl, hb', hg, r⟩
  · exact .inl h3
  · exact .inr ⟨g, cap, cur, rfl, Nat.le_trans hC hb', hg, r⟩
theorem OutTab.weaken {E : Elem} {w : World} {P : Nat → Prop} {lo lo' : Nat} {v : Value} {t : List (List Rat)} (h : OutTab E w P lo v t) (hl : lo' ≤ lo) : OutTab E w P lo' v t := by
  obtain ⟨es, h1, h2, h3, h4⟩ := h
  exact ⟨es, h1, ownsRow_weaken h2 hl, h3, h4⟩
theorem OutTab.lt {E : Elem} {w : World} {P : Nat → Prop} {lo : Nat} {v : Value} {t : List (List Rat)} (h : OutTab E w P lo v t) : ∀ k, v.ownBlock = some k → lo ≤ k ∧ k < w.heap.size := by
  obtain ⟨es, h1, h2, -⟩ := h; exact World.ownsRow.lt h2
theorem OutTab.snoc {E : Elem} {w W : World} {P : Nat → Prop} {lo : Nat} {v v' : Value} {t : List (List Rat)} {row : List Rat} {A : Option Addr} {n c : Nat}
    (es : List Value) (h1 : es.length = t.length) (h3 : ∀ e ∈ es, ∃ A n c, e = .slice A n c)
    (h4 : On w (fun b => P b ∧ some b ≠ v.ownBlock) (fun W => ∀ (i : Nat) (e : Value) (row : List Rat), es[i]? = some e → t[i]? = some row → Rats E W e row))
    (hown : W.ownsRow lo 22 1 v' (t.length + 1) (es ++ [.slice A n c])) (hg : w.grownBy W v.ownBlock) (hblk : v'.ownBlock = v.ownBlock ∨ v'.ownBlock = some w.heap.size)
    (hx : On w (fun b => P b ∧ some b ≠ v.ownBlock) (fun W => Rats E W (.slice A n c) row)) : OutTab E W P lo v' (t ++ [row]) := by
  refine ⟨es ++ [.slice A n c], by simp [h1], by rw [List.length_append]; exact hown, ?_, ?_⟩
  · intro e he
    rcases List.mem_append.1 he with he | he
    · exact h3 e he
    · simp at he; subst he; exact ⟨_, _, _, rfl⟩
  · have h6 : On W (fun b => P b ∧ some b ≠ v'.ownBlock) _ := (by
      obtain ⟨F, f1, f2⟩ := h4.and hx
      refine ⟨F, fun b hb => ⟨⟨(f1 b hb).1.1, ?_⟩, Nat.lt_of_lt_of_le (f1 b hb).2 hg.size⟩, fun W' hW' => f2 W' fun b hb => (hW' b hb).trans (hg.block b (f1 b hb).2 (f1 b hb).1.2)⟩
      rcases hblk with e | e
      · rw [e]; exact (f1 b hb).1.2
      · rw [e]; intro e2; injection e2 with e2; have := (f1 b hb).2; omega)
    refine h6.map fun W' ⟨k1, k2⟩ i e q' hi hq => ?_
    by_cases hlt : i < es.length
    · rw [List.getElem?_append_left hlt] at hi
      rw [List.getElem?_append_left (by omega)] at hq
      exact k1 i e q' hi hq
    · by_cases he : i = es.length
      · subst he
        rw [List.getElem?_append_right (Nat.le_refl _), Nat.sub_self] at hi
        rw [h1, List.getElem?_append_right (Nat.le_refl _), Nat.sub_self] at hq
        simp at hi hq
        subst hi hq
        exact k2
      · rw [List.getElem?_eq_none (by simp; omega)] at hi; cases hi
theorem OutTab.tab {E : Elem} {w : World} {P : Nat → Prop} {lo : Nat} {v : Value} {t : List (List Rat)} (h : OutTab E w P lo v t) : On w (fun b => P b ∨ lo ≤ b) (fun W => Tab E W v t) := by
  obtain ⟨es, h1, ⟨h2, h2'⟩, h3, h4⟩ := h
  rcases h2' with ⟨rfl, h0⟩ | ⟨g, cap, cur, rfl, hb, hg, hn, hm, hs, ht⟩
  · have : t = [] := List.eq_nil_of_length_eq_zero h0
    subst this
    exact On.pure fun W => ⟨none, 0, rfl, by simp, by simp, fun i q hi => by simp at hi⟩
  · have hrow : Row w g 22 cur.toList := by unfold Row; simpa using hg
    have h5 : On w (fun b => P b ∨ lo ≤ b) (fun W => Row W g 22 cur.toList) := On.of_row hrow (.inr hb) fun W hW => hW
    refine (h5.and (h4.mono fun b hb _ => .inl hb.1)).map fun W ⟨hr, he⟩ => ?_
    refine ⟨some ⟨g, 0, none⟩, cap, rfl, hn, hm, fun i row hi => ?_⟩
    have hil : i < es.length := by rw [h1]; exact (List.getElem?_eq_some_iff.1 hi).1
    obtain ⟨e, hee⟩ : ∃ e, es[i]? = some e := ⟨es[i], List.getElem?_eq_getElem hil⟩
    obtain ⟨A1, n1, c1, rfl⟩ := h3 e (List.mem_of_getElem? hee)
    refine ⟨g, 0, A1, n1, c1, rfl, ?_, he i _ row hee hi⟩
    rw [Nat.zero_add]
    refine hr.cell ?_
    rw [← ht, List.getElem?_take] at hee
    split at hee
    · exact hee
    · cases hee

theorem info_row : (Try.prog.info? 22).map (fun i => (i.zero, i.size, i.bytes)) = some (some (.slice none 0 0), 1, 24) := by kernel_rfl

section
variable {w : World} {o : Oper} {a : Act} {K : Act → World → Prop} {Q : Exit → Act → World → Prop}
theorem wp_append_row (s x : Operand) (ho : o.op = .call { callee := .builtin .append, args := #[s, x], argTypes := #[37, 37] })
    {E : Elem} {P : Nat → Prop} {lo : Nat} {v : Value} {t : List (List Rat)} {g : Nat} {row : List Rat} {A : Option Addr} {n c : Nat} (hs : a.eval s = v) (hown : OutTab E w P lo v t)
    (hx : a.eval x = .slice (some ⟨g, 0, none⟩) 1 1) (hrow : Row w g 22 [.slice A n c])
    (hel : On w (fun b => P b ∧ some b ≠ v.ownBlock) (fun W => Rats E W (.slice A n c) row)) (hlen : t.length ≤ 3000000000) (hbase : lo ≤ w.heap.size)
    (h : ∀ v' w', OutTab E w' P lo v' (t ++ [row]) → w.grownBy w' v.ownBlock → K (a.put o.dst v') w') : o.wp Try.prog a w K Q := by
  obtain ⟨es, h1, h2, h3, h4⟩ := hown
  refine wp_append_own_ s x _ ho lo 22 _ 1 24 Try.underlying37 info_row rfl (by omega) (by omega) v t.length _ hs h2 ⟨g, 0, none⟩ 1 1 [.slice A n c] hx rfl (fun j u hj => by rw [Go.WideShapes.add_plain, Nat.zero_add]; exact hrow.cell hj) (by simp [Value.oneCell']) (by omega) hbase ?_
  intro v' w' k1 k2 k3
  exact h v' w' (OutTab.snoc es h1 h3 h4 k1 k2 k3 hel) k2
end
theorem wpList_append_row {w : World} {ops : Array Oper} {rest : List Oper} {o : Oper} {a : Act} {Q : Exit → Act → World → Prop} (hgd : o.guard = none) (s x : Operand) (ho : o.op = .call { callee := .builtin .append, args := #[s, x], argTypes := #[37, 37] })
    {E : Elem} {P : Nat → Prop} {lo : Nat} {v : Value} {t : List (List Rat)} {g : Nat} {row : List Rat} {A : Option Addr} {n c : Nat} (hs : a.eval s = v) (hown : OutTab E w P lo v t)
    (hx : a.eval x = .slice (some ⟨g, 0, none⟩) 1 1) (hrow : Row w g 22 [.slice A n c])
    (hel : On w (fun b => P b ∧ some b ≠ v.ownBlock) (fun W => Rats E W (.slice A n c) row)) (hlen : t.length ≤ 3000000000) (hbase : lo ≤ w.heap.size)
    (h : ∀ v' w', OutTab E w' P lo v' (t ++ [row]) → w.grownBy w' v.ownBlock → wpList Try.prog ops Q rest (a.put o.dst v') w') : wpList Try.prog ops Q (o :: rest) a w :=
  wpList_plain hgd fun K hK => wp_append_row s x ho hs hown hx hrow hel hlen hbase fun v' w' h1 h2 => hK _ _ (h v' w' h1 h2)
end Go.Proofs.Ytkendajmnmchoaa

/- Tables: IndexFunc, ContainsFunc, Rect, is. -/
set_option linter.unusedVariables false
set_option linter.unusedSimpArgs false
set_option maxRecDepth 100000
namespace Go.Proofs.Ytkendajmnmchoaa
open Go.RowKit Go.Shelf
attribute [local go_sem ↓] Go.wp_at_zero Go.wp_at_succ

/-- the first place where p is so; -1: nowhere -/
def FirstIdx (p : List Rat → Bool) (t : List (List Rat)) (z : Int) : Prop := (z = -1 ∧ ∀ row ∈ t, p row = false) ∨ ∃ (i : Nat) (row : List Rat), z = i ∧ t[i]? = some row ∧ p row = true ∧ ∀ j r, j < i → t[j]? = some r → p r = false
/-- a number, and what is so of it -/
def RetZ (w : World) (P : Int → Prop) (e : Ending) (w' : World) : Prop := ∃ z : Int, e = .returned (.int .i64 z) ∧ P z ∧ Later w w'

set_option maxHeartbeats 2000000 in
theorem idxf1_calls (w : World) (v : Value) (t : List (List Rat)) (E : Elem) (hE : ∀ w w' v q, E w v q → Later w w' → E w' v q) (h : Tab E w v t) (hl : t.length ≤ 1000000000) (f : FuncId) (hf : Enters f) (G : Nat) (p : List Rat → Bool)
    (hp : ∀ W rv row, Later w W → Rats E W rv row → row ∈ t → Calls Try.prog f #[rv, .pointer (some ⟨G, 0, none⟩)] W (RetV W (.bool (p row)))) :
    Calls Try.prog 59 #[v, .func (.func f) #[] #[.pointer (some ⟨G, 0, none⟩)]] w (RetZ w (FirstIdx p t)) := by
  have H := hide h; have HP := hide hp
  have hen := hf.out
  obtain ⟨A0, nt, ct, rfl, hnt, -, -, -⟩ := h.form
  have HNT := hide hnt
  have hn9 : nt ≤ 1000000000 := by omega
  clear h hp hnt hl
  go_enter Try.func59, Try.ntmps59
  go_wp2_with fail
  go_loopw [8] (fun i wr => ∃ j : Nat, j ≤ nt ∧ i = .int .i64 (j : Int) ∧ Hid (∀ i r, i < j → t[i]? = some r → p r = false) ∧ Later w wr) (fun i _ => (nt - intOf i).toNat)
  case atStart => exact ⟨0, by omega, rfl, hide fun i r hi => by omega, Later.refl w⟩
  case round =>
    obtain ⟨j, hj, rfl, hpre, hL⟩ := hrel
    by_cases hjn : j < nt
    · obtain ⟨row, hrow⟩ : ∃ row, t[j]? = some row := ⟨t[j]'(by have := HNT.out; omega), List.getElem?_eq_getElem _⟩
      obtain ⟨b1, off1, A1, n1, c1, rfl, x1, hr⟩ := (H.out.later hE hL).at_ hrow
      have HR := hide hr; have HROW := hide hrow
      obtain ⟨u, hu⟩ : ∃ u, p row = u := ⟨_, rfl⟩
      have HU := hide hu
      have hj0 : (0 : Int) ≤ (j : Int) := by omega
      have hj1 : (j : Int) < nt := by omega
      clear hr hrow hu
      go_wp2_with fail
      refine (HP.out _ _ row hL HR.out (List.mem_of_getElem? HROW.out)).mono ?_
      rintro e w8 ⟨rfl, b8⟩
      rw [HU.out]
      have hL8 := hL.trans b8
      cases u
      case false =>
        have HN : Hid (∀ i r, i < j + 1 → t[i]? = some r → p r = false) := hide fun i r hi hr => by
          by_cases hij : i < j
          · exact hpre.out i r hij hr
          · obtain rfl : i = j := by omega
            rw [HROW.out] at hr; injection hr with hr; rw [← hr, HU.out]
        go_wp2_with fail
        exact ⟨⟨j+1, by omega, by go_num, HN, hL8⟩, by simp [intOf]; omega⟩
      case true =>
        have HF : Hid (FirstIdx p t j) := hide (.inr ⟨j, row, rfl, HROW.out, HU.out, hpre.out⟩)
        go_wp2_with fail
        go_ret
        exact ⟨_, rfl, HF.out, hL8⟩
    · obtain rfl : j = nt := by omega
      have HF : Hid (FirstIdx p t (-1)) := hide (.inl ⟨rfl, fun row hr => by
        obtain ⟨i, hi⟩ := List.getElem?_of_mem hr
        exact hpre.out i row (by rw [HNT.out]; exact (List.getElem?_eq_some_iff.1 hi).1) hi⟩)
      go_wp2_with fail
      go_ret
      exact ⟨_, rfl, HF.out, hL⟩

theorem firstIdx_any {p : List Rat → Bool} {t : List (List Rat)} {z : Int} (h : FirstIdx p t z) : decide (0 ≤ z) = t.any p := by
  rcases h with ⟨rfl, h⟩ | ⟨i, row, rfl, h1, h2, h3⟩
  · have : t.any p = false := by
      rw [List.any_eq_false]; intro x hx; rw [h x hx]; simp
    rw [this]; simp
  · have : t.any p = true := by
      rw [List.any_eq_true]; exact ⟨row, List.mem_of_getElem? h1, h2⟩
    rw [this]; simp

set_option maxHeartbeats 1000000 in
theorem contf1_calls (w : World) (v : Value) (t : List (List Rat)) (E : Elem) (hE : ∀ w w' v q, E w v q → Later w w' → E w' v q) (h : Tab E w v t) (hl : t.length ≤ 1000000000) (f : FuncId) (hf : Enters f) (G : Nat) (p : List Rat → Bool)
    (hp : ∀ W rv row, Later w W → Rats E W rv row → row ∈ t → Calls Try.prog f #[rv, .pointer (some ⟨G, 0, none⟩)] W (RetV W (.bool (p row)))) (u : Bool) (hu : t.any p = u) :
    Calls Try.prog 52 #[v, .func (.func f) #[] #[.pointer (some ⟨G, 0, none⟩)]] w (RetV w (.bool u)) := by
  have H := hide h; have HP := hide hp; have HU := hide hu
  obtain ⟨A0, nt, ct, rfl, hnt, -, -, -⟩ := h.form
  clear h hp hnt hu
  go_enter Try.func52, Try.ntmps52
  go_wp2_with fail
  refine (idxf1_calls _ _ t E hE H.out hl f hf G p HP.out).mono ?_
  rintro e w1 ⟨z, rfl, hz, b1⟩
  have hd := firstIdx_any hz
  rw [HU.out] at hd
  have HD := hide hd
  clear hz hd
  go_wp2_with fail
  go_ret
  exact ⟨by simp [HD.out], b1⟩

set_option maxHeartbeats 1000000 in
theorem rect1_calls (w : World) (rv : Value) (row : List Rat) (E : Elem) (h : Rats E w rv row) (G : Nat) (n : Nat) (hr : Row w G 3 [.int .i64 (n : Int)]) (hl : row.length ≤ 1000000000) (u : Bool) (hu : decide (row.length ≠ n) = u) :
    Calls Try.prog 53 #[rv, .pointer (some ⟨G, 0, none⟩)] w (RetV w (.bool u)) := by
  obtain ⟨A0, nt, ct, rfl, hnt, -, -, -⟩ := h.form
  have c0 := hr.cell (i := 0) rfl
  have hd : ((nt : Int) != n) = u := by
    rw [← hu, ← hnt, Bool.eq_iff_iff]; simp
    omega
  have HD := hide hd
  clear h hr hu hd hnt
  go_enter Try.func53, Try.ntmps53
  go_wp2_with fail
  go_ret
  exact ⟨by simp [HD.out], Later.refl w⟩

/-- whether each row has so many -/
def rectB (t : List (List Rat)) (n : Nat) : Bool := t.all fun r => decide (r.length = n)
theorem rectB_any (t : List (List Rat)) (n : Nat) : t.any (fun r => decide (r.length ≠ n)) = !rectB t n := by
  induction t with
  | nil => rfl
  | cons r t ih => rw [List.any_cons, ih]; unfold rectB; rw [List.all_cons]; by_cases h : r.length = n <;> simp [h]

set_option maxHeartbeats 1000000 in
theorem rect_calls (w : World) (v : Value) (t : List (List Rat)) (E : Elem) (hE : ∀ w w' v q, E w v q → Later w w' → E w' v q) (h : Tab E w v t) (n : Nat) (hl : t.length ≤ 1000000000) (hl2 : ∀ row ∈ t, row.length ≤ 1000000000) (u : Bool) (hu : rectB t n = u) :
    Calls Try.prog 21 #[v, .int .i64 (n : Int)] w (RetV w (.bool u)) := by
  have H := hide h
  have hu2 : t.any (fun r => decide (r.length ≠ n)) = !u := by rw [rectB_any, hu]
  have HU := hide hu2; have HL2 := hide hl2
  obtain ⟨A0, nt, ct, rfl, hnt, -, -, -⟩ := h.form
  clear h hnt hu hu2 hl2
  go_enter Try.func21, Try.ntmps21
  go_wp2_with fail
  have hL : Later w (w.alloc (Obj.cells #[Value.int .i64 (n : Int)] 3)) := (Later.refl w).alloc _
  have hrow := Row.new w 3 [.int .i64 (n : Int)]
  have HL := hide hL; have HR := hide hrow
  clear hL hrow
  refine (contf1_calls _ _ t E hE (H.out.later hE HL.out) hl _ ⟨fun _ _ => by kernel_rfl⟩ w.heap.size (fun r => decide (r.length ≠ n)) (fun W rv row hW hr hm => rect1_calls W rv row E hr w.heap.size n (HR.out.later hW) (HL2.out row hm) _ rfl) (!u) HU.out).mono ?_
  rintro e w1 ⟨rfl, b1⟩
  go_wp2_with fail
  go_ret
  exact ⟨by simp, HL.out.trans b1⟩

theorem field_num (a b c d : Value) (w : World) : (Instr.field 27 (.agg #[a, b, c, d]) 0).run Try.prog w = .ok (.agg #[a, b]) w := by kernel_rfl
theorem field_mag (a b : Value) (w : World) : (Instr.field 25 (.agg #[a, b]) 1).run Try.prog w = .ok b w := by kernel_rfl
set_option maxHeartbeats 1000000 in
theorem is_calls (w : World) (v : Value) (q : Rat) (k : Nat) (h : RawR w v q k) (hk : k ≤ 200000000) (u : Bool) (hu : decide (q ≠ 0) = u) :
    Calls Try.prog 61 #[v] w (RetV w (.bool u)) := by
  have H := hide h; have HU := hide hu
  obtain ⟨sx, A1, n1, c1, sx', A2, n2, c2, rfl⟩ := h.open_
  clear h hu
  go_enter Try.func61, Try.ntmps61
  go_wp2_with fail
  have hL : Later w (w.alloc (Obj.cells #[Value.bool sx, Value.slice A1 n1 c1, Value.bool sx', Value.slice A2 n2 c2] 27)) := (Later.refl w).alloc _
  refine (rplain_calls _ _ q k (H.out.later hL) (by omega)).mono ?_
  rintro e w1 ⟨v1, rfl, o1, b1⟩
  obtain ⟨s1, P1, q1, e1, P1', q1', e1', rfl, o1⟩ := o1.open_
  have hlen := o1.num.len
  have hd : decide (0 < q1) = u := by
    rw [← HU.out, hlen]
    by_cases h0 : q = 0
    · subst h0; rw [show (0 : Rat).num.natAbs = 0 from rfl, limbs_zero]; simp
    · have : q.num.natAbs ≠ 0 := fun e => h0 (Rat.num_eq_zero.1 (by omega))
      have := length_limbs_pos.2 this
      simp [h0]; omega
  have HD := hide hd
  have f1 : ∀ (w : World), (Instr.field 27 (.agg #[.bool s1, .slice P1 q1 e1, .bool false, .slice P1' q1' e1']) 0).run Try.prog w = .ok (.agg #[.bool s1, .slice P1 q1 e1]) w := fun w => field_num _ _ _ _ w
  have f2 : ∀ (w : World), (Instr.field 25 (.agg #[.bool s1, .slice P1 q1 e1]) 1).run Try.prog w = .ok (.slice P1 q1 e1) w := fun w => field_mag _ _ w
  clear o1 hlen hd
  go_wp2_with fail
  go_ret
  exact ⟨by simp [HD.out], hL.trans b1⟩
end Go.Proofs.Ytkendajmnmchoaa

/- Tables: Clone, scaled, the test of Solve. -/
set_option linter.unusedVariables false
set_option linter.unusedSimpArgs false
set_option maxRecDepth 100000
namespace Go.Proofs.Ytkendajmnmchoaa
open Go.RowKit Go.Shelf
attribute [local go_sem ↓] Go.wp_at_zero Go.wp_at_succ

def es_len_ (es : List (Bool × Value × Bool × Value)) : Nat := es.length * 4
theorem flat4_len (es : List (Bool × Value × Bool × Value)) : (es.flatMap fun (e : Bool × Value × Bool × Value) => [Value.bool e.1, e.2.1, Value.bool e.2.2.1, e.2.2.2]).length = es_len_ es := by
  unfold es_len_
  induction es with
  | nil => rfl
  | cons a es ih => simp only [List.flatMap_cons, List.length_append, ih, List.length_cons, List.length_nil]; omega
theorem Rats.list {E : Elem} {w : World} {b off n c : Nat} {l : List Rat} (h : Rats E w (.slice (some ⟨b, off, none⟩) n c) l) (hn : n = l.length) :
    ∃ es : List (Bool × Value × Bool × Value), es.length = l.length ∧ (∀ e ∈ es, (∃ A n c, e.2.1 = .slice A n c) ∧ (∃ A n c, e.2.2.2 = .slice A n c)) ∧
      Src w 4 (.slice (some ⟨b, off, none⟩) n c) n (es.flatMap fun (e : Bool × Value × Bool × Value) => [Value.bool e.1, e.2.1, Value.bool e.2.2.1, e.2.2.2]) ∧
      ∀ (i : Nat) (e : Bool × Value × Bool × Value) (q : Rat), es[i]? = some e → l[i]? = some q → E w (.agg #[.bool e.1, e.2.1, .bool e.2.2.1, e.2.2.2]) q := by
  have h1 : ∀ i : Fin l.length, ∃ e : Bool × Value × Bool × Value, ((∃ A n c, e.2.1 = .slice A n c) ∧ (∃ A n c, e.2.2.2 = .slice A n c)) ∧ (∀ r u, [Value.bool e.1, e.2.1, Value.bool e.2.2.1, e.2.2.2][r]? = some u → w.cell? ⟨b, off + i.1 * 4 + r, none⟩ = some u) ∧
      E w (.agg #[.bool e.1, e.2.1, .bool e.2.2.1, e.2.2.2]) (l[i.1]'i.2) := by
    intro i
    obtain ⟨b', off', s, A1, n1, c1, s', A2, n2, c2, ha, x1, x2, x3, x4, hE⟩ := h.at_ (i := i.1) (List.getElem?_eq_getElem i.2)
    injection ha with ha; injection ha with ha1 ha2
    subst ha1 ha2
    refine ⟨(s, .slice A1 n1 c1, s', .slice A2 n2 c2), ⟨⟨_, _, _, rfl⟩, ⟨_, _, _, rfl⟩⟩, fun r u hr => ?_, hE⟩
    match r, hr with
    | 0, hr => simp at hr; subst hr; exact x1
    | 1, hr => simp at hr; subst hr; exact x2
    | 2, hr => simp at hr; subst hr; exact x3
    | 3, hr => simp at hr; subst hr; exact x4
    | r+4, hr => simp at hr
  obtain ⟨f, hf⟩ := Classical.axiomOfChoice h1
  have hget : ∀ i (hi : i < l.length), (List.ofFn f)[i]? = some (f ⟨i, hi⟩) := fun i hi => by rw [List.getElem?_ofFn, dif_pos hi]
  have hlen : (List.ofFn f).length = l.length := List.length_ofFn
  refine ⟨List.ofFn f, hlen, ?_, ⟨?_, ?_, .inr ⟨⟨b, off, none⟩, c, rfl, fun j u hj => ?_⟩⟩, ?_⟩
  · intro e he
    obtain ⟨i, hi⟩ := List.getElem?_of_mem he
    have hil : i < l.length := by rw [← hlen]; exact (List.getElem?_eq_some_iff.1 hi).1
    rw [hget i hil] at hi
    injection hi with hi
    rw [← hi]; exact (hf ⟨i, hil⟩).1
  · rw [flat4_len]; unfold es_len_; omega
  · intro u hu
    rw [List.mem_flatMap] at hu
    obtain ⟨e, he, hu⟩ := hu
    obtain ⟨i, hi⟩ := List.getElem?_of_mem he
    have hil : i < l.length := by rw [← hlen]; exact (List.getElem?_eq_some_iff.1 hi).1
    rw [hget i hil] at hi
    injection hi with hi
    obtain ⟨⟨A1, n1, c1, e1⟩, ⟨A2, n2, c2, e2⟩⟩ := (hf ⟨i, hil⟩).1
    rw [hi] at e1 e2
    rw [e1, e2] at hu
    simp at hu
    rcases hu with rfl | rfl | rfl | rfl <;> rfl
  · rw [Go.WideShapes.add_plain]
    have hjl : j / 4 < (List.ofFn f).length := by
      rcases Nat.lt_or_ge (j / 4) (List.ofFn f).length with h | h
      · exact h
      · exfalso
        have : (es_len_ (List.ofFn f)) ≤ j := by unfold es_len_; omega
        rw [List.getElem?_eq_none (by rw [flat4_len]; exact this)] at hj; cases hj
    have hee := hget (j / 4) (by rw [← hlen]; exact hjl)
    have h2 := flat4_get (List.ofFn f) (j / 4) (j % 4) (Nat.mod_lt _ (by omega)) _ hee
    rw [show j / 4 * 4 + j % 4 = j by omega, hj] at h2
    have h3 := (hf ⟨j / 4, by rw [← hlen]; exact hjl⟩).2.1 (j % 4) u h2.symm
    rw [show off + j / 4 * 4 + j % 4 = off + j by omega] at h3
    exact h3
  · intro i e q hi hq
    have hil : i < l.length := (List.getElem?_eq_some_iff.1 hq).1
    rw [hget i hil] at hi
    injection hi with hi
    rw [List.getElem?_eq_getElem hil] at hq
    injection hq with hq
    rw [← hi, ← hq]; exact (hf ⟨i, hil⟩).2.2

theorem own_empty (w : World) (e : TypeId) (size : Nat) : (w.alloc (Obj.cells #[] e)).ownsRow w.heap.size e size (.slice (some ⟨w.heap.size, 0, none⟩) 0 0) 0 [] :=
  ⟨by simp, .inr ⟨w.heap.size, 0, #[], rfl, Nat.le_refl _, Row.new w e [], Nat.le_refl _, Nat.zero_le _, by simp, by simp⟩⟩
theorem On.list_ {α : Type} {w : World} {P : Nat → Prop} {T : Nat → α → World → Prop} (n : Nat) (f : Nat → Option α) (h : ∀ i x, i < n → f i = some x → On w P (T i x)) : On w P (fun W => ∀ i x, i < n → f i = some x → T i x W) := by
  induction n with
  | zero => exact On.pure fun W i x hi => by omega
  | succ n ih =>
    have h1 := ih fun i x hi hx => h i x (by omega) hx
    cases hf : f n with
    | none =>
      refine h1.map fun W hW i x hi hx => ?_
      by_cases e : i = n
      · subst e; rw [hf] at hx; cases hx
      · exact hW i x (by omega) hx
    | some y =>
      refine (h1.and (h n y (by omega) hf)).map fun W hWy i x hi hx => ?_
      by_cases e : i = n
      · subst e; rw [hf] at hx; injection hx with hx; rw [← hx]; exact hWy.2
      · exact hWy.1 i x (by omega) hx

set_option maxHeartbeats 1000000 in
theorem clone_calls (w : World) (v : Value) (l : List Rat) (E : Elem) (P : Nat → Prop) (h : Rats (EOn P E) w v l) (hl : l.length ≤ 1000000000) :
    Calls Try.prog 58 #[v] w (Ret w fun w' v' => OutRats E w' P w.heap.size v' l) := by
  obtain ⟨A0, n, c, rfl, hn, hc, hcm, h'⟩ := h.form
  cases A0 with
  | none =>
    have hl0 : l = [] := by
      cases l with
      | nil => rfl
      | cons x l => obtain ⟨b, off, s, A1, n1, c1, s', A2, n2, c2, ha, -⟩ := h'.at_ (i := 0) (q := x) rfl; cases ha
    subst hl0
    have he := Lib.run_eql_slice_nil (P := Try.prog) w 22 27 none n c 0 0 Try.underlying22
    clear h h' hn
    go_enter Try.func58, Try.ntmps58
    go_wp2_with fail
    go_ret
    exact ⟨_, rfl, OutRats.nil _ _ _ _, Later.refl w⟩
  | some ad =>
    obtain ⟨b, off, path⟩ := ad
    have he := Lib.run_eql_slice_nil (P := Try.prog) w 22 27 (some ⟨b, off, path⟩) n c 0 0 Try.underlying22
    obtain ⟨es, h1, h3, hsrc, h4⟩ : ∃ es : List (Bool × Value × Bool × Value), es.length = l.length ∧ (∀ e ∈ es, (∃ A n c, e.2.1 = .slice A n c) ∧ (∃ A n c, e.2.2.2 = .slice A n c)) ∧
      Src w 4 (.slice (some ⟨b, off, path⟩) n c) n (es.flatMap fun (e : Bool × Value × Bool × Value) => [Value.bool e.1, e.2.1, Value.bool e.2.2.1, e.2.2.2]) ∧
      ∀ (i : Nat) (e : Bool × Value × Bool × Value) (q : Rat), es[i]? = some e → l[i]? = some q → EOn P E w (.agg #[.bool e.1, e.2.1, .bool e.2.2.1, e.2.2.2]) q := by
      by_cases h0 : l = []
      · subst h0
        exact ⟨[], rfl, by simp, ⟨by simp [hn], by simp, .inr ⟨_, _, rfl, by simp⟩⟩, by simp⟩
      · have hp : path = none := by
          cases l with
          | nil => exact absurd rfl h0
          | cons x l => obtain ⟨b', off', s, A1, n1, c1, s', A2, n2, c2, ha, -⟩ := h'.at_ (i := 0) (q := x) rfl; injection ha with ha; injection ha
        subst hp
        exact h'.list hn
    have H1 := hide h1; have H3 := hide h3; have H4 := hide h4; have HN := hide hn
    have hSRC : ∀ o, Src (w.alloc o) 4 (.slice (some ⟨b, off, path⟩) n c) n (es.flatMap fun (e : Bool × Value × Bool × Value) => [Value.bool e.1, e.2.1, Value.bool e.2.2.1, e.2.2.2]) := fun o => hsrc.later ((Later.refl w).alloc o)
    have HSRC := hide hSRC
    have hn9 : 0 + n ≤ 4000000000 := by omega
    clear h h' h1 h3 h4 hsrc hSRC hn hl
    go_enter Try.func58, Try.ntmps58
    go_wp2_with (at_builtin; refine wpList_append_src rfl (.tmp 5) _ 22 rfl w.heap.size 27 (.agg #[.bool false, .slice none 0 0, .bool false, .slice none 0 0]) 4 64 Try.underlying22 info_rat rfl (by omega) (by omega) _ 0 [] rfl (own_empty _ _ _) _ n _ rfl (HSRC.out _) hn9 (by simp) ?_; intro v' w1 hown hg hblk)
    have HOUT : Hid (OutRats E w1 P w.heap.size v' l) := hide (by
      rw [Nat.zero_add, List.nil_append] at hown
      refine ⟨es, H1.out, by rw [← HN.out]; exact hown, H3.out, ?_⟩
      have h5 : On w P (fun W => ∀ i e, i < es.length → es[i]? = some e → ∀ q, l[i]? = some q → E W (.agg #[.bool e.1, e.2.1, .bool e.2.2.1, e.2.2.2]) q) := On.list_ (T := fun i e W => ∀ q, l[i]? = some q → E W (.agg #[.bool e.1, e.2.1, .bool e.2.2.1, e.2.2.2]) q) es.length (fun i => es[i]?) (fun i e hi he => by
        obtain ⟨q, hq⟩ : ∃ q, l[i]? = some q := ⟨l[i]'(by rw [← H1.out]; exact hi), List.getElem?_eq_getElem _⟩
        refine (H4.out i e q he hq).map fun W hW q' hq' => ?_
        rw [hq] at hq'; injection hq' with hq'; rw [← hq']; exact hW)
      obtain ⟨F, f1, f2⟩ := h5
      have hbk : ∀ k, v'.ownBlock = some k → w.heap.size ≤ k := fun k hk => (World.ownsRow.lt hown k hk).1
      refine ⟨F, fun b' hb' => ⟨⟨(f1 b' hb').1, fun e => by have := hbk b' e.symm; have := (f1 b' hb').2; omega⟩, ?_⟩, fun W hW i e q hi hq => f2 W (fun b' hb' => ?_) i e (List.getElem?_eq_some_iff.1 hi).1 hi q hq⟩
      · have := (f1 b' hb').2; have := hg.size; simp at this; omega
      · have hlt := (f1 b' hb').2
        exact (hW b' hb').trans ((hg.block b' (by simp; omega) (fun e => by have e2 : some b' = some w.heap.size := e; injection e2 with e2; omega)).trans (Below.heap_alloc w _ b' hlt)))
    have hb2 : Later w w1 := ((Later.refl w).alloc _).grown hg (fun j hj => by have hj2 : some w.heap.size = some j := hj; injection hj2 with hj2; omega)
    clear hown hg hblk
    go_wp2_with fail
    go_ret
    exact ⟨_, rfl, HOUT.out, hb2⟩

set_option maxHeartbeats 4000000 in
theorem scaled_calls (w : World) (va vp : Value) (a : List Rat) (p : Rat) (k m : Nat) (ha : Rats (ERaw k) w va a) (hp : RawR w vp p m) (hl9 : a.length ≤ 1000000000) (hkm : k + m ≤ 100000000) :
    Calls Try.prog 62 #[va, vp] w (Ret w fun w' v => OutRats EOwn w' (fun b => w.heap.size + 1 ≤ b) (w.heap.size + 1) v (a.map fun x => x / p)) := by
  have HA := hide ha; have HP := hide hp
  obtain ⟨A0, na, ca, rfl, hna, -⟩ := ha.form
  obtain ⟨sp, A3, n3, c3, sp', A4, n4, c4, rfl⟩ := hp.open_
  have HNA := hide hna
  have hna9 : na ≤ 1000000000 := by omega
  clear ha hp hna hl9
  go_enter Try.func62, Try.ntmps62
  go_wp2_with fail
  have hL0 : Later w (w.alloc (Obj.cells #[Value.bool sp, Value.slice A3 n3 c3, Value.bool sp', Value.slice A4 n4 c4] 27)) := (Later.refl w).alloc _
  have hrow := Row.new w 27 [.bool sp, .slice A3 n3 c3, .bool sp', .slice A4 n4 c4]
  go_loopw [5, 12] (fun out i wr => ∃ j : Nat, j ≤ na ∧ i = .int .i64 (j : Int) ∧ OutRats EOwn wr (fun b => w.heap.size + 1 ≤ b) (w.heap.size + 1) out ((a.take j).map fun x => x / p) ∧ Row wr w.heap.size 27 [.bool sp, .slice A3 n3 c3, .bool sp', .slice A4 n4 c4] ∧ Later w wr) (fun _ i _ => (na - intOf i).toNat)
  case atStart => exact ⟨0, by omega, rfl, OutRats.nil _ _ _ _, hrow, hL0⟩
  case round =>
    obtain ⟨j, hj, rfl, hout, rp, hL⟩ := hrel
    clear hrow hL0
    by_cases hjn : j < na
    · obtain ⟨x, hx⟩ : ∃ x, a[j]? = some x := ⟨a[j]'(by have := HNA.out; omega), List.getElem?_eq_getElem _⟩
      obtain ⟨b1, off1, sx, A1, n1, c1, sx', A2, n2, c2, rfl, x1, x2, x3, x4, ex⟩ := (HA.out.later ERaw.later hL).at_ hx
      have HZ : Hid ((a.take (j+1)).map (fun x => x / p) = (a.take j).map (fun x => x / p) ++ [x / p]) := hide (by
        rw [List.take_add_one, hx, List.map_append]; rfl)
      have hj0 : (0 : Int) ≤ (j : Int) := by omega
      have hj1 : (j : Int) < na := by omega
      have hblt := hout.lt
      have hwsz := rp.lt
      have HOUT := hide hout; have RP := hide rp; have HEX := hide (show RawR wr (.agg #[.bool sx, .slice A1 n1 c1, .bool sx', .slice A2 n2 c2]) x k from ex)
      obtain ⟨d1, d2, d3, d4, d5, d6, d7, d8⟩ := row_cells4 (rp.alloc (Obj.cells #[Value.bool sx, Value.slice A1 n1 c1, Value.bool sx', Value.slice A2 n2 c2] 27))
      clear hout rp hx ex
      go_wp2_with fail
      obtain ⟨V1, hV1⟩ : ∃ V, V = wr.alloc (Obj.cells #[Value.bool sx, Value.slice A1 n1 c1, Value.bool sx', Value.slice A2 n2 c2] 27) := ⟨_, rfl⟩
      have c1' : Later wr V1 := by rw [hV1]; exact (Later.refl wr).alloc _
      have hsV1 : V1.heap.size = wr.heap.size + 1 := by rw [hV1]; simp
      rw [← hV1]
      clear hV1 d1 d2 d3 d4 d5 d6 d7 d8 x1 x2 x3 x4
      refine (rdiv_calls _ _ _ x p k m (HEX.out.later c1') (HP.out.later (hL.trans c1')) (by omega)).mono ?_
      rintro e w5 ⟨v5, ok5, rfl, ⟨o5, rfl⟩, b5⟩
      obtain ⟨s5, P5, q5, e5, P5', q5', e5', rfl, o5⟩ := o5.open_; have O5 := hide o5; clear o5
      have k5 := c1'.trans b5
      have hs5 := b5.size
      have HOUT2 : Hid (∀ o o', OutRats EOwn ((w5.alloc o).alloc o') (fun b => w.heap.size + 1 ≤ b) (w.heap.size + 1) u5 ((a.take j).map fun x => x / p)) := hide fun o o' => HOUT.out.later ((k5.alloc o).alloc o')
      have HEL : Hid (∀ o o', On ((w5.alloc o).alloc o') (fun b => w.heap.size + 1 ≤ b ∧ some b ≠ u5.ownBlock) (fun W => EOwn W (.agg #[.bool s5, .slice P5 q5 e5, .bool false, .slice P5' q5' e5']) (x / p))) := hide fun o o' =>
        (On.made (On.ownR O5.out) (by omega) (fun k hk => by have := (hblt k hk).2; omega)).later (((Later.refl _).alloc _).alloc _)
      have hln : ((a.take j).map fun x => x / p).length ≤ 3000000000 := by rw [List.length_map, List.length_take]; omega
      have HROWX : Hid (∀ o, Row ((w5.alloc o).alloc (Obj.cells #[Value.bool s5, Value.slice P5 q5 e5, Value.bool false, Value.slice P5' q5' e5'] 27)) (w5.heap.size + 1) 27 [.bool s5, .slice P5 q5 e5, .bool false, .slice P5' q5' e5']) := hide fun o => by
        have h := Row.new (w5.alloc o) 27 [.bool s5, .slice P5 q5 e5, .bool false, .slice P5' q5' e5']
        rw [World.size_alloc] at h; exact h
      have hbase : ∀ o o', w.heap.size + 1 ≤ ((w5.alloc o).alloc o').heap.size := fun o o' => by rw [World.size_alloc, World.size_alloc]; omega
      have HBASE := hide hbase
      clear hbase
      go_wp2_with (at_builtin; refine wpList_append_rat rfl _ _ rfl rfl (HOUT2.out _ _) rfl (HROWX.out _) (HEL.out _ _) hln (HBASE.out _ _) ?_; intro v9 w9 hout9 hg9)
      have kall := ((Later.grownBy k5 u5.ownBlock).trans ((World.grownBy_alloc _ _ _).trans (World.grownBy_alloc _ _ _))).trans hg9
      have HO2 : Hid (OutRats EOwn w9 (fun b => w.heap.size + 1 ≤ b) (w.heap.size + 1) v9 ((a.take (j+1)).map fun x => x / p)) := hide (by rw [HZ.out]; exact hout9)
      have HRP2 := hide (RP.out.grown kall (fun e => by have := (hblt _ e.symm).1; omega))
      have hL9 : Later w w9 := hL.grown kall fun k hk => by have := (hblt k hk).1; omega
      clear hout9 hg9 kall k5 c1'
      go_wp2_with fail
      exact ⟨⟨j+1, by omega, by go_num, HO2.out, HRP2.out, hL9⟩, by simp [intOf]; omega⟩
    · obtain rfl : j = na := by omega
      rw [List.take_of_length_le (by rw [← HNA.out]; exact Nat.le_refl _)] at hout
      have HO := hide hout
      clear hout rp
      go_wp2_with fail
      go_ret
      exact ⟨_, rfl, HO.out, hL⟩

set_option maxHeartbeats 1000000 in
theorem solve1_calls (w : World) (rv : Value) (row : List Rat) (k : Nat) (h : Rats (ERaw k) w rv row) (G : Nat) (c : Nat) (hr : Row w G 3 [.int .i64 (c : Int)]) (q : Rat) (hq : row[c]? = some q) (hl : row.length ≤ 1000000000) (hk : k ≤ 200000000) (u : Bool) (hu : decide (q ≠ 0) = u) :
    Calls Try.prog 60 #[rv, .pointer (some ⟨G, 0, none⟩)] w (RetV w (.bool u)) := by
  obtain ⟨A0, nt, ct, rfl, hnt, -, -, h'⟩ := h.form
  have hlt : c < nt := by rw [hnt]; exact (List.getElem?_eq_some_iff.1 hq).1
  obtain ⟨b1, off1, sx, A1, n1, c1, sx', A2, n2, c2, rfl, x1, x2, x3, x4, ex⟩ := h'.at_ hq
  have HEX := hide (show RawR w (.agg #[.bool sx, .slice A1 n1 c1, .bool sx', .slice A2 n2 c2]) q k from ex); have HU := hide hu
  have c0 := hr.cell (i := 0) rfl
  have hc0 : (0 : Int) ≤ (c : Int) := by omega
  have hc1 : (c : Int) < nt := by omega
  have hnt9 : nt ≤ 1000000000 := by omega
  clear h h' hr hq hnt ex hu
  go_enter Try.func60, Try.ntmps60
  go_wp2_with fail
  refine (is_calls _ _ q k HEX.out (by omega) u HU.out).mono ?_
  rintro e w1 ⟨rfl, b1⟩
  go_wp2_with fail
  go_ret
  exact ⟨rfl, b1⟩
end Go.Proofs.Ytkendajmnmchoaa
