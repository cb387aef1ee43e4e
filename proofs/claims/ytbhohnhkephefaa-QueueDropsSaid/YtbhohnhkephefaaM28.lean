import Derived.Test.YtbhohnhkephefaaM27
import Derived.Test.YtbhohnhkephefaaM17

/- QueueDrops: the walk. -/
set_option linter.unusedVariables false
set_option linter.unusedSimpArgs false
set_option maxRecDepth 100000
namespace Go.Proofs.Ytbhohnhkephefaa
open Go.RowKit Go.Shelf
attribute [local go_sem ↓] Go.wp_at_zero Go.wp_at_succ

theorem rowb' {W : World} {g : Nat} {t : TypeId} {cs : List Value} {M : Nat → Prop} (h : Row W g t cs) (hg : ¬ M g) : On W (fun x => ¬ M x) (fun W => Row W g t cs) := On.of_row h hg (fun _ h => h)
/-- how many are above a number -/
def above (q : Rat) (l : List Rat) : Nat := (l.filter (fun x => decide (q < x))).length
theorem above_le (q : Rat) (l : List Rat) : above q l ≤ l.length := List.length_filter_le _ _
theorem above_snoc {q x : Rat} {l : List Rat} {j : Nat} (h : l[j]? = some x) : above q (l.take (j + 1)) = above q (l.take j) + if q < x then 1 else 0 := by
  unfold above
  have : l.take (j + 1) = l.take j ++ [x] := by rw [List.take_add_one, h]; rfl
  rw [this, List.filter_append, List.length_append]
  by_cases hq : q < x <;> simp [hq]
theorem above_ents {q : Rat} {l : List Ent} {keys : List Rat} (h : l.map (fun e => e.key) = keys) : l.length = keys.length ∧ (notAbove q l).length + above q keys = l.length := by
  subst h
  refine ⟨by simp, ?_⟩
  unfold notAbove above
  induction l with
  | nil => rfl
  | cons e l ih =>
    by_cases hq : q < e.key <;> simp [hq] <;> omega
theorem notAbove_again (q : Rat) (l : List Ent) : notAbove q (notAbove q l) = notAbove q l := by
  unfold notAbove; rw [List.filter_filter]; simp
theorem notAbove_key {q : Rat} {l : List Ent} {e : Ent} (h : e ∈ notAbove q l) : ¬ q < e.key := by
  unfold notAbove at h; have := (List.mem_filter.1 h).2; simpa using this
set_option maxHeartbeats 8000000 in
theorem queuedrops_walk (w : World) (va vk : Value) (keys : List Rat) (q : Rat) (ha : Rats EAny w va keys) (hk : EAny w vk q) :
    Calls Try.prog 5 #[va, vk] w (RetV w (.bool true)) := by
  have HA := hide ha
  obtain ⟨kk, hk⟩ := hk
  obtain ⟨A0, na, ca, rfl, hna, -⟩ := ha.form
  obtain ⟨sk, A5, n5, c5, sk', A6, n6, c6, rfl⟩ := hk.open_
  have HNA := hide hna; have HK : Hid (EAny w (.agg #[.bool sk, .slice A5 n5 c5, .bool sk', .slice A6 n6 c6]) q) := hide ⟨kk, hk⟩
  clear ha hk hna
  obtain ⟨W0, hW0⟩ : ∃ W0, W0 = w.alloc (Obj.cells #[Value.bool sk, Value.slice A5 n5 c5, Value.bool sk', Value.slice A6 n6 c6] 35) := ⟨_, rfl⟩
  obtain ⟨hb0, r1, hsz0⟩ := boxes1 w [.bool sk, .slice A5 n5 c5, .bool sk', .slice A6 n6 c6] 35 hW0
  have R1 := hide r1; have B0' := hide hb0; have HW0 := hide hW0
  clear r1 hb0 hW0
  go_enter Try.func5, Try.ntmps5
  go_wp2_with fail
  rw [← HW0.out]
  ((with_reducible refine (qawake_calls W0).mono ?_); rintro e' w1 ⟨rfl, b1⟩)
  have HL1 := hide (B0'.out.trans b1)
  have HR1 := hide (R1.out.later b1)
  clear b1
  go_wp2_with fail
  refine (few_calls w1 _ keys 100 (HA.out.later EAny.later HL1.out) (by omega)).mono ?_
  rintro e w2 ⟨t, rfl, hf, hw⟩
  subst hw
  cases t with
  | false =>
    go_wp2_with fail
    go_ret
    exact ⟨rfl, HL1.out⟩
  | true =>
  have HFA := hide (hf rfl)
  clear hf
  obtain ⟨d1, d2, d3, d4, d5, d6, d7, d8⟩ := row_cells4 HR1.out
  go_wp2_with fail
  have HB2 : Hid (Later w1 (w1.alloc (Obj.cells #[Value.bool sk, Value.slice A5 n5 c5, Value.bool sk', Value.slice A6 n6 c6] 35))) := hide ((Later.refl w1).alloc _)
  obtain ⟨w2, hw2⟩ : ∃ w2, w2 = w1.alloc (Obj.cells #[Value.bool sk, Value.slice A5 n5 c5, Value.bool sk', Value.slice A6 n6 c6] 35) := ⟨_, rfl⟩
  have hrn : Row w2 w1.heap.size 35 [.bool sk, .slice A5 n5 c5, .bool sk', .slice A6 n6 c6] := by rw [hw2]; exact Row.new w1 _ _
  rw [← hw2] at HB2 ⊢
  have HRN := hide hrn
  have HL2 := hide (HL1.out.trans HB2.out)
  clear hw2 hrn d1 d2 d3 d4 d5 d6 d7 d8
  refine (few_calls w2 _ [q] 1 (rats_one HRN.out (EAny.later _ _ _ _ HK.out HL2.out)) (by omega)).mono ?_
  rintro e w3 ⟨t, rfl, hf, hw⟩
  subst hw
  cases t with
  | false =>
    go_wp2_with fail
    go_ret
    exact ⟨rfl, HL2.out⟩
  | true =>
  have HFK : Hid (RawR w2 (.agg #[.bool sk, .slice A5 n5 c5, .bool sk', .slice A6 n6 c6]) q 1) := hide (rats_one_inv HRN.out (hf rfl).2)
  clear hf
  go_wp2_with fail
  ((with_reducible refine (qnew_calls w2).mono ?_); rintro e' w3 ⟨rfl, b3, q3⟩)
  have HI3 : Hid (QI w2 w3 (fun b => w2.heap.size ≤ b) (fun b => b = w2.heap.size) w2.heap.size [] 0) := hide ⟨q3, b3, fun b hb => hb⟩
  have hlt : w.heap.size < w2.heap.size := (HR1.out.later HB2.out).lt
  have HB3 : Hid (On w3 (fun x => ¬ (x = w2.heap.size)) (fun W => (Row W w.heap.size 35 [.bool sk, .slice A5 n5 c5, .bool sk', .slice A6 n6 c6] ∧ RawR W (.agg #[.bool sk, .slice A5 n5 c5, .bool sk', .slice A6 n6 c6]) q 1) ∧ Rats (ERaw 1) W (.slice A0 na ca) keys)) :=
    hide (((On.of_row ((HR1.out.later HB2.out).later b3) (fun h => by omega) (fun _ h => h)).and (((On.rawR HFK.out).later b3).mono (fun b hb _ e => by omega))).and (((On.ratsRaw (HFA.out.2.later ERaw.later HB2.out)).later b3).mono (fun b hb _ e => by omega)))
  have HNN : Hid (na ≤ 100) := hide (by rw [HNA.out]; exact HFA.out.1)
  clear b3 q3 hlt
  go_wp2_with fail
  go_loopw [6, 7] (fun ov iv wr => ∃ (j : Nat) (o : Nat) (S M : Nat → Prop) (l : List Ent), j ≤ na ∧ ov = .int .i64 (o : Int) ∧ iv = .int .i64 (j : Int) ∧ Hid (QI w2 wr S M w2.heap.size l j) ∧ Hid (l.map (fun e => e.key) = keys.take j) ∧ Hid (o = above q (keys.take j)) ∧ Hid (On wr (fun x => ¬ M x) (fun W => (Row W w.heap.size 35 [.bool sk, .slice A5 n5 c5, .bool sk', .slice A6 n6 c6] ∧ RawR W (.agg #[.bool sk, .slice A5 n5 c5, .bool sk', .slice A6 n6 c6]) q 1) ∧ Rats (ERaw 1) W (.slice A0 na ca) keys))) (fun _ iv _ => (na - intOf iv).toNat)
  case atStart => exact ⟨0, 0, _, _, [], by omega, rfl, rfl, HI3, hide rfl, hide rfl, HB3⟩
  case round =>
    obtain ⟨j, o, S, M, l, hj, rfl, rfl, HI, HL, HO, HB⟩ := hrel
    have hn100 := HNN.out
    have ho : o ≤ j := by rw [HO.out]; exact Nat.le_trans (above_le _ _) (by simp; omega)
    by_cases hjn : j < na
    · obtain ⟨x, hx⟩ : ∃ x, keys[j]? = some x := ⟨keys[j]'(by have := HNA.out; omega), List.getElem?_eq_getElem _⟩
      obtain ⟨b1, off1, sx1, X1, nx1, cx1, sx1', X1', nx1', cx1', rfl, x1, x2, x3, x4, ex⟩ := HB.out.now.2.at_ hx
      have EX := hide ex; have HX := hide hx
      have hj0 : (0 : Int) ≤ (j : Int) := by omega
      have hj1 : (j : Int) < na := by omega
      clear ex hx
      go_wp2_with fail
      have hpc := qput_calls wr S M w2.heap.size j l _ x j HI.out.1 (by omega) (RawR.mono EX.out (by omega : 1 ≤ 50))
      ((with_reducible refine hpc.mono ?_); rintro e' w4 ⟨rfl, S', M', ent, hst, hk, hi, hq⟩)
      have HI4 := hide (HI.out.step hst hq)
      have HL4 : Hid ((l ++ [ent]).map (fun e => e.key) = keys.take (j + 1)) := hide (by rw [List.map_append, HL.out, List.take_add_one, HX.out]; simp [hk])
      have HB4 := hide (HB.out.qs hst)
      clear hpc hst hk hi hq x1 x2 x3 x4 EX
      go_upto_region 13 with fail
      have hd : Later w4 w4.drew := (Later.refl w4).drew
      have HD := hide hd
      obtain ⟨b2, off2, sx2, X2, nx2, cx2, sx2', X2', nx2', cx2', hA, y1, y2, y3, y4, ey⟩ := (HB4.out.later hd).now.2.at_ HX.out
      injection hA with hA; injection hA with hA1 hA2; subst hA1 hA2
      have EY : Hid (RawR w4.drew (.agg #[.bool sx2, .slice X2 nx2 cx2, .bool sx2', .slice X2' nx2' cx2']) x 1) := hide ey; have HRK := hide (HB4.out.later hd).now.1.2
      have hr1 := (HB4.out.later hd).now.1.1
      have HT1 : Hid (∀ w', Later w4.drew w' → w'.cell? ⟨b1, off1 + j * 4, none⟩ = some (.bool sx2) ∧ w'.cell? ⟨b1, off1 + j * 4 + 1, none⟩ = some (.slice X2 nx2 cx2) ∧ w'.cell? ⟨b1, off1 + j * 4 + 2, none⟩ = some (.bool sx2') ∧ w'.cell? ⟨b1, off1 + j * 4 + 3, none⟩ = some (.slice X2' nx2' cx2') ∧ w'.cell? ⟨w.heap.size, 0, none⟩ = some (.bool sk) ∧ w'.cell? ⟨w.heap.size, 1, none⟩ = some (.slice A5 n5 c5) ∧ w'.cell? ⟨w.heap.size, 2, none⟩ = some (.bool sk') ∧ w'.cell? ⟨w.heap.size, 3, none⟩ = some (.slice A6 n6 c6)) := hide fun w' hb => ⟨Later.cell hb y1, Later.cell hb y2, Later.cell hb y3, Later.cell hb y4, (hr1.later hb).cell rfl, (hr1.later hb).cell rfl, (hr1.later hb).cell rfl, (hr1.later hb).cell rfl⟩
      obtain ⟨cz, hcz⟩ : ∃ cz, cmpQ x q = cz := ⟨_, rfl⟩
      have HCZ := hide hcz
      clear hcz hd ey y1 y2 y3 y4 hr1
      go_region_held3 (fun w' => w'.cell? ⟨b1, off1 + j * 4, none⟩ = some (.bool sx2) ∧ w'.cell? ⟨b1, off1 + j * 4 + 1, none⟩ = some (.slice X2 nx2 cx2) ∧ w'.cell? ⟨b1, off1 + j * 4 + 2, none⟩ = some (.bool sx2') ∧ w'.cell? ⟨b1, off1 + j * 4 + 3, none⟩ = some (.slice X2' nx2' cx2') ∧ w'.cell? ⟨w.heap.size, 0, none⟩ = some (.bool sk) ∧ w'.cell? ⟨w.heap.size, 1, none⟩ = some (.slice A5 n5 c5) ∧ w'.cell? ⟨w.heap.size, 2, none⟩ = some (.bool sk') ∧ w'.cell? ⟨w.heap.size, 3, none⟩ = some (.slice A6 n6 c6))
        (first | exact HT1.out _ (Later.refl _) | exact HT1.out _ b5)
        (first
          | ((with_reducible refine (qcmp_calls _ _ _ x q 1 1 EY.out HRK.out (by omega)).mono ?_); rintro e' w5 ⟨rfl, b5⟩; rw [HCZ.out]))
      all_goals
        have HI5 := hide (HI4.out.later (HD.out.trans b5))
        have HB5 := hide (HB4.out.later (HD.out.trans b5))
        clear b5
      by_cases hlt : 0 < cz
      · have t1 : decide (0 < cz) = true := by simp [hlt]
        have HO5 : Hid (o + 1 = above q (keys.take (j + 1))) := hide (by rw [above_snoc HX.out, if_pos (cmp_pos HCZ.out hlt), HO.out])
        go_wp2_with fail
        exact ⟨⟨j + 1, o + 1, _, _, _, by omega, by go_num, by go_num, HI5, HL4, HO5, HB5⟩, by simp [intOf]; omega⟩
      · have t1 : decide (0 < cz) = false := by simp; omega
        have HO5 : Hid (o = above q (keys.take (j + 1))) := hide (by rw [above_snoc HX.out, if_neg (cmp_npos HCZ.out hlt), HO.out]; rfl)
        go_wp2_with fail
        exact ⟨⟨j + 1, o, _, _, _, by omega, rfl, by go_num, HI5, HL4, HO5, HB5⟩, by simp [intOf]; omega⟩
    · obtain rfl : j = na := by omega
      have hkl : l.map (fun e => e.key) = keys := by rw [HL.out, HNA.out]; exact List.take_length
      have hoe : o = above q keys := by rw [HO.out, HNA.out, List.take_length]
      obtain ⟨hll, hab⟩ := above_ents hkl (q := q)
      have hlj : l.length = j := by rw [HNA.out]; exact hll
      have hv1 : ((l.length : Nat) : Int) - (((notAbove q l).length : Nat) : Int) = (o : Int) := by rw [hoe]; omega
      have HAB : Hid ((notAbove q l).length + o = j) := hide (by omega)
      have HV1 := hide hv1
      have HKS := hide (fun e (he : e ∈ notAbove q l) => notAbove_key he)
      clear hkl hoe hll hab hlj hv1
      have hr := HB.out.now.1.1
      obtain ⟨d1, d2, d3, d4, d5, d6, d7, d8⟩ := row_cells4 hr
      go_wp2_with fail
      clear d1 d2 d3 d4 d5 d6 d7 d8 hr
      have HKD := hide (RawR.onlow (HFK.out.mono (by omega : 1 ≤ 50)) HI.out.late HI.out.since)
      ((with_reducible refine (qdrop_calls wr _ _ w2.heap.size j l _ q HI.out.1 HKD.out).mono ?_); rintro e' w5 ⟨rfl, S5, M5, hst, hq⟩)
      rw [HV1.out]
      have HI5 := hide (HI.out.step hst hq)
      have HB5 := hide (HB.out.qs hst)
      clear hst hq HKD
      have hr := HB5.out.now.1.1
      obtain ⟨d1, d2, d3, d4, d5, d6, d7, d8⟩ := row_cells4 hr
      go_wp2_with fail
      clear d1 d2 d3 d4 d5 d6 d7 d8 hr
      have HKD := hide (RawR.onlow (HFK.out.mono (by omega : 1 ≤ 50)) HI5.out.late HI5.out.since)
      obtain ⟨L, hL⟩ : ∃ L, L = notAbove q l := ⟨_, rfl⟩
      have hL2 : notAbove q L = L := by rw [hL]; exact notAbove_again q l
      rw [← hL] at HI5 HAB HKS
      ((with_reducible refine (qdrop_calls w5 _ _ w2.heap.size j L _ q HI5.out.1 HKD.out).mono ?_); rintro e' w6 ⟨rfl, S6, M6, hst, hq⟩)
      rw [hL2, Int.sub_self]
      rw [hL2] at hq
      have HI6 := hide (HI5.out.step hst hq)
      have HB6 := hide (HB5.out.qs hst)
      clear hst hq HKD hL hL2
      go_wp2_with fail
      ((with_reducible refine (qlen_calls _ _ _ w2.heap.size j L HI6.out.1).mono ?_); rintro e' w7 ⟨rfl, b7⟩)
      obtain ⟨m, hm⟩ : ∃ m, m = L.length := ⟨_, rfl⟩
      rw [← hm]
      rw [← hm] at HAB
      have HI7 := hide (HI6.out.later b7)
      have HB7 := hide (HB6.out.later b7)
      have HM := hide hm
      clear b7 hm
      go_wp2_with fail
      go_loopw [11] (fun iv wr => ∃ (i : Nat) (S M : Nat → Prop) (l' : List Ent), i ≤ m ∧ iv = .int .i64 (i : Int) ∧ Hid (QI w2 wr S M w2.heap.size l' j) ∧ Hid (l'.length = m - i) ∧ Hid (∀ e ∈ l', ¬ q < e.key) ∧ Hid (On wr (fun x => ¬ M x) (fun W => (Row W w.heap.size 35 [.bool sk, .slice A5 n5 c5, .bool sk', .slice A6 n6 c6] ∧ RawR W (.agg #[.bool sk, .slice A5 n5 c5, .bool sk', .slice A6 n6 c6]) q 1) ∧ Rats (ERaw 1) W (.slice A0 j ca) keys))) (fun iv _ => (m - intOf iv).toNat)
      case atStart => exact ⟨0, _, _, L, by omega, rfl, HI7, hide (by rw [HM.out]; simp), HKS, HB7⟩
      case round =>
        obtain ⟨i, S', M', l', hi, rfl, HI, HLE, HKS, HB⟩ := hrel
        have hmj : m ≤ j := by have := HAB.out; omega
        have hn100 := HNN.out
        by_cases him : i < m
        · have t1 : decide ((i : Int) < (m : Int)) = true := by simp; omega
          go_upto_region 21 with fail
          go_wp2_with fail
          ((with_reducible refine (qtake_calls wr _ _ w2.heap.size j l' HI.out.1).mono ?_); rintro e' w3 hp)
          rcases hp with ⟨h0, -⟩ | ⟨k, e, S1, M1, hf, rfl, hst, hq, hon, hsz⟩
          · have := HLE.out; rw [h0] at this; simp at this; omega
          have hel : e ∈ l' := List.mem_of_getElem? hf.1
          have HQK := hide (HKS.out e hel)
          have hkl : k < l'.length := (List.getElem?_eq_some_iff.1 hf.1).1
          have HLE1 : Hid ((l'.eraseIdx k).length = m - (i + 1)) := hide (by rw [List.length_eraseIdx, if_pos hkl, HLE.out]; omega)
          have HKS1 : Hid (∀ e ∈ l'.eraseIdx k, ¬ q < e.key) := hide fun e he => HKS.out e (List.mem_of_mem_eraseIdx he)
          have HI3 := hide (HI.out.step hst hq)
          have HB3 := hide ((HB.out.qs hst).and (hon.mono (fun x hx _ hm => (hst.2.1 x hm).elim hx.2.1 (fun h => by have := hx.2.2; omega))))
          have HSZ := hide hsz
          clear hf hst hq hon hsz hel hkl
          go_upto_region 22 with fail
          obtain ⟨W4, hW4⟩ : ∃ W4, W4 = w3.alloc (Obj.cells #[Value.bool e.s, Value.slice e.A e.n e.c, Value.bool false, Value.slice e.A' e.n' e.c'] 35) := ⟨_, rfl⟩
          obtain ⟨g4, hg4⟩ : ∃ g4, g4 = w3.heap.size := ⟨_, rfl⟩
          have hb : Later w3 W4 := by rw [hW4]; exact (Later.refl _).alloc _
          have hr : Row W4 g4 35 [.bool e.s, .slice e.A e.n e.c, .bool false, .slice e.A' e.n' e.c'] := by rw [hW4, hg4]; exact Row.new _ _ _
          rw [← hW4, ← hg4]
          have HI4 := hide (HI3.out.later hb)
          have HB4 := hide ((HB3.out.later hb).and (rowb' hr (M := M1) (fun h => by have := HI3.out.1.mlt _ h; omega)))
          have hr1 := HB4.out.now.1.1.1.1
          have hr2 := hr
          clear hW4 hg4 hb
          obtain ⟨cz, hcz⟩ : ∃ cz, cmpQ e.key q = cz := ⟨_, rfl⟩
          have hcl : decide (0 < cz) = false := by
            have := cmp_pos (c := cz) hcz
            simp; exact Int.not_lt.1 fun h => HQK.out (this h)
          have HCZ := hide hcz
          have HER : Hid (RawR W4 (.agg #[.bool e.s, .slice e.A e.n e.c, .bool false, .slice e.A' e.n' e.c']) e.key 100) := hide (OwnR.raw HB4.out.now.1.2 HSZ.out)
          have HKR : Hid (RawR W4 (.agg #[.bool sk, .slice A5 n5 c5, .bool sk', .slice A6 n6 c6]) q 1) := hide HB4.out.now.1.1.1.2
          obtain ⟨d1, d2, d3, d4, d5, d6, d7, d8⟩ := row_cells4 hr1
          obtain ⟨f1, f2, f3, f4, f5, f6, f7, f8⟩ := row_cells4 hr2
          clear hcz hr hr1 hr2
          go_wp2_with fail
          ((with_reducible refine (qcmp_calls _ _ _ e.key q 100 1 HER.out HKR.out (by omega)).mono ?_); rintro e' w105 ⟨rfl, b105⟩; rw [HCZ.out])
          have HI5 := hide (HI4.out.later b105)
          have HB5 := hide (HB4.out.later b105)
          clear b105 d1 d2 d3 d4 d5 d6 d7 d8 f1 f2 f3 f4 f5 f6 f7 f8
          go_wp2_with fail
          exact ⟨⟨i + 1, _, _, _, by omega, by go_num, HI5, HLE1, HKS1, HB5.out.map (fun W h => h.1.1)⟩, by simp [intOf]; omega⟩
        · obtain rfl : i = m := by omega
          have t1 : decide ((i : Int) < (i : Int)) = false := by simp
          have hm2 : i + o = j := HAB.out
          have hl0 : l' = [] := List.eq_nil_of_length_eq_zero (by rw [HLE.out]; omega)
          have HL0 := hide hl0
          clear hl0
          go_wp2_with fail
          ((with_reducible refine (qlen_calls _ _ _ w2.heap.size j l' HI.out.1).mono ?_); rintro e' w7 ⟨rfl, b7⟩)
          have hv : ((l'.length : Nat) : Int) = 0 := by rw [HL0.out]; rfl
          rw [hv]
          have HE := hide (HI.out.late.trans b7)
          clear hv b7
          go_wp2_with fail
          go_ret
          exact ⟨rfl, HL2.out.trans HE.out⟩
end Go.Proofs.Ytbhohnhkephefaa
