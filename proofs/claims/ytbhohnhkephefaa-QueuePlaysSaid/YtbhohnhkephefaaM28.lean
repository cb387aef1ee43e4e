import Derived.Test.YtbhohnhkephefaaM27
import Derived.Test.YtbhohnhkephefaaM17

/- QueueDrops: the walk. -/
set_option linter.unusedVariables false
set_option linter.unusedSimpArgs false
set_option maxRecDepth 100000
namespace Go.Proofs.Ytbhohnhkephefaa
open Go.RowKit Go.Shelf
attribute [local go_sem ↓] Go.wp_at_zero Go.wp_at_succ

theorem rowb' {W : World} {g : Nat} {t : TypeId} {cs : List Value} {M : Nat → Prop} (h : Row W g t cs) (hg : ¬ M g) : On W (fun x => ¬ M x) (fun W => Row W g t cs) := On.of_row h hg (fun _ h => h)
/-- how many are above a number -/
def above (q : Rat) (l : List Rat) : Nat := (l.filter (fun x => decide (q < x))).length
theorem above_le (q : Rat) (l : List Rat) : above q l ≤ l.length := List.length_filter_le _ _
theorem above_snoc {q x : Rat} {l : List Rat} {j : Nat} (h : l[j]? = some x) : above q (l.take (j + 1)) = above q (l.take j) + if q < x then 1 else 0 := by
  unfold above
  have : l.take (j + 1) = l.take j ++ [x] := by rw [List.take_add_one, h]; rfl
  rw [this, List.filter_append, List.length_append]
  by_cases hq : q < x <;> simp [hq]
theorem above_ents {q : Rat} {l : List Ent} {keys : List Rat} (h : l.map (fun e => e.key) = keys) : l.length = keys.length ∧ (notAbove q l).length + above q keys = l.length := by
  subst h
  refine ⟨by simp, ?_⟩
  unfold notAbove above
  induction l with
  | nil => rfl
  | cons e l ih =>
    by_cases hq : q < e.key <;> simp [hq] <;> omega
theorem notAbove_again (q : Rat) (l : List Ent) : notAbove q (notAbove q l) = notAbove q l := by
  unfold notAbove; rw [List.filter_filter]; simp
theorem notAbove_key {q : Rat} {l : List Ent} {e : Ent} (h : e ∈ notAbove q l) : ¬ q < e.key := by
  unfold notAbove at h; have := (List.mem_filter.1 h).2; simpa using this
set_option maxHeartbeats 8000000 in
theorem queuedrops_walk (w : World) (va vk : Value) (keys : List Rat) (q : Rat) (ha : Rats EAny w va keys) (hk : EAny w vk q) :
    Calls Try.prog 5 #[va, vk] w (RetV w (.bool true)) := by
  have HA := hide ha
  obtain ⟨kk, hk⟩ := hk
  obtain ⟨A0, na, ca, rfl, hna, -⟩ := ha.form
  obtain ⟨sk, A5, n5, c5, sk', A6, n6, c6, rfl⟩ := hk.open_
  have HNA := hide hna; have HK : Hid (EAny w (.agg #[.bool sk, .slice A5 n5 c5, .bool sk', .slice A6 n6 c6]) q) := hide ⟨kk, hk⟩
  clear ha hk hna
  obtain ⟨W0, hW0⟩ : ∃ W0, W0 = w.alloc (Obj.cells #[Value.bool sk, Value.slice A5 n5 c5, Value.bool sk', Value.slice A6 n6 c6] 35) := ⟨_, rfl⟩
  obtain ⟨hb0, r1, hsz0⟩ := boxes1 w [.bool sk, .slice A5 n5 c5, .bool sk', .slice A6 n6 c6] 35 hW0
  have R1 := hide r1; have B0' := hide hb0; have HW0 := hide hW0
  clear r1 hb0 hW0
  go_enter Try.func5, Try.ntmps5
  go_wp2_with fail
  rw [← HW0.out]
  ((with_reducible refine (qawake_calls W0).mono ?_); rintro e' w1 ⟨rfl, b1⟩)
  have HL1 := hide (B0'.out.trans b1)
  have HR1 := hide (R1.out.later b1)
  clear b1
  go_wp2_with fail
  refine (few_calls w1 _ keys 100 (HA.out.later EAny.later HL1.out) (by omega)).mono ?_
  rintro e w2 ⟨t, rfl, hf, hw⟩
  subst hw
  cases t with
  | false =>
    go_wp2_with fail
    go_ret
    exact ⟨rfl, HL1.out⟩
  | true =>
  have HFA := hide (hf rfl)
  clear hf
  obtain ⟨d1, d2, d3, d4, d5, d6, d7, d8⟩ := row_cells4 HR1.out
  go_wp2_with fail
  have HB2 : Hid (Later w1 (w1.alloc (Obj.cells #[Value.bool sk, Value.slice A5 n5 c5, Value.bool sk', Value.slice A6 n6 c6] 35))) := hide ((Later.refl w1).alloc _)
  obtain ⟨w2, hw2⟩ : ∃ w2, w2 = w1.alloc (Obj.cells #[Value.bool sk, Value.slice A5 n5 c5, Value.bool sk', Value.slice A6 n6 c6] 35) := ⟨_, rfl⟩
  have hrn : Row w2 w1.heap.size 35 [.bool sk, .slice A5 n5 c5, .bool sk', .slice A6 n6 c6] := by rw [hw2]; exact Row.new w1 _ _
  rw [← hw2] at HB2 ⊢
  have HRN := hide hrn
  have HL2 := hide (HL1.out.trans HB2.out)
  clear hw2 hrn d1 d2 d3 d4 d5 d6 d7 d8
  refine (few_calls w2 _ [q] 1 (rats_one HRN.out (EAny.later _ _ _ _ HK.out HL2.out)) (by omega)).mono ?_
  rintro e w3 ⟨t, rfl, hf, hw⟩
  subst hw
  cases t with
  | false =>
    go_wp2_with fail
    go_ret
    exact ⟨rfl, HL2.out⟩
  | true =>
  have HFK : Hid (RawR w2 (.agg #[.bool sk, .slice A5 n5 c5, .bool sk', .slice A6 n6 c6]) q 1) := hide (rats_one_inv HRN.out (hf rfl).2)
  clear hf
  go_wp2_with fail
  ((with_reducible refine (qnew_calls w2).mono ?_); rintro e' w3 ⟨rfl, b3, q3⟩)
  have HI3 : Hid (QI w2 w3 (fun b => w2.heap.size ≤ b) (fun b => b = w2.heap.size) w2.heap.size [] 0) := hide ⟨q3, b3, fun b hb => hb⟩
  have hlt : w.heap.size < w2.heap.size := (HR1.out.later HB2.out).lt
  have HB3 : Hid (On w3 (fun x => ¬ (x = w2.heap.size)) (fun W => (Row W w.heap.size 35 [.bool sk, .slice A5 n5 c5, .bool sk', .slice A6 n6 c6] ∧ RawR W (.agg #[.bool sk, .slice A5 n5 c5, .bool sk', .slice A6 n6 c6]) q 1) ∧ Rats (ERaw 1) W (.slice A0 na ca) keys)) :=
    hide (((On.of_row ((HR1.out.later HB2.out).later b3) (fun h => by omega) (fun _ h => h)).and (((On.rawR HFK.out).later b3).mono (fun b hb _ e => by omega))).and (((On.ratsRaw (HFA.out.2.later ERaw.later HB2.out)).later b3).mono (fun b hb _ e => by omega)))
  have HNN : Hid (na ≤ 100) := hide (by rw [HNA.out]; exact HFA.out.1)
  clear b3 q3 hlt
  go_wp2_with fail
  go_loopw [6, 7] (fun ov iv wr => ∃ (j : Nat) (o : Nat) (S M : Nat → Prop) (l : List Ent), j ≤ na ∧ ov = .int .i64 (o : Int) ∧ iv = .int .i64 (j : Int) ∧ Hid (QI w2 wr S M w2.heap.size l j) ∧ Hid (l.map (fun e => e.key) = keys.take j) ∧ Hid (o = above q (keys.take j)) ∧ Hid (On wr (fun x => ¬ M x) (fun W => (Row W w.heap.size 35 [.bool sk, .slice A5 n5 c5, .bool sk', .slice A6 n6 c6] ∧ RawR W (.agg #[.bool sk, .slice A5 n5 c5, .bool sk', .slice A6 n6 c6]) q 1) ∧ Rats (ERaw 1) W (.slice A0 na ca) keys))) (fun _ iv _ => (na - intOf iv).toNat)
  case atStart => exact ⟨0, 0, _, _, [], by omega, rfl, rfl, HI3, hide rfl, hide rfl, HB3⟩
  case round =>
    obtain ⟨j, o, S, M, l, hj, rfl, rfl, HI, HL, HO, HB⟩ := hrel
    have hn100 := HNN.out
    have ho : o ≤ j := by rw [HO.out]; exact Nat.le_trans (above_le _ _) (by simp; omega)
    by_cases hjn : j < na
    · obtain ⟨x, hx⟩ : ∃ x, keys[j]? = some x := ⟨keys[j]'(by have := HNA.out; omega), List.getElem?_eq_getElem _⟩
      obtain ⟨b1, off1, sx1, X1, nx1, cx1, sx1', X1', nx1', cx1', rfl, x1, x2, x3, x4, ex⟩ := HB.out.now.2.at_ hx
      have EX := hide ex; have HX := hide hx
      have hj0 : (0 : Int) ≤ (j : Int) := by omega
      have hj1 : (j : Int) < na := by omega
      clear ex hx
      go_wp2_with fail
      have hpc := qput_calls wr S M w2.heap.size j l _ x j HI.out.1 (by omega) (RawR.mono EX.out (by omega : 1 ≤ 50))
      ((with_reducible refine hpc.mono ?_); rintro e' w4 ⟨rfl, S', M', ent, hst, hk, hi, hq⟩)
      have HI4 := hide (HI.out.step hst hq)
      have HL4 : Hid ((l ++ [ent]).map (fun e => e.key) = keys.take (j + 1)) := hide (by rw [List.map_append, HL.out, List.take_add_one, HX.out]; simp [hk])
      have HB4 := hide (HB.out.qs hst)
      clear hpc hst hk hi hq x1 x2 x3 x4 EX
      go_upto_region 13 with fail
      have hd : Later w4 w4.drew := (Later.refl w4).drew
      have HD := hide hd
      obtain ⟨b2, off2, sx2, X2, nx2, cx2, sx2', X2', nx2', cx2', hA, y1, y2, y3, y4, ey⟩ := (HB4.out.later hd).now.2.at_ HX.out
      injection hA with hA; injection hA with hA1 hA2; subst hA1 hA2
      have EY : Hid (RawR w4.drew (.agg #[.bool sx2, .slice X2 nx2 cx2, .bool sx2', .slice X2' nx2' cx2']) x 1) := hide ey; have HRK := hide (HB4.out.later hd).now.1.2
      have hr1 := (HB4.out.later hd).now.1.1
      have HT1 : Hid (∀ w', Later w4.drew w' → w'.cell? ⟨b1, off1 + j * 4, none⟩ = some (.bool sx2) ∧ w'.cell? ⟨b1, off1 + j * 4 + 1, none⟩ = some (.slice X2 nx2 cx2) ∧ w'.cell? ⟨b1, off1 + j * 4 + 2, none⟩ = some (.bool sx2') ∧ w'.cell? ⟨b1, off1 + j * 4 + 3, none⟩ = some (.slice X2' nx2' cx2') ∧ w'.cell? ⟨w.heap.size, 0, none⟩ = some (.bool sk) ∧ w'.cell? ⟨w.heap.size, 1, none⟩ = some (.slice A5 n5 c5) ∧ w'.cell? ⟨w.heap.size, 2, none⟩ = some (.bool sk') ∧ w'.cell? ⟨w.heap.size, 3, none⟩ = some (.slice A6 n6 c6)) := hide fun w' hb => ⟨Later.cell hb y1, Later.cell hb y2, Later.cell hb y3, Later.cell hb y4, (hr1.later hb).cell rfl, (hr1.later hb).cell rfl, (hr1.later hb).cell rfl, (hr1.later hb).cell rfl⟩
      obtain ⟨cz, hcz⟩ : ∃ cz, cmpQ x q = cz := ⟨_, rfl⟩
      have HCZ := hide hcz
      clear hcz hd ey y1 y2 y3 y4 hr1
      go_region_held3 (fun w' => w'.cell? ⟨b1, off1 + j * 4, none⟩ = some (.bool sx2) ∧ w'.cell? ⟨b1, off1 + j * 4 + 1, none⟩ = some (.slice X2 nx2 cx2) ∧ w'.cell? ⟨b1, off1 + j * 4 + 2, none⟩ = some (.bool sx2') ∧ w'.cell? ⟨b1, off1 + j * 4 + 3, none⟩ = some (.slice X2' nx2' cx2') ∧ w'.cell? ⟨w.heap.size, 0, none⟩ = some (.bool sk) ∧ w'.cell? ⟨w.heap.size, 1, none⟩ = some (.slice A5 n5 c5) ∧ w'.cell? ⟨w.heap.size, 2, none⟩ = some (.bool sk') ∧ w'.cell? ⟨w.heap.size, 3, none⟩ = some (.slice A6 n6 c6))
        (first | exact HT1.out _ (Later.refl _) | exact HT1.out _ b5)
        (first
          | ((with_reducible refine (qcmp_calls _ _ _ x q 1 1 EY.out HRK.out (by omega)).mono ?_); rintro e' w5 ⟨rfl, b5⟩; rw [HCZ.out]))
      all_goals
        have HI5 := hide (HI4.out.later (HD.out.trans b5))
        have HB5 := hide (HB4.out.later (HD.out.trans b5))
        clear b5
      by_cases hlt : 0 < cz
      · have t1 : decide (0 < cz) = true := by simp [hlt]
        have HO5 : Hid (o + 1 = above q (keys.take (j + 1))) := hide (by rw [above_snoc HX.out, if_pos (cmp_pos HCZ.out hlt), HO.out])
        go_wp2_with fail
        exact ⟨⟨j + 1, o + 1, _, _, _, by omega, by go_num, by go_num, HI5, HL4, HO5, HB5⟩, by simp [intOf]; omega⟩
      · have t1 : decide (0 < cz) = false := by simp; omega
        have HO5 : Hid (o = above q (keys.take (j + 1))) := hide (by rw [above_snoc HX.out, if_neg (cmp_npos HCZ.out hlt), HO.out]; rfl)
        go_wp2_with fail
        exact ⟨⟨j + 1, o, _, _, _, by omega, rfl, by go_num, HI5, HL4, HO5, HB5⟩, by simp [intOf]; omega⟩
    · obtain rfl : j = na := by omega
      have hkl : l.map (fun e => e.key) = keys := by rw [HL.out, HNA.out]; exact List.take_length
      have hoe : o = above q keys := by rw [HO.out, HNA.out, List.take_length]
      obtain ⟨hll, hab⟩ := above_ents hkl (q := q)
      have hlj : l.length = j := by rw [HNA.out]; exact hll
      have hv1 : ((l.length : Nat) : Int) - (((notAbove q l).length : Nat) : Int) = (o : Int) := by rw [hoe]; omega
      have HAB : Hid ((notAbove q l).length + o = j) := hide (by omega)
      have HV1 := hide hv1
      have HKS := hide (fun e (he : e ∈ notAbove q l) => notAbove_key he)
      clear hkl hoe hll hab hlj hv1
      have hr := HB.out.now.1.1
      obtain ⟨d1, d2, d3, d4, d5, d6, d7, d8⟩ := row_cells4 hr
      go_wp2_with fail
      clear d1 d2 d3 d4 d5 d6 d7 d8 hr
      have HKD := hide (RawR.onlow (HFK.out.mono (by omega : 1 ≤ 50)) HI.out.late HI.out.since)
      ((with_reducible refine (qdrop_calls wr _ _ w2.heap.size j l _ q HI.out.1 HKD.out).mono ?_); rintro e' w5 ⟨rfl, S5, M5, hst, hq⟩)
      rw [HV1.out]
      have HI5 := hide (HI.out.step hst hq)
      have HB5 := hide (HB.out.qs hst)
      clear hst hq HKD
      have hr := HB5.out.now.1.1
      obtain ⟨d1, d2, d3, d4, d5, d6, d7, d8⟩ := row_cells4 hr
      go_wp2_with fail
      clear d1 d2 d3 d4 d5 d6 d7 d8 hr
      have HKD := hide (RawR.onlow (HFK.out.mono (by omega : 1 ≤ 50)) HI5.out.late HI5.out.since)
      obtain ⟨L, hL⟩ : ∃ L, L = notAbove q l := ⟨_, rfl⟩
      have hL2 : notAbove q L = L := by rw [hL]; exact notAbove_again q l
      rw [← hL] at HI5 HAB HKS
      ((with_reducible refine (qdrop_calls w5 _ _ w2.heap.size j L _ q HI5.out.1 HKD.out).mono ?_); rintro e' w6 ⟨rfl, S6, M6, hst, hq⟩)
      rw [hL2, Int.sub_self]
      rw [hL2] at hq
      have HI6 := hide (HI5.out.step hst hq)
      have HB6 := hide (HB5.out.qs hst)
      clear hst hq HKD hL hL2
      go_wp2_with fail
      ((with_reducible refine (qlen_calls _ _ _ w2.heap.size j L HI6.out.1).mono ?_); rintro e' w7 ⟨rfl, b7⟩)
      obtain ⟨m, hm⟩ : ∃ m, m = L.length := ⟨_, rfl⟩
      rw [← hm]
      rw [← hm] at HAB
      have HI7 := hide (HI6.out.later b7)
      have HB7 := hide (HB6.out.later b7)
      have HM := hide hm
      clear b7 hm
      go_wp2_with fail
      go_loopw [11] (fun iv wr => ∃ (i : Nat) (S M : Nat → Prop) (l' : List Ent), i ≤ m ∧ iv = .int .i64 (i : Int) ∧ Hid (QI w2 wr S M w2.heap.size l' j) ∧ Hid (l'.length = m - i) ∧ Hid (∀ e ∈ l', ¬ q < e.key) ∧ Hid (On wr (fun x => ¬ M x) (fun W => (Row W w.heap.size 35 [.bool sk, .slice A5 n5 c5, .bool sk', .slice A6 n6 c6] ∧ RawR W (.agg #[.bool sk, .slice A5 n5 c5, .bool sk', .slice A6 n6 c6]) q 1) ∧ Rats (ERaw 1) W (.slice A0 j ca) keys))) (fun iv _ => (m - intOf iv).toNat)
      case atStart => exact ⟨0, _, _, L, by omega, rfl, HI7, hide (by rw [HM.out]; simp), HKS, HB7⟩
      case round =>
        obtain ⟨i, S', M', l', hi, rfl, HI, HLE, HKS, HB⟩ := hrel
        have hmj : m ≤ j := by have := HAB.out; omega
        have hn100 := HNN.out
        by_cases him : i < m
        · have t1 : decide ((i : Int) < (m : Int)) = true := by simp; omega
          go_upto_region 21 with fail
          go_wp2_with fail
          ((with_reducible refine (qtake_calls wr _ _ w2.heap.size j l' HI.out.1).mono ?_); rintro e' w3 hp)
          rcases hp with ⟨h0, -⟩ | ⟨k, e, S1, M1, hf, rfl, hst, hq, hon, hsz⟩
          · have := HLE.out; rw [h0] at this; simp at this; omega
          have hel : e ∈ l' := List.mem_of_getElem? hf.1
          have HQK := hide (HKS.out e hel)
          have hkl : k < l'.length := (List.getElem?_eq_some_iff.1 hf.1).1
          have HLE1 : Hid ((l'.eraseIdx k).length = m - (i + 1)) := hide (by rw [List.length_eraseIdx, if_pos hkl, HLE.out]; omega)
          have HKS1 : Hid (∀ e ∈ l'.eraseIdx k, ¬ q < e.key) := hide fun e he => HKS.out e (List.mem_of_mem_eraseIdx he)
          have HI3 := hide (HI.out.step hst hq)
          have HB3 := hide ((HB.out.qs hst).and (hon.mono (fun x hx _ hm => (hst.2.1 x hm).elim hx.2.1 (fun h => by have := hx.2.2; omega))))
          have HSZ := hide hsz
          clear hf hst hq hon hsz hel hkl
          go_upto_region 22 with fail
          obtain ⟨W4, hW4⟩ : ∃ W4, W4 = w3.alloc (Obj.cells #[Value.bool e.s, Value.slice e.A e.n e.c, Value.bool false, Value.slice e.A' e.n' e.c'] 35) := ⟨_, rfl⟩
          obtain ⟨g4, hg4⟩ : ∃ g4, g4 = w3.heap.size := ⟨_, rfl⟩
          have hb : Later w3 W4 := by rw [hW4]; exact (Later.refl _).alloc _
          have hr : Row W4 g4 35 [.bool e.s, .slice e.A e.n e.c, .bool false, .slice e.A' e.n' e.c'] := by rw [hW4, hg4]; exact Row.new _ _ _
          rw [← hW4, ← hg4]
          have HI4 := hide (HI3.out.later hb)
          have HB4 := hide ((HB3.out.later hb).and (rowb' hr (M := M1) (fun h => by have := HI3.out.1.mlt _ h; omega)))
          have hr1 := HB4.out.now.1.1.1.1
          have hr2 := hr
          clear hW4 hg4 hb
          obtain ⟨cz, hcz⟩ : ∃ cz, cmpQ e.key q = cz := ⟨_, rfl⟩
          have hcl : decide (0 < cz) = false := by
            have := cmp_pos (c := cz) hcz
            simp; exact Int.not_lt.1 fun h => HQK.out (this h)
          have HCZ := hide hcz
          have HER : Hid (RawR W4 (.agg #[.bool e.s, .slice e.A e.n e.c, .bool false, .slice e.A' e.n' e.c']) e.key 100) := hide (OwnR.raw HB4.out.now.1.2 HSZ.out)
          have HKR : Hid (RawR W4 (.agg #[.bool sk, .slice A5 n5 c5, .bool sk', .slice A6 n6 c6]) q 1) := hide HB4.out.now.1.1.1.2
          obtain ⟨d1, d2, d3, d4, d5, d6, d7, d8⟩ := row_cells4 hr1
          obtain ⟨f1, f2, f3, f4, f5, f6, f7, f8⟩ := row_cells4 hr2
          clear hcz hr hr1 hr2
          go_wp2_with fail
          ((with_reducible refine (qcmp_calls _ _ _ e.key q 100 1 HER.out HKR.out (by omega)).mono ?_); rintro e' w105 ⟨rfl, b105⟩; rw [HCZ.out])
          have HI5 := hide (HI4.out.later b105)
          have HB5 := hide (HB4.out.later b105)
          clear b105 d1 d2 d3 d4 d5 d6 d7 d8 f1 f2 f3 f4 f5 f6 f7 f8
          go_wp2_with fail
          exact ⟨⟨i + 1, _, _, _, by omega, by go_num, HI5, HLE1, HKS1, HB5.out.map (fun W h => h.1.1)⟩, by simp [intOf]; omega⟩
        · obtain rfl : i = m := by omega
          have t1 : decide ((i : Int) < (i : Int)) = false := by simp
          have hm2 : i + o = j := HAB.out
          have hl0 : l' = [] := List.eq_nil_of_length_eq_zero (by rw [HLE.out]; omega)
          have HL0 := hide hl0
          clear hl0
          go_wp2_with fail
          ((with_reducible refine (qlen_calls _ _ _ w2.heap.size j l' HI.out.1).mono ?_); rintro e' w7 ⟨rfl, b7⟩)
          have hv : ((l'.length : Nat) : Int) = 0 := by rw [HL0.out]; rfl
          rw [hv]
          have HE := hide (HI.out.late.trans b7)
          clear hv b7
          go_wp2_with fail
          go_ret
          exact ⟨rfl, HL2.out.trans HE.out⟩
end Go.Proofs.Ytbhohnhkephefaa


/- QueueSorts: the walk. -/
set_option linter.unusedVariables false
set_option linter.unusedSimpArgs false
set_option maxRecDepth 100000
namespace Go.Proofs.Ytbhohnhkephefaa
open Go.RowKit Go.Shelf
attribute [local go_sem ↓] Go.wp_at_zero Go.wp_at_succ

theorem QI.only {w0 w w' : World} {S M : Nat → Prop} {gq put g : Nat} {l : List Ent} (h : QI w0 w S M gq l put) (o : Only g w w') (hS : ¬ S g) (hg : w0.heap.size ≤ g) : QI w0 w' (fun x => S x ∧ x < w.heap.size) M gq l put :=
  ⟨h.1.tch (T := fun x => x = g) (o.tch rfl) (fun x _ hx e => hS (e ▸ hx)), Later.only h.late o hg, fun b hb => h.since b hb.1⟩
/-- the entries are keys, one by one -/
structure Filled (keys : List Rat) (l : List Ent) (j : Nat) : Prop where
  len : l.length = j
  at_ : ∀ (i : Nat) (e : Ent), l[i]? = some e → e.id = (i : Int) ∧ keys[i]? = some e.key
theorem Filled.nil (keys : List Rat) : Filled keys [] 0 := ⟨rfl, fun i e h => by simp at h⟩
theorem Filled.snoc {keys : List Rat} {l : List Ent} {j : Nat} {e : Ent} {x : Rat} (h : Filled keys l j) (hx : keys[j]? = some x) (hk : e.key = x) (hi : e.id = (j : Int)) : Filled keys (l ++ [e]) (j + 1) := by
  refine ⟨by simp [h.len], fun i o ho => ?_⟩
  by_cases hij : i < l.length
  · rw [List.getElem?_append_left hij] at ho; exact h.at_ i o ho
  · have h1 := (List.getElem?_eq_some_iff.1 ho).1
    have h2 : i = j := by have := h.len; simp at h1; omega
    subst h2
    rw [List.getElem?_append_right (by rw [h.len]; exact Nat.le_refl _), h.len, Nat.sub_self] at ho
    simp at ho
    subst ho
    exact ⟨hi, by rw [hx, hk]⟩
/-- what is left, what was seen, and what came last -/
structure Pend (keys : List Rat) (n j : Nat) (l : List Ent) (tk : List Bool) (last : Int) : Prop where
  len : l.length + j = n
  tkl : tk.length = n
  at_ : ∀ e ∈ l, ∃ a : Nat, e.id = (a : Int) ∧ keys[a]? = some e.key ∧ tk.getD a false = false
  asc : l.Pairwise (fun a b => a.id < b.id)
  last_ : last = -1 ∨ ∃ (p : Nat) (k : Rat), last = (p : Int) ∧ keys[p]? = some k ∧ ∀ e ∈ l, k < e.key ∨ (k = e.key ∧ (p : Int) < e.id)
theorem Pend.start {keys : List Rat} {l : List Ent} {n : Nat} (h : Filled keys l n) : Pend keys n 0 l (List.replicate n false) (-1) := by
  refine ⟨by simp [h.len], by simp, fun e he => ?_, ?_, .inl rfl⟩
  · obtain ⟨i, hi⟩ := List.mem_iff_getElem?.1 he
    obtain ⟨h1, h2⟩ := h.at_ i e hi
    exact ⟨i, h1, h2, by rw [List.getD_eq_getElem?_getD, List.getElem?_replicate]; split <;> rfl⟩
  · rw [List.pairwise_iff_getElem]
    intro i k hi hk hik
    have h1 := (h.at_ i _ (List.getElem?_eq_getElem hi)).1
    have h2 := (h.at_ k _ (List.getElem?_eq_getElem hk)).1
    rw [h1, h2]; omega
theorem Pend.step {keys : List Rat} {n j i : Nat} {l : List Ent} {tk : List Bool} {last : Int} {e : Ent} (h : Pend keys n j l tk last) (hf : FirstAt l i e) :
    ∃ a : Nat, e.id = (a : Int) ∧ keys[a]? = some e.key ∧ tk.getD a false = false ∧ (last = -1 ∨ ∃ (p : Nat) (k : Rat), last = (p : Int) ∧ keys[p]? = some k ∧ (k < e.key ∨ (k = e.key ∧ (p : Int) < (a : Int)))) ∧ Pend keys n (j + 1) (l.eraseIdx i) (tk.set a true) (a : Int) := by
  obtain ⟨h1, h2⟩ := hf
  have hil := (List.getElem?_eq_some_iff.1 h1).1
  have hel : e ∈ l := List.mem_of_getElem? h1
  obtain ⟨a, ha, hk, ht⟩ := h.at_ e hel
  have hasc := List.pairwise_iff_getElem.1 h.asc
  have hoth : ∀ o ∈ l.eraseIdx i, ∃ m, m ≠ i ∧ l[m]? = some o := fun o ho => by
    obtain ⟨m, hm, hmo⟩ := List.mem_eraseIdx_iff_getElem?.1 ho
    exact ⟨m, hm, hmo⟩
  have hlt : ∀ m o, l[m]? = some o → (m < i → o.id < e.id) ∧ (i < m → e.id < o.id) := fun m o hm => by
    obtain ⟨hml, hmo⟩ := List.getElem?_eq_some_iff.1 hm
    obtain ⟨hil', hie⟩ := List.getElem?_eq_some_iff.1 h1
    exact ⟨fun hl => by have := hasc m i hml hil hl; rw [hmo, hie] at this; exact this, fun hl => by have := hasc i m hil hml hl; rw [hmo, hie] at this; exact this⟩
  refine ⟨a, ha, hk, ht, ?_, ?_, ?_, ?_, ?_, .inr ⟨a, e.key, rfl, hk, ?_⟩⟩
  · rcases h.last_ with h3 | ⟨p, k, h3, h4, h5⟩
    · exact .inl h3
    · exact .inr ⟨p, k, h3, h4, by rw [← ha]; exact h5 e hel⟩
  · rw [List.length_eraseIdx, if_pos hil]; have := h.len; omega
  · rw [List.length_set]; exact h.tkl
  · intro o ho
    obtain ⟨m, hm, hmo⟩ := hoth o ho
    obtain ⟨b, hb, hkb, htb⟩ := h.at_ o (List.mem_of_getElem? hmo)
    refine ⟨b, hb, hkb, ?_⟩
    have hne : a ≠ b := fun e' => by
      have h3 := hlt m o hmo
      rcases Nat.lt_or_gt_of_ne hm with hl | hl
      · have := h3.1 hl; rw [ha, hb, e'] at this; omega
      · have := h3.2 hl; rw [ha, hb, e'] at this; omega
    rw [List.getD_eq_getElem?_getD, List.getElem?_set_ne hne, ← List.getD_eq_getElem?_getD]
    exact htb
  · exact h.asc.sublist (List.eraseIdx_sublist l i)
  · intro o ho
    obtain ⟨m, hm, hmo⟩ := hoth o ho
    obtain ⟨h3, h4⟩ := h2 m o hmo
    rcases Nat.lt_or_gt_of_ne hm with hl | hl
    · exact .inl (h4 hl)
    · by_cases hke : e.key = o.key
      · exact .inr ⟨hke, by rw [← ha]; exact (hlt m o hmo).2 hl⟩
      · exact .inl (by grind)
theorem cmp_last {k q : Rat} {p a c : Int} (hc : cmpQ k q = c) (h : k < q ∨ (k = q ∧ p < a)) : c ≤ 0 ∧ (c = 0 → p < a) := by
  unfold cmpQ at hc
  rcases h with h | ⟨h, h'⟩
  · rw [if_pos h] at hc; omega
  · subst h
    simp at hc
    omega
set_option maxHeartbeats 16000000 in
theorem queuesorts_walk (w : World) (va : Value) (keys : List Rat) (ha : Rats EAny w va keys) :
    Calls Try.prog 4 #[va] w (RetV w (.bool true)) := by
  have HA := hide ha
  obtain ⟨A0, na, ca, rfl, hna, -⟩ := ha.form
  have HNA := hide hna
  clear ha hna
  go_enter Try.func4, Try.ntmps4
  go_wp2_with fail
  ((with_reducible refine (qawake_calls w).mono ?_); rintro e' w1 ⟨rfl, b1⟩)
  have HL1 := hide b1
  clear b1
  go_wp2_with fail
  refine (few_calls w1 _ keys 200 (HA.out.later EAny.later HL1.out) (by omega)).mono ?_
  rintro e w2 ⟨t, rfl, hf, hw⟩
  subst hw
  cases t with
  | false =>
    go_wp2_with fail
    go_ret
    exact ⟨rfl, HL1.out⟩
  | true =>
  have HFA := hide (hf rfl)
  clear hf
  go_wp2_with fail
  ((with_reducible refine (qnew_calls w1).mono ?_); rintro e' w3 ⟨rfl, b3, q3⟩)
  have HI3 : Hid (QI w1 w3 (fun b => w1.heap.size ≤ b) (fun b => b = w1.heap.size) w1.heap.size [] 0) := hide ⟨q3, b3, fun b hb => hb⟩
  have HB3 : Hid (On w3 (fun x => ¬ (x = w1.heap.size)) (fun W => Rats (ERaw 1) W (.slice A0 na ca) keys)) := hide (((On.ratsRaw HFA.out.2).later b3).mono (fun b hb _ e => by omega))
  have HNN : Hid (na ≤ 200) := hide (by rw [HNA.out]; exact HFA.out.1)
  clear b3 q3
  go_wp2_with fail
  go_loopw [4] (fun iv wr => ∃ (j : Nat) (S M : Nat → Prop) (l : List Ent), j ≤ na ∧ iv = .int .i64 (j : Int) ∧ Hid (QI w1 wr S M w1.heap.size l j) ∧ Hid (Filled keys l j) ∧ Hid (On wr (fun x => ¬ M x) (fun W => Rats (ERaw 1) W (.slice A0 na ca) keys))) (fun iv _ => (na - intOf iv).toNat)
  case atStart => exact ⟨0, _, _, [], by omega, rfl, HI3, hide (Filled.nil keys), HB3⟩
  case round =>
    obtain ⟨j, S, M, l, hj, rfl, HI, HL, HB⟩ := hrel
    have hn100 := HNN.out
    by_cases hjn : j < na
    · obtain ⟨x, hx⟩ : ∃ x, keys[j]? = some x := ⟨keys[j]'(by have := HNA.out; omega), List.getElem?_eq_getElem _⟩
      obtain ⟨b1, off1, sx1, X1, nx1, cx1, sx1', X1', nx1', cx1', rfl, x1, x2, x3, x4, ex⟩ := HB.out.now.at_ hx
      have EX := hide ex; have HX := hide hx
      have hj0 : (0 : Int) ≤ (j : Int) := by omega
      have hj1 : (j : Int) < na := by omega
      clear ex hx
      go_wp2_with fail
      have hpc := qput_calls wr S M w1.heap.size j l _ x j HI.out.1 (by omega) (RawR.mono EX.out (by omega : 1 ≤ 50))
      ((with_reducible refine hpc.mono ?_); rintro e' w4 ⟨rfl, S', M', ent, hst, hk, hi, hq⟩)
      have HI4 := hide (HI.out.step hst hq)
      have HL4 : Hid (Filled keys (l ++ [ent]) (j + 1)) := hide (HL.out.snoc HX.out hk hi)
      have HB4 := hide (HB.out.qs hst)
      clear hpc hst hk hi hq x1 x2 x3 x4 EX
      go_wp2_with fail
      exact ⟨⟨j + 1, _, _, _, by omega, by go_num, HI4, HL4, HB4⟩, by simp [intOf]; omega⟩
    · obtain rfl : na = j := by omega
      have hmxl : na ≤ maxLen := by unfold maxLen; omega
      have HIC := hide HI.out.cut
      go_upto_region 13 with (at_make; refine wpList_make_row rfl (.tmp 34) (.tmp 34) _ rfl 4 (.bool false) 1 Try.underlying48 info_bool rfl _ _ _ _ na rfl rfl rfl rfl (by omega) hmxl ?_; intro g5 w5 hg5 hr5 hb5)
      rw [tkV_start] at hr5
      have HI5 := hide (HIC.out.later hb5)
      have HB5 : Hid (On w5 (fun x => ¬ M x ∧ x ≠ g5) (fun W => Rats (ERaw 1) W (.slice A0 na ca) keys)) := hide ((HB.out.lt.later hb5).mono (fun b hb _ => ⟨hb.1, by have := hb.2; omega⟩))
      have HR5 := hide hr5
      have HNS : Hid (¬ ((fun x => S x ∧ x < wr.heap.size) g5)) := hide (fun h => by have := h.2; omega)
      have HG5 : Hid (w1.heap.size ≤ g5) := hide (by have := HI.out.late.size; omega)
      have HPS := hide (Pend.start HL.out)
      clear hr5 hb5 hg5
      go_wp2_with fail
      go_loopw [6, 7] (fun lv iv wr => ∃ (j : Nat) (last : Int) (tk : List Bool) (S M : Nat → Prop) (l : List Ent), j ≤ na ∧ lv = .int .i64 last ∧ iv = .int .i64 (j : Int) ∧ Hid (QI w1 wr S M w1.heap.size l na) ∧ Hid (Pend keys na j l tk last) ∧ Hid (On wr (fun x => ¬ M x ∧ x ≠ g5) (fun W => Rats (ERaw 1) W (.slice A0 na ca) keys)) ∧ Hid (Row wr g5 4 (tkV tk)) ∧ Hid (¬ S g5)) (fun _ iv _ => (na - intOf iv).toNat)
      case atStart => exact ⟨0, -1, _, _, _, l, by omega, rfl, rfl, HI5, HPS, HB5, HR5, HNS⟩
      case round =>
        obtain ⟨j, last, tk, S, M, l, hj, rfl, rfl, HI, HP, HB, HR, HNS⟩ := hrel
        by_cases hjn : j < na
        · have t1 : decide ((j : Int) < (na : Int)) = true := by simp; omega
          go_wp2_with fail
          ((with_reducible refine (qtake_calls wr _ _ w1.heap.size na l HI.out.1).mono ?_); rintro e' w3 hp)
          rcases hp with ⟨h0, -⟩ | ⟨k, e, S1, M1, hf, rfl, hst, hq, hon, hsz⟩
          · have := HP.out.len; rw [h0] at this; simp at this; omega
          obtain ⟨a, hea, hka, hta, hlast, hp1⟩ := HP.out.step hf
          have hg5l : g5 < wr.heap.size := HR.out.lt
          have hnm : ¬ M g5 := fun h => HNS.out (HI.out.1.sub _ h)
          have hnm1 : ¬ M1 g5 := fun h => (hst.2.1 _ h).elim hnm (fun h => by omega)
          have HNS1 : Hid (¬ S1 g5) := hide fun h => (hst.1 _ h).elim HNS.out (fun h => by omega)
          have HI3 := hide (HI.out.step hst hq)
          have HB3 : Hid (On w3 (fun x => ¬ M1 x ∧ x ≠ g5) (fun W => Rats (ERaw 1) W (.slice A0 na ca) keys)) := hide ((HB.out.qstep hst (fun b hb => hb.1)).mono (fun b hb _ => ⟨hb.2, hb.1.2⟩))
          have HOK : Hid (On w3 (fun x => ¬ M1 x) (fun W => e.ok W)) := hide (hon.mono (fun x hx _ hm => (hst.2.1 x hm).elim hx.2.1 (fun h => by have := hx.2.2; omega)))
          have HR3 : Hid (Row w3 g5 4 (tkV tk)) := hide (HR.out.tch hst.2.2 hnm)
          have HSZ := hide hsz; have HKA := hide hka; have HTA := hide hta; have HLAST := hide hlast; have HP1 := hide hp1
          have han : a < na := by rw [HNA.out]; exact (List.getElem?_eq_some_iff.1 hka).1
          rw [hea]
          clear hf hst hq hon hsz hka hta hlast hp1 hnm hnm1 hg5l hea
          have ha0 : (0 : Int) ≤ (a : Int) := by omega
          have ha1 : (a : Int) < na := by omega
          have t2 : decide ((a : Int) < 0) = false := by simp
          have t3 : decide ((na : Int) ≤ (a : Int)) = false := by simp; omega
          have t3n : decide (na ≤ a) = false := by simp; omega
          go_upto_region 18 with fail
          obtain ⟨W4, hW4⟩ : ∃ W4, W4 = w3.alloc (Obj.cells #[Value.bool e.s, Value.slice e.A e.n e.c, Value.bool false, Value.slice e.A' e.n' e.c'] 35) := ⟨_, rfl⟩
          obtain ⟨g4, hg4⟩ : ∃ g4, g4 = w3.heap.size := ⟨_, rfl⟩
          have hb : Later w3 W4 := by rw [hW4]; exact (Later.refl _).alloc _
          have hr : Row W4 g4 35 [.bool e.s, .slice e.A e.n e.c, .bool false, .slice e.A' e.n' e.c'] := by rw [hW4, hg4]; exact Row.new _ _ _
          rw [← hW4, ← hg4]
          have hd : Later W4 W4.drew := (Later.refl W4).drew
          have HI4 := hide (HI3.out.later hb)
          have HB4 := hide (HB3.out.later hb)
          have HR4 := hide (HR3.out.later hb)
          have hok := ((HOK.out.later hb).later hd).now
          have HE : Hid (∀ W', Later W4.drew W' → OwnR W' 0 (.agg #[.bool e.s, .slice e.A e.n e.c, .bool false, .slice e.A' e.n' e.c']) e.key) := hide fun W' h => hok.later h
          obtain ⟨b1, off1, sx2, X2, nx2, cx2, sx2', X2', nx2', cx2', hA, y1, y2, y3, y4, ey⟩ := (HB4.out.later hd).now.at_ HKA.out
          have hr5 := (HR4.out.later hd).cell (i := a) (tkV_at (tk := tk) (by have := HP.out.tkl; omega))
          rw [HTA.out] at hr5
          have hr4 := hr.later hd
          subst hA
          have HT1 : Hid (∀ w', Later W4.drew w' → w'.cell? ⟨g5, a, none⟩ = some (.bool false) ∧ w'.cell? ⟨g4, 0, none⟩ = some (.bool e.s) ∧ w'.cell? ⟨g4, 1, none⟩ = some (.slice e.A e.n e.c) ∧ w'.cell? ⟨g4, 2, none⟩ = some (.bool false) ∧ w'.cell? ⟨g4, 3, none⟩ = some (.slice e.A' e.n' e.c') ∧ w'.cell? ⟨b1, off1 + a * 4, none⟩ = some (.bool sx2) ∧ w'.cell? ⟨b1, off1 + a * 4 + 1, none⟩ = some (.slice X2 nx2 cx2) ∧ w'.cell? ⟨b1, off1 + a * 4 + 2, none⟩ = some (.bool sx2') ∧ w'.cell? ⟨b1, off1 + a * 4 + 3, none⟩ = some (.slice X2' nx2' cx2')) := hide fun w' hb => ⟨Later.cell hb hr5, (hr4.later hb).cell rfl, (hr4.later hb).cell rfl, (hr4.later hb).cell rfl, (hr4.later hb).cell rfl, Later.cell hb y1, Later.cell hb y2, Later.cell hb y3, Later.cell hb y4⟩
          have HEY : Hid (∀ W', Later W4.drew W' → RawR W' (.agg #[.bool sx2, .slice X2 nx2 cx2, .bool sx2', .slice X2' nx2' cx2']) e.key 1) := hide fun W' h => RawR.later (show RawR W4.drew (.agg #[.bool sx2, .slice X2 nx2 cx2, .bool sx2', .slice X2' nx2' cx2']) e.key 1 from ey) h
          clear hok ey y1 y2 y3 y4 hr5 hr4 hr hW4 hg4 hb
          have hmx : Try.prog.follows .mixedOrders = true := by kernel_rfl
          refine wp_region_N (fun w' => w'.cell? ⟨g5, a, none⟩ = some (.bool false) ∧ w'.cell? ⟨g4, 0, none⟩ = some (.bool e.s) ∧ w'.cell? ⟨g4, 1, none⟩ = some (.slice e.A e.n e.c) ∧ w'.cell? ⟨g4, 2, none⟩ = some (.bool false) ∧ w'.cell? ⟨g4, 3, none⟩ = some (.slice e.A' e.n' e.c') ∧ w'.cell? ⟨b1, off1 + a * 4, none⟩ = some (.bool sx2) ∧ w'.cell? ⟨b1, off1 + a * 4 + 1, none⟩ = some (.slice X2 nx2 cx2) ∧ w'.cell? ⟨b1, off1 + a * 4 + 2, none⟩ = some (.bool sx2') ∧ w'.cell? ⟨b1, off1 + a * 4 + 3, none⟩ = some (.slice X2' nx2' cx2')) [] hmx (HT1.out _ (Later.refl _)) (fun hHeld => ?_)
          refine wpAnyN_takeD (some 48) (by rfl) (i := 0) (oi := _) (v := ?_) rfl (by kernel_rfl) (by kernel_rfl) (by kernel_rfl) (by kernel_rfl) (fun _ _ _ h => h) (Or.inl ⟨by rfl, ?_⟩) (by assumption) ?_
          rotate_left
          · intro w hSw; (try dsimp only at hSw); go_simp
            first | done | with_reducible rfl
          try simp only [Act.put, List.setIfInBounds_toArray, List.set_cons_zero, List.set_cons_succ]
          refine wpAnyN_takeD (some 49) (by rfl) (i := 1) (oi := _) (v := ?_) rfl (by kernel_rfl) (by kernel_rfl) (by kernel_rfl) (by kernel_rfl) (fun _ _ _ h => h) (Or.inl ⟨by rfl, ?_⟩) (by assumption) ?_
          rotate_left
          · intro w hSw; (try dsimp only at hSw); go_simp
            first | done | with_reducible rfl
          try simp only [Act.put, List.setIfInBounds_toArray, List.set_cons_zero, List.set_cons_succ]
          refine wpAnyN_takeD (some 50) (by rfl) (i := 2) (oi := _) (v := ?_) rfl (by kernel_rfl) (by kernel_rfl) (by kernel_rfl) (by kernel_rfl) (fun _ _ _ h => h) (Or.inl ⟨by rfl, ?_⟩) (by assumption) ?_
          rotate_left
          · intro w hSw; (try dsimp only at hSw); go_simp
            first | done | with_reducible rfl
          try simp only [Act.put, List.setIfInBounds_toArray, List.set_cons_zero, List.set_cons_succ]
          refine wpAnyN_takeD (some 51) (by rfl) (i := 3) (oi := _) (v := ?_) rfl (by kernel_rfl) (by kernel_rfl) (by kernel_rfl) (by kernel_rfl) (fun _ _ _ h => h) (Or.inl ⟨by rfl, ?_⟩) (by assumption) ?_
          rotate_left
          · intro w hSw; (try dsimp only at hSw); go_simp
            first | done | with_reducible rfl
          try simp only [Act.put, List.setIfInBounds_toArray, List.set_cons_zero, List.set_cons_succ]
          refine wpAnyN_takeD (some 52) (by rfl) (i := 4) (oi := _) (v := ?_) rfl (by kernel_rfl) (by kernel_rfl) (by kernel_rfl) (by kernel_rfl) (fun _ _ _ h => h) (Or.inl ⟨by rfl, ?_⟩) (by assumption) ?_
          rotate_left
          · intro w hSw; (try dsimp only at hSw); go_simp
            first | done | with_reducible rfl
          try simp only [Act.put, List.setIfInBounds_toArray, List.set_cons_zero, List.set_cons_succ]
          refine wpAnyN_takeD (some 53) (by rfl) (i := 5) (oi := _) (v := ?_) rfl (by kernel_rfl) (by kernel_rfl) (by kernel_rfl) (by kernel_rfl) (fun _ _ _ h => h) (Or.inl ⟨by rfl, ?_⟩) (by assumption) ?_
          rotate_left
          · intro w hSw; (try dsimp only at hSw); go_simp
            first | done | with_reducible rfl
          try simp only [Act.put, List.setIfInBounds_toArray, List.set_cons_zero, List.set_cons_succ]
          refine wpAnyN_takeD (some 54) (by rfl) (i := 6) (oi := _) (v := ?_) rfl (by kernel_rfl) (by kernel_rfl) (by kernel_rfl) (by kernel_rfl) (fun _ _ _ h => h) (Or.inl ⟨by rfl, ?_⟩) (by assumption) ?_
          rotate_left
          · intro w hSw; (try dsimp only at hSw); go_simp
            first | done | with_reducible rfl
          try simp only [Act.put, List.setIfInBounds_toArray, List.set_cons_zero, List.set_cons_succ]
          refine wpAnyN_takeD (some 55) (by rfl) (i := 7) (oi := _) (v := ?_) rfl (by kernel_rfl) (by kernel_rfl) (by kernel_rfl) (by kernel_rfl) (fun _ _ _ h => h) (Or.inl ⟨by rfl, ?_⟩) (by assumption) ?_
          rotate_left
          · intro w hSw; (try dsimp only at hSw); go_simp
            first | done | with_reducible rfl
          try simp only [Act.put, List.setIfInBounds_toArray, List.set_cons_zero, List.set_cons_succ]
          refine wpAnyN_takeD (some 56) (by rfl) (i := 8) (oi := _) (v := ?_) rfl (by kernel_rfl) (by kernel_rfl) (by kernel_rfl) (by kernel_rfl) (fun _ _ _ h => h) (Or.inl ⟨by rfl, ?_⟩) (by assumption) ?_
          rotate_left
          · intro w hSw; (try dsimp only at hSw); go_simp
            first | done | with_reducible rfl
          try simp only [Act.put, List.setIfInBounds_toArray, List.set_cons_zero, List.set_cons_succ]
          refine wpAnyN_takeD (some 57) (by rfl) (i := 9) (oi := _) (v := ?_) rfl (by kernel_rfl) (by kernel_rfl) (by kernel_rfl) (by kernel_rfl) (fun _ _ _ h => h) (Or.inl ⟨by rfl, ?_⟩) (by assumption) ?_
          rotate_left
          · intro w hSw; (try dsimp only at hSw); go_simp
            first | done | with_reducible rfl
          try simp only [Act.put, List.setIfInBounds_toArray, List.set_cons_zero, List.set_cons_succ]
          refine wpAnyN_takeD (some 58) (by rfl) (i := 10) (oi := _) (v := ?_) rfl (by kernel_rfl) (by kernel_rfl) (by kernel_rfl) (by kernel_rfl) (fun _ _ _ h => h) (Or.inl ⟨by rfl, ?_⟩) (by assumption) ?_
          rotate_left
          · intro w hSw; (try dsimp only at hSw); go_simp
            first | done | with_reducible rfl
          try simp only [Act.put, List.setIfInBounds_toArray, List.set_cons_zero, List.set_cons_succ]
          refine wpAnyN_takeD (some 59) (by rfl) (i := 11) (oi := _) (v := ?_) rfl (by kernel_rfl) (by kernel_rfl) (by kernel_rfl) (by kernel_rfl) (fun _ _ _ h => h) (Or.inl ⟨by rfl, ?_⟩) (by assumption) ?_
          rotate_left
          · intro w hSw; (try dsimp only at hSw); go_simp
            first | done | with_reducible rfl
          try simp only [Act.put, List.setIfInBounds_toArray, List.set_cons_zero, List.set_cons_succ]
          refine wpAnyN_takeD (some 60) (by rfl) (i := 12) (oi := _) (v := ?_) rfl (by kernel_rfl) (by kernel_rfl) (by kernel_rfl) (by kernel_rfl) (fun _ _ _ h => h) (Or.inl ⟨by rfl, ?_⟩) (by assumption) ?_
          rotate_left
          · intro w hSw; (try dsimp only at hSw); go_simp
            first | done | with_reducible rfl
          try simp only [Act.put, List.setIfInBounds_toArray, List.set_cons_zero, List.set_cons_succ]
          refine wpAnyN_takeD (some 61) (by rfl) (i := 13) (oi := _) (v := ?_) rfl (by kernel_rfl) (by kernel_rfl) (by kernel_rfl) (by kernel_rfl) (fun _ _ _ h => h) (Or.inl ⟨by rfl, ?_⟩) (by assumption) ?_
          rotate_left
          · intro w hSw; (try dsimp only at hSw); go_simp
            first | done | with_reducible rfl
          try simp only [Act.put, List.setIfInBounds_toArray, List.set_cons_zero, List.set_cons_succ]
          refine wpAnyN_takeD (some 62) (by rfl) (i := 14) (oi := _) (v := ?_) rfl (by kernel_rfl) (by kernel_rfl) (by kernel_rfl) (by kernel_rfl) (fun _ _ _ h => h) (Or.inl ⟨by rfl, ?_⟩) (by assumption) ?_
          rotate_left
          · intro w hSw; (try dsimp only at hSw); go_simp
            first | done | with_reducible rfl
          try simp only [Act.put, List.setIfInBounds_toArray, List.set_cons_zero, List.set_cons_succ]
          refine wpAnyN_takeD (some 63) (by rfl) (i := 15) (oi := _) (v := ?_) rfl (by kernel_rfl) (by kernel_rfl) (by kernel_rfl) (by kernel_rfl) (fun _ _ _ h => h) (Or.inl ⟨by rfl, ?_⟩) (by assumption) ?_
          rotate_left
          · intro w hSw; (try dsimp only at hSw); go_simp
            first | done | with_reducible rfl
          try simp only [Act.put, List.setIfInBounds_toArray, List.set_cons_zero, List.set_cons_succ]
          refine wpAnyN_takeD (some 64) (by rfl) (i := 16) (oi := _) (v := ?_) rfl (by kernel_rfl) (by kernel_rfl) (by kernel_rfl) (by kernel_rfl) (fun _ _ _ h => h) (Or.inl ⟨by rfl, ?_⟩) (by assumption) ?_
          rotate_left
          · intro w hSw; (try dsimp only at hSw); go_simp
            first | done | with_reducible rfl
          try simp only [Act.put, List.setIfInBounds_toArray, List.set_cons_zero, List.set_cons_succ]
          refine wpAnyN_takeD (some 65) (by rfl) (i := 17) (oi := _) (v := ?_) rfl (by kernel_rfl) (by kernel_rfl) (by kernel_rfl) (by kernel_rfl) (fun _ _ _ h => h) (Or.inl ⟨by rfl, ?_⟩) (by assumption) ?_
          rotate_left
          · intro w hSw; (try dsimp only at hSw); go_simp
            first | done | with_reducible rfl
          try simp only [Act.put, List.setIfInBounds_toArray, List.set_cons_zero, List.set_cons_succ]
          refine wpAnyN_takeD (some 66) (by rfl) (i := 18) (oi := _) (v := ?_) rfl (by kernel_rfl) (by kernel_rfl) (by kernel_rfl) (by kernel_rfl) (fun _ _ _ h => h) (Or.inl ⟨by rfl, ?_⟩) (by assumption) ?_
          rotate_left
          · intro w hSw; (try dsimp only at hSw); go_simp
            first | done | with_reducible rfl
          try simp only [Act.put, List.setIfInBounds_toArray, List.set_cons_zero, List.set_cons_succ]
          refine wpAnyN_takeD (some 67) (by rfl) (i := 19) (oi := _) (v := ?_) rfl (by kernel_rfl) (by kernel_rfl) (by kernel_rfl) (by kernel_rfl) (fun _ _ _ h => h) (Or.inl ⟨by rfl, ?_⟩) (by assumption) ?_
          rotate_left
          · intro w hSw; (try dsimp only at hSw); go_simp
            first | done | with_reducible rfl
          try simp only [Act.put, List.setIfInBounds_toArray, List.set_cons_zero, List.set_cons_succ]
          refine wpAnyN_takeD (some 68) (by rfl) (i := 20) (oi := _) (v := ?_) rfl (by kernel_rfl) (by kernel_rfl) (by kernel_rfl) (by kernel_rfl) (fun _ _ _ h => h) (Or.inl ⟨by rfl, ?_⟩) (by assumption) ?_
          rotate_left
          · intro w hSw; (try dsimp only at hSw); go_simp
            first | done | with_reducible rfl
          try simp only [Act.put, List.setIfInBounds_toArray, List.set_cons_zero, List.set_cons_succ]
          refine wpAnyN_takeD (some 69) (by rfl) (i := 21) (oi := _) (v := ?_) rfl (by kernel_rfl) (by kernel_rfl) (by kernel_rfl) (by kernel_rfl) (fun _ _ _ h => h) (Or.inl ⟨by rfl, ?_⟩) (by assumption) ?_
          rotate_left
          · intro w hSw; (try dsimp only at hSw); go_simp
            first | done | with_reducible rfl
          try simp only [Act.put, List.setIfInBounds_toArray, List.set_cons_zero, List.set_cons_succ]
          refine wpAnyN_takeD (some 70) (by rfl) (i := 22) (oi := _) (v := ?_) rfl (by kernel_rfl) (by kernel_rfl) (by kernel_rfl) (by kernel_rfl) (fun _ _ _ h => h) (Or.inl ⟨by rfl, ?_⟩) (by assumption) ?_
          rotate_left
          · intro w hSw; (try dsimp only at hSw); go_simp
            first | done | with_reducible rfl
          try simp only [Act.put, List.setIfInBounds_toArray, List.set_cons_zero, List.set_cons_succ]
          refine wpAnyN_takeD (some 71) (by rfl) (i := 23) (oi := _) (v := ?_) rfl (by kernel_rfl) (by kernel_rfl) (by kernel_rfl) (by kernel_rfl) (fun _ _ _ h => h) (Or.inl ⟨by rfl, ?_⟩) (by assumption) ?_
          rotate_left
          · intro w hSw; (try dsimp only at hSw); go_simp
            first | done | with_reducible rfl
          try simp only [Act.put, List.setIfInBounds_toArray, List.set_cons_zero, List.set_cons_succ]
          refine wpAnyN_ready (rs := [24]) (by kernel_rfl) (by simp) ?_
          refine AllReadyN.held rfl (by rfl) (fun K hK => ?_) AllReadyN.nil
          go_simp
          ((with_reducible refine (qplain_calls _ _ e.key 1 (HEY.out _ (Later.refl _)) (by omega)).mono ?_); rintro e' w124 ⟨v124, rfl, o124, b124⟩)
          obtain ⟨s124, P124, q124, e124, P124', q124', e124', rfl, o124⟩ := o124.open_; have O124 := hide o124; clear o124
          have l24 : Later W4.drew w124 := Later.trans (Later.refl _) b124
          refine hK.out _ _ ?_ (fun hHeld => ?_)
          · exact HT1.out _ l24
          clear hK K
          try simp only [Act.put, List.setIfInBounds_toArray, List.set_cons_zero, List.set_cons_succ]
          refine wpAnyN_ready (rs := [25]) (by kernel_rfl) (by simp) ?_
          refine AllReadyN.held rfl (by rfl) (fun K hK => ?_) AllReadyN.nil
          go_simp
          ((with_reducible refine (qsame_calls _ _ _ e.key e.key 0 _ 100 100 (HE.out _ l24) O124.out HSZ.out HSZ.out (by omega) (by omega) true (by simp)).mono ?_); rintro e' w125 ⟨rfl, b125⟩)
          have l25 : Later W4.drew w125 := Later.trans l24 b125
          refine hK.out _ _ ?_ (fun hHeld => ?_)
          · exact HT1.out _ l25
          clear hK K
          try simp only [Act.put, List.setIfInBounds_toArray, List.set_cons_zero, List.set_cons_succ]
          refine wpAnyN_takeD (some 74) (by rfl) (i := 26) (oi := _) (v := ?_) rfl (by kernel_rfl) (by kernel_rfl) (by kernel_rfl) (by kernel_rfl) (fun _ _ _ h => h) (Or.inl ⟨by rfl, ?_⟩) (by assumption) ?_
          rotate_left
          · intro w hSw; (try dsimp only at hSw); go_simp
            first | done | with_reducible rfl
          try simp only [Act.put, List.setIfInBounds_toArray, List.set_cons_zero, List.set_cons_succ]
          refine wpAnyN_takeD (some 75) (by rfl) (i := 27) (oi := _) (v := ?_) rfl (by kernel_rfl) (by kernel_rfl) (by kernel_rfl) (by kernel_rfl) (fun _ _ _ h => h) (Or.inl ⟨by rfl, ?_⟩) (by assumption) ?_
          rotate_left
          · intro w hSw; (try dsimp only at hSw); go_simp
            first | done | with_reducible rfl
          try simp only [Act.put, List.setIfInBounds_toArray, List.set_cons_zero, List.set_cons_succ]
          refine wpAnyN_done (by kernel_rfl) ?_ _
          have HI5 := hide (HI4.out.later (hd.trans l25))
          have HB5 := hide (HB4.out.later (hd.trans l25))
          have HR5 := hide (HR4.out.later (hd.trans l25))
          clear hHeld
          have c5 := HR5.out.cell (i := a) (tkV_at (tk := tk) (by have := HP.out.tkl; omega))
          have c5f := HR5.out.frozen a
          go_upto_region 21 with fail
          obtain ⟨w6, hw6⟩ : ∃ w6, w6 = w125.setCell ⟨g5, a, none⟩ (.bool true) := ⟨_, rfl⟩
          have oo : Only g5 w125 w6 := by rw [hw6]; exact Only.one g5 _ a _
          have HI6 := hide (HI5.out.only oo HNS1.out HG5.out)
          have HB6 := hide (HB5.out.only oo (fun h => h.2 rfl))
          have HR6 : Hid (Row w6 g5 4 (tkV (tk.set a true))) := hide (by rw [hw6, ← tkV_set]; exact HR5.out.set_ a _)
          rw [← hw6]
          have hgs : g5 < w125.heap.size := HR5.out.lt
          have HNS6 : Hid (¬ ((fun x => S1 x ∧ x < w125.heap.size) g5)) := hide (fun h => HNS1.out h.1)
          have hj1' : (j : Int) + 1 ≤ na := by omega
          clear hw6 oo c5 c5f hgs
          rcases HLAST.out with rfl | ⟨p, kp, rfl, hp, hle⟩
          · go_wp2_with fail
            exact ⟨⟨j + 1, (a : Int), tk.set a true, _, _, _, by omega, rfl, by go_num, HI6, HP1, HB6.out.mono (fun b hb _ => hb), HR6, HNS6⟩, by simp [intOf]; omega⟩
          · have hpn : p < na := by rw [HNA.out]; exact (List.getElem?_eq_some_iff.1 hp).1
            have hp0 : (0 : Int) ≤ (p : Int) := by omega
            have hp1 : (p : Int) < na := by omega
            have t5 : decide ((0 : Int) ≤ (p : Int)) = true := by simp
            have HPP := hide hp
            obtain ⟨cz, hcz⟩ : ∃ cz, cmpQ kp e.key = cz := ⟨_, rfl⟩
            have hcc : cz ≤ 0 ∧ (cz = 0 → (p : Int) < (a : Int)) := cmp_last hcz hle
            have HCZ := hide hcz; have HCC := hide hcc
            clear hcz hcc hle hp
            go_upto_region 22 with fail
            have hd6 : Later w6 w6.drew := (Later.refl w6).drew
            obtain ⟨b3, off3, sx3, X3, nx3, cx3, sx3', X3', nx3', cx3', hA, y1, y2, y3, y4, ey⟩ := (HB6.out.later hd6).now.at_ HPP.out
            injection hA with hA; injection hA with hA1 hA2; subst hA1 hA2
            obtain ⟨b4, off4, sx4, X4, nx4, cx4, sx4', X4', nx4', cx4', hA, z1, z2, z3, z4, ez⟩ := (HB6.out.later hd6).now.at_ HKA.out
            injection hA with hA; injection hA with hA1 hA2; subst hA1 hA2
            have EY : Hid (RawR w6.drew (.agg #[.bool sx3, .slice X3 nx3 cx3, .bool sx3', .slice X3' nx3' cx3']) kp 1) := hide ey
            have EZ : Hid (RawR w6.drew (.agg #[.bool sx4, .slice X4 nx4 cx4, .bool sx4', .slice X4' nx4' cx4']) e.key 1) := hide ez
            have HT2 : Hid (∀ w', Later w6.drew w' → w'.cell? ⟨b1, off1 + p * 4, none⟩ = some (.bool sx3) ∧ w'.cell? ⟨b1, off1 + p * 4 + 1, none⟩ = some (.slice X3 nx3 cx3) ∧ w'.cell? ⟨b1, off1 + p * 4 + 2, none⟩ = some (.bool sx3') ∧ w'.cell? ⟨b1, off1 + p * 4 + 3, none⟩ = some (.slice X3' nx3' cx3') ∧ w'.cell? ⟨b1, off1 + a * 4, none⟩ = some (.bool sx4) ∧ w'.cell? ⟨b1, off1 + a * 4 + 1, none⟩ = some (.slice X4 nx4 cx4) ∧ w'.cell? ⟨b1, off1 + a * 4 + 2, none⟩ = some (.bool sx4') ∧ w'.cell? ⟨b1, off1 + a * 4 + 3, none⟩ = some (.slice X4' nx4' cx4')) := hide fun w' hb => ⟨Later.cell hb y1, Later.cell hb y2, Later.cell hb y3, Later.cell hb y4, Later.cell hb z1, Later.cell hb z2, Later.cell hb z3, Later.cell hb z4⟩
            have HD6 := hide hd6
            clear ey ez y1 y2 y3 y4 z1 z2 z3 z4 hd6
            go_region_held3 (fun w' => w'.cell? ⟨b1, off1 + p * 4, none⟩ = some (.bool sx3) ∧ w'.cell? ⟨b1, off1 + p * 4 + 1, none⟩ = some (.slice X3 nx3 cx3) ∧ w'.cell? ⟨b1, off1 + p * 4 + 2, none⟩ = some (.bool sx3') ∧ w'.cell? ⟨b1, off1 + p * 4 + 3, none⟩ = some (.slice X3' nx3' cx3') ∧ w'.cell? ⟨b1, off1 + a * 4, none⟩ = some (.bool sx4) ∧ w'.cell? ⟨b1, off1 + a * 4 + 1, none⟩ = some (.slice X4 nx4 cx4) ∧ w'.cell? ⟨b1, off1 + a * 4 + 2, none⟩ = some (.bool sx4') ∧ w'.cell? ⟨b1, off1 + a * 4 + 3, none⟩ = some (.slice X4' nx4' cx4'))
              (first | exact HT2.out _ (Later.refl _) | exact HT2.out _ b7)
              (first
                | ((with_reducible refine (qcmp_calls _ _ _ kp e.key 1 1 EY.out EZ.out (by omega)).mono ?_); rintro e' w7 ⟨rfl, b7⟩; rw [HCZ.out]))
            all_goals
              have HI7 := hide (HI6.out.later (HD6.out.trans b7))
              have HB7 := hide (HB6.out.later (HD6.out.trans b7))
              have HR7 := hide (HR6.out.later (HD6.out.trans b7))
              clear b7
            all_goals
              have t6 : decide (0 < cz) = false := by have := HCC.out.1; simp; omega
              by_cases hc0 : cz = 0
              · subst hc0
                have t7 : decide ((a : Int) < (p : Int)) = false := by have := HCC.out.2 rfl; simp; omega
                have t7n : decide (a < p) = false := by have := HCC.out.2 rfl; simp; omega
                go_wp2_with fail
                exact ⟨⟨j + 1, (a : Int), tk.set a true, _, _, _, by omega, rfl, by go_num, HI7, HP1, HB7.out.mono (fun b hb _ => hb), HR7, HNS6⟩, by simp [intOf]; omega⟩
              · have t7 : (cz == 0) = false := by simp [hc0]
                go_wp2_with fail
                exact ⟨⟨j + 1, (a : Int), tk.set a true, _, _, _, by omega, rfl, by go_num, HI7, HP1, HB7.out.mono (fun b hb _ => hb), HR7, HNS6⟩, by simp [intOf]; omega⟩

        · obtain rfl : na = j := by omega
          have hl0 : l = [] := List.eq_nil_of_length_eq_zero (by have := HP.out.len; omega)
          have HL0 := hide hl0
          clear hl0
          go_wp2_with fail
          ((with_reducible refine (qlen_calls _ _ _ w1.heap.size na l HI.out.1).mono ?_); rintro e' w7 ⟨rfl, b7⟩)
          have hv : ((l.length : Nat) : Int) = 0 := by rw [HL0.out]; rfl
          rw [hv]
          have HE := hide (HI.out.late.trans b7)
          clear hv b7
          go_wp2_with fail
          go_ret
          exact ⟨rfl, HL1.out.trans HE.out⟩
end Go.Proofs.Ytbhohnhkephefaa
